import Derived.Test.YtalbfdhdbgcikaaGreatDoorFnFairHas
import Derived.Test.YtalbfdhdbgcikaaGreatDoorLayI
import Derived.Test.YtalbfdhdbgcikaaGreatDoorLayA
import Derived.Shelf.Strconv.Itoa3
import Derived.Shelf.Strconv.ErrVarAll
import Derived.Lib.AtoiErrMem
import Derived.Lib.AtoiOr
import Derived.BigCall
import Derived.Lib.LaidTab
import Derived.WalkKit
set_option linter.unusedSimpArgs false
set_option linter.unusedVariables false
namespace Go.Proofs.Wb
open Go Go.Am Go.RowKit Go.Proofs Go.Shelf
theorem decD : ∀ (k u : Nat), u < 10 ^ k → 1 ≤ k → Lib.decDigits u = numF k u
  | 0, _, _, h => absurd h (by omega)
  | k + 1, u, hu, _ => by
    rw [Lib.decDigits]
    simp only [numF]
    by_cases h : u < 10
    · rw [dif_pos h, if_pos h]
    · rw [dif_neg h, if_neg h, decD k (u / 10) (by rw [Nat.pow_succ] at hu; omega) (by
        rcases Nat.eq_zero_or_pos k with rfl | h1
        · simp at hu; omega
        · exact h1)]
theorem itoa_dgt (u : Nat) (hu : u < 10 ^ 18) : Lib.itoa (u : Int) = dgt u := by
  rw [Lib.itoa_nonneg, decD 18 u hu (by omega), dgt, numF_eq 18 20 u hu (by omega) (by omega)]
theorem kept_below {F : List Nat} {w w' : Go.World} (hB : Below w.heap.size w w') : Kept F w w' := by
  refine ⟨hB.os, hB.tape, hB.output, hB.size, fun b hb _ => hB.block b hb, fun b arr el fr h => ?_⟩
  have hb : b < w.heap.size := (Array.getElem?_eq_some_iff.1 h).1
  exact ⟨arr, fr, by rw [hB.block b hb]; exact h, rfl⟩
theorem grow_below (w : Go.World) (k : Nat) (os : Array Obj) : Below w.heap.size w (Sort.grow (w.drewN k) os) := by
  have hh : (w.drewN k).heap = w.heap := by simp
  refine ⟨rfl, rfl, rfl, ?_, fun b hb => ?_⟩
  · simp only [Sort.grow, Array.size_append, hh]; omega
  · simp only [Sort.grow, hh]
    rw [Array.getElem?_append_left hb]
theorem tab_pow {w : Go.World} {S : Nat → Prop} (hT : Inv w S) : Lib.TabIs Tryz.prog w "internal/strconv.uint64pow10" .u64 Lib.pow10Tab := by
  obtain ⟨_, arr, el, fr, h1, h2⟩ := hT _ (List.Mem.head _)
  have h3 : arr.toList = Lib.pow10Tab.map fun z => Value.int .u64 z := h2
  have h4 : arr = (Lib.pow10Tab.map fun z => Value.int .u64 z).toArray := by rw [← h3]
  unfold Lib.TabIs World.var?
  rw [show Tryz.prog.globalNamed "internal/strconv.uint64pow10" = some 0 by kernel_rfl]
  simp only [Option.bind_some]
  rw [show w.heap[0]? = some (.cells arr el fr) from h1, h4]
theorem itoaH : ItoaH := by
  intro u hu w S0 F vs hsz hrep hnd hF hS0 hT
  have hrep0 := hrep
  simp only [RepRow, Rep] at hrep
  obtain ⟨y, F1, F2, c1, ⟨rfl, rfl⟩, rfl, rfl⟩ := hrep
  have hvs : vs = #[.int .i64 u] := by
    apply Array.ext
    · simpa using hsz
    · intro i h1 h2
      simp at h2
      subst h2
      rw [Array.getElem?_eq_getElem h1] at c1; simpa using c1
  subst hvs
  have hw : (10 : Nat) ^ 18 = 1000000000000000000 := by decide
  refine (Any.strconv_Itoa Tryz.laysItoa (u : Int) (by omega) (by omega) w (tab_pow hT)).mono ?_
  rintro e w' ⟨rfl, k, os, rfl⟩
  have hB := grow_below w k os
  rw [itoa_dgt u hu]
  refine ⟨_, sD (dgt u), [i64 u], S0, [], [], rfl, rfl, rfl, ?_, ?_, by simp, by simp, fun b hb => ⟨Nat.lt_of_lt_of_le (hS0 b hb) hB.size, .inl hb⟩, fun b h => h, kept_below hB⟩
  · simp only [Rep]; exact ⟨trivial, trivial⟩
  · exact repRow_frame _ hrep0 fun b hb => hB.block b (hb.elim (fun h => (hF b h).2) (hS0 b))
theorem acall_v {f : Nat} {ts : List T} {x : Value} (h : ACall Tryz.prog f ts (fun r _ => r = .v x)) {w : Go.World} {vs : Array Value} (hv : vs.size = ts.length) (hr : RepRow (fun b => b < w.heap.size) w noH (fun i => vs[i]?) 0 ts []) (hT : Inv w fun b => b < w.heap.size) :
    Calls Tryz.prog f vs w fun e w' => e = .returned x ∧ Below w.heap.size w w' := by
  refine (h w (fun b => b < w.heap.size) [] vs hv hr List.nodup_nil (by simp) (fun _ h => h) hT).mono ?_
  rintro e w' ⟨rv, r, l, S', Fr, Fa, rfl, rfl, _, hb⟩
  have := hb.res
  simp only [Rep] at this
  exact ⟨by rw [this.1], below_of_kept hb.kept⟩
theorem atoi_dgt : ∀ u, u < 200 → Lib.atoiAll (dgt (u + 1)) = .ok ((u + 1 : Nat) : Int) := by decide +kernel
theorem rdT_not {s : List UInt8} (h : ∀ v : Int, Lib.atoiAll s = .ok v → ¬ (1 ≤ v ∧ v ≤ 200 ∧ dgt v.toNat = s)) : rdT s = none := by
  cases hr : rdT s with
  | none => rfl
  | some t =>
    obtain ⟨h1, h2, h3⟩ := rdT_some.1 hr
    obtain ⟨k, rfl⟩ : ∃ k, t = k + 1 := ⟨t - 1, by omega⟩
    have := atoi_dgt k (by omega)
    rw [← h3] at this
    exact absurd ⟨by omega, by omega, by rw [Int.toNat_natCast]; exact h3.symm⟩ (h _ this)
def rdV : Option Nat → Value
  | some t => .tuple #[.int .i64 t, .bool true]
  | none => .tuple #[.int .i64 0, .bool false]
theorem var_syn {w : Go.World} {S : Nat → Prop} (hT : Inv w S) : ∃ tp p, w.var? Tryz.prog "strconv.ErrSyntax" = some #[.iface tp p] := by
  obtain ⟨_, arr, el, fr, h1, tp, p, h2⟩ := hT _ (List.Mem.tail _ (List.Mem.head _))
  refine ⟨tp, p, ?_⟩
  have h4 : arr = #[.iface tp p] := by rw [← Array.toList_inj, h2]
  unfold World.var?
  rw [show Tryz.prog.globalNamed "strconv.ErrSyntax" = some 1 by kernel_rfl]
  simp only [Option.bind_some]
  rw [show w.heap[1]? = some (.cells arr el fr) from h1, h4]
theorem var_rng {w : Go.World} {S : Nat → Prop} (hT : Inv w S) : ∃ tp p, w.var? Tryz.prog "strconv.ErrRange" = some #[.iface tp p] := by
  obtain ⟨_, arr, el, fr, h1, tp, p, h2⟩ := hT _ (List.Mem.tail _ (List.Mem.tail _ (List.Mem.head _)))
  refine ⟨tp, p, ?_⟩
  have h4 : arr = #[.iface tp p] := by rw [← Array.toList_inj, h2]
  unfold World.var?
  rw [show Tryz.prog.globalNamed "strconv.ErrRange" = some 2 by kernel_rfl]
  simp only [Option.bind_some]
  rw [show w.heap[2]? = some (.cells arr el fr) from h1, h4]
theorem inv_below {w w' : Go.World} (h : Inv w fun b => b < w.heap.size) (hB : Below w.heap.size w w') : Inv w' fun b => b < w'.heap.size :=
  h.mono (fun b hb => Nat.lt_of_lt_of_le hb hB.size) (fun b hb => hB.block b hb)
theorem within_k (w : Go.World) (hT : Inv w fun b => b < w.heap.size) (n : Int) : Calls Tryz.prog 80 #[.int .i64 n, .int .i64 1, .int .i64 200] w fun e w' => e = .returned (.bool (rng n 1 200)) ∧ Below w.heap.size w w' :=
  acall_v (within_ok n 1 200) rfl (by simp only [RepRow, Rep]; exact ⟨_, [], [], rfl, ⟨rfl, rfl⟩, ⟨_, [], [], rfl, ⟨rfl, rfl⟩, ⟨_, [], [], rfl, ⟨rfl, rfl⟩, rfl, rfl⟩, rfl⟩, rfl⟩) hT
theorem itoa_k (w : Go.World) (hT : Inv w fun b => b < w.heap.size) (u : Nat) (hu : u < 10 ^ 18) : Calls Tryz.prog 44 #[.int .i64 u] w fun e w' => e = .returned (.string ⟨⟨dgt u⟩⟩) ∧ Below w.heap.size w w' :=
  acall_v (itoaH u hu) rfl (by simp only [RepRow, Rep]; exact ⟨_, [], [], rfl, ⟨rfl, rfl⟩, rfl, rfl⟩) hT
set_option maxRecDepth 100000 in
set_option maxHeartbeats 4000000 in
theorem readInt_k (s : List UInt8) (hs : s.length ≤ 100) (w : Go.World) (hT : Inv w fun b => b < w.heap.size) :
    Calls Tryz.prog 61 #[.string ⟨⟨s⟩⟩, .int .i64 1, .int .i64 200] w fun e w' => e = .returned (rdV (rdT s)) ∧ Below w.heap.size w w' := by
  have hsz : (⟨⟨s⟩⟩ : ByteArray).size = s.length := rfl
  rcases h : Lib.atoiAll s with v | _ | _
  · have hat : Calls Tryz.prog 113 #[.string ⟨⟨s⟩⟩] w fun e w' => e = .returned (.tuple #[.int .i64 v, .nilIface]) ∧ Below w.heap.size w w' := by
      refine (Any.strconv_Atoi_ok Tryz.laysAtoi ⟨⟨s⟩⟩ (by rw [hsz]; omega) v h w).mono ?_
      rintro e w' ⟨rfl, rfl | ⟨t, rfl⟩⟩
      · exact ⟨rfl, Below.refl _ _⟩
      · exact ⟨rfl, Lib.bytesWorld_below _ _ _⟩
    cases hr : rng v 1 200 with
    | false =>
      have hn := rng_no.1 hr
      rw [rdT_not (fun u hu => by rw [h] at hu; cases hu; exact fun q => hn ⟨q.1, q.2.1⟩)]
      go_enter Tryz.func61, Tryz.ntmps61
      go_wp2_with (go_at_call 113; refine hat.mono ?_; rintro e W1 ⟨rfl, hb⟩)
      go_wp2_with (go_at_call 80; refine (within_k W1 (inv_below hT hb) v).mono ?_; rintro e W2 ⟨rfl, hb2⟩; rw [hr])
      go_ret2
      exact ⟨rfl, hb.trans (hb2.mono hb.size)⟩
    | true =>
      have hn := rng_iff.1 hr
      have q9 : (10 : Nat) ^ 18 = 1000000000000000000 := by decide
      obtain ⟨u, rfl⟩ : ∃ u : Nat, v = u := ⟨v.toNat, by omega⟩
      by_cases hd : dgt u = s
      · have e : rdT s = some u := rdT_some.2 ⟨by omega, by omega, hd.symm⟩
        rw [e]
        go_enter Tryz.func61, Tryz.ntmps61
        go_wp2_with (go_at_call 113; refine hat.mono ?_; rintro e W1 ⟨rfl, hb⟩)
        go_wp2_with (go_at_call 80; refine (within_k W1 (inv_below hT hb) u).mono ?_; rintro e W2 ⟨rfl, hb2⟩; rw [hr])
        go_wp2_with (go_at_call 44; refine (itoa_k W2 (inv_below (inv_below hT hb) hb2) u (by omega)).mono ?_; rintro e W3 ⟨rfl, hb3⟩; rw [hd])
        go_ret2
        exact ⟨rfl, (hb.trans (hb2.mono hb.size)).trans (hb3.mono (Nat.le_trans hb.size hb2.size))⟩
      · have hne : ¬ ((⟨⟨dgt u⟩⟩ : ByteArray) = ⟨⟨s⟩⟩) := fun e => hd (by injection e with e; injection e)
        rw [rdT_not (fun x hx => by rw [h] at hx; cases hx; rw [Int.toNat_natCast]; exact fun q => hd q.2.2)]
        go_enter Tryz.func61, Tryz.ntmps61
        go_wp2_with (go_at_call 113; refine hat.mono ?_; rintro e W1 ⟨rfl, hb⟩)
        go_wp2_with (go_at_call 80; refine (within_k W1 (inv_below hT hb) u).mono ?_; rintro e W2 ⟨rfl, hb2⟩; rw [hr])
        go_wp2_with (go_at_call 44; refine (itoa_k W2 (inv_below (inv_below hT hb) hb2) u (by omega)).mono ?_; rintro e W3 ⟨rfl, hb3⟩)
        all_goals first | (exfalso; simp_all; done) | (go_ret2; exact ⟨rfl, (hb.trans (hb2.mono hb.size)).trans (hb3.mono (Nat.le_trans hb.size hb2.size))⟩)
  · obtain ⟨tp, p, hvar⟩ := var_syn hT
    rw [rdT_not (fun v hv => by rw [h] at hv; cases hv)]
    have hat : Calls Tryz.prog 113 #[.string ⟨⟨s⟩⟩] w fun e w' => ∃ x tq q, e = .returned (.tuple #[.int .i64 x, .iface tq q]) ∧ Below w.heap.size w w' :=
      (Any.strconv_Atoi_syntax_var Tryz.laysAtoi ⟨⟨s⟩⟩ (by rw [hsz]; omega) h tp p w hvar).mono fun e w' ⟨N, he, _, _, hb⟩ => ⟨_, _, _, he, hb⟩
    go_enter Tryz.func61, Tryz.ntmps61
    go_wp2_with (go_at_call 113; refine hat.mono ?_; rintro e W1 ⟨x, tq, q, rfl, hb⟩)
    go_ret2
    exact ⟨rfl, hb⟩
  · obtain ⟨tp, p, hvar⟩ := var_rng hT
    rw [rdT_not (fun v hv => by rw [h] at hv; cases hv)]
    have hat : Calls Tryz.prog 113 #[.string ⟨⟨s⟩⟩] w fun e w' => ∃ x tq q, e = .returned (.tuple #[.int .i64 x, .iface tq q]) ∧ Below w.heap.size w w' :=
      (Any.strconv_Atoi_range_var Tryz.laysAtoi ⟨⟨s⟩⟩ (by rw [hsz]; omega) h tp p w hvar).mono fun e w' ⟨N, he, _, _, hb⟩ => ⟨_, _, _, he, hb⟩
    go_enter Tryz.func61, Tryz.ntmps61
    go_wp2_with (go_at_call 113; refine hat.mono ?_; rintro e W1 ⟨x, tq, q, rfl, hb⟩)
    go_ret2
    exact ⟨rfl, hb⟩
theorem readIntH : ReadIntH := by
  intro s hs w S0 F vs hsz hrep hnd hF hS0 hT
  have hrep0 := hrep
  simp only [RepRow, Rep] at hrep
  obtain ⟨y, F1, F2, c1, ⟨rfl, rfl⟩, ⟨y2, F3, F4, c2, ⟨rfl, rfl⟩, ⟨y3, F5, F6, c3, ⟨rfl, rfl⟩, rfl, rfl⟩, rfl⟩, rfl⟩ := hrep
  have hvs : vs = #[.string ⟨⟨s⟩⟩, .int .i64 1, .int .i64 200] := by
    apply Array.ext
    · simpa using hsz
    · intro i h1 h2
      simp at h2
      rcases Nat.lt_or_ge i 1 with h | h
      · obtain rfl : i = 0 := by omega
        rw [Array.getElem?_eq_getElem h1] at c1; simpa using c1
      · rcases Nat.lt_or_ge i 2 with h | h
        · obtain rfl : i = 1 := by omega
          have c : vs[1]? = some (.int .i64 1) := c2
          rw [Array.getElem?_eq_getElem h1] at c; simpa using c
        · obtain rfl : i = 2 := by omega
          have c : vs[2]? = some (.int .i64 200) := c3
          rw [Array.getElem?_eq_getElem h1] at c; simpa using c
  subst hvs
  refine (readInt_k s hs w (hT.mono (fun b hb => hS0 b hb) fun _ _ => rfl)).mono ?_
  rintro e w' ⟨rfl, hB⟩
  refine ⟨_, rdR (rdT s), [sD s, i64 1, i64 200], S0, [], [], rfl, rfl, rfl, ?_, ?_, by simp, by simp, fun b hb => ⟨Nat.lt_of_lt_of_le (hS0 b hb) hB.size, .inl hb⟩, fun b h => h, kept_below hB⟩
  · cases rdT s <;> (simp only [Rep, RepRow, rdR, rdV]; exact ⟨_, rfl, rfl, _, [], [], rfl, ⟨rfl, rfl⟩, ⟨_, [], [], rfl, ⟨rfl, rfl⟩, rfl, rfl⟩, rfl⟩)
  · exact repRow_frame _ hrep0 fun b hb => hB.block b (hb.elim (fun h => (hF b h).2) (hS0 b))
end Go.Proofs.Wb

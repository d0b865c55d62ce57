import Derived.Test.YtmfcoocjebmjeaaFnExactCountOrdersHas
import Derived.Maps.RangeWalk
import Derived.Maps.OwnOps
import Derived.Maps.OwnSet
import Derived.WalkKit
import Derived.BigCall
set_option linter.unusedVariables false
set_option linter.unusedSimpArgs false
namespace Go.Proofs.Wb
open Go Go.Am Go.RowKit Go.Proofs
abbrev Dm := DataW Unit
abbrev ky (s : Nat) : Lit := .int .i64 (s : Int)
def vD (D : Dm) (s : Nat) : Int := match D.atKey (ky s) (.lit (.int .i64 0)) with
  | .lit (.int _ c) => c
  | _ => 0
theorem vD_of {D : Dm} {s : Nat} {c : Int} (h : D.atKey (ky s) (.lit (.int .i64 0)) = .lit (.int .i64 c)) : vD D s = c := by
  unfold vD; rw [h]
theorem ky_lit (s : Nat) : WideAt.IsKeyLit (ky s) := trivial
theorem ky_inj {s t : Nat} (h : ky s = ky t) : s = t := by
  injection h with _ h; omega
theorem vD_put {D : Dm} (hD : Maps.IsMap D) (s t : Nat) (c : Int) : vD (D.put (ky s) (.lit (.int .i64 c))) t = if t = s then c else vD D t := by
  split
  · rename_i e; subst e
    exact vD_of (Maps.atKey_put_same hD (ky_lit _) _ _)
  · rename_i e
    unfold vD
    rw [Maps.atKey_put_other fun h => e (ky_inj h)]
theorem vD_none {D : Dm} {s : Nat} (h : Maps.has D (ky s) = false) : vD D s = 0 := vD_of (Maps.atKey_of_not_has h _)
def fS (D : Dm) (g : Nat → Int) : Int := sumN (fun s => vD D s * g s) 1024
def wS (D : Dm) (left : Lit → Bool) (g : Nat → Int) : Int := sumN (fun s => if left (ky s) then vD D s * g s else 0) 1024
theorem sumN_one {f g : Nat → Int} {k : Nat} {d : Int} (hk : f k = g k + d) (h : ∀ i, i ≠ k → f i = g i) : ∀ n, k < n → sumN f n = sumN g n + d
  | 0, hn => absurd hn (by omega)
  | n + 1, hn => by
    rw [sumN, sumN]
    by_cases e : k = n
    · subst e
      rw [sumN_congr fun i hi => h i (by omega), hk]; omega
    · rw [sumN_one hk h n (by omega), h n (fun q => e q.symm)]; omega
theorem sumN_zero {f : Nat → Int} : ∀ n, (∀ i, i < n → f i = 0) → sumN f n = 0
  | 0, _ => rfl
  | n + 1, h => by rw [sumN, sumN_zero n fun i hi => h i (by omega), h n (by omega)]; rfl
theorem fS_put {D : Dm} (hD : Maps.IsMap D) {s : Nat} (hs : s < 1024) (c : Int) (g : Nat → Int) : fS (D.put (ky s) (.lit (.int .i64 c))) g = fS D g + (c - vD D s) * g s := by
  refine sumN_one (k := s) ?_ (fun i hi => ?_) 1024 hs
  · show vD (D.put (ky s) (.lit (.int .i64 c))) s * g s = vD D s * g s + (c - vD D s) * g s
    rw [vD_put hD, if_pos rfl, Int.sub_mul]; omega
  · show vD (D.put (ky s) (.lit (.int .i64 c))) i * g i = vD D i * g i
    rw [vD_put hD, if_neg hi]
theorem fS_empty (g : Nat → Int) : fS (.map []) g = 0 := sumN_zero _ fun i _ => by rw [vD_none rfl]; omega
theorem wS_has {D : Dm} (g : Nat → Int) : wS D (Maps.has D) g = fS D g := sumN_congr fun i _ => by
  split
  · rfl
  · rename_i h; rw [vD_none (Bool.eq_false_iff.2 h)]; omega
theorem wS_none {D : Dm} {left : Lit → Bool} (h : ∀ kl, left kl = false) (g : Nat → Int) : wS D left g = 0 := sumN_zero _ fun i _ => by rw [h]; rfl
theorem wS_step {D : Dm} {left : Lit → Bool} {s : Nat} (hs : s < 1024) (h : left (ky s) = true) (g : Nat → Int) : wS D left g = wS D (fun z => left z && !z.sameKey (ky s)) g + vD D s * g s := by
  refine sumN_one (k := s) ?_ (fun i hi => ?_) 1024 hs
  · simp [h, WideAt.sameKey_self (ky_lit s)]
  · simp [Maps.sameKey_ne fun q => hi (ky_inj q)]
def M64 : Int := 18446744073709551616
def cong (a b : Int) : Prop := ∃ q : Int, a = b + q * M64
theorem wrap_cong (n : Int) : ∃ q : Int, wrap64 n = n + q * M64 := ⟨-((n + 9223372036854775808) / 18446744073709551616), by
  unfold wrap64 M64
  have := Int.emod_add_mul_ediv (n + 9223372036854775808) 18446744073709551616
  omega⟩
theorem cong_eq {a b : Int} (h : cong a b) (ha : -9223372036854775808 ≤ a ∧ a ≤ 9223372036854775807) (hb : 0 ≤ b ∧ b ≤ 10000000) : a = b := by
  obtain ⟨q, h⟩ := h
  unfold M64 at h
  omega
theorem wrap64_bd (n : Int) : -9223372036854775808 ≤ wrap64 n ∧ wrap64 n ≤ 9223372036854775807 := by
  unfold wrap64; omega
def rS (l : List Deed) (f : Nat → Int) (u : Nat) (c : Int) (xs : List Int) : Int := (xs.map fun x => if mayU l u x.toNat then c * f (u ||| 1 <<< x.toNat) else 0).sum
theorem rS_cons (l : List Deed) (f : Nat → Int) (u : Nat) (c x : Int) (xs : List Int) : rS l f u c (x :: xs) = (if mayU l u x.toNat then c * f (u ||| 1 <<< x.toNat) else 0) + rS l f u c xs := by
  simp [rS]
theorem sum_mul (c : Int) : ∀ (xs : List Int) (f : Int → Int), (xs.map fun x => c * f x).sum = c * (xs.map f).sum
  | [], _ => by simp
  | x :: xs, f => by simp only [List.map_cons, List.sum_cons, sum_mul c xs f, Int.mul_add]
theorem rS_all (l : List Deed) (k u : Nat) (c : Int) : rS l (cntU l k) u c (commD l) = c * cntU l (k + 1) u := by
  rw [cntU_comm, commD, ← sum_mul c _ (fun x => if mayU l u x.toNat then cntU l k (u ||| 1 <<< x.toNat) else 0), rS]
  congr 1
  refine List.map_congr_left fun x _ => ?_
  split <;> simp
theorem drop_step {xs : List Int} {j : Nat} (h : j < xs.length) : xs.drop j = nth xs j :: xs.drop (j + 1) := by
  rw [List.drop_eq_getElem_cons h, nth_lt h]
theorem cong_store {D : Dm} (hD : Maps.IsMap D) (l : List Deed) (f : Nat → Int) {u m : Nat} (hm : m < 10) (hu : u < 1024) (c R T : Int) (hmay : mayU l u m = true) (xs : List Int) (h : cong (fS D f + rS l f u c ((m : Int) :: xs) + R) T) :
    cong (fS (D.put (ky (u ||| 1 <<< m)) (.lit (.int .i64 (wrap64 (vD D (u ||| 1 <<< m) + c))))) f + rS l f u c xs + R) T := by
  obtain ⟨q, h⟩ := h
  obtain ⟨p, e⟩ := wrap_cong (vD D (u ||| 1 <<< m) + c)
  rw [rS_cons, Int.toNat_natCast, if_pos hmay] at h
  rw [fS_put hD (orI_eq u hu m hm).2, e]
  have e2 : (vD D (u ||| 1 <<< m) + c + p * M64 - vD D (u ||| 1 <<< m)) * f (u ||| 1 <<< m) = c * f (u ||| 1 <<< m) + p * f (u ||| 1 <<< m) * M64 := by
    rw [show vD D (u ||| 1 <<< m) + c + p * M64 - vD D (u ||| 1 <<< m) = c + p * M64 by omega, Int.add_mul, Int.mul_assoc, Int.mul_comm M64, Int.mul_assoc]
  rw [e2]
  refine ⟨q + p * f (u ||| 1 <<< m), ?_⟩
  rw [Int.add_mul]; omega
theorem cong_skip (l : List Deed) (f : Nat → Int) {u m : Nat} (c X R T : Int) (hmay : mayU l u m = false) (xs : List Int) (h : cong (X + rS l f u c ((m : Int) :: xs) + R) T) : cong (X + rS l f u c xs + R) T := by
  rw [rS_cons, Int.toNat_natCast, hmay] at h
  simpa using h
theorem below_of_kept' {w w' : Go.World} (h : Kept [] w w') : Below w.heap.size w w' := ⟨h.os, h.tape, h.output, h.size, fun b hb => h.block b hb (by simp)⟩
theorem acall_cv {f : Nat} {ts : List T} {x : Value} (h : ACall Try.prog f ts (fun r _ => r = .v x)) {w : Go.World} {vs : Array Value} (hv : vs.size = ts.length) (hr : RepRow (fun b => b < w.heap.size) w noH (fun i => vs[i]?) 0 ts []) (hT : Inv w fun b => b < w.heap.size) :
    Calls Try.prog f vs w fun e w' => e = .returned x ∧ Below w.heap.size w w' := by
  refine (h w (fun b => b < w.heap.size) [] vs hv hr List.nodup_nil (by simp) (fun _ h => h) hT).mono ?_
  rintro e w' ⟨rv, r, l, S', Fr, Fa, rfl, rfl, _, hb⟩
  have := hb.res
  simp only [Rep] at this
  exact ⟨by rw [this.1], below_of_kept' hb.kept⟩
theorem acall_ints {f : Nat} {ts : List T} {xs : List Int} (h : ACall Try.prog f ts (fun r _ => r = .sl true 1 (ints xs))) {w : Go.World} {vs : Array Value} (hv : vs.size = ts.length) (hr : RepRow (fun b => b < w.heap.size) w noH (fun i => vs[i]?) 0 ts []) (hT : Inv w fun b => b < w.heap.size) :
    Calls Try.prog f vs w fun e w' => ∃ rv, e = .returned rv ∧ Rep (fun b => b < w'.heap.size) w' noH (.sl false 1 (ints xs)) rv [] ∧ Below w.heap.size w w' := by
  refine (h w (fun b => b < w.heap.size) [] vs hv hr List.nodup_nil (by simp) (fun _ h => h) hT).mono ?_
  rintro e w' ⟨rv, r, l, S', Fr, Fa, rfl, rfl, _, hb⟩
  refine ⟨rv, rfl, ?_, below_of_kept' hb.kept⟩
  have h1 := rep_dsh _ (rep_monoS (S' := fun b => b < w'.heap.size) (fun b hb' => (hb.shared b hb').1) _ hb.res) (fun c hc => (hb.mine c (List.mem_append_left _ hc)).2.1)
  have e : dshLL (ints xs) = ints xs := by
    rw [dshLL_eq, ints, List.map_map]
    rfl
  rwa [T.dsh, e] at h1
theorem rep_up {W W' : Go.World} {t : T} {y : Value} (h : Rep (fun b => b < W.heap.size) W noH t y []) (hB : Below W.heap.size W W') : Rep (fun b => b < W'.heap.size) W' noH t y [] :=
  rep_monoS (fun b hb => Nat.lt_of_lt_of_le hb hB.size) _ (rep_frame _ h fun b hb => hB.block b (by simpa using hb))
theorem inv_up {w w' : Go.World} (h : Inv w fun b => b < w.heap.size) (hB : Below w.heap.size w w') : Inv w' fun b => b < w'.heap.size :=
  h.mono (fun b hb => Nat.lt_of_lt_of_le hb hB.size) (fun b hb => hB.block b hb)
def Iz (w : Go.World) (a : Option Addr) (xs : List Int) : Prop := xs.length = 0 ∨ ∃ b off, a = some ⟨b, off, none⟩ ∧ b < w.heap.size ∧ ∀ j, j < xs.length → w.cell? ⟨b, off + j, none⟩ = some (.int .i64 (nth xs j))
theorem ints_at {w : Go.World} {xs : List Int} {v : Value} (h : Rep (fun b => b < w.heap.size) w noH (.sl false 1 (ints xs)) v []) :
    ∃ a cap, v = .slice a xs.length cap ∧ Iz w a xs := by
  have key : ∀ (cell : Nat → Option Value) (xs : List Int) (o : Nat) (F : List Nat), RepRows (fun b => b < w.heap.size) w noH cell o 1 (ints xs) F → ∀ j x, xs[j]? = some x → cell (o + j) = some (.int .i64 x) := by
    intro cell xs
    induction xs with
    | nil => intro o F _ j x hj; simp at hj
    | cons y xs ih =>
      intro o F h j x hj
      simp only [ints, List.map_cons, RepRows, RepRow, Rep] at h
      obtain ⟨F1, F2, _, ⟨y1, G1, G2, a1, ⟨rfl, rfl⟩, rfl, rfl⟩, h2, rfl⟩ := h
      cases j with
      | zero => simp at hj; subst hj; simpa using a1
      | succ j =>
        have := ih (o + 1) _ h2 j x (by simpa using hj)
        rwa [show o + (j + 1) = o + 1 + j by omega]
  simp only [Rep] at h
  obtain ⟨a, cap, rfl, hs⟩ := h
  have hlen : (ints xs).length = xs.length := by simp [ints]
  rw [hlen]
  refine ⟨a, cap, rfl, ?_⟩
  rcases hs with ⟨_, h1, h2⟩ | ⟨b, off, arr, el, fr, Fs, rfl, hb, hcap, harr, hrows, hown⟩
  · left; rw [← hlen, h1]; rfl
  · right
    obtain ⟨h1, h2, h3⟩ := hown
    refine ⟨b, off, rfl, h2, fun j hj => ?_⟩
    have := key _ xs off Fs hrows j _ (List.getElem?_eq_getElem hj)
    rw [nth_lt hj]
    simp only [World.cell?, hb]; exact this
theorem Below.grown0 {w w' : Go.World} (h : Below w.heap.size w w') : w.grownBy w' none := ⟨h.os, h.tape, h.output, h.size, fun i hi _ => h.block i hi⟩
theorem law3 : Maps.Keyed Try.prog 3 := Maps.int_keyed Try.underlying3
theorem zero3 (w : Go.World) : (zeroValue 3).run Try.prog w = .ok (.int .i64 0) w := by kernel_rfl
def KD (D : Dm) : Prop := ∀ kl, Maps.has D kl = true → ∃ s, s < 1024 ∧ kl = ky s
theorem KD_put {D : Dm} (h : KD D) {s : Nat} (hs : s < 1024) (d : Dm) : KD (D.put (ky s) d) := by
  intro kl hk
  by_cases e : kl = ky s
  · exact ⟨s, hs, e⟩
  · rw [Maps.has_put_other e] at hk; exact h kl hk
theorem wpList_insert_own {H : Type} {P : Program} (w : Go.World) {ops : Array Oper} {rest : List Oper} {o : Oper} {a : Act} {Q : Exit → Act → Go.World → Prop}
    (hg : o.guard = none) (m x v : Operand) (t : TypeId) (hop : o.op = Op.insert t m x v)
    (k e : TypeId) (K : Maps.Keyed P k) (ht : P.underlying t = some (.map k e)) (R : Value → Option (DataW H × List MemPlace)) (b n : Nat) (D : DataW H)
    (hm : a.eval m = .map (some b)) (hown : w.ownsMap P k R b n D) (hn : n < maxLen) (key val : Value) (kl : Lit) (hx : a.eval x = key) (hv : a.eval v = val) (hkey : keyOf P k key = some kl)
    (d : DataW H) (ps : List MemPlace) (hval : R val = some (d, ps))
    (hK : ∀ w', w'.ownsMap P k R b (n + 1) (D.put kl d) → w.grownBy w' (some b) → wpList P ops Q rest (a.put o.dst undef) w') :
    wpList P ops Q (o :: rest) a w := by
  refine wpList_plain hg fun K' hK' => ?_
  obtain ⟨w', hrun, r1, r2⟩ := hown.update K ht hn hkey hval
  unfold Oper.wp
  simp [execOp, hop, hm, hx, hv, hrun, Result.andThen]
  exact hK' _ _ (hK w' r1 r2)
theorem orB : ∀ u, u < 1024 → ∀ m, m < 10 → bits BinOp.or IntKind.i64 (u : Nat) (wrap64 (2 ^ m)) = ((u ||| 1 <<< m : Nat) : Int) := by decide +kernel
def resC (l : List Deed) : Value := .tuple #[.int .i64 (if okO l then cntO l else 0), .bool (okO l)]
set_option maxHeartbeats 8000000 in
set_option maxRecDepth 1000000 in
theorem count_k (l : List Deed) (hl : l.length ≤ 2 ^ 20) (hwf : wfL Deed.wf l) (w : Go.World) (hv : Value) (hrep : Rep (fun b => b < w.heap.size) w noH (.sl false 8 (l.map (Deed.row false))) hv []) (hT : Inv w fun b => b < w.heap.size) :
    Calls Try.prog 7 #[hv] w fun e w' => e = .returned (resC l) ∧ Below w.heap.size w w' := by
  have hCm := acall_ints (committed_ok l hl) (w := w) (vs := #[hv]) rfl (by simp only [RepRow]; exact ⟨_, [], [], rfl, hrep, rfl, rfl⟩) hT
  have hmm := @run_makeMap Try.prog
  go_enter Try.func7, Try.ntmps7
  go_wp2_with (go_at_call 14; refine hCm.mono ?_)
  rintro e W1 ⟨av, rfl, hav, hB1⟩
  have hT1 := inv_up hT hB1
  have hr1 := rep_up hrep hB1
  have hGd := acall_cv (GoodHistory_ok l hwf) (w := W1) (vs := #[hv]) rfl (by simp only [RepRow]; exact ⟨_, [], [], rfl, hr1, rfl, rfl⟩) hT1
  obtain ⟨aa, ac, rfl, hac⟩ := ints_at hav
  go_wp2_with (go_at_call 15; refine hGd.mono ?_)
  rintro e W2 ⟨rfl, hB2⟩
  have hB : Below w.heap.size w W2 := hB1.trans (hB2.mono hB1.size)
  have hlen : (commD l).length = manyY l := comm_len l l.length
  cases hg : goodHist l
  · go_wp2
    go_ret2
    exact ⟨by simp [resC, okO, hg], hB⟩
  · have hl10 := goodHist_len hg
    by_cases h7 : manyY l ≤ 7
    · have i7 : ¬ ((7 : Int) < ((commD l).length : Int)) := by omega
      have hTO : okO l = true := by simp [okO, hg, h7]
      go_wp2_with (first
        | (refine wpList_insert_own _ rfl _ _ _ 45 rfl 3 3 law3 Try.underlying45 (plainElem Try.prog 3) W2.heap.size 0 (.map [] : Dm) rfl (World.ownsMap_made _ _ _ _) (by unfold maxLen; omega) _ _ (ky 0) rfl rfl (Maps.keyOf_int_mk Try.underlying3 (by decide)) _ [] (plainElem_int Try.underlying3 (by decide)) ?_; intro w3 hown3 hg3)
        | go_in)
      have hB3 : Below W2.heap.size W2 w3 := ((Below.refl _ _).alloc (Nat.le_refl _) _).grown hg3 (by simp) (fun j hj => by cases hj; exact Nat.le_refl _)
      go_loopw [5, 28] (fun c5 i wr => ∃ k bm n : Nat, ∃ D : Dm, k ≤ manyY l ∧ c5 = .map (some bm) ∧ i = .int .i64 k ∧ W2.heap.size ≤ bm ∧ wr.ownsMap Try.prog 3 (plainElem Try.prog 3) bm n D ∧ n ≤ 7 ^ k ∧ KD D ∧ cong (fS D (cntU l (manyY l - k))) (cntO l) ∧ Below W2.heap.size W2 wr) (fun _ i _ => manyY l - (intOf i).toNat)
      case atStart =>
        refine ⟨0, _, 1, _, by omega, rfl, rfl, Nat.le_refl _, hown3, by simp, ?_, ?_, hB3⟩
        · exact KD_put (fun kl h => by simp [Maps.has] at h) (by omega) _
        · rw [fS_put ⟨[], rfl⟩ (by omega), fS_empty, vD_none rfl]
          exact ⟨0, by simp [cntO]⟩
      case round =>
        revert wr
        intro wo hrel
        obtain ⟨k, bm, n, D, hk, rfl, rfl, hbm, hown, hn, hKD, hcg, hBr⟩ := hrel
        have hn7 : n ≤ 7 ^ 7 := Nat.le_trans hn (Nat.pow_le_pow_right (by omega) (by omega))
        have h77 : (7 : Nat) ^ 7 = 823543 := by decide
        by_cases hkK : k < manyY l
        · obtain ⟨g, hgg⟩ : ∃ g, manyY l - k = g + 1 := ⟨manyY l - k - 1, by omega⟩
          have hg' : manyY l - (k + 1) = g := by omega
          rw [hgg] at hcg
          have hbs := hown.lt
          go_wp2_with (first
            | (at_range; refine wpList_range_own _ rfl _ 45 rfl 3 3 law3 Try.underlying45 _ bm n D rfl (hown.alloc _) ?_; intro w0 hrg0 hg0 hs0)
            | go_in)
          try go_frame
          have hwr : W2.heap.size ≤ wo.heap.size := hBr.size
          have hown0 : w0.ownsMap Try.prog 3 (plainElem Try.prog 3) wo.heap.size 0 (.map [] : Dm) := (World.ownsMap_made _ _ _ _).kept hg0 (by simp)
          have hB0 : Below W2.heap.size W2 w0 := (hBr.alloc hwr _).grown hg0 (by simp; omega) (fun j hj => by cases hj)
          go_loopw [] (fun wr2 => ∃ (left : Lit → Bool) (cnt nn : Nat) (Dn : Dm), wr2.ranges Try.prog 3 (plainElem Try.prog 3) bm (wo.heap.size + 1) n D left cnt ∧ wr2.ownsMap Try.prog 3 (plainElem Try.prog 3) wo.heap.size nn Dn ∧ nn + 7 * cnt ≤ 7 * n ∧ KD Dn ∧ (∀ kl, left kl = true → Maps.has D kl = true) ∧ cong (fS Dn (cntU l g) + wS D left (cntU l (g + 1))) (cntO l) ∧ Below W2.heap.size W2 wr2) (fun wr2 => wr2.rangeLeft bm (wo.heap.size + 1))
          case atStart =>
            refine ⟨_, _, 0, _, by simpa using hrg0, hown0, by have := (hown.alloc (.map #[] 0)).size_le; omega, fun kl h => by simp [Maps.has] at h, fun kl h => h, ?_, hB0⟩
            rw [fS_empty, wS_has]; simpa using hcg
          case round =>
            revert wr
            intro wr2 hrel
            obtain ⟨left, cnt, nn, Dn, hrg, hownn, hnn, hKn, hlh, hcg2, hBr2⟩ := hrel
            go_wp2_with (first
              | (at_next; refine wpList_next_ranges_ii _ rfl _ rfl 3 3 .i64 .i64 law3 Try.underlying3 Try.underlying3 bm (wo.heap.size + 1) n _ _ _ rfl hrg ?_ ?_)
              | go_in)
            · intro _ hl0
              go_wp2
              go_roundw
              case rel =>
                refine ⟨k + 1, _, nn, Dn, by omega, rfl, by simp, hwr, hownn, ?_, hKn, ?_, hBr2⟩
                · rw [Nat.pow_succ]; omega
                · rw [wS_none hl0, Int.add_zero] at hcg2
                  rw [hg']; exact hcg2
              case measure => simp [intOf]; omega
            · intro x c w1 cnt1 hwx hwc hlx hat hrg1 hlt hg1 hs1 hen
              obtain ⟨s, hs, hsx⟩ := hKD _ (hlh _ hlx)
              obtain rfl : x = (s : Int) := by injection hsx
              have hvc : vD D s = c := vD_of (hat _)
              rw [wS_step hs hlx, hvc, ← rS_all] at hcg2
              go_wp2
              go_loopw [40] (fun i wr3 => ∃ j nj : Nat, ∃ Dj : Dm, j ≤ manyY l ∧ i = .int .i64 j ∧ wr3.ranges Try.prog 3 (plainElem Try.prog 3) bm (wo.heap.size + 1) n D (fun z => left z && !z.sameKey (ky s)) cnt1 ∧ wr3.ownsMap Try.prog 3 (plainElem Try.prog 3) wo.heap.size nj Dj ∧ nj ≤ nn + j ∧ KD Dj ∧ cong (fS Dj (cntU l g) + rS l (cntU l g) s c ((commD l).drop j) + wS D (fun z => left z && !z.sameKey (ky s)) (cntU l (g + 1))) (cntO l) ∧ Below W2.heap.size W2 wr3) (fun i _ => manyY l - (intOf i).toNat)
              case atStart =>
                refine ⟨0, nn, Dn, by omega, rfl, hrg1, hownn.kept hg1 (by simp), by omega, hKn, ?_, hBr2.grown hg1 hBr2.size (fun j hj => by cases hj; omega)⟩
                obtain ⟨q, hq⟩ := hcg2
                exact ⟨q, by rw [← hq, List.drop_zero]; omega⟩
              case round =>
                revert wr
                intro wr3 hrel
                obtain ⟨j, nj, Dj, hj, rfl, hrg3, hownj, hnj, hKj, hcg3, hBr3⟩ := hrel
                by_cases hjK : j < manyY l
                · have hj2 : j < (commD l).length := by omega
                  obtain ⟨ab, ao, rfl, hab, hac2⟩ := Or.resolve_left hac (by omega)
                  have hB13 : Below W1.heap.size W1 wr3 := hB2.trans (hBr3.mono hB2.size)
                  have d1 := (hB13.cell (p := ⟨ab, ao + j, none⟩) hab).trans (hac2 j hj2)
                  obtain ⟨m, hm, hmY, hmx⟩ := comm_mem.1 (nth_mem hj2)
                  have hmx : nth (commD l) j = (m : Int) := hmx
                  rw [hmx] at d1
                  have i0 : (0 : Int) ≤ (j : Int) := by omega
                  have i1 : (j : Int) < (manyY l : Int) := by omega
                  rw [drop_step hj2, hmx] at hcg3
                  have hMay := acall_cv (mayCome_ok l s m hl10 hs hm) (w := wr3) (vs := #[hv, .slice (some ⟨ab, ao, none⟩) (commD l).length ac, .int .i64 s, .int .i64 m]) rfl (by simp only [RepRow]; exact ⟨_, [], [], rfl, rep_up hr1 hB13, ⟨_, [], [], rfl, rep_up hav hB13, ⟨_, [], [], rfl, by simp only [Rep]; exact ⟨rfl, trivial⟩, ⟨_, [], [], rfl, by simp only [Rep]; exact ⟨rfl, trivial⟩, rfl, rfl⟩, rfl⟩, rfl⟩, rfl⟩) (inv_up hT1 hB13)
                  rw [hlen] at hMay
                  go_wp2_with (go_at_call 16; refine hMay.mono ?_)
                  rintro e W4 ⟨rfl, hB4⟩
                  have hrg4 := hrg3.kept (Below.grown0 hB4) (by simp) (by simp)
                  have hown4 := hownj.kept (Below.grown0 hB4) (by simp)
                  have hBr4 : Below W2.heap.size W2 W4 := hBr3.trans (hB4.mono hBr3.size)
                  cases hmay : mayU l s m
                  · go_wp2
                    go_roundw
                    case rel => exact ⟨j + 1, nj, Dj, by omega, by simp, hrg4, hown4, by omega, hKj, cong_skip l _ c _ _ _ hmay _ hcg3, hBr4⟩
                    case measure => simp [intOf]; omega
                  · have hm10 : m < 10 := by omega
                    have hu2 := (orI_eq s hs m hm10).2
                    have hkey : keyOf Try.prog 3 (.int .i64 (bits BinOp.or IntKind.i64 (s : Int) (wrap64 (2 ^ m)))) = some (ky (s ||| 1 <<< m)) := by
                      rw [orB s hs m hm10]; exact Maps.keyOf_int_mk Try.underlying3 (WalkArith.wf_i64 (by omega))
                    go_wp2_with (first
                      | (at_lookup; refine wpList_lookup_own_int _ rfl _ _ 45 rfl 3 3 .i64 law3 Try.underlying45 Try.underlying3 (zero3 _) wo.heap.size nj Dj rfl hown4 _ _ rfl hkey ?_; intro c0 hat0 hwc0)
                      | (at_mapUpdate; refine wpList_mapUpdate_own _ rfl _ _ _ 45 rfl 3 3 law3 Try.underlying45 _ wo.heap.size nj _ rfl hown4 (by unfold maxLen; omega) _ _ _ rfl rfl hkey _ [] (plainElem_int Try.underlying3 (wrap64_wf _)) ?_; intro w5 hown5 hg5)
                      | go_in)
                    refine ⟨⟨j + 1, nj + 1, _, by omega, by simp, hrg4.kept hg5 (by intro h; cases h; omega) (by intro h; injection h; omega), hown5, by omega, KD_put hKj hu2 _, ?_, hBr4.grown hg5 hBr4.size (fun j hj => by cases hj; omega)⟩, by simp [intOf]; omega⟩
                    have := cong_store hownj.isMap l (cntU l g) hm10 hs c _ _ hmay _ hcg3
                    rwa [vD_of hat0] at this
                · obtain rfl : j = manyY l := by omega
                  have e0 : (commD l).drop (manyY l) = [] := by rw [List.drop_eq_nil_iff]; omega
                  go_wp2
                  refine ⟨⟨_, cnt1, nj, Dj, hrg3, hownj, by omega, hKj, fun kl h => hlh kl (by simp only [Bool.and_eq_true] at h; exact h.1), ?_, hBr3⟩, by rw [hrg3.left_eq, hrg.left_eq]; exact hlt⟩
                  rw [e0] at hcg3
                  simpa [rS] using hcg3
        · obtain rfl : k = manyY l := by omega
          rw [Nat.sub_self] at hcg
          have hwr : W2.heap.size ≤ wo.heap.size := hBr.size
          have hbs := hown.lt
          go_wp2_with (first
            | (at_range; refine wpList_range_own _ rfl _ 45 rfl 3 3 law3 Try.underlying45 _ bm n D rfl hown ?_; intro w0 hrg0 hg0 hs0)
            | go_in)
          try go_frame
          go_loopw [11] (fun i wr2 => ∃ (left : Lit → Bool) (cnt : Nat) (sm : Int), i = .int .i64 sm ∧ wr2.ranges Try.prog 3 (plainElem Try.prog 3) bm wo.heap.size n D left cnt ∧ (-9223372036854775808 ≤ sm ∧ sm ≤ 9223372036854775807) ∧ (∀ kl, left kl = true → Maps.has D kl = true) ∧ cong (sm + wS D left (cntU l 0)) (cntO l) ∧ Below W2.heap.size W2 wr2) (fun _ wr2 => wr2.rangeLeft bm wo.heap.size)
          case atStart => exact ⟨_, _, 0, rfl, hrg0, by omega, fun kl h => h, by rw [wS_has]; simpa using hcg, hBr.grown hg0 hwr (fun j hj => by cases hj)⟩
          case round =>
            revert wr
            intro wr2 hrel
            obtain ⟨left, cnt, sm, rfl, hrg, hsm, hlh, hcg2, hBr2⟩ := hrel
            go_wp2_with (first
              | (at_next; refine wpList_next_ranges_ii _ rfl _ rfl 3 3 .i64 .i64 law3 Try.underlying3 Try.underlying3 bm wo.heap.size n _ _ _ rfl hrg ?_ ?_)
              | go_in)
            · intro _ hl0
              rw [wS_none hl0, Int.add_zero] at hcg2
              have hfin : sm = cntO l := cong_eq hcg2 hsm (by
                have h1 := cntU_le l hl10 (manyY l) 0
                have h2 : (10 : Int) ^ manyY l ≤ 10 ^ 7 := by
                  have : (10 : Nat) ^ manyY l ≤ 10 ^ 7 := Nat.pow_le_pow_right (by omega) h7
                  exact_mod_cast this
                have h3 : (10 : Int) ^ 7 = 10000000 := by decide
                unfold cntO; omega)
              go_wp2
              go_ret2
              exact ⟨by simp [resC, hTO, hfin], hB.trans (hBr2.mono hB.size)⟩
            · intro x c w1 cnt1 hwx hwc hlx hat hrg1 hlt hg1 hs1 hen
              obtain ⟨s, hs, hsx⟩ := hKD _ (hlh _ hlx)
              obtain rfl : x = (s : Int) := by injection hsx
              have hvc : vD D s = c := vD_of (hat _)
              rw [wS_step hs hlx, hvc] at hcg2
              go_wp2
              refine ⟨⟨_, cnt1, _, rfl, hrg1, wrap64_bd _, fun kl h => hlh kl (by simp only [Bool.and_eq_true] at h; exact h.1), ?_, hBr2.grown hg1 hBr2.size (fun j hj => by cases hj; omega)⟩, by rw [hrg1.left_eq, hrg.left_eq]; exact hlt⟩
              obtain ⟨q, hq⟩ := hcg2
              obtain ⟨p, e⟩ := wrap_cong (sm + c)
              refine ⟨q + p, ?_⟩
              change wrap64 (sm + c) + wS D (fun z => left z && !z.sameKey (ky s)) (cntU l 0) = _
              rw [e, Int.add_mul]
              rw [show cntU l 0 s = 1 from rfl, Int.mul_one] at hq
              omega
    · have i7 : (7 : Int) < ((commD l).length : Int) := by omega
      go_wp2
      go_ret2
      exact ⟨by simp [resC, okO, h7], hB⟩
theorem countH : CountH := by
  intro l hwf hl w S0 F vs hsz hrep hnd hF hS0 hT
  have hrep0 := hrep
  simp only [RepRow] at hrep
  obtain ⟨y, F1, F2, c1, hy, rfl, hg6⟩ := hrep
  have hF1 : F1 = [] := by
    have hy2 := hy
    simp only [Rep] at hy2
    obtain ⟨a, cap, rfl, hs⟩ := hy2
    rcases hs with ⟨_, h1, h2⟩ | ⟨b, off, arr, el, fr, Fs, rfl, hb, hcap, harr, hrows, hown⟩
    · exact h2
    · exact hown.1
  subst hF1
  have hFn : F = [] := by rw [hg6]; rfl
  subst hFn
  have hvs : vs = #[y] := by
    apply Array.ext
    · simpa using hsz
    · intro i h1 h2
      simp at h2
      subst h2
      rw [Array.getElem?_eq_getElem h1] at c1; simpa using c1
  subst hvs
  refine (count_k l hl hwf w y (rep_monoS (fun b hb => hS0 b hb) _ hy) (hT.mono (fun b hb => hS0 b hb) fun _ _ => rfl)).mono ?_
  rintro e w' ⟨rfl, hB⟩
  refine ⟨_, .tup [i64 (if okO l then cntO l else 0), bl (okO l)], [.sl false 8 (l.map (Deed.row false))], S0, [], [], rfl, rfl, rfl, ?_, ?_, by simp, by simp, fun b hb => ⟨Nat.lt_of_lt_of_le (hS0 b hb) hB.size, .inl hb⟩, fun b h => h, ⟨hB.os, hB.tape, hB.output, hB.size, fun b hb _ => hB.block b hb, fun b arr el fr h => ?_⟩⟩
  · simp only [Rep, RepRow, resC]; exact ⟨_, rfl, rfl, _, [], [], rfl, ⟨rfl, rfl⟩, ⟨_, [], [], rfl, ⟨rfl, rfl⟩, rfl, rfl⟩, rfl⟩
  · exact repRow_frame _ hrep0 fun b hb => hB.block b (hb.elim (fun h => (hF b h).2) (hS0 b))
  · have hb : b < w.heap.size := (Array.getElem?_eq_some_iff.1 h).1
    exact ⟨arr, fr, by rw [hB.block b hb]; exact h, rfl⟩
end Go.Proofs.Wb

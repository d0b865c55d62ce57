import Derived.Test.YtoelnhjecaellaaGreatDoorFnExactFindOrderItoa
import Derived.Maps.OwnOps
import Derived.Maps.OwnSet
import Derived.Laws.AppendOwnNone
import Derived.WalkKit
import Derived.BigCall
import Derived.Deep.RegionHeld3
set_option linter.unusedVariables false
set_option linter.unusedSimpArgs false
namespace Go.Proofs.Wb
open Go Go.Am Go.RowKit Go.Proofs
abbrev Dm := DataW Unit
def kyS (u : Nat) (r : List Write) : Lit := .string (keyT u r)
def Dead (l : List Deed) (D : Dm) : Prop := ∀ kl, Maps.has D kl = true → ∃ u r, u < 1024 ∧ rowsOk r = true ∧ kl = kyS u r ∧ restU l (remU l u) u r = none
theorem dead_put {l : List Deed} {D : Dm} (h : Dead l D) {u : Nat} {r : List Write} (hu : u < 1024) (hr : rowsOk r = true) (hn : restU l (remU l u) u r = none) (d : Dm) : Dead l (D.put (kyS u r) d) := by
  intro kl hk
  by_cases e : kl = kyS u r
  · exact ⟨u, r, hu, hr, e, hn⟩
  · rw [Maps.has_put_other e] at hk; exact h kl hk
theorem dead_has {l : List Deed} {D : Dm} (h : Dead l D) {u : Nat} {r : List Write} (hu : u < 1024) (hr : rowsOk r = true) (hk : Maps.has D (kyS u r) = true) : restU l (remU l u) u r = none := by
  obtain ⟨v, s, hv, hs, e, hn⟩ := h _ hk
  unfold kyS at e
  injection e with e
  obtain ⟨rfl, rfl⟩ := keyT_inj hu hv hr hs e
  exact hn
theorem dead_nil (l : List Deed) : Dead l (.map []) := fun kl h => by simp [Maps.has] at h
theorem lawS : Maps.Keyed Tryz.prog 9 := Maps.string_keyed Tryz.underlying9
theorem zeroB (w : Go.World) : (zeroValue 4).run Tryz.prog w = .ok (.bool false) w := by kernel_rfl
theorem plainElem_bool_inv {P : Program} {e : TypeId} (he : P.underlying e = some .bool) {v : Value} {z : Dm × List MemPlace} (h : plainElem P e v = some z) : ∃ x, v = .bool x ∧ z = (.lit (.bool x), []) := by
  unfold plainElem at h
  rw [he] at h
  cases v <;> simp at h
  exact ⟨_, rfl, h.symm⟩
def Tr0 : Prop := True
theorem wpList_lookup_b {P : Program} (w : Go.World) {ops : Array Oper} {rest : List Oper} {o : Oper} {a : Act} {Q : Exit → Act → Go.World → Prop}
    (hg : o.guard = none) (m x : Operand) (t : TypeId) (hop : o.op = Op.lookup t m x false) (k e : TypeId) (K : Maps.Keyed P k) (ht : P.underlying t = some (.map k e)) (he : P.underlying e = some .bool) (hz : (zeroValue e).run P w = .ok (.bool false) w) (b n : Nat) (D : Dm)
    (hm : a.eval m = .map (some b)) (hown : w.ownsMap P k (plainElem P e) b n D) (key : Value) (kl : Lit) (hx : a.eval x = key) (hkey : keyOf P k key = some kl)
    (hK1 : Maps.has D kl = true → wpList P ops Q rest (a.put o.dst (.bool true)) w) (hK0 : Tr0 → wpList P ops Q rest (a.put o.dst (.bool false)) w) : wpList P ops Q (o :: rest) a w := by
  refine wpList_plain hg fun K' hK' => ?_
  obtain ⟨v, ps, hrun, hv⟩ := hown.lookup K ht hz (plainElem_bool he false) hkey
  obtain ⟨c, rfl, hc⟩ := plainElem_bool_inv he hv
  unfold Oper.wp
  simp [execOp, hop, hm, hx, hrun, Result.andThen]
  refine hK' _ _ ?_
  cases c with
  | false => exact hK0 trivial
  | true =>
    refine hK1 ?_
    cases hh : Maps.has D kl with
    | true => rfl
    | false =>
      rw [Maps.atKey_of_not_has hh] at hc
      cases hc
theorem gtr {a b c : Go.World} {row : Option Nat} (h : a.grownBy b row) (k : b.grownBy c row) : a.grownBy c row :=
  ⟨k.os.trans h.os, k.tape.trans h.tape, k.output.trans h.output, Nat.le_trans h.size k.size, fun i hi hne => (k.block i (Nat.lt_of_lt_of_le hi h.size) hne).trans (h.block i hi hne)⟩
theorem gbelow {w w' : Go.World} {row : Option Nat} (h : Below w.heap.size w w') : w.grownBy w' row := ⟨h.os, h.tape, h.output, h.size, fun i hi _ => h.block i hi⟩
theorem gsplit {a b c : Go.World} {row : Option Nat} (h : a.grownBy b row) (hB : Below b.heap.size b c) : a.grownBy c row := gtr h (gbelow hB)
def Sb (bm : Nat) (w : Go.World) (b : Nat) : Prop := b < w.heap.size ∧ b ≠ bm
theorem rep_g {bm : Nat} {W W' : Go.World} {t : T} {y : Value} (h : Rep (Sb bm W) W noH t y []) (hg : W.grownBy W' (some bm)) : Rep (Sb bm W') W' noH t y [] :=
  rep_monoS (fun b hb => ⟨Nat.lt_of_lt_of_le hb.1 hg.size, hb.2⟩) _ (rep_frame _ h fun b hb => by
    have hb : Sb bm W b := by simpa using hb
    exact hg.block b hb.1 fun e => hb.2 (Option.some.inj e))
structure Srch (l : List Deed) (w : Go.World) (hv av : Value) (bm n : Nat) (D : Dm) : Prop where
  h : Rep (Sb bm w) w noH (.sl false 8 (l.map (Deed.row false))) hv []
  a : Rep (Sb bm w) w noH (.sl false 1 (ints (commD l))) av []
  inv : Inv w (Sb bm w)
  own : w.ownsMap Tryz.prog 9 (plainElem Tryz.prog 4) bm n D
  dead : Dead l D
theorem Srch.g {l : List Deed} {w w' : Go.World} {hv av : Value} {bm n n' : Nat} {D D' : Dm} (s : Srch l w hv av bm n D) (hg : w.grownBy w' (some bm)) (ho : w'.ownsMap Tryz.prog 9 (plainElem Tryz.prog 4) bm n' D') (hd : Dead l D') : Srch l w' hv av bm n' D' :=
  ⟨rep_g s.h hg, rep_g s.a hg, s.inv.mono (fun b hb => ⟨Nat.lt_of_lt_of_le hb.1 hg.size, hb.2⟩) (fun b hb => hg.block b hb.1 fun e => hb.2 (Option.some.inj e)), ho, hd⟩
theorem Srch.up {l : List Deed} {w w' : Go.World} {hv av : Value} {bm n : Nat} {D : Dm} (s : Srch l w hv av bm n D) (hB : Below w.heap.size w w') : Srch l w' hv av bm n D :=
  s.g (gbelow hB) (s.own.kept (gbelow hB (row := none)) (by simp)) s.dead
theorem gdrew (w : Go.World) (row : Option Nat) : w.grownBy w.drew row := ⟨rfl, rfl, rfl, Nat.le_refl _, fun _ _ _ => rfl⟩
theorem Srch.dr {l : List Deed} {w : Go.World} {hv av : Value} {bm n : Nat} {D : Dm} (s : Srch l w hv av bm n D) : Srch l w.drew hv av bm n D := s.g (gdrew w _) s.own.drew s.dead
theorem Srch.al {l : List Deed} {w : Go.World} {hv av : Value} {bm n : Nat} {D : Dm} (s : Srch l w hv av bm n D) (o : Obj) : Srch l (w.alloc o) hv av bm n D :=
  s.up ((Below.refl _ _).alloc (Nat.le_refl _) _)
theorem below_of_kept' {w w' : Go.World} (h : Kept [] w w') : Below w.heap.size w w' := ⟨h.os, h.tape, h.output, h.size, fun b hb => h.block b hb (by simp)⟩
theorem acall_s {bm f : Nat} {ts : List T} {x : Value} (h : ACall Tryz.prog f ts (fun r _ => r = .v x)) {w : Go.World} {vs : Array Value} (hv : vs.size = ts.length) (hr : RepRow (Sb bm w) w noH (fun i => vs[i]?) 0 ts []) (hT : Inv w (Sb bm w)) :
    Calls Tryz.prog f vs w fun e w' => e = .returned x ∧ Below w.heap.size w w' := by
  refine (h w (Sb bm w) [] vs hv hr List.nodup_nil (by simp) (fun _ h => h.1) hT).mono ?_
  rintro e w' ⟨rv, r, l, S', Fr, Fa, rfl, rfl, _, hb⟩
  have := hb.res
  simp only [Rep] at this
  exact ⟨by rw [this.1], below_of_kept' hb.kept⟩
theorem dshLL_w (r : List Write) : dshLL (r.map (Write.row true)) = r.map (Write.row false) := by
  rw [dshLL_eq, List.map_map]
  refine List.map_congr_left fun x _ => ?_
  simp only [Function.comp, Write.row_eq]; rfl
theorem acall_pr {bm f : Nat} {ts : List T} {R : List Write} {ok : Bool} (h : ACall Tryz.prog f ts (fun r _ => r = .tup [.sl true 3 (R.map (Write.row true)), bl ok])) {w : Go.World} {vs : Array Value} (hbm : bm < w.heap.size) (hv : vs.size = ts.length) (hr : RepRow (Sb bm w) w noH (fun i => vs[i]?) 0 ts []) (hT : Inv w (Sb bm w)) :
    Calls Tryz.prog f vs w fun e w' => ∃ v, e = .returned (.tuple #[v, .bool ok]) ∧ Rep (Sb bm w') w' noH (.sl false 3 (R.map (Write.row false))) v [] ∧ Below w.heap.size w w' := by
  refine (h w (Sb bm w) [] vs hv hr List.nodup_nil (by simp) (fun _ h => h.1) hT).mono ?_
  rintro e w' ⟨rv, r, l, S', Fr, Fa, rfl, rfl, _, hb⟩
  have hres := hb.res
  simp only [Rep, RepRow] at hres
  obtain ⟨cs, rfl, hcs, y1, F1, F2, c1, h1, ⟨y2, F3, F4, c2, ⟨rfl, rfl⟩, rfl, rfl⟩, hF⟩ := hres
  have hcs2 : cs = #[y1, .bool ok] := by
    have hcs' : cs.size = 2 := by simpa using hcs
    apply Array.ext
    · simpa using hcs'
    · intro i q1 q2
      have q2' : i < 2 := by simpa using q2
      have : i = 0 ∨ i = 1 := by omega
      rcases this with rfl | rfl
      · rw [Array.getElem?_eq_getElem q1] at c1; simpa using c1
      · rw [Array.getElem?_eq_getElem q1] at c2; simpa using c2
  subst hcs2
  refine ⟨y1, rfl, ?_, below_of_kept' hb.kept⟩
  have h0 : Rep S' w' noH (.sl true 3 (R.map (Write.row true))) y1 F1 := by simp only [Rep]; exact h1
  have h2 := rep_dsh _ (rep_monoS (S' := Sb bm w') (fun b hb' => by
    obtain ⟨q1, q2⟩ := hb.shared b hb'
    refine ⟨q1, ?_⟩
    rcases q2 with q2 | q2 | q2
    · exact q2.2
    · simp at q2
    · omega) _ h0) (fun c hc => by
    obtain ⟨_, q1, q2⟩ := hb.mine c (List.mem_append_left _ (by rw [hF]; simp [hc]))
    refine ⟨q1, ?_⟩
    rcases q2 with q2 | q2
    · simp at q2
    · omega)
  rwa [T.dsh, dshLL_w] at h2
theorem wr_cells {S : Nat → Prop} {w : Go.World} {ρ : Nat → Option Hd} {cell : Nat → Option Value} : ∀ (l : List Write) (o : Nat) (F : List Nat), RepRows S w ρ cell o 3 (l.map (Write.row false)) F →
    ∀ j, j < l.length → cell (o + j * 3) = some (.string (nth l j).Key) ∧ cell (o + j * 3 + 1) = some (.string (nth l j).Val) ∧ cell (o + j * 3 + 2) = some (.bool (nth l j).Gone)
  | [], _, _, h, j, hj => by simp at hj
  | y :: l, o, F, h, j, hj => by
    simp only [List.map_cons, RepRows, Write.row_eq, RepRow, Rep] at h
    obtain ⟨F1, F2, _, ⟨y1, G1, G2, a1, ⟨rfl, rfl⟩, ⟨y2, G3, G4, a2, ⟨rfl, rfl⟩, ⟨y3, G5, G6, a3, ⟨rfl, rfl⟩, rfl, rfl⟩, rfl⟩, rfl⟩, h2, rfl⟩ := h
    cases j with
    | zero => rw [show nth (y :: l) 0 = y from rfl]; exact ⟨by simpa using a1, by simpa using a2, by simpa using a3⟩
    | succ j =>
      have := wr_cells l (o + 3) _ h2 j (by simpa using hj)
      rw [show o + (j + 1) * 3 = o + 3 + j * 3 by omega]
      exact this
theorem wr_at {S : Nat → Prop} {w : Go.World} {r : List Write} {y : Value} (h : Rep S w noH (.sl false 3 (r.map (Write.row false))) y []) :
    ∃ a cap, y = .slice a r.length cap ∧ (0 < r.length → ∃ b off, a = some ⟨b, off, none⟩ ∧ S b ∧ ∀ j, j < r.length → w.cell? ⟨b, off + j * 3, none⟩ = some (.string (nth r j).Key) ∧ w.cell? ⟨b, off + j * 3 + 1, none⟩ = some (.string (nth r j).Val) ∧ w.cell? ⟨b, off + j * 3 + 2, none⟩ = some (.bool (nth r j).Gone)) := by
  simp only [Rep] at h
  obtain ⟨a, cap, rfl, hs⟩ := h
  rw [List.length_map] at hs ⊢
  refine ⟨a, cap, rfl, fun hp => ?_⟩
  rcases hs with ⟨_, h1, h2⟩ | ⟨b, off, arr, el, fr, Fs, rfl, hb, hcap, harr, hrows, hown⟩
  · have : r.length = 0 := by simpa using congrArg List.length h1
    omega
  · obtain ⟨h1, h2, h3⟩ := hown
    refine ⟨b, off, rfl, h2, fun j hj => ?_⟩
    obtain ⟨d1, d2, d3⟩ := wr_cells _ _ _ hrows j hj
    exact ⟨by simp only [World.cell?, hb]; exact d1, by simp only [World.cell?, hb]; exact d2, by simp only [World.cell?, hb]; exact d3⟩
theorem int_cells {S : Nat → Prop} {w : Go.World} {ρ : Nat → Option Hd} {cell : Nat → Option Value} : ∀ (xs : List Int) (o : Nat) (F : List Nat), RepRows S w ρ cell o 1 (ints xs) F → ∀ j, j < xs.length → cell (o + j) = some (.int .i64 (nth xs j))
  | [], _, _, _, j, hj => by simp at hj
  | y :: xs, o, F, h, j, hj => by
    simp only [ints, List.map_cons, RepRows, RepRow, Rep] at h
    obtain ⟨F1, F2, _, ⟨y1, G1, G2, a1, ⟨rfl, rfl⟩, rfl, rfl⟩, h2, rfl⟩ := h
    cases j with
    | zero => rw [show nth (y :: xs) 0 = y from rfl]; simpa using a1
    | succ j =>
      have := int_cells xs (o + 1) _ h2 j (by simpa using hj)
      rwa [show o + 1 + j = o + (j + 1) by omega] at this
theorem ints_at {S : Nat → Prop} {w : Go.World} {xs : List Int} {v : Value} (h : Rep S w noH (.sl false 1 (ints xs)) v []) :
    ∃ a cap, v = .slice a xs.length cap ∧ (0 < xs.length → ∃ b off, a = some ⟨b, off, none⟩ ∧ ∀ j, j < xs.length → w.cell? ⟨b, off + j, none⟩ = some (.int .i64 (nth xs j))) := by
  simp only [Rep] at h
  obtain ⟨a, cap, rfl, hs⟩ := h
  have hlen : (ints xs).length = xs.length := by simp [ints]
  rw [hlen] at hs ⊢
  refine ⟨a, cap, rfl, fun hp => ?_⟩
  rcases hs with ⟨_, h1, h2⟩ | ⟨b, off, arr, el, fr, Fs, rfl, hb, hcap, harr, hrows, hown⟩
  · have : (ints xs).length = 0 := by rw [h1]; rfl
    omega
  · refine ⟨b, off, rfl, fun j hj => ?_⟩
    have := int_cells xs off Fs hrows j hj
    simp only [World.cell?, hb]; exact this
theorem sl_nil {S : Nat → Prop} {w : Go.World} {ρ : Nat → Option Hd} {k : Nat} {rows : List (List T)} {y : Value} {F : List Nat} (h : Rep S w ρ (.sl false k rows) y F) : F = [] := by
  simp only [Rep] at h
  obtain ⟨a, cap, rfl, hs⟩ := h
  rcases hs with ⟨_, h1, h2⟩ | ⟨b, off, arr, el, fr, Fs, rfl, hb, hcap, harr, hrows, hown⟩
  · exact h2
  · exact hown.1
theorem dd_row {S : Nat → Prop} {w : Go.World} {ρ : Nat → Option Hd} {cell : Nat → Option Value} {o : Nat} {d : Deed} {F : List Nat} (h : RepRow S w ρ cell o (Deed.row false d) F) : ∃ y0 y1 y2 y3 y4 y5 y6 y7, cell o = some y0 ∧ cell (o + 1) = some y1 ∧ cell (o + 2) = some y2 ∧ cell (o + 3) = some y3 ∧ cell (o + 4) = some y4 ∧ cell (o + 5) = some y5 ∧ cell (o + 6) = some y6 ∧ cell (o + 7) = some y7 ∧
    Rep S w ρ (.agg (Deed.row false d)) (.agg #[y0, y1, y2, y3, y4, y5, y6, y7]) [] ∧ Rep S w ρ (.sl false 3 (d.Writes.map (Write.row false))) y7 [] := by
  rw [Deed.row_eq] at h
  simp only [RepRow] at h
  obtain ⟨y0, G1, G2, b1, q1, ⟨y1, G3, G4, b2, q2, ⟨y2, G5, G6, b3, q3, ⟨y3, G7, G8, b4, q4, ⟨y4, G9, Ga, b5, q5, ⟨y5, Gb, Gc, b6, q6, ⟨y6, Gd, Ge, b7, q7, ⟨y7, Gf, Gg, b8, q8, rfl, r8⟩, r7⟩, r6⟩, r5⟩, r4⟩, r3⟩, r2⟩, r1⟩ := h
  obtain rfl := sl_nil q7
  obtain rfl := sl_nil q8
  refine ⟨y0, y1, y2, y3, y4, y5, y6, y7, b1, b2, b3, b4, b5, b6, b7, b8, ?_, q8⟩
  rw [Deed.row_eq]
  have t1 : ∀ {x y : Value} {F : List Nat}, Rep S w ρ (.v x) y F → F = [] ∧ y = x := fun h => by simp only [Rep] at h; exact ⟨h.2, h.1⟩
  obtain ⟨rfl, rfl⟩ := t1 q1
  obtain ⟨rfl, rfl⟩ := t1 q2
  obtain ⟨rfl, rfl⟩ := t1 q3
  obtain ⟨rfl, rfl⟩ := t1 q4
  obtain ⟨rfl, rfl⟩ := t1 q5
  obtain ⟨rfl, rfl⟩ := t1 q6
  rw [show ∀ row y, Rep S w ρ (.agg row) y [] = ∃ cs : Array Value, y = .agg cs ∧ cs.size = row.length ∧ RepRow S w ρ (fun i => cs[i]?) 0 row [] from fun _ _ => by simp only [Rep]]
  refine ⟨_, rfl, rfl, ?_⟩
  simp only [RepRow]
  exact ⟨_, [], [], rfl, q1, ⟨_, [], [], rfl, q2, ⟨_, [], [], rfl, q3, ⟨_, [], [], rfl, q4, ⟨_, [], [], rfl, q5, ⟨_, [], [], rfl, q6, ⟨_, [], [], rfl, q7, ⟨_, [], [], rfl, q8, rfl, rfl⟩, rfl⟩, rfl⟩, rfl⟩, rfl⟩, rfl⟩, rfl⟩, rfl⟩
theorem dd_cells {S : Nat → Prop} {w : Go.World} {ρ : Nat → Option Hd} {cell : Nat → Option Value} : ∀ (l : List Deed) (o : Nat) (F : List Nat), RepRows S w ρ cell o 8 (l.map (Deed.row false)) F → ∀ j, j < l.length → ∃ F1, RepRow S w ρ cell (o + j * 8) (Deed.row false (nth l j)) F1
  | [], _, _, _, j, hj => by simp at hj
  | y :: l, o, F, h, j, hj => by
    simp only [List.map_cons, RepRows] at h
    obtain ⟨F1, F2, _, h1, h2, rfl⟩ := h
    cases j with
    | zero => rw [show nth (y :: l) 0 = y from rfl]; exact ⟨F1, by simpa using h1⟩
    | succ j =>
      have := dd_cells l (o + 8) _ h2 j (by simpa using hj)
      rw [show o + (j + 1) * 8 = o + 8 + j * 8 by omega]
      exact this
theorem deeds_at {S : Nat → Prop} {w : Go.World} {l : List Deed} {y : Value} (h : Rep S w noH (.sl false 8 (l.map (Deed.row false))) y []) :
    ∃ a cap, y = .slice a l.length cap ∧ (0 < l.length → ∃ b off, a = some ⟨b, off, none⟩ ∧ ∀ j, j < l.length → ∃ y0 y1 y2 y3 y4 y5 y6 y7, w.cell? ⟨b, off + j * 8, none⟩ = some y0 ∧ w.cell? ⟨b, off + j * 8 + 1, none⟩ = some y1 ∧ w.cell? ⟨b, off + j * 8 + 2, none⟩ = some y2 ∧ w.cell? ⟨b, off + j * 8 + 3, none⟩ = some y3 ∧ w.cell? ⟨b, off + j * 8 + 4, none⟩ = some y4 ∧ w.cell? ⟨b, off + j * 8 + 5, none⟩ = some y5 ∧ w.cell? ⟨b, off + j * 8 + 6, none⟩ = some y6 ∧ w.cell? ⟨b, off + j * 8 + 7, none⟩ = some y7 ∧
      Rep S w noH (.agg (Deed.row false (nth l j))) (.agg #[y0, y1, y2, y3, y4, y5, y6, y7]) [] ∧ Rep S w noH (.sl false 3 ((nth l j).Writes.map (Write.row false))) y7 []) := by
  simp only [Rep] at h
  obtain ⟨a, cap, rfl, hs⟩ := h
  rw [List.length_map] at hs ⊢
  refine ⟨a, cap, rfl, fun hp => ?_⟩
  rcases hs with ⟨_, h1, h2⟩ | ⟨b, off, arr, el, fr, Fs, rfl, hb, hcap, harr, hrows, hown⟩
  · have : l.length = 0 := by simpa using congrArg List.length h1
    omega
  · obtain ⟨h1, h2, h3⟩ := hown
    refine ⟨b, off, rfl, fun j hj => ?_⟩
    obtain ⟨F1, hc⟩ := dd_cells l off Fs hrows j hj
    have key : ∀ i x, arr[i]? = some x → w.cell? ⟨b, i, none⟩ = some x := fun i x hx => by simp only [World.cell?, hb]; exact hx
    obtain ⟨y0, y1, y2, y3, y4, y5, y6, y7, b0, b1, b2, b3, b4, b5, b6, b7, q1, q2⟩ := dd_row hc
    exact ⟨y0, y1, y2, y3, y4, y5, y6, y7, key _ _ b0, key _ _ b1, key _ _ b2, key _ _ b3, key _ _ b4, key _ _ b5, key _ _ b6, key _ _ b7, q1, q2⟩
def kT (u : Nat) (r : List Write) (k : Nat) : List UInt8 := dgt u ++ ((r.take k).map rowT).flatten
def kB (u : Nat) (r : List Write) (k : Nat) : ByteArray := ⟨⟨kT u r k⟩⟩
theorem kB_zero (u : Nat) (r : List Write) : kB u r 0 = ⟨⟨dgt u⟩⟩ := by simp [kB, kT]
theorem kB_all (u : Nat) (r : List Write) : (kB u r r.length).data.toList = keyT u r := by
  simp only [kB, kT, keyT]; rw [List.take_length]
theorem take_next {α : Type} [Inhabited α] {l : List α} {k : Nat} (h : k < l.length) : l.take (k + 1) = l.take k ++ [nth l k] := by
  rw [List.take_add_one, List.getElem?_eq_getElem h, nth_lt h]; rfl
theorem kB_succ (u : Nat) {r : List Write} {k : Nat} (h : k < r.length) : kB u r k ++ (((⟨#[32]⟩ ++ (nth r k).Key) ++ ⟨#[61]⟩) ++ (nth r k).Val) = kB u r (k + 1) := by
  apply ByteArray.ext
  simp only [kB, kT, take_next h, List.map_append, List.flatten_append, rowT, bsW, ByteArray.data_append, List.map_cons, List.map_nil, List.flatten_cons, List.flatten_nil, List.append_nil]
  apply Array.toList_inj.1
  simp
theorem dgt_20 : ∀ u, u < 1024 → (dgt u).length ≤ 20 := by decide +kernel
theorem kB_size {u : Nat} (hu : u < 1024) (r : List Write) (h : ∀ w ∈ r, w.Key.size ≤ 12 ∧ w.Val.size ≤ 24) : ∀ k, (kB u r k).size ≤ 20 + k * 38
  | 0 => by rw [kB_zero]; exact dgt_20 u hu
  | k + 1 => by
    have ih := kB_size hu r h k
    by_cases hk : k < r.length
    · rw [← kB_succ u hk]
      have := h _ (nth_mem hk)
      simp only [ByteArray.size_append, show ∀ x : Array UInt8, (⟨x⟩ : ByteArray).size = x.size from fun _ => rfl]
      simp; omega
    · have e : kB u r (k + 1) = kB u r k := by simp only [kB, kT]; rw [List.take_of_length_le (by omega), List.take_of_length_le (by omega)]
      rw [e]; omega
theorem mkF (X : Nat) (h : X ≤ 2 ^ 30) : ∀ n : Nat, 9223372036854775000 ≤ n → (n < X) = False := fun n hn => by simp; omega
def ResV (w w' : Go.World) (v : Value) : Option (List Int) → Prop
  | none => v = .slice none 0 0
  | some xs => w'.ownsRow w.heap.size 3 1 v xs.length (xs.map (.int .i64 ·))
theorem orB : ∀ u, u < 1024 → ∀ m, m < 10 → bits BinOp.or IntKind.i64 (u : Nat) (IntKind.i64.wrap (2 ^ m)) = ((u ||| 1 <<< m : Nat) : Int) := by decide +kernel
def gF (l : List Deed) (k u : Nat) (r : List Write) (x : Int) : Option (List Int) := if mayU l u x.toNat && fitB l r x.toNat then (restU l k (u ||| 1 <<< x.toNat) (nxR l r x.toNat)).map (x :: ·) else none
theorem restU_step (l : List Deed) (k u : Nat) (r : List Write) : restU l (k + 1) u r = fstL (gF l k u r) (commD l) := rfl
def dnB (l : List Deed) (u j : Nat) : Bool := ((commD l).take j).all fun x => u.testBit x.toNat
theorem dnB_succ {l : List Deed} (u : Nat) {j : Nat} (h : j < (commD l).length) : dnB l u (j + 1) = (dnB l u j && u.testBit (nth (commD l) j).toNat) := by
  rw [dnB, take_next h, List.all_append]; simp [dnB]
theorem dnB_all {l : List Deed} {u : Nat} : dnB l u (commD l).length = true ↔ remU l u = 0 := by
  rw [dnB, List.take_length, remU_zero, List.all_eq_true]
theorem bitB : ∀ u : Nat, u < 1024 → ∀ m : Nat, m < 10 → decide (bits BinOp.and IntKind.i64 (((u : Nat) : Int) / 2 ^ m) 1 = 1) = u.testBit m := by decide +kernel
theorem sl_inj {a b : Option Addr} {n m c d : Nat} (h : Value.slice a n c = .slice b m d) : a = b ∧ c = d := by cases h; exact ⟨rfl, rfl⟩
theorem nb {bm x : Nat} (h : bm < x) : (some x : Option Nat) ≠ some bm := fun e => by injection e; omega
def Upto (l : List Deed) (k u : Nat) (r : List Write) (n j n' : Nat) : Prop := n' ≤ n + j * 12 ^ k ∧ fstL (gF l k u r) ((commD l).take j) = none
theorem Upto.next {l : List Deed} {k u : Nat} {r : List Write} {n j n' n'' m : Nat} (h : Upto l k u r n j n') (hj : j < (commD l).length) (hm : nth (commD l) j = (m : Int)) (hn : n'' ≤ n' + 12 ^ k) (hg : gF l k u r (m : Int) = none) : Upto l k u r n (j + 1) n'' := by
  refine ⟨?_, ?_⟩
  · have := h.1; rw [Nat.succ_mul]; omega
  · rw [take_next hj, fstL_app, h.2, hm]
    simp only [fstL, hg]
theorem fstL_from {α β : Type} {F : α → Option β} {y : β} : ∀ {xs : List α}, fstL F xs = some y → ∃ x, x ∈ xs ∧ F x = some y
  | [], h => by cases h
  | x :: xs, h => by
    rw [fstL] at h
    cases q : F x with
    | some z =>
      rw [q] at h
      exact ⟨x, by simp, by rw [q]; exact h⟩
    | none =>
      rw [q] at h
      obtain ⟨z, hz, e⟩ := fstL_from h
      exact ⟨z, by simp [hz], e⟩
theorem restU_len {l : List Deed} : ∀ {k u : Nat} {r : List Write} {xs : List Int}, restU l k u r = some xs → xs.length = k
  | 0, u, r, xs, h => by cases h; rfl
  | k + 1, u, r, xs, h => by
    obtain ⟨x, _, e⟩ := fstL_from h
    split at e
    · obtain ⟨ys, hy, rfl⟩ := Option.map_eq_some_iff.1 e
      simp [restU_len hy]
    · cases e
theorem gapp {W w9 : Go.World} {o : Obj} {row : Option Nat} (h : (W.alloc o).grownBy w9 (some W.heap.size)) : W.grownBy w9 row :=
  ⟨h.os, h.tape, h.output, by have := h.size; simp at this; omega, fun i hi _ => (h.block i (by simp; omega) (fun e => by injection e; omega)).trans (heap_alloc_old W o hi)⟩
theorem inf3 : (Tryz.prog.info? 3).map (fun i => (i.zero, i.size, i.bytes)) = some (some (.int .i64 0), 1, 8) := by kernel_rfl
theorem one_row (w : Go.World) (base : Nat) (hb : base ≤ w.heap.size) (x : Int) : (w.alloc (.cells #[.int .i64 x] 3)).ownsRow base 3 1 (.slice (some ⟨w.heap.size, 0, none⟩) 1 1) 1 [.int .i64 x] :=
  ⟨rfl, .inr ⟨w.heap.size, 1, #[.int .i64 x], rfl, hb, heap_alloc_new w _, by omega, by decide, rfl, rfl⟩⟩
theorem one_ints (xs : List Int) : ∀ u ∈ xs.map (Value.int .i64 ·), u.oneCell' = true := fun u hu => by
  obtain ⟨x, _, rfl⟩ := List.mem_map.1 hu; rfl
theorem resV_some {w w' : Go.World} {v : Value} {m : Int} {xs : List Int} (h : w'.ownsRow w.heap.size 3 1 v (1 + xs.length) ([.int .i64 m] ++ xs.map (.int .i64 ·))) : ResV w w' v (some (m :: xs)) := by
  show w'.ownsRow w.heap.size 3 1 v (xs.length + 1) ((m :: xs).map (.int .i64 ·))
  rw [Nat.add_comm xs.length 1]; exact h
def Bnd (n k : Nat) : Prop := n + 12 ^ k ≤ 12 ^ 11
theorem Upto.room {l : List Deed} {k u : Nat} {r : List Write} {n j n' : Nat} (h : Upto l k u r n j n') (hb : Bnd n (k + 1)) (hj : j < 11) : n' + 12 ^ k ≤ 12 ^ 11 := by
  have h1 := h.1
  unfold Bnd at hb
  rw [Nat.pow_succ] at hb
  have h2 : j * 12 ^ k ≤ 10 * 12 ^ k := Nat.mul_le_mul_right _ (by omega)
  generalize 12 ^ k = p at *
  generalize (12 : Nat) ^ 11 = q at *
  omega
theorem Upto.fin {l : List Deed} {k u : Nat} {r : List Write} {n j n' : Nat} (h : Upto l k u r n j n') (hj : j < 11) : n' + 1 ≤ n + 12 ^ (k + 1) := by
  have h1 := h.1
  rw [Nat.pow_succ]
  have h2 : j * 12 ^ k ≤ 10 * 12 ^ k := Nat.mul_le_mul_right _ (by omega)
  have h3 : 0 < 12 ^ k := Nat.pow_pos (by omega)
  generalize 12 ^ k = p at *
  omega
theorem Upto.got {l : List Deed} {k u : Nat} {r : List Write} {n j n' n'' : Nat} (h : Upto l k u r n j n') (hn : n'' ≤ n' + 12 ^ k) (hj : j < 11) : n'' ≤ n + 12 ^ (k + 1) := by
  have h1 := h.1
  rw [Nat.pow_succ]
  have h2 : j * 12 ^ k ≤ 10 * 12 ^ k := Nat.mul_le_mul_right _ (by omega)
  have h3 : 0 < 12 ^ k := Nat.pow_pos (by omega)
  generalize 12 ^ k = p at *
  omega
theorem Upto.lt {l : List Deed} {k u : Nat} {r : List Write} {n j n' : Nat} (h : Upto l k u r n j n') (hb : Bnd n (k + 1)) (hj : j < 11) : n' < maxLen := by
  have h1 := h.room hb hj
  have h2 : (12 : Nat) ^ 11 = 743008370688 := by decide
  rw [h2] at h1
  have h3 := Nat.le_trans (Nat.le_add_right n' (12 ^ k)) h1
  unfold maxLen; omega
theorem Upto.all {l : List Deed} {k u : Nat} {r : List Write} {n n' : Nat} (h : Upto l k u r n (commD l).length n') : restU l (k + 1) u r = none := by
  have := h.2
  rwa [List.take_length] at this
theorem Upto.found {l : List Deed} {k u : Nat} {r : List Write} {n j n' m : Nat} {y : List Int} (h : Upto l k u r n j n') (hj : j < (commD l).length) (hm : nth (commD l) j = (m : Int)) (hg : gF l k u r (m : Int) = some y) : restU l (k + 1) u r = some y := by
  rw [restU_step, ← List.take_append_drop j (commD l), fstL_app, h.2]
  simp only
  rw [List.drop_eq_getElem_cons hj]
  have e : (commD l)[j] = (m : Int) := by rw [← hm, nth_lt hj]
  rw [e, fstL, hg]
def Lo (l : List Deed) (j m : Nat) : Prop := nth (commD l) j = (m : Int)
theorem box3 {W : Go.World} {b : Nat} {T : TypeId} {fz : Nat × Nat} {x0 x1 x2 : Value} (h : W.heap[b]? = some (.cells #[x0, x1, x2] T fz)) :
    W.cell? ⟨b, 0, none⟩ = some x0 ∧ W.cell? ⟨b, 1, none⟩ = some x1 ∧ W.cell? ⟨b, 2, none⟩ = some x2 := by
  refine ⟨?_, ?_, ?_⟩ <;> (simp only [World.cell?, h]; rfl)
theorem alloc_new' (w : Go.World) (o : Obj) : (w.alloc o).heap[w.heap.size]? = some o := heap_alloc_new w o
set_option maxHeartbeats 8000000 in
set_option maxRecDepth 1000000 in
theorem find_k (l : List Deed) (hwf : wfL Deed.wf l) (hg : goodHist l = true) : ∀ (k u : Nat) (r : List Write) (w : Go.World) (hv av rv : Value) (bm n : Nat) (D : Dm), remU l u = k → u < 1024 → rowsOk r = true → Srch l w hv av bm n D → Rep (Sb bm w) w noH (.sl false 3 (r.map (Write.row false))) rv [] → n + 12 ^ k ≤ 12 ^ 11 →
    Calls Tryz.prog 19 #[.agg #[hv, av, .map (some bm)], .int .i64 u, rv] w fun e w' => ∃ v n' D', e = .returned (.tuple #[v, .bool (restU l k u r).isSome]) ∧ ResV w w' v (restU l k u r) ∧ Srch l w' hv av bm n' D' ∧ n' ≤ n + 12 ^ k ∧ w.grownBy w' (some bm) := by
  intro k
  induction k using Nat.strongRecOn with
  | _ k ih =>
  intro u r w hv av rv bm n D hk hu hr hS hrv hn
  have hl10 := goodHist_len hg
  have hlc : (commD l).length ≤ 10 := by
    have hlen : (commD l).length = manyY l := comm_len l l.length
    have hm10 : manyY l ≤ l.length := cntN_le
    omega
  have hbm : bm < w.heap.size := hS.own.lt
  obtain ⟨ha, hc, rfl, -⟩ := deeds_at hS.h
  obtain ⟨aa, ac, rfl, -⟩ := ints_at hS.a
  obtain ⟨ra, rc, rfl, -⟩ := wr_at hrv
  generalize hW0 : w.alloc (.cells #[.slice ha l.length hc, .slice aa (commD l).length ac, .map (some bm)] 50) = W0
  have hB0 : Below w.heap.size w W0 := by rw [← hW0]; exact (Below.refl _ _).alloc (Nat.le_refl _) _
  have hS0 := hS.up hB0
  have hbx : W0.heap[w.heap.size]? = some (.cells #[.slice ha l.length hc, .slice aa (commD l).length ac, .map (some bm)] 50) := by rw [← hW0]; exact alloc_new' _ _
  have hz0 : w.heap.size < W0.heap.size := by rw [← hW0]; simp
  have hIt := acall_s (itoaH u (by omega)) (w := W0) (vs := #[.int .i64 u]) rfl (by simp only [RepRow, Rep]; exact ⟨_, [], [], rfl, ⟨rfl, rfl⟩, rfl, rfl⟩) hS0.inv
  go_enter Tryz.func19, Tryz.ntmps19
  go_wp2_with (go_at_call 37; refine hIt.mono ?_)
  rintro e W1 ⟨rfl, hB1⟩
  have hS1 := hS0.up hB1
  have hbx1 := (hB1.block w.heap.size hz0).trans hbx
  have hz1 : w.heap.size < W1.heap.size := Nat.lt_of_lt_of_le hz0 hB1.size
  have hw1 : w.grownBy W1 (some bm) := gsplit (gbelow hB0) hB1
  obtain ⟨b0, b1, b2⟩ := box3 hbx1
  rw [← kB_zero u r]
  clear hIt hB1 hB0 hbx hz0 hS0 hW0
  go_wp2
  go_loopw [9, 25] (fun c9 i wr => ∃ j : Nat, j ≤ (commD l).length ∧ c9 = .bool (dnB l u j) ∧ i = .int .i64 j ∧ W1 = wr) (fun _ i _ => (commD l).length - (intOf i).toNat)
  case atStart => exact ⟨0, by omega, rfl, rfl, rfl⟩
  case round =>
    obtain ⟨j, hj, rfl, rfl, rfl⟩ := hrel
    by_cases hjK : j < (commD l).length
    · obtain ⟨aa', ac', e1, hac⟩ := ints_at hS1.a
      obtain ⟨ab, ao, rfl, hac2⟩ := hac (by omega)
      obtain ⟨e1, e1c⟩ := sl_inj e1
      subst e1 e1c
      have d1 := hac2 j hjK
      obtain ⟨m, hm, hmY, hmx⟩ := comm_mem.1 (nth_mem hjK)
      have hmx : nth (commD l) j = (m : Int) := hmx
      rw [hmx] at d1
      have i0 : (0 : Int) ≤ (j : Int) := by omega
      have i1 : (j : Int) < ((commD l).length : Int) := by omega
      have hdn := dnB_succ u hjK
      rw [hmx, Int.toNat_natCast] at hdn
      cases hd : dnB l u j
      · go_wp2
        exact ⟨⟨j + 1, by omega, by rw [hdn, hd]; rfl, by simp, trivial⟩, by simp [intOf]; omega⟩
      · go_wp2
        exact ⟨⟨j + 1, by omega, by rw [hdn, hd, bitB u hu m (by omega)]; rfl, by simp, trivial⟩, by simp [intOf]; omega⟩
    · obtain rfl : j = (commD l).length := by omega
      clear hjK hj
      by_cases hk0 : k = 0
      · have hd : dnB l u (commD l).length = true := dnB_all.2 (by omega)
        subst hk0
        rw [hd]
        go_wp2
        go_ret2
        exact ⟨_, n, D, rfl, World.ownsRow_nil _ _ _ _, hS1, by omega, hw1⟩
      · have hd : dnB l u (commD l).length = false := by
          cases hd : dnB l u (commD l).length with
          | false => rfl
          | true => exact absurd (dnB_all.1 hd) (by omega)
        rw [hd]
        have hrk := (rowsOk_iff.1 hr)
        have hsz : ∀ w ∈ r, w.Key.size ≤ 12 ∧ w.Val.size ≤ 24 := fun w hw => okW_sz (hrk.2.2 w hw).1
        have hr24 := hrk.1
        have hrv1 := rep_g hrv hw1
        go_wp2
        go_loopw [8, 41] (fun c8 i wr => ∃ j : Nat, j ≤ r.length ∧ c8 = .string (kB u r j) ∧ i = .int .i64 j ∧ W1.grownBy wr (some bm) ∧ wr.ownsMap Tryz.prog 9 (plainElem Tryz.prog 4) bm n D) (fun _ i _ => r.length - (intOf i).toNat)
        case atStart => exact ⟨0, by omega, rfl, rfl, ⟨rfl, rfl, rfl, Nat.le_refl _, fun _ _ _ => rfl⟩, hS1.own⟩
        case round =>
          revert wr
          intro W2 hrel
          obtain ⟨j, hj, rfl, rfl, hg2, hown2⟩ := hrel
          by_cases hjK : j < r.length
          · obtain ⟨ra', rc', e1, hrc⟩ := wr_at (rep_g hrv1 hg2)
            obtain ⟨rb, ro, rfl, hrS, hrc2⟩ := hrc (by omega)
            obtain ⟨e1, e1c⟩ := sl_inj e1
            subst e1 e1c
            obtain ⟨d1, d2, d3⟩ := hrc2 j hjK
            have i0 : (0 : Int) ≤ (j : Int) := by omega
            have i1 : (j : Int) < (r.length : Int) := by omega
            have zq := hsz _ (nth_mem hjK)
            have zk := kB_size hu r hsz j
            have F1 := mkF (1 + (nth r j).Key.size) (by omega)
            have F2 := mkF (1 + (nth r j).Key.size + 1) (by omega)
            have F3 := mkF (1 + (nth r j).Key.size + 1 + (nth r j).Val.size) (by omega)
            have F4 := mkF ((kB u r j).size + (1 + (nth r j).Key.size + 1 + (nth r j).Val.size)) (by omega)
            go_wp2
            refine ⟨⟨j + 1, by omega, ?_, by simp, ?_, ?_⟩, by simp [intOf]; omega⟩
            · exact congrArg Value.string (kB_succ u hjK)
            · exact gtr hg2 (World.grownBy_alloc _ _ _)
            · exact hown2.alloc _
          · obtain rfl : j = r.length := by omega
            clear hjK hj
            have hbx2 := (hg2.block w.heap.size hz1 (nb hbm)).trans hbx1
            obtain ⟨b0, b1, b2⟩ := box3 hbx2
            have hS2 := hS1.g hg2 hown2 hS1.dead
            have hw2 := gtr hw1 hg2
            have hz2 : w.heap.size < W2.heap.size := Nat.lt_of_lt_of_le hz1 hg2.size
            have hkey : keyOf Tryz.prog 9 (.string (kB u r r.length)) = some (kyS u r) := by
              have hq := kB_size hu r hsz r.length
              have := WideMaps.keyOf_string_mk (k := 9) Tryz.underlying9 (s := kB u r r.length) (by unfold maxLen; omega)
              rwa [kB_all] at this
            have hR1 : Maps.has D (kyS u r) = true → restU l k u r = none := fun hcc => by
              have := dead_has hS2.dead hu hr hcc
              rwa [hk] at this
            have hsrt := hrk.2.1
            clear hS1 hw1 hbx1 hz1 hrv1 hd hg2 hown2 hrk hsz
            go_wp2_with (first
              | (at_lookup; refine wpList_lookup_b _ rfl _ _ 48 rfl 9 4 lawS Tryz.underlying48 Tryz.underlying4 (zeroB _) bm n D rfl hS2.own _ _ rfl hkey (fun hcc => ?_) (fun _ => ?_)
                 · have hno := hR1 hcc
                   go_wp2
                   go_ret2
                   exact ⟨_, n, D, by rw [hno]; rfl, by rw [hno]; rfl, hS2, Nat.le_add_right _ _, hw2⟩)
              | go_in)
            obtain ⟨k', rfl⟩ : ∃ k', k = k' + 1 := ⟨k - 1, by omega⟩
            clear hR1 hk0
            have hn : Bnd n (k' + 1) := hn
            go_loopw [62] (fun i wr => ∃ j n' : Nat, ∃ D' : Dm, j ≤ (commD l).length ∧ i = .int .i64 j ∧ W2.grownBy wr (some bm) ∧ Srch l wr (.slice ha l.length hc) (.slice aa (commD l).length ac) bm n' D' ∧ Upto l k' u r n j n') (fun i _ => (commD l).length - (intOf i).toNat)
            case atStart => exact ⟨0, n, D, by omega, rfl, ⟨rfl, rfl, rfl, Nat.le_refl _, fun _ _ _ => rfl⟩, hS2, by omega, rfl⟩
            case round =>
              revert wr
              intro wr hrel
              obtain ⟨j, n', D', hj, rfl, hg3, hS3, hup⟩ := hrel
              have hw3 := gtr hw2 hg3
              have hbx3 := (hg3.block w.heap.size hz2 (nb hbm)).trans hbx2
              have hz3 : w.heap.size < wr.heap.size := Nat.lt_of_lt_of_le hz2 hg3.size
              obtain ⟨b0, b1, b2⟩ := box3 hbx3
              by_cases hjK : j < (commD l).length
              · obtain ⟨aa', ac', e1, hac⟩ := ints_at hS3.a
                obtain ⟨ab, ao, rfl, hac2⟩ := hac (by omega)
                obtain ⟨e1, e1c⟩ := sl_inj e1
                subst e1 e1c
                have d1 := hac2 j hjK
                obtain ⟨m, hm, hmY, hmx⟩ := comm_mem.1 (nth_mem hjK)
                have hmx : nth (commD l) j = (m : Int) := hmx
                rw [hmx] at d1
                have i0 : (0 : Int) ≤ (j : Int) := by omega
                have i1 : (j : Int) < ((commD l).length : Int) := by omega
                have i2 : (0 : Int) ≤ (m : Int) := by omega
                have i3 : (m : Int) < (l.length : Int) := by omega
                have hlo : Lo l j m := hmx
                clear hmx hac hac2
                have hMay := acall_s (mayCome_ok l u m hl10 hu hm) (w := wr) (vs := #[.slice ha l.length hc, .slice (some ⟨ab, ao, none⟩) (commD l).length ac, .int .i64 u, .int .i64 m]) rfl (by simp only [RepRow]; exact ⟨_, [], [], rfl, hS3.h, ⟨_, [], [], rfl, hS3.a, ⟨_, [], [], rfl, by simp only [Rep]; exact ⟨rfl, trivial⟩, ⟨_, [], [], rfl, by simp only [Rep]; exact ⟨rfl, trivial⟩, rfl, rfl⟩, rfl⟩, rfl⟩, rfl⟩) hS3.inv
                rcases Bool.eq_false_or_eq_true (mayU l u m) with hmay | hmay
                rotate_left
                · rw [hmay] at hMay
                  go_wp2_with (go_at_call 38; refine hMay.mono ?_)
                  rintro e W4 ⟨rfl, hB4⟩
                  go_wp2
                  exact ⟨⟨j + 1, n', D', by omega, by simp, gsplit hg3 hB4, hS3.up hB4, hup.next hjK hlo (Nat.le_add_right _ _) (by rw [gF, Int.toNat_natCast, hmay]; rfl)⟩, by simp [intOf]; omega⟩
                · rw [hmay] at hMay
                  go_wp2_with (go_at_call 38; refine hMay.mono ?_)
                  rintro e W4 ⟨rfl, hB4⟩
                  have hw4 := gsplit hw3 hB4
                  have hS4 := hS3.up hB4
                  have hbx4 := (hB4.block w.heap.size hz3).trans hbx3
                  have hz4 : w.heap.size < W4.heap.size := Nat.lt_of_lt_of_le hz3 hB4.size
                  obtain ⟨b0, b1, b2⟩ := box3 hbx4
                  obtain ⟨ha', hc', e2, hdd⟩ := deeds_at hS4.h
                  obtain ⟨hb, ho, rfl, hdc⟩ := hdd (by omega)
                  obtain ⟨e2, e2c⟩ := sl_inj e2
                  subst e2 e2c
                  obtain ⟨y0, y1, y2, y3, y4, y5, y6, y7, c0, c1, c2, c3, c4, c5, c6, c7, qA, qW⟩ := hdc m hm
                  clear hdd hdc
                  obtain ⟨g1, g2, g3⟩ := goodDeed_writes (goodHist_mem hg hm)
                  have hCf := acall_s (confirms_ok r (nth l m) (by unfold maxLen; omega) (by omega) hsrt) (w := W4) (vs := #[.agg #[y0, y1, y2, y3, y4, y5, y6, y7], .slice ra r.length rc]) rfl (by simp only [RepRow]; exact ⟨_, [], [], rfl, qA, ⟨_, [], [], rfl, rep_g hrv hw4, rfl, rfl⟩, rfl⟩) hS4.inv
                  go_wp2_with (go_at_call 39; refine hCf.mono ?_)
                  rintro e W5 ⟨rfl, hB5⟩
                  have hw5 := gsplit hw4 hB5
                  have hg5 := gsplit (gsplit hg3 hB4) hB5
                  have hS5 := hS4.up hB5
                  have hbx5 := (hB5.block w.heap.size hz4).trans hbx4
                  have hz5 : w.heap.size < W5.heap.size := Nat.lt_of_lt_of_le hz4 hB5.size
                  obtain ⟨b0, b1, b2⟩ := box3 hbx5
                  clear c0 c1 c2 c3 c4 c5 c6 c7 qA qW hCf
                  rcases Bool.eq_false_or_eq_true (confD r (nth l m)) with hcf | hcf
                  rotate_left
                  · go_wp2
                    exact ⟨⟨j + 1, n', D', by omega, by simp, hg5, hS5, hup.next hjK hlo (Nat.le_add_right _ _) (by rw [gF, Int.toNat_natCast, hmay, fitB, hcf]; rfl)⟩, by simp [intOf]; omega⟩
                  · obtain ⟨ha', hc', e2, hdd⟩ := deeds_at hS5.h
                    obtain ⟨hb2, ho2, rfl, hdc⟩ := hdd (by omega)
                    obtain ⟨e2, e2c⟩ := sl_inj e2
                    injection e2 with e2
                    injection e2 with e3 e4 _
                    subst e3 e4 e2c
                    obtain ⟨y0, y1, y2, y3, y4, y5, y6, y7, -, -, -, -, -, -, -, c7, -, qW⟩ := hdc m hm
                    clear hdd hdc
                    by_cases h24 : (putRw r (nth l m).Writes).length ≤ 24
                    · have hok2 : rowsOk (nxR l r m) = true := (putRw_ok hr g1).trans (decide_eq_true h24)
                      have hP0 := putRows_ok r (nth l m).Writes (by omega) (by omega) hsrt
                      rw [if_pos h24] at hP0
                      have hPr := acall_pr (bm := bm) hP0 (w := W5) (vs := #[.slice ra r.length rc, y7]) hS5.own.lt rfl (by simp only [RepRow]; exact ⟨_, [], [], rfl, rep_g hrv hw5, ⟨_, [], [], rfl, qW, rfl, rfl⟩, rfl⟩) hS5.inv
                      go_wp2_with (go_at_call 40; refine hPr.mono ?_)
                      rintro e W6 ⟨nv, rfl, hnv, hB6⟩
                      have hw6 := gsplit hw5 hB6
                      have hg6 := gsplit hg5 hB6
                      have hS6 := hS5.up hB6
                      have hbx6 := (hB6.block w.heap.size hz5).trans hbx5
                      have hz6 : w.heap.size < W6.heap.size := Nat.lt_of_lt_of_le hz5 hB6.size
                      obtain ⟨b0, b1, b2⟩ := box3 hbx6
                      have hrem : remU l (u ||| 1 <<< m) = k' := by
                        have := remU_step hm hmY (mayU_bit hmay)
                        omega
                      have hIH := ih k' (by omega) (u ||| 1 <<< m) (nxR l r m) W6.drew _ _ nv bm n' D' hrem (orI_eq u hu m (by omega)).2 hok2 hS6.dr (rep_g hnv (gdrew W6 _)) (hup.room hn (by omega))
                      rw [← orB u hu m (by omega)] at hIH
                      clear hrem hPr hP0 c7 qW hMay
                      go_wp2
                      clear ih
                      go_region_held3 (fun w' => w'.cell? ⟨w.heap.size, 0, none⟩ = some (.slice (some ⟨hb, ho, none⟩) l.length hc) ∧ w'.cell? ⟨w.heap.size, 1, none⟩ = some (.slice (some ⟨ab, ao, none⟩) (commD l).length ac) ∧ w'.cell? ⟨w.heap.size, 2, none⟩ = some (.map (some bm))) (go_keep)
                        (first
                          | (go_at_call 19; refine hIH.mono ?_; rintro e W7 ⟨v7, n7, D7, rfl, hres, hS7, hn7, hg7⟩; have hbx7 := (hg7.block w.heap.size hz6 (nb hbm)).trans hbx6; obtain ⟨k0, k1, k2⟩ := box3 hbx7))
                      have hz7 : w.heap.size ≤ W7.heap.size := Nat.le_trans (Nat.le_of_lt hz6) hg7.size
                      have hg7' : W6.grownBy W7 (some bm) := ⟨hg7.os, hg7.tape, hg7.output, hg7.size, hg7.block⟩
                      have hk10 : k' ≤ 10 := by
                        have : remU l u ≤ l.length := cntN_le
                        omega
                      have hrc : restU l k' (u ||| 1 <<< m) (nxR l r m) = none ∨ ∃ xs, restU l k' (u ||| 1 <<< m) (nxR l r m) = some xs := by
                        cases restU l k' (u ||| 1 <<< m) (nxR l r m) with
                        | none => exact .inl rfl
                        | some xs => exact .inr ⟨xs, rfl⟩
                      clear hIH
                      rcases hrc with hq | ⟨xs, hq⟩
                      · have hb0 : (restU l k' (u ||| 1 <<< m) (nxR l r m)).isSome = false := by rw [hq]; rfl
                        have hnx := hup.next hjK hlo hn7 (by rw [gF, Int.toNat_natCast, hmay, fitB, hcf, decide_eq_true h24, hq]; rfl)
                        clear hq hres
                        rw [hb0]
                        clear hb0
                        go_wp2
                        exact ⟨⟨j + 1, n7, D7, by omega, by simp, gtr hg6 hg7', hS7, hnx⟩, by simp [intOf]; omega⟩
                      · have hb0 : (restU l k' (u ||| 1 <<< m) (nxR l r m)).isSome = true := by rw [hq]; rfl
                        have hxl := restU_len hq
                        have hfd : restU l (k' + 1) u r = some ((m : Int) :: xs) := hup.found hjK hlo (by rw [gF, Int.toNat_natCast, hmay, fitB, hcf, decide_eq_true h24, hq]; rfl)
                        rw [hq] at hres
                        obtain ⟨i0', hi3, hz30, hz31, hz32⟩ := info_parts inf3
                        have hmade := one_row W7 w.heap.size hz7 m
                        have hrow : W7.ownsRow W6.drew.heap.size 3 1 v7 xs.length (xs.map (.int .i64 ·)) := hres
                        clear hq hres
                        rw [hb0]
                        clear hb0
                        rcases hrow.2 with ⟨rfl, hx0⟩ | ⟨g, cap, cur, rfl, -⟩
                        · have hx0 : xs = [] := List.eq_nil_of_length_eq_zero hx0
                          subst hx0
                          go_wp2_with (first
                            | (at_builtin; refine wpList_append_own_none rfl _ _ 24 rfl w.heap.size 3 i0' 1 Tryz.underlying24 hi3 _ 1 [.int .i64 m] rfl hmade rfl ?_)
                            | go_in)
                          go_ret2
                          refine ⟨_, n7, D7, by rw [hfd]; rfl, by rw [hfd]; exact resV_some hmade, hS7.al _, hup.got hn7 (by omega), gtr hw6 (gtr hg7' (World.grownBy_alloc _ _ _))⟩
                        · have hnews := (hrow.alloc (.cells #[.int .i64 m] 3)).cells (g := g) rfl
                          go_wp2_with (first
                            | (at_builtin; refine wpList_append_own _ rfl _ _ 24 rfl w.heap.size 3 i0' (.int .i64 0) 1 8 Tryz.underlying24 hi3 hz30 hz31 hz32 rfl (by decide) _ 1 [.int .i64 m] rfl hmade ⟨g, 0, none⟩ xs.length cap (xs.map (.int .i64 ·)) rfl (by simp) hnews (one_ints xs) (by unfold maxLen; omega) (by omega) (by simp; omega) ?_; intro v9 w9 hown9 hg9 _)
                            | go_in)
                          go_ret2
                          refine ⟨_, n7, D7, by rw [hfd]; rfl, by rw [hfd]; exact resV_some hown9, hS7.g (gapp hg9) (hS7.own.kept (gapp hg9 (row := none)) (by simp)) hS7.dead, hup.got hn7 (by omega), gtr hw6 (gtr hg7' (gapp hg9))⟩
                    · have hP0 := putRows_ok r (nth l m).Writes (by omega) (by omega) hsrt
                      rw [if_neg h24] at hP0
                      have hPr := acall_pr (bm := bm) (R := []) hP0 (w := W5) (vs := #[.slice ra r.length rc, y7]) hS5.own.lt rfl (by simp only [RepRow]; exact ⟨_, [], [], rfl, rep_g hrv hw5, ⟨_, [], [], rfl, qW, rfl, rfl⟩, rfl⟩) hS5.inv
                      go_wp2_with (go_at_call 40; refine hPr.mono ?_)
                      rintro e W6 ⟨nv, rfl, hnv, hB6⟩
                      go_wp2
                      exact ⟨⟨j + 1, n', D', by omega, by simp, gsplit hg5 hB6, hS5.up hB6, hup.next hjK hlo (Nat.le_add_right _ _) (by rw [gF, Int.toNat_natCast, hmay, fitB, hcf, decide_eq_false h24]; rfl)⟩, by simp [intOf]; omega⟩
              · obtain rfl : j = (commD l).length := by omega
                clear hjK hj
                have hno : restU l (k' + 1) u r = none := hup.all
                have hno2 : restU l (remU l u) u r = none := by rw [hk]; exact hno
                go_wp2_with (first
                  | (at_mapUpdate; refine wpList_mapUpdate_own _ rfl _ _ _ 48 rfl 9 4 lawS Tryz.underlying48 _ bm n' D' rfl hS3.own (hup.lt hn (by omega)) _ _ _ rfl rfl hkey _ [] (plainElem_bool Tryz.underlying4 true) ?_; intro w5 hown5 hg5)
                  | go_in)
                go_ret2
                exact ⟨_, n' + 1, _, by rw [hno]; rfl, by rw [hno]; rfl, hS3.g hg5 hown5 (dead_put hS3.dead hu hr hno2 _), hup.fin (by omega), gtr hw3 hg5⟩
theorem acall_cv {f : Nat} {ts : List T} {x : Value} (h : ACall Tryz.prog f ts (fun r _ => r = .v x)) {w : Go.World} {vs : Array Value} (hv : vs.size = ts.length) (hr : RepRow (fun b => b < w.heap.size) w noH (fun i => vs[i]?) 0 ts []) (hT : Inv w fun b => b < w.heap.size) :
    Calls Tryz.prog f vs w fun e w' => e = .returned x ∧ Below w.heap.size w w' := by
  refine (h w (fun b => b < w.heap.size) [] vs hv hr List.nodup_nil (by simp) (fun _ h => h) hT).mono ?_
  rintro e w' ⟨rv, r, l, S', Fr, Fa, rfl, rfl, _, hb⟩
  have := hb.res
  simp only [Rep] at this
  exact ⟨by rw [this.1], below_of_kept' hb.kept⟩
theorem acall_ints {f : Nat} {ts : List T} {xs : List Int} (h : ACall Tryz.prog f ts (fun r _ => r = .sl true 1 (ints xs))) {w : Go.World} {vs : Array Value} (hv : vs.size = ts.length) (hr : RepRow (fun b => b < w.heap.size) w noH (fun i => vs[i]?) 0 ts []) (hT : Inv w fun b => b < w.heap.size) :
    Calls Tryz.prog f vs w fun e w' => ∃ rv, e = .returned rv ∧ Rep (fun b => b < w'.heap.size) w' noH (.sl false 1 (ints xs)) rv [] ∧ Below w.heap.size w w' := by
  refine (h w (fun b => b < w.heap.size) [] vs hv hr List.nodup_nil (by simp) (fun _ h => h) hT).mono ?_
  rintro e w' ⟨rv, r, l, S', Fr, Fa, rfl, rfl, _, hb⟩
  refine ⟨rv, rfl, ?_, below_of_kept' hb.kept⟩
  have h1 := rep_dsh _ (rep_monoS (S' := fun b => b < w'.heap.size) (fun b hb' => (hb.shared b hb').1) _ hb.res) (fun c hc => (hb.mine c (List.mem_append_left _ hc)).2.1)
  have e : dshLL (ints xs) = ints xs := by
    rw [dshLL_eq, ints, List.map_map]
    rfl
  rwa [T.dsh, e] at h1
theorem rep_up {W W' : Go.World} {t : T} {y : Value} (h : Rep (fun b => b < W.heap.size) W noH t y []) (hB : Below W.heap.size W W') : Rep (fun b => b < W'.heap.size) W' noH t y [] :=
  rep_monoS (fun b hb => Nat.lt_of_lt_of_le hb hB.size) _ (rep_frame _ h fun b hb => hB.block b (by simpa using hb))
theorem inv_up {w w' : Go.World} (h : Inv w fun b => b < w.heap.size) (hB : Below w.heap.size w w') : Inv w' fun b => b < w'.heap.size :=
  h.mono (fun b hb => Nat.lt_of_lt_of_le hb hB.size) (fun b hb => hB.block b hb)
theorem srch_new {l : List Deed} {w : Go.World} {hv av : Value} (hh : Rep (fun b => b < w.heap.size) w noH (.sl false 8 (l.map (Deed.row false))) hv []) (ha : Rep (fun b => b < w.heap.size) w noH (.sl false 1 (ints (commD l))) av []) (hT : Inv w fun b => b < w.heap.size) : Srch l (w.alloc (.map #[] 0)) hv av w.heap.size 0 (.map []) := by
  have hB : Below w.heap.size w (w.alloc (.map #[] 0)) := (Below.refl _ _).alloc (Nat.le_refl _) _
  have up : ∀ {t : T} {y : Value}, Rep (fun b => b < w.heap.size) w noH t y [] → Rep (Sb w.heap.size (w.alloc (.map #[] 0))) (w.alloc (.map #[] 0)) noH t y [] := fun h =>
    rep_monoS (fun b hb => ⟨by simp; omega, by omega⟩) _ (rep_frame _ h fun b hb => hB.block b (by simpa using hb))
  exact ⟨up hh, up ha, hT.mono (fun b hb => ⟨by simp; omega, by omega⟩) (fun b hb => hB.block b hb), World.ownsMap_made _ _ _ _, dead_nil l⟩
theorem remU_0 (l : List Deed) : remU l 0 = manyY l := by
  unfold remU manyY
  congr 1
  funext i
  simp
theorem okF_rest {l : List Deed} (hg : goodHist l = true) : okF l = restU l (remU l 0) 0 [] := by
  rw [okF, findS_rest hg (manyY l) [] 0 [] (fun m _ => by simp), remU_0]
  cases restU l (manyY l) 0 [] <;> simp
def RO (w w' : Go.World) (v : Value) (xs : List Int) : Prop := w'.ownsRow w.heap.size 3 1 v xs.length (xs.map (.int .i64 ·))
theorem row_base {w' : Go.World} {b0 b1 : Nat} {e : TypeId} {s n : Nat} {v : Value} {xs : List Value} (h : w'.ownsRow b1 e s v n xs) (hb : b0 ≤ b1) : w'.ownsRow b0 e s v n xs := by
  refine ⟨h.1, ?_⟩
  rcases h.2 with h2 | ⟨g, cap, cur, h1, h2, h3⟩
  · exact .inl h2
  · exact .inr ⟨g, cap, cur, h1, Nat.le_trans hb h2, h3⟩
set_option maxHeartbeats 4000000 in
set_option maxRecDepth 1000000 in
theorem fo_k (l : List Deed) (hl : l.length ≤ 2 ^ 20) (hwf : wfL Deed.wf l) (w : Go.World) (hv : Value) (hrep : Rep (fun b => b < w.heap.size) w noH (.sl false 8 (l.map (Deed.row false))) hv []) (hT : Inv w fun b => b < w.heap.size) :
    Calls Tryz.prog 7 #[hv] w fun e w' => ∃ v, e = .returned (.tuple #[v, .bool (ordF l).2.1, .bool (ordF l).2.2]) ∧ RO w w' v (ordF l).1 ∧ Below w.heap.size w w' := by
  obtain ⟨ha, hc, rfl, -⟩ := deeds_at hrep
  have hGd := acall_cv (GoodHistory_ok l hwf) (w := w) (vs := #[.slice ha l.length hc]) rfl (by simp only [RepRow]; exact ⟨_, [], [], rfl, hrep, rfl, rfl⟩) hT
  have hmm := @run_makeMap Tryz.prog
  go_enter Tryz.func7, Tryz.ntmps7
  go_wp2_with (go_at_call 17; refine hGd.mono ?_)
  rintro e W1 ⟨rfl, hB1⟩
  have hT1 := inv_up hT hB1
  have hr1 := rep_up hrep hB1
  rcases Bool.eq_false_or_eq_true (goodHist l) with hg | hg
  rotate_left
  · have e : ordF l = ([], false, false) := by simp [ordF, hg]
    rw [hg]
    go_wp2
    go_ret3
    exact ⟨_, by rw [e]; rfl, by rw [e]; exact World.ownsRow_nil _ _ _ _, hB1⟩
  · have hCm := acall_ints (committed_ok l hl) (w := W1) (vs := #[.slice ha l.length hc]) rfl (by simp only [RepRow]; exact ⟨_, [], [], rfl, hr1, rfl, rfl⟩) hT1
    rw [hg]
    go_wp2_with (go_at_call 18; refine hCm.mono ?_)
    rintro e W2 ⟨av, rfl, hav, hB2⟩
    obtain ⟨aa, ac, rfl, -⟩ := ints_at hav
    have hS3 := srch_new (rep_up hr1 hB2) hav (inv_up hT1 hB2)
    have hS4 := hS3.al (.cells #[] 69)
    have hl10 := goodHist_len hg
    have hk10 : remU l 0 ≤ 10 := by
      have : remU l 0 ≤ l.length := cntN_le
      omega
    have hF := find_k l hwf hg (remU l 0) 0 [] ((W2.alloc (.map #[] 0)).alloc (.cells #[] 69)) _ _ (.slice (some ⟨W2.heap.size + 1, 0, none⟩) 0 0) W2.heap.size 0 (.map []) rfl (by omega) (by simp [rowsOk, goodWrites, allN]) hS4 (by simp only [List.map_nil, Rep]; exact ⟨_, 0, rfl, .inl (by simp)⟩) (by rw [Nat.zero_add]; exact Nat.pow_le_pow_right (by omega) (by omega))
    have hB : Below w.heap.size w W2 := hB1.trans (hB2.mono hB1.size)
    rw [← okF_rest hg] at hF
    have e0 : ((0 : Nat) : Int) = 0 := rfl
    rw [e0] at hF
    clear hS3 hS4
    go_wp2_with (go_at_call 19; refine hF.mono ?_)
    rintro e W5 ⟨v, n', D', rfl, hres, -, -, hg5⟩
    have hz := hg5.size
    simp only [World.size_alloc] at hz
    have hB5 : Below w.heap.size w W5 := by
      have h1 := hB.size
      refine ⟨hg5.os.trans hB.os, hg5.tape.trans hB.tape, hg5.output.trans hB.output, by omega, fun b hb => ?_⟩
      rw [hg5.block b (by simp only [World.size_alloc]; omega) (fun e => by injection e; omega), heap_alloc_old _ _ (by simp only [World.size_alloc]; omega), heap_alloc_old _ _ (by omega)]
      exact hB.block b hb
    clear hF
    have hq : okF l = none ∨ ∃ o, okF l = some o := by
      cases okF l with
      | none => exact .inl rfl
      | some o => exact .inr ⟨o, rfl⟩
    rcases hq with hq | ⟨o, hq⟩
    · have e : ordF l = ([], false, true) := by simp [ordF, hg, hq]
      rw [hq] at hres
      have hb0 : (okF l).isSome = false := by rw [hq]; rfl
      rw [hb0]
      clear hq hb0
      go_wp2
      go_ret3
      exact ⟨v, by rw [e]; rfl, by rw [e, show v = .slice none 0 0 from hres]; exact World.ownsRow_nil _ _ _ _, hB5⟩
    · have e : ordF l = (o, true, true) := by simp [ordF, hg, hq]
      rw [hq] at hres
      have hb0 : (okF l).isSome = true := by rw [hq]; rfl
      rw [hb0]
      clear hq hb0
      go_wp2
      go_ret3
      exact ⟨v, by rw [e]; rfl, by rw [e]; exact row_base hres (by have := hB.size; simp only [World.size_alloc]; omega), hB5⟩
theorem rows_ints {S : Nat → Prop} {w : Go.World} {ρ : Nat → Option Hd} {cell : Nat → Option Value} : ∀ (xs : List Int) (o : Nat), (∀ j x, xs[j]? = some x → cell (o + j) = some (.int .i64 x)) → RepRows S w ρ cell o 1 (ints xs) []
  | [], _, _ => by simp only [ints, List.map_nil, RepRows]
  | x :: xs, o, h => by
    have ih := rows_ints (S := S) (w := w) (ρ := ρ) xs (o + 1) (fun j y hj => by
      have := h (j + 1) y (by simpa using hj)
      rwa [show o + (j + 1) = o + 1 + j by omega] at this)
    have h0 := h 0 x rfl
    simp only [ints, List.map_cons, RepRows, RepRow, Rep]
    exact ⟨[], [], rfl, ⟨_, [], [], h0, ⟨rfl, rfl⟩, rfl, rfl⟩, ih, rfl⟩
theorem own_rep {S : Nat → Prop} {w w' : Go.World} {v : Value} {xs : List Int} (hS : ∀ b, S b → b < w.heap.size) (h : RO w w' v xs) : ∃ Fr, Rep S w' noH (.sl true 1 (ints xs)) v Fr ∧ Fr.Nodup ∧ ∀ b, b ∈ Fr → ¬ S b ∧ b < w'.heap.size ∧ w.heap.size ≤ b := by
  have hlen : (ints xs).length = xs.length := by simp [ints]
  rcases h.2 with ⟨rfl, h0⟩ | ⟨g, cap, cur, rfl, hb, hh, hle, hcm, hcs, htk⟩
  · obtain rfl : xs = [] := List.eq_nil_of_length_eq_zero h0
    refine ⟨[], ?_, List.nodup_nil, by simp⟩
    simp only [Rep]
    exact ⟨none, 0, rfl, .inl ⟨rfl, by first | trivial | rfl, by first | trivial | rfl⟩⟩
  · refine ⟨[g], ?_, by simp, fun b hb2 => ?_⟩
    · simp only [Rep]
      refine ⟨some ⟨g, 0, none⟩, cap, by rw [hlen], .inr ⟨g, 0, cur, 3, (0, 0), [], rfl, hh, by rw [hlen]; exact hle, by omega, rows_ints xs 0 fun j x hj => ?_, rfl, fun i _ h => by omega⟩⟩
      have h1 : (xs.map (Value.int .i64 ·))[j]? = some (.int .i64 x) := by rw [List.getElem?_map, hj]; rfl
      rw [← htk, List.getElem?_take] at h1
      split at h1
      · simpa using h1
      · cases h1
    · obtain rfl : b = g := by simpa using hb2
      exact ⟨fun h => by have := hS _ h; omega, (Array.getElem?_eq_some_iff.1 hh).1, hb⟩
theorem findH : FindH := by
  intro l hwf hl w S0 F vs hsz hrep hnd hF hS0 hT
  have hrep0 := hrep
  simp only [RepRow] at hrep
  obtain ⟨y, F1, F2, c1, hy, rfl, hg6⟩ := hrep
  obtain rfl := sl_nil hy
  have hFn : F = [] := by rw [hg6]; rfl
  subst hFn
  have hvs : vs = #[y] := by
    apply Array.ext
    · simpa using hsz
    · intro i h1 h2
      simp at h2
      subst h2
      rw [Array.getElem?_eq_getElem h1] at c1; simpa using c1
  subst hvs
  refine (fo_k l hl hwf w y (rep_monoS (fun b hb => hS0 b hb) _ hy) (hT.mono (fun b hb => hS0 b hb) fun _ _ => rfl)).mono ?_
  rintro e w' ⟨v, rfl, hro, hB⟩
  obtain ⟨Fr, hv, hnod, hmine⟩ := own_rep hS0 hro
  refine ⟨_, .tup [.sl true 1 (ints (ordF l).1), bl (ordF l).2.1, bl (ordF l).2.2], [.sl false 8 (l.map (Deed.row false))], S0, Fr, [], rfl, rfl, rfl, ⟨?_, ?_, by simpa using hnod, fun b hb => ?_, fun b hb => ⟨Nat.lt_of_lt_of_le (hS0 b hb) hB.size, .inl hb⟩, fun b h => h, ⟨hB.os, hB.tape, hB.output, hB.size, fun b hb _ => hB.block b hb, fun b arr el fr h => ?_⟩⟩⟩
  · have t2 : ∀ x : Bool, Rep S0 w' noH (bl x) (.bool x) [] := fun x => by simp only [Rep]; exact ⟨trivial, trivial⟩
    have hR : RepRow S0 w' noH (fun i => (#[v, .bool (ordF l).2.1, .bool (ordF l).2.2] : Array Value)[i]?) 0 [.sl true 1 (ints (ordF l).1), bl (ordF l).2.1, bl (ordF l).2.2] Fr := by
      simp only [RepRow]
      exact ⟨_, Fr, [], rfl, hv, ⟨_, [], [], rfl, t2 _, ⟨_, [], [], rfl, t2 _, rfl, rfl⟩, rfl⟩, by simp⟩
    rw [show ∀ l y F, Rep S0 w' noH (.tup l) y F = ∃ vs : Array Value, y = .tuple vs ∧ vs.size = l.length ∧ RepRow S0 w' noH (fun i => vs[i]?) 0 l F from fun _ _ _ => by simp only [Rep]]
    exact ⟨_, rfl, rfl, hR⟩
  · exact repRow_frame _ hrep0 fun b hb => hB.block b (hb.elim (fun h => (hF b h).2) (hS0 b))
  · obtain ⟨q1, q2, q3⟩ := hmine b (by simpa using hb)
    exact ⟨q1, q2, .inr q3⟩
  · have hb : b < w.heap.size := (Array.getElem?_eq_some_iff.1 h).1
    exact ⟨arr, fr, by rw [hB.block b hb]; exact h, rfl⟩
end Go.Proofs.Wb

import Derived.Test.YtalbfdhdbgcikaaDoorFnExactHistoryTextItoa
import Derived.Test.YtalbfdhdbgcikaaDoorLayB
import Derived.WalkKit
import Derived.BigCall
import Derived.Lib.FrozenHead2
import Derived.Lib.OthersKept
import Derived.Deep.RegionHeld3
set_option linter.unusedVariables false
set_option linter.unusedSimpArgs false
namespace Go.Proofs.Bld
open Go Go.RowKit Go.Shelf Go.Proofs
theorem szB : (Tryd.prog.info? 57).map (·.size) = some 2 := by kernel_rfl
theorem liB : liesAt Tryd.prog Tryd.prog.depth 57 (2 / Tryd.prog.cellsOf 57) 0 57 1 = true := by kernel_rfl
theorem inf5 : (Tryd.prog.info? 5).map (fun i => (i.zero, i.size, i.bytes)) = some (some (.int .u8 0), 1, 1) := by kernel_rfl
theorem X169 : Builder.Extra Tryd.prog Tryd.lays169_ren :=
  { sizeBuilder := by kernel_rfl, liesBuilder := by kernel_rfl, t5 := Tryd.underlying5, a5 := Tryd.isAgg5, z5 := Tryd.sizeOf5, v5 := Tryd.zeroValue5, infoByte := by kernel_rfl, cellsByte := by kernel_rfl, sizeByte := by kernel_rfl, neB5 := by decide }
set_option maxHeartbeats 1000000 in
set_option maxRecDepth 100000 in
theorem cc_fresh (b : Nat) (w : World) (h0 : w.cell? ⟨b, 0, none⟩ = some (.pointer none)) (hsh : w.shape? b = some (57, 2)) (hfz : w.frozen? ⟨b, 0, none⟩ = false) :
    Calls Tryd.prog 44 #[.pointer (some ⟨b, 0, none⟩)] w fun e w' => e = .returned (.tuple #[]) ∧ w' = w.setCell ⟨b, 0, none⟩ (.pointer (some ⟨b, 0, none⟩)) := by
  obtain ⟨j, hj, hjs⟩ := Option.map_eq_some_iff.1 szB
  go_enter Tryd.func44, Tryd.ntmps44
  go_wp2
  rw [Lib.run_to_unsafe w ⟨b, 0, none⟩ Tryd.underlying55 Tryd.underlying90 hj (by rw [hjs]; decide) hsh (Nat.zero_lt_succ 1)]
  simp only [Result.andThen]
  rw [Oper.upon_value]
  go_wp2
  rw [run_callFunc_extern Tryd.func59 (by kernel_rfl) (by kernel_rfl) (by kernel_rfl) (e := Extern.AbiNoEscape.same) (by kernel_rfl)]
  rw [Lib.run_noEscape]
  simp only [Result.andThen]
  rw [Oper.upon_value]
  go_wp2
  rw [Lib.run_from_unsafe w ⟨b, 0, none⟩ Tryd.underlying90 Tryd.underlying55 hj hsh liB]
  simp only [Result.andThen]
  rw [Oper.upon_value]
  go_wp2
  go_end0
  exact ⟨rfl, rfl⟩
set_option maxHeartbeats 1000000 in
set_option maxRecDepth 100000 in
theorem cc_used (b : Nat) (w : World) (h0 : w.cell? ⟨b, 0, none⟩ = some (.pointer (some ⟨b, 0, none⟩))) :
    Calls Tryd.prog 44 #[.pointer (some ⟨b, 0, none⟩)] w fun e w' => e = .returned (.tuple #[]) ∧ w' = w := by
  obtain ⟨j, hj, _⟩ := Option.map_eq_some_iff.1 szB
  go_enter Tryd.func44, Tryd.ntmps44
  go_wp2
  rw [Lib.run_neq_ptr_same w _ Tryd.underlying55 hj]
  go_wp2
  go_end0
  exact ⟨rfl, rfl⟩
theorem cc_k (B b : Nat) (bs : List Value) (w : World) (h : Lib.IsBuilderF 57 5 B b bs w) :
    Calls Tryd.prog 44 #[.pointer (some ⟨b, 0, none⟩)] w fun e w' => e = .returned (.tuple #[]) ∧ (Lib.BuilderAtF 57 5 B b (.pointer (some ⟨b, 0, none⟩)) bs w' ∧ Below B w w' ∧ Lib.OthersKept 5 (some b) w w') := by
  rcases h with h | h
  · refine (cc_fresh b w h.cell0 h.shape h.frozen0).mono ?_
    rintro e w' ⟨rfl, rfl⟩
    exact ⟨rfl, h.used _, (Below.refl B w).setCell (p := ⟨b, 0, none⟩) h.1 _, (Lib.OthersKept.refl _ _ w).setCell ⟨b, 0, none⟩ rfl _⟩
  · refine (cc_used b w h.cell0).mono ?_
    rintro e w' ⟨rfl, rfl⟩
    exact ⟨rfl, h, Below.refl B _, Lib.OthersKept.refl _ _ _⟩
set_option maxHeartbeats 2000000 in
set_option maxRecDepth 100000 in
theorem ws_k (B b : Nat) (bs : List Value) (s : ByteArray) (w : World) (h : Lib.IsBuilderF 57 5 B b bs w) (hlen : bs.length + s.size ≤ 140737488355328) (hBw : B ≤ w.heap.size) :
    Calls Tryd.prog 25 #[.pointer (some ⟨b, 0, none⟩), .string s] w fun e w' => (∃ x, e = .returned x) ∧ (Lib.BuilderAtF 57 5 B b (.pointer (some ⟨b, 0, none⟩)) (bs ++ Lib.strCells s) w' ∧ Below B w w' ∧ Lib.OthersKept 5 (some b) w w') := by
  obtain ⟨i0, hi, hz0, hz1, hz2⟩ := info_parts inf5
  go_enter Tryd.func25, Tryd.ntmps25
  go_wp2_with (go_at_call 44; refine (cc_k B b bs _ h).mono ?_)
  rintro e w1 ⟨rfl, h1, hb1, hk1⟩
  obtain ⟨hB, v, hbk, hown, hne⟩ := h1
  have c0 : w1.cell? ⟨b, 0, none⟩ = some (.pointer (some ⟨b, 0, none⟩)) := by rw [Lib.cell_of_heap hbk]; rfl
  have c1 : w1.cell? ⟨b, 1, none⟩ = some v := by rw [Lib.cell_of_heap hbk]; rfl
  go_wp2_with (at_builtin; refine Lib.wpList_append_own_stringF _ rfl _ _ 51 9 rfl B 5 i0 Tryd.underlying51 Tryd.underlying9 hi hz0 hz1 hz2 _ _ _ rfl hown s rfl ?c3 ?c4 ?c5 ?_)
  case c3 => unfold maxLen; omega
  case c4 => omega
  case c5 => have := hb1.size; omega
  intro v' w2 hown' hgrow _
  have hlt : b < w1.heap.size := by
    rcases Nat.lt_or_ge b w1.heap.size with h' | h'
    · exact h'
    · simp [Array.getElem?_eq_none h'] at hbk
  have hb2 : w2.heap[b]? = some (.cells #[.pointer (some ⟨b, 0, none⟩), v] 57 (0, 0)) := by
    rw [hgrow.block b hlt (fun e => hne e.symm)]
    exact hbk
  have d0 : w2.cell? ⟨b, 0, none⟩ = some (.pointer (some ⟨b, 0, none⟩)) := by rw [Lib.cell_of_heap hb2]; rfl
  have d1 : w2.cell? ⟨b, 1, none⟩ = some v := by rw [Lib.cell_of_heap hb2]; rfl
  have f1 : w2.frozen? ⟨b, 1, none⟩ = false := Lib.frozen_of_heap hb2 1
  obtain ⟨ao, n', cap, rfl⟩ : ∃ ao n' cap, v' = .slice ao n' cap := by
    rcases hown'.2 with ⟨hv, _⟩ | ⟨g, cap, cur, fz, hv, _⟩
    · exact ⟨_, _, _, hv⟩
    · exact ⟨_, _, _, hv⟩
  go_wp2
  go_ret2
  refine ⟨⟨_, rfl⟩, ?_, ?_, (hk1.grown hgrow (Lib.ownsRowF_kind hown)).setCell ⟨b, 1, none⟩ rfl _⟩
  · exact Lib.BuilderAtF.put (T := 57) (e := 5) hB hb2 (bs' := bs ++ Lib.strCells s) (by simpa [Lib.strCells_length] using hown') (by decide)
  · exact (hb1.grown hgrow (by have := hb1.size; omega) (fun k hk => (hown.lt k hk).1)).setCell (p := ⟨b, 1, none⟩) hB _
def Ws (n₀ : Nat) (w : World) (v : Value) (len : Nat) (zs : Nat → ByteArray × ByteArray × Bool) : Prop :=
  ∃ a cap, v = .slice a len cap ∧ (len = 0 ∨ ∃ b off, a = some ⟨b, off, none⟩ ∧ b < n₀ ∧ ∀ j, j < len → w.cell? ⟨b, off + j * 3, none⟩ = some (.string (zs j).1) ∧ w.cell? ⟨b, off + j * 3 + 1, none⟩ = some (.string (zs j).2.1) ∧ w.cell? ⟨b, off + j * 3 + 2, none⟩ = some (.bool (zs j).2.2))
theorem cells8 {W : World} {b : Nat} {T : TypeId} {fz : Nat × Nat} {x0 x1 x2 x3 x4 x5 x6 x7 : Value} (h : W.heap[b]? = some (.cells #[x0, x1, x2, x3, x4, x5, x6, x7] T fz)) :
    W.cell? ⟨b, 0, none⟩ = some x0 ∧ W.cell? ⟨b, 1, none⟩ = some x1 ∧ W.cell? ⟨b, 2, none⟩ = some x2 ∧ W.cell? ⟨b, 3, none⟩ = some x3 ∧ W.cell? ⟨b, 4, none⟩ = some x4 ∧ W.cell? ⟨b, 5, none⟩ = some x5 ∧ W.cell? ⟨b, 6, none⟩ = some x6 ∧ W.cell? ⟨b, 7, none⟩ = some x7 := by
  refine ⟨?_, ?_, ?_, ?_, ?_, ?_, ?_, ?_⟩ <;> (rw [Lib.cell_of_heap h]; rfl)
theorem freshB {W : World} {B b : Nat} (hB : B ≤ b) (h : W.heap[b]? = some (.cells #[.pointer none, .slice none 0 0] 57 (0, 0))) : Lib.IsBuilderF 57 5 B b [] W :=
  Lib.IsBuilderF.of (.inl ⟨hB, .slice none 0 0, h, World.ownsRow_nil _ _ _ _, by simp [Value.ownBlock]⟩)
theorem alloc_new (w : World) (o : Obj) : (w.alloc o).heap[w.heap.size]? = some o := by first | exact Lib.heap_alloc_new w o | exact heap_alloc_new w o
def baseW (w : World) (cs : Array Value) : World := (w.alloc (.cells cs 39)).alloc (.cells #[.pointer none, .slice none 0 0] 57)
theorem base8 (w : World) (cs : Array Value) : (baseW w cs).heap.size = w.heap.size + 1 + 1 ∧ Below w.heap.size w (baseW w cs) ∧ (baseW w cs).heap[w.heap.size]? = some (.cells cs 39 (0, 0)) ∧ (baseW w cs).heap[w.heap.size + 1]? = some (.cells #[.pointer none, .slice none 0 0] 57 (0, 0)) := by
  refine ⟨by simp only [baseW, World.size_alloc], ((Below.refl _ w).alloc (Nat.le_refl _) _).alloc (by simp) _, (Lib.alloc_old _ _ _ (by simp)).trans (alloc_new _ _), ?_⟩
  have := alloc_new (w.alloc (.cells cs 39)) (.cells #[.pointer none, .slice none 0 0] 57)
  rwa [World.size_alloc] at this
def Is (s t : ByteArray) : Prop := s = t
theorem app10 (l m : List UInt8) : (⟨l.toArray⟩ : ByteArray) ++ ⟨m.toArray⟩ = ⟨(l ++ m).toArray⟩ := by
  apply ByteArray.ext; simp [ByteArray.data_append]
theorem mkF (X : Nat) (h : X ≤ 2 ^ 30) : ∀ n : Nat, 9223372036854775000 ≤ n → (n < X) = False := fun n hn => by simp; omega
theorem szk (x : Array UInt8) : (⟨x⟩ : ByteArray).size = x.size := rfl
def bs (b : ByteArray) : List UInt8 := b.data.toList
def gS (x : ByteArray × ByteArray × Bool) : List UInt8 := [32] ++ bs x.1 ++ [63] ++ (if x.2.2 then bs x.2.1 else [45])
def xS (x : ByteArray × ByteArray × Bool) : List UInt8 := [32] ++ bs x.1 ++ (if x.2.2 then [45] else [61] ++ bs x.2.1)
def fl (f : ByteArray × ByteArray × Bool → List UInt8) (z : Nat → ByteArray × ByteArray × Bool) : Nat → List UInt8
  | 0 => []
  | k + 1 => fl f z k ++ f (z k)
theorem bs_len (b : ByteArray) : (bs b).length = b.size := rfl
theorem fl_len (f : ByteArray × ByteArray × Bool → List UInt8) (z : Nat → ByteArray × ByteArray × Bool) : ∀ k, (∀ j, j < k → (f (z j)).length ≤ 40) → (fl f z k).length ≤ k * 40
  | 0, _ => by simp [fl]
  | k + 1, h => by
    have h1 := fl_len f z k fun j hj => h j (by omega)
    have h2 := h k (by omega)
    rw [fl, List.length_append]; omega
theorem gS_len (x : ByteArray × ByteArray × Bool) (h : x.1.size ≤ 12 ∧ x.2.1.size ≤ 24) : (gS x).length ≤ 40 := by
  unfold gS; split <;> simp [bs_len] <;> omega
theorem xS_len (x : ByteArray × ByteArray × Bool) (h : x.1.size ≤ 12 ∧ x.2.1.size ≤ 24) : (xS x).length ≤ 40 := by
  unfold xS; split <;> simp [bs_len] <;> omega
def hdB (D : Nat → ByteArray) (a b t : Nat) (en : Int) (ys lk : Bool) : ByteArray := (if lk then ⟨#[108]⟩ else ⟨#[116]⟩) ++ D a ++ ⟨#[32]⟩ ++ D b ++ ⟨#[45]⟩ ++ (if en = -1 then ⟨#[63]⟩ else D en.toNat) ++ (if ys then ⟨#[32, 64]⟩ ++ D t else ⟨#[32, 110, 111]⟩)
set_option maxHeartbeats 8000000 in
set_option maxRecDepth 1000000 in
theorem deed_k (D : Nat → ByteArray) (I : World → Prop) (hIb : ∀ w w', I w → Below w.heap.size w w' → I w') (hId : ∀ w, I w → I w.drew)
    (HI : ∀ u : Nat, u < 10 ^ 18 → ∀ w, I w → Calls Tryd.prog 24 #[.int .i64 u] w fun e w' => e = .returned (.string (D u)) ∧ Below w.heap.size w w') (hD : ∀ u, (D u).size ≤ 20)
    (a b t : Nat) (ha : a < 10 ^ 18) (hb : b < 10 ^ 18) (ht : t < 10 ^ 18) (en : Int) (hen : en = -1 ∨ ∃ e : Nat, en = e ∧ e < 10 ^ 18) (ys lk : Bool) (gv xv : Value) (gl xl : Nat) (gz xz : Nat → ByteArray × ByteArray × Bool) (w : World) (hw : I w)
    (hg : Ws w.heap.size w gv gl gz) (hx : Ws w.heap.size w xv xl xz) (hgl : gl ≤ 8) (hxl : xl ≤ 24) (hgz : ∀ j, j < gl → (gz j).1.size ≤ 12 ∧ (gz j).2.1.size ≤ 24) (hxz : ∀ j, j < xl → (xz j).1.size ≤ 12 ∧ (xz j).2.1.size ≤ 24) :
    Calls Tryd.prog 14 #[.agg #[.int .i64 a, .int .i64 b, .int .i64 en, .bool ys, .bool lk, .int .i64 t, gv, xv]] w fun e w' =>
      e = .returned (.string ⟨(bs (hdB D a b t en ys lk) ++ fl gS gz gl ++ fl xS xz xl ++ [10]).toArray⟩) ∧ Below w.heap.size w w' := by
  have hf1 : Tryd.prog.follows Departure.mixedOrders = true := by kernel_rfl
  obtain ⟨ga, gc, rfl, hg⟩ := hg
  obtain ⟨xa, xc, rfl, hx⟩ := hx
  obtain ⟨hsb, hBb, hdb, hbb⟩ := base8 w #[.int .i64 a, .int .i64 b, .int .i64 en, .bool ys, .bool lk, .int .i64 t, .slice ga gl gc, .slice xa xl xc]
  have hI0 := hIb _ _ hw hBb
  go_enter Tryd.func14, Tryd.ntmps14
  cases lk <;> cases ys <;> rcases hen with rfl | ⟨e, rfl, he⟩
  case' false.false.inl | true.false.inl =>
    go_wp2
    rw [← baseW]
    generalize baseW w _ = WA at hsb hBb hdb hbb hI0 ⊢
    have hsA : w.heap.size + 1 + 1 ≤ WA.heap.size := by omega
    obtain ⟨c0, c1, c2, c3, c4, c5, c6, c7⟩ := cells8 hdb
    generalize hse : (⟨#[63]⟩ : ByteArray) = se
    generalize hst : (⟨#[32, 110, 111]⟩ : ByteArray) = st
    have ze : se.size ≤ 30 := by rw [← hse]; decide
    have zt : st.size ≤ 30 := by rw [← hst]; decide
  case' false.true.inl | true.true.inl =>
    go_wp2_with (go_at_call 24; refine (HI t ht _ hI0).mono ?_)
    rintro x WA ⟨rfl, hBA⟩
    have hsA : w.heap.size + 1 + 1 ≤ WA.heap.size := by have := hBA.size; omega
    have hBb : Below w.heap.size w WA := hBb.trans (hBA.mono (by omega))
    have hdb := (hBA.block w.heap.size (by omega)).trans hdb
    have hbb := (hBA.block (w.heap.size + 1) (by omega)).trans hbb
    have hI0 := hIb _ _ hI0 hBA
    obtain ⟨c0, c1, c2, c3, c4, c5, c6, c7⟩ := cells8 hdb
    have zt0 := hD t
    have G1 := mkF (2 + (D t).size) (by omega)
    go_wp2
    generalize hse : (⟨#[63]⟩ : ByteArray) = se
    generalize hst : (⟨#[32, 64]⟩ ++ D t : ByteArray) = st
    have ze : se.size ≤ 30 := by rw [← hse]; decide
    have zt : st.size ≤ 30 := by rw [← hst]; simp [szk]; omega
  case' false.false.inr | true.false.inr =>
    go_wp2_with (go_at_call 24; refine (HI e he _ hI0).mono ?_)
    rintro x WA ⟨rfl, hBA⟩
    have hsA : w.heap.size + 1 + 1 ≤ WA.heap.size := by have := hBA.size; omega
    have hBb : Below w.heap.size w WA := hBb.trans (hBA.mono (by omega))
    have hdb := (hBA.block w.heap.size (by omega)).trans hdb
    have hbb := (hBA.block (w.heap.size + 1) (by omega)).trans hbb
    have hI0 := hIb _ _ hI0 hBA
    obtain ⟨c0, c1, c2, c3, c4, c5, c6, c7⟩ := cells8 hdb
    go_wp2
    have ze0 := hD e
    generalize hse : D e = se at ze0 ⊢
    generalize hst : (⟨#[32, 110, 111]⟩ : ByteArray) = st
    have ze : se.size ≤ 30 := by omega
    have zt : st.size ≤ 30 := by rw [← hst]; decide
  case' false.true.inr | true.true.inr =>
    go_wp2_with (go_at_call 24; refine (HI e he _ hI0).mono ?_)
    rintro x WB ⟨rfl, hBA⟩
    have hsA : w.heap.size + 1 + 1 ≤ WB.heap.size := by have := hBA.size; omega
    have hBb : Below w.heap.size w WB := hBb.trans (hBA.mono (by omega))
    have hdb := (hBA.block w.heap.size (by omega)).trans hdb
    have hbb := (hBA.block (w.heap.size + 1) (by omega)).trans hbb
    have hI0 := hIb _ _ hI0 hBA
    obtain ⟨c0, c1, c2, c3, c4, c5, c6, c7⟩ := cells8 hdb
    go_wp2_with (go_at_call 24; refine (HI t ht _ hI0).mono ?_)
    rintro x WA ⟨rfl, hBC⟩
    have hsA : w.heap.size + 1 + 1 ≤ WA.heap.size := by have := hBC.size; omega
    have hBb : Below w.heap.size w WA := hBb.trans (hBC.mono (by omega))
    have hdb := (hBC.block w.heap.size (by omega)).trans hdb
    have hbb := (hBC.block (w.heap.size + 1) (by omega)).trans hbb
    have hI0 := hIb _ _ hI0 hBC
    obtain ⟨c0, c1, c2, c3, c4, c5, c6, c7⟩ := cells8 hdb
    have zt0 := hD t
    have G1 := mkF (2 + (D t).size) (by omega)
    go_wp2
    have ze0 := hD e
    generalize hst : (⟨#[32, 64]⟩ ++ D t : ByteArray) = st
    have zt : st.size ≤ 30 := by rw [← hst]; simp [szk]; omega
    generalize hse : D e = se at ze0 ⊢
    have ze : se.size ≤ 30 := by omega
  case' false.false.inl | false.true.inl | false.false.inr | false.true.inr => generalize hkd : (⟨#[116]⟩ : ByteArray) = kd
  case' true.false.inl | true.true.inl | true.false.inr | true.true.inr => generalize hkd : (⟨#[108]⟩ : ByteArray) = kd
  all_goals (
    have zk : kd.size ≤ 30 := by rw [← hkd]; decide
    have z1 := hD a
    have z2 := hD b
    have F1 := mkF (kd.size + (D a).size) (by omega)
    have F2 := mkF (kd.size + (D a).size + 1) (by omega)
    have F3 := mkF (kd.size + (D a).size + 1 + (D b).size) (by omega)
    have F4 := mkF (kd.size + (D a).size + 1 + (D b).size + 1) (by omega)
    have F5 := mkF (kd.size + (D a).size + 1 + (D b).size + 1 + se.size) (by omega)
    have F6 := mkF (kd.size + (D a).size + 1 + (D b).size + 1 + se.size + st.size) (by omega)
    go_region_held3 (fun w' => w'.cell? ⟨w.heap.size, 0, none⟩ = some (.int .i64 a) ∧ w'.cell? ⟨w.heap.size, 1, none⟩ = some (.int .i64 b)) (go_keep)
      (first
        | (go_at_call 24; refine (HI a ha _ (hId _ hI0)).mono ?_; rintro e W1 ⟨rfl, hB1⟩; have hd1 := (hB1.block w.heap.size (by show w.heap.size < WA.heap.size; omega)).trans hdb; have hb1 := (hB1.block (w.heap.size + 1) (by show w.heap.size + 1 < WA.heap.size; omega)).trans hbb; have hs1 : WA.heap.size ≤ W1.heap.size := hB1.size; obtain ⟨k0, k1, -⟩ := cells8 hd1)
        | (go_at_call 24; refine (HI b hb _ (hIb _ _ (hId _ hI0) hB1)).mono ?_; rintro e W2 ⟨rfl, hB2⟩; have hd2 := (hB2.block w.heap.size (by omega)).trans hd1; have hb2 := (hB2.block (w.heap.size + 1) (by omega)).trans hb1; have hs2 := hB2.size; obtain ⟨k0, k1, -⟩ := cells8 hd2)
        | (go_at_call 25; refine (ws_k (w.heap.size + 1) (w.heap.size + 1) [] _ _ (freshB (Nat.le_refl _) hb2) (by simp [szk]; omega) (by omega)).mono ?_; rintro e W3 ⟨⟨x, rfl⟩, hI3, hB3, hO3⟩; have hd3 := hO3 _ _ hd2 (by simp) (by simp); obtain ⟨k0, k1, -⟩ := cells8 hd3))
    obtain ⟨s, hs, zs⟩ : ∃ s : ByteArray, s = kd ++ D a ++ ⟨#[32]⟩ ++ D b ++ ⟨#[45]⟩ ++ se ++ st ∧ s.size ≤ 200 := ⟨_, rfl, by simp [szk]; omega⟩
    rw [← hs] at hI3
    change Is s _ at hs
    subst hkd hse hst
    have hB0 : Below w.heap.size w W3 := hBb.drew.trans ((hB1.mono (show w.heap.size ≤ WA.heap.size by omega)).trans ((hB2.mono (by omega)).trans (hB3.mono (by omega))))
    have hI3 : Lib.IsBuilderF 57 5 (w.heap.size + 1) (w.heap.size + 1) (Lib.byteCells (bs s)) W3 := .inr hI3
    obtain ⟨c0, c1, c2, c3, c4, c5, c6, c7⟩ := cells8 hd3
    have hs3 : w.heap.size + 1 < W3.heap.size := by have := hB3.size; omega
    clear F1 F2 F3 F4 F5 F6 hB1 hB2 hB3 hO3 hd1 hd2 hb1 hb2 hs1 hs2 hbb hdb hBb hsA hI0
    go_wp2
    go_loopw [47] (fun i wr => ∃ k : Nat, k ≤ gl ∧ i = .int .i64 k ∧ Lib.IsBuilderF 57 5 (w.heap.size + 1) (w.heap.size + 1) (Lib.byteCells (bs s ++ fl gS gz k)) wr ∧ wr.heap[w.heap.size]? = W3.heap[w.heap.size]? ∧ Below w.heap.size w wr ∧ w.heap.size + 1 < wr.heap.size) (fun i _ => gl - (intOf i).toNat)
    case atStart => exact ⟨0, by omega, rfl, by simpa [fl] using hI3, rfl, hB0, hs3⟩
    case round =>
      obtain ⟨k, hk, rfl, hI, hdk, hB, hsz⟩ := hrel
      rw [hd3] at hdk
      have hfl := fl_len gS gz k fun j hj => gS_len _ (hgz j (by omega))
      by_cases hlt : k < gl
      · obtain ⟨gb, go, rfl, hgb, hgc⟩ := hg.resolve_left (by omega)
        obtain ⟨d1, d2, d3⟩ := hgc k hlt
        have d1 := (hB.cell (p := ⟨gb, go + k * 3, none⟩) hgb).trans d1
        have d2 := (hB.cell (p := ⟨gb, go + k * 3 + 1, none⟩) hgb).trans d2
        have d3 := (hB.cell (p := ⟨gb, go + k * 3 + 2, none⟩) hgb).trans d3
        have i0 : (0 : Int) ≤ (k : Int) := by omega
        have i1 : (k : Int) < (gl : Int) := by omega
        have zq := hgz k hlt
        have F1 := mkF (1 + (gz k).1.size) (by omega)
        have F2 := mkF (1 + (gz k).1.size + 1) (by omega)
        have F3 := mkF (1 + (gz k).1.size + 1 + (gz k).2.1.size) (by omega)
        have F4 := mkF (1 + (gz k).1.size + 1 + 1) (by omega)
        cases hth : (gz k).2.2 <;> rw [hth] at d3
        all_goals (
          go_wp2_with (go_at_call 25; refine (ws_k (w.heap.size + 1) (w.heap.size + 1) (Lib.byteCells (bs s ++ fl gS gz k)) _ _ (hI.alloc _) (by rw [Lib.byteCells_length, List.length_append, bs_len]; simp [szk]; omega) (by simp; omega)).mono ?_)
          rintro e W4 ⟨⟨x4, rfl⟩, h4, b4, k4⟩
          rw [Lib.strCells_eq, ← Lib.byteCells_append] at h4
          have hd4 := k4 _ _ ((Lib.alloc_old _ _ _ (by omega)).trans hdk) (by simp) (by simp)
          have b4s := b4.size
          rw [World.size_alloc] at b4s
          go_wp2
          go_roundw
          case rel => exact ⟨k + 1, by omega, by simp, .inr (by rw [fl, gS, hth]; simpa [bs] using h4), hd4.trans hd3.symm, (hB.alloc (by omega) _).trans (b4.mono (by omega)), by omega⟩
          case measure => simp [intOf]; omega)
      · obtain rfl : k = gl := by omega
        obtain ⟨e0, e1, e2, e3, e4, e5, e6, e7⟩ := cells8 hdk
        go_wp2
        go_loopw [66] (fun i wr => ∃ m : Nat, m ≤ xl ∧ i = .int .i64 m ∧ Lib.IsBuilderF 57 5 (w.heap.size + 1) (w.heap.size + 1) (Lib.byteCells (bs s ++ fl gS gz k ++ fl xS xz m)) wr ∧ Below w.heap.size w wr ∧ w.heap.size + 1 < wr.heap.size) (fun i _ => xl - (intOf i).toNat)
        case atStart => exact ⟨0, by omega, rfl, by simpa [fl] using hI, hB, hsz⟩
        case round =>
          rename_i wr0
          obtain ⟨m, hm, rfl, hI, hB, hsz⟩ := hrel
          have hfx := fl_len xS xz m fun j hj => xS_len _ (hxz j (by omega))
          by_cases hlt : m < xl
          · obtain ⟨xb, xo, rfl, hxb, hxc⟩ := hx.resolve_left (by omega)
            obtain ⟨d1, d2, d3⟩ := hxc m hlt
            have d1 := (hB.cell (p := ⟨xb, xo + m * 3, none⟩) hxb).trans d1
            have d2 := (hB.cell (p := ⟨xb, xo + m * 3 + 1, none⟩) hxb).trans d2
            have d3 := (hB.cell (p := ⟨xb, xo + m * 3 + 2, none⟩) hxb).trans d3
            have i0 : (0 : Int) ≤ (m : Int) := by omega
            have i1 : (m : Int) < (xl : Int) := by omega
            have zq := hxz m hlt
            have F0 := mkF (1 + (xz m).2.1.size) (by omega)
            have F1 := mkF (1 + (xz m).1.size) (by omega)
            have F2 := mkF (1 + (xz m).1.size + 1) (by omega)
            have F3 := mkF (1 + (xz m).1.size + (1 + (xz m).2.1.size)) (by omega)
            cases hth : (xz m).2.2 <;> rw [hth] at d3
            all_goals (
              go_wp2_with (go_at_call 25; refine (ws_k (w.heap.size + 1) (w.heap.size + 1) (Lib.byteCells (bs s ++ fl gS gz k ++ fl xS xz m)) _ _ (hI.alloc _) (by rw [Lib.byteCells_length, List.length_append, List.length_append, bs_len]; simp [szk]; omega) (by simp; omega)).mono ?_)
              rintro e W4 ⟨⟨x4, rfl⟩, h4, b4, k4⟩
              rw [Lib.strCells_eq, ← Lib.byteCells_append] at h4
              have b4s := b4.size
              rw [World.size_alloc] at b4s
              go_wp2
              go_roundw
              case rel => exact ⟨m + 1, by omega, by simp, .inr (by rw [fl, xS, hth]; simpa [bs] using h4), (hB.alloc (by omega) _).trans (b4.mono (by omega)), by omega⟩
              case measure => simp [intOf]; omega)
          · obtain rfl : m = xl := by omega
            have F9 := mkF ((bs s).length + ((fl gS gz k).length + (fl xS xz m).length) + 1) (by simp only [bs_len]; omega)
            have F8 := mkF ((bs s).length + ((fl gS gz k).length + (fl xS xz m).length)) (by simp only [bs_len]; omega)
            go_wp2_with (go_at_call 26; refine (Any.Builder_String_any_k Tryd.lays169 X169 (w.heap.size + 1) (w.heap.size + 1) (bs s ++ fl gS gz k ++ fl xS xz m) _ hI (by omega)).mono ?_)
            rintro e W5 ⟨rfl, _, b5, _⟩
            go_wp2
            go_ret
            refine ⟨?_, hB.trans (b5.mono (by omega))⟩
            have key : ∀ q : ByteArray, Is s q → Ending.returned (.string (⟨(bs s ++ (fl gS gz k ++ fl xS xz m)).toArray⟩ ++ ⟨#[10]⟩)) = Ending.returned (.string ⟨(bs q ++ fl gS gz k ++ fl xS xz m ++ [10]).toArray⟩) := by
              intro q h
              cases (show s = q from h)
              have := app10 (bs s ++ (fl gS gz k ++ fl xS xz m)) [10]
              simpa using this
            have key2 : ∀ q : ByteArray, Is s q → Ending.returned (.string ⟨⟨bs s ++ (fl gS gz k ++ (fl xS xz m ++ [10]))⟩⟩) = Ending.returned (.string ⟨(bs q ++ fl gS gz k ++ fl xS xz m ++ [10]).toArray⟩) := by
              intro q h
              cases (show s = q from h)
              simp
            first
              | refine Eq.trans (b := Ending.returned (.string (⟨(bs s ++ (fl gS gz k ++ fl xS xz m)).toArray⟩ ++ ⟨#[10]⟩))) rfl (key _ ?_)
              | refine Eq.trans (b := Ending.returned (.string ⟨⟨bs s ++ (fl gS gz k ++ (fl xS xz m ++ [10]))⟩⟩)) rfl (key2 _ ?_)
            show s = _
            rw [show s = _ from hs]
            have hne : ∀ e : Nat, ¬ ((e : Int) = -1) := fun e => by omega
            simp [hdB, hne])
end Go.Proofs.Bld

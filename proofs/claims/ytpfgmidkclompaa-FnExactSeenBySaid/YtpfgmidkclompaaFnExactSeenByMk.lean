/- Contracts of functions. -/
import Derived.Test.YtpfgmidkclompaaFnExactSeenByM0
import Derived.Laws.Externs
set_option linter.unusedSimpArgs false
set_option linter.unusedVariables false
set_option linter.unusedSectionVars false
namespace Go.Proofs.Wb
open Go Go.Am
def Got.mk2 (x : Got) (k : Int) : Got × Int := (⟨mkText k, mkText (k + 1), decide ((((k + 1) + 1)).tmod 3 = 0)⟩, (((k + 1) + 1) + 1))
def Got.cnt (x : Got) : Nat := 1 + 1 + 1
theorem Got.mk2_cnt (x : Got) (k : Int) : (x.mk2 k).2 = k + (x.cnt : Nat) := by
  simp only [Got.mk2, Got.cnt]
  try omega
theorem Got.cnt_le (x : Got) : x.cnt ≤ 3 * (x.sz + 1) := by
  simp only [Got.cnt, Got.sz]
  try omega
def Write.mk2 (x : Write) (k : Int) : Write × Int := (⟨mkText k, mkText (k + 1), decide ((((k + 1) + 1)).tmod 3 = 0)⟩, (((k + 1) + 1) + 1))
def Write.cnt (x : Write) : Nat := 1 + 1 + 1
theorem Write.mk2_cnt (x : Write) (k : Int) : (x.mk2 k).2 = k + (x.cnt : Nat) := by
  simp only [Write.mk2, Write.cnt]
  try omega
theorem Write.cnt_le (x : Write) : x.cnt ≤ 3 * (x.sz + 1) := by
  simp only [Write.cnt, Write.sz]
  try omega
def Deed.mk2 (x : Deed) (k : Int) : Deed × Int := (⟨k, (k + 1), ((k + 1) + 1), decide (((((k + 1) + 1) + 1)).tmod 3 = 0), decide ((((((k + 1) + 1) + 1) + 1)).tmod 3 = 0), (((((k + 1) + 1) + 1) + 1) + 1), (mkL (Got.mk2) x.Got ((((((k + 1) + 1) + 1) + 1) + 1) + 1)).1, (mkL (Write.mk2) x.Writes (mkL (Got.mk2) x.Got ((((((k + 1) + 1) + 1) + 1) + 1) + 1)).2).1⟩, (mkL (Write.mk2) x.Writes (mkL (Got.mk2) x.Got ((((((k + 1) + 1) + 1) + 1) + 1) + 1)).2).2)
def Deed.cnt (x : Deed) : Nat := 1 + 1 + 1 + 1 + 1 + 1 + cntL (Got.cnt) x.Got + cntL (Write.cnt) x.Writes
theorem Deed.mk2_cnt (x : Deed) (k : Int) : (x.mk2 k).2 = k + (x.cnt : Nat) := by
  simp only [Deed.mk2, Deed.cnt, mkN_cnt (f := Got.mk2) (c := Got.cnt) (Got.mk2_cnt), mkN_cnt (f := Write.mk2) (c := Write.cnt) (Write.mk2_cnt)]
  try omega
theorem Deed.cnt_le (x : Deed) : x.cnt ≤ 12 * (x.sz + 1) := by
  have c_Got := cntL_le (c := Got.cnt) (s := Got.sz) (A := 3) Got.cnt_le (l := x.Got)
  have c_Writes := cntL_le (c := Write.cnt) (s := Write.sz) (A := 3) Write.cnt_le (l := x.Writes)
  simp only [Deed.cnt, Deed.sz]
  try omega
def Deed.mkv (x : Deed) (k : Int) : Deed × Int := (⟨x.Txn, x.Begin, x.End, x.Yes, x.Look, x.Time, (mkL (Got.mk2) x.Got k).1, (mkL (Write.mk2) x.Writes (mkL (Got.mk2) x.Got k).2).1⟩, (mkL (Write.mk2) x.Writes (mkL (Got.mk2) x.Got k).2).2)
def Deed.cntv (x : Deed) : Nat := cntL (Got.cnt) x.Got + cntL (Write.cnt) x.Writes
theorem Deed.mkv_cnt (x : Deed) (k : Int) : (x.mkv k).2 = k + (x.cntv : Nat) := by
  simp only [Deed.mkv, Deed.cntv, mkN_cnt (f := Got.mk2) (c := Got.cnt) (Got.mk2_cnt), mkN_cnt (f := Write.mk2) (c := Write.cnt) (Write.mk2_cnt)]
  try omega
theorem Deed.cntv_le (x : Deed) : x.cntv ≤ 12 * (x.sz + 1) := by
  have c_Got := cntL_le (c := Got.cnt) (s := Got.sz) (A := 3) Got.cnt_le (l := x.Got)
  have c_Writes := cntL_le (c := Write.cnt) (s := Write.sz) (A := 3) Write.cnt_le (l := x.Writes)
  simp only [Deed.cntv, Deed.sz]
  try omega
@[go_sem] theorem Deed.mkv_at_Txn (x : Deed) (k : Int) : (x.mkv k).1.Txn = x.Txn := rfl
@[go_sem] theorem Deed.mkv_at_Begin (x : Deed) (k : Int) : (x.mkv k).1.Begin = x.Begin := rfl
@[go_sem] theorem Deed.mkv_at_End (x : Deed) (k : Int) : (x.mkv k).1.End = x.End := rfl
@[go_sem] theorem Deed.mkv_at_Yes (x : Deed) (k : Int) : (x.mkv k).1.Yes = x.Yes := rfl
@[go_sem] theorem Deed.mkv_at_Look (x : Deed) (k : Int) : (x.mkv k).1.Look = x.Look := rfl
@[go_sem] theorem Deed.mkv_at_Time (x : Deed) (k : Int) : (x.mkv k).1.Time = x.Time := rfl
@[go_sem] theorem Deed.mkv_len_Got (x : Deed) (k : Int) : (x.mkv k).1.Got.length = x.Got.length := mkL_len
@[go_sem] theorem Deed.mkv_take_Got (x : Deed) (k : Int) : (x.mkv k).1.Got.take x.Got.length = (x.mkv k).1.Got := mkL_take
@[go_sem] theorem Deed.mkv_len_Writes (x : Deed) (k : Int) : (x.mkv k).1.Writes.length = x.Writes.length := mkL_len
@[go_sem] theorem Deed.mkv_take_Writes (x : Deed) (k : Int) : (x.mkv k).1.Writes.take x.Writes.length = (x.mkv k).1.Writes := mkL_take
theorem markIntS_ok (l : List Int) (k : Int) (h0 : 0 ≤ k) (h1 : k + (cntL (fun _ => 1) l : Nat) ≤ 2 ^ 62) : ACall Try.prog n_laws_markIntS [.sl true 1 (ints l), i64 k] (fun r a => r = i64 (mkL (mkI) l k).2 ∧ a = [.sl true 1 (ints (mkL (mkI) l k).1), i64 k]) := by
  refine fn_in h_laws_markIntS r_laws_markIntS ⟨by simp only [go_sem, ↓reduceIte, Nat.reduceEqDiff, Nat.reduceAdd, Nat.reduceSub, Nat.reduceMul, Nat.reduceLT, Nat.reduceLeDiff, Int.reduceToNat, reduceCtorEq], fun E hE hH => ?_⟩; simp only [go_sem, ↓reduceIte, Nat.reduceEqDiff, Nat.reduceAdd, Nat.reduceSub, Nat.reduceMul, Nat.reduceLT, Nat.reduceLeDiff, Int.reduceToNat, reduceCtorEq] at hE hH; simp only [go_sem, hE, hH, ↓reduceIte, Nat.reduceEqDiff, Nat.reduceAdd, Nat.reduceSub, Nat.reduceMul, Nat.reduceLT, Nat.reduceLeDiff, Int.reduceToNat, reduceCtorEq, c_laws_markIntS]
  refine loopNe l.length (fun j (_ : Unit) => ⟨[(0, .ref 0 0 l.length), (1, i64 (mkN (mkI) l k j)), (5, i64 j)], [(0, ⟨1, ints (mkP (mkI) l k j)⟩)]⟩) (fun _ _ => True) () (by simp [mkP_zero, mkN_zero]) trivial ?_
  intro j _ hj _
  have hpl := mkP_len (f := mkI) (k := k) hj
  have hN := mkN_at (f := mkI) (c := fun _ => 1) (fun _ _ => rfl) (l := l) (k := k) (j := j)
  have hlen := cntL_len (c := fun _ => 1) (l := l) (fun x => by simp)
  try simp only [go_sem, hE, hH, ↓reduceIte, Nat.reduceEqDiff, Nat.reduceAdd, Nat.reduceSub, Nat.reduceMul, Nat.reduceLT, Nat.reduceLeDiff, Int.reduceToNat, reduceCtorEq, c_laws_markIntS_l1]
  first | refine gd_t (fun h => ?_) (fun h => ?_) | refine gd_f (fun h => ?_) (fun h => ?_)
  · have hb := h
    simp only [decide_eq_true_eq, decide_eq_false_iff_not, Int.not_lt, Int.not_le, ge_iff_le, gt_iff_lt, Bool.not_eq_true', Bool.not_eq_false', beq_iff_eq, bne_iff_ne, beq_eq_false_iff_ne, bne_eq_false_iff_eq, Int.ofNat_lt, Int.ofNat_le] at h
    have hlt := h
    have hc := psum_cnt (c := fun _ => 1) hlt
    have e0 := nth_mkP (f := mkI) (k := k) hlt
    have e1 := mkP_set (f := mkI) (k := k) hlt
    have e2 := mkN_succ (f := mkI) (k := k) hlt
    simp only [mkI] at e1 e2
    generalize hk : mkN (mkI) l k j = q at *
    try simp (disch := omega) only [go_sem, hE, hH, ↓reduceIte, Nat.reduceEqDiff, Nat.reduceAdd, Nat.reduceSub, Nat.reduceMul, Nat.reduceLT, Nat.reduceLeDiff, Int.reduceToNat, reduceCtorEq, wrap_id, getD_map, getD_ms, getD_cs, cpy_len, hb, hpl, e0]
    repeat' (first | ((with_reducible (first | refine gd_t (fun h => ?_) (fun h => ?_) | refine gd_f (fun h => ?_) (fun h => ?_))) <;> (have hb := h; (try simp only [decide_eq_true_eq, decide_eq_false_iff_not, Int.not_lt, Int.not_le, ge_iff_le, gt_iff_lt, Bool.not_eq_true', Bool.not_eq_false', beq_iff_eq, bne_iff_ne, beq_eq_false_iff_ne, bne_eq_false_iff_eq, Int.ofNat_lt, Int.ofNat_le] at h); simp (disch := omega) only [go_sem, hE, hH, ↓reduceIte, Nat.reduceEqDiff, Nat.reduceAdd, Nat.reduceSub, Nat.reduceMul, Nat.reduceLT, Nat.reduceLeDiff, Int.reduceToNat, reduceCtorEq, wrap_id, getD_map, getD_ms, getD_cs, cpy_len, hb]; (try clear hb))) | ((with_reducible refine And.intro ?_ ?_); · omega) | (refine ok_view ?_; simp (disch := omega) only [go_sem, hE, hH, ↓reduceIte, Nat.reduceEqDiff, Nat.reduceAdd, Nat.reduceSub, Nat.reduceMul, Nat.reduceLT, Nat.reduceLeDiff, Int.reduceToNat, reduceCtorEq, wrap_id, getD_map, getD_ms, getD_cs, cpy_len]) | (refine cvA (markText_ok _ (by omega)) ?_; simp (disch := omega) only [go_sem, hE, hH, ↓reduceIte, Nat.reduceEqDiff, Nat.reduceAdd, Nat.reduceSub, Nat.reduceMul, Nat.reduceLT, Nat.reduceLeDiff, Int.reduceToNat, reduceCtorEq, wrap_id, getD_map, getD_ms, getD_cs, cpy_len]) | (refine jn _ ?_ ?_) | (with_reducible refine both ?_ ?_) | (with_reducible refine And.intro ?_ ?_) | (refine fin_eq ?_; (try (simp (disch := omega) only [go_sem, hE, hH, ↓reduceIte, Nat.reduceEqDiff, Nat.reduceAdd, Nat.reduceSub, Nat.reduceMul, Nat.reduceLT, Nat.reduceLeDiff, Int.reduceToNat, reduceCtorEq, wrap_id, getD_map, getD_ms, getD_cs, cpy_len])); first | done | rfl) | (simp (disch := omega) only [go_sem, hE, hH, ↓reduceIte, Nat.reduceEqDiff, Nat.reduceAdd, Nat.reduceSub, Nat.reduceMul, Nat.reduceLT, Nat.reduceLeDiff, Int.reduceToNat, reduceCtorEq, wrap_id, getD_map, getD_ms, getD_cs, cpy_len]) | (exact (noMLL_set (by simp only [go_sem, hE, hH, ↓reduceIte, Nat.reduceEqDiff, Nat.reduceAdd, Nat.reduceSub, Nat.reduceMul, Nat.reduceLT, Nat.reduceLeDiff, Int.reduceToNat, reduceCtorEq]) (by simp only [go_sem, hE, hH, ↓reduceIte, Nat.reduceEqDiff, Nat.reduceAdd, Nat.reduceSub, Nat.reduceMul, Nat.reduceLT, Nat.reduceLeDiff, Int.reduceToNat, reduceCtorEq])).2 trivial) | (exact (pk_set (by simp only [go_sem, hE, hH, ↓reduceIte, Nat.reduceEqDiff, Nat.reduceAdd, Nat.reduceSub, Nat.reduceMul, Nat.reduceLT, Nat.reduceLeDiff, Int.reduceToNat, reduceCtorEq]) (by simp only [go_sem, hE, hH, ↓reduceIte, Nat.reduceEqDiff, Nat.reduceAdd, Nat.reduceSub, Nat.reduceMul, Nat.reduceLT, Nat.reduceLeDiff, Int.reduceToNat, reduceCtorEq])).2 trivial) | (simp only [go_sem, hE, hH, ↓reduceIte, Nat.reduceEqDiff, Nat.reduceAdd, Nat.reduceSub, Nat.reduceMul, Nat.reduceLT, Nat.reduceLeDiff, Int.reduceToNat, reduceCtorEq]) | fail)
    try try simp (disch := omega) only [go_sem, hE, hH, ↓reduceIte, Nat.reduceEqDiff, Nat.reduceAdd, Nat.reduceSub, Nat.reduceMul, Nat.reduceLT, Nat.reduceLeDiff, Int.reduceToNat, reduceCtorEq, wrap_id, getD_map, getD_ms, getD_cs, cpy_len, hpl, e0]
    repeat' (first | (refine both ?_ ?_) | omega | (exact (noMLL_set (by simp only [go_sem, hE, hH, ↓reduceIte, Nat.reduceEqDiff, Nat.reduceAdd, Nat.reduceSub, Nat.reduceMul, Nat.reduceLT, Nat.reduceLeDiff, Int.reduceToNat, reduceCtorEq]) (by simp only [go_sem, hE, hH, ↓reduceIte, Nat.reduceEqDiff, Nat.reduceAdd, Nat.reduceSub, Nat.reduceMul, Nat.reduceLT, Nat.reduceLeDiff, Int.reduceToNat, reduceCtorEq])).2 trivial) | (exact (pk_set (by simp only [go_sem, hE, hH, ↓reduceIte, Nat.reduceEqDiff, Nat.reduceAdd, Nat.reduceSub, Nat.reduceMul, Nat.reduceLT, Nat.reduceLeDiff, Int.reduceToNat, reduceCtorEq]) (by simp only [go_sem, hE, hH, ↓reduceIte, Nat.reduceEqDiff, Nat.reduceAdd, Nat.reduceSub, Nat.reduceMul, Nat.reduceLT, Nat.reduceLeDiff, Int.reduceToNat, reduceCtorEq])).2 trivial) | fail)
    refine ⟨(), ?_⟩
    rw [e2, ← e1]
    rfl
  · have hb := h
    simp only [decide_eq_true_eq, decide_eq_false_iff_not, Int.not_lt, Int.not_le, ge_iff_le, gt_iff_lt, Bool.not_eq_true', Bool.not_eq_false', beq_iff_eq, bne_iff_ne, beq_eq_false_iff_ne, bne_eq_false_iff_eq, Int.ofNat_lt, Int.ofNat_le] at h
    try simp (disch := omega) only [go_sem, hE, hH, ↓reduceIte, Nat.reduceEqDiff, Nat.reduceAdd, Nat.reduceSub, Nat.reduceMul, Nat.reduceLT, Nat.reduceLeDiff, Int.reduceToNat, reduceCtorEq, wrap_id, getD_map, getD_ms, getD_cs, cpy_len, hb]
    have e3 : j = l.length := by first | omega | (rw [mkL_len] at h; omega)
    subst e3
    rw [mkN_all (Nat.le_refl _), mkP_all (Nat.le_refl _)]
    exact ⟨mkL_len.symm, rfl, rfl⟩
theorem markGotS_ok (l : List Got) (k : Int) (h0 : 0 ≤ k) (h1 : k + (cntL (Got.cnt) l : Nat) ≤ 2 ^ 62) : ACall Try.prog n_laws_markGotS [.sl true 3 (l.map (Got.row true)), i64 k] (fun r a => r = i64 (mkL (Got.mk2) l k).2 ∧ a = [.sl true 3 ((mkL (Got.mk2) l k).1.map (Got.row true)), i64 k]) := by
  refine fn_in h_laws_markGotS r_laws_markGotS ⟨by simp only [go_sem, ↓reduceIte, Nat.reduceEqDiff, Nat.reduceAdd, Nat.reduceSub, Nat.reduceMul, Nat.reduceLT, Nat.reduceLeDiff, Int.reduceToNat, reduceCtorEq], fun E hE hH => ?_⟩; simp only [go_sem, ↓reduceIte, Nat.reduceEqDiff, Nat.reduceAdd, Nat.reduceSub, Nat.reduceMul, Nat.reduceLT, Nat.reduceLeDiff, Int.reduceToNat, reduceCtorEq] at hE hH; simp only [go_sem, hE, hH, ↓reduceIte, Nat.reduceEqDiff, Nat.reduceAdd, Nat.reduceSub, Nat.reduceMul, Nat.reduceLT, Nat.reduceLeDiff, Int.reduceToNat, reduceCtorEq, c_laws_markGotS]
  refine loopNe l.length (fun j (_ : Unit) => ⟨[(0, .ref 0 0 l.length), (1, i64 (mkN (Got.mk2) l k j)), (5, i64 j)], [(0, ⟨3, (mkP (Got.mk2) l k j).map (Got.row true)⟩)]⟩) (fun _ _ => True) () (by simp [mkP_zero, mkN_zero]) trivial ?_
  intro j _ hj _
  have hpl := mkP_len (f := Got.mk2) (k := k) hj
  have hN := mkN_at (f := Got.mk2) (c := Got.cnt) (Got.mk2_cnt) (l := l) (k := k) (j := j)
  have hlen := cntL_len (c := Got.cnt) (l := l) (fun x => by simp only [Got.cnt]; omega)
  try simp only [go_sem, hE, hH, ↓reduceIte, Nat.reduceEqDiff, Nat.reduceAdd, Nat.reduceSub, Nat.reduceMul, Nat.reduceLT, Nat.reduceLeDiff, Int.reduceToNat, reduceCtorEq, c_laws_markGotS_l1]
  first | refine gd_t (fun h => ?_) (fun h => ?_) | refine gd_f (fun h => ?_) (fun h => ?_)
  · have hb := h
    simp only [decide_eq_true_eq, decide_eq_false_iff_not, Int.not_lt, Int.not_le, ge_iff_le, gt_iff_lt, Bool.not_eq_true', Bool.not_eq_false', beq_iff_eq, bne_iff_ne, beq_eq_false_iff_ne, bne_eq_false_iff_eq, Int.ofNat_lt, Int.ofNat_le] at h
    have hlt := h
    have hc := psum_cnt (c := Got.cnt) hlt
    have e0 := nth_mkP (f := Got.mk2) (k := k) hlt
    have e1 := mkP_set (f := Got.mk2) (k := k) hlt
    have e2 := mkN_succ (f := Got.mk2) (k := k) hlt
    simp only [Got.mk2] at e1 e2
    simp only [Got.cnt] at hc
    generalize hk : mkN (Got.mk2) l k j = q at *
    try simp (disch := omega) only [go_sem, hE, hH, ↓reduceIte, Nat.reduceEqDiff, Nat.reduceAdd, Nat.reduceSub, Nat.reduceMul, Nat.reduceLT, Nat.reduceLeDiff, Int.reduceToNat, reduceCtorEq, wrap_id, getD_map, getD_ms, getD_cs, cpy_len, hb, hpl, e0]
    repeat' (first | ((with_reducible (first | refine gd_t (fun h => ?_) (fun h => ?_) | refine gd_f (fun h => ?_) (fun h => ?_))) <;> (have hb := h; (try simp only [decide_eq_true_eq, decide_eq_false_iff_not, Int.not_lt, Int.not_le, ge_iff_le, gt_iff_lt, Bool.not_eq_true', Bool.not_eq_false', beq_iff_eq, bne_iff_ne, beq_eq_false_iff_ne, bne_eq_false_iff_eq, Int.ofNat_lt, Int.ofNat_le] at h); simp (disch := omega) only [go_sem, hE, hH, ↓reduceIte, Nat.reduceEqDiff, Nat.reduceAdd, Nat.reduceSub, Nat.reduceMul, Nat.reduceLT, Nat.reduceLeDiff, Int.reduceToNat, reduceCtorEq, wrap_id, getD_map, getD_ms, getD_cs, cpy_len, hb]; (try clear hb))) | ((with_reducible refine And.intro ?_ ?_); · omega) | (refine ok_view ?_; simp (disch := omega) only [go_sem, hE, hH, ↓reduceIte, Nat.reduceEqDiff, Nat.reduceAdd, Nat.reduceSub, Nat.reduceMul, Nat.reduceLT, Nat.reduceLeDiff, Int.reduceToNat, reduceCtorEq, wrap_id, getD_map, getD_ms, getD_cs, cpy_len]) | (refine cvA (markText_ok _ (by omega)) ?_; simp (disch := omega) only [go_sem, hE, hH, ↓reduceIte, Nat.reduceEqDiff, Nat.reduceAdd, Nat.reduceSub, Nat.reduceMul, Nat.reduceLT, Nat.reduceLeDiff, Int.reduceToNat, reduceCtorEq, wrap_id, getD_map, getD_ms, getD_cs, cpy_len]) | (refine jn _ ?_ ?_) | (with_reducible refine both ?_ ?_) | (with_reducible refine And.intro ?_ ?_) | (refine fin_eq ?_; (try (simp (disch := omega) only [go_sem, hE, hH, ↓reduceIte, Nat.reduceEqDiff, Nat.reduceAdd, Nat.reduceSub, Nat.reduceMul, Nat.reduceLT, Nat.reduceLeDiff, Int.reduceToNat, reduceCtorEq, wrap_id, getD_map, getD_ms, getD_cs, cpy_len])); first | done | rfl) | (simp (disch := omega) only [go_sem, hE, hH, ↓reduceIte, Nat.reduceEqDiff, Nat.reduceAdd, Nat.reduceSub, Nat.reduceMul, Nat.reduceLT, Nat.reduceLeDiff, Int.reduceToNat, reduceCtorEq, wrap_id, getD_map, getD_ms, getD_cs, cpy_len]) | (exact (noMLL_set (by simp only [go_sem, hE, hH, ↓reduceIte, Nat.reduceEqDiff, Nat.reduceAdd, Nat.reduceSub, Nat.reduceMul, Nat.reduceLT, Nat.reduceLeDiff, Int.reduceToNat, reduceCtorEq]) (by simp only [go_sem, hE, hH, ↓reduceIte, Nat.reduceEqDiff, Nat.reduceAdd, Nat.reduceSub, Nat.reduceMul, Nat.reduceLT, Nat.reduceLeDiff, Int.reduceToNat, reduceCtorEq])).2 trivial) | (exact (pk_set (by simp only [go_sem, hE, hH, ↓reduceIte, Nat.reduceEqDiff, Nat.reduceAdd, Nat.reduceSub, Nat.reduceMul, Nat.reduceLT, Nat.reduceLeDiff, Int.reduceToNat, reduceCtorEq]) (by simp only [go_sem, hE, hH, ↓reduceIte, Nat.reduceEqDiff, Nat.reduceAdd, Nat.reduceSub, Nat.reduceMul, Nat.reduceLT, Nat.reduceLeDiff, Int.reduceToNat, reduceCtorEq])).2 trivial) | (simp only [go_sem, hE, hH, ↓reduceIte, Nat.reduceEqDiff, Nat.reduceAdd, Nat.reduceSub, Nat.reduceMul, Nat.reduceLT, Nat.reduceLeDiff, Int.reduceToNat, reduceCtorEq]) | fail)
    try try simp (disch := omega) only [go_sem, hE, hH, ↓reduceIte, Nat.reduceEqDiff, Nat.reduceAdd, Nat.reduceSub, Nat.reduceMul, Nat.reduceLT, Nat.reduceLeDiff, Int.reduceToNat, reduceCtorEq, wrap_id, getD_map, getD_ms, getD_cs, cpy_len, hpl, e0]
    repeat' (first | (refine both ?_ ?_) | omega | (exact (noMLL_set (by simp only [go_sem, hE, hH, ↓reduceIte, Nat.reduceEqDiff, Nat.reduceAdd, Nat.reduceSub, Nat.reduceMul, Nat.reduceLT, Nat.reduceLeDiff, Int.reduceToNat, reduceCtorEq]) (by simp only [go_sem, hE, hH, ↓reduceIte, Nat.reduceEqDiff, Nat.reduceAdd, Nat.reduceSub, Nat.reduceMul, Nat.reduceLT, Nat.reduceLeDiff, Int.reduceToNat, reduceCtorEq])).2 trivial) | (exact (pk_set (by simp only [go_sem, hE, hH, ↓reduceIte, Nat.reduceEqDiff, Nat.reduceAdd, Nat.reduceSub, Nat.reduceMul, Nat.reduceLT, Nat.reduceLeDiff, Int.reduceToNat, reduceCtorEq]) (by simp only [go_sem, hE, hH, ↓reduceIte, Nat.reduceEqDiff, Nat.reduceAdd, Nat.reduceSub, Nat.reduceMul, Nat.reduceLT, Nat.reduceLeDiff, Int.reduceToNat, reduceCtorEq])).2 trivial) | fail)
    refine ⟨(), ?_⟩
    rw [e2, ← e1, List.map_set]
    rfl
  · have hb := h
    simp only [decide_eq_true_eq, decide_eq_false_iff_not, Int.not_lt, Int.not_le, ge_iff_le, gt_iff_lt, Bool.not_eq_true', Bool.not_eq_false', beq_iff_eq, bne_iff_ne, beq_eq_false_iff_ne, bne_eq_false_iff_eq, Int.ofNat_lt, Int.ofNat_le] at h
    try simp (disch := omega) only [go_sem, hE, hH, ↓reduceIte, Nat.reduceEqDiff, Nat.reduceAdd, Nat.reduceSub, Nat.reduceMul, Nat.reduceLT, Nat.reduceLeDiff, Int.reduceToNat, reduceCtorEq, wrap_id, getD_map, getD_ms, getD_cs, cpy_len, hb]
    have e3 : j = l.length := by first | omega | (rw [mkL_len] at h; omega)
    subst e3
    rw [mkN_all (Nat.le_refl _), mkP_all (Nat.le_refl _)]
    exact ⟨mkL_len.symm, rfl, rfl⟩
theorem markWriteS_ok (l : List Write) (k : Int) (h0 : 0 ≤ k) (h1 : k + (cntL (Write.cnt) l : Nat) ≤ 2 ^ 62) : ACall Try.prog n_laws_markWriteS [.sl true 3 (l.map (Write.row true)), i64 k] (fun r a => r = i64 (mkL (Write.mk2) l k).2 ∧ a = [.sl true 3 ((mkL (Write.mk2) l k).1.map (Write.row true)), i64 k]) := by
  refine fn_in h_laws_markWriteS r_laws_markWriteS ⟨by simp only [go_sem, ↓reduceIte, Nat.reduceEqDiff, Nat.reduceAdd, Nat.reduceSub, Nat.reduceMul, Nat.reduceLT, Nat.reduceLeDiff, Int.reduceToNat, reduceCtorEq], fun E hE hH => ?_⟩; simp only [go_sem, ↓reduceIte, Nat.reduceEqDiff, Nat.reduceAdd, Nat.reduceSub, Nat.reduceMul, Nat.reduceLT, Nat.reduceLeDiff, Int.reduceToNat, reduceCtorEq] at hE hH; simp only [go_sem, hE, hH, ↓reduceIte, Nat.reduceEqDiff, Nat.reduceAdd, Nat.reduceSub, Nat.reduceMul, Nat.reduceLT, Nat.reduceLeDiff, Int.reduceToNat, reduceCtorEq, c_laws_markWriteS]
  refine loopNe l.length (fun j (_ : Unit) => ⟨[(0, .ref 0 0 l.length), (1, i64 (mkN (Write.mk2) l k j)), (5, i64 j)], [(0, ⟨3, (mkP (Write.mk2) l k j).map (Write.row true)⟩)]⟩) (fun _ _ => True) () (by simp [mkP_zero, mkN_zero]) trivial ?_
  intro j _ hj _
  have hpl := mkP_len (f := Write.mk2) (k := k) hj
  have hN := mkN_at (f := Write.mk2) (c := Write.cnt) (Write.mk2_cnt) (l := l) (k := k) (j := j)
  have hlen := cntL_len (c := Write.cnt) (l := l) (fun x => by simp only [Write.cnt]; omega)
  try simp only [go_sem, hE, hH, ↓reduceIte, Nat.reduceEqDiff, Nat.reduceAdd, Nat.reduceSub, Nat.reduceMul, Nat.reduceLT, Nat.reduceLeDiff, Int.reduceToNat, reduceCtorEq, c_laws_markWriteS_l1]
  first | refine gd_t (fun h => ?_) (fun h => ?_) | refine gd_f (fun h => ?_) (fun h => ?_)
  · have hb := h
    simp only [decide_eq_true_eq, decide_eq_false_iff_not, Int.not_lt, Int.not_le, ge_iff_le, gt_iff_lt, Bool.not_eq_true', Bool.not_eq_false', beq_iff_eq, bne_iff_ne, beq_eq_false_iff_ne, bne_eq_false_iff_eq, Int.ofNat_lt, Int.ofNat_le] at h
    have hlt := h
    have hc := psum_cnt (c := Write.cnt) hlt
    have e0 := nth_mkP (f := Write.mk2) (k := k) hlt
    have e1 := mkP_set (f := Write.mk2) (k := k) hlt
    have e2 := mkN_succ (f := Write.mk2) (k := k) hlt
    simp only [Write.mk2] at e1 e2
    simp only [Write.cnt] at hc
    generalize hk : mkN (Write.mk2) l k j = q at *
    try simp (disch := omega) only [go_sem, hE, hH, ↓reduceIte, Nat.reduceEqDiff, Nat.reduceAdd, Nat.reduceSub, Nat.reduceMul, Nat.reduceLT, Nat.reduceLeDiff, Int.reduceToNat, reduceCtorEq, wrap_id, getD_map, getD_ms, getD_cs, cpy_len, hb, hpl, e0]
    repeat' (first | ((with_reducible (first | refine gd_t (fun h => ?_) (fun h => ?_) | refine gd_f (fun h => ?_) (fun h => ?_))) <;> (have hb := h; (try simp only [decide_eq_true_eq, decide_eq_false_iff_not, Int.not_lt, Int.not_le, ge_iff_le, gt_iff_lt, Bool.not_eq_true', Bool.not_eq_false', beq_iff_eq, bne_iff_ne, beq_eq_false_iff_ne, bne_eq_false_iff_eq, Int.ofNat_lt, Int.ofNat_le] at h); simp (disch := omega) only [go_sem, hE, hH, ↓reduceIte, Nat.reduceEqDiff, Nat.reduceAdd, Nat.reduceSub, Nat.reduceMul, Nat.reduceLT, Nat.reduceLeDiff, Int.reduceToNat, reduceCtorEq, wrap_id, getD_map, getD_ms, getD_cs, cpy_len, hb]; (try clear hb))) | ((with_reducible refine And.intro ?_ ?_); · omega) | (refine ok_view ?_; simp (disch := omega) only [go_sem, hE, hH, ↓reduceIte, Nat.reduceEqDiff, Nat.reduceAdd, Nat.reduceSub, Nat.reduceMul, Nat.reduceLT, Nat.reduceLeDiff, Int.reduceToNat, reduceCtorEq, wrap_id, getD_map, getD_ms, getD_cs, cpy_len]) | (refine cvA (markText_ok _ (by omega)) ?_; simp (disch := omega) only [go_sem, hE, hH, ↓reduceIte, Nat.reduceEqDiff, Nat.reduceAdd, Nat.reduceSub, Nat.reduceMul, Nat.reduceLT, Nat.reduceLeDiff, Int.reduceToNat, reduceCtorEq, wrap_id, getD_map, getD_ms, getD_cs, cpy_len]) | (refine jn _ ?_ ?_) | (with_reducible refine both ?_ ?_) | (with_reducible refine And.intro ?_ ?_) | (refine fin_eq ?_; (try (simp (disch := omega) only [go_sem, hE, hH, ↓reduceIte, Nat.reduceEqDiff, Nat.reduceAdd, Nat.reduceSub, Nat.reduceMul, Nat.reduceLT, Nat.reduceLeDiff, Int.reduceToNat, reduceCtorEq, wrap_id, getD_map, getD_ms, getD_cs, cpy_len])); first | done | rfl) | (simp (disch := omega) only [go_sem, hE, hH, ↓reduceIte, Nat.reduceEqDiff, Nat.reduceAdd, Nat.reduceSub, Nat.reduceMul, Nat.reduceLT, Nat.reduceLeDiff, Int.reduceToNat, reduceCtorEq, wrap_id, getD_map, getD_ms, getD_cs, cpy_len]) | (exact (noMLL_set (by simp only [go_sem, hE, hH, ↓reduceIte, Nat.reduceEqDiff, Nat.reduceAdd, Nat.reduceSub, Nat.reduceMul, Nat.reduceLT, Nat.reduceLeDiff, Int.reduceToNat, reduceCtorEq]) (by simp only [go_sem, hE, hH, ↓reduceIte, Nat.reduceEqDiff, Nat.reduceAdd, Nat.reduceSub, Nat.reduceMul, Nat.reduceLT, Nat.reduceLeDiff, Int.reduceToNat, reduceCtorEq])).2 trivial) | (exact (pk_set (by simp only [go_sem, hE, hH, ↓reduceIte, Nat.reduceEqDiff, Nat.reduceAdd, Nat.reduceSub, Nat.reduceMul, Nat.reduceLT, Nat.reduceLeDiff, Int.reduceToNat, reduceCtorEq]) (by simp only [go_sem, hE, hH, ↓reduceIte, Nat.reduceEqDiff, Nat.reduceAdd, Nat.reduceSub, Nat.reduceMul, Nat.reduceLT, Nat.reduceLeDiff, Int.reduceToNat, reduceCtorEq])).2 trivial) | (simp only [go_sem, hE, hH, ↓reduceIte, Nat.reduceEqDiff, Nat.reduceAdd, Nat.reduceSub, Nat.reduceMul, Nat.reduceLT, Nat.reduceLeDiff, Int.reduceToNat, reduceCtorEq]) | fail)
    try try simp (disch := omega) only [go_sem, hE, hH, ↓reduceIte, Nat.reduceEqDiff, Nat.reduceAdd, Nat.reduceSub, Nat.reduceMul, Nat.reduceLT, Nat.reduceLeDiff, Int.reduceToNat, reduceCtorEq, wrap_id, getD_map, getD_ms, getD_cs, cpy_len, hpl, e0]
    repeat' (first | (refine both ?_ ?_) | omega | (exact (noMLL_set (by simp only [go_sem, hE, hH, ↓reduceIte, Nat.reduceEqDiff, Nat.reduceAdd, Nat.reduceSub, Nat.reduceMul, Nat.reduceLT, Nat.reduceLeDiff, Int.reduceToNat, reduceCtorEq]) (by simp only [go_sem, hE, hH, ↓reduceIte, Nat.reduceEqDiff, Nat.reduceAdd, Nat.reduceSub, Nat.reduceMul, Nat.reduceLT, Nat.reduceLeDiff, Int.reduceToNat, reduceCtorEq])).2 trivial) | (exact (pk_set (by simp only [go_sem, hE, hH, ↓reduceIte, Nat.reduceEqDiff, Nat.reduceAdd, Nat.reduceSub, Nat.reduceMul, Nat.reduceLT, Nat.reduceLeDiff, Int.reduceToNat, reduceCtorEq]) (by simp only [go_sem, hE, hH, ↓reduceIte, Nat.reduceEqDiff, Nat.reduceAdd, Nat.reduceSub, Nat.reduceMul, Nat.reduceLT, Nat.reduceLeDiff, Int.reduceToNat, reduceCtorEq])).2 trivial) | fail)
    refine ⟨(), ?_⟩
    rw [e2, ← e1, List.map_set]
    rfl
  · have hb := h
    simp only [decide_eq_true_eq, decide_eq_false_iff_not, Int.not_lt, Int.not_le, ge_iff_le, gt_iff_lt, Bool.not_eq_true', Bool.not_eq_false', beq_iff_eq, bne_iff_ne, beq_eq_false_iff_ne, bne_eq_false_iff_eq, Int.ofNat_lt, Int.ofNat_le] at h
    try simp (disch := omega) only [go_sem, hE, hH, ↓reduceIte, Nat.reduceEqDiff, Nat.reduceAdd, Nat.reduceSub, Nat.reduceMul, Nat.reduceLT, Nat.reduceLeDiff, Int.reduceToNat, reduceCtorEq, wrap_id, getD_map, getD_ms, getD_cs, cpy_len, hb]
    have e3 : j = l.length := by first | omega | (rw [mkL_len] at h; omega)
    subst e3
    rw [mkN_all (Nat.le_refl _), mkP_all (Nat.le_refl _)]
    exact ⟨mkL_len.symm, rfl, rfl⟩
theorem markDeedS_ok (l : List Deed) (k : Int) (h0 : 0 ≤ k) (h1 : k + (cntL (Deed.cnt) l : Nat) ≤ 2 ^ 62) : ACall Try.prog n_laws_markDeedS [.sl true 8 (l.map (Deed.row true)), i64 k] (fun r a => r = i64 (mkL (Deed.mk2) l k).2 ∧ a = [.sl true 8 ((mkL (Deed.mk2) l k).1.map (Deed.row true)), i64 k]) := by
  refine fn_in h_laws_markDeedS r_laws_markDeedS ⟨by simp only [go_sem, ↓reduceIte, Nat.reduceEqDiff, Nat.reduceAdd, Nat.reduceSub, Nat.reduceMul, Nat.reduceLT, Nat.reduceLeDiff, Int.reduceToNat, reduceCtorEq], fun E hE hH => ?_⟩; simp only [go_sem, ↓reduceIte, Nat.reduceEqDiff, Nat.reduceAdd, Nat.reduceSub, Nat.reduceMul, Nat.reduceLT, Nat.reduceLeDiff, Int.reduceToNat, reduceCtorEq] at hE hH; simp only [go_sem, hE, hH, ↓reduceIte, Nat.reduceEqDiff, Nat.reduceAdd, Nat.reduceSub, Nat.reduceMul, Nat.reduceLT, Nat.reduceLeDiff, Int.reduceToNat, reduceCtorEq, c_laws_markDeedS]
  refine loopNe l.length (fun j (_ : Unit) => ⟨[(0, .ref 0 0 l.length), (1, i64 (mkN (Deed.mk2) l k j)), (5, i64 j)], [(0, ⟨8, (mkP (Deed.mk2) l k j).map (Deed.row true)⟩)]⟩) (fun _ _ => True) () (by simp [mkP_zero, mkN_zero]) trivial ?_
  intro j _ hj _
  have hpl := mkP_len (f := Deed.mk2) (k := k) hj
  have hN := mkN_at (f := Deed.mk2) (c := Deed.cnt) (Deed.mk2_cnt) (l := l) (k := k) (j := j)
  have hlen := cntL_len (c := Deed.cnt) (l := l) (fun x => by simp only [Deed.cnt]; omega)
  try simp only [go_sem, hE, hH, ↓reduceIte, Nat.reduceEqDiff, Nat.reduceAdd, Nat.reduceSub, Nat.reduceMul, Nat.reduceLT, Nat.reduceLeDiff, Int.reduceToNat, reduceCtorEq, c_laws_markDeedS_l1]
  first | refine gd_t (fun h => ?_) (fun h => ?_) | refine gd_f (fun h => ?_) (fun h => ?_)
  · have hb := h
    simp only [decide_eq_true_eq, decide_eq_false_iff_not, Int.not_lt, Int.not_le, ge_iff_le, gt_iff_lt, Bool.not_eq_true', Bool.not_eq_false', beq_iff_eq, bne_iff_ne, beq_eq_false_iff_ne, bne_eq_false_iff_eq, Int.ofNat_lt, Int.ofNat_le] at h
    have hlt := h
    have hc := psum_cnt (c := Deed.cnt) hlt
    have e0 := nth_mkP (f := Deed.mk2) (k := k) hlt
    have e1 := mkP_set (f := Deed.mk2) (k := k) hlt
    have e2 := mkN_succ (f := Deed.mk2) (k := k) hlt
    simp only [Deed.mk2] at e1 e2
    simp only [Deed.cnt] at hc
    generalize hk : mkN (Deed.mk2) l k j = q at *
    have m_Got := mkN_cnt (f := Got.mk2) (c := Got.cnt) (Got.mk2_cnt) (l := (nth l j).Got) (k := ((((((q + 1) + 1) + 1) + 1) + 1) + 1))
    have m_Writes := mkN_cnt (f := Write.mk2) (c := Write.cnt) (Write.mk2_cnt) (l := (nth l j).Writes) (k := (mkL (Got.mk2) (nth l j).Got ((((((q + 1) + 1) + 1) + 1) + 1) + 1)).2)
    try simp (disch := omega) only [go_sem, hE, hH, ↓reduceIte, Nat.reduceEqDiff, Nat.reduceAdd, Nat.reduceSub, Nat.reduceMul, Nat.reduceLT, Nat.reduceLeDiff, Int.reduceToNat, reduceCtorEq, wrap_id, getD_map, getD_ms, getD_cs, cpy_len, hb, hpl, e0]
    repeat' (first | ((with_reducible (first | refine gd_t (fun h => ?_) (fun h => ?_) | refine gd_f (fun h => ?_) (fun h => ?_))) <;> (have hb := h; (try simp only [decide_eq_true_eq, decide_eq_false_iff_not, Int.not_lt, Int.not_le, ge_iff_le, gt_iff_lt, Bool.not_eq_true', Bool.not_eq_false', beq_iff_eq, bne_iff_ne, beq_eq_false_iff_ne, bne_eq_false_iff_eq, Int.ofNat_lt, Int.ofNat_le] at h); simp (disch := omega) only [go_sem, hE, hH, ↓reduceIte, Nat.reduceEqDiff, Nat.reduceAdd, Nat.reduceSub, Nat.reduceMul, Nat.reduceLT, Nat.reduceLeDiff, Int.reduceToNat, reduceCtorEq, wrap_id, getD_map, getD_ms, getD_cs, cpy_len, hb]; (try clear hb))) | ((with_reducible refine And.intro ?_ ?_); · omega) | (refine ok_lend [true, false] ?_; simp (disch := omega) only [go_sem, hE, hH, ↓reduceIte, Nat.reduceEqDiff, Nat.reduceAdd, Nat.reduceSub, Nat.reduceMul, Nat.reduceLT, Nat.reduceLeDiff, Int.reduceToNat, reduceCtorEq, wrap_id, getD_map, getD_ms, getD_cs, cpy_len]; refine cmA (markGotS_ok ((nth l j).Got) (((((((q + 1) + 1) + 1) + 1) + 1) + 1)) (by omega) (by omega)) ?_; simp (disch := omega) only [go_sem, hE, hH, ↓reduceIte, Nat.reduceEqDiff, Nat.reduceAdd, Nat.reduceSub, Nat.reduceMul, Nat.reduceLT, Nat.reduceLeDiff, Int.reduceToNat, reduceCtorEq, wrap_id, getD_map, getD_ms, getD_cs, cpy_len]) | (refine ok_lend [true, false] ?_; simp (disch := omega) only [go_sem, hE, hH, ↓reduceIte, Nat.reduceEqDiff, Nat.reduceAdd, Nat.reduceSub, Nat.reduceMul, Nat.reduceLT, Nat.reduceLeDiff, Int.reduceToNat, reduceCtorEq, wrap_id, getD_map, getD_ms, getD_cs, cpy_len]; refine cmA (markWriteS_ok ((nth l j).Writes) ((mkL (Got.mk2) (nth l j).Got ((((((q + 1) + 1) + 1) + 1) + 1) + 1)).2) (by omega) (by omega)) ?_; simp (disch := omega) only [go_sem, hE, hH, ↓reduceIte, Nat.reduceEqDiff, Nat.reduceAdd, Nat.reduceSub, Nat.reduceMul, Nat.reduceLT, Nat.reduceLeDiff, Int.reduceToNat, reduceCtorEq, wrap_id, getD_map, getD_ms, getD_cs, cpy_len]) | (refine ok_view ?_; simp (disch := omega) only [go_sem, hE, hH, ↓reduceIte, Nat.reduceEqDiff, Nat.reduceAdd, Nat.reduceSub, Nat.reduceMul, Nat.reduceLT, Nat.reduceLeDiff, Int.reduceToNat, reduceCtorEq, wrap_id, getD_map, getD_ms, getD_cs, cpy_len]) | (refine cvA (markText_ok _ (by omega)) ?_; simp (disch := omega) only [go_sem, hE, hH, ↓reduceIte, Nat.reduceEqDiff, Nat.reduceAdd, Nat.reduceSub, Nat.reduceMul, Nat.reduceLT, Nat.reduceLeDiff, Int.reduceToNat, reduceCtorEq, wrap_id, getD_map, getD_ms, getD_cs, cpy_len]) | (refine jn _ ?_ ?_) | (with_reducible refine both ?_ ?_) | (with_reducible refine And.intro ?_ ?_) | (refine fin_eq ?_; (try (simp (disch := omega) only [go_sem, hE, hH, ↓reduceIte, Nat.reduceEqDiff, Nat.reduceAdd, Nat.reduceSub, Nat.reduceMul, Nat.reduceLT, Nat.reduceLeDiff, Int.reduceToNat, reduceCtorEq, wrap_id, getD_map, getD_ms, getD_cs, cpy_len])); first | done | rfl) | (simp (disch := omega) only [go_sem, hE, hH, ↓reduceIte, Nat.reduceEqDiff, Nat.reduceAdd, Nat.reduceSub, Nat.reduceMul, Nat.reduceLT, Nat.reduceLeDiff, Int.reduceToNat, reduceCtorEq, wrap_id, getD_map, getD_ms, getD_cs, cpy_len]) | (exact (noMLL_set (by simp only [go_sem, hE, hH, ↓reduceIte, Nat.reduceEqDiff, Nat.reduceAdd, Nat.reduceSub, Nat.reduceMul, Nat.reduceLT, Nat.reduceLeDiff, Int.reduceToNat, reduceCtorEq]) (by simp only [go_sem, hE, hH, ↓reduceIte, Nat.reduceEqDiff, Nat.reduceAdd, Nat.reduceSub, Nat.reduceMul, Nat.reduceLT, Nat.reduceLeDiff, Int.reduceToNat, reduceCtorEq])).2 trivial) | (exact (pk_set (by simp only [go_sem, hE, hH, ↓reduceIte, Nat.reduceEqDiff, Nat.reduceAdd, Nat.reduceSub, Nat.reduceMul, Nat.reduceLT, Nat.reduceLeDiff, Int.reduceToNat, reduceCtorEq]) (by simp only [go_sem, hE, hH, ↓reduceIte, Nat.reduceEqDiff, Nat.reduceAdd, Nat.reduceSub, Nat.reduceMul, Nat.reduceLT, Nat.reduceLeDiff, Int.reduceToNat, reduceCtorEq])).2 trivial) | (simp only [go_sem, hE, hH, ↓reduceIte, Nat.reduceEqDiff, Nat.reduceAdd, Nat.reduceSub, Nat.reduceMul, Nat.reduceLT, Nat.reduceLeDiff, Int.reduceToNat, reduceCtorEq]) | fail)
    try try simp (disch := omega) only [go_sem, hE, hH, ↓reduceIte, Nat.reduceEqDiff, Nat.reduceAdd, Nat.reduceSub, Nat.reduceMul, Nat.reduceLT, Nat.reduceLeDiff, Int.reduceToNat, reduceCtorEq, wrap_id, getD_map, getD_ms, getD_cs, cpy_len, hpl, e0]
    repeat' (first | (refine both ?_ ?_) | omega | (exact (noMLL_set (by simp only [go_sem, hE, hH, ↓reduceIte, Nat.reduceEqDiff, Nat.reduceAdd, Nat.reduceSub, Nat.reduceMul, Nat.reduceLT, Nat.reduceLeDiff, Int.reduceToNat, reduceCtorEq]) (by simp only [go_sem, hE, hH, ↓reduceIte, Nat.reduceEqDiff, Nat.reduceAdd, Nat.reduceSub, Nat.reduceMul, Nat.reduceLT, Nat.reduceLeDiff, Int.reduceToNat, reduceCtorEq])).2 trivial) | (exact (pk_set (by simp only [go_sem, hE, hH, ↓reduceIte, Nat.reduceEqDiff, Nat.reduceAdd, Nat.reduceSub, Nat.reduceMul, Nat.reduceLT, Nat.reduceLeDiff, Int.reduceToNat, reduceCtorEq]) (by simp only [go_sem, hE, hH, ↓reduceIte, Nat.reduceEqDiff, Nat.reduceAdd, Nat.reduceSub, Nat.reduceMul, Nat.reduceLT, Nat.reduceLeDiff, Int.reduceToNat, reduceCtorEq])).2 trivial) | fail)
    refine ⟨(), ?_⟩
    rw [e2, ← e1, List.map_set]
    rfl
  · have hb := h
    simp only [decide_eq_true_eq, decide_eq_false_iff_not, Int.not_lt, Int.not_le, ge_iff_le, gt_iff_lt, Bool.not_eq_true', Bool.not_eq_false', beq_iff_eq, bne_iff_ne, beq_eq_false_iff_ne, bne_eq_false_iff_eq, Int.ofNat_lt, Int.ofNat_le] at h
    try simp (disch := omega) only [go_sem, hE, hH, ↓reduceIte, Nat.reduceEqDiff, Nat.reduceAdd, Nat.reduceSub, Nat.reduceMul, Nat.reduceLT, Nat.reduceLeDiff, Int.reduceToNat, reduceCtorEq, wrap_id, getD_map, getD_ms, getD_cs, cpy_len, hb]
    have e3 : j = l.length := by first | omega | (rw [mkL_len] at h; omega)
    subst e3
    rw [mkN_all (Nat.le_refl _), mkP_all (Nat.le_refl _)]
    exact ⟨mkL_len.symm, rfl, rfl⟩
theorem heldIntS_ok (l : List Int) (k : Int) (h0 : 0 ≤ k) (h1 : k + (cntL (fun _ => 1) l : Nat) ≤ 2 ^ 62) : ACall Try.prog n_laws_heldIntS [.sl false 1 (ints (mkL (mkI) l k).1), i64 k] (fun r _ => r = i64 (mkL (mkI) l k).2) := by
  refine fn_in h_laws_heldIntS r_laws_heldIntS ⟨by simp only [go_sem, ↓reduceIte, Nat.reduceEqDiff, Nat.reduceAdd, Nat.reduceSub, Nat.reduceMul, Nat.reduceLT, Nat.reduceLeDiff, Int.reduceToNat, reduceCtorEq], fun E hE hH => ?_⟩; simp only [go_sem, ↓reduceIte, Nat.reduceEqDiff, Nat.reduceAdd, Nat.reduceSub, Nat.reduceMul, Nat.reduceLT, Nat.reduceLeDiff, Int.reduceToNat, reduceCtorEq] at hE hH; simp only [go_sem, hE, hH, ↓reduceIte, Nat.reduceEqDiff, Nat.reduceAdd, Nat.reduceSub, Nat.reduceMul, Nat.reduceLT, Nat.reduceLeDiff, Int.reduceToNat, reduceCtorEq, c_laws_heldIntS]
  refine loopNe l.length (fun j (_ : Unit) => ⟨[(0, .sl false 1 (ints (mkL (mkI) l k).1)), (1, i64 (mkN (mkI) l k j)), (5, i64 j)], []⟩) (fun _ _ => True) () (by simp [mkP_zero, mkN_zero]) trivial ?_
  intro j _ hj _
  have hpl := mkL_len (f := mkI) (k := k) (l := l)
  have hN := mkN_at (f := mkI) (c := fun _ => 1) (fun _ _ => rfl) (l := l) (k := k) (j := j)
  have hlen := cntL_len (c := fun _ => 1) (l := l) (fun x => by simp)
  try simp only [go_sem, hE, hH, ↓reduceIte, Nat.reduceEqDiff, Nat.reduceAdd, Nat.reduceSub, Nat.reduceMul, Nat.reduceLT, Nat.reduceLeDiff, Int.reduceToNat, reduceCtorEq, c_laws_heldIntS_l1]
  first | refine gd_t (fun h => ?_) (fun h => ?_) | refine gd_f (fun h => ?_) (fun h => ?_)
  · have hb := h
    simp only [decide_eq_true_eq, decide_eq_false_iff_not, Int.not_lt, Int.not_le, ge_iff_le, gt_iff_lt, Bool.not_eq_true', Bool.not_eq_false', beq_iff_eq, bne_iff_ne, beq_eq_false_iff_ne, bne_eq_false_iff_eq, Int.ofNat_lt, Int.ofNat_le] at h
    have hlt : j < l.length := by first | exact h | (rw [mkL_len] at h; exact h)
    have hc := psum_cnt (c := fun _ => 1) hlt
    have e0 := nth_mkL (f := mkI) (k := k) hlt
    have e2 := mkN_succ (f := mkI) (k := k) hlt
    simp only [mkI] at e0 e2
    generalize hk : mkN (mkI) l k j = q at *
    try simp (disch := omega) only [go_sem, hE, hH, ↓reduceIte, Nat.reduceEqDiff, Nat.reduceAdd, Nat.reduceSub, Nat.reduceMul, Nat.reduceLT, Nat.reduceLeDiff, Int.reduceToNat, reduceCtorEq, e0, wrap_id, getD_map, getD_ms, getD_cs, cpy_len, hb, hpl, e0]
    repeat' (first | ((with_reducible (first | refine gd_t (fun h => ?_) (fun h => ?_) | refine gd_f (fun h => ?_) (fun h => ?_))) <;> (have hb := h; (try simp only [decide_eq_true_eq, decide_eq_false_iff_not, Int.not_lt, Int.not_le, ge_iff_le, gt_iff_lt, Bool.not_eq_true', Bool.not_eq_false', beq_iff_eq, bne_iff_ne, beq_eq_false_iff_ne, bne_eq_false_iff_eq, Int.ofNat_lt, Int.ofNat_le] at h); simp (disch := omega) only [go_sem, hE, hH, ↓reduceIte, Nat.reduceEqDiff, Nat.reduceAdd, Nat.reduceSub, Nat.reduceMul, Nat.reduceLT, Nat.reduceLeDiff, Int.reduceToNat, reduceCtorEq, e0, wrap_id, getD_map, getD_ms, getD_cs, cpy_len, hb]; (try clear hb))) | ((with_reducible refine And.intro ?_ ?_); · omega) | (refine ok_view ?_; simp (disch := omega) only [go_sem, hE, hH, ↓reduceIte, Nat.reduceEqDiff, Nat.reduceAdd, Nat.reduceSub, Nat.reduceMul, Nat.reduceLT, Nat.reduceLeDiff, Int.reduceToNat, reduceCtorEq, e0, wrap_id, getD_map, getD_ms, getD_cs, cpy_len]) | (refine cvA (markText_ok _ (by omega)) ?_; simp (disch := omega) only [go_sem, hE, hH, ↓reduceIte, Nat.reduceEqDiff, Nat.reduceAdd, Nat.reduceSub, Nat.reduceMul, Nat.reduceLT, Nat.reduceLeDiff, Int.reduceToNat, reduceCtorEq, e0, wrap_id, getD_map, getD_ms, getD_cs, cpy_len]) | (refine jn _ ?_ ?_) | (with_reducible refine both ?_ ?_) | (with_reducible refine And.intro ?_ ?_) | (refine fin_eq ?_; (try (simp (disch := omega) only [go_sem, hE, hH, ↓reduceIte, Nat.reduceEqDiff, Nat.reduceAdd, Nat.reduceSub, Nat.reduceMul, Nat.reduceLT, Nat.reduceLeDiff, Int.reduceToNat, reduceCtorEq, e0, wrap_id, getD_map, getD_ms, getD_cs, cpy_len])); first | done | rfl) | (simp (disch := omega) only [go_sem, hE, hH, ↓reduceIte, Nat.reduceEqDiff, Nat.reduceAdd, Nat.reduceSub, Nat.reduceMul, Nat.reduceLT, Nat.reduceLeDiff, Int.reduceToNat, reduceCtorEq, e0, wrap_id, getD_map, getD_ms, getD_cs, cpy_len]) | (exact (noMLL_set (by simp only [go_sem, hE, hH, ↓reduceIte, Nat.reduceEqDiff, Nat.reduceAdd, Nat.reduceSub, Nat.reduceMul, Nat.reduceLT, Nat.reduceLeDiff, Int.reduceToNat, reduceCtorEq, e0]) (by simp only [go_sem, hE, hH, ↓reduceIte, Nat.reduceEqDiff, Nat.reduceAdd, Nat.reduceSub, Nat.reduceMul, Nat.reduceLT, Nat.reduceLeDiff, Int.reduceToNat, reduceCtorEq, e0])).2 trivial) | (exact (pk_set (by simp only [go_sem, hE, hH, ↓reduceIte, Nat.reduceEqDiff, Nat.reduceAdd, Nat.reduceSub, Nat.reduceMul, Nat.reduceLT, Nat.reduceLeDiff, Int.reduceToNat, reduceCtorEq, e0]) (by simp only [go_sem, hE, hH, ↓reduceIte, Nat.reduceEqDiff, Nat.reduceAdd, Nat.reduceSub, Nat.reduceMul, Nat.reduceLT, Nat.reduceLeDiff, Int.reduceToNat, reduceCtorEq, e0])).2 trivial) | (simp only [go_sem, hE, hH, ↓reduceIte, Nat.reduceEqDiff, Nat.reduceAdd, Nat.reduceSub, Nat.reduceMul, Nat.reduceLT, Nat.reduceLeDiff, Int.reduceToNat, reduceCtorEq, e0]) | fail)
    try try simp (disch := omega) only [go_sem, hE, hH, ↓reduceIte, Nat.reduceEqDiff, Nat.reduceAdd, Nat.reduceSub, Nat.reduceMul, Nat.reduceLT, Nat.reduceLeDiff, Int.reduceToNat, reduceCtorEq, e0, wrap_id, getD_map, getD_ms, getD_cs, cpy_len, hpl, e0]
    repeat' (first | (refine both ?_ ?_) | omega | (exact (noMLL_set (by simp only [go_sem, hE, hH, ↓reduceIte, Nat.reduceEqDiff, Nat.reduceAdd, Nat.reduceSub, Nat.reduceMul, Nat.reduceLT, Nat.reduceLeDiff, Int.reduceToNat, reduceCtorEq, e0]) (by simp only [go_sem, hE, hH, ↓reduceIte, Nat.reduceEqDiff, Nat.reduceAdd, Nat.reduceSub, Nat.reduceMul, Nat.reduceLT, Nat.reduceLeDiff, Int.reduceToNat, reduceCtorEq, e0])).2 trivial) | (exact (pk_set (by simp only [go_sem, hE, hH, ↓reduceIte, Nat.reduceEqDiff, Nat.reduceAdd, Nat.reduceSub, Nat.reduceMul, Nat.reduceLT, Nat.reduceLeDiff, Int.reduceToNat, reduceCtorEq, e0]) (by simp only [go_sem, hE, hH, ↓reduceIte, Nat.reduceEqDiff, Nat.reduceAdd, Nat.reduceSub, Nat.reduceMul, Nat.reduceLT, Nat.reduceLeDiff, Int.reduceToNat, reduceCtorEq, e0])).2 trivial) | fail)
    refine ⟨(), ?_⟩
    rw [e2]
    rfl
  · have hb := h
    simp only [decide_eq_true_eq, decide_eq_false_iff_not, Int.not_lt, Int.not_le, ge_iff_le, gt_iff_lt, Bool.not_eq_true', Bool.not_eq_false', beq_iff_eq, bne_iff_ne, beq_eq_false_iff_ne, bne_eq_false_iff_eq, Int.ofNat_lt, Int.ofNat_le] at h
    try simp (disch := omega) only [go_sem, hE, hH, ↓reduceIte, Nat.reduceEqDiff, Nat.reduceAdd, Nat.reduceSub, Nat.reduceMul, Nat.reduceLT, Nat.reduceLeDiff, Int.reduceToNat, reduceCtorEq, wrap_id, getD_map, getD_ms, getD_cs, cpy_len, hb]
    have e3 : j = l.length := by first | omega | (rw [mkL_len] at h; omega)
    subst e3
    rw [mkN_all (Nat.le_refl _)]
end Go.Proofs.Wb

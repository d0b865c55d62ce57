/- Contracts of functions. -/
import Derived.Test.YtjfdifmdjlodcaaFnExactSendToM0
import Derived.Laws.Externs
set_option linter.unusedSimpArgs false
set_option linter.unusedVariables false
set_option linter.unusedSectionVars false
namespace Go.Proofs.Wb
open Go Go.Am
def Letter.mk2 (x : Letter) (k : Int) : Letter × Int := (⟨k, (k + 1), ((k + 1) + 1), mkText (((k + 1) + 1) + 1)⟩, ((((k + 1) + 1) + 1) + 1))
def Letter.cnt (x : Letter) : Nat := 1 + 1 + 1 + 1
theorem Letter.mk2_cnt (x : Letter) (k : Int) : (x.mk2 k).2 = k + (x.cnt : Nat) := by
  simp only [Letter.mk2, Letter.cnt]
  try omega
theorem Letter.cnt_le (x : Letter) : x.cnt ≤ 4 * (x.sz + 1) := by
  simp only [Letter.cnt, Letter.sz]
  try omega
def Places.mk2 (x : Places) (k : Int) : Places × Int := (⟨k, (mkL (mkS) x.Cuts (k + 1)).1, (mkL (mkI) x.Groups (mkL (mkS) x.Cuts (k + 1)).2).1⟩, (mkL (mkI) x.Groups (mkL (mkS) x.Cuts (k + 1)).2).2)
def Places.cnt (x : Places) : Nat := 1 + cntL (fun _ => 1) x.Cuts + cntL (fun _ => 1) x.Groups
theorem Places.mk2_cnt (x : Places) (k : Int) : (x.mk2 k).2 = k + (x.cnt : Nat) := by
  simp only [Places.mk2, Places.cnt, mkN_cnt (f := mkS) (c := fun _ => 1) (fun _ _ => rfl), mkN_cnt (f := mkI) (c := fun _ => 1) (fun _ _ => rfl)]
  try omega
theorem Places.cnt_le (x : Places) : x.cnt ≤ 3 * (x.sz + 1) := by
  have c_Cuts := cntL_le (c := fun _ => 1) (s := ByteArray.size) (A := 1) (fun x => by omega) (l := x.Cuts)
  have c_Groups := cntL_le1 (c := fun _ => 1) (A := 1) (fun x => by simp) (l := x.Groups)
  simp only [Places.cnt, Places.sz]
  try omega
def Places.mkv (x : Places) (k : Int) : Places × Int := (⟨x.Ver, (mkL (mkS) x.Cuts k).1, (mkL (mkI) x.Groups (mkL (mkS) x.Cuts k).2).1⟩, (mkL (mkI) x.Groups (mkL (mkS) x.Cuts k).2).2)
def Places.cntv (x : Places) : Nat := cntL (fun _ => 1) x.Cuts + cntL (fun _ => 1) x.Groups
theorem Places.mkv_cnt (x : Places) (k : Int) : (x.mkv k).2 = k + (x.cntv : Nat) := by
  simp only [Places.mkv, Places.cntv, mkN_cnt (f := mkS) (c := fun _ => 1) (fun _ _ => rfl), mkN_cnt (f := mkI) (c := fun _ => 1) (fun _ _ => rfl)]
  try omega
theorem Places.cntv_le (x : Places) : x.cntv ≤ 3 * (x.sz + 1) := by
  have c_Cuts := cntL_le (c := fun _ => 1) (s := ByteArray.size) (A := 1) (fun x => by omega) (l := x.Cuts)
  have c_Groups := cntL_le1 (c := fun _ => 1) (A := 1) (fun x => by simp) (l := x.Groups)
  simp only [Places.cntv, Places.sz]
  try omega
@[go_sem] theorem Places.mkv_at_Ver (x : Places) (k : Int) : (x.mkv k).1.Ver = x.Ver := rfl
@[go_sem] theorem Places.mkv_len_Cuts (x : Places) (k : Int) : (x.mkv k).1.Cuts.length = x.Cuts.length := mkL_len
@[go_sem] theorem Places.mkv_take_Cuts (x : Places) (k : Int) : (x.mkv k).1.Cuts.take x.Cuts.length = (x.mkv k).1.Cuts := mkL_take
@[go_sem] theorem Places.mkv_len_Groups (x : Places) (k : Int) : (x.mkv k).1.Groups.length = x.Groups.length := mkL_len
@[go_sem] theorem Places.mkv_take_Groups (x : Places) (k : Int) : (x.mkv k).1.Groups.take x.Groups.length = (x.mkv k).1.Groups := mkL_take
def Net.mk2 (x : Net) (k : Int) : Net × Int := (⟨k, (mkL (mkI) x.Homes (k + 1)).1, (mkL (mkI) x.Homes (k + 1)).2, (mkL (Letter.mk2) x.Under ((mkL (mkI) x.Homes (k + 1)).2 + 1)).1⟩, (mkL (Letter.mk2) x.Under ((mkL (mkI) x.Homes (k + 1)).2 + 1)).2)
def Net.cnt (x : Net) : Nat := 1 + cntL (fun _ => 1) x.Homes + 1 + cntL (Letter.cnt) x.Under
theorem Net.mk2_cnt (x : Net) (k : Int) : (x.mk2 k).2 = k + (x.cnt : Nat) := by
  simp only [Net.mk2, Net.cnt, mkN_cnt (f := mkI) (c := fun _ => 1) (fun _ _ => rfl), mkN_cnt (f := Letter.mk2) (c := Letter.cnt) (Letter.mk2_cnt)]
  try omega
theorem Net.cnt_le (x : Net) : x.cnt ≤ 7 * (x.sz + 1) := by
  have c_Homes := cntL_le1 (c := fun _ => 1) (A := 1) (fun x => by simp) (l := x.Homes)
  have c_Under := cntL_le (c := Letter.cnt) (s := Letter.sz) (A := 4) Letter.cnt_le (l := x.Under)
  simp only [Net.cnt, Net.sz]
  try omega
def Net.mkv (x : Net) (k : Int) : Net × Int := (⟨x.Now, (mkL (mkI) x.Homes k).1, x.Far, (mkL (Letter.mk2) x.Under (mkL (mkI) x.Homes k).2).1⟩, (mkL (Letter.mk2) x.Under (mkL (mkI) x.Homes k).2).2)
def Net.cntv (x : Net) : Nat := cntL (fun _ => 1) x.Homes + cntL (Letter.cnt) x.Under
theorem Net.mkv_cnt (x : Net) (k : Int) : (x.mkv k).2 = k + (x.cntv : Nat) := by
  simp only [Net.mkv, Net.cntv, mkN_cnt (f := mkI) (c := fun _ => 1) (fun _ _ => rfl), mkN_cnt (f := Letter.mk2) (c := Letter.cnt) (Letter.mk2_cnt)]
  try omega
theorem Net.cntv_le (x : Net) : x.cntv ≤ 7 * (x.sz + 1) := by
  have c_Homes := cntL_le1 (c := fun _ => 1) (A := 1) (fun x => by simp) (l := x.Homes)
  have c_Under := cntL_le (c := Letter.cnt) (s := Letter.sz) (A := 4) Letter.cnt_le (l := x.Under)
  simp only [Net.cntv, Net.sz]
  try omega
@[go_sem] theorem Net.mkv_at_Now (x : Net) (k : Int) : (x.mkv k).1.Now = x.Now := rfl
@[go_sem] theorem Net.mkv_len_Homes (x : Net) (k : Int) : (x.mkv k).1.Homes.length = x.Homes.length := mkL_len
@[go_sem] theorem Net.mkv_take_Homes (x : Net) (k : Int) : (x.mkv k).1.Homes.take x.Homes.length = (x.mkv k).1.Homes := mkL_take
@[go_sem] theorem Net.mkv_at_Far (x : Net) (k : Int) : (x.mkv k).1.Far = x.Far := rfl
@[go_sem] theorem Net.mkv_len_Under (x : Net) (k : Int) : (x.mkv k).1.Under.length = x.Under.length := mkL_len
@[go_sem] theorem Net.mkv_take_Under (x : Net) (k : Int) : (x.mkv k).1.Under.take x.Under.length = (x.mkv k).1.Under := mkL_take
theorem markIntS_ok (l : List Int) (k : Int) (h0 : 0 ≤ k) (h1 : k + (cntL (fun _ => 1) l : Nat) ≤ 2 ^ 62) : ACall Try.prog n_laws_markIntS [.sl true 1 (ints l), i64 k] (fun r a => r = i64 (mkL (mkI) l k).2 ∧ a = [.sl true 1 (ints (mkL (mkI) l k).1), i64 k]) := by
  refine fn_in h_laws_markIntS r_laws_markIntS ⟨by simp only [go_sem, ↓reduceIte, Nat.reduceEqDiff, Nat.reduceAdd, Nat.reduceSub, Nat.reduceMul, Nat.reduceLT, Nat.reduceLeDiff, Int.reduceToNat, reduceCtorEq], fun E hE hH => ?_⟩; simp only [go_sem, ↓reduceIte, Nat.reduceEqDiff, Nat.reduceAdd, Nat.reduceSub, Nat.reduceMul, Nat.reduceLT, Nat.reduceLeDiff, Int.reduceToNat, reduceCtorEq] at hE hH; simp only [go_sem, hE, hH, ↓reduceIte, Nat.reduceEqDiff, Nat.reduceAdd, Nat.reduceSub, Nat.reduceMul, Nat.reduceLT, Nat.reduceLeDiff, Int.reduceToNat, reduceCtorEq, c_laws_markIntS]
  refine loopNe l.length (fun j (_ : Unit) => ⟨[(0, .ref 0 0 l.length), (1, i64 (mkN (mkI) l k j)), (5, i64 j)], [(0, ⟨1, ints (mkP (mkI) l k j)⟩)]⟩) (fun _ _ => True) () (by simp [mkP_zero, mkN_zero]) trivial ?_
  intro j _ hj _
  have hpl := mkP_len (f := mkI) (k := k) hj
  have hN := mkN_at (f := mkI) (c := fun _ => 1) (fun _ _ => rfl) (l := l) (k := k) (j := j)
  have hlen := cntL_len (c := fun _ => 1) (l := l) (fun x => by simp)
  try simp only [go_sem, hE, hH, ↓reduceIte, Nat.reduceEqDiff, Nat.reduceAdd, Nat.reduceSub, Nat.reduceMul, Nat.reduceLT, Nat.reduceLeDiff, Int.reduceToNat, reduceCtorEq, c_laws_markIntS_l1]
  first | refine gd_t (fun h => ?_) (fun h => ?_) | refine gd_f (fun h => ?_) (fun h => ?_)
  · have hb := h
    simp only [decide_eq_true_eq, decide_eq_false_iff_not, Int.not_lt, Int.not_le, ge_iff_le, gt_iff_lt, Bool.not_eq_true', Bool.not_eq_false', beq_iff_eq, bne_iff_ne, beq_eq_false_iff_ne, bne_eq_false_iff_eq, Int.ofNat_lt, Int.ofNat_le] at h
    have hlt := h
    have hc := psum_cnt (c := fun _ => 1) hlt
    have e0 := nth_mkP (f := mkI) (k := k) hlt
    have e1 := mkP_set (f := mkI) (k := k) hlt
    have e2 := mkN_succ (f := mkI) (k := k) hlt
    simp only [mkI] at e1 e2
    generalize hk : mkN (mkI) l k j = q at *
    try simp (disch := omega) only [go_sem, hE, hH, ↓reduceIte, Nat.reduceEqDiff, Nat.reduceAdd, Nat.reduceSub, Nat.reduceMul, Nat.reduceLT, Nat.reduceLeDiff, Int.reduceToNat, reduceCtorEq, wrap_id, getD_map, getD_ms, getD_cs, cpy_len, hb, hpl, e0]
    repeat' (first | ((with_reducible (first | refine gd_t (fun h => ?_) (fun h => ?_) | refine gd_f (fun h => ?_) (fun h => ?_))) <;> (have hb := h; (try simp only [decide_eq_true_eq, decide_eq_false_iff_not, Int.not_lt, Int.not_le, ge_iff_le, gt_iff_lt, Bool.not_eq_true', Bool.not_eq_false', beq_iff_eq, bne_iff_ne, beq_eq_false_iff_ne, bne_eq_false_iff_eq, Int.ofNat_lt, Int.ofNat_le] at h); simp (disch := omega) only [go_sem, hE, hH, ↓reduceIte, Nat.reduceEqDiff, Nat.reduceAdd, Nat.reduceSub, Nat.reduceMul, Nat.reduceLT, Nat.reduceLeDiff, Int.reduceToNat, reduceCtorEq, wrap_id, getD_map, getD_ms, getD_cs, cpy_len, hb]; (try clear hb))) | ((with_reducible refine And.intro ?_ ?_); · omega) | (refine ok_view ?_; simp (disch := omega) only [go_sem, hE, hH, ↓reduceIte, Nat.reduceEqDiff, Nat.reduceAdd, Nat.reduceSub, Nat.reduceMul, Nat.reduceLT, Nat.reduceLeDiff, Int.reduceToNat, reduceCtorEq, wrap_id, getD_map, getD_ms, getD_cs, cpy_len]) | (refine cvA (markText_ok _ (by omega)) ?_; simp (disch := omega) only [go_sem, hE, hH, ↓reduceIte, Nat.reduceEqDiff, Nat.reduceAdd, Nat.reduceSub, Nat.reduceMul, Nat.reduceLT, Nat.reduceLeDiff, Int.reduceToNat, reduceCtorEq, wrap_id, getD_map, getD_ms, getD_cs, cpy_len]) | (refine jn _ ?_ ?_) | (with_reducible refine both ?_ ?_) | (with_reducible refine And.intro ?_ ?_) | (refine fin_eq ?_; (try (simp (disch := omega) only [go_sem, hE, hH, ↓reduceIte, Nat.reduceEqDiff, Nat.reduceAdd, Nat.reduceSub, Nat.reduceMul, Nat.reduceLT, Nat.reduceLeDiff, Int.reduceToNat, reduceCtorEq, wrap_id, getD_map, getD_ms, getD_cs, cpy_len])); first | done | rfl) | (simp (disch := omega) only [go_sem, hE, hH, ↓reduceIte, Nat.reduceEqDiff, Nat.reduceAdd, Nat.reduceSub, Nat.reduceMul, Nat.reduceLT, Nat.reduceLeDiff, Int.reduceToNat, reduceCtorEq, wrap_id, getD_map, getD_ms, getD_cs, cpy_len]) | (exact (noMLL_set (by simp only [go_sem, hE, hH, ↓reduceIte, Nat.reduceEqDiff, Nat.reduceAdd, Nat.reduceSub, Nat.reduceMul, Nat.reduceLT, Nat.reduceLeDiff, Int.reduceToNat, reduceCtorEq]) (by simp only [go_sem, hE, hH, ↓reduceIte, Nat.reduceEqDiff, Nat.reduceAdd, Nat.reduceSub, Nat.reduceMul, Nat.reduceLT, Nat.reduceLeDiff, Int.reduceToNat, reduceCtorEq])).2 trivial) | (exact (pk_set (by simp only [go_sem, hE, hH, ↓reduceIte, Nat.reduceEqDiff, Nat.reduceAdd, Nat.reduceSub, Nat.reduceMul, Nat.reduceLT, Nat.reduceLeDiff, Int.reduceToNat, reduceCtorEq]) (by simp only [go_sem, hE, hH, ↓reduceIte, Nat.reduceEqDiff, Nat.reduceAdd, Nat.reduceSub, Nat.reduceMul, Nat.reduceLT, Nat.reduceLeDiff, Int.reduceToNat, reduceCtorEq])).2 trivial) | (simp only [go_sem, hE, hH, ↓reduceIte, Nat.reduceEqDiff, Nat.reduceAdd, Nat.reduceSub, Nat.reduceMul, Nat.reduceLT, Nat.reduceLeDiff, Int.reduceToNat, reduceCtorEq]) | fail)
    try try simp (disch := omega) only [go_sem, hE, hH, ↓reduceIte, Nat.reduceEqDiff, Nat.reduceAdd, Nat.reduceSub, Nat.reduceMul, Nat.reduceLT, Nat.reduceLeDiff, Int.reduceToNat, reduceCtorEq, wrap_id, getD_map, getD_ms, getD_cs, cpy_len, hpl, e0]
    repeat' (first | (refine both ?_ ?_) | omega | (exact (noMLL_set (by simp only [go_sem, hE, hH, ↓reduceIte, Nat.reduceEqDiff, Nat.reduceAdd, Nat.reduceSub, Nat.reduceMul, Nat.reduceLT, Nat.reduceLeDiff, Int.reduceToNat, reduceCtorEq]) (by simp only [go_sem, hE, hH, ↓reduceIte, Nat.reduceEqDiff, Nat.reduceAdd, Nat.reduceSub, Nat.reduceMul, Nat.reduceLT, Nat.reduceLeDiff, Int.reduceToNat, reduceCtorEq])).2 trivial) | (exact (pk_set (by simp only [go_sem, hE, hH, ↓reduceIte, Nat.reduceEqDiff, Nat.reduceAdd, Nat.reduceSub, Nat.reduceMul, Nat.reduceLT, Nat.reduceLeDiff, Int.reduceToNat, reduceCtorEq]) (by simp only [go_sem, hE, hH, ↓reduceIte, Nat.reduceEqDiff, Nat.reduceAdd, Nat.reduceSub, Nat.reduceMul, Nat.reduceLT, Nat.reduceLeDiff, Int.reduceToNat, reduceCtorEq])).2 trivial) | fail)
    refine ⟨(), ?_⟩
    rw [e2, ← e1]
    rfl
  · have hb := h
    simp only [decide_eq_true_eq, decide_eq_false_iff_not, Int.not_lt, Int.not_le, ge_iff_le, gt_iff_lt, Bool.not_eq_true', Bool.not_eq_false', beq_iff_eq, bne_iff_ne, beq_eq_false_iff_ne, bne_eq_false_iff_eq, Int.ofNat_lt, Int.ofNat_le] at h
    try simp (disch := omega) only [go_sem, hE, hH, ↓reduceIte, Nat.reduceEqDiff, Nat.reduceAdd, Nat.reduceSub, Nat.reduceMul, Nat.reduceLT, Nat.reduceLeDiff, Int.reduceToNat, reduceCtorEq, wrap_id, getD_map, getD_ms, getD_cs, cpy_len, hb]
    have e3 : j = l.length := by first | omega | (rw [mkL_len] at h; omega)
    subst e3
    rw [mkN_all (Nat.le_refl _), mkP_all (Nat.le_refl _)]
    exact ⟨mkL_len.symm, rfl, rfl⟩
theorem markLetterS_ok (l : List Letter) (k : Int) (h0 : 0 ≤ k) (h1 : k + (cntL (Letter.cnt) l : Nat) ≤ 2 ^ 62) : ACall Try.prog n_laws_markLetterS [.sl true 4 (l.map (Letter.row true)), i64 k] (fun r a => r = i64 (mkL (Letter.mk2) l k).2 ∧ a = [.sl true 4 ((mkL (Letter.mk2) l k).1.map (Letter.row true)), i64 k]) := by
  refine fn_in h_laws_markLetterS r_laws_markLetterS ⟨by simp only [go_sem, ↓reduceIte, Nat.reduceEqDiff, Nat.reduceAdd, Nat.reduceSub, Nat.reduceMul, Nat.reduceLT, Nat.reduceLeDiff, Int.reduceToNat, reduceCtorEq], fun E hE hH => ?_⟩; simp only [go_sem, ↓reduceIte, Nat.reduceEqDiff, Nat.reduceAdd, Nat.reduceSub, Nat.reduceMul, Nat.reduceLT, Nat.reduceLeDiff, Int.reduceToNat, reduceCtorEq] at hE hH; simp only [go_sem, hE, hH, ↓reduceIte, Nat.reduceEqDiff, Nat.reduceAdd, Nat.reduceSub, Nat.reduceMul, Nat.reduceLT, Nat.reduceLeDiff, Int.reduceToNat, reduceCtorEq, c_laws_markLetterS]
  refine loopNe l.length (fun j (_ : Unit) => ⟨[(0, .ref 0 0 l.length), (1, i64 (mkN (Letter.mk2) l k j)), (5, i64 j)], [(0, ⟨4, (mkP (Letter.mk2) l k j).map (Letter.row true)⟩)]⟩) (fun _ _ => True) () (by simp [mkP_zero, mkN_zero]) trivial ?_
  intro j _ hj _
  have hpl := mkP_len (f := Letter.mk2) (k := k) hj
  have hN := mkN_at (f := Letter.mk2) (c := Letter.cnt) (Letter.mk2_cnt) (l := l) (k := k) (j := j)
  have hlen := cntL_len (c := Letter.cnt) (l := l) (fun x => by simp only [Letter.cnt]; omega)
  try simp only [go_sem, hE, hH, ↓reduceIte, Nat.reduceEqDiff, Nat.reduceAdd, Nat.reduceSub, Nat.reduceMul, Nat.reduceLT, Nat.reduceLeDiff, Int.reduceToNat, reduceCtorEq, c_laws_markLetterS_l1]
  first | refine gd_t (fun h => ?_) (fun h => ?_) | refine gd_f (fun h => ?_) (fun h => ?_)
  · have hb := h
    simp only [decide_eq_true_eq, decide_eq_false_iff_not, Int.not_lt, Int.not_le, ge_iff_le, gt_iff_lt, Bool.not_eq_true', Bool.not_eq_false', beq_iff_eq, bne_iff_ne, beq_eq_false_iff_ne, bne_eq_false_iff_eq, Int.ofNat_lt, Int.ofNat_le] at h
    have hlt := h
    have hc := psum_cnt (c := Letter.cnt) hlt
    have e0 := nth_mkP (f := Letter.mk2) (k := k) hlt
    have e1 := mkP_set (f := Letter.mk2) (k := k) hlt
    have e2 := mkN_succ (f := Letter.mk2) (k := k) hlt
    simp only [Letter.mk2] at e1 e2
    simp only [Letter.cnt] at hc
    generalize hk : mkN (Letter.mk2) l k j = q at *
    try simp (disch := omega) only [go_sem, hE, hH, ↓reduceIte, Nat.reduceEqDiff, Nat.reduceAdd, Nat.reduceSub, Nat.reduceMul, Nat.reduceLT, Nat.reduceLeDiff, Int.reduceToNat, reduceCtorEq, wrap_id, getD_map, getD_ms, getD_cs, cpy_len, hb, hpl, e0]
    repeat' (first | ((with_reducible (first | refine gd_t (fun h => ?_) (fun h => ?_) | refine gd_f (fun h => ?_) (fun h => ?_))) <;> (have hb := h; (try simp only [decide_eq_true_eq, decide_eq_false_iff_not, Int.not_lt, Int.not_le, ge_iff_le, gt_iff_lt, Bool.not_eq_true', Bool.not_eq_false', beq_iff_eq, bne_iff_ne, beq_eq_false_iff_ne, bne_eq_false_iff_eq, Int.ofNat_lt, Int.ofNat_le] at h); simp (disch := omega) only [go_sem, hE, hH, ↓reduceIte, Nat.reduceEqDiff, Nat.reduceAdd, Nat.reduceSub, Nat.reduceMul, Nat.reduceLT, Nat.reduceLeDiff, Int.reduceToNat, reduceCtorEq, wrap_id, getD_map, getD_ms, getD_cs, cpy_len, hb]; (try clear hb))) | ((with_reducible refine And.intro ?_ ?_); · omega) | (refine ok_view ?_; simp (disch := omega) only [go_sem, hE, hH, ↓reduceIte, Nat.reduceEqDiff, Nat.reduceAdd, Nat.reduceSub, Nat.reduceMul, Nat.reduceLT, Nat.reduceLeDiff, Int.reduceToNat, reduceCtorEq, wrap_id, getD_map, getD_ms, getD_cs, cpy_len]) | (refine cvA (markText_ok _ (by omega)) ?_; simp (disch := omega) only [go_sem, hE, hH, ↓reduceIte, Nat.reduceEqDiff, Nat.reduceAdd, Nat.reduceSub, Nat.reduceMul, Nat.reduceLT, Nat.reduceLeDiff, Int.reduceToNat, reduceCtorEq, wrap_id, getD_map, getD_ms, getD_cs, cpy_len]) | (refine jn _ ?_ ?_) | (with_reducible refine both ?_ ?_) | (with_reducible refine And.intro ?_ ?_) | (refine fin_eq ?_; (try (simp (disch := omega) only [go_sem, hE, hH, ↓reduceIte, Nat.reduceEqDiff, Nat.reduceAdd, Nat.reduceSub, Nat.reduceMul, Nat.reduceLT, Nat.reduceLeDiff, Int.reduceToNat, reduceCtorEq, wrap_id, getD_map, getD_ms, getD_cs, cpy_len])); first | done | rfl) | (simp (disch := omega) only [go_sem, hE, hH, ↓reduceIte, Nat.reduceEqDiff, Nat.reduceAdd, Nat.reduceSub, Nat.reduceMul, Nat.reduceLT, Nat.reduceLeDiff, Int.reduceToNat, reduceCtorEq, wrap_id, getD_map, getD_ms, getD_cs, cpy_len]) | (exact (noMLL_set (by simp only [go_sem, hE, hH, ↓reduceIte, Nat.reduceEqDiff, Nat.reduceAdd, Nat.reduceSub, Nat.reduceMul, Nat.reduceLT, Nat.reduceLeDiff, Int.reduceToNat, reduceCtorEq]) (by simp only [go_sem, hE, hH, ↓reduceIte, Nat.reduceEqDiff, Nat.reduceAdd, Nat.reduceSub, Nat.reduceMul, Nat.reduceLT, Nat.reduceLeDiff, Int.reduceToNat, reduceCtorEq])).2 trivial) | (exact (pk_set (by simp only [go_sem, hE, hH, ↓reduceIte, Nat.reduceEqDiff, Nat.reduceAdd, Nat.reduceSub, Nat.reduceMul, Nat.reduceLT, Nat.reduceLeDiff, Int.reduceToNat, reduceCtorEq]) (by simp only [go_sem, hE, hH, ↓reduceIte, Nat.reduceEqDiff, Nat.reduceAdd, Nat.reduceSub, Nat.reduceMul, Nat.reduceLT, Nat.reduceLeDiff, Int.reduceToNat, reduceCtorEq])).2 trivial) | (simp only [go_sem, hE, hH, ↓reduceIte, Nat.reduceEqDiff, Nat.reduceAdd, Nat.reduceSub, Nat.reduceMul, Nat.reduceLT, Nat.reduceLeDiff, Int.reduceToNat, reduceCtorEq]) | fail)
    try try simp (disch := omega) only [go_sem, hE, hH, ↓reduceIte, Nat.reduceEqDiff, Nat.reduceAdd, Nat.reduceSub, Nat.reduceMul, Nat.reduceLT, Nat.reduceLeDiff, Int.reduceToNat, reduceCtorEq, wrap_id, getD_map, getD_ms, getD_cs, cpy_len, hpl, e0]
    repeat' (first | (refine both ?_ ?_) | omega | (exact (noMLL_set (by simp only [go_sem, hE, hH, ↓reduceIte, Nat.reduceEqDiff, Nat.reduceAdd, Nat.reduceSub, Nat.reduceMul, Nat.reduceLT, Nat.reduceLeDiff, Int.reduceToNat, reduceCtorEq]) (by simp only [go_sem, hE, hH, ↓reduceIte, Nat.reduceEqDiff, Nat.reduceAdd, Nat.reduceSub, Nat.reduceMul, Nat.reduceLT, Nat.reduceLeDiff, Int.reduceToNat, reduceCtorEq])).2 trivial) | (exact (pk_set (by simp only [go_sem, hE, hH, ↓reduceIte, Nat.reduceEqDiff, Nat.reduceAdd, Nat.reduceSub, Nat.reduceMul, Nat.reduceLT, Nat.reduceLeDiff, Int.reduceToNat, reduceCtorEq]) (by simp only [go_sem, hE, hH, ↓reduceIte, Nat.reduceEqDiff, Nat.reduceAdd, Nat.reduceSub, Nat.reduceMul, Nat.reduceLT, Nat.reduceLeDiff, Int.reduceToNat, reduceCtorEq])).2 trivial) | fail)
    refine ⟨(), ?_⟩
    rw [e2, ← e1, List.map_set]
    rfl
  · have hb := h
    simp only [decide_eq_true_eq, decide_eq_false_iff_not, Int.not_lt, Int.not_le, ge_iff_le, gt_iff_lt, Bool.not_eq_true', Bool.not_eq_false', beq_iff_eq, bne_iff_ne, beq_eq_false_iff_ne, bne_eq_false_iff_eq, Int.ofNat_lt, Int.ofNat_le] at h
    try simp (disch := omega) only [go_sem, hE, hH, ↓reduceIte, Nat.reduceEqDiff, Nat.reduceAdd, Nat.reduceSub, Nat.reduceMul, Nat.reduceLT, Nat.reduceLeDiff, Int.reduceToNat, reduceCtorEq, wrap_id, getD_map, getD_ms, getD_cs, cpy_len, hb]
    have e3 : j = l.length := by first | omega | (rw [mkL_len] at h; omega)
    subst e3
    rw [mkN_all (Nat.le_refl _), mkP_all (Nat.le_refl _)]
    exact ⟨mkL_len.symm, rfl, rfl⟩
theorem markNet_ok (x : Net) (k : Int) (h0 : 0 ≤ k) (h1 : k + (x.cntv : Nat) ≤ 2 ^ 62) : ACall Try.prog n_laws_markNet [.agg (Net.row true x), i64 k] (fun r a => r = i64 (x.mkv k).2 ∧ a = [.agg (Net.row true (x.mkv k).1), i64 k]) := by
  simp only [Net.cntv] at h1
  have m_Homes := mkN_cnt (f := mkI) (c := fun _ => 1) (fun _ _ => rfl) (l := x.Homes) (k := k)
  have m_Under := mkN_cnt (f := Letter.mk2) (c := Letter.cnt) (Letter.mk2_cnt) (l := x.Under) (k := (mkL (mkI) x.Homes k).2)
  simp only [Net.mkv]
  refine fn_in h_laws_markNet r_laws_markNet ⟨by simp only [go_sem, ↓reduceIte, Nat.reduceEqDiff, Nat.reduceAdd, Nat.reduceSub, Nat.reduceMul, Nat.reduceLT, Nat.reduceLeDiff, Int.reduceToNat, reduceCtorEq], fun E hE hH => ?_⟩; simp only [go_sem, ↓reduceIte, Nat.reduceEqDiff, Nat.reduceAdd, Nat.reduceSub, Nat.reduceMul, Nat.reduceLT, Nat.reduceLeDiff, Int.reduceToNat, reduceCtorEq] at hE hH; simp only [go_sem, hE, hH, ↓reduceIte, Nat.reduceEqDiff, Nat.reduceAdd, Nat.reduceSub, Nat.reduceMul, Nat.reduceLT, Nat.reduceLeDiff, Int.reduceToNat, reduceCtorEq, c_laws_markNet]
  try simp (disch := omega) only [go_sem, hE, hH, ↓reduceIte, Nat.reduceEqDiff, Nat.reduceAdd, Nat.reduceSub, Nat.reduceMul, Nat.reduceLT, Nat.reduceLeDiff, Int.reduceToNat, reduceCtorEq, wrap_id, getD_map, getD_ms, getD_cs, cpy_len]
  repeat' (first | ((with_reducible (first | refine gd_t (fun h => ?_) (fun h => ?_) | refine gd_f (fun h => ?_) (fun h => ?_))) <;> (have hb := h; (try simp only [decide_eq_true_eq, decide_eq_false_iff_not, Int.not_lt, Int.not_le, ge_iff_le, gt_iff_lt, Bool.not_eq_true', Bool.not_eq_false', beq_iff_eq, bne_iff_ne, beq_eq_false_iff_ne, bne_eq_false_iff_eq, Int.ofNat_lt, Int.ofNat_le] at h); simp (disch := omega) only [go_sem, hE, hH, ↓reduceIte, Nat.reduceEqDiff, Nat.reduceAdd, Nat.reduceSub, Nat.reduceMul, Nat.reduceLT, Nat.reduceLeDiff, Int.reduceToNat, reduceCtorEq, wrap_id, getD_map, getD_ms, getD_cs, cpy_len, hb]; (try clear hb))) | ((with_reducible refine And.intro ?_ ?_); · omega) | (refine ok_lend [true, false] ?_; simp (disch := omega) only [go_sem, hE, hH, ↓reduceIte, Nat.reduceEqDiff, Nat.reduceAdd, Nat.reduceSub, Nat.reduceMul, Nat.reduceLT, Nat.reduceLeDiff, Int.reduceToNat, reduceCtorEq, wrap_id, getD_map, getD_ms, getD_cs, cpy_len]; refine cmA (markIntS_ok x.Homes k (by omega) (by omega)) ?_; simp (disch := omega) only [go_sem, hE, hH, ↓reduceIte, Nat.reduceEqDiff, Nat.reduceAdd, Nat.reduceSub, Nat.reduceMul, Nat.reduceLT, Nat.reduceLeDiff, Int.reduceToNat, reduceCtorEq, wrap_id, getD_map, getD_ms, getD_cs, cpy_len]) | (refine ok_lend [true, false] ?_; simp (disch := omega) only [go_sem, hE, hH, ↓reduceIte, Nat.reduceEqDiff, Nat.reduceAdd, Nat.reduceSub, Nat.reduceMul, Nat.reduceLT, Nat.reduceLeDiff, Int.reduceToNat, reduceCtorEq, wrap_id, getD_map, getD_ms, getD_cs, cpy_len]; refine cmA (markLetterS_ok x.Under (mkL (mkI) x.Homes k).2 (by omega) (by omega)) ?_; simp (disch := omega) only [go_sem, hE, hH, ↓reduceIte, Nat.reduceEqDiff, Nat.reduceAdd, Nat.reduceSub, Nat.reduceMul, Nat.reduceLT, Nat.reduceLeDiff, Int.reduceToNat, reduceCtorEq, wrap_id, getD_map, getD_ms, getD_cs, cpy_len]) | (refine jn _ ?_ ?_) | (with_reducible refine both ?_ ?_) | (with_reducible refine And.intro ?_ ?_) | (refine fin_eq ?_; (try (simp (disch := omega) only [go_sem, hE, hH, ↓reduceIte, Nat.reduceEqDiff, Nat.reduceAdd, Nat.reduceSub, Nat.reduceMul, Nat.reduceLT, Nat.reduceLeDiff, Int.reduceToNat, reduceCtorEq, wrap_id, getD_map, getD_ms, getD_cs, cpy_len])); first | done | rfl) | (simp (disch := omega) only [go_sem, hE, hH, ↓reduceIte, Nat.reduceEqDiff, Nat.reduceAdd, Nat.reduceSub, Nat.reduceMul, Nat.reduceLT, Nat.reduceLeDiff, Int.reduceToNat, reduceCtorEq, wrap_id, getD_map, getD_ms, getD_cs, cpy_len]) | (exact (noMLL_set (by simp only [go_sem, hE, hH, ↓reduceIte, Nat.reduceEqDiff, Nat.reduceAdd, Nat.reduceSub, Nat.reduceMul, Nat.reduceLT, Nat.reduceLeDiff, Int.reduceToNat, reduceCtorEq]) (by simp only [go_sem, hE, hH, ↓reduceIte, Nat.reduceEqDiff, Nat.reduceAdd, Nat.reduceSub, Nat.reduceMul, Nat.reduceLT, Nat.reduceLeDiff, Int.reduceToNat, reduceCtorEq])).2 trivial) | (exact (pk_set (by simp only [go_sem, hE, hH, ↓reduceIte, Nat.reduceEqDiff, Nat.reduceAdd, Nat.reduceSub, Nat.reduceMul, Nat.reduceLT, Nat.reduceLeDiff, Int.reduceToNat, reduceCtorEq]) (by simp only [go_sem, hE, hH, ↓reduceIte, Nat.reduceEqDiff, Nat.reduceAdd, Nat.reduceSub, Nat.reduceMul, Nat.reduceLT, Nat.reduceLeDiff, Int.reduceToNat, reduceCtorEq])).2 trivial) | (simp only [go_sem, hE, hH, ↓reduceIte, Nat.reduceEqDiff, Nat.reduceAdd, Nat.reduceSub, Nat.reduceMul, Nat.reduceLT, Nat.reduceLeDiff, Int.reduceToNat, reduceCtorEq]) | fail)
  all_goals first | omega | (simp [mkL_len]; done) | rfl
theorem heldIntS_ok (l : List Int) (k : Int) (h0 : 0 ≤ k) (h1 : k + (cntL (fun _ => 1) l : Nat) ≤ 2 ^ 62) : ACall Try.prog n_laws_heldIntS [.sl false 1 (ints (mkL (mkI) l k).1), i64 k] (fun r _ => r = i64 (mkL (mkI) l k).2) := by
  refine fn_in h_laws_heldIntS r_laws_heldIntS ⟨by simp only [go_sem, ↓reduceIte, Nat.reduceEqDiff, Nat.reduceAdd, Nat.reduceSub, Nat.reduceMul, Nat.reduceLT, Nat.reduceLeDiff, Int.reduceToNat, reduceCtorEq], fun E hE hH => ?_⟩; simp only [go_sem, ↓reduceIte, Nat.reduceEqDiff, Nat.reduceAdd, Nat.reduceSub, Nat.reduceMul, Nat.reduceLT, Nat.reduceLeDiff, Int.reduceToNat, reduceCtorEq] at hE hH; simp only [go_sem, hE, hH, ↓reduceIte, Nat.reduceEqDiff, Nat.reduceAdd, Nat.reduceSub, Nat.reduceMul, Nat.reduceLT, Nat.reduceLeDiff, Int.reduceToNat, reduceCtorEq, c_laws_heldIntS]
  refine loopNe l.length (fun j (_ : Unit) => ⟨[(0, .sl false 1 (ints (mkL (mkI) l k).1)), (1, i64 (mkN (mkI) l k j)), (5, i64 j)], []⟩) (fun _ _ => True) () (by simp [mkP_zero, mkN_zero]) trivial ?_
  intro j _ hj _
  have hpl := mkL_len (f := mkI) (k := k) (l := l)
  have hN := mkN_at (f := mkI) (c := fun _ => 1) (fun _ _ => rfl) (l := l) (k := k) (j := j)
  have hlen := cntL_len (c := fun _ => 1) (l := l) (fun x => by simp)
  try simp only [go_sem, hE, hH, ↓reduceIte, Nat.reduceEqDiff, Nat.reduceAdd, Nat.reduceSub, Nat.reduceMul, Nat.reduceLT, Nat.reduceLeDiff, Int.reduceToNat, reduceCtorEq, c_laws_heldIntS_l1]
  first | refine gd_t (fun h => ?_) (fun h => ?_) | refine gd_f (fun h => ?_) (fun h => ?_)
  · have hb := h
    simp only [decide_eq_true_eq, decide_eq_false_iff_not, Int.not_lt, Int.not_le, ge_iff_le, gt_iff_lt, Bool.not_eq_true', Bool.not_eq_false', beq_iff_eq, bne_iff_ne, beq_eq_false_iff_ne, bne_eq_false_iff_eq, Int.ofNat_lt, Int.ofNat_le] at h
    have hlt : j < l.length := by first | exact h | (rw [mkL_len] at h; exact h)
    have hc := psum_cnt (c := fun _ => 1) hlt
    have e0 := nth_mkL (f := mkI) (k := k) hlt
    have e2 := mkN_succ (f := mkI) (k := k) hlt
    simp only [mkI] at e0 e2
    generalize hk : mkN (mkI) l k j = q at *
    try simp (disch := omega) only [go_sem, hE, hH, ↓reduceIte, Nat.reduceEqDiff, Nat.reduceAdd, Nat.reduceSub, Nat.reduceMul, Nat.reduceLT, Nat.reduceLeDiff, Int.reduceToNat, reduceCtorEq, e0, wrap_id, getD_map, getD_ms, getD_cs, cpy_len, hb, hpl, e0]
    repeat' (first | ((with_reducible (first | refine gd_t (fun h => ?_) (fun h => ?_) | refine gd_f (fun h => ?_) (fun h => ?_))) <;> (have hb := h; (try simp only [decide_eq_true_eq, decide_eq_false_iff_not, Int.not_lt, Int.not_le, ge_iff_le, gt_iff_lt, Bool.not_eq_true', Bool.not_eq_false', beq_iff_eq, bne_iff_ne, beq_eq_false_iff_ne, bne_eq_false_iff_eq, Int.ofNat_lt, Int.ofNat_le] at h); simp (disch := omega) only [go_sem, hE, hH, ↓reduceIte, Nat.reduceEqDiff, Nat.reduceAdd, Nat.reduceSub, Nat.reduceMul, Nat.reduceLT, Nat.reduceLeDiff, Int.reduceToNat, reduceCtorEq, e0, wrap_id, getD_map, getD_ms, getD_cs, cpy_len, hb]; (try clear hb))) | ((with_reducible refine And.intro ?_ ?_); · omega) | (refine ok_view ?_; simp (disch := omega) only [go_sem, hE, hH, ↓reduceIte, Nat.reduceEqDiff, Nat.reduceAdd, Nat.reduceSub, Nat.reduceMul, Nat.reduceLT, Nat.reduceLeDiff, Int.reduceToNat, reduceCtorEq, e0, wrap_id, getD_map, getD_ms, getD_cs, cpy_len]) | (refine cvA (markText_ok _ (by omega)) ?_; simp (disch := omega) only [go_sem, hE, hH, ↓reduceIte, Nat.reduceEqDiff, Nat.reduceAdd, Nat.reduceSub, Nat.reduceMul, Nat.reduceLT, Nat.reduceLeDiff, Int.reduceToNat, reduceCtorEq, e0, wrap_id, getD_map, getD_ms, getD_cs, cpy_len]) | (refine jn _ ?_ ?_) | (with_reducible refine both ?_ ?_) | (with_reducible refine And.intro ?_ ?_) | (refine fin_eq ?_; (try (simp (disch := omega) only [go_sem, hE, hH, ↓reduceIte, Nat.reduceEqDiff, Nat.reduceAdd, Nat.reduceSub, Nat.reduceMul, Nat.reduceLT, Nat.reduceLeDiff, Int.reduceToNat, reduceCtorEq, e0, wrap_id, getD_map, getD_ms, getD_cs, cpy_len])); first | done | rfl) | (simp (disch := omega) only [go_sem, hE, hH, ↓reduceIte, Nat.reduceEqDiff, Nat.reduceAdd, Nat.reduceSub, Nat.reduceMul, Nat.reduceLT, Nat.reduceLeDiff, Int.reduceToNat, reduceCtorEq, e0, wrap_id, getD_map, getD_ms, getD_cs, cpy_len]) | (exact (noMLL_set (by simp only [go_sem, hE, hH, ↓reduceIte, Nat.reduceEqDiff, Nat.reduceAdd, Nat.reduceSub, Nat.reduceMul, Nat.reduceLT, Nat.reduceLeDiff, Int.reduceToNat, reduceCtorEq, e0]) (by simp only [go_sem, hE, hH, ↓reduceIte, Nat.reduceEqDiff, Nat.reduceAdd, Nat.reduceSub, Nat.reduceMul, Nat.reduceLT, Nat.reduceLeDiff, Int.reduceToNat, reduceCtorEq, e0])).2 trivial) | (exact (pk_set (by simp only [go_sem, hE, hH, ↓reduceIte, Nat.reduceEqDiff, Nat.reduceAdd, Nat.reduceSub, Nat.reduceMul, Nat.reduceLT, Nat.reduceLeDiff, Int.reduceToNat, reduceCtorEq, e0]) (by simp only [go_sem, hE, hH, ↓reduceIte, Nat.reduceEqDiff, Nat.reduceAdd, Nat.reduceSub, Nat.reduceMul, Nat.reduceLT, Nat.reduceLeDiff, Int.reduceToNat, reduceCtorEq, e0])).2 trivial) | (simp only [go_sem, hE, hH, ↓reduceIte, Nat.reduceEqDiff, Nat.reduceAdd, Nat.reduceSub, Nat.reduceMul, Nat.reduceLT, Nat.reduceLeDiff, Int.reduceToNat, reduceCtorEq, e0]) | fail)
    try try simp (disch := omega) only [go_sem, hE, hH, ↓reduceIte, Nat.reduceEqDiff, Nat.reduceAdd, Nat.reduceSub, Nat.reduceMul, Nat.reduceLT, Nat.reduceLeDiff, Int.reduceToNat, reduceCtorEq, e0, wrap_id, getD_map, getD_ms, getD_cs, cpy_len, hpl, e0]
    repeat' (first | (refine both ?_ ?_) | omega | (exact (noMLL_set (by simp only [go_sem, hE, hH, ↓reduceIte, Nat.reduceEqDiff, Nat.reduceAdd, Nat.reduceSub, Nat.reduceMul, Nat.reduceLT, Nat.reduceLeDiff, Int.reduceToNat, reduceCtorEq, e0]) (by simp only [go_sem, hE, hH, ↓reduceIte, Nat.reduceEqDiff, Nat.reduceAdd, Nat.reduceSub, Nat.reduceMul, Nat.reduceLT, Nat.reduceLeDiff, Int.reduceToNat, reduceCtorEq, e0])).2 trivial) | (exact (pk_set (by simp only [go_sem, hE, hH, ↓reduceIte, Nat.reduceEqDiff, Nat.reduceAdd, Nat.reduceSub, Nat.reduceMul, Nat.reduceLT, Nat.reduceLeDiff, Int.reduceToNat, reduceCtorEq, e0]) (by simp only [go_sem, hE, hH, ↓reduceIte, Nat.reduceEqDiff, Nat.reduceAdd, Nat.reduceSub, Nat.reduceMul, Nat.reduceLT, Nat.reduceLeDiff, Int.reduceToNat, reduceCtorEq, e0])).2 trivial) | fail)
    refine ⟨(), ?_⟩
    rw [e2]
    rfl
  · have hb := h
    simp only [decide_eq_true_eq, decide_eq_false_iff_not, Int.not_lt, Int.not_le, ge_iff_le, gt_iff_lt, Bool.not_eq_true', Bool.not_eq_false', beq_iff_eq, bne_iff_ne, beq_eq_false_iff_ne, bne_eq_false_iff_eq, Int.ofNat_lt, Int.ofNat_le] at h
    try simp (disch := omega) only [go_sem, hE, hH, ↓reduceIte, Nat.reduceEqDiff, Nat.reduceAdd, Nat.reduceSub, Nat.reduceMul, Nat.reduceLT, Nat.reduceLeDiff, Int.reduceToNat, reduceCtorEq, wrap_id, getD_map, getD_ms, getD_cs, cpy_len, hb]
    have e3 : j = l.length := by first | omega | (rw [mkL_len] at h; omega)
    subst e3
    rw [mkN_all (Nat.le_refl _)]
theorem heldLetterS_ok (l : List Letter) (k : Int) (h0 : 0 ≤ k) (h1 : k + (cntL (Letter.cnt) l : Nat) ≤ 2 ^ 62) : ACall Try.prog n_laws_heldLetterS [.sl false 4 ((mkL (Letter.mk2) l k).1.map (Letter.row false)), i64 k] (fun r _ => r = i64 (mkL (Letter.mk2) l k).2) := by
  refine fn_in h_laws_heldLetterS r_laws_heldLetterS ⟨by simp only [go_sem, ↓reduceIte, Nat.reduceEqDiff, Nat.reduceAdd, Nat.reduceSub, Nat.reduceMul, Nat.reduceLT, Nat.reduceLeDiff, Int.reduceToNat, reduceCtorEq], fun E hE hH => ?_⟩; simp only [go_sem, ↓reduceIte, Nat.reduceEqDiff, Nat.reduceAdd, Nat.reduceSub, Nat.reduceMul, Nat.reduceLT, Nat.reduceLeDiff, Int.reduceToNat, reduceCtorEq] at hE hH; simp only [go_sem, hE, hH, ↓reduceIte, Nat.reduceEqDiff, Nat.reduceAdd, Nat.reduceSub, Nat.reduceMul, Nat.reduceLT, Nat.reduceLeDiff, Int.reduceToNat, reduceCtorEq, c_laws_heldLetterS]
  refine loopNe l.length (fun j (_ : Unit) => ⟨[(0, .sl false 4 ((mkL (Letter.mk2) l k).1.map (Letter.row false))), (1, i64 (mkN (Letter.mk2) l k j)), (5, i64 j)], []⟩) (fun _ _ => True) () (by simp [mkP_zero, mkN_zero]) trivial ?_
  intro j _ hj _
  have hpl := mkL_len (f := Letter.mk2) (k := k) (l := l)
  have hN := mkN_at (f := Letter.mk2) (c := Letter.cnt) (Letter.mk2_cnt) (l := l) (k := k) (j := j)
  have hlen := cntL_len (c := Letter.cnt) (l := l) (fun x => by simp only [Letter.cnt]; omega)
  try simp only [go_sem, hE, hH, ↓reduceIte, Nat.reduceEqDiff, Nat.reduceAdd, Nat.reduceSub, Nat.reduceMul, Nat.reduceLT, Nat.reduceLeDiff, Int.reduceToNat, reduceCtorEq, c_laws_heldLetterS_l1]
  first | refine gd_t (fun h => ?_) (fun h => ?_) | refine gd_f (fun h => ?_) (fun h => ?_)
  · have hb := h
    simp only [decide_eq_true_eq, decide_eq_false_iff_not, Int.not_lt, Int.not_le, ge_iff_le, gt_iff_lt, Bool.not_eq_true', Bool.not_eq_false', beq_iff_eq, bne_iff_ne, beq_eq_false_iff_ne, bne_eq_false_iff_eq, Int.ofNat_lt, Int.ofNat_le] at h
    have hlt : j < l.length := by first | exact h | (rw [mkL_len] at h; exact h)
    have hc := psum_cnt (c := Letter.cnt) hlt
    have e0 := nth_mkL (f := Letter.mk2) (k := k) hlt
    have e2 := mkN_succ (f := Letter.mk2) (k := k) hlt
    simp only [Letter.mk2] at e0 e2
    simp only [Letter.cnt] at hc
    generalize hk : mkN (Letter.mk2) l k j = q at *
    try simp (disch := omega) only [go_sem, hE, hH, ↓reduceIte, Nat.reduceEqDiff, Nat.reduceAdd, Nat.reduceSub, Nat.reduceMul, Nat.reduceLT, Nat.reduceLeDiff, Int.reduceToNat, reduceCtorEq, e0, wrap_id, getD_map, getD_ms, getD_cs, cpy_len, hb, hpl, e0]
    repeat' (first | ((with_reducible (first | refine gd_t (fun h => ?_) (fun h => ?_) | refine gd_f (fun h => ?_) (fun h => ?_))) <;> (have hb := h; (try simp only [decide_eq_true_eq, decide_eq_false_iff_not, Int.not_lt, Int.not_le, ge_iff_le, gt_iff_lt, Bool.not_eq_true', Bool.not_eq_false', beq_iff_eq, bne_iff_ne, beq_eq_false_iff_ne, bne_eq_false_iff_eq, Int.ofNat_lt, Int.ofNat_le] at h); simp (disch := omega) only [go_sem, hE, hH, ↓reduceIte, Nat.reduceEqDiff, Nat.reduceAdd, Nat.reduceSub, Nat.reduceMul, Nat.reduceLT, Nat.reduceLeDiff, Int.reduceToNat, reduceCtorEq, e0, wrap_id, getD_map, getD_ms, getD_cs, cpy_len, hb]; (try clear hb))) | ((with_reducible refine And.intro ?_ ?_); · omega) | (refine ok_view ?_; simp (disch := omega) only [go_sem, hE, hH, ↓reduceIte, Nat.reduceEqDiff, Nat.reduceAdd, Nat.reduceSub, Nat.reduceMul, Nat.reduceLT, Nat.reduceLeDiff, Int.reduceToNat, reduceCtorEq, e0, wrap_id, getD_map, getD_ms, getD_cs, cpy_len]) | (refine cvA (markText_ok _ (by omega)) ?_; simp (disch := omega) only [go_sem, hE, hH, ↓reduceIte, Nat.reduceEqDiff, Nat.reduceAdd, Nat.reduceSub, Nat.reduceMul, Nat.reduceLT, Nat.reduceLeDiff, Int.reduceToNat, reduceCtorEq, e0, wrap_id, getD_map, getD_ms, getD_cs, cpy_len]) | (refine jn _ ?_ ?_) | (with_reducible refine both ?_ ?_) | (with_reducible refine And.intro ?_ ?_) | (refine fin_eq ?_; (try (simp (disch := omega) only [go_sem, hE, hH, ↓reduceIte, Nat.reduceEqDiff, Nat.reduceAdd, Nat.reduceSub, Nat.reduceMul, Nat.reduceLT, Nat.reduceLeDiff, Int.reduceToNat, reduceCtorEq, e0, wrap_id, getD_map, getD_ms, getD_cs, cpy_len])); first | done | rfl) | (simp (disch := omega) only [go_sem, hE, hH, ↓reduceIte, Nat.reduceEqDiff, Nat.reduceAdd, Nat.reduceSub, Nat.reduceMul, Nat.reduceLT, Nat.reduceLeDiff, Int.reduceToNat, reduceCtorEq, e0, wrap_id, getD_map, getD_ms, getD_cs, cpy_len]) | (exact (noMLL_set (by simp only [go_sem, hE, hH, ↓reduceIte, Nat.reduceEqDiff, Nat.reduceAdd, Nat.reduceSub, Nat.reduceMul, Nat.reduceLT, Nat.reduceLeDiff, Int.reduceToNat, reduceCtorEq, e0]) (by simp only [go_sem, hE, hH, ↓reduceIte, Nat.reduceEqDiff, Nat.reduceAdd, Nat.reduceSub, Nat.reduceMul, Nat.reduceLT, Nat.reduceLeDiff, Int.reduceToNat, reduceCtorEq, e0])).2 trivial) | (exact (pk_set (by simp only [go_sem, hE, hH, ↓reduceIte, Nat.reduceEqDiff, Nat.reduceAdd, Nat.reduceSub, Nat.reduceMul, Nat.reduceLT, Nat.reduceLeDiff, Int.reduceToNat, reduceCtorEq, e0]) (by simp only [go_sem, hE, hH, ↓reduceIte, Nat.reduceEqDiff, Nat.reduceAdd, Nat.reduceSub, Nat.reduceMul, Nat.reduceLT, Nat.reduceLeDiff, Int.reduceToNat, reduceCtorEq, e0])).2 trivial) | (simp only [go_sem, hE, hH, ↓reduceIte, Nat.reduceEqDiff, Nat.reduceAdd, Nat.reduceSub, Nat.reduceMul, Nat.reduceLT, Nat.reduceLeDiff, Int.reduceToNat, reduceCtorEq, e0]) | fail)
    try try simp (disch := omega) only [go_sem, hE, hH, ↓reduceIte, Nat.reduceEqDiff, Nat.reduceAdd, Nat.reduceSub, Nat.reduceMul, Nat.reduceLT, Nat.reduceLeDiff, Int.reduceToNat, reduceCtorEq, e0, wrap_id, getD_map, getD_ms, getD_cs, cpy_len, hpl, e0]
    repeat' (first | (refine both ?_ ?_) | omega | (exact (noMLL_set (by simp only [go_sem, hE, hH, ↓reduceIte, Nat.reduceEqDiff, Nat.reduceAdd, Nat.reduceSub, Nat.reduceMul, Nat.reduceLT, Nat.reduceLeDiff, Int.reduceToNat, reduceCtorEq, e0]) (by simp only [go_sem, hE, hH, ↓reduceIte, Nat.reduceEqDiff, Nat.reduceAdd, Nat.reduceSub, Nat.reduceMul, Nat.reduceLT, Nat.reduceLeDiff, Int.reduceToNat, reduceCtorEq, e0])).2 trivial) | (exact (pk_set (by simp only [go_sem, hE, hH, ↓reduceIte, Nat.reduceEqDiff, Nat.reduceAdd, Nat.reduceSub, Nat.reduceMul, Nat.reduceLT, Nat.reduceLeDiff, Int.reduceToNat, reduceCtorEq, e0]) (by simp only [go_sem, hE, hH, ↓reduceIte, Nat.reduceEqDiff, Nat.reduceAdd, Nat.reduceSub, Nat.reduceMul, Nat.reduceLT, Nat.reduceLeDiff, Int.reduceToNat, reduceCtorEq, e0])).2 trivial) | fail)
    refine ⟨(), ?_⟩
    rw [e2]
    rfl
  · have hb := h
    simp only [decide_eq_true_eq, decide_eq_false_iff_not, Int.not_lt, Int.not_le, ge_iff_le, gt_iff_lt, Bool.not_eq_true', Bool.not_eq_false', beq_iff_eq, bne_iff_ne, beq_eq_false_iff_ne, bne_eq_false_iff_eq, Int.ofNat_lt, Int.ofNat_le] at h
    try simp (disch := omega) only [go_sem, hE, hH, ↓reduceIte, Nat.reduceEqDiff, Nat.reduceAdd, Nat.reduceSub, Nat.reduceMul, Nat.reduceLT, Nat.reduceLeDiff, Int.reduceToNat, reduceCtorEq, wrap_id, getD_map, getD_ms, getD_cs, cpy_len, hb]
    have e3 : j = l.length := by first | omega | (rw [mkL_len] at h; omega)
    subst e3
    rw [mkN_all (Nat.le_refl _)]
theorem heldNet_ok (x : Net) (k : Int) (h0 : 0 ≤ k) (h1 : k + (x.cntv : Nat) ≤ 2 ^ 62) : ACall Try.prog n_laws_heldNet [.agg (Net.row false (x.mkv k).1), i64 k] (fun r _ => r = i64 (x.mkv k).2) := by
  simp only [Net.cntv] at h1
  have m_Homes := mkN_cnt (f := mkI) (c := fun _ => 1) (fun _ _ => rfl) (l := x.Homes) (k := k)
  have m_Under := mkN_cnt (f := Letter.mk2) (c := Letter.cnt) (Letter.mk2_cnt) (l := x.Under) (k := (mkL (mkI) x.Homes k).2)
  simp only [Net.mkv]
  refine fn_in h_laws_heldNet r_laws_heldNet ⟨by simp only [go_sem, ↓reduceIte, Nat.reduceEqDiff, Nat.reduceAdd, Nat.reduceSub, Nat.reduceMul, Nat.reduceLT, Nat.reduceLeDiff, Int.reduceToNat, reduceCtorEq], fun E hE hH => ?_⟩; simp only [go_sem, ↓reduceIte, Nat.reduceEqDiff, Nat.reduceAdd, Nat.reduceSub, Nat.reduceMul, Nat.reduceLT, Nat.reduceLeDiff, Int.reduceToNat, reduceCtorEq] at hE hH; simp only [go_sem, hE, hH, ↓reduceIte, Nat.reduceEqDiff, Nat.reduceAdd, Nat.reduceSub, Nat.reduceMul, Nat.reduceLT, Nat.reduceLeDiff, Int.reduceToNat, reduceCtorEq, c_laws_heldNet]
  try simp (disch := omega) only [go_sem, hE, hH, ↓reduceIte, Nat.reduceEqDiff, Nat.reduceAdd, Nat.reduceSub, Nat.reduceMul, Nat.reduceLT, Nat.reduceLeDiff, Int.reduceToNat, reduceCtorEq, wrap_id, getD_map, getD_ms, getD_cs, cpy_len]
  repeat' (first | ((with_reducible (first | refine gd_t (fun h => ?_) (fun h => ?_) | refine gd_f (fun h => ?_) (fun h => ?_))) <;> (have hb := h; (try simp only [decide_eq_true_eq, decide_eq_false_iff_not, Int.not_lt, Int.not_le, ge_iff_le, gt_iff_lt, Bool.not_eq_true', Bool.not_eq_false', beq_iff_eq, bne_iff_ne, beq_eq_false_iff_ne, bne_eq_false_iff_eq, Int.ofNat_lt, Int.ofNat_le] at h); simp (disch := omega) only [go_sem, hE, hH, ↓reduceIte, Nat.reduceEqDiff, Nat.reduceAdd, Nat.reduceSub, Nat.reduceMul, Nat.reduceLT, Nat.reduceLeDiff, Int.reduceToNat, reduceCtorEq, wrap_id, getD_map, getD_ms, getD_cs, cpy_len, hb]; (try clear hb))) | ((with_reducible refine And.intro ?_ ?_); · omega) | (refine ok_view ?_; simp (disch := omega) only [go_sem, hE, hH, ↓reduceIte, Nat.reduceEqDiff, Nat.reduceAdd, Nat.reduceSub, Nat.reduceMul, Nat.reduceLT, Nat.reduceLeDiff, Int.reduceToNat, reduceCtorEq, wrap_id, getD_map, getD_ms, getD_cs, cpy_len]) | (refine cvA (heldIntS_ok x.Homes k (by omega) (by omega)) ?_; simp (disch := omega) only [go_sem, hE, hH, ↓reduceIte, Nat.reduceEqDiff, Nat.reduceAdd, Nat.reduceSub, Nat.reduceMul, Nat.reduceLT, Nat.reduceLeDiff, Int.reduceToNat, reduceCtorEq, wrap_id, getD_map, getD_ms, getD_cs, cpy_len]) | (refine cvA (heldLetterS_ok x.Under (mkL (mkI) x.Homes k).2 (by omega) (by omega)) ?_; simp (disch := omega) only [go_sem, hE, hH, ↓reduceIte, Nat.reduceEqDiff, Nat.reduceAdd, Nat.reduceSub, Nat.reduceMul, Nat.reduceLT, Nat.reduceLeDiff, Int.reduceToNat, reduceCtorEq, wrap_id, getD_map, getD_ms, getD_cs, cpy_len]) | (refine jn _ ?_ ?_) | (with_reducible refine both ?_ ?_) | (with_reducible refine And.intro ?_ ?_) | (refine fin_eq ?_; (try (simp (disch := omega) only [go_sem, hE, hH, ↓reduceIte, Nat.reduceEqDiff, Nat.reduceAdd, Nat.reduceSub, Nat.reduceMul, Nat.reduceLT, Nat.reduceLeDiff, Int.reduceToNat, reduceCtorEq, wrap_id, getD_map, getD_ms, getD_cs, cpy_len])); first | done | rfl) | (simp (disch := omega) only [go_sem, hE, hH, ↓reduceIte, Nat.reduceEqDiff, Nat.reduceAdd, Nat.reduceSub, Nat.reduceMul, Nat.reduceLT, Nat.reduceLeDiff, Int.reduceToNat, reduceCtorEq, wrap_id, getD_map, getD_ms, getD_cs, cpy_len]) | (exact (noMLL_set (by simp only [go_sem, hE, hH, ↓reduceIte, Nat.reduceEqDiff, Nat.reduceAdd, Nat.reduceSub, Nat.reduceMul, Nat.reduceLT, Nat.reduceLeDiff, Int.reduceToNat, reduceCtorEq]) (by simp only [go_sem, hE, hH, ↓reduceIte, Nat.reduceEqDiff, Nat.reduceAdd, Nat.reduceSub, Nat.reduceMul, Nat.reduceLT, Nat.reduceLeDiff, Int.reduceToNat, reduceCtorEq])).2 trivial) | (exact (pk_set (by simp only [go_sem, hE, hH, ↓reduceIte, Nat.reduceEqDiff, Nat.reduceAdd, Nat.reduceSub, Nat.reduceMul, Nat.reduceLT, Nat.reduceLeDiff, Int.reduceToNat, reduceCtorEq]) (by simp only [go_sem, hE, hH, ↓reduceIte, Nat.reduceEqDiff, Nat.reduceAdd, Nat.reduceSub, Nat.reduceMul, Nat.reduceLT, Nat.reduceLeDiff, Int.reduceToNat, reduceCtorEq])).2 trivial) | (simp only [go_sem, hE, hH, ↓reduceIte, Nat.reduceEqDiff, Nat.reduceAdd, Nat.reduceSub, Nat.reduceMul, Nat.reduceLT, Nat.reduceLeDiff, Int.reduceToNat, reduceCtorEq]) | fail)
  all_goals first | omega | (simp [mkL_len]; done) | rfl
end Go.Proofs.Wb

/- The types of the laws and their helper functions. -/
import Derived.Test.YtomglfeidihbnaaCodes
import Derived.Test.YtomglfeidihbnaaAmSet
set_option linter.unusedSimpArgs false
set_option linter.unusedVariables false
set_option linter.unusedSectionVars false
namespace Go.Proofs.Wb
open Go Go.Am
--@T Places
structure Places where
  Ver : Int
  Cuts : List ByteArray
  Groups : List Int
  deriving DecidableEq, Inhabited
def Places.row (o : Bool) (x : Places) : List T := [i64 x.Ver, .sl o 1 (strs x.Cuts), .sl o 1 (ints x.Groups)]
@[go_sem] theorem Places.row_eq (o : Bool) (x : Places) : Places.row o x = [i64 x.Ver, .sl o 1 (strs x.Cuts), .sl o 1 (ints x.Groups)] := rfl
def Places.wf (x : Places) : Prop := (-9223372036854775808 ≤ x.Ver ∧ x.Ver ≤ 9223372036854775807) ∧ (wfL (fun s => s.size ≤ maxLen) x.Cuts) ∧ (wfL (fun n => -9223372036854775808 ≤ n ∧ n ≤ 9223372036854775807) x.Groups)
def Places.sz (x : Places) : Nat := szL (ByteArray.size) x.Cuts + x.Groups.length
def Places.lim (x : Places) : Prop := (limL (fun _ => True) x.Cuts) ∧ (limL (fun _ => True) x.Groups)
theorem Places.lim_of {x : Places} (h : x.wf) : x.lim := by
  obtain ⟨w_Ver, w_Cuts, w_Groups⟩ := h
  exact ⟨⟨w_Cuts.1, fun _ _ => trivial⟩, ⟨w_Groups.1, fun _ _ => trivial⟩⟩
theorem szIntS_ok (l : List Int) (left : Int) (h0 : 0 ≤ left) (h1 : left ≤ 2 ^ 20) (hw : wfL (fun n => -9223372036854775808 ≤ n ∧ n ≤ 9223372036854775807) l) : ACall Try.prog n_laws_szIntS [.sl false 1 (ints l), i64 left]
    (fun r _ => ∃ n : Int, r = i64 n ∧ n ≤ left ∧ (0 ≤ n → n + (l.length : Nat) = left)) := by
  obtain ⟨hl, hx⟩ := hw
  have hm := mx_eq
  refine fn_in h_laws_szIntS r_laws_szIntS ⟨by simp only [go_sem, ↓reduceIte, Nat.reduceEqDiff, Nat.reduceAdd, Nat.reduceSub, Nat.reduceMul, Nat.reduceLT, Nat.reduceLeDiff, Int.reduceToNat, reduceCtorEq], fun E hE hH => ?_⟩; simp only [go_sem, ↓reduceIte, Nat.reduceEqDiff, Nat.reduceAdd, Nat.reduceSub, Nat.reduceMul, Nat.reduceLT, Nat.reduceLeDiff, Int.reduceToNat, reduceCtorEq] at hE hH; simp only [go_sem, hE, hH, ↓reduceIte, Nat.reduceEqDiff, Nat.reduceAdd, Nat.reduceSub, Nat.reduceMul, Nat.reduceLT, Nat.reduceLeDiff, Int.reduceToNat, reduceCtorEq, c_laws_szIntS]
  try simp (disch := omega) only [go_sem, hE, hH, ↓reduceIte, Nat.reduceEqDiff, Nat.reduceAdd, Nat.reduceSub, Nat.reduceMul, Nat.reduceLT, Nat.reduceLeDiff, Int.reduceToNat, reduceCtorEq, wrap_id, getD_map]
  repeat' (first | ((first | refine gd_t (fun h => ?_) (fun h => ?_) | refine gd_f (fun h => ?_) (fun h => ?_)) <;> (have hb := h; (try simp only [decide_eq_true_eq, decide_eq_false_iff_not, Int.not_lt, Int.not_le, ge_iff_le, gt_iff_lt, Bool.not_eq_true', Bool.not_eq_false', beq_iff_eq, bne_iff_ne, beq_eq_false_iff_ne, bne_eq_false_iff_eq, Int.ofNat_lt, Int.ofNat_le] at h); simp (disch := omega) only [go_sem, hE, hH, ↓reduceIte, Nat.reduceEqDiff, Nat.reduceAdd, Nat.reduceSub, Nat.reduceMul, Nat.reduceLT, Nat.reduceLeDiff, Int.reduceToNat, reduceCtorEq, wrap_id, getD_map, hb]; (try clear hb))) | (refine And.intro (by omega) ?_) | fail)
  · exact ⟨_, rfl, by omega, by omega⟩
  · exact ⟨_, rfl, by omega, by omega⟩
theorem szStringS_ok (l : List ByteArray) (left : Int) (h0 : 0 ≤ left) (h1 : left ≤ 2 ^ 20) (hw : wfL (fun s => s.size ≤ maxLen) l) : ACall Try.prog n_laws_szStringS [.sl false 1 (strs l), i64 left]
    (fun r _ => ∃ n : Int, r = i64 n ∧ n ≤ left ∧ (0 ≤ n → n + (szL (ByteArray.size) l : Nat) = left)) := by
  obtain ⟨hl, hx⟩ := hw
  have hm := mx_eq
  refine fn_in h_laws_szStringS r_laws_szStringS ⟨by simp only [go_sem, ↓reduceIte, Nat.reduceEqDiff, Nat.reduceAdd, Nat.reduceSub, Nat.reduceMul, Nat.reduceLT, Nat.reduceLeDiff, Int.reduceToNat, reduceCtorEq], fun E hE hH => ?_⟩; simp only [go_sem, ↓reduceIte, Nat.reduceEqDiff, Nat.reduceAdd, Nat.reduceSub, Nat.reduceMul, Nat.reduceLT, Nat.reduceLeDiff, Int.reduceToNat, reduceCtorEq] at hE hH; simp only [go_sem, hE, hH, ↓reduceIte, Nat.reduceEqDiff, Nat.reduceAdd, Nat.reduceSub, Nat.reduceMul, Nat.reduceLT, Nat.reduceLeDiff, Int.reduceToNat, reduceCtorEq, c_laws_szStringS]
  try simp (disch := omega) only [go_sem, hE, hH, ↓reduceIte, Nat.reduceEqDiff, Nat.reduceAdd, Nat.reduceSub, Nat.reduceMul, Nat.reduceLT, Nat.reduceLeDiff, Int.reduceToNat, reduceCtorEq, wrap_id, getD_map]
  repeat' (first | ((first | refine gd_t (fun h => ?_) (fun h => ?_) | refine gd_f (fun h => ?_) (fun h => ?_)) <;> (have hb := h; (try simp only [decide_eq_true_eq, decide_eq_false_iff_not, Int.not_lt, Int.not_le, ge_iff_le, gt_iff_lt, Bool.not_eq_true', Bool.not_eq_false', beq_iff_eq, bne_iff_ne, beq_eq_false_iff_ne, bne_eq_false_iff_eq, Int.ofNat_lt, Int.ofNat_le] at h); simp (disch := omega) only [go_sem, hE, hH, ↓reduceIte, Nat.reduceEqDiff, Nat.reduceAdd, Nat.reduceSub, Nat.reduceMul, Nat.reduceLT, Nat.reduceLeDiff, Int.reduceToNat, reduceCtorEq, wrap_id, getD_map, hb]; (try clear hb))) | (refine And.intro (by omega) ?_) | fail)
  · exact ⟨_, rfl, by omega, by omega⟩
  refine loopN l.length (fun j (n : Int) => ⟨[(0, .sl false 1 (strs l)), (1, i64 n), (5, i64 j)], []⟩) (fun j n => 0 ≤ n ∧ n ≤ left ∧ n + l.length + psum (ByteArray.size) l j = left) _ (by rw [psum_zero]; omega) ?_
  intro j n hj hI
  obtain ⟨i1, i0, i2⟩ := hI
  try simp only [go_sem, hE, hH, ↓reduceIte, Nat.reduceEqDiff, Nat.reduceAdd, Nat.reduceSub, Nat.reduceMul, Nat.reduceLT, Nat.reduceLeDiff, Int.reduceToNat, reduceCtorEq, c_laws_szStringS_l1]
  first | refine gd_t (fun h => ?_) (fun h => ?_) | refine gd_f (fun h => ?_) (fun h => ?_)
  · have hb := h
    simp only [decide_eq_true_eq, decide_eq_false_iff_not, Int.not_lt, Int.not_le, ge_iff_le, gt_iff_lt, Bool.not_eq_true', Bool.not_eq_false', beq_iff_eq, bne_iff_ne, beq_eq_false_iff_ne, bne_eq_false_iff_eq, Int.ofNat_lt, Int.ofNat_le] at h
    have hlt := h; clear h
    have hs := hx _ (nth_mem hlt)
    try simp (disch := omega) only [go_sem, hE, hH, ↓reduceIte, Nat.reduceEqDiff, Nat.reduceAdd, Nat.reduceSub, Nat.reduceMul, Nat.reduceLT, Nat.reduceLeDiff, Int.reduceToNat, reduceCtorEq, wrap_id, getD_map, hb]
    repeat refine And.intro (by omega) ?_
    repeat' (first | ((first | refine gd_t (fun h => ?_) (fun h => ?_) | refine gd_f (fun h => ?_) (fun h => ?_)) <;> (have hb := h; (try simp only [decide_eq_true_eq, decide_eq_false_iff_not, Int.not_lt, Int.not_le, ge_iff_le, gt_iff_lt, Bool.not_eq_true', Bool.not_eq_false', beq_iff_eq, bne_iff_ne, beq_eq_false_iff_ne, bne_eq_false_iff_eq, Int.ofNat_lt, Int.ofNat_le] at h); simp (disch := omega) only [go_sem, hE, hH, ↓reduceIte, Nat.reduceEqDiff, Nat.reduceAdd, Nat.reduceSub, Nat.reduceMul, Nat.reduceLT, Nat.reduceLeDiff, Int.reduceToNat, reduceCtorEq, wrap_id, getD_map, hb]; (try clear hb))) | (refine And.intro (by omega) ?_) | fail)
    · exact ⟨_, rfl, by omega, by omega⟩
    · exact ⟨_, rfl, by omega, by omega, by rw [psum_succ hlt]; omega⟩
  · have hb := h
    simp only [decide_eq_true_eq, decide_eq_false_iff_not, Int.not_lt, Int.not_le, ge_iff_le, gt_iff_lt, Bool.not_eq_true', Bool.not_eq_false', beq_iff_eq, bne_iff_ne, beq_eq_false_iff_ne, bne_eq_false_iff_eq, Int.ofNat_lt, Int.ofNat_le] at h
    try simp (disch := omega) only [go_sem, hE, hH, ↓reduceIte, Nat.reduceEqDiff, Nat.reduceAdd, Nat.reduceSub, Nat.reduceMul, Nat.reduceLT, Nat.reduceLeDiff, Int.reduceToNat, reduceCtorEq, wrap_id, getD_map, hb]
    exact ⟨_, rfl, by omega, fun _ => by rw [psum_all (by omega)] at i2; unfold szL; omega⟩
theorem szPlaces_ok (x : Places) (left : Int) (h0 : 0 ≤ left) (h1 : left ≤ 2 ^ 20) (hw : x.wf) : ACall Try.prog n_laws_szPlaces [.agg (Places.row false x), i64 left]
    (fun r _ => ∃ n : Int, r = i64 n ∧ n ≤ left ∧ (0 ≤ n → n + (x.sz : Nat) = left)) := by
  obtain ⟨w_Ver, w_Cuts, w_Groups⟩ := hw
  have hm := mx_eq
  refine fn_in h_laws_szPlaces r_laws_szPlaces ⟨by simp only [go_sem, ↓reduceIte, Nat.reduceEqDiff, Nat.reduceAdd, Nat.reduceSub, Nat.reduceMul, Nat.reduceLT, Nat.reduceLeDiff, Int.reduceToNat, reduceCtorEq], fun E hE hH => ?_⟩; simp only [go_sem, ↓reduceIte, Nat.reduceEqDiff, Nat.reduceAdd, Nat.reduceSub, Nat.reduceMul, Nat.reduceLT, Nat.reduceLeDiff, Int.reduceToNat, reduceCtorEq] at hE hH; simp only [go_sem, hE, hH, ↓reduceIte, Nat.reduceEqDiff, Nat.reduceAdd, Nat.reduceSub, Nat.reduceMul, Nat.reduceLT, Nat.reduceLeDiff, Int.reduceToNat, reduceCtorEq, c_laws_szPlaces]
  refine ok_view ?_; simp (disch := omega) only [go_sem, hE, hH, ↓reduceIte, Nat.reduceEqDiff, Nat.reduceAdd, Nat.reduceSub, Nat.reduceMul, Nat.reduceLT, Nat.reduceLeDiff, Int.reduceToNat, reduceCtorEq, wrap_id, getD_map]; refine cvA (szStringS_ok _ _ (by omega) (by omega) w_Cuts) ?_
  try simp (disch := omega) only [go_sem, hE, hH, ↓reduceIte, Nat.reduceEqDiff, Nat.reduceAdd, Nat.reduceSub, Nat.reduceMul, Nat.reduceLT, Nat.reduceLeDiff, Int.reduceToNat, reduceCtorEq, wrap_id, getD_map]
  refine aftV_intro ?_
  rintro r k ⟨n0, rfl, a0, b0⟩
  try simp (disch := omega) only [go_sem, hE, hH, ↓reduceIte, Nat.reduceEqDiff, Nat.reduceAdd, Nat.reduceSub, Nat.reduceMul, Nat.reduceLT, Nat.reduceLeDiff, Int.reduceToNat, reduceCtorEq, wrap_id, getD_map]
  first | refine gd_t (fun h => ?_) (fun h => ?_) | refine gd_f (fun h => ?_) (fun h => ?_)
  · have hb := h
    simp only [decide_eq_true_eq, decide_eq_false_iff_not, Int.not_lt, Int.not_le, ge_iff_le, gt_iff_lt, Bool.not_eq_true', Bool.not_eq_false', beq_iff_eq, bne_iff_ne, beq_eq_false_iff_ne, bne_eq_false_iff_eq, Int.ofNat_lt, Int.ofNat_le] at h
    try simp (disch := omega) only [go_sem, hE, hH, ↓reduceIte, Nat.reduceEqDiff, Nat.reduceAdd, Nat.reduceSub, Nat.reduceMul, Nat.reduceLT, Nat.reduceLeDiff, Int.reduceToNat, reduceCtorEq, wrap_id, getD_map, hb]
    exact ⟨_, rfl, by omega, by omega⟩
  have hb := h
  simp only [decide_eq_true_eq, decide_eq_false_iff_not, Int.not_lt, Int.not_le, ge_iff_le, gt_iff_lt, Bool.not_eq_true', Bool.not_eq_false', beq_iff_eq, bne_iff_ne, beq_eq_false_iff_ne, bne_eq_false_iff_eq, Int.ofNat_lt, Int.ofNat_le] at h
  try simp (disch := omega) only [go_sem, hE, hH, ↓reduceIte, Nat.reduceEqDiff, Nat.reduceAdd, Nat.reduceSub, Nat.reduceMul, Nat.reduceLT, Nat.reduceLeDiff, Int.reduceToNat, reduceCtorEq, wrap_id, getD_map, hb]
  have p0 : 0 ≤ n0 := by omega
  have b0 := b0 p0
  clear h hb
  refine ok_view ?_; simp (disch := omega) only [go_sem, hE, hH, ↓reduceIte, Nat.reduceEqDiff, Nat.reduceAdd, Nat.reduceSub, Nat.reduceMul, Nat.reduceLT, Nat.reduceLeDiff, Int.reduceToNat, reduceCtorEq, wrap_id, getD_map]; refine cvA (szIntS_ok _ _ p0 (by omega) w_Groups) ?_
  try simp (disch := omega) only [go_sem, hE, hH, ↓reduceIte, Nat.reduceEqDiff, Nat.reduceAdd, Nat.reduceSub, Nat.reduceMul, Nat.reduceLT, Nat.reduceLeDiff, Int.reduceToNat, reduceCtorEq, wrap_id, getD_map]
  refine aftV_intro ?_
  rintro r k ⟨n1, rfl, a1, b1⟩
  try simp (disch := omega) only [go_sem, hE, hH, ↓reduceIte, Nat.reduceEqDiff, Nat.reduceAdd, Nat.reduceSub, Nat.reduceMul, Nat.reduceLT, Nat.reduceLeDiff, Int.reduceToNat, reduceCtorEq, wrap_id, getD_map]
  first | refine gd_t (fun h => ?_) (fun h => ?_) | refine gd_f (fun h => ?_) (fun h => ?_)
  · have hb := h
    simp only [decide_eq_true_eq, decide_eq_false_iff_not, Int.not_lt, Int.not_le, ge_iff_le, gt_iff_lt, Bool.not_eq_true', Bool.not_eq_false', beq_iff_eq, bne_iff_ne, beq_eq_false_iff_ne, bne_eq_false_iff_eq, Int.ofNat_lt, Int.ofNat_le] at h
    try simp (disch := omega) only [go_sem, hE, hH, ↓reduceIte, Nat.reduceEqDiff, Nat.reduceAdd, Nat.reduceSub, Nat.reduceMul, Nat.reduceLT, Nat.reduceLeDiff, Int.reduceToNat, reduceCtorEq, wrap_id, getD_map, hb]
    exact ⟨_, rfl, by omega, by omega⟩
  have hb := h
  simp only [decide_eq_true_eq, decide_eq_false_iff_not, Int.not_lt, Int.not_le, ge_iff_le, gt_iff_lt, Bool.not_eq_true', Bool.not_eq_false', beq_iff_eq, bne_iff_ne, beq_eq_false_iff_ne, bne_eq_false_iff_eq, Int.ofNat_lt, Int.ofNat_le] at h
  try simp (disch := omega) only [go_sem, hE, hH, ↓reduceIte, Nat.reduceEqDiff, Nat.reduceAdd, Nat.reduceSub, Nat.reduceMul, Nat.reduceLT, Nat.reduceLeDiff, Int.reduceToNat, reduceCtorEq, wrap_id, getD_map, hb]
  have p1 : 0 ≤ n1 := by omega
  have b1 := b1 p1
  clear h hb
  exact ⟨_, rfl, by omega, fun _ => by unfold Places.sz; omega⟩
theorem toIntS_ok (l : List Int) (hl : l.length ≤ 2 ^ 20) : ACall Try.prog n_laws_toIntS [.sl false 1 (ints l)] (fun r _ => r = .sl true 1 (ints l)) := by
  refine fn_in h_laws_toIntS r_laws_toIntS ⟨by simp only [go_sem, ↓reduceIte, Nat.reduceEqDiff, Nat.reduceAdd, Nat.reduceSub, Nat.reduceMul, Nat.reduceLT, Nat.reduceLeDiff, Int.reduceToNat, reduceCtorEq], fun E hE hH => ?_⟩; simp only [go_sem, ↓reduceIte, Nat.reduceEqDiff, Nat.reduceAdd, Nat.reduceSub, Nat.reduceMul, Nat.reduceLT, Nat.reduceLeDiff, Int.reduceToNat, reduceCtorEq] at hE hH; simp only [go_sem, hE, hH, ↓reduceIte, Nat.reduceEqDiff, Nat.reduceAdd, Nat.reduceSub, Nat.reduceMul, Nat.reduceLT, Nat.reduceLeDiff, Int.reduceToNat, reduceCtorEq, c_laws_toIntS]
  refine And.intro (by omega) ?_
  rw [cpy_zero (fun x => [i64 x])]
  refine loopN l.length (fun j (_ : Unit) => ⟨[(0, .sl false 1 (ints l)), (3, .ref 4000000 0 l.length), (4, i64 j)], [(4000000, ⟨1, cpy (fun x => [i64 x]) [i64 0] l j⟩)]⟩) (fun _ _ => True) () trivial ?_
  intro j _ hj _
  try simp only [go_sem, hE, hH, ↓reduceIte, Nat.reduceEqDiff, Nat.reduceAdd, Nat.reduceSub, Nat.reduceMul, Nat.reduceLT, Nat.reduceLeDiff, Int.reduceToNat, reduceCtorEq, c_laws_toIntS_l1]
  first | refine gd_t (fun h => ?_) (fun h => ?_) | refine gd_f (fun h => ?_) (fun h => ?_)
  · have hb := h
    simp only [decide_eq_true_eq, decide_eq_false_iff_not, Int.not_lt, Int.not_le, ge_iff_le, gt_iff_lt, Bool.not_eq_true', Bool.not_eq_false', beq_iff_eq, bne_iff_ne, beq_eq_false_iff_ne, bne_eq_false_iff_eq, Int.ofNat_lt, Int.ofNat_le] at h
    have hlt := h; clear h
    try simp (disch := omega) only [go_sem, hE, hH, ↓reduceIte, Nat.reduceEqDiff, Nat.reduceAdd, Nat.reduceSub, Nat.reduceMul, Nat.reduceLT, Nat.reduceLeDiff, Int.reduceToNat, reduceCtorEq, wrap_id, getD_map, hb, cpy_at, cpy_len]
    repeat' (first | ((first | refine gd_t (fun h => ?_) (fun h => ?_) | refine gd_f (fun h => ?_) (fun h => ?_)) <;> (have hb := h; (try simp only [decide_eq_true_eq, decide_eq_false_iff_not, Int.not_lt, Int.not_le, ge_iff_le, gt_iff_lt, Bool.not_eq_true', Bool.not_eq_false', beq_iff_eq, bne_iff_ne, beq_eq_false_iff_ne, bne_eq_false_iff_eq, Int.ofNat_lt, Int.ofNat_le] at h); simp (disch := omega) only [go_sem, hE, hH, ↓reduceIte, Nat.reduceEqDiff, Nat.reduceAdd, Nat.reduceSub, Nat.reduceMul, Nat.reduceLT, Nat.reduceLeDiff, Int.reduceToNat, reduceCtorEq, wrap_id, getD_map, hb]; (try clear hb))) | (refine And.intro (by omega) ?_) | fail)
    try try simp (disch := omega) only [go_sem, hE, hH, ↓reduceIte, Nat.reduceEqDiff, Nat.reduceAdd, Nat.reduceSub, Nat.reduceMul, Nat.reduceLT, Nat.reduceLeDiff, Int.reduceToNat, reduceCtorEq, wrap_id, getD_map, cpy_at, cpy_len]
    repeat refine And.intro (by omega) ?_
    try try simp (disch := omega) only [go_sem, hE, hH, ↓reduceIte, Nat.reduceEqDiff, Nat.reduceAdd, Nat.reduceSub, Nat.reduceMul, Nat.reduceLT, Nat.reduceLeDiff, Int.reduceToNat, reduceCtorEq, wrap_id, getD_map, cpy_at, cpy_len]
    repeat refine And.intro (by omega) ?_
    first | refine ⟨(), ?_, trivial⟩ | refine ⟨(), ?_⟩ | skip
    have hc := cpy_step (f := fun x => [i64 x]) (z := [i64 0]) hlt
    rw [hc]
    rfl
  · have hb := h
    simp only [decide_eq_true_eq, decide_eq_false_iff_not, Int.not_lt, Int.not_le, ge_iff_le, gt_iff_lt, Bool.not_eq_true', Bool.not_eq_false', beq_iff_eq, bne_iff_ne, beq_eq_false_iff_ne, bne_eq_false_iff_eq, Int.ofNat_lt, Int.ofNat_le] at h
    try simp (disch := omega) only [go_sem, hE, hH, ↓reduceIte, Nat.reduceEqDiff, Nat.reduceAdd, Nat.reduceSub, Nat.reduceMul, Nat.reduceLT, Nat.reduceLeDiff, Int.reduceToNat, reduceCtorEq, wrap_id, getD_map, hb, cpy_end]
theorem toStringS_ok (l : List ByteArray) (hl : szL (ByteArray.size) l ≤ 2 ^ 20) : ACall Try.prog n_laws_toStringS [.sl false 1 (strs l)] (fun r _ => r = .sl true 1 (strs l)) := by
  have hl0 : l.length ≤ 2 ^ 20 := Nat.le_trans szL_len hl
  refine fn_in h_laws_toStringS r_laws_toStringS ⟨by simp only [go_sem, ↓reduceIte, Nat.reduceEqDiff, Nat.reduceAdd, Nat.reduceSub, Nat.reduceMul, Nat.reduceLT, Nat.reduceLeDiff, Int.reduceToNat, reduceCtorEq], fun E hE hH => ?_⟩; simp only [go_sem, ↓reduceIte, Nat.reduceEqDiff, Nat.reduceAdd, Nat.reduceSub, Nat.reduceMul, Nat.reduceLT, Nat.reduceLeDiff, Int.reduceToNat, reduceCtorEq] at hE hH; simp only [go_sem, hE, hH, ↓reduceIte, Nat.reduceEqDiff, Nat.reduceAdd, Nat.reduceSub, Nat.reduceMul, Nat.reduceLT, Nat.reduceLeDiff, Int.reduceToNat, reduceCtorEq, c_laws_toStringS]
  refine And.intro (by omega) ?_
  rw [cpy_zero (fun x => [str x])]
  refine loopN l.length (fun j (_ : Unit) => ⟨[(0, .sl false 1 (strs l)), (3, .ref 4000000 0 l.length), (4, i64 j)], [(4000000, ⟨1, cpy (fun x => [str x]) [str ⟨⟨[]⟩⟩] l j⟩)]⟩) (fun _ _ => True) () trivial ?_
  intro j _ hj _
  try simp only [go_sem, hE, hH, ↓reduceIte, Nat.reduceEqDiff, Nat.reduceAdd, Nat.reduceSub, Nat.reduceMul, Nat.reduceLT, Nat.reduceLeDiff, Int.reduceToNat, reduceCtorEq, c_laws_toStringS_l1]
  first | refine gd_t (fun h => ?_) (fun h => ?_) | refine gd_f (fun h => ?_) (fun h => ?_)
  · have hb := h
    simp only [decide_eq_true_eq, decide_eq_false_iff_not, Int.not_lt, Int.not_le, ge_iff_le, gt_iff_lt, Bool.not_eq_true', Bool.not_eq_false', beq_iff_eq, bne_iff_ne, beq_eq_false_iff_ne, bne_eq_false_iff_eq, Int.ofNat_lt, Int.ofNat_le] at h
    have hlt := h; clear h
    try simp (disch := omega) only [go_sem, hE, hH, ↓reduceIte, Nat.reduceEqDiff, Nat.reduceAdd, Nat.reduceSub, Nat.reduceMul, Nat.reduceLT, Nat.reduceLeDiff, Int.reduceToNat, reduceCtorEq, wrap_id, getD_map, hb, cpy_at, cpy_len]
    repeat' (first | ((first | refine gd_t (fun h => ?_) (fun h => ?_) | refine gd_f (fun h => ?_) (fun h => ?_)) <;> (have hb := h; (try simp only [decide_eq_true_eq, decide_eq_false_iff_not, Int.not_lt, Int.not_le, ge_iff_le, gt_iff_lt, Bool.not_eq_true', Bool.not_eq_false', beq_iff_eq, bne_iff_ne, beq_eq_false_iff_ne, bne_eq_false_iff_eq, Int.ofNat_lt, Int.ofNat_le] at h); simp (disch := omega) only [go_sem, hE, hH, ↓reduceIte, Nat.reduceEqDiff, Nat.reduceAdd, Nat.reduceSub, Nat.reduceMul, Nat.reduceLT, Nat.reduceLeDiff, Int.reduceToNat, reduceCtorEq, wrap_id, getD_map, hb]; (try clear hb))) | (refine And.intro (by omega) ?_) | fail)
    try try simp (disch := omega) only [go_sem, hE, hH, ↓reduceIte, Nat.reduceEqDiff, Nat.reduceAdd, Nat.reduceSub, Nat.reduceMul, Nat.reduceLT, Nat.reduceLeDiff, Int.reduceToNat, reduceCtorEq, wrap_id, getD_map, cpy_at, cpy_len]
    repeat refine And.intro (by omega) ?_
    try try simp (disch := omega) only [go_sem, hE, hH, ↓reduceIte, Nat.reduceEqDiff, Nat.reduceAdd, Nat.reduceSub, Nat.reduceMul, Nat.reduceLT, Nat.reduceLeDiff, Int.reduceToNat, reduceCtorEq, wrap_id, getD_map, cpy_at, cpy_len]
    repeat refine And.intro (by omega) ?_
    first | refine ⟨(), ?_, trivial⟩ | refine ⟨(), ?_⟩ | skip
    have hc := cpy_step (f := fun x => [str x]) (z := [str ⟨⟨[]⟩⟩]) hlt
    rw [hc]
    rfl
  · have hb := h
    simp only [decide_eq_true_eq, decide_eq_false_iff_not, Int.not_lt, Int.not_le, ge_iff_le, gt_iff_lt, Bool.not_eq_true', Bool.not_eq_false', beq_iff_eq, bne_iff_ne, beq_eq_false_iff_ne, bne_eq_false_iff_eq, Int.ofNat_lt, Int.ofNat_le] at h
    try simp (disch := omega) only [go_sem, hE, hH, ↓reduceIte, Nat.reduceEqDiff, Nat.reduceAdd, Nat.reduceSub, Nat.reduceMul, Nat.reduceLT, Nat.reduceLeDiff, Int.reduceToNat, reduceCtorEq, wrap_id, getD_map, hb, cpy_end]
theorem toPlaces_ok (x : Places) (hs : x.sz ≤ 2 ^ 20) : ACall Try.prog n_laws_toPlaces [.agg (Places.row false x)] (fun r _ => r = .agg (Places.row true x)) := by
  unfold Places.sz at hs
  refine fn_in h_laws_toPlaces r_laws_toPlaces ⟨by simp only [go_sem, ↓reduceIte, Nat.reduceEqDiff, Nat.reduceAdd, Nat.reduceSub, Nat.reduceMul, Nat.reduceLT, Nat.reduceLeDiff, Int.reduceToNat, reduceCtorEq], fun E hE hH => ?_⟩; simp only [go_sem, ↓reduceIte, Nat.reduceEqDiff, Nat.reduceAdd, Nat.reduceSub, Nat.reduceMul, Nat.reduceLT, Nat.reduceLeDiff, Int.reduceToNat, reduceCtorEq] at hE hH; simp only [go_sem, hE, hH, ↓reduceIte, Nat.reduceEqDiff, Nat.reduceAdd, Nat.reduceSub, Nat.reduceMul, Nat.reduceLT, Nat.reduceLeDiff, Int.reduceToNat, reduceCtorEq, c_laws_toPlaces]
  repeat' (first | ((first | refine gd_t (fun h => ?_) (fun h => ?_) | refine gd_f (fun h => ?_) (fun h => ?_)) <;> (have hb := h; (try simp only [decide_eq_true_eq, decide_eq_false_iff_not, Int.not_lt, Int.not_le, ge_iff_le, gt_iff_lt, Bool.not_eq_true', Bool.not_eq_false', beq_iff_eq, bne_iff_ne, beq_eq_false_iff_ne, bne_eq_false_iff_eq, Int.ofNat_lt, Int.ofNat_le] at h); simp (disch := omega) only [go_sem, hE, hH, ↓reduceIte, Nat.reduceEqDiff, Nat.reduceAdd, Nat.reduceSub, Nat.reduceMul, Nat.reduceLT, Nat.reduceLeDiff, Int.reduceToNat, reduceCtorEq, wrap_id, getD_map, hb]; (try clear hb))) | (refine And.intro (by omega) ?_) | (refine ok_view ?_; simp (disch := omega) only [go_sem, hE, hH, ↓reduceIte, Nat.reduceEqDiff, Nat.reduceAdd, Nat.reduceSub, Nat.reduceMul, Nat.reduceLT, Nat.reduceLeDiff, Int.reduceToNat, reduceCtorEq, wrap_id, getD_map]) | (refine cvA (toStringS_ok _ (by omega)) ?_; simp (disch := omega) only [go_sem, hE, hH, ↓reduceIte, Nat.reduceEqDiff, Nat.reduceAdd, Nat.reduceSub, Nat.reduceMul, Nat.reduceLT, Nat.reduceLeDiff, Int.reduceToNat, reduceCtorEq, wrap_id, getD_map]) | (refine cvA (toIntS_ok _ (by omega)) ?_; simp (disch := omega) only [go_sem, hE, hH, ↓reduceIte, Nat.reduceEqDiff, Nat.reduceAdd, Nat.reduceSub, Nat.reduceMul, Nat.reduceLT, Nat.reduceLeDiff, Int.reduceToNat, reduceCtorEq, wrap_id, getD_map]) | fail)
theorem eqIntS_ok (l m : List Int) (hl : limL (fun _ => True) l) : ACall Try.prog n_laws_eqIntS [.sl false 1 (ints l), .sl false 1 (ints m)] (fun r _ => r = bl (decide (l = m))) := by
  obtain ⟨hl, hx⟩ := hl
  have hm := mx_eq
  refine fn_in h_laws_eqIntS r_laws_eqIntS ⟨by simp only [go_sem, ↓reduceIte, Nat.reduceEqDiff, Nat.reduceAdd, Nat.reduceSub, Nat.reduceMul, Nat.reduceLT, Nat.reduceLeDiff, Int.reduceToNat, reduceCtorEq], fun E hE hH => ?_⟩; simp only [go_sem, ↓reduceIte, Nat.reduceEqDiff, Nat.reduceAdd, Nat.reduceSub, Nat.reduceMul, Nat.reduceLT, Nat.reduceLeDiff, Int.reduceToNat, reduceCtorEq] at hE hH; simp only [go_sem, hE, hH, ↓reduceIte, Nat.reduceEqDiff, Nat.reduceAdd, Nat.reduceSub, Nat.reduceMul, Nat.reduceLT, Nat.reduceLeDiff, Int.reduceToNat, reduceCtorEq, c_laws_eqIntS]
  repeat' (first | ((first | refine gd_t (fun h => ?_) (fun h => ?_) | refine gd_f (fun h => ?_) (fun h => ?_)) <;> (have hb := h; (try simp only [decide_eq_true_eq, decide_eq_false_iff_not, Int.not_lt, Int.not_le, ge_iff_le, gt_iff_lt, Bool.not_eq_true', Bool.not_eq_false', beq_iff_eq, bne_iff_ne, beq_eq_false_iff_ne, bne_eq_false_iff_eq, Int.ofNat_lt, Int.ofNat_le] at h); simp (disch := omega) only [go_sem, hE, hH, ↓reduceIte, Nat.reduceEqDiff, Nat.reduceAdd, Nat.reduceSub, Nat.reduceMul, Nat.reduceLT, Nat.reduceLeDiff, Int.reduceToNat, reduceCtorEq, wrap_id, getD_map, hb]; (try clear hb))) | (refine And.intro (by omega) ?_) | fail)
  · rw [decide_eq_false (fun e => h (by rw [e]))]
  have hlen : l.length = m.length := by omega
  clear h
  refine loopN l.length (fun j (_ : Unit) => ⟨[(0, .sl false 1 (ints l)), (1, .sl false 1 (ints m)), (5, i64 j)], []⟩) (fun j _ => decide (l = m) = decide (l.drop j = m.drop j)) () (by simp) ?_
  intro j _ hj hI
  try simp only [go_sem, hE, hH, ↓reduceIte, Nat.reduceEqDiff, Nat.reduceAdd, Nat.reduceSub, Nat.reduceMul, Nat.reduceLT, Nat.reduceLeDiff, Int.reduceToNat, reduceCtorEq, c_laws_eqIntS_l1]
  first | refine gd_t (fun h => ?_) (fun h => ?_) | refine gd_f (fun h => ?_) (fun h => ?_)
  · have hb := h
    simp only [decide_eq_true_eq, decide_eq_false_iff_not, Int.not_lt, Int.not_le, ge_iff_le, gt_iff_lt, Bool.not_eq_true', Bool.not_eq_false', beq_iff_eq, bne_iff_ne, beq_eq_false_iff_ne, bne_eq_false_iff_eq, Int.ofNat_lt, Int.ofNat_le] at h
    have hlt := h; clear h
    have hlm : j < m.length := by omega
    rw [drop_eq hlt hlm] at hI
    try simp (disch := omega) only [go_sem, hE, hH, ↓reduceIte, Nat.reduceEqDiff, Nat.reduceAdd, Nat.reduceSub, Nat.reduceMul, Nat.reduceLT, Nat.reduceLeDiff, Int.reduceToNat, reduceCtorEq, wrap_id, getD_map, hb]
    repeat' (first | ((first | refine gd_t (fun h => ?_) (fun h => ?_) | refine gd_f (fun h => ?_) (fun h => ?_)) <;> (have hb := h; (try simp only [decide_eq_true_eq, decide_eq_false_iff_not, Int.not_lt, Int.not_le, ge_iff_le, gt_iff_lt, Bool.not_eq_true', Bool.not_eq_false', beq_iff_eq, bne_iff_ne, beq_eq_false_iff_ne, bne_eq_false_iff_eq, Int.ofNat_lt, Int.ofNat_le] at h); simp (disch := omega) only [go_sem, hE, hH, ↓reduceIte, Nat.reduceEqDiff, Nat.reduceAdd, Nat.reduceSub, Nat.reduceMul, Nat.reduceLT, Nat.reduceLeDiff, Int.reduceToNat, reduceCtorEq, wrap_id, getD_map, hb]; (try clear hb))) | (refine And.intro (by omega) ?_) | fail)
    · rw [hI]; simp [h]
    · exact ⟨(), rfl, by rw [hI]; simp [h]⟩
  · have hb := h
    simp only [decide_eq_true_eq, decide_eq_false_iff_not, Int.not_lt, Int.not_le, ge_iff_le, gt_iff_lt, Bool.not_eq_true', Bool.not_eq_false', beq_iff_eq, bne_iff_ne, beq_eq_false_iff_ne, bne_eq_false_iff_eq, Int.ofNat_lt, Int.ofNat_le] at h
    try simp (disch := omega) only [go_sem, hE, hH, ↓reduceIte, Nat.reduceEqDiff, Nat.reduceAdd, Nat.reduceSub, Nat.reduceMul, Nat.reduceLT, Nat.reduceLeDiff, Int.reduceToNat, reduceCtorEq, wrap_id, getD_map, hb]
    rw [hI, List.drop_of_length_le (by omega), List.drop_of_length_le (by omega)]
    rfl
theorem eqStringS_ok (l m : List ByteArray) (hl : limL (fun _ => True) l) : ACall Try.prog n_laws_eqStringS [.sl false 1 (strs l), .sl false 1 (strs m)] (fun r _ => r = bl (decide (l = m))) := by
  obtain ⟨hl, hx⟩ := hl
  have hm := mx_eq
  refine fn_in h_laws_eqStringS r_laws_eqStringS ⟨by simp only [go_sem, ↓reduceIte, Nat.reduceEqDiff, Nat.reduceAdd, Nat.reduceSub, Nat.reduceMul, Nat.reduceLT, Nat.reduceLeDiff, Int.reduceToNat, reduceCtorEq], fun E hE hH => ?_⟩; simp only [go_sem, ↓reduceIte, Nat.reduceEqDiff, Nat.reduceAdd, Nat.reduceSub, Nat.reduceMul, Nat.reduceLT, Nat.reduceLeDiff, Int.reduceToNat, reduceCtorEq] at hE hH; simp only [go_sem, hE, hH, ↓reduceIte, Nat.reduceEqDiff, Nat.reduceAdd, Nat.reduceSub, Nat.reduceMul, Nat.reduceLT, Nat.reduceLeDiff, Int.reduceToNat, reduceCtorEq, c_laws_eqStringS]
  repeat' (first | ((first | refine gd_t (fun h => ?_) (fun h => ?_) | refine gd_f (fun h => ?_) (fun h => ?_)) <;> (have hb := h; (try simp only [decide_eq_true_eq, decide_eq_false_iff_not, Int.not_lt, Int.not_le, ge_iff_le, gt_iff_lt, Bool.not_eq_true', Bool.not_eq_false', beq_iff_eq, bne_iff_ne, beq_eq_false_iff_ne, bne_eq_false_iff_eq, Int.ofNat_lt, Int.ofNat_le] at h); simp (disch := omega) only [go_sem, hE, hH, ↓reduceIte, Nat.reduceEqDiff, Nat.reduceAdd, Nat.reduceSub, Nat.reduceMul, Nat.reduceLT, Nat.reduceLeDiff, Int.reduceToNat, reduceCtorEq, wrap_id, getD_map, hb]; (try clear hb))) | (refine And.intro (by omega) ?_) | fail)
  · rw [decide_eq_false (fun e => h (by rw [e]))]
  have hlen : l.length = m.length := by omega
  clear h
  refine loopN l.length (fun j (_ : Unit) => ⟨[(0, .sl false 1 (strs l)), (1, .sl false 1 (strs m)), (5, i64 j)], []⟩) (fun j _ => decide (l = m) = decide (l.drop j = m.drop j)) () (by simp) ?_
  intro j _ hj hI
  try simp only [go_sem, hE, hH, ↓reduceIte, Nat.reduceEqDiff, Nat.reduceAdd, Nat.reduceSub, Nat.reduceMul, Nat.reduceLT, Nat.reduceLeDiff, Int.reduceToNat, reduceCtorEq, c_laws_eqStringS_l1]
  first | refine gd_t (fun h => ?_) (fun h => ?_) | refine gd_f (fun h => ?_) (fun h => ?_)
  · have hb := h
    simp only [decide_eq_true_eq, decide_eq_false_iff_not, Int.not_lt, Int.not_le, ge_iff_le, gt_iff_lt, Bool.not_eq_true', Bool.not_eq_false', beq_iff_eq, bne_iff_ne, beq_eq_false_iff_ne, bne_eq_false_iff_eq, Int.ofNat_lt, Int.ofNat_le] at h
    have hlt := h; clear h
    have hlm : j < m.length := by omega
    rw [drop_eq hlt hlm] at hI
    try simp (disch := omega) only [go_sem, hE, hH, ↓reduceIte, Nat.reduceEqDiff, Nat.reduceAdd, Nat.reduceSub, Nat.reduceMul, Nat.reduceLT, Nat.reduceLeDiff, Int.reduceToNat, reduceCtorEq, wrap_id, getD_map, hb]
    repeat' (first | ((first | refine gd_t (fun h => ?_) (fun h => ?_) | refine gd_f (fun h => ?_) (fun h => ?_)) <;> (have hb := h; (try simp only [decide_eq_true_eq, decide_eq_false_iff_not, Int.not_lt, Int.not_le, ge_iff_le, gt_iff_lt, Bool.not_eq_true', Bool.not_eq_false', beq_iff_eq, bne_iff_ne, beq_eq_false_iff_ne, bne_eq_false_iff_eq, Int.ofNat_lt, Int.ofNat_le] at h); simp (disch := omega) only [go_sem, hE, hH, ↓reduceIte, Nat.reduceEqDiff, Nat.reduceAdd, Nat.reduceSub, Nat.reduceMul, Nat.reduceLT, Nat.reduceLeDiff, Int.reduceToNat, reduceCtorEq, wrap_id, getD_map, hb]; (try clear hb))) | (refine And.intro (by omega) ?_) | fail)
    · rw [hI]; simp [h]
    · exact ⟨(), rfl, by rw [hI]; simp [h]⟩
  · have hb := h
    simp only [decide_eq_true_eq, decide_eq_false_iff_not, Int.not_lt, Int.not_le, ge_iff_le, gt_iff_lt, Bool.not_eq_true', Bool.not_eq_false', beq_iff_eq, bne_iff_ne, beq_eq_false_iff_ne, bne_eq_false_iff_eq, Int.ofNat_lt, Int.ofNat_le] at h
    try simp (disch := omega) only [go_sem, hE, hH, ↓reduceIte, Nat.reduceEqDiff, Nat.reduceAdd, Nat.reduceSub, Nat.reduceMul, Nat.reduceLT, Nat.reduceLeDiff, Int.reduceToNat, reduceCtorEq, wrap_id, getD_map, hb]
    rw [hI, List.drop_of_length_le (by omega), List.drop_of_length_le (by omega)]
    rfl
theorem eqPlaces_ok (x y : Places) (hl : x.lim) : ACall Try.prog n_laws_eqPlaces [.agg (Places.row false x), .agg (Places.row false y)] (fun r _ => r = bl (decide (x = y))) := by
  obtain ⟨l_Cuts, l_Groups⟩ := hl
  obtain ⟨x_Ver, x_Cuts, x_Groups⟩ := x
  obtain ⟨y_Ver, y_Cuts, y_Groups⟩ := y
  refine fn_in h_laws_eqPlaces r_laws_eqPlaces ⟨by simp only [go_sem, ↓reduceIte, Nat.reduceEqDiff, Nat.reduceAdd, Nat.reduceSub, Nat.reduceMul, Nat.reduceLT, Nat.reduceLeDiff, Int.reduceToNat, reduceCtorEq], fun E hE hH => ?_⟩; simp only [go_sem, ↓reduceIte, Nat.reduceEqDiff, Nat.reduceAdd, Nat.reduceSub, Nat.reduceMul, Nat.reduceLT, Nat.reduceLeDiff, Int.reduceToNat, reduceCtorEq] at hE hH; simp only [go_sem, hE, hH, ↓reduceIte, Nat.reduceEqDiff, Nat.reduceAdd, Nat.reduceSub, Nat.reduceMul, Nat.reduceLT, Nat.reduceLeDiff, Int.reduceToNat, reduceCtorEq, c_laws_eqPlaces]
  repeat' (first | ((first | refine gd_t (fun h => ?_) (fun h => ?_) | refine gd_f (fun h => ?_) (fun h => ?_)) <;> (have hb := h; (try simp only [decide_eq_true_eq, decide_eq_false_iff_not, Int.not_lt, Int.not_le, ge_iff_le, gt_iff_lt, Bool.not_eq_true', Bool.not_eq_false', beq_iff_eq, bne_iff_ne, beq_eq_false_iff_ne, bne_eq_false_iff_eq, Int.ofNat_lt, Int.ofNat_le] at h); simp (disch := omega) only [go_sem, hE, hH, ↓reduceIte, Nat.reduceEqDiff, Nat.reduceAdd, Nat.reduceSub, Nat.reduceMul, Nat.reduceLT, Nat.reduceLeDiff, Int.reduceToNat, reduceCtorEq, wrap_id, getD_map, hb]; (try clear hb))) | (refine And.intro (by omega) ?_) | (refine ok_view ?_; simp (disch := omega) only [go_sem, hE, hH, ↓reduceIte, Nat.reduceEqDiff, Nat.reduceAdd, Nat.reduceSub, Nat.reduceMul, Nat.reduceLT, Nat.reduceLeDiff, Int.reduceToNat, reduceCtorEq, wrap_id, getD_map]) | (refine cvA (eqStringS_ok _ _ (by assumption)) ?_; simp (disch := omega) only [go_sem, hE, hH, ↓reduceIte, Nat.reduceEqDiff, Nat.reduceAdd, Nat.reduceSub, Nat.reduceMul, Nat.reduceLT, Nat.reduceLeDiff, Int.reduceToNat, reduceCtorEq, wrap_id, getD_map]) | (refine cvA (eqIntS_ok _ _ (by assumption)) ?_; simp (disch := omega) only [go_sem, hE, hH, ↓reduceIte, Nat.reduceEqDiff, Nat.reduceAdd, Nat.reduceSub, Nat.reduceMul, Nat.reduceLT, Nat.reduceLeDiff, Int.reduceToNat, reduceCtorEq, wrap_id, getD_map]) | fail)
  all_goals simp_all [Places.mk.injEq]
end Go.Proofs.Wb

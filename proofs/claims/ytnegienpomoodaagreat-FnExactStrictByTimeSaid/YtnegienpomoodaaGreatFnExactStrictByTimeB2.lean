/- Contracts of functions. -/
import Derived.Test.YtnegienpomoodaaGreatFnExactStrictByTimeB1
import Derived.Laws.Externs
set_option linter.unusedSimpArgs false
set_option linter.unusedVariables false
set_option linter.unusedSectionVars false
namespace Go.Proofs.Wb
open Go Go.Am
def goodHist (l : List Deed) : Bool := allN (fun i => goodDeed (nth l i)) l.length && decide ((l.length : Int) ≤ 10)
theorem any_not_all {α : Type} {p : α → Bool} {l : List α} : (!l.any fun x => !p x) = l.all p := by
  simp [List.any_eq_not_all_not]
theorem goodHist_eq (l : List Deed) : goodHist l = (decide ((l.length : Int) ≤ 10) && !l.any fun d => !goodDeed d) := by
  rw [any_not_all, ← allN_all (p := goodDeed), goodHist, Bool.and_comm]
theorem GoodHistory_1_ok (d : Deed) (hd : d.wf) : ACall Tryz.prog n_impl_GoodHistory_1 [.agg (Deed.row false d)] (fun r _ => r = bl (!goodDeed d)) := by
  refine fn_in h_impl_GoodHistory_1 r_impl_GoodHistory_1 ⟨by simp only [go_sem, ↓reduceIte], fun E hE hH => ?_⟩; simp only [go_sem, ↓reduceIte] at hE hH; simp only [go_sem, hE, hH, ↓reduceIte, c_impl_GoodHistory_1]
  repeat' (first | ((with_reducible (first | refine gd_t (fun h => ?_) (fun h => ?_) | refine gd_f (fun h => ?_) (fun h => ?_))) <;> (have hb := h; (try simp only [decide_eq_true_eq, decide_eq_false_iff_not, Int.not_lt, Int.not_le, ge_iff_le, gt_iff_lt, Bool.not_eq_true', Bool.not_eq_false', beq_iff_eq, bne_iff_ne, beq_eq_false_iff_ne, bne_eq_false_iff_eq, Int.ofNat_lt, Int.ofNat_le] at h); simp (disch := omega) only [go_sem, hE, hH, ↓reduceIte, hb]; (try clear hb))) | ((with_reducible refine And.intro ?_ ?_); · omega) | (refine ok_view ?_; simp (disch := omega) only [go_sem, hE, hH, ↓reduceIte]) | (refine cvA (isDeed_ok _ hd) ?_; simp (disch := omega) only [go_sem, hE, hH, ↓reduceIte]) | (refine jn _ ?_ ?_) | (with_reducible refine both ?_ ?_) | (with_reducible refine And.intro ?_ ?_) | (refine fin_eq ?_; (try (simp (disch := omega) only [go_sem, hE, hH, ↓reduceIte])); first | done | rfl) | (simp (disch := omega) only [go_sem, hE, hH, ↓reduceIte]) | (exact (noMLL_set (by simp only [go_sem, hE, hH, ↓reduceIte]) (by simp only [go_sem, hE, hH, ↓reduceIte])).2 trivial) | (exact (pk_set (by simp only [go_sem, hE, hH, ↓reduceIte]) (by simp only [go_sem, hE, hH, ↓reduceIte])).2 trivial) | (simp only [go_sem, hE, hH, ↓reduceIte]) | fail)
theorem GoodHistory_ok (l : List Deed) (hl : wfL Deed.wf l) : ACall Tryz.prog n_impl_GoodHistory [.sl false 8 (l.map (Deed.row false))] (fun r _ => r = bl (goodHist l)) := by
  obtain ⟨hl, hx⟩ := hl
  have hmx := mx_eq
  rw [goodHist_eq]
  refine fn_in h_impl_GoodHistory r_impl_GoodHistory ⟨by simp only [go_sem, ↓reduceIte], fun E hE hH => ?_⟩; simp only [go_sem, ↓reduceIte] at hE hH; simp only [go_sem, hE, hH, ↓reduceIte, c_impl_GoodHistory]
  repeat' (first | ((with_reducible (first | refine gd_t (fun h => ?_) (fun h => ?_) | refine gd_f (fun h => ?_) (fun h => ?_))) <;> (have hb := h; (try simp only [decide_eq_true_eq, decide_eq_false_iff_not, Int.not_lt, Int.not_le, ge_iff_le, gt_iff_lt, Bool.not_eq_true', Bool.not_eq_false', beq_iff_eq, bne_iff_ne, beq_eq_false_iff_ne, bne_eq_false_iff_eq, Int.ofNat_lt, Int.ofNat_le] at h); simp (disch := omega) only [go_sem, hE, hH, ↓reduceIte, hb]; (try clear hb))) | ((with_reducible refine And.intro ?_ ?_); · omega) | (refine ok_view ?_; simp (disch := omega) only [go_sem, hE, hH, ↓reduceIte]) | (refine cvA (ContainsFunc_Deed_ok l _ [] (fun d => !goodDeed d) (by kernel_rfl) rfl hl (fun d hd => GoodHistory_1_ok d (hx d hd))) ?_; simp (disch := omega) only [go_sem, hE, hH, ↓reduceIte]) | (refine jn _ ?_ ?_) | (with_reducible refine both ?_ ?_) | (with_reducible refine And.intro ?_ ?_) | (refine fin_eq ?_; (try (simp (disch := omega) only [go_sem, hE, hH, ↓reduceIte])); first | done | rfl) | (simp (disch := omega) only [go_sem, hE, hH, ↓reduceIte]) | (exact (noMLL_set (by simp only [go_sem, hE, hH, ↓reduceIte]) (by simp only [go_sem, hE, hH, ↓reduceIte])).2 trivial) | (exact (pk_set (by simp only [go_sem, hE, hH, ↓reduceIte]) (by simp only [go_sem, hE, hH, ↓reduceIte])).2 trivial) | (simp only [go_sem, hE, hH, ↓reduceIte]) | fail)
  all_goals (first | (simp_all []; done) | (simp_all [] <;> first | omega | (intros; omega)))
theorem l18Good_ok (l : List Deed) (hl : wfL Deed.wf l) : ACall Tryz.prog n_spec_l18Good [.sl false 8 (l.map (Deed.row false))] (fun r _ => r = bl (goodHist l)) := by
  obtain ⟨hl, hx⟩ := hl
  have hmx := mx_eq
  refine fn_in h_spec_l18Good r_spec_l18Good ⟨by simp only [go_sem, ↓reduceIte], fun E hE hH => ?_⟩; simp only [go_sem, ↓reduceIte] at hE hH; simp only [go_sem, hE, hH, ↓reduceIte, c_spec_l18Good]
  refine loopN l.length (fun j (_ : Unit) => ⟨[(0, .sl false 8 (l.map (Deed.row false))), (5, .sl false 8 (l.map (Deed.row false))), (6, i64 l.length), (7, i64 j)], []⟩) (fun j _ => allN (fun i => goodDeed (nth l i)) j = true) () rfl ?_
  intro j _ hj hI
  try simp only [go_sem, hE, hH, ↓reduceIte, c_spec_l18Good_l1]
  first | refine gd_t (fun h1 => ?_) (fun h1 => ?_) | refine gd_f (fun h1 => ?_) (fun h1 => ?_)
  · have hb := h1
    simp only [decide_eq_true_eq, decide_eq_false_iff_not, Int.not_lt, Int.not_le, ge_iff_le, gt_iff_lt, Bool.not_eq_true', Bool.not_eq_false', beq_iff_eq, bne_iff_ne, beq_eq_false_iff_ne, bne_eq_false_iff_eq, Int.ofNat_lt, Int.ofNat_le] at h1
    have hlt := h1; clear h1
    have hd := hx _ (nth_mem hlt)
    try simp (disch := omega) only [go_sem, hE, hH, ↓reduceIte, hb]
    repeat' (first | ((with_reducible (first | refine gd_t (fun h => ?_) (fun h => ?_) | refine gd_f (fun h => ?_) (fun h => ?_))) <;> (have hb := h; (try simp only [decide_eq_true_eq, decide_eq_false_iff_not, Int.not_lt, Int.not_le, ge_iff_le, gt_iff_lt, Bool.not_eq_true', Bool.not_eq_false', beq_iff_eq, bne_iff_ne, beq_eq_false_iff_ne, bne_eq_false_iff_eq, Int.ofNat_lt, Int.ofNat_le] at h); simp (disch := omega) only [go_sem, hE, hH, ↓reduceIte, hb]; (try clear hb))) | ((with_reducible refine And.intro ?_ ?_); · omega) | (refine ok_view ?_; simp (disch := omega) only [go_sem, hE, hH, ↓reduceIte]) | (refine cvA (l18Deed_ok _ hd) ?_; simp (disch := omega) only [go_sem, hE, hH, ↓reduceIte]) | (refine jn _ ?_ ?_) | (with_reducible refine both ?_ ?_) | (with_reducible refine And.intro ?_ ?_) | (refine fin_eq ?_; (try (simp (disch := omega) only [go_sem, hE, hH, ↓reduceIte])); first | done | rfl) | (simp (disch := omega) only [go_sem, hE, hH, ↓reduceIte]) | (exact (noMLL_set (by simp only [go_sem, hE, hH, ↓reduceIte]) (by simp only [go_sem, hE, hH, ↓reduceIte])).2 trivial) | (exact (pk_set (by simp only [go_sem, hE, hH, ↓reduceIte]) (by simp only [go_sem, hE, hH, ↓reduceIte])).2 trivial) | (simp only [go_sem, hE, hH, ↓reduceIte]) | fail)
    · rw [goodHist, allN_no hlt h]; simp
    · first | exact ⟨(), rfl, allN_step hI h⟩ | exact ⟨by omega, (), rfl, allN_step hI h⟩ | exact ⟨by omega, by omega, (), rfl, allN_step hI h⟩
  · try simp (disch := omega) only [go_sem, hE, hH, ↓reduceIte, h1]
    simp only [decide_eq_true_eq, decide_eq_false_iff_not, Int.not_lt, Int.not_le, ge_iff_le, gt_iff_lt, Bool.not_eq_true', Bool.not_eq_false', beq_iff_eq, bne_iff_ne, beq_eq_false_iff_ne, bne_eq_false_iff_eq, Int.ofNat_lt, Int.ofNat_le] at h1
    rw [show j = l.length by omega] at hI
    rw [goodHist, hI]
    simp
theorem goodHist_mem {l : List Deed} (hg : goodHist l = true) {i : Nat} (hi : i < l.length) : goodDeed (nth l i) = true := by
  simp only [goodHist, Bool.and_eq_true] at hg
  exact allN_iff.1 hg.1 i hi
theorem goodHist_len {l : List Deed} (hg : goodHist l = true) : l.length ≤ 10 := by
  simp [goodHist] at hg
  omega
def tfBad (a b : Deed) : Bool := a.Yes && b.Yes && ahead a b && decide (b.Time ≤ a.Time)
def timesFit (l : List Deed) : Bool := allN (fun i => allN (fun k => !tfBad (nth l i) (nth l k)) l.length) l.length
theorem timesFit_no {l : List Deed} {j k : Nat} (hj : j < l.length) (hk : k < l.length) (h : tfBad (nth l j) (nth l k) = true) : timesFit l = false :=
  allN_no hj (by
    show allN (fun k => !tfBad (nth l j) (nth l k)) l.length = false
    exact allN_no hk (by simp [h]))
end Go.Proofs.Wb

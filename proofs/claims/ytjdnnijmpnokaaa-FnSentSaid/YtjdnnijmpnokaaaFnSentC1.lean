/- Contracts of functions. -/
import Derived.Test.YtjdnnijmpnokaaaFnSentB1
import Derived.Laws.Externs
set_option linter.unusedSimpArgs false
set_option linter.unusedVariables false
set_option linter.unusedSectionVars false
namespace Go.Proofs.Wb
open Go Go.Am
theorem areHomes_1_ok (n : Int) : ACall Try.prog n_impl_areHomes_1 [i64 n] (fun r _ => r = bl (!rng n 0 2)) := by
  refine fn_in h_impl_areHomes_1 r_impl_areHomes_1 ⟨by simp only [go_sem, ↓reduceIte], fun E hE hH => ?_⟩; simp only [go_sem, ↓reduceIte] at hE hH; simp only [go_sem, hE, hH, ↓reduceIte, c_impl_areHomes_1]
  repeat' (first | ((with_reducible (first | refine gd_t (fun h => ?_) (fun h => ?_) | refine gd_f (fun h => ?_) (fun h => ?_))) <;> (have hb := h; (try simp only [decide_eq_true_eq, decide_eq_false_iff_not, Int.not_lt, Int.not_le, ge_iff_le, gt_iff_lt, Bool.not_eq_true', Bool.not_eq_false', beq_iff_eq, bne_iff_ne, beq_eq_false_iff_ne, bne_eq_false_iff_eq, Int.ofNat_lt, Int.ofNat_le] at h); simp (disch := omega) only [go_sem, hE, hH, ↓reduceIte, hb]; (try clear hb))) | ((with_reducible refine And.intro ?_ ?_); · omega) | (refine ok_view ?_; simp (disch := omega) only [go_sem, hE, hH, ↓reduceIte]) | (refine cvA (within_ok _ _ _) ?_; simp (disch := omega) only [go_sem, hE, hH, ↓reduceIte]) | (refine jn _ ?_ ?_) | (with_reducible refine both ?_ ?_) | (with_reducible refine And.intro ?_ ?_) | (refine fin_eq ?_; (try (simp (disch := omega) only [go_sem, hE, hH, ↓reduceIte])); first | done | rfl) | (simp (disch := omega) only [go_sem, hE, hH, ↓reduceIte]) | (exact (noMLL_set (by simp only [go_sem, hE, hH, ↓reduceIte]) (by simp only [go_sem, hE, hH, ↓reduceIte])).2 trivial) | (exact (pk_set (by simp only [go_sem, hE, hH, ↓reduceIte]) (by simp only [go_sem, hE, hH, ↓reduceIte])).2 trivial) | (simp only [go_sem, hE, hH, ↓reduceIte]) | fail)
def goodHomes (l : List Int) (far : Int) : Bool := rng (l.length : Int) 1 5 && allR l 0 2 && rng far 0 20
theorem areHomes_ok (l : List Int) (far : Int) (hl : l.length ≤ maxLen) : ACall Try.prog n_impl_areHomes [.sl false 1 (ints l), i64 far] (fun r _ => r = bl (goodHomes l far)) := by
  have hmx := mx_eq
  have e := (allR_any l 0 2).symm
  refine fn_in h_impl_areHomes r_impl_areHomes ⟨by simp only [go_sem, ↓reduceIte], fun E hE hH => ?_⟩; simp only [go_sem, ↓reduceIte] at hE hH; simp only [go_sem, hE, hH, ↓reduceIte, c_impl_areHomes]
  repeat' (first | ((with_reducible (first | refine gd_t (fun h => ?_) (fun h => ?_) | refine gd_f (fun h => ?_) (fun h => ?_))) <;> (have hb := h; (try simp only [decide_eq_true_eq, decide_eq_false_iff_not, Int.not_lt, Int.not_le, ge_iff_le, gt_iff_lt, Bool.not_eq_true', Bool.not_eq_false', beq_iff_eq, bne_iff_ne, beq_eq_false_iff_ne, bne_eq_false_iff_eq, Int.ofNat_lt, Int.ofNat_le] at h); simp (disch := omega) only [go_sem, hE, hH, ↓reduceIte, hb]; (try clear hb))) | ((with_reducible refine And.intro ?_ ?_); · omega) | (refine ok_view ?_; simp (disch := omega) only [go_sem, hE, hH, ↓reduceIte]) | (refine cvA (within_ok _ _ _) ?_; simp (disch := omega) only [go_sem, hE, hH, ↓reduceIte]) | (refine cvA (ContainsFunc_Int_ok _ _ [] (fun n => !rng n 0 2) (by kernel_rfl) rfl hl (fun n _ => areHomes_1_ok n)) ?_; simp (disch := omega) only [go_sem, hE, hH, ↓reduceIte]) | (refine jn _ ?_ ?_) | (with_reducible refine both ?_ ?_) | (with_reducible refine And.intro ?_ ?_) | (refine fin_eq ?_; (try (simp (disch := omega) only [go_sem, hE, hH, ↓reduceIte])); first | done | rfl) | (simp (disch := omega) only [go_sem, hE, hH, ↓reduceIte]) | (exact (noMLL_set (by simp only [go_sem, hE, hH, ↓reduceIte]) (by simp only [go_sem, hE, hH, ↓reduceIte])).2 trivial) | (exact (pk_set (by simp only [go_sem, hE, hH, ↓reduceIte]) (by simp only [go_sem, hE, hH, ↓reduceIte])).2 trivial) | (simp only [go_sem, hE, hH, ↓reduceIte]) | fail)
  all_goals simp_all [goodHomes]
theorem isNode_ok (n : Net) (v : Int) (hm : n.Homes.length ≤ maxLen) : ACall Try.prog n_impl_Net_isNode [.agg (Net.row false n), i64 v] (fun r _ => r = bl (rng v 0 ((n.Homes.length : Int) - 1))) := by
  have hmx := mx_eq
  refine fn_in h_impl_Net_isNode r_impl_Net_isNode ⟨by simp only [go_sem, ↓reduceIte], fun E hE hH => ?_⟩; simp only [go_sem, ↓reduceIte] at hE hH; simp only [go_sem, hE, hH, ↓reduceIte, c_impl_Net_isNode]
  repeat' (first | ((with_reducible (first | refine gd_t (fun h => ?_) (fun h => ?_) | refine gd_f (fun h => ?_) (fun h => ?_))) <;> (have hb := h; (try simp only [decide_eq_true_eq, decide_eq_false_iff_not, Int.not_lt, Int.not_le, ge_iff_le, gt_iff_lt, Bool.not_eq_true', Bool.not_eq_false', beq_iff_eq, bne_iff_ne, beq_eq_false_iff_ne, bne_eq_false_iff_eq, Int.ofNat_lt, Int.ofNat_le] at h); simp (disch := omega) only [go_sem, hE, hH, ↓reduceIte, hb]; (try clear hb))) | ((with_reducible refine And.intro ?_ ?_); · omega) | (refine ok_view ?_; simp (disch := omega) only [go_sem, hE, hH, ↓reduceIte]) | (refine cvA (within_ok _ _ _) ?_; simp (disch := omega) only [go_sem, hE, hH, ↓reduceIte]) | (refine jn _ ?_ ?_) | (with_reducible refine both ?_ ?_) | (with_reducible refine And.intro ?_ ?_) | (refine fin_eq ?_; (try (simp (disch := omega) only [go_sem, hE, hH, ↓reduceIte])); first | done | rfl) | (simp (disch := omega) only [go_sem, hE, hH, ↓reduceIte]) | (exact (noMLL_set (by simp only [go_sem, hE, hH, ↓reduceIte]) (by simp only [go_sem, hE, hH, ↓reduceIte])).2 trivial) | (exact (pk_set (by simp only [go_sem, hE, hH, ↓reduceIte]) (by simp only [go_sem, hE, hH, ↓reduceIte])).2 trivial) | (simp only [go_sem, hE, hH, ↓reduceIte]) | fail)
theorem l7Node_ok (n : Net) (v : Int) (hm : n.Homes.length ≤ maxLen) : ACall Try.prog n_spec_l7Node [.agg (Net.row false n), i64 v] (fun r _ => r = bl (rng v 0 ((n.Homes.length : Int) - 1))) := by
  have hmx := mx_eq
  refine fn_in h_spec_l7Node r_spec_l7Node ⟨by simp only [go_sem, ↓reduceIte], fun E hE hH => ?_⟩; simp only [go_sem, ↓reduceIte] at hE hH; simp only [go_sem, hE, hH, ↓reduceIte, c_spec_l7Node]
  repeat' (first | ((with_reducible (first | refine gd_t (fun h => ?_) (fun h => ?_) | refine gd_f (fun h => ?_) (fun h => ?_))) <;> (have hb := h; (try simp only [decide_eq_true_eq, decide_eq_false_iff_not, Int.not_lt, Int.not_le, ge_iff_le, gt_iff_lt, Bool.not_eq_true', Bool.not_eq_false', beq_iff_eq, bne_iff_ne, beq_eq_false_iff_ne, bne_eq_false_iff_eq, Int.ofNat_lt, Int.ofNat_le] at h); simp (disch := omega) only [go_sem, hE, hH, ↓reduceIte, hb]; (try clear hb))) | ((with_reducible refine And.intro ?_ ?_); · omega) | (refine ok_view ?_; simp (disch := omega) only [go_sem, hE, hH, ↓reduceIte]) | (refine cvA (l1In_ok _ _ _) ?_; simp (disch := omega) only [go_sem, hE, hH, ↓reduceIte]) | (refine jn _ ?_ ?_) | (with_reducible refine both ?_ ?_) | (with_reducible refine And.intro ?_ ?_) | (refine fin_eq ?_; (try (simp (disch := omega) only [go_sem, hE, hH, ↓reduceIte])); first | done | rfl) | (simp (disch := omega) only [go_sem, hE, hH, ↓reduceIte]) | (exact (noMLL_set (by simp only [go_sem, hE, hH, ↓reduceIte]) (by simp only [go_sem, hE, hH, ↓reduceIte])).2 trivial) | (exact (pk_set (by simp only [go_sem, hE, hH, ↓reduceIte]) (by simp only [go_sem, hE, hH, ↓reduceIte])).2 trivial) | (simp only [go_sem, hE, hH, ↓reduceIte]) | fail)
def letOk (m : Nat) (l : Letter) : Bool := rng l.From 0 ((m : Int) - 1) && rng l.To 0 ((m : Int) - 1) && !decide (l.From = l.To) && rng l.Due 0 100200 && rng (l.Body.size : Int) 1 40
def dueOk (l : List Letter) (i : Nat) : Bool := decide (i = 0) || !decide ((nth l i).Due < (nth l (i - 1)).Due)
def lastD (l : List Letter) (j : Nat) : Int := if j = 0 then 0 else (nth l (j - 1)).Due
theorem due_eq {l : List Letter} {j : Nat} (h : 0 ≤ lastD l j) : rng (nth l j).Due (lastD l j) 100200 = (rng (nth l j).Due 0 100200 && dueOk l j) := by
  unfold lastD at h ⊢
  rw [Bool.eq_iff_iff]
  by_cases hj : j = 0
  · simp [hj, dueOk]
  · simp only [if_neg hj] at h ⊢
    simp only [Bool.and_eq_true, rng_iff, dueOk, hj, Bool.or_eq_true, Bool.not_eq_true', decide_eq_false_iff_not, decide_eq_true_eq, false_or]
    omega
def goodNet (n : Net) : Bool := rng n.Now 0 100000 && goodHomes n.Homes n.Far && decide ((n.Under.length : Int) ≤ 60) && allN (fun i => letOk n.Homes.length (nth n.Under i) && dueOk n.Under i) n.Under.length
theorem goodNet_no {n : Net} {j : Nat} (hlt : j < n.Under.length) (h : (letOk n.Homes.length (nth n.Under j) && dueOk n.Under j) = false) : goodNet n = false := by
  rw [goodNet, allN_no hlt h]; simp
theorem isLetter_ok (n : Net) (l : Letter) (hm : n.Homes.length ≤ maxLen) : ACall Try.prog n_impl_Net_isLetter [.agg (Net.row false n), .agg (Letter.row false l)] (fun r _ => r = bl (letOk n.Homes.length l)) := by
  have hmx := mx_eq
  refine fn_in h_impl_Net_isLetter r_impl_Net_isLetter ⟨by simp only [go_sem, ↓reduceIte], fun E hE hH => ?_⟩; simp only [go_sem, ↓reduceIte] at hE hH; simp only [go_sem, hE, hH, ↓reduceIte, c_impl_Net_isLetter]
  repeat' (first | ((with_reducible (first | refine gd_t (fun h => ?_) (fun h => ?_) | refine gd_f (fun h => ?_) (fun h => ?_))) <;> (have hb := h; (try simp only [decide_eq_true_eq, decide_eq_false_iff_not, Int.not_lt, Int.not_le, ge_iff_le, gt_iff_lt, Bool.not_eq_true', Bool.not_eq_false', beq_iff_eq, bne_iff_ne, beq_eq_false_iff_ne, bne_eq_false_iff_eq, Int.ofNat_lt, Int.ofNat_le] at h); simp (disch := omega) only [go_sem, hE, hH, ↓reduceIte, hb]; (try clear hb))) | ((with_reducible refine And.intro ?_ ?_); · omega) | (refine ok_view ?_; simp (disch := omega) only [go_sem, hE, hH, ↓reduceIte]) | (refine cvA (isNode_ok n _ hm) ?_; simp (disch := omega) only [go_sem, hE, hH, ↓reduceIte]) | (refine cvA (within_ok _ _ _) ?_; simp (disch := omega) only [go_sem, hE, hH, ↓reduceIte]) | (refine jn _ ?_ ?_) | (with_reducible refine both ?_ ?_) | (with_reducible refine And.intro ?_ ?_) | (refine fin_eq ?_; (try (simp (disch := omega) only [go_sem, hE, hH, ↓reduceIte])); first | done | rfl) | (simp (disch := omega) only [go_sem, hE, hH, ↓reduceIte]) | (exact (noMLL_set (by simp only [go_sem, hE, hH, ↓reduceIte]) (by simp only [go_sem, hE, hH, ↓reduceIte])).2 trivial) | (exact (pk_set (by simp only [go_sem, hE, hH, ↓reduceIte]) (by simp only [go_sem, hE, hH, ↓reduceIte])).2 trivial) | (simp only [go_sem, hE, hH, ↓reduceIte]) | fail)
  all_goals (first | (simp_all [letOk]; done) | (simp_all [letOk] <;> first | omega | (intros; omega)))
theorem GoodNet_ok (n : Net) (hm : n.Homes.length ≤ maxLen) : ACall Try.prog n_impl_GoodNet [.agg (Net.row false n)] (fun r _ => r = bl (goodNet n)) := by
  have hmx := mx_eq
  refine fn_in h_impl_GoodNet r_impl_GoodNet ⟨by simp only [go_sem, ↓reduceIte], fun E hE hH => ?_⟩; simp only [go_sem, ↓reduceIte] at hE hH; simp only [go_sem, hE, hH, ↓reduceIte, c_impl_GoodNet]
  repeat' (first | ((with_reducible (first | refine gd_t (fun h => ?_) (fun h => ?_) | refine gd_f (fun h => ?_) (fun h => ?_))) <;> (have hb := h; (try simp only [decide_eq_true_eq, decide_eq_false_iff_not, Int.not_lt, Int.not_le, ge_iff_le, gt_iff_lt, Bool.not_eq_true', Bool.not_eq_false', beq_iff_eq, bne_iff_ne, beq_eq_false_iff_ne, bne_eq_false_iff_eq, Int.ofNat_lt, Int.ofNat_le] at h); simp (disch := omega) only [go_sem, hE, hH, ↓reduceIte, hb]; (try clear hb))) | ((with_reducible refine And.intro ?_ ?_); · omega) | (refine ok_view ?_; simp (disch := omega) only [go_sem, hE, hH, ↓reduceIte]) | (refine cvA (isTrue_ok _) ?_; simp (disch := omega) only [go_sem, hE, hH, ↓reduceIte]) | (refine cvA (areHomes_ok _ _ hm) ?_; simp (disch := omega) only [go_sem, hE, hH, ↓reduceIte]) | (refine jn _ ?_ ?_) | (with_reducible refine both ?_ ?_) | (with_reducible refine And.intro ?_ ?_) | (refine fin_eq ?_; (try (simp (disch := omega) only [go_sem, hE, hH, ↓reduceIte])); first | done | rfl) | (simp (disch := omega) only [go_sem, hE, hH, ↓reduceIte]) | (exact (noMLL_set (by simp only [go_sem, hE, hH, ↓reduceIte]) (by simp only [go_sem, hE, hH, ↓reduceIte])).2 trivial) | (exact (pk_set (by simp only [go_sem, hE, hH, ↓reduceIte]) (by simp only [go_sem, hE, hH, ↓reduceIte])).2 trivial) | (simp only [go_sem, hE, hH, ↓reduceIte]) | fail)
  · simp [goodNet, h]
  · simp [goodNet, h]
  · simp_all [goodNet]; intros; omega
  rename_i ha hb
  refine loopN n.Under.length (fun j (_ : Unit) => ⟨[(1, .ptr 2000000 0 0), (24, .sl false 4 (n.Under.map (Letter.row false))), (25, i64 n.Under.length), (26, i64 j)], [(2000000, ⟨4, [Net.row false n]⟩)]⟩) (fun j _ => allN (fun i => letOk n.Homes.length (nth n.Under i) && dueOk n.Under i) j = true) () rfl ?_
  intro j _ hj hI
  try simp only [go_sem, hE, hH, ↓reduceIte, c_impl_GoodNet_l1]
  first | refine gd_t (fun h1 => ?_) (fun h1 => ?_) | refine gd_f (fun h1 => ?_) (fun h1 => ?_)
  · have hb1 := h1
    simp only [decide_eq_true_eq, decide_eq_false_iff_not, Int.not_lt, Int.not_le, ge_iff_le, gt_iff_lt, Bool.not_eq_true', Bool.not_eq_false', beq_iff_eq, bne_iff_ne, beq_eq_false_iff_ne, bne_eq_false_iff_eq, Int.ofNat_lt, Int.ofNat_le] at h1
    have hlt := h1; clear h1
    try simp (disch := omega) only [go_sem, hE, hH, ↓reduceIte, hb1]
    repeat' (first | ((with_reducible (first | refine gd_t (fun h => ?_) (fun h => ?_) | refine gd_f (fun h => ?_) (fun h => ?_))) <;> (have hb := h; (try simp only [decide_eq_true_eq, decide_eq_false_iff_not, Int.not_lt, Int.not_le, ge_iff_le, gt_iff_lt, Bool.not_eq_true', Bool.not_eq_false', beq_iff_eq, bne_iff_ne, beq_eq_false_iff_ne, bne_eq_false_iff_eq, Int.ofNat_lt, Int.ofNat_le] at h); simp (disch := omega) only [go_sem, hE, hH, ↓reduceIte, hb]; (try clear hb))) | ((with_reducible refine And.intro ?_ ?_); · omega) | (refine ok_view ?_; simp (disch := omega) only [go_sem, hE, hH, ↓reduceIte]) | (refine cvA (isLetter_ok n (nth n.Under j) hm) ?_; simp (disch := omega) only [go_sem, hE, hH, ↓reduceIte]) | (refine jn _ ?_ ?_) | (with_reducible refine both ?_ ?_) | (with_reducible refine And.intro ?_ ?_) | (refine fin_eq ?_; (try (simp (disch := omega) only [go_sem, hE, hH, ↓reduceIte])); first | done | rfl) | (simp (disch := omega) only [go_sem, hE, hH, ↓reduceIte]) | (exact (noMLL_set (by simp only [go_sem, hE, hH, ↓reduceIte]) (by simp only [go_sem, hE, hH, ↓reduceIte])).2 trivial) | (exact (pk_set (by simp only [go_sem, hE, hH, ↓reduceIte]) (by simp only [go_sem, hE, hH, ↓reduceIte])).2 trivial) | (simp only [go_sem, hE, hH, ↓reduceIte]) | fail)
    · rw [goodNet_no hlt (by simp [h])]
    · rw [goodNet_no hlt (by simp_all [dueOk]; try omega)]
    · first | exact ⟨(), rfl, allN_step hI (by simp_all [dueOk])⟩ | exact ⟨by omega, (), rfl, allN_step hI (by simp_all [dueOk])⟩ | exact ⟨by omega, by omega, (), rfl, allN_step hI (by simp_all [dueOk])⟩
    · first | exact ⟨(), rfl, allN_step hI (by simp_all [dueOk]; try omega)⟩ | exact ⟨by omega, (), rfl, allN_step hI (by simp_all [dueOk]; try omega)⟩ | exact ⟨by omega, by omega, (), rfl, allN_step hI (by simp_all [dueOk]; try omega)⟩
  · try simp (disch := omega) only [go_sem, hE, hH, ↓reduceIte, h1]
    simp only [decide_eq_true_eq, decide_eq_false_iff_not, Int.not_lt, Int.not_le, ge_iff_le, gt_iff_lt, Bool.not_eq_true', Bool.not_eq_false', beq_iff_eq, bne_iff_ne, beq_eq_false_iff_ne, bne_eq_false_iff_eq, Int.ofNat_lt, Int.ofNat_le] at h1
    rw [show j = n.Under.length by omega] at hI
    simp_all [goodNet]
theorem l7Good_ok (n : Net) (hm : n.Homes.length ≤ maxLen) : ACall Try.prog n_spec_l7Good [.agg (Net.row false n)] (fun r _ => r = bl (goodNet n)) := by
  have hmx := mx_eq
  refine fn_in h_spec_l7Good r_spec_l7Good ⟨by simp only [go_sem, ↓reduceIte], fun E hE hH => ?_⟩; simp only [go_sem, ↓reduceIte] at hE hH; simp only [go_sem, hE, hH, ↓reduceIte, c_spec_l7Good]
  repeat' (first | ((with_reducible (first | refine gd_t (fun h => ?_) (fun h => ?_) | refine gd_f (fun h => ?_) (fun h => ?_))) <;> (have hb := h; (try simp only [decide_eq_true_eq, decide_eq_false_iff_not, Int.not_lt, Int.not_le, ge_iff_le, gt_iff_lt, Bool.not_eq_true', Bool.not_eq_false', beq_iff_eq, bne_iff_ne, beq_eq_false_iff_ne, bne_eq_false_iff_eq, Int.ofNat_lt, Int.ofNat_le] at h); simp (disch := omega) only [go_sem, hE, hH, ↓reduceIte, hb]; (try clear hb))) | ((with_reducible refine And.intro ?_ ?_); · omega) | (refine ok_view ?_; simp (disch := omega) only [go_sem, hE, hH, ↓reduceIte]) | (refine cvA (l1In_ok _ _ _) ?_; simp (disch := omega) only [go_sem, hE, hH, ↓reduceIte]) | (refine cvA (l1All_ok _ _ _ hm) ?_; simp (disch := omega) only [go_sem, hE, hH, ↓reduceIte]) | (refine jn _ ?_ ?_) | (with_reducible refine both ?_ ?_) | (with_reducible refine And.intro ?_ ?_) | (refine fin_eq ?_; (try (simp (disch := omega) only [go_sem, hE, hH, ↓reduceIte])); first | done | rfl) | (simp (disch := omega) only [go_sem, hE, hH, ↓reduceIte]) | (exact (noMLL_set (by simp only [go_sem, hE, hH, ↓reduceIte]) (by simp only [go_sem, hE, hH, ↓reduceIte])).2 trivial) | (exact (pk_set (by simp only [go_sem, hE, hH, ↓reduceIte]) (by simp only [go_sem, hE, hH, ↓reduceIte])).2 trivial) | (simp only [go_sem, hE, hH, ↓reduceIte]) | fail)
  · simp [goodNet, h]
  · simp [goodNet, goodHomes, h]
  · simp [goodNet, goodHomes, h]
  · simp [goodNet, goodHomes, h]
  · simp_all [goodNet]; intros; omega
  rename_i ha hb hc hd
  have hg : goodHomes n.Homes n.Far = true := by simp [goodHomes, hb, hc, hd]
  refine loopN n.Under.length (fun j (x : Int) => ⟨[(1, .ptr 2000000 0 0), (3, i64 x), (4, i64 j)], [(2000000, ⟨4, [Net.row false n]⟩)]⟩) (fun j x => allN (fun i => letOk n.Homes.length (nth n.Under i) && dueOk n.Under i) j = true ∧ x = lastD n.Under j ∧ 0 ≤ x) 0 ⟨rfl, rfl, by omega⟩ ?_
  rintro j x hj ⟨hI, rfl, h0⟩
  have he := due_eq h0
  try simp only [go_sem, hE, hH, ↓reduceIte, c_spec_l7Good_l1]
  first | refine gd_t (fun h1 => ?_) (fun h1 => ?_) | refine gd_f (fun h1 => ?_) (fun h1 => ?_)
  · have hb1 := h1
    simp only [decide_eq_true_eq, decide_eq_false_iff_not, Int.not_lt, Int.not_le, ge_iff_le, gt_iff_lt, Bool.not_eq_true', Bool.not_eq_false', beq_iff_eq, bne_iff_ne, beq_eq_false_iff_ne, bne_eq_false_iff_eq, Int.ofNat_lt, Int.ofNat_le] at h1
    have hlt := h1; clear h1
    try simp (disch := omega) only [go_sem, hE, hH, ↓reduceIte, hb1]
    repeat' (first | ((with_reducible (first | refine gd_t (fun h => ?_) (fun h => ?_) | refine gd_f (fun h => ?_) (fun h => ?_))) <;> (have hb := h; (try simp only [decide_eq_true_eq, decide_eq_false_iff_not, Int.not_lt, Int.not_le, ge_iff_le, gt_iff_lt, Bool.not_eq_true', Bool.not_eq_false', beq_iff_eq, bne_iff_ne, beq_eq_false_iff_ne, bne_eq_false_iff_eq, Int.ofNat_lt, Int.ofNat_le] at h); simp (disch := omega) only [go_sem, hE, hH, ↓reduceIte, hb]; (try clear hb))) | ((with_reducible refine And.intro ?_ ?_); · omega) | (refine ok_view ?_; simp (disch := omega) only [go_sem, hE, hH, ↓reduceIte]) | (refine cvA (l7Node_ok n _ hm) ?_; simp (disch := omega) only [go_sem, hE, hH, ↓reduceIte]) | (refine cvA (l1In_ok _ _ _) ?_; simp (disch := omega) only [go_sem, hE, hH, ↓reduceIte]) | (refine jn _ ?_ ?_) | (with_reducible refine both ?_ ?_) | (with_reducible refine And.intro ?_ ?_) | (refine fin_eq ?_; (try (simp (disch := omega) only [go_sem, hE, hH, ↓reduceIte])); first | done | rfl) | (simp (disch := omega) only [go_sem, hE, hH, ↓reduceIte]) | (exact (noMLL_set (by simp only [go_sem, hE, hH, ↓reduceIte]) (by simp only [go_sem, hE, hH, ↓reduceIte])).2 trivial) | (exact (pk_set (by simp only [go_sem, hE, hH, ↓reduceIte]) (by simp only [go_sem, hE, hH, ↓reduceIte])).2 trivial) | (simp only [go_sem, hE, hH, ↓reduceIte]) | fail)
    · rw [goodNet_no hlt (by simp [letOk, h])]
    · rw [goodNet_no hlt (by simp [letOk, h])]
    · rw [goodNet_no hlt (by simp [letOk, h])]
    · rw [goodNet_no hlt (by rw [he] at h; simp_all [letOk])]
    · rw [goodNet_no hlt (by simp [letOk, h])]
    · rename_i hD
      have hD' := rng_iff.1 hD
      rw [he] at hD
      exact ⟨(nth n.Under j).Due, rfl, allN_step hI (by simp_all [letOk]), by simp [lastD], by omega⟩
  · try simp (disch := omega) only [go_sem, hE, hH, ↓reduceIte, h1]
    simp only [decide_eq_true_eq, decide_eq_false_iff_not, Int.not_lt, Int.not_le, ge_iff_le, gt_iff_lt, Bool.not_eq_true', Bool.not_eq_false', beq_iff_eq, bne_iff_ne, beq_eq_false_iff_ne, bne_eq_false_iff_eq, Int.ofNat_lt, Int.ofNat_le] at h1
    rw [show j = n.Under.length by omega] at hI
    simp_all [goodNet]
end Go.Proofs.Wb

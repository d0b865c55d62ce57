/- Contracts of functions. -/
import Derived.Test.YtjchgajhlpognaaFnGivenK1
import Derived.Laws.Externs
set_option linter.unusedSimpArgs false
set_option linter.unusedVariables false
set_option linter.unusedSectionVars false
namespace Go.Proofs.Wb
open Go Go.Am
def whenW (w : Watch) (i : Int) : Int × Bool := if hasW w i && decide (w.True + waitW w i w.Given.length ≤ 100000) then (waitW w i w.Given.length, true) else (0, false)
theorem waitW_bd {w : Watch} {i : Int} (hh : hasW w i = true) : ∀ {n : Nat}, n ≤ w.Given.length → 0 ≤ waitW w i n ∧ waitW w i n ≤ 200000
  | 0, _ => by simp [waitW]
  | n + 1, h => by
    obtain ⟨h1, h2⟩ := waitW_bd hh (n := n) (by omega)
    have h0 := hasW_at hh
    have hl := watchOk_lease h0.1 (nth_mem (show n < w.Given.length by omega))
    simp only [leaseOk, Bool.and_eq_true, rng_iff] at hl
    have hlo : -10 ≤ lowW w i ∧ lowW w i ≤ 100000 := by unfold lowW; omega
    rw [waitW_succ h, stepW]
    split
    · omega
    · split <;> omega
theorem WhenFree_ok (w : Watch) (i : Int) (hw : watchM w) : ACall Try.prog n_impl_WhenFree [.agg (Watch.row false w), i64 i] (fun r _ => r = .tup [i64 (whenW w i).1, bl (whenW w i).2]) := by
  have hmx := mx_eq
  cases h1 : watchOk w
  · have e : whenW w i = (0, false) := by simp [whenW, hasW, h1]
    refine fn_in h_impl_WhenFree r_impl_WhenFree ⟨by simp only [go_sem, ↓reduceIte], fun E hE hH => ?_⟩; simp only [go_sem, ↓reduceIte] at hE hH; simp only [go_sem, hE, hH, ↓reduceIte, c_impl_WhenFree]
    repeat' (first | ((with_reducible (first | refine gd_t (fun h => ?_) (fun h => ?_) | refine gd_f (fun h => ?_) (fun h => ?_))) <;> (have hb := h; (try simp only [decide_eq_true_eq, decide_eq_false_iff_not, Int.not_lt, Int.not_le, ge_iff_le, gt_iff_lt, Bool.not_eq_true', Bool.not_eq_false', beq_iff_eq, bne_iff_ne, beq_eq_false_iff_ne, bne_eq_false_iff_eq, Int.ofNat_lt, Int.ofNat_le] at h); simp (disch := omega) only [go_sem, hE, hH, ↓reduceIte, h1, e, hb]; (try clear hb))) | ((with_reducible refine And.intro ?_ ?_); · omega) | (refine ok_view ?_; simp (disch := omega) only [go_sem, hE, hH, ↓reduceIte, h1, e]) | (refine cvA (GoodWatch_ok w hw) ?_; simp (disch := omega) only [go_sem, hE, hH, ↓reduceIte, h1, e]) | (with_reducible apply jn) | (with_reducible apply both) | (with_reducible refine And.intro ?_ ?_) | ((with_reducible apply fin_eq); (try (simp (disch := omega) only [go_sem, hE, hH, ↓reduceIte, h1, e])); first | done | rfl) | (simp (disch := omega) only [go_sem, hE, hH, ↓reduceIte, h1, e]) | (exact (noMLL_set (by simp only [go_sem, hE, hH, ↓reduceIte, h1, e]) (by simp only [go_sem, hE, hH, ↓reduceIte, h1, e])).2 trivial) | (exact (pk_set (by simp only [go_sem, hE, hH, ↓reduceIte, h1, e]) (by simp only [go_sem, hE, hH, ↓reduceIte, h1, e])).2 trivial) | (simp only [go_sem, hE, hH, ↓reduceIte, h1, e]) | fail)
  cases h2 : rng i 0 ((w.Clocks.length : Int) - 1)
  · have e : whenW w i = (0, false) := by simp [whenW, hasW, h2]
    refine fn_in h_impl_WhenFree r_impl_WhenFree ⟨by simp only [go_sem, ↓reduceIte], fun E hE hH => ?_⟩; simp only [go_sem, ↓reduceIte] at hE hH; simp only [go_sem, hE, hH, ↓reduceIte, c_impl_WhenFree]
    repeat' (first | ((with_reducible (first | refine gd_t (fun h => ?_) (fun h => ?_) | refine gd_f (fun h => ?_) (fun h => ?_))) <;> (have hb := h; (try simp only [decide_eq_true_eq, decide_eq_false_iff_not, Int.not_lt, Int.not_le, ge_iff_le, gt_iff_lt, Bool.not_eq_true', Bool.not_eq_false', beq_iff_eq, bne_iff_ne, beq_eq_false_iff_ne, bne_eq_false_iff_eq, Int.ofNat_lt, Int.ofNat_le] at h); simp (disch := omega) only [go_sem, hE, hH, ↓reduceIte, h1, h2, e, hb]; (try clear hb))) | ((with_reducible refine And.intro ?_ ?_); · omega) | (refine ok_view ?_; simp (disch := omega) only [go_sem, hE, hH, ↓reduceIte, h1, h2, e]) | (refine cvA (GoodWatch_ok w hw) ?_; simp (disch := omega) only [go_sem, hE, hH, ↓reduceIte, h1, h2, e]) | (refine cvA (wNode_ok w i hw.1) ?_; simp (disch := omega) only [go_sem, hE, hH, ↓reduceIte, h1, h2, e]) | (with_reducible apply jn) | (with_reducible apply both) | (with_reducible refine And.intro ?_ ?_) | ((with_reducible apply fin_eq); (try (simp (disch := omega) only [go_sem, hE, hH, ↓reduceIte, h1, h2, e])); first | done | rfl) | (simp (disch := omega) only [go_sem, hE, hH, ↓reduceIte, h1, h2, e]) | (exact (noMLL_set (by simp only [go_sem, hE, hH, ↓reduceIte, h1, h2, e]) (by simp only [go_sem, hE, hH, ↓reduceIte, h1, h2, e])).2 trivial) | (exact (pk_set (by simp only [go_sem, hE, hH, ↓reduceIte, h1, h2, e]) (by simp only [go_sem, hE, hH, ↓reduceIte, h1, h2, e])).2 trivial) | (simp only [go_sem, hE, hH, ↓reduceIte, h1, h2, e]) | fail)
  have hh : hasW w i = true := by simp [hasW, h1, h2]
  have hb := waitW_bd hh (Nat.le_refl _)
  have h0 := hasW_at hh
  cases h3 : decide (w.True + waitW w i w.Given.length ≤ 100000)
  · have e : whenW w i = (0, false) := by simp only [whenW, h3]; simp
    simp only [decide_eq_false_iff_not] at h3
    refine fn_in h_impl_WhenFree r_impl_WhenFree ⟨by simp only [go_sem, ↓reduceIte], fun E hE hH => ?_⟩; simp only [go_sem, ↓reduceIte] at hE hH; simp only [go_sem, hE, hH, ↓reduceIte, c_impl_WhenFree]
    repeat' (first | ((with_reducible (first | refine gd_t (fun h => ?_) (fun h => ?_) | refine gd_f (fun h => ?_) (fun h => ?_))) <;> (have hb := h; (try simp only [decide_eq_true_eq, decide_eq_false_iff_not, Int.not_lt, Int.not_le, ge_iff_le, gt_iff_lt, Bool.not_eq_true', Bool.not_eq_false', beq_iff_eq, bne_iff_ne, beq_eq_false_iff_ne, bne_eq_false_iff_eq, Int.ofNat_lt, Int.ofNat_le] at h); simp (disch := omega) only [go_sem, hE, hH, ↓reduceIte, h1, h2, e, hb]; (try clear hb))) | ((with_reducible refine And.intro ?_ ?_); · omega) | (refine ok_view ?_; simp (disch := omega) only [go_sem, hE, hH, ↓reduceIte, h1, h2, e]) | (refine cvA (GoodWatch_ok w hw) ?_; simp (disch := omega) only [go_sem, hE, hH, ↓reduceIte, h1, h2, e]) | (refine cvA (wNode_ok w i hw.1) ?_; simp (disch := omega) only [go_sem, hE, hH, ↓reduceIte, h1, h2, e]) | (refine cvA (wait_ok w i hh) ?_; simp (disch := omega) only [go_sem, hE, hH, ↓reduceIte, h1, h2, e]) | (with_reducible apply jn) | (with_reducible apply both) | (with_reducible refine And.intro ?_ ?_) | ((with_reducible apply fin_eq); (try (simp (disch := omega) only [go_sem, hE, hH, ↓reduceIte, h1, h2, e])); first | done | rfl) | (simp (disch := omega) only [go_sem, hE, hH, ↓reduceIte, h1, h2, e]) | (exact (noMLL_set (by simp only [go_sem, hE, hH, ↓reduceIte, h1, h2, e]) (by simp only [go_sem, hE, hH, ↓reduceIte, h1, h2, e])).2 trivial) | (exact (pk_set (by simp only [go_sem, hE, hH, ↓reduceIte, h1, h2, e]) (by simp only [go_sem, hE, hH, ↓reduceIte, h1, h2, e])).2 trivial) | (simp only [go_sem, hE, hH, ↓reduceIte, h1, h2, e]) | fail)
    all_goals (exfalso; omega)
  · have e : whenW w i = (waitW w i w.Given.length, true) := by simp only [whenW, h3, hh]; simp
    simp only [decide_eq_true_eq] at h3
    refine fn_in h_impl_WhenFree r_impl_WhenFree ⟨by simp only [go_sem, ↓reduceIte], fun E hE hH => ?_⟩; simp only [go_sem, ↓reduceIte] at hE hH; simp only [go_sem, hE, hH, ↓reduceIte, c_impl_WhenFree]
    repeat' (first | ((with_reducible (first | refine gd_t (fun h => ?_) (fun h => ?_) | refine gd_f (fun h => ?_) (fun h => ?_))) <;> (have hb := h; (try simp only [decide_eq_true_eq, decide_eq_false_iff_not, Int.not_lt, Int.not_le, ge_iff_le, gt_iff_lt, Bool.not_eq_true', Bool.not_eq_false', beq_iff_eq, bne_iff_ne, beq_eq_false_iff_ne, bne_eq_false_iff_eq, Int.ofNat_lt, Int.ofNat_le] at h); simp (disch := omega) only [go_sem, hE, hH, ↓reduceIte, h1, h2, e, hb]; (try clear hb))) | ((with_reducible refine And.intro ?_ ?_); · omega) | (refine ok_view ?_; simp (disch := omega) only [go_sem, hE, hH, ↓reduceIte, h1, h2, e]) | (refine cvA (GoodWatch_ok w hw) ?_; simp (disch := omega) only [go_sem, hE, hH, ↓reduceIte, h1, h2, e]) | (refine cvA (wNode_ok w i hw.1) ?_; simp (disch := omega) only [go_sem, hE, hH, ↓reduceIte, h1, h2, e]) | (refine cvA (wait_ok w i hh) ?_; simp (disch := omega) only [go_sem, hE, hH, ↓reduceIte, h1, h2, e]) | (with_reducible apply jn) | (with_reducible apply both) | (with_reducible refine And.intro ?_ ?_) | ((with_reducible apply fin_eq); (try (simp (disch := omega) only [go_sem, hE, hH, ↓reduceIte, h1, h2, e])); first | done | rfl) | (simp (disch := omega) only [go_sem, hE, hH, ↓reduceIte, h1, h2, e]) | (exact (noMLL_set (by simp only [go_sem, hE, hH, ↓reduceIte, h1, h2, e]) (by simp only [go_sem, hE, hH, ↓reduceIte, h1, h2, e])).2 trivial) | (exact (pk_set (by simp only [go_sem, hE, hH, ↓reduceIte, h1, h2, e]) (by simp only [go_sem, hE, hH, ↓reduceIte, h1, h2, e])).2 trivial) | (simp only [go_sem, hE, hH, ↓reduceIte, h1, h2, e]) | fail)
    all_goals (exfalso; omega)
theorem sWhenFree_ok (w : Watch) (i : Int) (hw : watchM w) : ACall Try.prog n_spec_WhenFree [.agg (Watch.row false w), i64 i] (fun r _ => r = .tup [i64 (whenW w i).1, bl (whenW w i).2]) := by
  have hmx := mx_eq
  cases hh : hasW w i
  · have e : whenW w i = (0, false) := by simp [whenW, hh]
    refine fn_in h_spec_WhenFree r_spec_WhenFree ⟨by simp only [go_sem, ↓reduceIte], fun E hE hH => ?_⟩; simp only [go_sem, ↓reduceIte] at hE hH; simp only [go_sem, hE, hH, ↓reduceIte, c_spec_WhenFree]
    repeat' (first | ((with_reducible (first | refine gd_t (fun h => ?_) (fun h => ?_) | refine gd_f (fun h => ?_) (fun h => ?_))) <;> (have hb := h; (try simp only [decide_eq_true_eq, decide_eq_false_iff_not, Int.not_lt, Int.not_le, ge_iff_le, gt_iff_lt, Bool.not_eq_true', Bool.not_eq_false', beq_iff_eq, bne_iff_ne, beq_eq_false_iff_ne, bne_eq_false_iff_eq, Int.ofNat_lt, Int.ofNat_le] at h); simp (disch := omega) only [go_sem, hE, hH, ↓reduceIte, hh, e, hb]; (try clear hb))) | ((with_reducible refine And.intro ?_ ?_); · omega) | (refine ok_view ?_; simp (disch := omega) only [go_sem, hE, hH, ↓reduceIte, hh, e]) | (refine cvA (l10Has_ok w i hw) ?_; simp (disch := omega) only [go_sem, hE, hH, ↓reduceIte, hh, e]) | (with_reducible apply jn) | (with_reducible apply both) | (with_reducible refine And.intro ?_ ?_) | ((with_reducible apply fin_eq); (try (simp (disch := omega) only [go_sem, hE, hH, ↓reduceIte, hh, e])); first | done | rfl) | (simp (disch := omega) only [go_sem, hE, hH, ↓reduceIte, hh, e]) | (exact (noMLL_set (by simp only [go_sem, hE, hH, ↓reduceIte, hh, e]) (by simp only [go_sem, hE, hH, ↓reduceIte, hh, e])).2 trivial) | (exact (pk_set (by simp only [go_sem, hE, hH, ↓reduceIte, hh, e]) (by simp only [go_sem, hE, hH, ↓reduceIte, hh, e])).2 trivial) | (simp only [go_sem, hE, hH, ↓reduceIte, hh, e]) | fail)
  have hb := waitW_bd hh (Nat.le_refl _)
  have h0 := hasW_at hh
  refine fn_in h_spec_WhenFree r_spec_WhenFree ⟨by simp only [go_sem, ↓reduceIte], fun E hE hH => ?_⟩; simp only [go_sem, ↓reduceIte] at hE hH; simp only [go_sem, hE, hH, ↓reduceIte, c_spec_WhenFree]
  repeat' (first | ((with_reducible (first | refine gd_t (fun h => ?_) (fun h => ?_) | refine gd_f (fun h => ?_) (fun h => ?_))) <;> (have hb := h; (try simp only [decide_eq_true_eq, decide_eq_false_iff_not, Int.not_lt, Int.not_le, ge_iff_le, gt_iff_lt, Bool.not_eq_true', Bool.not_eq_false', beq_iff_eq, bne_iff_ne, beq_eq_false_iff_ne, bne_eq_false_iff_eq, Int.ofNat_lt, Int.ofNat_le] at h); simp (disch := omega) only [go_sem, hE, hH, ↓reduceIte, hh, hb]; (try clear hb))) | ((with_reducible refine And.intro ?_ ?_); · omega) | (refine ok_view ?_; simp (disch := omega) only [go_sem, hE, hH, ↓reduceIte, hh]) | (refine cvA (l10Has_ok w i hw) ?_; simp (disch := omega) only [go_sem, hE, hH, ↓reduceIte, hh]) | (refine cvA (l10Span_ok w i hh) ?_; simp (disch := omega) only [go_sem, hE, hH, ↓reduceIte, hh]) | (with_reducible apply jn) | (with_reducible apply both) | (with_reducible refine And.intro ?_ ?_) | ((with_reducible apply fin_eq); (try (simp (disch := omega) only [go_sem, hE, hH, ↓reduceIte, hh])); first | done | rfl) | (simp (disch := omega) only [go_sem, hE, hH, ↓reduceIte, hh]) | (exact (noMLL_set (by simp only [go_sem, hE, hH, ↓reduceIte, hh]) (by simp only [go_sem, hE, hH, ↓reduceIte, hh])).2 trivial) | (exact (pk_set (by simp only [go_sem, hE, hH, ↓reduceIte, hh]) (by simp only [go_sem, hE, hH, ↓reduceIte, hh])).2 trivial) | (simp only [go_sem, hE, hH, ↓reduceIte, hh]) | fail)
  refine loopNe w.Given.length (fun j (_ : Unit) => ⟨[(1, i64 i), (2, .ptr 3000000 0 0), (6, i64 (lowW w i)), (7, i64 (waitW w i j)), (8, i64 j)], [(3000000, ⟨3, [Watch.row false w]⟩)]⟩) (fun j _ => True) () rfl trivial ?_
  intro j _ hj _
  try simp only [go_sem, hE, hH, ↓reduceIte, c_spec_WhenFree_l1]
  first | refine gd_t (fun q1 => ?_) (fun q1 => ?_) | refine gd_f (fun q1 => ?_) (fun q1 => ?_)
  · have hb1 := q1
    simp only [decide_eq_true_eq, decide_eq_false_iff_not, Int.not_lt, Int.not_le, ge_iff_le, gt_iff_lt, Bool.not_eq_true', Bool.not_eq_false', beq_iff_eq, bne_iff_ne, beq_eq_false_iff_ne, bne_eq_false_iff_eq, Int.ofNat_lt, Int.ofNat_le] at q1
    have hlt := q1; clear q1
    have hl := watchOk_lease h0.1 (nth_mem hlt)
    simp only [leaseOk, Bool.and_eq_true, rng_iff] at hl
    have hs := waitW_succ (i := i) hlt
    have hlo : -10 ≤ lowW w i ∧ lowW w i ≤ 100000 := by unfold lowW; omega
    try simp (disch := omega) only [go_sem, hE, hH, ↓reduceIte, hb1]
    repeat' (first | ((with_reducible (first | refine gd_t (fun h => ?_) (fun h => ?_) | refine gd_f (fun h => ?_) (fun h => ?_))) <;> (have hb := h; (try simp only [decide_eq_true_eq, decide_eq_false_iff_not, Int.not_lt, Int.not_le, ge_iff_le, gt_iff_lt, Bool.not_eq_true', Bool.not_eq_false', beq_iff_eq, bne_iff_ne, beq_eq_false_iff_ne, bne_eq_false_iff_eq, Int.ofNat_lt, Int.ofNat_le] at h); simp (disch := omega) only [go_sem, hE, hH, ↓reduceIte, hb]; (try clear hb))) | ((with_reducible refine And.intro ?_ ?_); · omega) | (refine ok_view ?_; simp (disch := omega) only [go_sem, hE, hH, ↓reduceIte]) | (refine cvA (l1Most_ok _ _) ?_; simp (disch := omega) only [go_sem, hE, hH, ↓reduceIte]) | (with_reducible apply jn) | (with_reducible apply both) | (with_reducible refine And.intro ?_ ?_) | ((with_reducible apply fin_eq); (try (simp (disch := omega) only [go_sem, hE, hH, ↓reduceIte])); first | done | rfl) | (simp (disch := omega) only [go_sem, hE, hH, ↓reduceIte]) | (exact (noMLL_set (by simp only [go_sem, hE, hH, ↓reduceIte]) (by simp only [go_sem, hE, hH, ↓reduceIte])).2 trivial) | (exact (pk_set (by simp only [go_sem, hE, hH, ↓reduceIte]) (by simp only [go_sem, hE, hH, ↓reduceIte])).2 trivial) | (simp only [go_sem, hE, hH, ↓reduceIte]) | fail)
    · refine ⟨(), ?_⟩
      have e : mostI (waitW w i j) ((nth w.Given j).Until + 1 - lowW w i) = waitW w i (j + 1) := by
        rw [hs, stepW, if_neg h, mostI]; split <;> split <;> omega
      rw [e]; rfl
    · refine ⟨(), ?_⟩
      rw [hs, stepW, if_pos h]; rfl
  · have q2 := q1
    simp only [decide_eq_true_eq, decide_eq_false_iff_not, Int.not_lt, Int.not_le, ge_iff_le, gt_iff_lt, Bool.not_eq_true', Bool.not_eq_false', beq_iff_eq, bne_iff_ne, beq_eq_false_iff_ne, bne_eq_false_iff_eq, Int.ofNat_lt, Int.ofNat_le] at q2
    obtain rfl : j = w.Given.length := by omega
    try simp (disch := omega) only [go_sem, hE, hH, ↓reduceIte, q1]
    cases h3 : decide (w.True + waitW w i w.Given.length ≤ 100000)
    · have e : whenW w i = (0, false) := by simp only [whenW, h3]; simp
      simp only [decide_eq_false_iff_not] at h3
      repeat' (first | ((with_reducible (first | refine gd_t (fun h => ?_) (fun h => ?_) | refine gd_f (fun h => ?_) (fun h => ?_))) <;> (have hb := h; (try simp only [decide_eq_true_eq, decide_eq_false_iff_not, Int.not_lt, Int.not_le, ge_iff_le, gt_iff_lt, Bool.not_eq_true', Bool.not_eq_false', beq_iff_eq, bne_iff_ne, beq_eq_false_iff_ne, bne_eq_false_iff_eq, Int.ofNat_lt, Int.ofNat_le] at h); simp (disch := omega) only [go_sem, hE, hH, ↓reduceIte, e, hb]; (try clear hb))) | ((with_reducible refine And.intro ?_ ?_); · omega) | (with_reducible apply jn) | (with_reducible apply both) | (with_reducible refine And.intro ?_ ?_) | ((with_reducible apply fin_eq); (try (simp (disch := omega) only [go_sem, hE, hH, ↓reduceIte, e])); first | done | rfl) | (simp (disch := omega) only [go_sem, hE, hH, ↓reduceIte, e]) | (exact (noMLL_set (by simp only [go_sem, hE, hH, ↓reduceIte, e]) (by simp only [go_sem, hE, hH, ↓reduceIte, e])).2 trivial) | (exact (pk_set (by simp only [go_sem, hE, hH, ↓reduceIte, e]) (by simp only [go_sem, hE, hH, ↓reduceIte, e])).2 trivial) | (simp only [go_sem, hE, hH, ↓reduceIte, e]) | fail)
      all_goals (exfalso; omega)
    · have e : whenW w i = (waitW w i w.Given.length, true) := by simp only [whenW, h3, hh]; simp
      simp only [decide_eq_true_eq] at h3
      repeat' (first | ((with_reducible (first | refine gd_t (fun h => ?_) (fun h => ?_) | refine gd_f (fun h => ?_) (fun h => ?_))) <;> (have hb := h; (try simp only [decide_eq_true_eq, decide_eq_false_iff_not, Int.not_lt, Int.not_le, ge_iff_le, gt_iff_lt, Bool.not_eq_true', Bool.not_eq_false', beq_iff_eq, bne_iff_ne, beq_eq_false_iff_ne, bne_eq_false_iff_eq, Int.ofNat_lt, Int.ofNat_le] at h); simp (disch := omega) only [go_sem, hE, hH, ↓reduceIte, e, hb]; (try clear hb))) | ((with_reducible refine And.intro ?_ ?_); · omega) | (with_reducible apply jn) | (with_reducible apply both) | (with_reducible refine And.intro ?_ ?_) | ((with_reducible apply fin_eq); (try (simp (disch := omega) only [go_sem, hE, hH, ↓reduceIte, e])); first | done | rfl) | (simp (disch := omega) only [go_sem, hE, hH, ↓reduceIte, e]) | (exact (noMLL_set (by simp only [go_sem, hE, hH, ↓reduceIte, e]) (by simp only [go_sem, hE, hH, ↓reduceIte, e])).2 trivial) | (exact (pk_set (by simp only [go_sem, hE, hH, ↓reduceIte, e]) (by simp only [go_sem, hE, hH, ↓reduceIte, e])).2 trivial) | (simp only [go_sem, hE, hH, ↓reduceIte, e]) | fail)
      all_goals (exfalso; omega)
theorem l10Acts_ok (most : Int) (hm : 0 ≤ most) (hm2 : most ≤ 16) (code : List Int) (hb : isB code) (a : Nat) (s : Int) (ha : a ≤ 2 ^ 50) : ACall Try.prog n_spec_l10Acts [cur code a s, i64 most] (fun r l => ∃ (q : List WatchAct) (a' : Nat) (s' : Int), r = .sl true 3 (q.map (WatchAct.row true)) ∧ l = [cur code a' s', i64 most] ∧ a' ≤ a + 200 ∧ q.length ≤ 16) := by
  have hmx := mx_eq
  refine fn_in h_spec_l10Acts r_spec_l10Acts ⟨by simp only [go_sem, ↓reduceIte], fun E hE hH => ?_⟩; simp only [go_sem, ↓reduceIte] at hE hH; simp only [go_sem, hE, hH, ↓reduceIte, c_spec_l10Acts]
  repeat' (first | ((with_reducible (first | refine gd_t (fun h => ?_) (fun h => ?_) | refine gd_f (fun h => ?_) (fun h => ?_))) <;> (have hb := h; (try simp only [decide_eq_true_eq, decide_eq_false_iff_not, Int.not_lt, Int.not_le, ge_iff_le, gt_iff_lt, Bool.not_eq_true', Bool.not_eq_false', beq_iff_eq, bne_iff_ne, beq_eq_false_iff_ne, bne_eq_false_iff_eq, Int.ofNat_lt, Int.ofNat_le] at h); simp (disch := omega) only [go_sem, hE, hH, ↓reduceIte, hb]; (try clear hb))) | ((with_reducible refine And.intro ?_ ?_); · omega) | (refine ok_lend [true, false] ?_; simp (disch := omega) only [go_sem, hE, hH, ↓reduceIte]; refine cmA (pick_ok _ code hb _ _ (by omega) (by omega)) ?_; refine aftM_intro ?_; rintro _ _ ⟨n, a', s', rfl, rfl, h1, h2, h3⟩; simp (disch := omega) only [go_sem, hE, hH, ↓reduceIte]) | (refine jn _ ?_ ?_) | (with_reducible refine both ?_ ?_) | (with_reducible refine And.intro ?_ ?_) | (refine fin_eq ?_; (try (simp (disch := omega) only [go_sem, hE, hH, ↓reduceIte])); first | done | rfl) | (simp (disch := omega) only [go_sem, hE, hH, ↓reduceIte]) | (exact (noMLL_set (by simp only [go_sem, hE, hH, ↓reduceIte]) (by simp only [go_sem, hE, hH, ↓reduceIte])).2 trivial) | (exact (pk_set (by simp only [go_sem, hE, hH, ↓reduceIte]) (by simp only [go_sem, hE, hH, ↓reduceIte])).2 trivial) | (simp only [go_sem, hE, hH, ↓reduceIte]) | fail)
  have hn : n ≤ 16 := by split at h3 <;> omega
  refine loopNe n.toNat (fun j (x : List WatchAct × Nat × Int) => ⟨[(0, .ptr 0 0 0), (5, .ref 6000000 0 x.1.length), (6, i64 n), (7, i64 j)], [(0, ⟨3, [[.sl false 1 (bys code), i64 x.2.1, u64 x.2.2]]⟩), (6000000, ⟨3, x.1.map (WatchAct.row true)⟩)]⟩) (fun j x => x.1.length = j ∧ x.2.1 ≤ a + 2 + 8 * j) ([], a', s') (by simp [bys]) ⟨rfl, by omega⟩ ?_
  rintro j ⟨x, b, t⟩ hj ⟨hI1, hI2⟩
  simp only at hI1 hI2
  try simp only [go_sem, hE, hH, ↓reduceIte, c_spec_l10Acts_l1]
  first | refine gd_t (fun hq => ?_) (fun hq => ?_) | refine gd_f (fun hq => ?_) (fun hq => ?_)
  · have hb1 := hq
    simp only [decide_eq_true_eq, decide_eq_false_iff_not, Int.not_lt, Int.not_le, ge_iff_le, gt_iff_lt, Bool.not_eq_true', Bool.not_eq_false', beq_iff_eq, bne_iff_ne, beq_eq_false_iff_ne, bne_eq_false_iff_eq, Int.ofNat_lt, Int.ofNat_le] at hq
    try simp (disch := omega) only [go_sem, hE, hH, ↓reduceIte, hb1]
    repeat' (first | ((with_reducible (first | refine gd_t (fun h => ?_) (fun h => ?_) | refine gd_f (fun h => ?_) (fun h => ?_))) <;> (have hb := h; (try simp only [decide_eq_true_eq, decide_eq_false_iff_not, Int.not_lt, Int.not_le, ge_iff_le, gt_iff_lt, Bool.not_eq_true', Bool.not_eq_false', beq_iff_eq, bne_iff_ne, beq_eq_false_iff_ne, bne_eq_false_iff_eq, Int.ofNat_lt, Int.ofNat_le] at h); simp (disch := omega) only [go_sem, hE, hH, ↓reduceIte, hb]; (try clear hb))) | ((with_reducible refine And.intro ?_ ?_); · omega) | (refine ok_lend [true, true] ?_; simp (disch := omega) only [go_sem, hE, hH, ↓reduceIte]; refine cmA (among_ok [1, 1, 1, 2, 2, 3, 4] (by decide) (by decide) code hb _ _ (by omega)) ?_; refine aftM_intro ?_; rintro _ _ ⟨y, a', s', rfl, rfl, h1, h2⟩; simp (disch := omega) only [go_sem, hE, hH, ↓reduceIte]) | (refine ok_lend [true, false] ?_; simp (disch := omega) only [go_sem, hE, hH, ↓reduceIte]; refine cmA (pick_ok _ code hb _ _ (by omega) (by omega)) ?_; refine aftM_intro ?_; rintro _ _ ⟨z, a', s', rfl, rfl, h1, h2, h3⟩; simp (disch := omega) only [go_sem, hE, hH, ↓reduceIte]) | (refine jn _ ?_ ?_) | (with_reducible refine both ?_ ?_) | (with_reducible refine And.intro ?_ ?_) | (refine fin_eq ?_; (try (simp (disch := omega) only [go_sem, hE, hH, ↓reduceIte])); first | done | rfl) | (simp (disch := omega) only [go_sem, hE, hH, ↓reduceIte]) | (exact (noMLL_set (by simp only [go_sem, hE, hH, ↓reduceIte]) (by simp only [go_sem, hE, hH, ↓reduceIte])).2 trivial) | (exact (pk_set (by simp only [go_sem, hE, hH, ↓reduceIte]) (by simp only [go_sem, hE, hH, ↓reduceIte])).2 trivial) | (simp only [go_sem, hE, hH, ↓reduceIte]) | fail)
    · rename_i z1 a1 s1 p1 p2 p3 z2 a2 s2 q1 q2 q3
      refine ⟨(x ++ [⟨y, z1, z - 6⟩], a', s'), ?_, by simp [hI1], by simp only; omega⟩
      simp [WatchAct.row]
    · rename_i z1 a1 s1 p1 p2 p3
      refine ⟨(x ++ [⟨y, z1, 1 + z⟩], a', s'), ?_, by simp [hI1], by simp only; omega⟩
      simp [WatchAct.row]
  · try simp (disch := omega) only [go_sem, hE, hH, ↓reduceIte, hq]
    repeat' (first | ((with_reducible (first | refine gd_t (fun h => ?_) (fun h => ?_) | refine gd_f (fun h => ?_) (fun h => ?_))) <;> (have hb := h; (try simp only [decide_eq_true_eq, decide_eq_false_iff_not, Int.not_lt, Int.not_le, ge_iff_le, gt_iff_lt, Bool.not_eq_true', Bool.not_eq_false', beq_iff_eq, bne_iff_ne, beq_eq_false_iff_ne, bne_eq_false_iff_eq, Int.ofNat_lt, Int.ofNat_le] at h); simp (disch := omega) only [go_sem, hE, hH, ↓reduceIte, hb]; (try clear hb))) | ((with_reducible refine And.intro ?_ ?_); · omega) | (refine jn _ ?_ ?_) | (with_reducible refine both ?_ ?_) | (with_reducible refine And.intro ?_ ?_) | (refine fin_eq ?_; (try (simp (disch := omega) only [go_sem, hE, hH, ↓reduceIte])); first | done | rfl) | (simp (disch := omega) only [go_sem, hE, hH, ↓reduceIte]) | (exact (noMLL_set (by simp only [go_sem, hE, hH, ↓reduceIte]) (by simp only [go_sem, hE, hH, ↓reduceIte])).2 trivial) | (exact (pk_set (by simp only [go_sem, hE, hH, ↓reduceIte]) (by simp only [go_sem, hE, hH, ↓reduceIte])).2 trivial) | (simp only [go_sem, hE, hH, ↓reduceIte]) | fail)
    exact nilR_of ⟨x, _, _, rfl, rfl, by omega, by omega⟩
theorem sNewWatch_ok (l : List Clock) (h1 : 1 ≤ l.length) (h2 : l.length ≤ 5) (h3 : ∀ c ∈ l, clkOk c = true) : ACall Try.prog n_spec_NewWatch [.sl false 1 (l.map (Clock.row false))] (fun r _ => r = .tup [.agg (Watch.row true ⟨0, l, []⟩), bl true]) := by
  have hmx := mx_eq
  have hg : watchOk ⟨0, l, []⟩ = true := by
    simp only [watchOk, clksOk, Bool.and_eq_true, rng_iff, List.all_eq_true]
    simp
    exact ⟨⟨by omega, by omega⟩, h3⟩
  have e : ifW ⟨0, l, []⟩ = (⟨0, l, []⟩, true) := by rw [ifW, hg]; rfl
  refine fn_in h_spec_NewWatch r_spec_NewWatch ⟨by simp only [go_sem, ↓reduceIte], fun E hE hH => ?_⟩; simp only [go_sem, ↓reduceIte] at hE hH; simp only [go_sem, hE, hH, ↓reduceIte, c_spec_NewWatch]
  repeat' (first | ((with_reducible (first | refine gd_t (fun h => ?_) (fun h => ?_) | refine gd_f (fun h => ?_) (fun h => ?_))) <;> (have hb := h; (try simp only [decide_eq_true_eq, decide_eq_false_iff_not, Int.not_lt, Int.not_le, ge_iff_le, gt_iff_lt, Bool.not_eq_true', Bool.not_eq_false', beq_iff_eq, bne_iff_ne, beq_eq_false_iff_ne, bne_eq_false_iff_eq, Int.ofNat_lt, Int.ofNat_le] at h); simp (disch := omega) only [go_sem, hE, hH, ↓reduceIte, e, hb]; (try clear hb))) | ((with_reducible refine And.intro ?_ ?_); · omega) | (refine ok_lend [true] ?_; simp (disch := omega) only [go_sem, hE, hH, ↓reduceIte, e]; refine cmA (l10If_ok ⟨0, l, []⟩ ⟨by simp only; omega, by simp⟩) ?_; simp (disch := omega) only [go_sem, hE, hH, ↓reduceIte, e]) | (refine ok_view ?_; simp (disch := omega) only [go_sem, hE, hH, ↓reduceIte, e]) | (refine cvAn (l10Own_ok ⟨0, l, []⟩ (by simp only; omega) (by simp)) ?_; simp (disch := omega) only [go_sem, hE, hH, ↓reduceIte, e]) | (with_reducible apply jn) | (with_reducible apply both) | (with_reducible refine And.intro ?_ ?_) | ((with_reducible apply fin_eq); (try (simp (disch := omega) only [go_sem, hE, hH, ↓reduceIte, e])); first | done | rfl) | (simp (disch := omega) only [go_sem, hE, hH, ↓reduceIte, e]) | (exact (noMLL_set (by simp only [go_sem, hE, hH, ↓reduceIte, e]) (by simp only [go_sem, hE, hH, ↓reduceIte, e])).2 trivial) | (exact (pk_set (by simp only [go_sem, hE, hH, ↓reduceIte, e]) (by simp only [go_sem, hE, hH, ↓reduceIte, e])).2 trivial) | (simp only [go_sem, hE, hH, ↓reduceIte, e]) | fail)
  all_goals trace_state
theorem l10Make_ok (most : Int) (hm : 0 ≤ most) (hm2 : most ≤ 16) (code : List Int) (hb : isB code) (a : Nat) (s : Int) (ha : a ≤ 2 ^ 48) : ACall Try.prog n_spec_l10Make [cur code a s, i64 most] (fun r l => ∃ (w : Watch) (a' : Nat) (s' : Int), r = .agg (Watch.row true w) ∧ l = [cur code a' s', i64 most] ∧ a' ≤ a + 300 ∧ watchOk w = true) := by
  have hmx := mx_eq
  refine fn_in h_spec_l10Make r_spec_l10Make ⟨by simp only [go_sem, ↓reduceIte], fun E hE hH => ?_⟩; simp only [go_sem, ↓reduceIte] at hE hH; simp only [go_sem, hE, hH, ↓reduceIte, c_spec_l10Make]
  repeat' (first | ((with_reducible (first | refine gd_t (fun h => ?_) (fun h => ?_) | refine gd_f (fun h => ?_) (fun h => ?_))) <;> (have hb := h; (try simp only [decide_eq_true_eq, decide_eq_false_iff_not, Int.not_lt, Int.not_le, ge_iff_le, gt_iff_lt, Bool.not_eq_true', Bool.not_eq_false', beq_iff_eq, bne_iff_ne, beq_eq_false_iff_ne, bne_eq_false_iff_eq, Int.ofNat_lt, Int.ofNat_le] at h); simp (disch := omega) only [go_sem, hE, hH, ↓reduceIte, hb]; (try clear hb))) | ((with_reducible refine And.intro ?_ ?_); · omega) | (refine ok_lend [true, false] ?_; simp (disch := omega) only [go_sem, hE, hH, ↓reduceIte]; refine cmA (pick_ok _ code hb _ _ (by omega) (by omega)) ?_; refine aftM_intro ?_; rintro _ _ ⟨n, a', s', rfl, rfl, h1, h2, h3⟩; simp (disch := omega) only [go_sem, hE, hH, ↓reduceIte]) | (refine jn _ ?_ ?_) | (with_reducible refine both ?_ ?_) | (with_reducible refine And.intro ?_ ?_) | (refine fin_eq ?_; (try (simp (disch := omega) only [go_sem, hE, hH, ↓reduceIte])); first | done | rfl) | (simp (disch := omega) only [go_sem, hE, hH, ↓reduceIte]) | (exact (noMLL_set (by simp only [go_sem, hE, hH, ↓reduceIte]) (by simp only [go_sem, hE, hH, ↓reduceIte])).2 trivial) | (exact (pk_set (by simp only [go_sem, hE, hH, ↓reduceIte]) (by simp only [go_sem, hE, hH, ↓reduceIte])).2 trivial) | (simp only [go_sem, hE, hH, ↓reduceIte]) | fail)
  have hn : n ≤ 3 := by split at h3 <;> omega
  refine loopNe (1 + n).toNat (fun j (x : List Clock × Nat × Int) => ⟨[(0, .ptr 0 0 0), (1, i64 most), (4, .ptr 5000000 0 0), (5, .ref 6000000 0 x.1.length), (6, i64 (1 + n)), (7, i64 j)], [(0, ⟨3, [[.sl false 1 (bys code), i64 x.2.1, u64 x.2.2]]⟩), (5000000, ⟨3, [[i64 0, nils, nils]]⟩), (6000000, ⟨1, x.1.map (Clock.row true)⟩)]⟩) (fun j x => x.1.length = j ∧ x.2.1 ≤ a + 2 + 2 * j ∧ ∀ c ∈ x.1, clkOk c = true) ([], a', s') (by simp [bys]) ⟨rfl, by omega, by simp⟩ ?_
  rintro j ⟨x, b, t⟩ hj ⟨hI1, hI2, hI3⟩
  simp only at hI1 hI2 hI3
  try simp only [go_sem, hE, hH, ↓reduceIte, c_spec_l10Make_l1]
  first | refine gd_t (fun hq => ?_) (fun hq => ?_) | refine gd_f (fun hq => ?_) (fun hq => ?_)
  · have hb1 := hq
    simp only [decide_eq_true_eq, decide_eq_false_iff_not, Int.not_lt, Int.not_le, ge_iff_le, gt_iff_lt, Bool.not_eq_true', Bool.not_eq_false', beq_iff_eq, bne_iff_ne, beq_eq_false_iff_ne, bne_eq_false_iff_eq, Int.ofNat_lt, Int.ofNat_le] at hq
    try simp (disch := omega) only [go_sem, hE, hH, ↓reduceIte, hb1]
    repeat' (first | ((with_reducible (first | refine gd_t (fun h => ?_) (fun h => ?_) | refine gd_f (fun h => ?_) (fun h => ?_))) <;> (have hb := h; (try simp only [decide_eq_true_eq, decide_eq_false_iff_not, Int.not_lt, Int.not_le, ge_iff_le, gt_iff_lt, Bool.not_eq_true', Bool.not_eq_false', beq_iff_eq, bne_iff_ne, beq_eq_false_iff_ne, bne_eq_false_iff_eq, Int.ofNat_lt, Int.ofNat_le] at h); simp (disch := omega) only [go_sem, hE, hH, ↓reduceIte, hb]; (try clear hb))) | ((with_reducible refine And.intro ?_ ?_); · omega) | (refine ok_lend [true, false] ?_; simp (disch := omega) only [go_sem, hE, hH, ↓reduceIte]; refine cmA (pick_ok _ code hb _ _ (by omega) (by omega)) ?_; refine aftM_intro ?_; rintro _ _ ⟨z, a', s', rfl, rfl, h1, h2, h3⟩; simp (disch := omega) only [go_sem, hE, hH, ↓reduceIte]) | (refine jn _ ?_ ?_) | (with_reducible refine both ?_ ?_) | (with_reducible refine And.intro ?_ ?_) | (refine fin_eq ?_; (try (simp (disch := omega) only [go_sem, hE, hH, ↓reduceIte])); first | done | rfl) | (simp (disch := omega) only [go_sem, hE, hH, ↓reduceIte]) | (exact (noMLL_set (by simp only [go_sem, hE, hH, ↓reduceIte]) (by simp only [go_sem, hE, hH, ↓reduceIte])).2 trivial) | (exact (pk_set (by simp only [go_sem, hE, hH, ↓reduceIte]) (by simp only [go_sem, hE, hH, ↓reduceIte])).2 trivial) | (simp only [go_sem, hE, hH, ↓reduceIte]) | fail)
    refine ⟨(x ++ [⟨z - 5⟩], a', s'), ?_, by simp [hI1], by simp only; omega, ?_⟩
    · simp [Clock.row]
    · intro c hc
      rcases List.mem_append.1 hc with hc | hc
      · exact hI3 c hc
      · simp only [List.mem_singleton] at hc
        subst hc
        exact rng_iff.2 (by simp only; omega)
  · have hq2 := hq
    simp only [decide_eq_true_eq, decide_eq_false_iff_not, Int.not_lt, Int.not_le, ge_iff_le, gt_iff_lt, Bool.not_eq_true', Bool.not_eq_false', beq_iff_eq, bne_iff_ne, beq_eq_false_iff_ne, bne_eq_false_iff_eq, Int.ofNat_lt, Int.ofNat_le] at hq2
    try simp (disch := omega) only [go_sem, hE, hH, ↓reduceIte, hq]
    repeat' (first | ((with_reducible (first | refine gd_t (fun h => ?_) (fun h => ?_) | refine gd_f (fun h => ?_) (fun h => ?_))) <;> (have hb := h; (try simp only [decide_eq_true_eq, decide_eq_false_iff_not, Int.not_lt, Int.not_le, ge_iff_le, gt_iff_lt, Bool.not_eq_true', Bool.not_eq_false', beq_iff_eq, bne_iff_ne, beq_eq_false_iff_ne, bne_eq_false_iff_eq, Int.ofNat_lt, Int.ofNat_le] at h); simp (disch := omega) only [go_sem, hE, hH, ↓reduceIte, hb]; (try clear hb))) | ((with_reducible refine And.intro ?_ ?_); · omega) | (refine ok_lend [true, true] ?_; simp (disch := omega) only [go_sem, hE, hH, ↓reduceIte]; refine cmA (among_ok [0, 3, 50, 99950] (by decide) (by decide) code hb _ _ (by omega)) ?_; refine aftM_intro ?_; rintro _ _ ⟨y, a', s', rfl, rfl, h1, h2⟩; simp (disch := omega) only [go_sem, hE, hH, ↓reduceIte]) | (refine ok_view ?_; simp (disch := omega) only [go_sem, hE, hH, ↓reduceIte]) | (refine cvA (sNewWatch_ok x (by omega) (by omega) hI3) ?_; simp (disch := omega) only [go_sem, hE, hH, ↓reduceIte]) | (refine jn _ ?_ ?_) | (with_reducible refine both ?_ ?_) | (with_reducible refine And.intro ?_ ?_) | (refine fin_eq ?_; (try (simp (disch := omega) only [go_sem, hE, hH, ↓reduceIte])); first | done | rfl) | (simp (disch := omega) only [go_sem, hE, hH, ↓reduceIte]) | (exact (noMLL_set (by simp only [go_sem, hE, hH, ↓reduceIte]) (by simp only [go_sem, hE, hH, ↓reduceIte])).2 trivial) | (exact (pk_set (by simp only [go_sem, hE, hH, ↓reduceIte]) (by simp only [go_sem, hE, hH, ↓reduceIte])).2 trivial) | (simp only [go_sem, hE, hH, ↓reduceIte]) | fail)
    have hy : 0 ≤ y ∧ y ≤ 99950 := by simp at h2; omega
    have hg : watchOk ⟨0 + y, x, []⟩ = true := by
      simp only [watchOk, clksOk, Bool.and_eq_true, rng_iff, List.all_eq_true]
      simp
      exact ⟨⟨by omega, by omega⟩, ⟨by omega, by omega⟩, hI3⟩
    have hg0 : watchOk ⟨0, x, []⟩ = true := by
      simp only [watchOk, clksOk, Bool.and_eq_true, rng_iff, List.all_eq_true]
      simp
      exact ⟨⟨by omega, by omega⟩, hI3⟩
    have e : passW ⟨0, x, []⟩ y = (⟨0 + y, x, []⟩, true) := by
      rw [passW, hg0, rng_iff.2 ⟨by omega, by omega⟩, ifW]
      simp only [hg]; rfl
    have e2 : ∀ q : List WatchAct, q.length ≤ 16 → playW ⟨0 + y, x, []⟩ q = (playF ⟨0 + y, x, []⟩ q, true) := by
      intro q hq
      have : decide ((q.length : Int) ≤ 100) = true := decide_eq_true (by omega)
      rw [playW, hg, this]; rfl
    repeat' (first | ((with_reducible (first | refine gd_t (fun h => ?_) (fun h => ?_) | refine gd_f (fun h => ?_) (fun h => ?_))) <;> (have hb := h; (try simp only [decide_eq_true_eq, decide_eq_false_iff_not, Int.not_lt, Int.not_le, ge_iff_le, gt_iff_lt, Bool.not_eq_true', Bool.not_eq_false', beq_iff_eq, bne_iff_ne, beq_eq_false_iff_ne, bne_eq_false_iff_eq, Int.ofNat_lt, Int.ofNat_le] at h); simp (disch := omega) only [go_sem, hE, hH, ↓reduceIte, e, e2, hb]; (try clear hb))) | ((with_reducible refine And.intro ?_ ?_); · omega) | (refine ok_lend [true, false] ?_; simp (disch := omega) only [go_sem, hE, hH, ↓reduceIte, e, e2]; refine cmA (l10Acts_ok most hm hm2 code hb _ _ (by omega)) ?_; refine aftM_intro ?_; rintro _ _ ⟨q, a', s', rfl, rfl, h1, h2⟩; simp (disch := omega) only [go_sem, hE, hH, ↓reduceIte, e, e2]) | (refine ok_view ?_; simp (disch := omega) only [go_sem, hE, hH, ↓reduceIte, e, e2]) | (refine cvA (sPassTime_ok ⟨0, x, []⟩ y (watchM_of hg0)) ?_; simp (disch := omega) only [go_sem, hE, hH, ↓reduceIte, e, e2]) | (refine cvA (sPlayWatch_ok ⟨0 + y, x, []⟩ q (watchM_of hg) (by omega)) ?_; simp (disch := omega) only [go_sem, hE, hH, ↓reduceIte, e, e2]) | (refine jn _ ?_ ?_) | (with_reducible refine both ?_ ?_) | (with_reducible refine And.intro ?_ ?_) | (refine fin_eq ?_; (try (simp (disch := omega) only [go_sem, hE, hH, ↓reduceIte, e, e2])); first | done | rfl) | (simp (disch := omega) only [go_sem, hE, hH, ↓reduceIte, e, e2]) | (exact (noMLL_set (by simp only [go_sem, hE, hH, ↓reduceIte, e, e2]) (by simp only [go_sem, hE, hH, ↓reduceIte, e, e2])).2 trivial) | (exact (pk_set (by simp only [go_sem, hE, hH, ↓reduceIte, e, e2]) (by simp only [go_sem, hE, hH, ↓reduceIte, e, e2])).2 trivial) | (simp only [go_sem, hE, hH, ↓reduceIte, e, e2]) | fail)
    have hk : watchOk (playF ⟨0 + y, x, []⟩ q) = true := playF_ok hg
    exact nilR_of ⟨_, _, _, rfl, rfl, by omega, hk⟩
def oddI (code : List Int) (a : Nat) (w : Watch) (S : St) : Prop := ∃ (g : Lease) (b : Nat) (t : Int), S = ⟨[(0, .ptr 0 0 0), (2, .ptr 2 0 0), (3, .ptr 3 0 0)], [(0, ⟨3, [[.sl false 1 (bys code), i64 b, u64 t]]⟩), (2, ⟨3, [[i64 0, nils, nils]]⟩), (3, ⟨3, [[i64 w.True, .ref 7000 0 w.Clocks.length, .ref 38 0 (w.Given.length + 1)]]⟩), (7000, ⟨1, w.Clocks.map (Clock.row true)⟩), (38, ⟨3, w.Given.map (Lease.row true) ++ [Lease.row true g]⟩)]⟩ ∧ b ≤ a + 400
theorem l10Odd_ok (code : List Int) (hb : isB code) (a : Nat) (s : Int) (ha : a ≤ 2 ^ 47) : ACall Try.prog n_spec_l10Odd [cur code a s] (fun r l => ∃ (w : Watch) (a' : Nat) (s' : Int), r = .agg (Watch.row true w) ∧ l = [cur code a' s'] ∧ a' ≤ a + 500 ∧ w.Clocks.length ≤ 5 ∧ w.Given.length ≤ 41) := by
  have hmx := mx_eq
  refine fn_in h_spec_l10Odd r_spec_l10Odd ⟨by simp only [go_sem, ↓reduceIte], fun E hE hH => ?_⟩; simp only [go_sem, ↓reduceIte] at hE hH; simp only [go_sem, hE, hH, ↓reduceIte, c_spec_l10Odd]
  repeat' (first | ((with_reducible (first | refine gd_t (fun h => ?_) (fun h => ?_) | refine gd_f (fun h => ?_) (fun h => ?_))) <;> (have hb := h; (try simp only [decide_eq_true_eq, decide_eq_false_iff_not, Int.not_lt, Int.not_le, ge_iff_le, gt_iff_lt, Bool.not_eq_true', Bool.not_eq_false', beq_iff_eq, bne_iff_ne, beq_eq_false_iff_ne, bne_eq_false_iff_eq, Int.ofNat_lt, Int.ofNat_le] at h); simp (disch := omega) only [go_sem, hE, hH, ↓reduceIte, hb]; (try clear hb))) | ((with_reducible refine And.intro ?_ ?_); · omega) | (refine ok_lend [true, false] ?_; simp (disch := omega) only [go_sem, hE, hH, ↓reduceIte]; refine cmA (l10Make_ok 16 (by omega) (by omega) code hb _ _ (by omega)) ?_; refine aftM_intro ?_; rintro _ _ ⟨w, a', s', rfl, rfl, h1, hw⟩; simp (disch := omega) only [go_sem, hE, hH, ↓reduceIte]) | (refine ok_lend [true, false] ?_; simp (disch := omega) only [go_sem, hE, hH, ↓reduceIte]; refine cmA (pick_ok _ code hb _ _ (by omega) (by omega)) ?_; refine aftM_intro ?_; rintro _ _ ⟨n, a', s', rfl, rfl, h1, h2, h3⟩; simp (disch := omega) only [go_sem, hE, hH, ↓reduceIte]) | (refine jn _ ?_ ?_) | (with_reducible refine both ?_ ?_) | (with_reducible refine And.intro ?_ ?_) | (refine fin_eq ?_; (try (simp (disch := omega) only [go_sem, hE, hH, ↓reduceIte])); first | done | rfl) | (simp (disch := omega) only [go_sem, hE, hH, ↓reduceIte]) | (exact (noMLL_set (by simp only [go_sem, hE, hH, ↓reduceIte]) (by simp only [go_sem, hE, hH, ↓reduceIte])).2 trivial) | (exact (pk_set (by simp only [go_sem, hE, hH, ↓reduceIte]) (by simp only [go_sem, hE, hH, ↓reduceIte])).2 trivial) | (simp only [go_sem, hE, hH, ↓reduceIte]) | fail)
  all_goals have hl := watchOk_len hw
  · repeat' (first | ((with_reducible (first | refine gd_t (fun h => ?_) (fun h => ?_) | refine gd_f (fun h => ?_) (fun h => ?_))) <;> (have hb := h; (try simp only [decide_eq_true_eq, decide_eq_false_iff_not, Int.not_lt, Int.not_le, ge_iff_le, gt_iff_lt, Bool.not_eq_true', Bool.not_eq_false', beq_iff_eq, bne_iff_ne, beq_eq_false_iff_ne, bne_eq_false_iff_eq, Int.ofNat_lt, Int.ofNat_le] at h); simp (disch := omega) only [go_sem, hE, hH, ↓reduceIte, hb]; (try clear hb))) | ((with_reducible refine And.intro ?_ ?_); · omega) | (refine ok_lend [true, true] ?_; simp (disch := omega) only [go_sem, hE, hH, ↓reduceIte]; refine cmA (among_ok [-1, 100000, 100001] (by decide) (by decide) code hb _ _ (by omega)) ?_; refine aftM_intro ?_; rintro _ _ ⟨y, a', s', rfl, rfl, h1, h2⟩; simp (disch := omega) only [go_sem, hE, hH, ↓reduceIte]) | (refine jn _ ?_ ?_) | (with_reducible refine both ?_ ?_) | (with_reducible refine And.intro ?_ ?_) | (refine fin_eq ?_; (try (simp (disch := omega) only [go_sem, hE, hH, ↓reduceIte])); first | done | rfl) | (simp (disch := omega) only [go_sem, hE, hH, ↓reduceIte]) | (exact (noMLL_set (by simp only [go_sem, hE, hH, ↓reduceIte]) (by simp only [go_sem, hE, hH, ↓reduceIte])).2 trivial) | (exact (pk_set (by simp only [go_sem, hE, hH, ↓reduceIte]) (by simp only [go_sem, hE, hH, ↓reduceIte])).2 trivial) | (simp only [go_sem, hE, hH, ↓reduceIte]) | fail)
    exact nilR_of ⟨⟨y, w.Clocks, w.Given⟩, _, _, rfl, rfl, by omega, by simp only; omega, by simp only; omega⟩
  · repeat' (first | ((with_reducible (first | refine gd_t (fun h => ?_) (fun h => ?_) | refine gd_f (fun h => ?_) (fun h => ?_))) <;> (have hb := h; (try simp only [decide_eq_true_eq, decide_eq_false_iff_not, Int.not_lt, Int.not_le, ge_iff_le, gt_iff_lt, Bool.not_eq_true', Bool.not_eq_false', beq_iff_eq, bne_iff_ne, beq_eq_false_iff_ne, bne_eq_false_iff_eq, Int.ofNat_lt, Int.ofNat_le] at h); simp (disch := omega) only [go_sem, hE, hH, ↓reduceIte, hb]; (try clear hb))) | ((with_reducible refine And.intro ?_ ?_); · omega) | (refine ok_lend [true, true] ?_; simp (disch := omega) only [go_sem, hE, hH, ↓reduceIte]; refine cmA (among_ok [-6, -5, 5, 6] (by decide) (by decide) code hb _ _ (by omega)) ?_; refine aftM_intro ?_; rintro _ _ ⟨y, a', s', rfl, rfl, h1, h2⟩; simp (disch := omega) only [go_sem, hE, hH, ↓reduceIte]) | (with_reducible apply jn) | (with_reducible apply both) | (with_reducible refine And.intro ?_ ?_) | ((with_reducible apply fin_eq); (try (simp (disch := omega) only [go_sem, hE, hH, ↓reduceIte])); first | done | rfl) | (simp (disch := omega) only [go_sem, hE, hH, ↓reduceIte]) | (exact (noMLL_set (by simp only [go_sem, hE, hH, ↓reduceIte]) (by simp only [go_sem, hE, hH, ↓reduceIte])).2 trivial) | (exact (pk_set (by simp only [go_sem, hE, hH, ↓reduceIte]) (by simp only [go_sem, hE, hH, ↓reduceIte])).2 trivial) | (simp only [go_sem, hE, hH, ↓reduceIte]) | fail)
    refine nilR_of ⟨⟨w.True, w.Clocks.set 0 ⟨y⟩, w.Given⟩, _, _, ?_, rfl, by omega, by simp; omega, by simp only; omega⟩
    simp [Clock.row]
  · refine jnI (oddI code a w) ?_ ?_
    · repeat' (first | ((with_reducible (first | refine gd_t (fun h => ?_) (fun h => ?_) | refine gd_f (fun h => ?_) (fun h => ?_))) <;> (have hb := h; (try simp only [decide_eq_true_eq, decide_eq_false_iff_not, Int.not_lt, Int.not_le, ge_iff_le, gt_iff_lt, Bool.not_eq_true', Bool.not_eq_false', beq_iff_eq, bne_iff_ne, beq_eq_false_iff_ne, bne_eq_false_iff_eq, Int.ofNat_lt, Int.ofNat_le] at h); simp (disch := omega) only [go_sem, hE, hH, ↓reduceIte, hb]; (try clear hb))) | ((with_reducible refine And.intro ?_ ?_); · omega) | (refine ok_lend [true, true] ?_; simp (disch := omega) only [go_sem, hE, hH, ↓reduceIte]; refine cmA (among_ok [-21, -20, 0] (by decide) (by decide) code hb _ _ (by omega)) ?_; refine aftM_intro ?_; rintro _ _ ⟨y, a', s', rfl, rfl, h1, h2⟩; simp (disch := omega) only [go_sem, hE, hH, ↓reduceIte]) | (refine ok_lend [true, true] ?_; simp (disch := omega) only [go_sem, hE, hH, ↓reduceIte]; refine cmA (among_ok [40, 100200, 100201] (by decide) (by decide) code hb _ _ (by omega)) ?_; refine aftM_intro ?_; rintro _ _ ⟨y, a', s', rfl, rfl, h1, h2⟩; simp (disch := omega) only [go_sem, hE, hH, ↓reduceIte]) | (refine ok_lend [true, false] ?_; simp (disch := omega) only [go_sem, hE, hH, ↓reduceIte]; refine cmA (pick_ok _ code hb _ _ (by omega) (by omega)) ?_; refine aftM_intro ?_; rintro _ _ ⟨n, a', s', rfl, rfl, h1, h2, h3⟩; simp (disch := omega) only [go_sem, hE, hH, ↓reduceIte]) | (with_reducible apply jn) | (with_reducible apply both) | (with_reducible refine And.intro ?_ ?_) | ((with_reducible apply fin_eq); (try (simp (disch := omega) only [go_sem, hE, hH, ↓reduceIte])); first | done | rfl) | (simp (disch := omega) only [go_sem, hE, hH, ↓reduceIte]) | (exact (noMLL_set (by simp only [go_sem, hE, hH, ↓reduceIte]) (by simp only [go_sem, hE, hH, ↓reduceIte])).2 trivial) | (exact (pk_set (by simp only [go_sem, hE, hH, ↓reduceIte]) (by simp only [go_sem, hE, hH, ↓reduceIte])).2 trivial) | (simp only [go_sem, hE, hH, ↓reduceIte]) | fail)
      all_goals refine fin_in (by try simp (disch := omega) only [go_sem, hE, hH, ↓reduceIte]; exact rfl) ?_
      all_goals exact ⟨⟨_, _, _⟩, _, _, rfl, by omega⟩
    · rintro _ ⟨g, b, t, rfl, h4⟩
      repeat' (first | ((with_reducible (first | refine gd_t (fun h => ?_) (fun h => ?_) | refine gd_f (fun h => ?_) (fun h => ?_))) <;> (have hb := h; (try simp only [decide_eq_true_eq, decide_eq_false_iff_not, Int.not_lt, Int.not_le, ge_iff_le, gt_iff_lt, Bool.not_eq_true', Bool.not_eq_false', beq_iff_eq, bne_iff_ne, beq_eq_false_iff_ne, bne_eq_false_iff_eq, Int.ofNat_lt, Int.ofNat_le] at h); simp (disch := omega) only [go_sem, hE, hH, ↓reduceIte, hb]; (try clear hb))) | ((with_reducible refine And.intro ?_ ?_); · omega) | (with_reducible apply jn) | (with_reducible apply both) | (with_reducible refine And.intro ?_ ?_) | ((with_reducible apply fin_eq); (try (simp (disch := omega) only [go_sem, hE, hH, ↓reduceIte])); first | done | rfl) | (simp (disch := omega) only [go_sem, hE, hH, ↓reduceIte]) | (exact (noMLL_set (by simp only [go_sem, hE, hH, ↓reduceIte]) (by simp only [go_sem, hE, hH, ↓reduceIte])).2 trivial) | (exact (pk_set (by simp only [go_sem, hE, hH, ↓reduceIte]) (by simp only [go_sem, hE, hH, ↓reduceIte])).2 trivial) | (simp only [go_sem, hE, hH, ↓reduceIte]) | fail)
      refine nilR_of ⟨⟨w.True, w.Clocks, w.Given ++ [g]⟩, _, _, ?_, rfl, by omega, by simp only; omega, by simp; omega⟩
      simp [Lease.row]
  · refine loopNe 42 (fun j (x : Nat × Int) => ⟨[(0, .ptr 0 0 0), (2, .ptr 3000000 0 0), (3, .ptr 4000000 0 0), (4, i64 j)], [(0, ⟨3, [[.sl false 1 (bys code), i64 x.1, u64 x.2]]⟩), (3000000, ⟨3, [[i64 0, nils, nils]]⟩), (4000000, ⟨3, [[i64 w.True, .ref 4000002 0 w.Clocks.length, .ref 4000003 0 j]]⟩), (4000002, ⟨1, w.Clocks.map (Clock.row true)⟩), (4000003, ⟨3, (List.replicate j (⟨0, 0, -1⟩ : Lease)).map (Lease.row true)⟩)]⟩) (fun j x => x.1 ≤ a + 302 + 2 * j ∧ j ≤ 41) (a', s') (by simp [bys, Clock.row]) ⟨by simp only; omega, by omega⟩ ?_
    rintro j ⟨b, t⟩ hj ⟨hI1, hI2⟩
    simp only at hI1
    try simp only [go_sem, hE, hH, ↓reduceIte, c_spec_l10Odd_l1]
    repeat' (first | ((with_reducible (first | refine gd_t (fun h => ?_) (fun h => ?_) | refine gd_f (fun h => ?_) (fun h => ?_))) <;> (have hb := h; (try simp only [decide_eq_true_eq, decide_eq_false_iff_not, Int.not_lt, Int.not_le, ge_iff_le, gt_iff_lt, Bool.not_eq_true', Bool.not_eq_false', beq_iff_eq, bne_iff_ne, beq_eq_false_iff_ne, bne_eq_false_iff_eq, Int.ofNat_lt, Int.ofNat_le] at h); simp (disch := omega) only [go_sem, hE, hH, ↓reduceIte, hb]; (try clear hb))) | ((with_reducible refine And.intro ?_ ?_); · omega) | (refine ok_lend [true, false] ?_; simp (disch := omega) only [go_sem, hE, hH, ↓reduceIte]; refine cmA (pick_ok _ code hb _ _ (by omega) (by omega)) ?_; refine aftM_intro ?_; rintro _ _ ⟨n, a', s', rfl, rfl, h1, h2, h3⟩; simp (disch := omega) only [go_sem, hE, hH, ↓reduceIte]) | (refine jn _ ?_ ?_) | (with_reducible refine both ?_ ?_) | (with_reducible refine And.intro ?_ ?_) | (refine fin_eq ?_; (try (simp (disch := omega) only [go_sem, hE, hH, ↓reduceIte])); first | done | rfl) | (simp (disch := omega) only [go_sem, hE, hH, ↓reduceIte]) | (exact (noMLL_set (by simp only [go_sem, hE, hH, ↓reduceIte]) (by simp only [go_sem, hE, hH, ↓reduceIte])).2 trivial) | (exact (pk_set (by simp only [go_sem, hE, hH, ↓reduceIte]) (by simp only [go_sem, hE, hH, ↓reduceIte])).2 trivial) | (simp only [go_sem, hE, hH, ↓reduceIte]) | fail)
    · refine ⟨(a', s'), ?_, by simp only; omega, by omega⟩
      simp [bys, Clock.row, Lease.row, List.map_replicate]
      rw [← List.replicate_succ, List.replicate_succ']
    · refine nilR_of ⟨⟨w.True, w.Clocks, List.replicate j ⟨0, 0, -1⟩⟩, _, _, rfl, rfl, by omega, by simp only; omega, by simp; omega⟩
  · exact nilR_of ⟨w, _, _, rfl, rfl, by omega, by omega, by omega⟩
def drwW (w : Watch) : Prop := w.Clocks.length ≤ 5 ∧ w.Given.length ≤ 41
theorem drwW_M {w : Watch} (h : drwW w) : watchM w := by
  have hmx := mx_eq
  unfold drwW at h
  unfold watchM
  omega
theorem DrawGiveBack_ok (code : List Int) (hb : isB code) : ACall Try.prog n_spec_DrawGiveBack [.sl false 1 (bys code)] (fun r _ => ∃ (w : Watch) (i : Int), r = .tup [.agg (Watch.row true w), i64 i] ∧ drwW w ∧ -1 ≤ i ∧ i ≤ 4) := by
  have hmx := mx_eq
  refine fn_in h_spec_DrawGiveBack r_spec_DrawGiveBack ⟨by simp only [go_sem, ↓reduceIte], fun E hE hH => ?_⟩; simp only [go_sem, ↓reduceIte] at hE hH; simp only [go_sem, hE, hH, ↓reduceIte, c_spec_DrawGiveBack]
  repeat' (first | ((with_reducible (first | refine gd_t (fun h => ?_) (fun h => ?_) | refine gd_f (fun h => ?_) (fun h => ?_))) <;> (have hb := h; (try simp only [decide_eq_true_eq, decide_eq_false_iff_not, Int.not_lt, Int.not_le, ge_iff_le, gt_iff_lt, Bool.not_eq_true', Bool.not_eq_false', beq_iff_eq, bne_iff_ne, beq_eq_false_iff_ne, bne_eq_false_iff_eq, Int.ofNat_lt, Int.ofNat_le] at h); simp (disch := omega) only [go_sem, hE, hH, ↓reduceIte, hb]; (try clear hb))) | ((with_reducible refine And.intro ?_ ?_); · omega) | (refine ok_lend [true] ?_; simp (disch := omega) only [go_sem, hE, hH, ↓reduceIte]; refine cmA (l10Odd_ok code hb 0 0 (by omega)) ?_; refine aftM_intro ?_; rintro _ _ ⟨w, a', s', rfl, rfl, h1, h2⟩; simp (disch := omega) only [go_sem, hE, hH, ↓reduceIte]) | (refine ok_lend [true, false] ?_; simp (disch := omega) only [go_sem, hE, hH, ↓reduceIte]; refine cmA (pick_ok _ code hb _ _ (by omega) (by omega)) ?_; refine aftM_intro ?_; rintro _ _ ⟨n, a', s', rfl, rfl, h1, h2, h3⟩; simp (disch := omega) only [go_sem, hE, hH, ↓reduceIte]) | (refine jn _ ?_ ?_) | (with_reducible refine both ?_ ?_) | (with_reducible refine And.intro ?_ ?_) | (refine fin_eq ?_; (try (simp (disch := omega) only [go_sem, hE, hH, ↓reduceIte])); first | done | rfl) | (simp (disch := omega) only [go_sem, hE, hH, ↓reduceIte]) | (exact (noMLL_set (by simp only [go_sem, hE, hH, ↓reduceIte]) (by simp only [go_sem, hE, hH, ↓reduceIte])).2 trivial) | (exact (pk_set (by simp only [go_sem, hE, hH, ↓reduceIte]) (by simp only [go_sem, hE, hH, ↓reduceIte])).2 trivial) | (simp only [go_sem, hE, hH, ↓reduceIte]) | fail)
  rename_i p2
  exact nilR_of ⟨_, _, rfl, p2, by split at h3 <;> omega, by split at h3 <;> omega⟩
theorem DrawWhenFree_ok (code : List Int) (hb : isB code) : ACall Try.prog n_spec_DrawWhenFree [.sl false 1 (bys code)] (fun r _ => ∃ (w : Watch) (i : Int), r = .tup [.agg (Watch.row true w), i64 i] ∧ drwW w ∧ -1 ≤ i ∧ i ≤ 4) := by
  have hmx := mx_eq
  refine fn_in h_spec_DrawWhenFree r_spec_DrawWhenFree ⟨by simp only [go_sem, ↓reduceIte], fun E hE hH => ?_⟩; simp only [go_sem, ↓reduceIte] at hE hH; simp only [go_sem, hE, hH, ↓reduceIte, c_spec_DrawWhenFree]
  repeat' (first | ((with_reducible (first | refine gd_t (fun h => ?_) (fun h => ?_) | refine gd_f (fun h => ?_) (fun h => ?_))) <;> (have hb := h; (try simp only [decide_eq_true_eq, decide_eq_false_iff_not, Int.not_lt, Int.not_le, ge_iff_le, gt_iff_lt, Bool.not_eq_true', Bool.not_eq_false', beq_iff_eq, bne_iff_ne, beq_eq_false_iff_ne, bne_eq_false_iff_eq, Int.ofNat_lt, Int.ofNat_le] at h); simp (disch := omega) only [go_sem, hE, hH, ↓reduceIte, hb]; (try clear hb))) | ((with_reducible refine And.intro ?_ ?_); · omega) | (refine ok_view ?_; simp (disch := omega) only [go_sem, hE, hH, ↓reduceIte]; refine cvA (DrawGiveBack_ok code hb) ?_; refine aftV_intro ?_; rintro _ _ ⟨w, i, rfl, h1⟩; simp (disch := omega) only [go_sem, hE, hH, ↓reduceIte]) | (refine jn _ ?_ ?_) | (with_reducible refine both ?_ ?_) | (with_reducible refine And.intro ?_ ?_) | (refine fin_eq ?_; (try (simp (disch := omega) only [go_sem, hE, hH, ↓reduceIte])); first | done | rfl) | (simp (disch := omega) only [go_sem, hE, hH, ↓reduceIte]) | (exact (noMLL_set (by simp only [go_sem, hE, hH, ↓reduceIte]) (by simp only [go_sem, hE, hH, ↓reduceIte])).2 trivial) | (exact (pk_set (by simp only [go_sem, hE, hH, ↓reduceIte]) (by simp only [go_sem, hE, hH, ↓reduceIte])).2 trivial) | (simp only [go_sem, hE, hH, ↓reduceIte]) | fail)
  exact nilR_of ⟨_, _, rfl, h1⟩
theorem DrawAskLease_ok (code : List Int) (hb : isB code) : ACall Try.prog n_spec_DrawAskLease [.sl false 1 (bys code)] (fun r _ => ∃ (w : Watch) (i n : Int), r = .tup [.agg (Watch.row true w), i64 i, i64 n] ∧ drwW w ∧ -1 ≤ i ∧ i ≤ 4 ∧ 0 ≤ n ∧ n ≤ 101) := by
  have hmx := mx_eq
  refine fn_in h_spec_DrawAskLease r_spec_DrawAskLease ⟨by simp only [go_sem, ↓reduceIte], fun E hE hH => ?_⟩; simp only [go_sem, ↓reduceIte] at hE hH; simp only [go_sem, hE, hH, ↓reduceIte, c_spec_DrawAskLease]
  repeat' (first | ((with_reducible (first | refine gd_t (fun h => ?_) (fun h => ?_) | refine gd_f (fun h => ?_) (fun h => ?_))) <;> (have hb := h; (try simp only [decide_eq_true_eq, decide_eq_false_iff_not, Int.not_lt, Int.not_le, ge_iff_le, gt_iff_lt, Bool.not_eq_true', Bool.not_eq_false', beq_iff_eq, bne_iff_ne, beq_eq_false_iff_ne, bne_eq_false_iff_eq, Int.ofNat_lt, Int.ofNat_le] at h); simp (disch := omega) only [go_sem, hE, hH, ↓reduceIte, hb]; (try clear hb))) | ((with_reducible refine And.intro ?_ ?_); · omega) | (refine ok_lend [true] ?_; simp (disch := omega) only [go_sem, hE, hH, ↓reduceIte]; refine cmA (l10Odd_ok code hb 0 0 (by omega)) ?_; refine aftM_intro ?_; rintro _ _ ⟨w, a', s', rfl, rfl, h1, h2⟩; simp (disch := omega) only [go_sem, hE, hH, ↓reduceIte]) | (refine ok_lend [true, false] ?_; simp (disch := omega) only [go_sem, hE, hH, ↓reduceIte]; refine cmA (pick_ok _ code hb _ _ (by omega) (by omega)) ?_; refine aftM_intro ?_; rintro _ _ ⟨n, a', s', rfl, rfl, h1, h2, h3⟩; simp (disch := omega) only [go_sem, hE, hH, ↓reduceIte]) | (refine ok_lend [true, true] ?_; simp (disch := omega) only [go_sem, hE, hH, ↓reduceIte]; refine cmA (among_ok [1, 5, 100, 101, 0] (by decide) (by decide) code hb _ _ (by omega)) ?_; refine aftM_intro ?_; rintro _ _ ⟨y, a', s', rfl, rfl, h1, h2⟩; simp (disch := omega) only [go_sem, hE, hH, ↓reduceIte]) | (refine jn _ ?_ ?_) | (with_reducible refine both ?_ ?_) | (with_reducible refine And.intro ?_ ?_) | (refine fin_eq ?_; (try (simp (disch := omega) only [go_sem, hE, hH, ↓reduceIte])); first | done | rfl) | (simp (disch := omega) only [go_sem, hE, hH, ↓reduceIte]) | (exact (noMLL_set (by simp only [go_sem, hE, hH, ↓reduceIte]) (by simp only [go_sem, hE, hH, ↓reduceIte])).2 trivial) | (exact (pk_set (by simp only [go_sem, hE, hH, ↓reduceIte]) (by simp only [go_sem, hE, hH, ↓reduceIte])).2 trivial) | (simp only [go_sem, hE, hH, ↓reduceIte]) | fail)
  exact nilR_of ⟨w, _, _, rfl, by assumption, by omega, by split at h3 <;> omega, by simp at h2; omega, by simp at h2; omega⟩
theorem vWatch_ok (w : Watch) (hw : watchM w) : ACall Try.prog n_laws_vWatch [.agg (Watch.row false w), .agg (Watch.row false w)] (fun r _ => r = bl true) := by
  have hmx := mx_eq
  obtain ⟨hw1, hw2⟩ := hw
  refine fn_in h_laws_vWatch r_laws_vWatch ⟨by simp only [go_sem, ↓reduceIte], fun E hE hH => ?_⟩; simp only [go_sem, ↓reduceIte] at hE hH; simp only [go_sem, hE, hH, ↓reduceIte, c_laws_vWatch]
  repeat' (first | ((with_reducible (first | refine gd_t (fun h => ?_) (fun h => ?_) | refine gd_f (fun h => ?_) (fun h => ?_))) <;> (have hb := h; (try simp only [decide_eq_true_eq, decide_eq_false_iff_not, Int.not_lt, Int.not_le, ge_iff_le, gt_iff_lt, Bool.not_eq_true', Bool.not_eq_false', beq_iff_eq, bne_iff_ne, beq_eq_false_iff_ne, bne_eq_false_iff_eq, Int.ofNat_lt, Int.ofNat_le] at h); simp (disch := omega) only [go_sem, hE, hH, ↓reduceIte, hb]; (try clear hb))) | ((with_reducible refine And.intro ?_ ?_); · omega) | (refine jn _ ?_ ?_) | (with_reducible refine both ?_ ?_) | (with_reducible refine And.intro ?_ ?_) | (refine fin_eq ?_; (try (simp (disch := omega) only [go_sem, hE, hH, ↓reduceIte])); first | done | rfl) | (simp (disch := omega) only [go_sem, hE, hH, ↓reduceIte]) | (exact (noMLL_set (by simp only [go_sem, hE, hH, ↓reduceIte]) (by simp only [go_sem, hE, hH, ↓reduceIte])).2 trivial) | (exact (pk_set (by simp only [go_sem, hE, hH, ↓reduceIte]) (by simp only [go_sem, hE, hH, ↓reduceIte])).2 trivial) | (simp only [go_sem, hE, hH, ↓reduceIte]) | fail)
  refine loopNe w.Clocks.length (fun j (_ : Unit) => ⟨[(2, .ptr 3000000 0 0), (3, .ptr 4000000 0 0), (5, i64 j)], [(3000000, ⟨3, [Watch.row false w]⟩), (4000000, ⟨3, [Watch.row false w]⟩)]⟩) (fun j _ => True) () rfl trivial ?_
  intro j _ hj _
  try simp only [go_sem, hE, hH, ↓reduceIte, c_laws_vWatch_l1]
  first | refine gd_t (fun q1 => ?_) (fun q1 => ?_) | refine gd_f (fun q1 => ?_) (fun q1 => ?_)
  · have hb1 := q1
    simp only [decide_eq_true_eq, decide_eq_false_iff_not, Int.not_lt, Int.not_le, ge_iff_le, gt_iff_lt, Bool.not_eq_true', Bool.not_eq_false', beq_iff_eq, bne_iff_ne, beq_eq_false_iff_ne, bne_eq_false_iff_eq, Int.ofNat_lt, Int.ofNat_le] at q1
    try simp (disch := omega) only [go_sem, hE, hH, ↓reduceIte, hb1]
    repeat' (first | ((with_reducible (first | refine gd_t (fun h => ?_) (fun h => ?_) | refine gd_f (fun h => ?_) (fun h => ?_))) <;> (have hb := h; (try simp only [decide_eq_true_eq, decide_eq_false_iff_not, Int.not_lt, Int.not_le, ge_iff_le, gt_iff_lt, Bool.not_eq_true', Bool.not_eq_false', beq_iff_eq, bne_iff_ne, beq_eq_false_iff_ne, bne_eq_false_iff_eq, Int.ofNat_lt, Int.ofNat_le] at h); simp (disch := omega) only [go_sem, hE, hH, ↓reduceIte, hb]; (try clear hb))) | ((with_reducible refine And.intro ?_ ?_); · omega) | (refine jn _ ?_ ?_) | (with_reducible refine both ?_ ?_) | (with_reducible refine And.intro ?_ ?_) | (refine fin_eq ?_; (try (simp (disch := omega) only [go_sem, hE, hH, ↓reduceIte])); first | done | rfl) | (simp (disch := omega) only [go_sem, hE, hH, ↓reduceIte]) | (exact (noMLL_set (by simp only [go_sem, hE, hH, ↓reduceIte]) (by simp only [go_sem, hE, hH, ↓reduceIte])).2 trivial) | (exact (pk_set (by simp only [go_sem, hE, hH, ↓reduceIte]) (by simp only [go_sem, hE, hH, ↓reduceIte])).2 trivial) | (simp only [go_sem, hE, hH, ↓reduceIte]) | fail)
    all_goals exact ⟨(), rfl⟩
  · try simp (disch := omega) only [go_sem, hE, hH, ↓reduceIte, q1]
    refine loopNe w.Given.length (fun j (_ : Unit) => ⟨[(2, .ptr 3000000 0 0), (3, .ptr 4000000 0 0), (6, i64 j)], [(3000000, ⟨3, [Watch.row false w]⟩), (4000000, ⟨3, [Watch.row false w]⟩)]⟩) (fun j _ => True) () rfl trivial ?_
    intro j _ hj _
    try simp only [go_sem, hE, hH, ↓reduceIte, c_laws_vWatch_l2]
    first | refine gd_t (fun q2 => ?_) (fun q2 => ?_) | refine gd_f (fun q2 => ?_) (fun q2 => ?_)
    · have hb2 := q2
      simp only [decide_eq_true_eq, decide_eq_false_iff_not, Int.not_lt, Int.not_le, ge_iff_le, gt_iff_lt, Bool.not_eq_true', Bool.not_eq_false', beq_iff_eq, bne_iff_ne, beq_eq_false_iff_ne, bne_eq_false_iff_eq, Int.ofNat_lt, Int.ofNat_le] at q2
      try simp (disch := omega) only [go_sem, hE, hH, ↓reduceIte, hb2]
      repeat' (first | ((with_reducible (first | refine gd_t (fun h => ?_) (fun h => ?_) | refine gd_f (fun h => ?_) (fun h => ?_))) <;> (have hb := h; (try simp only [decide_eq_true_eq, decide_eq_false_iff_not, Int.not_lt, Int.not_le, ge_iff_le, gt_iff_lt, Bool.not_eq_true', Bool.not_eq_false', beq_iff_eq, bne_iff_ne, beq_eq_false_iff_ne, bne_eq_false_iff_eq, Int.ofNat_lt, Int.ofNat_le] at h); simp (disch := omega) only [go_sem, hE, hH, ↓reduceIte, hb]; (try clear hb))) | ((with_reducible refine And.intro ?_ ?_); · omega) | (refine jn _ ?_ ?_) | (with_reducible refine both ?_ ?_) | (with_reducible refine And.intro ?_ ?_) | (refine fin_eq ?_; (try (simp (disch := omega) only [go_sem, hE, hH, ↓reduceIte])); first | done | rfl) | (simp (disch := omega) only [go_sem, hE, hH, ↓reduceIte]) | (exact (noMLL_set (by simp only [go_sem, hE, hH, ↓reduceIte]) (by simp only [go_sem, hE, hH, ↓reduceIte])).2 trivial) | (exact (pk_set (by simp only [go_sem, hE, hH, ↓reduceIte]) (by simp only [go_sem, hE, hH, ↓reduceIte])).2 trivial) | (simp only [go_sem, hE, hH, ↓reduceIte]) | fail)
      all_goals exact ⟨(), rfl⟩
    · try simp (disch := omega) only [go_sem, hE, hH, ↓reduceIte, q2]
      repeat' (first | ((with_reducible (first | refine gd_t (fun h => ?_) (fun h => ?_) | refine gd_f (fun h => ?_) (fun h => ?_))) <;> (have hb := h; (try simp only [decide_eq_true_eq, decide_eq_false_iff_not, Int.not_lt, Int.not_le, ge_iff_le, gt_iff_lt, Bool.not_eq_true', Bool.not_eq_false', beq_iff_eq, bne_iff_ne, beq_eq_false_iff_ne, bne_eq_false_iff_eq, Int.ofNat_lt, Int.ofNat_le] at h); simp (disch := omega) only [go_sem, hE, hH, ↓reduceIte, hb]; (try clear hb))) | ((with_reducible refine And.intro ?_ ?_); · omega) | (refine jn _ ?_ ?_) | (with_reducible refine both ?_ ?_) | (with_reducible refine And.intro ?_ ?_) | (refine fin_eq ?_; (try (simp (disch := omega) only [go_sem, hE, hH, ↓reduceIte])); first | done | rfl) | (simp (disch := omega) only [go_sem, hE, hH, ↓reduceIte]) | (exact (noMLL_set (by simp only [go_sem, hE, hH, ↓reduceIte]) (by simp only [go_sem, hE, hH, ↓reduceIte])).2 trivial) | (exact (pk_set (by simp only [go_sem, hE, hH, ↓reduceIte]) (by simp only [go_sem, hE, hH, ↓reduceIte])).2 trivial) | (simp only [go_sem, hE, hH, ↓reduceIte]) | fail)
def vBigB (a : List Int) : Bool := decide ((a.length : Int) > 65536)
theorem vBig_ok (a : List Int) (ha : a.length ≤ maxLen) : ACall Try.prog n_laws_vBig [.sl false 1 (bys a)] (fun r _ => r = bl (vBigB a)) := by
  have hmx := mx_eq
  refine fn_in h_laws_vBig r_laws_vBig ⟨by simp only [go_sem, ↓reduceIte], fun E hE hH => ?_⟩; simp only [go_sem, ↓reduceIte] at hE hH; simp only [go_sem, hE, hH, ↓reduceIte, c_laws_vBig]
  repeat' (first | ((with_reducible (first | refine gd_t (fun h => ?_) (fun h => ?_) | refine gd_f (fun h => ?_) (fun h => ?_))) <;> (have hb := h; (try simp only [decide_eq_true_eq, decide_eq_false_iff_not, Int.not_lt, Int.not_le, ge_iff_le, gt_iff_lt, Bool.not_eq_true', Bool.not_eq_false', beq_iff_eq, bne_iff_ne, beq_eq_false_iff_ne, bne_eq_false_iff_eq, Int.ofNat_lt, Int.ofNat_le] at h); simp (disch := omega) only [go_sem, hE, hH, ↓reduceIte, hb]; (try clear hb))) | ((with_reducible refine And.intro ?_ ?_); · omega) | (with_reducible apply jn) | (with_reducible apply both) | (with_reducible refine And.intro ?_ ?_) | ((with_reducible apply fin_eq); (try (simp (disch := omega) only [go_sem, hE, hH, ↓reduceIte])); first | done | rfl) | (simp (disch := omega) only [go_sem, hE, hH, ↓reduceIte]) | (exact (noMLL_set (by simp only [go_sem, hE, hH, ↓reduceIte]) (by simp only [go_sem, hE, hH, ↓reduceIte])).2 trivial) | (exact (pk_set (by simp only [go_sem, hE, hH, ↓reduceIte]) (by simp only [go_sem, hE, hH, ↓reduceIte])).2 trivial) | (simp only [go_sem, hE, hH, ↓reduceIte]) | fail)
  all_goals (simp_all [vBigB]; try omega)
theorem isB_ofv {a : List Int} (h : vBigB a = false) (ha : ∀ y ∈ a, 0 ≤ y ∧ y ≤ 255) : isB a := by
  simp only [vBigB, decide_eq_false_iff_not] at h
  refine ⟨by omega, fun y hy => ?_⟩
  have := ha y hy; omega
theorem passT {w : Watch} {n : Int} (h : watchOk w = true) (h0 : 0 ≤ n) (h1 : w.True + n ≤ 100000) : passW w n = (⟨w.True + n, w.Clocks, w.Given⟩, true) ∧ watchOk ⟨w.True + n, w.Clocks, w.Given⟩ = true := by
  have hl := watchOk_len h
  have hk : watchOk ⟨w.True + n, w.Clocks, w.Given⟩ = true := by
    simp only [watchOk, Bool.and_eq_true, rng_iff] at h ⊢
    exact ⟨⟨⟨⟨by omega, by omega⟩, h.1.1.2⟩, h.1.2⟩, h.2⟩
  refine ⟨?_, hk⟩
  rw [passW, h, rng_iff.2 ⟨h0, by omega⟩, ifW, hk]
  rfl
theorem waitW_ge {w : Watch} {i : Int} : ∀ {n k : Nat}, n ≤ w.Given.length → k < n → (nth w.Given k).Who ≠ i → (nth w.Given k).Until + 1 - lowW w i ≤ waitW w i n
  | 0, _, _, hk, _ => by omega
  | n + 1, k, h, hk, hw => by
    rw [waitW_succ h, stepW]
    by_cases e : k = n
    · subst e
      rw [if_neg hw]; split <;> omega
    · have := waitW_ge (n := n) (k := k) (w := w) (i := i) (by omega) (by omega) hw
      split
      · exact this
      · split <;> omega
theorem waitW_at {w : Watch} {i : Int} : ∀ {n : Nat}, n ≤ w.Given.length → 0 < waitW w i n → ∃ k, k < n ∧ (nth w.Given k).Who ≠ i ∧ (nth w.Given k).Until + 1 - lowW w i = waitW w i n
  | 0, _, h => by simp [waitW] at h
  | n + 1, h, hp => by
    rw [waitW_succ h, stepW] at hp ⊢
    split at hp
    · rename_i e
      rw [if_pos e]
      obtain ⟨k, h1, h2, h3⟩ := waitW_at (n := n) (by omega) hp
      exact ⟨k, by omega, h2, h3⟩
    · rename_i e
      rw [if_neg e]
      split at hp
      · rename_i e2
        rw [if_pos e2]
        exact ⟨n, by omega, e, rfl⟩
      · rename_i e2
        rw [if_neg e2]
        obtain ⟨k, h1, h2, h3⟩ := waitW_at (n := n) (by omega) hp
        exact ⟨k, by omega, h2, h3⟩
theorem hasW_T {w : Watch} {i n : Int} (h : hasW w i = true) (hk : watchOk ⟨w.True + n, w.Clocks, w.Given⟩ = true) : hasW ⟨w.True + n, w.Clocks, w.Given⟩ i = true := by
  simp only [hasW, Bool.and_eq_true] at h ⊢
  exact ⟨hk, h.2⟩
theorem askV_ok {w : Watch} {i n : Int} (h : hasW w i = true) (hn : 1 ≤ n ∧ n ≤ 100) (hg : w.Given.length < 40) : watchOk (askV w i n) = true := by
  have h0 := hasW_at h
  have hl := lowW_rng h
  have h1 := h0.1
  simp only [watchOk, Bool.and_eq_true, decide_eq_true_eq, List.all_eq_true] at h1 ⊢
  refine ⟨⟨h1.1.1, by simp [askV]; omega⟩, ?_⟩
  intro x hx
  simp only [askV, List.mem_append, List.mem_singleton] at hx
  rcases hx with hx | hx
  · exact h1.2 x hx
  · subst hx
    simp only [leaseOk, Bool.and_eq_true, rng_iff, askV]
    omega
theorem ask_yes {w : Watch} {i : Int} (hw : (whenW w i).2 = true) (hg : w.Given.length ≠ 40) : passW w (whenW w i).1 = (⟨w.True + (whenW w i).1, w.Clocks, w.Given⟩, true) ∧ watchOk ⟨w.True + (whenW w i).1, w.Clocks, w.Given⟩ = true ∧ (askW ⟨w.True + (whenW w i).1, w.Clocks, w.Given⟩ i 1).2 = true := by
  have hh : hasW w i = true ∧ w.True + waitW w i w.Given.length ≤ 100000 ∧ (whenW w i).1 = waitW w i w.Given.length := by
    unfold whenW at hw ⊢
    split at hw
    · rename_i h
      simp only [Bool.and_eq_true, decide_eq_true_eq] at h
      rw [if_pos (by simp [h.1, h.2])]
      exact ⟨h.1, h.2, rfl⟩
    · simp at hw
  obtain ⟨h1, h2, h3⟩ := hh
  have hb := waitW_bd h1 (Nat.le_refl _)
  have h0 := hasW_at h1
  rw [h3]
  obtain ⟨p1, p2⟩ := passT h0.1 hb.1 h2
  refine ⟨p1, p2, ?_⟩
  have hh' := hasW_T h1 p2
  have hf : freeW ⟨w.True + waitW w i w.Given.length, w.Clocks, w.Given⟩ i = true := by
    unfold freeW
    rw [allN_iff]
    intro k hk
    simp only [Bool.or_eq_true, decide_eq_true_eq, Bool.not_eq_true', decide_eq_false_iff_not]
    by_cases e : (nth w.Given k).Who = i
    · exact .inl e
    · have := waitW_ge (w := w) (i := i) (Nat.le_refl _) hk e
      refine .inr ?_
      simp only [lowW] at this ⊢
      omega
  have hv := askV_ok (n := 1) hh' (by omega) (by simp only; omega)
  rw [askW, hh', hf, ifW, hv]
  rfl
theorem ask_no {w : Watch} {i : Int} (hw : (whenW w i).2 = true) (hp : 0 < (whenW w i).1) : passW w ((whenW w i).1 - 1) = (⟨w.True + ((whenW w i).1 - 1), w.Clocks, w.Given⟩, true) ∧ watchOk ⟨w.True + ((whenW w i).1 - 1), w.Clocks, w.Given⟩ = true ∧ (askW ⟨w.True + ((whenW w i).1 - 1), w.Clocks, w.Given⟩ i 1).2 = false := by
  have hh : hasW w i = true ∧ w.True + waitW w i w.Given.length ≤ 100000 ∧ (whenW w i).1 = waitW w i w.Given.length := by
    unfold whenW at hw ⊢
    split at hw
    · rename_i h
      simp only [Bool.and_eq_true, decide_eq_true_eq] at h
      rw [if_pos (by simp [h.1, h.2])]
      exact ⟨h.1, h.2, rfl⟩
    · simp at hw
  obtain ⟨h1, h2, h3⟩ := hh
  have h0 := hasW_at h1
  rw [h3] at hp ⊢
  obtain ⟨p1, p2⟩ := passT (n := waitW w i w.Given.length - 1) h0.1 (by omega) (by omega)
  refine ⟨p1, p2, ?_⟩
  obtain ⟨k, k1, k2, k3⟩ := waitW_at (Nat.le_refl _) hp
  have hf : freeW ⟨w.True + (waitW w i w.Given.length - 1), w.Clocks, w.Given⟩ i = false := by
    unfold freeW
    refine allN_no k1 ?_
    simp only [Bool.or_eq_false_iff, decide_eq_false_iff_not, Bool.not_eq_false', decide_eq_true_eq]
    refine ⟨k2, ?_⟩
    simp only [lowW] at k3 ⊢
    omega
  simp [askW, hf]
theorem FnFree_ok (vc : List Int) (wc : vc.length ≤ maxLen ∧ ∀ y ∈ vc, 0 ≤ y ∧ y ≤ 255) : ACall Try.prog n_laws_FnFree [.sl false 1 (bys vc)] (fun r _ => r = bl true) := by
  have hmx := mx_eq
  cases hB : vBigB vc
  · have hc := isB_ofv hB wc.2
    refine fn_in h_laws_FnFree r_laws_FnFree ⟨by simp only [go_sem, ↓reduceIte], fun E hE hH => ?_⟩; simp only [go_sem, ↓reduceIte] at hE hH; simp only [go_sem, hE, hH, ↓reduceIte, c_laws_FnFree]
    repeat' (first | ((with_reducible (first | refine gd_t (fun h => ?_) (fun h => ?_) | refine gd_f (fun h => ?_) (fun h => ?_))) <;> (have hb := h; (try simp only [decide_eq_true_eq, decide_eq_false_iff_not, Int.not_lt, Int.not_le, ge_iff_le, gt_iff_lt, Bool.not_eq_true', Bool.not_eq_false', beq_iff_eq, bne_iff_ne, beq_eq_false_iff_ne, bne_eq_false_iff_eq, Int.ofNat_lt, Int.ofNat_le] at h); simp (disch := omega) only [go_sem, hE, hH, ↓reduceIte, hB, hb]; (try clear hb))) | ((with_reducible refine And.intro ?_ ?_); · omega) | (refine ok_view ?_; simp (disch := omega) only [go_sem, hE, hH, ↓reduceIte, hB]; refine cvA (DrawWhenFree_ok vc hc) ?_; refine aftV_intro ?_; rintro _ _ ⟨w, i, rfl, hw, hi1, hi2⟩; simp (disch := omega) only [go_sem, hE, hH, ↓reduceIte, hB]) | (refine ok_view ?_; simp (disch := omega) only [go_sem, hE, hH, ↓reduceIte, hB]) | (refine cvA (vBig_ok vc wc.1) ?_; simp (disch := omega) only [go_sem, hE, hH, ↓reduceIte, hB]) | (refine jn _ ?_ ?_) | (with_reducible refine both ?_ ?_) | (with_reducible refine And.intro ?_ ?_) | (refine fin_eq ?_; (try (simp (disch := omega) only [go_sem, hE, hH, ↓reduceIte, hB])); first | done | rfl) | (simp (disch := omega) only [go_sem, hE, hH, ↓reduceIte, hB]) | (exact (noMLL_set (by simp only [go_sem, hE, hH, ↓reduceIte, hB]) (by simp only [go_sem, hE, hH, ↓reduceIte, hB])).2 trivial) | (exact (pk_set (by simp only [go_sem, hE, hH, ↓reduceIte, hB]) (by simp only [go_sem, hE, hH, ↓reduceIte, hB])).2 trivial) | (simp only [go_sem, hE, hH, ↓reduceIte, hB]) | fail)
    have hwm := drwW_M hw
    have hbd : 0 ≤ (whenW w i).1 ∧ (whenW w i).1 ≤ 200000 := by
      unfold whenW
      split
      · rename_i hh
        simp only [Bool.and_eq_true] at hh
        exact waitW_bd hh.1 (Nat.le_refl _)
      · exact ⟨by simp only; omega, by simp only; omega⟩
    unfold drwW at hw
    cases h1 : (whenW w i).2
    ·
      repeat' (first | ((with_reducible (first | refine gd_t (fun h => ?_) (fun h => ?_) | refine gd_f (fun h => ?_) (fun h => ?_))) <;> (have hb := h; (try simp only [decide_eq_true_eq, decide_eq_false_iff_not, Int.not_lt, Int.not_le, ge_iff_le, gt_iff_lt, Bool.not_eq_true', Bool.not_eq_false', beq_iff_eq, bne_iff_ne, beq_eq_false_iff_ne, bne_eq_false_iff_eq, Int.ofNat_lt, Int.ofNat_le] at h); simp (disch := omega) only [go_sem, hE, hH, ↓reduceIte, h1, hb]; (try clear hb))) | ((with_reducible refine And.intro ?_ ?_); · omega) | (refine ok_view ?_; simp (disch := omega) only [go_sem, hE, hH, ↓reduceIte, h1]) | (refine cvA (WhenFree_ok w i hwm) ?_; simp (disch := omega) only [go_sem, hE, hH, ↓reduceIte, h1]) | (refine cvA (sWhenFree_ok w i hwm) ?_; simp (disch := omega) only [go_sem, hE, hH, ↓reduceIte, h1]) | (refine jn _ ?_ ?_) | (with_reducible refine both ?_ ?_) | (with_reducible refine And.intro ?_ ?_) | (refine fin_eq ?_; (try (simp (disch := omega) only [go_sem, hE, hH, ↓reduceIte, h1])); first | done | rfl) | (simp (disch := omega) only [go_sem, hE, hH, ↓reduceIte, h1]) | (exact (noMLL_set (by simp only [go_sem, hE, hH, ↓reduceIte, h1]) (by simp only [go_sem, hE, hH, ↓reduceIte, h1])).2 trivial) | (exact (pk_set (by simp only [go_sem, hE, hH, ↓reduceIte, h1]) (by simp only [go_sem, hE, hH, ↓reduceIte, h1])).2 trivial) | (simp only [go_sem, hE, hH, ↓reduceIte, h1]) | fail)
      all_goals (exfalso; omega)
    · by_cases h2 : w.Given.length = 40
      ·
        repeat' (first | ((with_reducible (first | refine gd_t (fun h => ?_) (fun h => ?_) | refine gd_f (fun h => ?_) (fun h => ?_))) <;> (have hb := h; (try simp only [decide_eq_true_eq, decide_eq_false_iff_not, Int.not_lt, Int.not_le, ge_iff_le, gt_iff_lt, Bool.not_eq_true', Bool.not_eq_false', beq_iff_eq, bne_iff_ne, beq_eq_false_iff_ne, bne_eq_false_iff_eq, Int.ofNat_lt, Int.ofNat_le] at h); simp (disch := omega) only [go_sem, hE, hH, ↓reduceIte, h1, hb]; (try clear hb))) | ((with_reducible refine And.intro ?_ ?_); · omega) | (refine ok_view ?_; simp (disch := omega) only [go_sem, hE, hH, ↓reduceIte, h1]) | (refine cvA (WhenFree_ok w i hwm) ?_; simp (disch := omega) only [go_sem, hE, hH, ↓reduceIte, h1]) | (refine cvA (sWhenFree_ok w i hwm) ?_; simp (disch := omega) only [go_sem, hE, hH, ↓reduceIte, h1]) | (refine jn _ ?_ ?_) | (with_reducible refine both ?_ ?_) | (with_reducible refine And.intro ?_ ?_) | (refine fin_eq ?_; (try (simp (disch := omega) only [go_sem, hE, hH, ↓reduceIte, h1])); first | done | rfl) | (simp (disch := omega) only [go_sem, hE, hH, ↓reduceIte, h1]) | (exact (noMLL_set (by simp only [go_sem, hE, hH, ↓reduceIte, h1]) (by simp only [go_sem, hE, hH, ↓reduceIte, h1])).2 trivial) | (exact (pk_set (by simp only [go_sem, hE, hH, ↓reduceIte, h1]) (by simp only [go_sem, hE, hH, ↓reduceIte, h1])).2 trivial) | (simp only [go_sem, hE, hH, ↓reduceIte, h1]) | fail)
        all_goals (exfalso; omega)
      · obtain ⟨e1, g1, e2⟩ := ask_yes h1 h2
        by_cases h3 : 0 < (whenW w i).1
        · obtain ⟨e3, g3, e4⟩ := ask_no h1 h3
          repeat' (first | ((with_reducible (first | refine gd_t (fun h => ?_) (fun h => ?_) | refine gd_f (fun h => ?_) (fun h => ?_))) <;> (have hb := h; (try simp only [decide_eq_true_eq, decide_eq_false_iff_not, Int.not_lt, Int.not_le, ge_iff_le, gt_iff_lt, Bool.not_eq_true', Bool.not_eq_false', beq_iff_eq, bne_iff_ne, beq_eq_false_iff_ne, bne_eq_false_iff_eq, Int.ofNat_lt, Int.ofNat_le] at h); simp (disch := omega) only [go_sem, hE, hH, ↓reduceIte, h1, e1, e2, e3, e4, hb]; (try clear hb))) | ((with_reducible refine And.intro ?_ ?_); · omega) | (refine ok_view ?_; simp (disch := omega) only [go_sem, hE, hH, ↓reduceIte, h1, e1, e2, e3, e4]) | (refine cvA (WhenFree_ok w i hwm) ?_; simp (disch := omega) only [go_sem, hE, hH, ↓reduceIte, h1, e1, e2, e3, e4]) | (refine cvA (sWhenFree_ok w i hwm) ?_; simp (disch := omega) only [go_sem, hE, hH, ↓reduceIte, h1, e1, e2, e3, e4]) | (refine cvA (PassTime_ok w _ hwm) ?_; simp (disch := omega) only [go_sem, hE, hH, ↓reduceIte, h1, e1, e2, e3, e4]) | (refine cvA (AskLease_ok ⟨w.True + (whenW w i).1, w.Clocks, w.Given⟩ i 1 (watchM_of g1)) ?_; simp (disch := omega) only [go_sem, hE, hH, ↓reduceIte, h1, e1, e2, e3, e4]) | (refine cvA (AskLease_ok ⟨w.True + ((whenW w i).1 - 1), w.Clocks, w.Given⟩ i 1 (watchM_of g3)) ?_; simp (disch := omega) only [go_sem, hE, hH, ↓reduceIte, h1, e1, e2, e3, e4]) | (refine jn _ ?_ ?_) | (with_reducible refine both ?_ ?_) | (with_reducible refine And.intro ?_ ?_) | (refine fin_eq ?_; (try (simp (disch := omega) only [go_sem, hE, hH, ↓reduceIte, h1, e1, e2, e3, e4])); first | done | rfl) | (simp (disch := omega) only [go_sem, hE, hH, ↓reduceIte, h1, e1, e2, e3, e4]) | (exact (noMLL_set (by simp only [go_sem, hE, hH, ↓reduceIte, h1, e1, e2, e3, e4]) (by simp only [go_sem, hE, hH, ↓reduceIte, h1, e1, e2, e3, e4])).2 trivial) | (exact (pk_set (by simp only [go_sem, hE, hH, ↓reduceIte, h1, e1, e2, e3, e4]) (by simp only [go_sem, hE, hH, ↓reduceIte, h1, e1, e2, e3, e4])).2 trivial) | (simp only [go_sem, hE, hH, ↓reduceIte, h1, e1, e2, e3, e4]) | fail)
          all_goals (exfalso; omega)
        ·
          repeat' (first | ((with_reducible (first | refine gd_t (fun h => ?_) (fun h => ?_) | refine gd_f (fun h => ?_) (fun h => ?_))) <;> (have hb := h; (try simp only [decide_eq_true_eq, decide_eq_false_iff_not, Int.not_lt, Int.not_le, ge_iff_le, gt_iff_lt, Bool.not_eq_true', Bool.not_eq_false', beq_iff_eq, bne_iff_ne, beq_eq_false_iff_ne, bne_eq_false_iff_eq, Int.ofNat_lt, Int.ofNat_le] at h); simp (disch := omega) only [go_sem, hE, hH, ↓reduceIte, h1, e1, e2, hb]; (try clear hb))) | ((with_reducible refine And.intro ?_ ?_); · omega) | (refine ok_view ?_; simp (disch := omega) only [go_sem, hE, hH, ↓reduceIte, h1, e1, e2]) | (refine cvA (WhenFree_ok w i hwm) ?_; simp (disch := omega) only [go_sem, hE, hH, ↓reduceIte, h1, e1, e2]) | (refine cvA (sWhenFree_ok w i hwm) ?_; simp (disch := omega) only [go_sem, hE, hH, ↓reduceIte, h1, e1, e2]) | (refine cvA (PassTime_ok w _ hwm) ?_; simp (disch := omega) only [go_sem, hE, hH, ↓reduceIte, h1, e1, e2]) | (refine cvA (AskLease_ok ⟨w.True + (whenW w i).1, w.Clocks, w.Given⟩ i 1 (watchM_of g1)) ?_; simp (disch := omega) only [go_sem, hE, hH, ↓reduceIte, h1, e1, e2]) | (refine jn _ ?_ ?_) | (with_reducible refine both ?_ ?_) | (with_reducible refine And.intro ?_ ?_) | (refine fin_eq ?_; (try (simp (disch := omega) only [go_sem, hE, hH, ↓reduceIte, h1, e1, e2])); first | done | rfl) | (simp (disch := omega) only [go_sem, hE, hH, ↓reduceIte, h1, e1, e2]) | (exact (noMLL_set (by simp only [go_sem, hE, hH, ↓reduceIte, h1, e1, e2]) (by simp only [go_sem, hE, hH, ↓reduceIte, h1, e1, e2])).2 trivial) | (exact (pk_set (by simp only [go_sem, hE, hH, ↓reduceIte, h1, e1, e2]) (by simp only [go_sem, hE, hH, ↓reduceIte, h1, e1, e2])).2 trivial) | (simp only [go_sem, hE, hH, ↓reduceIte, h1, e1, e2]) | fail)
          all_goals (exfalso; omega)
  · refine fn_in h_laws_FnFree r_laws_FnFree ⟨by simp only [go_sem, ↓reduceIte], fun E hE hH => ?_⟩; simp only [go_sem, ↓reduceIte] at hE hH; simp only [go_sem, hE, hH, ↓reduceIte, c_laws_FnFree]
    repeat' (first | ((with_reducible (first | refine gd_t (fun h => ?_) (fun h => ?_) | refine gd_f (fun h => ?_) (fun h => ?_))) <;> (have hb := h; (try simp only [decide_eq_true_eq, decide_eq_false_iff_not, Int.not_lt, Int.not_le, ge_iff_le, gt_iff_lt, Bool.not_eq_true', Bool.not_eq_false', beq_iff_eq, bne_iff_ne, beq_eq_false_iff_ne, bne_eq_false_iff_eq, Int.ofNat_lt, Int.ofNat_le] at h); simp (disch := omega) only [go_sem, hE, hH, ↓reduceIte, hB, hb]; (try clear hb))) | ((with_reducible refine And.intro ?_ ?_); · omega) | (refine ok_view ?_; simp (disch := omega) only [go_sem, hE, hH, ↓reduceIte, hB]) | (refine cvA (vBig_ok vc wc.1) ?_; simp (disch := omega) only [go_sem, hE, hH, ↓reduceIte, hB]) | (refine jn _ ?_ ?_) | (with_reducible refine both ?_ ?_) | (with_reducible refine And.intro ?_ ?_) | (refine fin_eq ?_; (try (simp (disch := omega) only [go_sem, hE, hH, ↓reduceIte, hB])); first | done | rfl) | (simp (disch := omega) only [go_sem, hE, hH, ↓reduceIte, hB]) | (exact (noMLL_set (by simp only [go_sem, hE, hH, ↓reduceIte, hB]) (by simp only [go_sem, hE, hH, ↓reduceIte, hB])).2 trivial) | (exact (pk_set (by simp only [go_sem, hE, hH, ↓reduceIte, hB]) (by simp only [go_sem, hE, hH, ↓reduceIte, hB])).2 trivial) | (simp only [go_sem, hE, hH, ↓reduceIte, hB]) | fail)

theorem holdsW_no {w : Watch} {i : Int} (h : hasW w i = true) : holdsW (giveV w i) i = false := by
  unfold holdsW
  rw [List.any_eq_false]
  intro x hx
  simp only [giveV, List.mem_map] at hx
  obtain ⟨l, _, rfl⟩ := hx
  have e : highW (giveV w i) i = lowW w i + 10 := by simp only [highW, lowW, giveV]; omega
  rw [e]
  by_cases hc : l.Who = i ∧ lowW w i ≤ l.Until
  · rw [cutL_yes hc.1 hc.2]
    simp only [holdsL, Bool.and_eq_true, decide_eq_true_eq]
    omega
  · rw [cutL_no hc]
    simp only [holdsL, Bool.and_eq_true, decide_eq_true_eq]
    omega
theorem ask_rows {w : Watch} {i n : Int} (h : (askW w i n).2 = true) : askW w i n = (askV w i n, true) ∧ hasW w i = true ∧ watchOk (askV w i n) = true ∧ 1 ≤ n ∧ n ≤ 100 := by
  unfold askW at h ⊢
  split at h
  · rename_i hh
    rw [if_pos hh]
    unfold ifW at h ⊢
    split at h
    · rename_i h2
      rw [if_pos h2]
      simp only [Bool.and_eq_true, rng_iff] at hh
      exact ⟨rfl, hh.1.1, h2, hh.1.2.1, hh.1.2.2⟩
    · simp at h
  · simp at h
theorem askV_has {w : Watch} {i n : Int} (h : hasW w i = true) (h2 : watchOk (askV w i n) = true) : hasW (askV w i n) i = true := by
  simp only [hasW, Bool.and_eq_true] at h ⊢
  exact ⟨h2, h.2⟩
theorem askV_holds {w : Watch} {i n : Int} (hn : 0 ≤ n) : holdsW (askV w i n) i = true := by
  unfold holdsW
  rw [List.any_eq_true]
  refine ⟨⟨i, lowW w i, highW w i + n⟩, by simp [askV], ?_⟩
  simp only [holdsL, Bool.and_eq_true, decide_eq_true_eq]
  refine ⟨⟨trivial, ?_⟩, ?_⟩ <;> simp only [highW, lowW, askV] <;> omega
theorem askV_later {w : Watch} {i n : Int} (hn : 0 ≤ n) : holdsW ⟨(askV w i n).True + n, (askV w i n).Clocks, (askV w i n).Given⟩ i = true := by
  unfold holdsW
  rw [List.any_eq_true]
  refine ⟨⟨i, lowW w i, highW w i + n⟩, by simp [askV], ?_⟩
  simp only [holdsL, Bool.and_eq_true, decide_eq_true_eq]
  refine ⟨⟨trivial, ?_⟩, ?_⟩ <;> simp only [highW, lowW, askV] <;> omega
theorem pass_or {w : Watch} {n : Int} (h : watchOk w = true) (h0 : 0 ≤ n) (h1 : n ≤ 100000) : (passW w n = (⟨w.True + n, w.Clocks, w.Given⟩, true) ∧ watchOk ⟨w.True + n, w.Clocks, w.Given⟩ = true) ∨ passW w n = (zeroW, false) := by
  by_cases hc : w.True + n ≤ 100000
  · exact .inl (passT h h0 hc)
  · right
    have hk : watchOk ⟨w.True + n, w.Clocks, w.Given⟩ = false := by
      have : rng (w.True + n) 0 100000 = false := rng_no.2 (by omega)
      simp [watchOk, this]
    rw [passW, h, rng_iff.2 ⟨h0, h1⟩, ifW, hk]
    rfl
theorem FnGiven_ok (vc : List Int) (wc : vc.length ≤ maxLen ∧ ∀ y ∈ vc, 0 ≤ y ∧ y ≤ 255) : ACall Try.prog n_laws_FnGiven [.sl false 1 (bys vc)] (fun r _ => r = bl true) := by
  have hmx := mx_eq
  cases hB : vBigB vc
  · have hc := isB_ofv hB wc.2
    refine fn_in h_laws_FnGiven r_laws_FnGiven ⟨by simp only [go_sem, ↓reduceIte], fun E hE hH => ?_⟩; simp only [go_sem, ↓reduceIte] at hE hH; simp only [go_sem, hE, hH, ↓reduceIte, c_laws_FnGiven]
    repeat' (first | ((with_reducible (first | refine gd_t (fun h => ?_) (fun h => ?_) | refine gd_f (fun h => ?_) (fun h => ?_))) <;> (have hb := h; (try simp only [decide_eq_true_eq, decide_eq_false_iff_not, Int.not_lt, Int.not_le, ge_iff_le, gt_iff_lt, Bool.not_eq_true', Bool.not_eq_false', beq_iff_eq, bne_iff_ne, beq_eq_false_iff_ne, bne_eq_false_iff_eq, Int.ofNat_lt, Int.ofNat_le] at h); simp (disch := omega) only [go_sem, hE, hH, ↓reduceIte, hB, hb]; (try clear hb))) | ((with_reducible refine And.intro ?_ ?_); · omega) | (refine ok_view ?_; simp (disch := omega) only [go_sem, hE, hH, ↓reduceIte, hB]; refine cvA (DrawAskLease_ok vc hc) ?_; refine aftV_intro ?_; rintro _ _ ⟨w, i, n, rfl, hw, hi1, hi2, hn1, hn2⟩; simp (disch := omega) only [go_sem, hE, hH, ↓reduceIte, hB]) | (refine ok_view ?_; simp (disch := omega) only [go_sem, hE, hH, ↓reduceIte, hB]) | (refine cvA (vBig_ok vc wc.1) ?_; simp (disch := omega) only [go_sem, hE, hH, ↓reduceIte, hB]) | (refine jn _ ?_ ?_) | (with_reducible refine both ?_ ?_) | (with_reducible refine And.intro ?_ ?_) | (refine fin_eq ?_; (try (simp (disch := omega) only [go_sem, hE, hH, ↓reduceIte, hB])); first | done | rfl) | (simp (disch := omega) only [go_sem, hE, hH, ↓reduceIte, hB]) | (exact (noMLL_set (by simp only [go_sem, hE, hH, ↓reduceIte, hB]) (by simp only [go_sem, hE, hH, ↓reduceIte, hB])).2 trivial) | (exact (pk_set (by simp only [go_sem, hE, hH, ↓reduceIte, hB]) (by simp only [go_sem, hE, hH, ↓reduceIte, hB])).2 trivial) | (simp only [go_sem, hE, hH, ↓reduceIte, hB]) | fail)
    have hwm := drwW_M hw
    have hz : watchM zeroW := by simp [watchM, zeroW]
    unfold drwW at hw
    cases h1 : (askW w i n).2
    · have e : askW w i n = (zeroW, false) := by
        unfold askW at h1 ⊢
        split at h1
        · rename_i hh
          rw [if_pos hh]
          unfold ifW at h1 ⊢
          split at h1
          · simp at h1
          · rename_i h2; rw [if_neg h2]
        · rename_i hh
          rw [if_neg hh]
      repeat' (first | ((with_reducible (first | refine gd_t (fun h => ?_) (fun h => ?_) | refine gd_f (fun h => ?_) (fun h => ?_))) <;> (have hb := h; (try simp only [decide_eq_true_eq, decide_eq_false_iff_not, Int.not_lt, Int.not_le, ge_iff_le, gt_iff_lt, Bool.not_eq_true', Bool.not_eq_false', beq_iff_eq, bne_iff_ne, beq_eq_false_iff_ne, bne_eq_false_iff_eq, Int.ofNat_lt, Int.ofNat_le] at h); simp (disch := omega) only [go_sem, hE, hH, ↓reduceIte, e, hb]; (try clear hb))) | ((with_reducible refine And.intro ?_ ?_); · omega) | (refine ok_view ?_; simp (disch := omega) only [go_sem, hE, hH, ↓reduceIte, e]) | (refine cvA (AskLease_ok w i n hwm) ?_; simp (disch := omega) only [go_sem, hE, hH, ↓reduceIte, e]) | (refine cvA (sAskLease_ok w i n hwm) ?_; simp (disch := omega) only [go_sem, hE, hH, ↓reduceIte, e]) | (refine cvAn (vWatch_ok zeroW hz) ?_; simp (disch := omega) only [go_sem, hE, hH, ↓reduceIte, e]) | (refine jn _ ?_ ?_) | (with_reducible refine both ?_ ?_) | (with_reducible refine And.intro ?_ ?_) | (refine fin_eq ?_; (try (simp (disch := omega) only [go_sem, hE, hH, ↓reduceIte, e])); first | done | rfl) | (simp (disch := omega) only [go_sem, hE, hH, ↓reduceIte, e]) | (exact (noMLL_set (by simp only [go_sem, hE, hH, ↓reduceIte, e]) (by simp only [go_sem, hE, hH, ↓reduceIte, e])).2 trivial) | (exact (pk_set (by simp only [go_sem, hE, hH, ↓reduceIte, e]) (by simp only [go_sem, hE, hH, ↓reduceIte, e])).2 trivial) | (simp only [go_sem, hE, hH, ↓reduceIte, e]) | fail)
      all_goals rfl
    · obtain ⟨e1, hh, hg, hn3, hn4⟩ := ask_rows h1
      have hh2 := askV_has hh hg
      have ho := askV_holds (w := w) (i := i) (n := n) (by omega)
      have hgi : giveW (askV w i n) i = (giveV (askV w i n) i, true) := by rw [giveW, hh2, ho]; rfl
      have hgv := giveV_ok hh2
      have hno := holdsW_no hh2
      have hh3 : hasW (giveV (askV w i n) i) i = true := by
        simp only [hasW, Bool.and_eq_true] at hh2 ⊢
        exact ⟨hgv, hh2.2⟩
      rcases pass_or hg (n := n) (by omega) (by omega) with ⟨e2, g2⟩ | e2
      · have ho2 := askV_later (w := w) (i := i) (n := n) (by omega)
        have hh4 := hasW_T hh2 g2
        repeat' (first | ((with_reducible (first | refine gd_t (fun h => ?_) (fun h => ?_) | refine gd_f (fun h => ?_) (fun h => ?_))) <;> (have hb := h; (try simp only [decide_eq_true_eq, decide_eq_false_iff_not, Int.not_lt, Int.not_le, ge_iff_le, gt_iff_lt, Bool.not_eq_true', Bool.not_eq_false', beq_iff_eq, bne_iff_ne, beq_eq_false_iff_ne, bne_eq_false_iff_eq, Int.ofNat_lt, Int.ofNat_le] at h); simp (disch := omega) only [go_sem, hE, hH, ↓reduceIte, e1, e2, hh2, ho, hgi, hno, hh3, ho2, hh4, hb]; (try clear hb))) | ((with_reducible refine And.intro ?_ ?_); · omega) | (refine ok_view ?_; simp (disch := omega) only [go_sem, hE, hH, ↓reduceIte, e1, e2, hh2, ho, hgi, hno, hh3, ho2, hh4]) | (refine cvA (AskLease_ok w i n hwm) ?_; simp (disch := omega) only [go_sem, hE, hH, ↓reduceIte, e1, e2, hh2, ho, hgi, hno, hh3, ho2, hh4]) | (refine cvA (sAskLease_ok w i n hwm) ?_; simp (disch := omega) only [go_sem, hE, hH, ↓reduceIte, e1, e2, hh2, ho, hgi, hno, hh3, ho2, hh4]) | (refine cvA (vWatch_ok (askV w i n) (watchM_of hg)) ?_; simp (disch := omega) only [go_sem, hE, hH, ↓reduceIte, e1, e2, hh2, ho, hgi, hno, hh3, ho2, hh4]) | (refine cvA (HoldsLease_ok (askV w i n) i (watchM_of hg)) ?_; simp (disch := omega) only [go_sem, hE, hH, ↓reduceIte, e1, e2, hh2, ho, hgi, hno, hh3, ho2, hh4]) | (refine cvA (PassTime_ok (askV w i n) n (watchM_of hg)) ?_; simp (disch := omega) only [go_sem, hE, hH, ↓reduceIte, e1, e2, hh2, ho, hgi, hno, hh3, ho2, hh4]) | (refine cvA (HoldsLease_ok ⟨(askV w i n).True + n, (askV w i n).Clocks, (askV w i n).Given⟩ i (watchM_of g2)) ?_; simp (disch := omega) only [go_sem, hE, hH, ↓reduceIte, e1, e2, hh2, ho, hgi, hno, hh3, ho2, hh4]) | (refine cvA (GiveBack_ok (askV w i n) i (watchM_of hg)) ?_; simp (disch := omega) only [go_sem, hE, hH, ↓reduceIte, e1, e2, hh2, ho, hgi, hno, hh3, ho2, hh4]) | (refine cvA (HoldsLease_ok (giveV (askV w i n) i) i (watchM_of hgv)) ?_; simp (disch := omega) only [go_sem, hE, hH, ↓reduceIte, e1, e2, hh2, ho, hgi, hno, hh3, ho2, hh4]) | (refine jn _ ?_ ?_) | (with_reducible refine both ?_ ?_) | (with_reducible refine And.intro ?_ ?_) | (refine fin_eq ?_; (try (simp (disch := omega) only [go_sem, hE, hH, ↓reduceIte, e1, e2, hh2, ho, hgi, hno, hh3, ho2, hh4])); first | done | rfl) | (simp (disch := omega) only [go_sem, hE, hH, ↓reduceIte, e1, e2, hh2, ho, hgi, hno, hh3, ho2, hh4]) | (exact (noMLL_set (by simp only [go_sem, hE, hH, ↓reduceIte, e1, e2, hh2, ho, hgi, hno, hh3, ho2, hh4]) (by simp only [go_sem, hE, hH, ↓reduceIte, e1, e2, hh2, ho, hgi, hno, hh3, ho2, hh4])).2 trivial) | (exact (pk_set (by simp only [go_sem, hE, hH, ↓reduceIte, e1, e2, hh2, ho, hgi, hno, hh3, ho2, hh4]) (by simp only [go_sem, hE, hH, ↓reduceIte, e1, e2, hh2, ho, hgi, hno, hh3, ho2, hh4])).2 trivial) | (simp only [go_sem, hE, hH, ↓reduceIte, e1, e2, hh2, ho, hgi, hno, hh3, ho2, hh4]) | fail)
      ·
        repeat' (first | ((with_reducible (first | refine gd_t (fun h => ?_) (fun h => ?_) | refine gd_f (fun h => ?_) (fun h => ?_))) <;> (have hb := h; (try simp only [decide_eq_true_eq, decide_eq_false_iff_not, Int.not_lt, Int.not_le, ge_iff_le, gt_iff_lt, Bool.not_eq_true', Bool.not_eq_false', beq_iff_eq, bne_iff_ne, beq_eq_false_iff_ne, bne_eq_false_iff_eq, Int.ofNat_lt, Int.ofNat_le] at h); simp (disch := omega) only [go_sem, hE, hH, ↓reduceIte, e1, e2, hh2, ho, hgi, hno, hh3, hb]; (try clear hb))) | ((with_reducible refine And.intro ?_ ?_); · omega) | (refine ok_view ?_; simp (disch := omega) only [go_sem, hE, hH, ↓reduceIte, e1, e2, hh2, ho, hgi, hno, hh3]) | (refine cvA (AskLease_ok w i n hwm) ?_; simp (disch := omega) only [go_sem, hE, hH, ↓reduceIte, e1, e2, hh2, ho, hgi, hno, hh3]) | (refine cvA (sAskLease_ok w i n hwm) ?_; simp (disch := omega) only [go_sem, hE, hH, ↓reduceIte, e1, e2, hh2, ho, hgi, hno, hh3]) | (refine cvA (vWatch_ok (askV w i n) (watchM_of hg)) ?_; simp (disch := omega) only [go_sem, hE, hH, ↓reduceIte, e1, e2, hh2, ho, hgi, hno, hh3]) | (refine cvA (HoldsLease_ok (askV w i n) i (watchM_of hg)) ?_; simp (disch := omega) only [go_sem, hE, hH, ↓reduceIte, e1, e2, hh2, ho, hgi, hno, hh3]) | (refine cvA (PassTime_ok (askV w i n) n (watchM_of hg)) ?_; simp (disch := omega) only [go_sem, hE, hH, ↓reduceIte, e1, e2, hh2, ho, hgi, hno, hh3]) | (refine cvA (HoldsLease_ok zeroW i hz) ?_; simp (disch := omega) only [go_sem, hE, hH, ↓reduceIte, e1, e2, hh2, ho, hgi, hno, hh3]) | (refine cvA (GiveBack_ok (askV w i n) i (watchM_of hg)) ?_; simp (disch := omega) only [go_sem, hE, hH, ↓reduceIte, e1, e2, hh2, ho, hgi, hno, hh3]) | (refine cvA (HoldsLease_ok (giveV (askV w i n) i) i (watchM_of hgv)) ?_; simp (disch := omega) only [go_sem, hE, hH, ↓reduceIte, e1, e2, hh2, ho, hgi, hno, hh3]) | (refine jn _ ?_ ?_) | (with_reducible refine both ?_ ?_) | (with_reducible refine And.intro ?_ ?_) | (refine fin_eq ?_; (try (simp (disch := omega) only [go_sem, hE, hH, ↓reduceIte, e1, e2, hh2, ho, hgi, hno, hh3])); first | done | rfl) | (simp (disch := omega) only [go_sem, hE, hH, ↓reduceIte, e1, e2, hh2, ho, hgi, hno, hh3]) | (exact (noMLL_set (by simp only [go_sem, hE, hH, ↓reduceIte, e1, e2, hh2, ho, hgi, hno, hh3]) (by simp only [go_sem, hE, hH, ↓reduceIte, e1, e2, hh2, ho, hgi, hno, hh3])).2 trivial) | (exact (pk_set (by simp only [go_sem, hE, hH, ↓reduceIte, e1, e2, hh2, ho, hgi, hno, hh3]) (by simp only [go_sem, hE, hH, ↓reduceIte, e1, e2, hh2, ho, hgi, hno, hh3])).2 trivial) | (simp only [go_sem, hE, hH, ↓reduceIte, e1, e2, hh2, ho, hgi, hno, hh3]) | fail)
  · refine fn_in h_laws_FnGiven r_laws_FnGiven ⟨by simp only [go_sem, ↓reduceIte], fun E hE hH => ?_⟩; simp only [go_sem, ↓reduceIte] at hE hH; simp only [go_sem, hE, hH, ↓reduceIte, c_laws_FnGiven]
    repeat' (first | ((with_reducible (first | refine gd_t (fun h => ?_) (fun h => ?_) | refine gd_f (fun h => ?_) (fun h => ?_))) <;> (have hb := h; (try simp only [decide_eq_true_eq, decide_eq_false_iff_not, Int.not_lt, Int.not_le, ge_iff_le, gt_iff_lt, Bool.not_eq_true', Bool.not_eq_false', beq_iff_eq, bne_iff_ne, beq_eq_false_iff_ne, bne_eq_false_iff_eq, Int.ofNat_lt, Int.ofNat_le] at h); simp (disch := omega) only [go_sem, hE, hH, ↓reduceIte, hB, hb]; (try clear hb))) | ((with_reducible refine And.intro ?_ ?_); · omega) | (refine ok_view ?_; simp (disch := omega) only [go_sem, hE, hH, ↓reduceIte, hB]) | (refine cvA (vBig_ok vc wc.1) ?_; simp (disch := omega) only [go_sem, hE, hH, ↓reduceIte, hB]) | (refine jn _ ?_ ?_) | (with_reducible refine both ?_ ?_) | (with_reducible refine And.intro ?_ ?_) | (refine fin_eq ?_; (try (simp (disch := omega) only [go_sem, hE, hH, ↓reduceIte, hB])); first | done | rfl) | (simp (disch := omega) only [go_sem, hE, hH, ↓reduceIte, hB]) | (exact (noMLL_set (by simp only [go_sem, hE, hH, ↓reduceIte, hB]) (by simp only [go_sem, hE, hH, ↓reduceIte, hB])).2 trivial) | (exact (pk_set (by simp only [go_sem, hE, hH, ↓reduceIte, hB]) (by simp only [go_sem, hE, hH, ↓reduceIte, hB])).2 trivial) | (simp only [go_sem, hE, hH, ↓reduceIte, hB]) | fail)

end Go.Proofs.Wb

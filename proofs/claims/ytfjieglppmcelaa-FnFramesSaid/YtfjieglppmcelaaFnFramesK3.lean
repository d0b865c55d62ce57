/- Contracts of functions. -/
import Derived.Test.YtfjieglppmcelaaFnFramesK1
import Derived.Laws.Externs
set_option linter.unusedSimpArgs false
set_option linter.unusedVariables false
set_option linter.unusedSectionVars false
namespace Go.Proofs.Wb
open Go Go.Am
def vBigB (a : List Int) : Bool := decide ((a.length : Int) > 65536)
theorem vBig_ok (a : List Int) (ha : a.length ≤ maxLen) : ACall Try.prog n_laws_vBig [.sl false 1 (bys a)] (fun r _ => r = bl (vBigB a)) := by
  have hmx := mx_eq
  refine fn_in h_laws_vBig r_laws_vBig ⟨by simp only [go_sem, ↓reduceIte], fun E hE hH => ?_⟩; simp only [go_sem, ↓reduceIte] at hE hH; simp only [go_sem, hE, hH, ↓reduceIte, c_laws_vBig]
  repeat' (first | ((with_reducible (first | refine gd_t (fun h => ?_) (fun h => ?_) | refine gd_f (fun h => ?_) (fun h => ?_))) <;> (have hb := h; (try simp only [decide_eq_true_eq, decide_eq_false_iff_not, Int.not_lt, Int.not_le, ge_iff_le, gt_iff_lt, Bool.not_eq_true', Bool.not_eq_false', beq_iff_eq, bne_iff_ne, beq_eq_false_iff_ne, bne_eq_false_iff_eq, Int.ofNat_lt, Int.ofNat_le] at h); simp (disch := omega) only [go_sem, hE, hH, ↓reduceIte, hb]; (try clear hb))) | ((with_reducible refine And.intro ?_ ?_); · omega) | (with_reducible apply jn) | (with_reducible apply both) | (with_reducible refine And.intro ?_ ?_) | ((with_reducible apply fin_eq); (try (simp (disch := omega) only [go_sem, hE, hH, ↓reduceIte])); first | done | rfl) | (simp (disch := omega) only [go_sem, hE, hH, ↓reduceIte]) | (exact (noMLL_set (by simp only [go_sem, hE, hH, ↓reduceIte]) (by simp only [go_sem, hE, hH, ↓reduceIte])).2 trivial) | (exact (pk_set (by simp only [go_sem, hE, hH, ↓reduceIte]) (by simp only [go_sem, hE, hH, ↓reduceIte])).2 trivial) | (simp only [go_sem, hE, hH, ↓reduceIte]) | fail)
  all_goals (simp_all [vBigB]; try omega)
theorem isB_ofv {a : List Int} (h : vBigB a = false) (ha : ∀ y ∈ a, 0 ≤ y ∧ y ≤ 255) : isB a := by
  simp only [vBigB, decide_eq_false_iff_not] at h
  refine ⟨by omega, fun y hy => ?_⟩
  have := ha y hy; omega
end Go.Proofs.Wb

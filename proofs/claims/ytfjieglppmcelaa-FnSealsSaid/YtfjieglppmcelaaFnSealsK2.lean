/- Contracts of functions. -/
import Derived.Test.YtfjieglppmcelaaFnSealsK1
import Derived.Laws.Externs
set_option linter.unusedSimpArgs false
set_option linter.unusedVariables false
set_option linter.unusedSectionVars false
namespace Go.Proofs.Wb
open Go Go.Am
def bigB (a b : List Int) : Bool := decide ((a.length : Int) > 1048576) || decide ((b.length : Int) > 1048576 - a.length)
theorem big_ok (a b : List Int) (ha : a.length ≤ maxLen) (hb : b.length ≤ maxLen) : ACall Try.prog n_laws_big [.sl false 1 (bys a), .sl false 1 (bys b)] (fun r _ => r = bl (bigB a b)) := by
  have hmx := mx_eq
  refine fn_in h_laws_big r_laws_big ⟨by simp only [go_sem], fun E hE hH => ?_⟩; simp only [go_sem] at hE hH; simp only [go_sem, hE, hH, c_laws_big]
  repeat' (first | ((with_reducible first | refine gd_t ?_ ?_ | refine gd_f ?_ ?_) <;> (intro h; have hb := h; (try simp only [nf, beq_iff_eq, bne_iff_ne, beq_eq_false_iff_ne, bne_eq_false_iff_eq] at h); simp (disch := omega) only [go_sem, hE, hH, hb]; (try clear hb))) | ((with_reducible refine And.intro ?_ ?_); · omega) | (with_reducible apply jn) | (with_reducible apply both) | (with_reducible refine And.intro ?_ ?_) | ((with_reducible apply fin_eq); (try (simp (disch := omega) only [go_sem, hE, hH])); first | done | rfl) | (simp (disch := omega) only [go_sem, hE, hH]) | ((first | apply noMLL_sE | apply pk_sE) <;> (simp only [go_sem, hE, hH]; done)) | (simp only [go_sem, hE, hH]) | fail)
  all_goals (simp_all [bigB]; try omega)
theorem isB_of {a b : List Int} (h : bigB a b = false) (ha : ∀ y ∈ a, 0 ≤ y ∧ y ≤ 255) (hb : ∀ y ∈ b, 0 ≤ y ∧ y ≤ 255) : isB a ∧ isB b := by
  simp only [bigB, Bool.or_eq_false_iff, decide_eq_false_iff_not] at h
  refine ⟨⟨by omega, fun y hy => ?_⟩, ⟨by omega, fun y hy => ?_⟩⟩
  · have := ha y hy; omega
  · have := hb y hy; omega
end Go.Proofs.Wb

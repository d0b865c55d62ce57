/- Contracts of functions. -/
import Derived.Test.YtjdnnijmpnokaaaFnSentA1
import Derived.Laws.Externs
set_option linter.unusedSimpArgs false
set_option linter.unusedVariables false
set_option linter.unusedSectionVars false
namespace Go.Proofs.Wb
open Go Go.Am
theorem l1Own_ok (l : List Int) (hl : l.length ≤ 2 ^ 20) : ACall Try.prog n_spec_l1Own [.sl false 1 (ints l)] (fun r _ => r = .sl true 1 (ints l)) := by
  refine fn_in h_spec_l1Own r_spec_l1Own ⟨by simp only [go_sem, ↓reduceIte], fun E hE hH => ?_⟩; simp only [go_sem, ↓reduceIte] at hE hH; simp only [go_sem, hE, hH, ↓reduceIte, c_spec_l1Own]
  try simp (disch := omega) only [go_sem, hE, hH, ↓reduceIte]
  omega
end Go.Proofs.Wb

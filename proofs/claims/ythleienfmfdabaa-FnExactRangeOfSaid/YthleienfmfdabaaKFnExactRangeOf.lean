/- The law of whatever arguments. -/
import Derived.Test.YthleienfmfdabaaHas
set_option linter.unusedSimpArgs false
set_option linter.unusedVariables false
set_option linter.unusedSectionVars false
namespace Go.Proofs.Wb
open Go Go.Am
theorem law_FnExactRangeOf (t0 t1 : T) (h0 : hasV Try.prog 20 44 t0) (h1 : hasV Try.prog 20 9 t1) : ACall Try.prog n_laws_FnExactRangeOf [t0, t1] (fun r _ => r = .v (.bool true)) := by
  simp only [hasV, Try.underlying44] at h0
  obtain ⟨row0, rfl, l0, hh0⟩ := h0
  obtain ⟨x0, rfl, w0⟩ := has_Places (n := 17) (l0.trans (by kernel_rfl)) hh0
  simp only [hasV, Try.underlying9] at h1
  obtain ⟨x1, rfl, w1⟩ := has_str Try.underlying9 h1
  apply FnExactRangeOf_ok <;> assumption
end Go.Proofs.Wb

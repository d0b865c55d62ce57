/- The law of whatever arguments. -/
import Derived.Test.YthleienfmfdabaaHas
set_option linter.unusedSimpArgs false
set_option linter.unusedVariables false
set_option linter.unusedSectionVars false
namespace Go.Proofs.Wb
open Go Go.Am
theorem law_FnExactGoodPlaces (t0 : T) (h0 : hasV Try.prog 20 44 t0) : ACall Try.prog n_laws_FnExactGoodPlaces [t0] (fun r _ => r = .v (.bool true)) := by
  simp only [hasV, Try.underlying44] at h0
  obtain ⟨row0, rfl, l0, hh0⟩ := h0
  obtain ⟨x0, rfl, w0⟩ := has_Places (n := 17) (l0.trans (by kernel_rfl)) hh0
  apply FnExactGoodPlaces_ok <;> assumption
end Go.Proofs.Wb

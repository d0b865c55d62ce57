/- The law of whatever arguments. -/
import Derived.Test.YtbifgoeoccjkoaaFnExactIsReadyHas
set_option linter.unusedSimpArgs false
set_option linter.unusedVariables false
set_option linter.unusedSectionVars false
set_option maxRecDepth 100000
namespace Go.Proofs.Wb
open Go Go.Am
theorem law_FnExactIsReady (t0 : T) (h0 : hasV Try.prog 20 24 t0) : ACall Try.prog n_laws_FnExactIsReady [t0] (fun r _ => r = .v (.bool true)) := by
  simp only [hasV, Try.underlying24] at h0
  obtain ⟨row0, rfl, l0, hh0⟩ := h0
  obtain ⟨x0, rfl, w0⟩ := has_Group (n := 11) (l0.trans (by kernel_rfl)) hh0
  apply FnExactIsReady_ok <;> assumption
end Go.Proofs.Wb

/- The law of whatever arguments. -/
import Derived.Test.YtalbfdhdbgcikaaGreatDoorFnExactTickPollItoa
set_option linter.unusedSimpArgs false
set_option linter.unusedVariables false
set_option linter.unusedSectionVars false
set_option maxRecDepth 100000
namespace Go.Proofs.Wb
open Go Go.Am
theorem law_FnExactTickPoll (t0 : T) (h0 : hasV Tryz.prog 20 29 t0) : ACall Tryz.prog n_laws_FnExactTickPoll [t0] (fun r _ => r = .v (.bool true)) := by
  simp only [hasV, Tryz.underlying29] at h0
  obtain ⟨row0, rfl, l0, hh0⟩ := h0
  obtain ⟨x0, rfl, w0⟩ := has_Poll (n := 15) (l0.trans (by kernel_rfl)) hh0
  have hI := itoaH
  have hR := readIntH
  apply FnExactTickPoll_ok <;> assumption
end Go.Proofs.Wb

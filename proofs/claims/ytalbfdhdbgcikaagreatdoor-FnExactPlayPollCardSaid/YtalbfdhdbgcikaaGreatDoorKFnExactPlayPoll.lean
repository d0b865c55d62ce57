/- The law of whatever arguments. -/
import Derived.Test.YtalbfdhdbgcikaaGreatDoorFnExactPlayPollItoa
set_option linter.unusedSimpArgs false
set_option linter.unusedVariables false
set_option linter.unusedSectionVars false
set_option maxRecDepth 100000
namespace Go.Proofs.Wb
open Go Go.Am
theorem law_FnExactPlayPoll (t0 t1 : T) (h0 : hasV Tryz.prog 20 29 t0) (h1 : hasV Tryz.prog 20 54 t1) : ACall Tryz.prog n_laws_FnExactPlayPoll [t0, t1] (fun r _ => r = .v (.bool true)) := by
  simp only [hasV, Tryz.underlying29] at h0
  obtain ⟨row0, rfl, l0, hh0⟩ := h0
  obtain ⟨x0, rfl, w0⟩ := has_Poll (n := 15) (l0.trans (by kernel_rfl)) hh0
  simp only [hasV, Tryz.underlying54] at h1
  obtain ⟨x1, rfl, w1⟩ := has_sl (PollAct.row false) (PollAct.wf) Tryz.underlying54 (by kernel_rfl) (fun r hl h => has_PollAct hl h) h1
  have hI := itoaH
  have hR := readIntH
  apply FnExactPlayPoll_ok <;> assumption
end Go.Proofs.Wb

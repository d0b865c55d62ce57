/- The law of whatever arguments. -/
import Derived.Test.YtalbfdhdbgcikaaGreatDoorFnExactStandUpItoa
set_option linter.unusedSimpArgs false
set_option linter.unusedVariables false
set_option linter.unusedSectionVars false
set_option maxRecDepth 100000
namespace Go.Proofs.Wb
open Go Go.Am
theorem law_FnExactStandUp (t0 t1 : T) (h0 : hasV Tryz.prog 20 29 t0) (h1 : hasV Tryz.prog 20 3 t1) : ACall Tryz.prog n_laws_FnExactStandUp [t0, t1] (fun r _ => r = .v (.bool true)) := by
  simp only [hasV, Tryz.underlying29] at h0
  obtain ⟨row0, rfl, l0, hh0⟩ := h0
  obtain ⟨x0, rfl, w0⟩ := has_Poll (n := 15) (l0.trans (by kernel_rfl)) hh0
  simp only [hasV, Tryz.underlying3] at h1
  obtain ⟨x1, rfl, w1⟩ := has_int Tryz.underlying3 h1
  have hI := itoaH
  apply FnExactStandUp_ok <;> assumption
end Go.Proofs.Wb

/- The law of whatever arguments. -/
import Derived.Test.YtfnbfkgbflfkdaaGreatFnExactGoodWorldHas
set_option linter.unusedSimpArgs false
set_option linter.unusedVariables false
set_option linter.unusedSectionVars false
set_option maxRecDepth 100000
namespace Go.Proofs.Wb
open Go Go.Am
theorem law_FnExactGoodWorld (t0 : T) (h0 : hasV Tryz.prog 20 30 t0) : ACall Tryz.prog n_laws_FnExactGoodWorld [t0] (fun r _ => r = .v (.bool true)) := by
  simp only [hasV, Tryz.underlying30] at h0
  obtain ⟨row0, rfl, l0, hh0⟩ := h0
  obtain ⟨x0, rfl, w0⟩ := has_World (n := 9) (l0.trans (by kernel_rfl)) hh0
  apply FnExactGoodWorld_ok <;> assumption
end Go.Proofs.Wb

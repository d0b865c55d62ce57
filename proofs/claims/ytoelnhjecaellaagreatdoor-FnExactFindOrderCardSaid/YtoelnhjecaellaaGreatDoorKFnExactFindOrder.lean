/- The law of whatever arguments. -/
import Derived.Test.YtoelnhjecaellaaGreatDoorFnExactFindOrderFnd
set_option linter.unusedSimpArgs false
set_option linter.unusedVariables false
set_option linter.unusedSectionVars false
set_option maxRecDepth 100000
namespace Go.Proofs.Wb
open Go Go.Am
theorem law_FnExactFindOrder (t0 : T) (h0 : hasV Tryz.prog 20 22 t0) : ACall Tryz.prog n_laws_FnExactFindOrder [t0] (fun r _ => r = .v (.bool true)) := by
  simp only [hasV, Tryz.underlying22] at h0
  obtain ⟨x0, rfl, w0⟩ := has_sl (Deed.row false) (Deed.wf) Tryz.underlying22 (by kernel_rfl) (fun r hl h => has_Deed hl h) h0
  have hF := findH
  apply FnExactFindOrder_ok <;> assumption
end Go.Proofs.Wb

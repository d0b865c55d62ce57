/- The law of whatever arguments. -/
import Derived.Test.YtmfcoocjebmjeaaFnExactCountOrdersCnt
set_option linter.unusedSimpArgs false
set_option linter.unusedVariables false
set_option linter.unusedSectionVars false
set_option maxRecDepth 100000
namespace Go.Proofs.Wb
open Go Go.Am
theorem law_FnExactCountOrders (t0 : T) (h0 : hasV Try.prog 20 22 t0) : ACall Try.prog n_laws_FnExactCountOrders [t0] (fun r _ => r = .v (.bool true)) := by
  simp only [hasV, Try.underlying22] at h0
  obtain ⟨x0, rfl, w0⟩ := has_sl (Deed.row false) (Deed.wf) Try.underlying22 (by kernel_rfl) (fun r hl h => has_Deed hl h) h0
  have hN := countH
  apply FnExactCountOrders_ok <;> assumption
end Go.Proofs.Wb

/- The law of whatever arguments. -/
import Derived.Test.YtpfgmidkclompaaFnExactSeenByHas
set_option linter.unusedSimpArgs false
set_option linter.unusedVariables false
set_option linter.unusedSectionVars false
set_option maxRecDepth 100000
namespace Go.Proofs.Wb
open Go Go.Am
theorem law_FnExactSeenBy (t0 t1 : T) (h0 : hasV Try.prog 20 22 t0) (h1 : hasV Try.prog 20 3 t1) : ACall Try.prog n_laws_FnExactSeenBy [t0, t1] (fun r _ => r = .v (.bool true)) := by
  simp only [hasV, Try.underlying22] at h0
  obtain ⟨x0, rfl, w0⟩ := has_sl (Deed.row false) (Deed.wf) Try.underlying22 (by kernel_rfl) (fun r hl h => has_Deed hl h) h0
  simp only [hasV, Try.underlying3] at h1
  obtain ⟨x1, rfl, w1⟩ := has_int Try.underlying3 h1
  apply FnExactSeenBy_ok <;> assumption
end Go.Proofs.Wb

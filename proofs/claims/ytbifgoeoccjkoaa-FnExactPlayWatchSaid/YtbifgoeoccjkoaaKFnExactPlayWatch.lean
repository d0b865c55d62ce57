/- The law of whatever arguments. -/
import Derived.Test.YtbifgoeoccjkoaaFnExactPlayWatchHas
set_option linter.unusedSimpArgs false
set_option linter.unusedVariables false
set_option linter.unusedSectionVars false
set_option maxRecDepth 100000
namespace Go.Proofs.Wb
open Go Go.Am
theorem law_FnExactPlayWatch (t0 t1 : T) (h0 : hasV Try.prog 20 37 t0) (h1 : hasV Try.prog 20 38 t1) : ACall Try.prog n_laws_FnExactPlayWatch [t0, t1] (fun r _ => r = .v (.bool true)) := by
  simp only [hasV, Try.underlying37] at h0
  obtain ⟨row0, rfl, l0, hh0⟩ := h0
  obtain ⟨x0, rfl, w0⟩ := has_Watch (n := 16) (l0.trans (by kernel_rfl)) hh0
  simp only [hasV, Try.underlying38] at h1
  obtain ⟨x1, rfl, w1⟩ := has_sl (WatchAct.row false) (WatchAct.wf) Try.underlying38 (by kernel_rfl) (fun r hl h => has_WatchAct hl h) h1
  apply FnExactPlayWatch_ok <;> assumption
end Go.Proofs.Wb

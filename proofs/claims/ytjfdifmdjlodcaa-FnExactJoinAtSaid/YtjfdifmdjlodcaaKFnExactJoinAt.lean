/- The law of whatever arguments. -/
import Derived.Test.YtjfdifmdjlodcaaFnExactJoinAtHas
set_option linter.unusedSimpArgs false
set_option linter.unusedVariables false
set_option linter.unusedSectionVars false
set_option maxRecDepth 100000
namespace Go.Proofs.Wb
open Go Go.Am
theorem law_FnExactJoinAt (t0 t1 : T) (h0 : hasV Try.prog 20 25 t0) (h1 : hasV Try.prog 20 3 t1) : ACall Try.prog n_laws_FnExactJoinAt [t0, t1] (fun r _ => r = .v (.bool true)) := by
  simp only [hasV, Try.underlying25] at h0
  obtain ⟨row0, rfl, l0, hh0⟩ := h0
  obtain ⟨x0, rfl, w0⟩ := has_Places (n := 17) (l0.trans (by kernel_rfl)) hh0
  simp only [hasV, Try.underlying3] at h1
  obtain ⟨x1, rfl, w1⟩ := has_int Try.underlying3 h1
  apply FnExactJoinAt_ok <;> assumption
end Go.Proofs.Wb

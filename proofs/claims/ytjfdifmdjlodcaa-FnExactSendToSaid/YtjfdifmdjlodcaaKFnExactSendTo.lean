/- The law of whatever arguments. -/
import Derived.Test.YtjfdifmdjlodcaaFnExactSendToHas
set_option linter.unusedSimpArgs false
set_option linter.unusedVariables false
set_option linter.unusedSectionVars false
set_option maxRecDepth 100000
namespace Go.Proofs.Wb
open Go Go.Am
theorem law_FnExactSendTo (t0 t1 t2 t3 : T) (h0 : hasV Try.prog 20 36 t0) (h1 : hasV Try.prog 20 3 t1) (h2 : hasV Try.prog 20 3 t2) (h3 : hasV Try.prog 20 9 t3) : ACall Try.prog n_laws_FnExactSendTo [t0, t1, t2, t3] (fun r _ => r = .v (.bool true)) := by
  simp only [hasV, Try.underlying36] at h0
  obtain ⟨row0, rfl, l0, hh0⟩ := h0
  obtain ⟨x0, rfl, w0⟩ := has_Net (n := 16) (l0.trans (by kernel_rfl)) hh0
  simp only [hasV, Try.underlying3] at h1
  obtain ⟨x1, rfl, w1⟩ := has_int Try.underlying3 h1
  simp only [hasV, Try.underlying3] at h2
  obtain ⟨x2, rfl, w2⟩ := has_int Try.underlying3 h2
  simp only [hasV, Try.underlying9] at h3
  obtain ⟨x3, rfl, w3⟩ := has_str Try.underlying9 h3
  apply FnExactSendTo_ok <;> assumption
end Go.Proofs.Wb

/- The law of whatever arguments. -/
import Derived.Test.YtalbfdhdbgcikaaGreatDoorFnFairItoa
set_option linter.unusedSimpArgs false
set_option linter.unusedVariables false
set_option linter.unusedSectionVars false
set_option maxRecDepth 100000
namespace Go.Proofs.Wb
open Go Go.Am
theorem law_FnFair (t0 : T) (h0 : hasV Tryz.prog 20 44 t0) : ACall Tryz.prog n_laws_FnFair [t0] (fun r _ => r = .v (.bool true)) := by
  simp only [hasV, Tryz.underlying44] at h0
  obtain ⟨x0, rfl, w0⟩ := has_sl (fun x => [.v (.int .u8 x)]) (fun n => 0 ≤ n ∧ n ≤ 255) Tryz.underlying44 (by kernel_rfl) (fun r hl h => one_row (F := fun x => u8v x) (Q := fun n => 0 ≤ n ∧ n ≤ 255) hl (fun c hc => has_u8 Tryz.underlying5 (hc ▸ h))) h0
  have hI := itoaH
  have hR := readIntH
  apply FnFair_ok <;> assumption
end Go.Proofs.Wb

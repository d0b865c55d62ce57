/- The law of whatever arguments. -/
import Derived.Test.YtfjieglppmcelaaFnSealsHas
set_option linter.unusedSimpArgs false
set_option linter.unusedVariables false
set_option linter.unusedSectionVars false
set_option maxRecDepth 100000
namespace Go.Proofs.Wb
open Go Go.Am
theorem law_FnSeals (t0 t1 : T) (h0 : hasV Try.prog 20 22 t0) (h1 : hasV Try.prog 20 22 t1) : ACall Try.prog n_laws_FnSeals [t0, t1] (fun r _ => r = .v (.bool true)) := by
  simp only [hasV, Try.underlying22] at h0
  obtain ⟨x0, rfl, w0⟩ := has_sl (fun x => [.v (.int .u8 x)]) (fun n => 0 ≤ n ∧ n ≤ 255) Try.underlying22 (by kernel_rfl) (fun r hl h => one_row (F := fun x => u8v x) (Q := fun n => 0 ≤ n ∧ n ≤ 255) hl (fun c hc => has_u8 Try.underlying5 (hc ▸ h))) h0
  simp only [hasV, Try.underlying22] at h1
  obtain ⟨x1, rfl, w1⟩ := has_sl (fun x => [.v (.int .u8 x)]) (fun n => 0 ≤ n ∧ n ≤ 255) Try.underlying22 (by kernel_rfl) (fun r hl h => one_row (F := fun x => u8v x) (Q := fun n => 0 ≤ n ∧ n ≤ 255) hl (fun c hc => has_u8 Try.underlying5 (hc ▸ h))) h1
  apply FnSeals_ok <;> assumption
end Go.Proofs.Wb

/- The law of whatever arguments. -/
import Derived.Test.YtpkhdekgoppcmaaGreatFnExactNewWorldHas
set_option linter.all false
set_option maxRecDepth 100000
namespace Go.Proofs.Wb
open Go Go.Am
theorem law_FnExactNewWorld (t0 t1 t2 : T) (h0 : hasV Tryz.prog 20 22 t0) (h1 : hasV Tryz.prog 20 23 t1) (h2 : hasV Tryz.prog 20 24 t2) : ACall Tryz.prog 3 [t0, t1, t2] (fun r _ => r = .v (.bool true)) := by
 simp only [hasV, Tryz.underlying22] at h0
 obtain ⟨x0, rfl, w0⟩ := has_sl (fun x => [str x]) (fun s => s.size ≤ maxLen) Tryz.underlying22 (by kernel_rfl) (fun r hl h => one_row (F := fun x => str x) (Q := fun s => s.size ≤ maxLen) hl (fun c hc => has_str Tryz.underlying9 (hc ▸ h))) h0
 simp only [hasV, Tryz.underlying23] at h1
 obtain ⟨x1, rfl, w1⟩ := has_sl (fun y => [.sl false 4 (y.map (Op.row false))]) (wfL (Op.wf)) Tryz.underlying23 (by kernel_rfl) (fun r hl h => one_row (F := fun y => .sl false 4 (y.map (Op.row false))) (Q := wfL (Op.wf)) hl (fun c hc => has_sl (Op.row false) (Op.wf) Tryz.underlying50 (by kernel_rfl) (fun r hl h => has_Op hl h) (hc ▸ h))) h1
 simp only [hasV, Tryz.underlying24] at h2
 obtain ⟨x2, rfl, w2⟩ := has_sl (fun y => [.sl false 1 (strs y)]) (wfL (fun s => s.size ≤ maxLen)) Tryz.underlying24 (by kernel_rfl) (fun r hl h => one_row (F := fun y => .sl false 1 (strs y)) (Q := wfL (fun s => s.size ≤ maxLen)) hl (fun c hc => has_sl (fun x => [str x]) (fun s => s.size ≤ maxLen) Tryz.underlying22 (by kernel_rfl) (fun r hl h => one_row (F := fun x => str x) (Q := fun s => s.size ≤ maxLen) hl (fun c hc => has_str Tryz.underlying9 (hc ▸ h))) (hc ▸ h))) h2
 apply FnExactNewWorld_ok <;> assumption
end Go.Proofs.Wb

/- Arguments as things of their types. -/
import Derived.Test.YtomglfeidihbnaaA2
import Derived.Test.YtomglfeidihbnaaAmRead
set_option linter.unusedSimpArgs false
set_option linter.unusedVariables false
set_option linter.unusedSectionVars false
set_option maxRecDepth 100000
namespace Go.Proofs.Wb
open Go Go.Am
theorem has_Places {n : Nat} {row : List T} (hl : row.length = 3) (h : has Try.prog (n + 3) 60 row) : ∃ x : Places, row = Places.row false x ∧ x.wf := by
  match row, hl with
  | [c0, c1, c2], _ =>
    simp only [has, Try.underlying60] at h
    have hh := h
    have f0 : has Try.prog (n + 1 + 1) 3 [c0] := hh 0 _ rfl
    obtain ⟨v0, rfl, w0⟩ := has_int Try.underlying3 f0
    have f1 : has Try.prog (n + 0 + 2) 58 [c1] := hh 1 _ rfl
    obtain ⟨v1, rfl, w1⟩ := has_sl (fun x => [str x]) (fun s => s.size ≤ maxLen) Try.underlying58 (by kernel_rfl) (fun r hl h => one_row (F := fun x => str x) (Q := fun s => s.size ≤ maxLen) hl (fun c hc => has_str Try.underlying9 (hc ▸ h))) f1
    have f2 : has Try.prog (n + 0 + 2) 35 [c2] := hh 2 _ rfl
    obtain ⟨v2, rfl, w2⟩ := has_sl (fun x => [i64 x]) (fun n => -9223372036854775808 ≤ n ∧ n ≤ 9223372036854775807) Try.underlying35 (by kernel_rfl) (fun r hl h => one_row (F := fun x => i64 x) (Q := fun n => -9223372036854775808 ≤ n ∧ n ≤ 9223372036854775807) hl (fun c hc => has_int Try.underlying3 (hc ▸ h))) f2
    exact ⟨⟨v0, v1, v2⟩, rfl, ⟨w0, w1, w2⟩⟩
end Go.Proofs.Wb

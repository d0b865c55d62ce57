/- Arguments as things of their types. -/
import Derived.Test.YtjfdifmdjlodcaaFnExactSendToD3
import Derived.Test.YtjfdifmdjlodcaaAmRead
set_option linter.unusedSimpArgs false
set_option linter.unusedVariables false
set_option linter.unusedSectionVars false
set_option maxRecDepth 100000
namespace Go.Proofs.Wb
open Go Go.Am
theorem has_Letter {n : Nat} {row : List T} (hl : row.length = 4) (h : has Try.prog (n + 2) 86 row) : ∃ x : Letter, row = Letter.row false x ∧ x.wf := by
  match row, hl with
  | [c0, c1, c2, c3], _ =>
    unfold has at h
    simp only [Try.underlying86] at h
    have hh := h
    have f0 : has Try.prog (n + 0 + 1) 3 [c0] := hh 0 _ rfl
    obtain ⟨v0, rfl, w0⟩ := has_int Try.underlying3 f0
    have f1 : has Try.prog (n + 0 + 1) 3 [c1] := hh 1 _ rfl
    obtain ⟨v1, rfl, w1⟩ := has_int Try.underlying3 f1
    have f2 : has Try.prog (n + 0 + 1) 3 [c2] := hh 2 _ rfl
    obtain ⟨v2, rfl, w2⟩ := has_int Try.underlying3 f2
    have f3 : has Try.prog (n + 0 + 1) 9 [c3] := hh 3 _ rfl
    obtain ⟨v3, rfl, w3⟩ := has_str Try.underlying9 f3
    exact ⟨⟨v0, v1, v2, v3⟩, rfl, ⟨w0, w1, w2, w3⟩⟩
theorem has_Places {n : Nat} {row : List T} (hl : row.length = 3) (h : has Try.prog (n + 3) 25 row) : ∃ x : Places, row = Places.row false x ∧ x.wf := by
  match row, hl with
  | [c0, c1, c2], _ =>
    unfold has at h
    simp only [Try.underlying25] at h
    have hh := h
    have f0 : has Try.prog (n + 1 + 1) 3 [c0] := hh 0 _ rfl
    obtain ⟨v0, rfl, w0⟩ := has_int Try.underlying3 f0
    have f1 : has Try.prog (n + 0 + 2) 22 [c1] := hh 1 _ rfl
    obtain ⟨v1, rfl, w1⟩ := has_sl (fun x => [str x]) (fun s => s.size ≤ maxLen) Try.underlying22 (by kernel_rfl) (fun r hl h => one_row (F := fun x => str x) (Q := fun s => s.size ≤ maxLen) hl (fun c hc => has_str Try.underlying9 (hc ▸ h))) f1
    have f2 : has Try.prog (n + 0 + 2) 23 [c2] := hh 2 _ rfl
    obtain ⟨v2, rfl, w2⟩ := has_sl (fun x => [i64 x]) (fun n => -9223372036854775808 ≤ n ∧ n ≤ 9223372036854775807) Try.underlying23 (by kernel_rfl) (fun r hl h => one_row (F := fun x => i64 x) (Q := fun n => -9223372036854775808 ≤ n ∧ n ≤ 9223372036854775807) hl (fun c hc => has_int Try.underlying3 (hc ▸ h))) f2
    exact ⟨⟨v0, v1, v2⟩, rfl, ⟨w0, w1, w2⟩⟩
theorem has_Net {n : Nat} {row : List T} (hl : row.length = 4) (h : has Try.prog (n + 4) 36 row) : ∃ x : Net, row = Net.row false x ∧ x.wf := by
  match row, hl with
  | [c0, c1, c2, c3], _ =>
    unfold has at h
    simp only [Try.underlying36] at h
    have hh := h
    have f0 : has Try.prog (n + 2 + 1) 3 [c0] := hh 0 _ rfl
    obtain ⟨v0, rfl, w0⟩ := has_int Try.underlying3 f0
    have f1 : has Try.prog (n + 1 + 2) 23 [c1] := hh 1 _ rfl
    obtain ⟨v1, rfl, w1⟩ := has_sl (fun x => [i64 x]) (fun n => -9223372036854775808 ≤ n ∧ n ≤ 9223372036854775807) Try.underlying23 (by kernel_rfl) (fun r hl h => one_row (F := fun x => i64 x) (Q := fun n => -9223372036854775808 ≤ n ∧ n ≤ 9223372036854775807) hl (fun c hc => has_int Try.underlying3 (hc ▸ h))) f1
    have f2 : has Try.prog (n + 2 + 1) 3 [c2] := hh 2 _ rfl
    obtain ⟨v2, rfl, w2⟩ := has_int Try.underlying3 f2
    have f3 : has Try.prog (n + 0 + 3) 34 [c3] := hh 3 _ rfl
    obtain ⟨v3, rfl, w3⟩ := has_sl (Letter.row false) (Letter.wf) Try.underlying34 (by kernel_rfl) (fun r hl h => has_Letter hl h) f3
    exact ⟨⟨v0, v1, v2, v3⟩, rfl, ⟨w0, w1, w2, w3⟩⟩
end Go.Proofs.Wb

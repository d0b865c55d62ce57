/- Arguments as things of their types. -/
import Derived.Test.YtdahmcffofifdaaFnExactDeliverC2
import Derived.Test.YtdahmcffofifdaaAmRead
set_option linter.unusedSimpArgs false
set_option linter.unusedVariables false
set_option linter.unusedSectionVars false
set_option maxRecDepth 100000
namespace Go.Proofs.Wb
open Go Go.Am
theorem has_Got {n : Nat} {row : List T} (hl : row.length = 3) (h : has Try.prog (n + 2) 119 row) : ∃ x : Got, row = Got.row false x ∧ x.wf := by
  match row, hl with
  | [c0, c1, c2], _ =>
    simp only [has, Try.underlying119] at h
    have hh := h
    have f0 : has Try.prog (n + 0 + 1) 9 [c0] := hh 0 _ rfl
    obtain ⟨v0, rfl, w0⟩ := has_str Try.underlying9 f0
    have f1 : has Try.prog (n + 0 + 1) 9 [c1] := hh 1 _ rfl
    obtain ⟨v1, rfl, w1⟩ := has_str Try.underlying9 f1
    have f2 : has Try.prog (n + 0 + 1) 4 [c2] := hh 2 _ rfl
    obtain ⟨v2, rfl⟩ := has_bool Try.underlying4 f2
    exact ⟨⟨v0, v1, v2⟩, rfl, ⟨w0, w1⟩⟩
theorem has_Letter {n : Nat} {row : List T} (hl : row.length = 4) (h : has Try.prog (n + 2) 132 row) : ∃ x : Letter, row = Letter.row false x ∧ x.wf := by
  match row, hl with
  | [c0, c1, c2, c3], _ =>
    simp only [has, Try.underlying132] at h
    have hh := h
    have f0 : has Try.prog (n + 0 + 1) 3 [c0] := hh 0 _ rfl
    obtain ⟨v0, rfl, w0⟩ := has_int Try.underlying3 f0
    have f1 : has Try.prog (n + 0 + 1) 3 [c1] := hh 1 _ rfl
    obtain ⟨v1, rfl, w1⟩ := has_int Try.underlying3 f1
    have f2 : has Try.prog (n + 0 + 1) 3 [c2] := hh 2 _ rfl
    obtain ⟨v2, rfl, w2⟩ := has_int Try.underlying3 f2
    have f3 : has Try.prog (n + 0 + 1) 9 [c3] := hh 3 _ rfl
    obtain ⟨v3, rfl, w3⟩ := has_str Try.underlying9 f3
    exact ⟨⟨v0, v1, v2, v3⟩, rfl, ⟨w0, w1, w2, w3⟩⟩
theorem has_Write {n : Nat} {row : List T} (hl : row.length = 3) (h : has Try.prog (n + 2) 122 row) : ∃ x : Write, row = Write.row false x ∧ x.wf := by
  match row, hl with
  | [c0, c1, c2], _ =>
    simp only [has, Try.underlying122] at h
    have hh := h
    have f0 : has Try.prog (n + 0 + 1) 9 [c0] := hh 0 _ rfl
    obtain ⟨v0, rfl, w0⟩ := has_str Try.underlying9 f0
    have f1 : has Try.prog (n + 0 + 1) 9 [c1] := hh 1 _ rfl
    obtain ⟨v1, rfl, w1⟩ := has_str Try.underlying9 f1
    have f2 : has Try.prog (n + 0 + 1) 4 [c2] := hh 2 _ rfl
    obtain ⟨v2, rfl⟩ := has_bool Try.underlying4 f2
    exact ⟨⟨v0, v1, v2⟩, rfl, ⟨w0, w1⟩⟩
theorem has_Voter {n : Nat} {row : List T} (hl : row.length = 5) (h : has Try.prog (n + 3) 142 row) : ∃ x : Voter, row = Voter.row false x ∧ x.wf := by
  match row, hl with
  | [c0, c1, c2, c3, c4], _ =>
    simp only [has, Try.underlying142] at h
    have hh := h
    have f0 : has Try.prog (n + 1 + 1) 4 [c0] := hh 0 _ rfl
    obtain ⟨v0, rfl⟩ := has_bool Try.underlying4 f0
    have f1 : has Try.prog (n + 1 + 1) 3 [c1] := hh 1 _ rfl
    obtain ⟨v1, rfl, w1⟩ := has_int Try.underlying3 f1
    have f2 : has Try.prog (n + 1 + 1) 3 [c2] := hh 2 _ rfl
    obtain ⟨v2, rfl, w2⟩ := has_int Try.underlying3 f2
    have f3 : has Try.prog (n + 0 + 2) 36 [c3] := hh 3 _ rfl
    obtain ⟨v3, rfl, w3⟩ := has_sl (fun x => [i64 x]) (fun n => -9223372036854775808 ≤ n ∧ n ≤ 9223372036854775807) Try.underlying36 (by kernel_rfl) (fun r hl h => one_row (F := fun x => i64 x) (Q := fun n => -9223372036854775808 ≤ n ∧ n ≤ 9223372036854775807) hl (fun c hc => has_int Try.underlying3 (hc ▸ h))) f3
    have f4 : has Try.prog (n + 1 + 1) 4 [c4] := hh 4 _ rfl
    obtain ⟨v4, rfl⟩ := has_bool Try.underlying4 f4
    exact ⟨⟨v0, v1, v2, v3, v4⟩, rfl, ⟨w1, w2, w3⟩⟩
theorem has_Won {n : Nat} {row : List T} (hl : row.length = 2) (h : has Try.prog (n + 2) 145 row) : ∃ x : Won, row = Won.row false x ∧ x.wf := by
  match row, hl with
  | [c0, c1], _ =>
    simp only [has, Try.underlying145] at h
    have hh := h
    have f0 : has Try.prog (n + 0 + 1) 3 [c0] := hh 0 _ rfl
    obtain ⟨v0, rfl, w0⟩ := has_int Try.underlying3 f0
    have f1 : has Try.prog (n + 0 + 1) 3 [c1] := hh 1 _ rfl
    obtain ⟨v1, rfl, w1⟩ := has_int Try.underlying3 f1
    exact ⟨⟨v0, v1⟩, rfl, ⟨w0, w1⟩⟩
theorem has_Deed {n : Nat} {row : List T} (hl : row.length = 8) (h : has Try.prog (n + 4) 25 row) : ∃ x : Deed, row = Deed.row false x ∧ x.wf := by
  match row, hl with
  | [c0, c1, c2, c3, c4, c5, c6, c7], _ =>
    simp only [has, Try.underlying25] at h
    have hh := h
    have f0 : has Try.prog (n + 2 + 1) 3 [c0] := hh 0 _ rfl
    obtain ⟨v0, rfl, w0⟩ := has_int Try.underlying3 f0
    have f1 : has Try.prog (n + 2 + 1) 3 [c1] := hh 1 _ rfl
    obtain ⟨v1, rfl, w1⟩ := has_int Try.underlying3 f1
    have f2 : has Try.prog (n + 2 + 1) 3 [c2] := hh 2 _ rfl
    obtain ⟨v2, rfl, w2⟩ := has_int Try.underlying3 f2
    have f3 : has Try.prog (n + 2 + 1) 4 [c3] := hh 3 _ rfl
    obtain ⟨v3, rfl⟩ := has_bool Try.underlying4 f3
    have f4 : has Try.prog (n + 2 + 1) 4 [c4] := hh 4 _ rfl
    obtain ⟨v4, rfl⟩ := has_bool Try.underlying4 f4
    have f5 : has Try.prog (n + 2 + 1) 3 [c5] := hh 5 _ rfl
    obtain ⟨v5, rfl, w5⟩ := has_int Try.underlying3 f5
    have f6 : has Try.prog (n + 0 + 3) 22 [c6] := hh 6 _ rfl
    obtain ⟨v6, rfl, w6⟩ := has_sl (Got.row false) (Got.wf) Try.underlying22 (by kernel_rfl) (fun r hl h => has_Got hl h) f6
    have f7 : has Try.prog (n + 0 + 3) 23 [c7] := hh 7 _ rfl
    obtain ⟨v7, rfl, w7⟩ := has_sl (Write.row false) (Write.wf) Try.underlying23 (by kernel_rfl) (fun r hl h => has_Write hl h) f7
    exact ⟨⟨v0, v1, v2, v3, v4, v5, v6, v7⟩, rfl, ⟨w0, w1, w2, w5, w6, w7⟩⟩
theorem has_Net {n : Nat} {row : List T} (hl : row.length = 4) (h : has Try.prog (n + 4) 39 row) : ∃ x : Net, row = Net.row false x ∧ x.wf := by
  match row, hl with
  | [c0, c1, c2, c3], _ =>
    simp only [has, Try.underlying39] at h
    have hh := h
    have f0 : has Try.prog (n + 2 + 1) 3 [c0] := hh 0 _ rfl
    obtain ⟨v0, rfl, w0⟩ := has_int Try.underlying3 f0
    have f1 : has Try.prog (n + 1 + 2) 36 [c1] := hh 1 _ rfl
    obtain ⟨v1, rfl, w1⟩ := has_sl (fun x => [i64 x]) (fun n => -9223372036854775808 ≤ n ∧ n ≤ 9223372036854775807) Try.underlying36 (by kernel_rfl) (fun r hl h => one_row (F := fun x => i64 x) (Q := fun n => -9223372036854775808 ≤ n ∧ n ≤ 9223372036854775807) hl (fun c hc => has_int Try.underlying3 (hc ▸ h))) f1
    have f2 : has Try.prog (n + 2 + 1) 3 [c2] := hh 2 _ rfl
    obtain ⟨v2, rfl, w2⟩ := has_int Try.underlying3 f2
    have f3 : has Try.prog (n + 0 + 3) 37 [c3] := hh 3 _ rfl
    obtain ⟨v3, rfl, w3⟩ := has_sl (Letter.row false) (Letter.wf) Try.underlying37 (by kernel_rfl) (fun r hl h => has_Letter hl h) f3
    exact ⟨⟨v0, v1, v2, v3⟩, rfl, ⟨w0, w1, w2, w3⟩⟩
theorem has_Poll {n : Nat} {row : List T} (hl : row.length = 6) (h : has Try.prog (n + 5) 66 row) : ∃ x : Poll, row = Poll.row false x ∧ x.wf := by
  match row, hl with
  | [c0, c1, c2, c3, c4, c5], _ =>
    simp only [has, Try.underlying66] at h
    have hh := h
    have f0 : has Try.prog (n + 0 + 4) 63 [c0] := hh 0 _ rfl
    obtain ⟨v0, rfl, w0⟩ := has_sl (Voter.row false) (Voter.wf) Try.underlying63 (by kernel_rfl) (fun r hl h => has_Voter hl h) f0
    have f1 : has Try.prog (n + 0 + 4) 39 [c1, c2, c3, c4] := hh 1 _ rfl
    obtain ⟨v1, e1, w1⟩ := has_Net rfl f1
    have f2 : has Try.prog (n + 1 + 3) 64 [c5] := hh 2 _ rfl
    obtain ⟨v2, rfl, w2⟩ := has_sl (Won.row false) (Won.wf) Try.underlying64 (by kernel_rfl) (fun r hl h => has_Won hl h) f2
    simp only [Net.row, List.cons.injEq, and_true] at e1
    obtain ⟨rfl, rfl, rfl, rfl⟩ := e1
    exact ⟨⟨v0, v1, v2⟩, rfl, ⟨w0, w1, w2⟩⟩
end Go.Proofs.Wb

import Derived.Test.YtalbfdhdbgcikaaGreatDoorFnExactPlayPollP4
import Derived.Test.YtalbfdhdbgcikaaGreatDoorAmRead
set_option linter.unusedSimpArgs false
set_option linter.unusedVariables false
set_option linter.unusedSectionVars false
set_option maxRecDepth 100000
namespace Go.Proofs.Wb
open Go Go.Am
theorem has_Letter {n : Nat} {row : List T} (hl : row.length = 4) (h : has Tryz.prog (n + 2) 150 row) : ∃ x : Letter, row = Letter.row false x ∧ x.wf := by
  match row, hl with
  | [c0, c1, c2, c3], _ =>
    unfold has at h
    simp only [Tryz.underlying150] at h
    have hh := h
    have f0 : has Tryz.prog (n + 0 + 1) 3 [c0] := hh 0 _ rfl
    obtain ⟨v0, rfl, w0⟩ := has_int Tryz.underlying3 f0
    have f1 : has Tryz.prog (n + 0 + 1) 3 [c1] := hh 1 _ rfl
    obtain ⟨v1, rfl, w1⟩ := has_int Tryz.underlying3 f1
    have f2 : has Tryz.prog (n + 0 + 1) 3 [c2] := hh 2 _ rfl
    obtain ⟨v2, rfl, w2⟩ := has_int Tryz.underlying3 f2
    have f3 : has Tryz.prog (n + 0 + 1) 9 [c3] := hh 3 _ rfl
    obtain ⟨v3, rfl, w3⟩ := has_str Tryz.underlying9 f3
    exact ⟨⟨v0, v1, v2, v3⟩, rfl, ⟨w0, w1, w2, w3⟩⟩
theorem has_PollAct {n : Nat} {row : List T} (hl : row.length = 3) (h : has Tryz.prog (n + 2) 103 row) : ∃ x : PollAct, row = PollAct.row false x ∧ x.wf := by
  match row, hl with
  | [c0, c1, c2], _ =>
    unfold has at h
    simp only [Tryz.underlying103] at h
    have hh := h
    have f0 : has Tryz.prog (n + 0 + 1) 3 [c0] := hh 0 _ rfl
    obtain ⟨v0, rfl, w0⟩ := has_int Tryz.underlying3 f0
    have f1 : has Tryz.prog (n + 0 + 1) 3 [c1] := hh 1 _ rfl
    obtain ⟨v1, rfl, w1⟩ := has_int Tryz.underlying3 f1
    have f2 : has Tryz.prog (n + 0 + 1) 3 [c2] := hh 2 _ rfl
    obtain ⟨v2, rfl, w2⟩ := has_int Tryz.underlying3 f2
    exact ⟨⟨v0, v1, v2⟩, rfl, ⟨w0, w1, w2⟩⟩
theorem has_Voter {n : Nat} {row : List T} (hl : row.length = 5) (h : has Tryz.prog (n + 3) 110 row) : ∃ x : Voter, row = Voter.row false x ∧ x.wf := by
  match row, hl with
  | [c0, c1, c2, c3, c4], _ =>
    unfold has at h
    simp only [Tryz.underlying110] at h
    have hh := h
    have f0 : has Tryz.prog (n + 1 + 1) 4 [c0] := hh 0 _ rfl
    obtain ⟨v0, rfl⟩ := has_bool Tryz.underlying4 f0
    have f1 : has Tryz.prog (n + 1 + 1) 3 [c1] := hh 1 _ rfl
    obtain ⟨v1, rfl, w1⟩ := has_int Tryz.underlying3 f1
    have f2 : has Tryz.prog (n + 1 + 1) 3 [c2] := hh 2 _ rfl
    obtain ⟨v2, rfl, w2⟩ := has_int Tryz.underlying3 f2
    have f3 : has Tryz.prog (n + 0 + 2) 23 [c3] := hh 3 _ rfl
    obtain ⟨v3, rfl, w3⟩ := has_sl (fun x => [i64 x]) (fun n => -9223372036854775808 ≤ n ∧ n ≤ 9223372036854775807) Tryz.underlying23 (by kernel_rfl) (fun r hl h => one_row (F := fun x => i64 x) (Q := fun n => -9223372036854775808 ≤ n ∧ n ≤ 9223372036854775807) hl (fun c hc => has_int Tryz.underlying3 (hc ▸ h))) f3
    have f4 : has Tryz.prog (n + 1 + 1) 4 [c4] := hh 4 _ rfl
    obtain ⟨v4, rfl⟩ := has_bool Tryz.underlying4 f4
    exact ⟨⟨v0, v1, v2, v3, v4⟩, rfl, ⟨w1, w2, w3⟩⟩
theorem has_Won {n : Nat} {row : List T} (hl : row.length = 2) (h : has Tryz.prog (n + 2) 119 row) : ∃ x : Won, row = Won.row false x ∧ x.wf := by
  match row, hl with
  | [c0, c1], _ =>
    unfold has at h
    simp only [Tryz.underlying119] at h
    have hh := h
    have f0 : has Tryz.prog (n + 0 + 1) 3 [c0] := hh 0 _ rfl
    obtain ⟨v0, rfl, w0⟩ := has_int Tryz.underlying3 f0
    have f1 : has Tryz.prog (n + 0 + 1) 3 [c1] := hh 1 _ rfl
    obtain ⟨v1, rfl, w1⟩ := has_int Tryz.underlying3 f1
    exact ⟨⟨v0, v1⟩, rfl, ⟨w0, w1⟩⟩
theorem has_Net {n : Nat} {row : List T} (hl : row.length = 4) (h : has Tryz.prog (n + 4) 26 row) : ∃ x : Net, row = Net.row false x ∧ x.wf := by
  match row, hl with
  | [c0, c1, c2, c3], _ =>
    unfold has at h
    simp only [Tryz.underlying26] at h
    have hh := h
    have f0 : has Tryz.prog (n + 2 + 1) 3 [c0] := hh 0 _ rfl
    obtain ⟨v0, rfl, w0⟩ := has_int Tryz.underlying3 f0
    have f1 : has Tryz.prog (n + 1 + 2) 23 [c1] := hh 1 _ rfl
    obtain ⟨v1, rfl, w1⟩ := has_sl (fun x => [i64 x]) (fun n => -9223372036854775808 ≤ n ∧ n ≤ 9223372036854775807) Tryz.underlying23 (by kernel_rfl) (fun r hl h => one_row (F := fun x => i64 x) (Q := fun n => -9223372036854775808 ≤ n ∧ n ≤ 9223372036854775807) hl (fun c hc => has_int Tryz.underlying3 (hc ▸ h))) f1
    have f2 : has Tryz.prog (n + 2 + 1) 3 [c2] := hh 2 _ rfl
    obtain ⟨v2, rfl, w2⟩ := has_int Tryz.underlying3 f2
    have f3 : has Tryz.prog (n + 0 + 3) 24 [c3] := hh 3 _ rfl
    obtain ⟨v3, rfl, w3⟩ := has_sl (Letter.row false) (Letter.wf) Tryz.underlying24 (by kernel_rfl) (fun r hl h => has_Letter hl h) f3
    exact ⟨⟨v0, v1, v2, v3⟩, rfl, ⟨w0, w1, w2, w3⟩⟩
theorem has_Poll {n : Nat} {row : List T} (hl : row.length = 6) (h : has Tryz.prog (n + 5) 29 row) : ∃ x : Poll, row = Poll.row false x ∧ x.wf := by
  match row, hl with
  | [c0, c1, c2, c3, c4, c5], _ =>
    unfold has at h
    simp only [Tryz.underlying29] at h
    have hh := h
    have f0 : has Tryz.prog (n + 0 + 4) 22 [c0] := hh 0 _ rfl
    obtain ⟨v0, rfl, w0⟩ := has_sl (Voter.row false) (Voter.wf) Tryz.underlying22 (by kernel_rfl) (fun r hl h => has_Voter hl h) f0
    have f1 : has Tryz.prog (n + 0 + 4) 26 [c1, c2, c3, c4] := hh 1 _ rfl
    obtain ⟨v1, e1, w1⟩ := has_Net rfl f1
    have f2 : has Tryz.prog (n + 1 + 3) 27 [c5] := hh 2 _ rfl
    obtain ⟨v2, rfl, w2⟩ := has_sl (Won.row false) (Won.wf) Tryz.underlying27 (by kernel_rfl) (fun r hl h => has_Won hl h) f2
    simp only [Net.row, List.cons.injEq, and_true] at e1
    obtain ⟨rfl, rfl, rfl, rfl⟩ := e1
    exact ⟨⟨v0, v1, v2⟩, rfl, ⟨w0, w1, w2⟩⟩
end Go.Proofs.Wb

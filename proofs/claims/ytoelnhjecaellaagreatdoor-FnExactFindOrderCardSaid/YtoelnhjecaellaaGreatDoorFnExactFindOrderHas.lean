import Derived.Test.YtoelnhjecaellaaGreatDoorFnExactFindOrderG1
import Derived.Test.YtoelnhjecaellaaGreatDoorAmRead
set_option linter.unusedSimpArgs false
set_option linter.unusedVariables false
set_option linter.unusedSectionVars false
set_option maxRecDepth 100000
namespace Go.Proofs.Wb
open Go Go.Am
theorem has_Got {n : Nat} {row : List T} (hl : row.length = 3) (h : has Tryz.prog (n + 2) 78 row) : ∃ x : Got, row = Got.row false x ∧ x.wf := by
  match row, hl with
  | [c0, c1, c2], _ =>
    unfold has at h
    simp only [Tryz.underlying78] at h
    have hh := h
    have f0 : has Tryz.prog (n + 0 + 1) 9 [c0] := hh 0 _ rfl
    obtain ⟨v0, rfl, w0⟩ := has_str Tryz.underlying9 f0
    have f1 : has Tryz.prog (n + 0 + 1) 9 [c1] := hh 1 _ rfl
    obtain ⟨v1, rfl, w1⟩ := has_str Tryz.underlying9 f1
    have f2 : has Tryz.prog (n + 0 + 1) 4 [c2] := hh 2 _ rfl
    obtain ⟨v2, rfl⟩ := has_bool Tryz.underlying4 f2
    exact ⟨⟨v0, v1, v2⟩, rfl, ⟨w0, w1⟩⟩
theorem has_Write {n : Nat} {row : List T} (hl : row.length = 3) (h : has Tryz.prog (n + 2) 80 row) : ∃ x : Write, row = Write.row false x ∧ x.wf := by
  match row, hl with
  | [c0, c1, c2], _ =>
    unfold has at h
    simp only [Tryz.underlying80] at h
    have hh := h
    have f0 : has Tryz.prog (n + 0 + 1) 9 [c0] := hh 0 _ rfl
    obtain ⟨v0, rfl, w0⟩ := has_str Tryz.underlying9 f0
    have f1 : has Tryz.prog (n + 0 + 1) 9 [c1] := hh 1 _ rfl
    obtain ⟨v1, rfl, w1⟩ := has_str Tryz.underlying9 f1
    have f2 : has Tryz.prog (n + 0 + 1) 4 [c2] := hh 2 _ rfl
    obtain ⟨v2, rfl⟩ := has_bool Tryz.underlying4 f2
    exact ⟨⟨v0, v1, v2⟩, rfl, ⟨w0, w1⟩⟩
theorem has_Deed {n : Nat} {row : List T} (hl : row.length = 8) (h : has Tryz.prog (n + 4) 38 row) : ∃ x : Deed, row = Deed.row false x ∧ x.wf := by
  match row, hl with
  | [c0, c1, c2, c3, c4, c5, c6, c7], _ =>
    unfold has at h
    simp only [Tryz.underlying38] at h
    have hh := h
    have f0 : has Tryz.prog (n + 2 + 1) 3 [c0] := hh 0 _ rfl
    obtain ⟨v0, rfl, w0⟩ := has_int Tryz.underlying3 f0
    have f1 : has Tryz.prog (n + 2 + 1) 3 [c1] := hh 1 _ rfl
    obtain ⟨v1, rfl, w1⟩ := has_int Tryz.underlying3 f1
    have f2 : has Tryz.prog (n + 2 + 1) 3 [c2] := hh 2 _ rfl
    obtain ⟨v2, rfl, w2⟩ := has_int Tryz.underlying3 f2
    have f3 : has Tryz.prog (n + 2 + 1) 4 [c3] := hh 3 _ rfl
    obtain ⟨v3, rfl⟩ := has_bool Tryz.underlying4 f3
    have f4 : has Tryz.prog (n + 2 + 1) 4 [c4] := hh 4 _ rfl
    obtain ⟨v4, rfl⟩ := has_bool Tryz.underlying4 f4
    have f5 : has Tryz.prog (n + 2 + 1) 3 [c5] := hh 5 _ rfl
    obtain ⟨v5, rfl, w5⟩ := has_int Tryz.underlying3 f5
    have f6 : has Tryz.prog (n + 0 + 3) 35 [c6] := hh 6 _ rfl
    obtain ⟨v6, rfl, w6⟩ := has_sl (Got.row false) (Got.wf) Tryz.underlying35 (by kernel_rfl) (fun r hl h => has_Got hl h) f6
    have f7 : has Tryz.prog (n + 0 + 3) 36 [c7] := hh 7 _ rfl
    obtain ⟨v7, rfl, w7⟩ := has_sl (Write.row false) (Write.wf) Tryz.underlying36 (by kernel_rfl) (fun r hl h => has_Write hl h) f7
    exact ⟨⟨v0, v1, v2, v3, v4, v5, v6, v7⟩, rfl, ⟨w0, w1, w2, w5, w6, w7⟩⟩
end Go.Proofs.Wb

import Derived.Test.YtlcebphcohneaaaGreatFnExactReplicaLookNE
import Derived.Test.YtlcebphcohneaaaGreatAmRead
set_option linter.unusedSimpArgs false
set_option linter.unusedVariables false
set_option linter.unusedSectionVars false
set_option maxRecDepth 100000
namespace Go.Proofs.Wb
open Go Go.Am
theorem has_Write {n : Nat} {row : List T} (hl : row.length = 3) (h : has Tryz.prog (n + 2) 169 row) : ∃ x : Write, row = Write.row false x ∧ x.wf := by
 match row, hl with
 | [c0, c1, c2], _ =>
  unfold has at h
  simp only [Tryz.underlying169] at h
  have hh := h
  have f0 : has Tryz.prog (n + 0 + 1) 9 [c0] := hh 0 _ rfl
  obtain ⟨v0, rfl, w0⟩ := has_str Tryz.underlying9 f0
  have f1 : has Tryz.prog (n + 0 + 1) 9 [c1] := hh 1 _ rfl
  obtain ⟨v1, rfl, w1⟩ := has_str Tryz.underlying9 f1
  have f2 : has Tryz.prog (n + 0 + 1) 4 [c2] := hh 2 _ rfl
  obtain ⟨v2, rfl⟩ := has_bool Tryz.underlying4 f2
  exact ⟨⟨v0, v1, v2⟩, rfl, ⟨w0, w1⟩⟩
theorem has_Rec {n : Nat} {row : List T} (hl : row.length = 7) (h : has Tryz.prog (n + 4) 64 row) : ∃ x : Rec, row = Rec.row false x ∧ x.wf := by
 match row, hl with
 | [c0, c1, c2, c3, c4, c5, c6], _ =>
  unfold has at h
  simp only [Tryz.underlying64] at h
  have hh := h
  have f0 : has Tryz.prog (n + 2 + 1) 3 [c0] := hh 0 _ rfl
  obtain ⟨v0, rfl, w0⟩ := has_int Tryz.underlying3 f0
  have f1 : has Tryz.prog (n + 2 + 1) 3 [c1] := hh 1 _ rfl
  obtain ⟨v1, rfl, w1⟩ := has_int Tryz.underlying3 f1
  have f2 : has Tryz.prog (n + 2 + 1) 3 [c2] := hh 2 _ rfl
  obtain ⟨v2, rfl, w2⟩ := has_int Tryz.underlying3 f2
  have f3 : has Tryz.prog (n + 2 + 1) 3 [c3] := hh 3 _ rfl
  obtain ⟨v3, rfl, w3⟩ := has_int Tryz.underlying3 f3
  have f4 : has Tryz.prog (n + 1 + 2) 61 [c4] := hh 4 _ rfl
  obtain ⟨v4, rfl, w4⟩ := has_sl (fun x => [str x]) (fun s => s.size ≤ maxLen) Tryz.underlying61 (by kernel_rfl) (fun r hl h => one_row (F := fun x => str x) (Q := fun s => s.size ≤ maxLen) hl (fun c hc => has_str Tryz.underlying9 (hc ▸ h))) f4
  have f5 : has Tryz.prog (n + 0 + 3) 62 [c5] := hh 5 _ rfl
  obtain ⟨v5, rfl, w5⟩ := has_sl (Write.row false) (Write.wf) Tryz.underlying62 (by kernel_rfl) (fun r hl h => has_Write hl h) f5
  have f6 : has Tryz.prog (n + 2 + 1) 4 [c6] := hh 6 _ rfl
  obtain ⟨v6, rfl⟩ := has_bool Tryz.underlying4 f6
  exact ⟨⟨v0, v1, v2, v3, v4, v5, v6⟩, rfl, ⟨w0, w1, w2, w3, w4, w5⟩⟩
theorem has_Entry {n : Nat} {row : List T} (hl : row.length = 8) (h : has Tryz.prog (n + 5) 244 row) : ∃ x : Entry, row = Entry.row false x ∧ x.wf := by
 match row, hl with
 | [c0, c1, c2, c3, c4, c5, c6, c7], _ =>
  unfold has at h
  simp only [Tryz.underlying244] at h
  have hh := h
  have f0 : has Tryz.prog (n + 3 + 1) 3 [c0] := hh 0 _ rfl
  obtain ⟨v0, rfl, w0⟩ := has_int Tryz.underlying3 f0
  have f1 : has Tryz.prog (n + 0 + 4) 64 [c1, c2, c3, c4, c5, c6, c7] := hh 1 _ rfl
  obtain ⟨v1, e1, w1⟩ := has_Rec rfl f1
  simp only [Rec.row, List.cons.injEq, and_true] at e1
  obtain ⟨rfl, rfl, rfl, rfl, rfl, rfl, rfl⟩ := e1
  exact ⟨⟨v0, v1⟩, rfl, ⟨w0, w1⟩⟩
theorem has_Replica {n : Nat} {row : List T} (hl : row.length = 3) (h : has Tryz.prog (n + 7) 124 row) : ∃ x : Replica, row = Replica.row false x ∧ x.wf := by
 match row, hl with
 | [c0, c1, c2], _ =>
  unfold has at h
  simp only [Tryz.underlying124] at h
  have hh := h
  have f0 : has Tryz.prog (n + 5 + 1) 4 [c0] := hh 0 _ rfl
  obtain ⟨v0, rfl⟩ := has_bool Tryz.underlying4 f0
  have f1 : has Tryz.prog (n + 0 + 6) 122 [c1] := hh 1 _ rfl
  obtain ⟨v1, rfl, w1⟩ := has_sl (Entry.row false) (Entry.wf) Tryz.underlying122 (by kernel_rfl) (fun r hl h => has_Entry hl h) f1
  have f2 : has Tryz.prog (n + 5 + 1) 3 [c2] := hh 2 _ rfl
  obtain ⟨v2, rfl, w2⟩ := has_int Tryz.underlying3 f2
  exact ⟨⟨v0, v1, v2⟩, rfl, ⟨w1, w2⟩⟩
theorem has_Group {n : Nat} {row : List T} (hl : row.length = 3) (h : has Tryz.prog (n + 9) 24 row) : ∃ x : Group, row = Group.row false x ∧ x.wf := by
 match row, hl with
 | [c0, c1, c2], _ =>
  unfold has at h
  simp only [Tryz.underlying24] at h
  have hh := h
  have f0 : has Tryz.prog (n + 0 + 8) 22 [c0] := hh 0 _ rfl
  obtain ⟨v0, rfl, w0⟩ := has_sl (Replica.row false) (Replica.wf) Tryz.underlying22 (by kernel_rfl) (fun r hl h => has_Replica hl h) f0
  have f1 : has Tryz.prog (n + 7 + 1) 3 [c1] := hh 1 _ rfl
  obtain ⟨v1, rfl, w1⟩ := has_int Tryz.underlying3 f1
  have f2 : has Tryz.prog (n + 7 + 1) 3 [c2] := hh 2 _ rfl
  obtain ⟨v2, rfl, w2⟩ := has_int Tryz.underlying3 f2
  exact ⟨⟨v0, v1, v2⟩, rfl, ⟨w0, w1, w2⟩⟩
end Go.Proofs.Wb

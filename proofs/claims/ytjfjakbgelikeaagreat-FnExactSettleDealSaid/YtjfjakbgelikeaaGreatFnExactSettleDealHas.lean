import Derived.Test.YtjfjakbgelikeaaGreatFnExactSettleDealR7
import Derived.Test.YtjfjakbgelikeaaGreatAmRead
set_option linter.all false
set_option maxRecDepth 100000
namespace Go.Proofs.Wb
open Tryz renaming prog → p_
open Go Go.Am
theorem zXO {n : Nat} {row : List T} (hl : row.length = 3) (h : has p_ (n + 2) 235 row) : ∃ x : Ver, row = Ver.row false x ∧ x.wf := by
 match row, hl with
 | [c0, c1, c2], _ =>
  unfold has at h
  simp only [Tryz.underlying235] at h
  have hh := h
  have f0 : has p_ (n + 0 + 1) 3 [c0] := hh 0 _ rfl
  obtain ⟨v0, rfl, w0⟩ := zEc Tryz.underlying3 f0
  have f1 : has p_ (n + 0 + 1) 9 [c1] := hh 1 _ rfl
  obtain ⟨v1, rfl, w1⟩ := zEU Tryz.underlying9 f1
  have f2 : has p_ (n + 0 + 1) 4 [c2] := hh 2 _ rfl
  obtain ⟨v2, rfl⟩ := zK7 Tryz.underlying4 f2
  exact ⟨⟨v0, v1, v2⟩, rfl, ⟨w0, w1⟩⟩
theorem zNR {n : Nat} {row : List T} (hl : row.length = 3) (h : has p_ (n + 2) 175 row) : ∃ x : Write, row = Write.row false x ∧ x.wf := by
 match row, hl with
 | [c0, c1, c2], _ =>
  unfold has at h
  simp only [Tryz.underlying175] at h
  have hh := h
  have f0 : has p_ (n + 0 + 1) 9 [c0] := hh 0 _ rfl
  obtain ⟨v0, rfl, w0⟩ := zEU Tryz.underlying9 f0
  have f1 : has p_ (n + 0 + 1) 9 [c1] := hh 1 _ rfl
  obtain ⟨v1, rfl, w1⟩ := zEU Tryz.underlying9 f1
  have f2 : has p_ (n + 0 + 1) 4 [c2] := hh 2 _ rfl
  obtain ⟨v2, rfl⟩ := zK7 Tryz.underlying4 f2
  exact ⟨⟨v0, v1, v2⟩, rfl, ⟨w0, w1⟩⟩
theorem zWC {n : Nat} {row : List T} (hl : row.length = 3) (h : has p_ (n + 2) 190 row) : ∃ x : Told, row = Told.row false x ∧ x.wf := by
 match row, hl with
 | [c0, c1, c2], _ =>
  unfold has at h
  simp only [Tryz.underlying190] at h
  have hh := h
  have f0 : has p_ (n + 0 + 1) 3 [c0] := hh 0 _ rfl
  obtain ⟨v0, rfl, w0⟩ := zEc Tryz.underlying3 f0
  have f1 : has p_ (n + 0 + 1) 4 [c1] := hh 1 _ rfl
  obtain ⟨v1, rfl⟩ := zK7 Tryz.underlying4 f1
  have f2 : has p_ (n + 0 + 1) 3 [c2] := hh 2 _ rfl
  obtain ⟨v2, rfl, w2⟩ := zEc Tryz.underlying3 f2
  exact ⟨⟨v0, v1, v2⟩, rfl, ⟨w0, w2⟩⟩
theorem zWD {n : Nat} {row : List T} (hl : row.length = 2) (h : has p_ (n + 4) 170 row) : ∃ x : Cell, row = Cell.row false x ∧ x.wf := by
 match row, hl with
 | [c0, c1], _ =>
  unfold has at h
  simp only [Tryz.underlying170] at h
  have hh := h
  have f0 : has p_ (n + 2 + 1) 9 [c0] := hh 0 _ rfl
  obtain ⟨v0, rfl, w0⟩ := zEU Tryz.underlying9 f0
  have f1 : has p_ (n + 0 + 3) 168 [c1] := hh 1 _ rfl
  obtain ⟨v1, rfl, w1⟩ := zDm (Ver.row false) (Ver.wf) Tryz.underlying168 (by kernel_rfl) (fun r hl h => zXO hl h) f1
  exact ⟨⟨v0, v1⟩, rfl, ⟨w0, w1⟩⟩
theorem zWE {n : Nat} {row : List T} (hl : row.length = 5) (h : has p_ (n + 4) 173 row) : ∃ x : Held, row = Held.row false x ∧ x.wf := by
 match row, hl with
 | [c0, c1, c2, c3, c4], _ =>
  unfold has at h
  simp only [Tryz.underlying173] at h
  have hh := h
  have f0 : has p_ (n + 2 + 1) 3 [c0] := hh 0 _ rfl
  obtain ⟨v0, rfl, w0⟩ := zEc Tryz.underlying3 f0
  have f1 : has p_ (n + 2 + 1) 3 [c1] := hh 1 _ rfl
  obtain ⟨v1, rfl, w1⟩ := zEc Tryz.underlying3 f1
  have f2 : has p_ (n + 2 + 1) 3 [c2] := hh 2 _ rfl
  obtain ⟨v2, rfl, w2⟩ := zEc Tryz.underlying3 f2
  have f3 : has p_ (n + 1 + 2) 22 [c3] := hh 3 _ rfl
  obtain ⟨v3, rfl, w3⟩ := zDm (fun x => [str x]) (fun s => s.size ≤ maxLen) Tryz.underlying22 (by kernel_rfl) (fun r hl h => zMN (F := fun x => str x) (Q := fun s => s.size ≤ maxLen) hl (fun c hc => zEU Tryz.underlying9 (hc ▸ h))) f3
  have f4 : has p_ (n + 0 + 3) 90 [c4] := hh 4 _ rfl
  obtain ⟨v4, rfl, w4⟩ := zDm (Write.row false) (Write.wf) Tryz.underlying90 (by kernel_rfl) (fun r hl h => zNR hl h) f4
  exact ⟨⟨v0, v1, v2, v3, v4⟩, rfl, ⟨w0, w1, w2, w3, w4⟩⟩
theorem zVk {n : Nat} {row : List T} (hl : row.length = 3) (h : has p_ (n + 4) 92 row) : ∃ x : Order, row = Order.row false x ∧ x.wf := by
 match row, hl with
 | [c0, c1, c2], _ =>
  unfold has at h
  simp only [Tryz.underlying92] at h
  have hh := h
  have f0 : has p_ (n + 2 + 1) 3 [c0] := hh 0 _ rfl
  obtain ⟨v0, rfl, w0⟩ := zEc Tryz.underlying3 f0
  have f1 : has p_ (n + 1 + 2) 22 [c1] := hh 1 _ rfl
  obtain ⟨v1, rfl, w1⟩ := zDm (fun x => [str x]) (fun s => s.size ≤ maxLen) Tryz.underlying22 (by kernel_rfl) (fun r hl h => zMN (F := fun x => str x) (Q := fun s => s.size ≤ maxLen) hl (fun c hc => zEU Tryz.underlying9 (hc ▸ h))) f1
  have f2 : has p_ (n + 0 + 3) 90 [c2] := hh 2 _ rfl
  obtain ⟨v2, rfl, w2⟩ := zDm (Write.row false) (Write.wf) Tryz.underlying90 (by kernel_rfl) (fun r hl h => zNR hl h) f2
  exact ⟨⟨v0, v1, v2⟩, rfl, ⟨w0, w1, w2⟩⟩
theorem zVl {n : Nat} {row : List T} (hl : row.length = 4) (h : has p_ (n + 6) 88 row) : ∃ x : State, row = State.row false x ∧ x.wf := by
 match row, hl with
 | [c0, c1, c2, c3], _ =>
  unfold has at h
  simp only [Tryz.underlying88] at h
  have hh := h
  have f0 : has p_ (n + 4 + 1) 3 [c0] := hh 0 _ rfl
  obtain ⟨v0, rfl, w0⟩ := zEc Tryz.underlying3 f0
  have f1 : has p_ (n + 0 + 5) 84 [c1] := hh 1 _ rfl
  obtain ⟨v1, rfl, w1⟩ := zDm (Cell.row false) (Cell.wf) Tryz.underlying84 (by kernel_rfl) (fun r hl h => zWD hl h) f1
  have f2 : has p_ (n + 0 + 5) 85 [c2] := hh 2 _ rfl
  obtain ⟨v2, rfl, w2⟩ := zDm (Held.row false) (Held.wf) Tryz.underlying85 (by kernel_rfl) (fun r hl h => zWE hl h) f2
  have f3 : has p_ (n + 2 + 3) 86 [c3] := hh 3 _ rfl
  obtain ⟨v3, rfl, w3⟩ := zDm (Told.row false) (Told.wf) Tryz.underlying86 (by kernel_rfl) (fun r hl h => zWC hl h) f3
  exact ⟨⟨v0, v1, v2, v3⟩, rfl, ⟨w0, w1, w2, w3⟩⟩
theorem zWF {n : Nat} {row : List T} (hl : row.length = 3) (h : has p_ (n + 8) 26 row) : ∃ x : Deal, row = Deal.row false x ∧ x.wf := by
 match row, hl with
 | [c0, c1, c2], _ =>
  unfold has at h
  simp only [Tryz.underlying26] at h
  have hh := h
  have f0 : has p_ (n + 5 + 2) 22 [c0] := hh 0 _ rfl
  obtain ⟨v0, rfl, w0⟩ := zDm (fun x => [str x]) (fun s => s.size ≤ maxLen) Tryz.underlying22 (by kernel_rfl) (fun r hl h => zMN (F := fun x => str x) (Q := fun s => s.size ≤ maxLen) hl (fun c hc => zEU Tryz.underlying9 (hc ▸ h))) f0
  have f1 : has p_ (n + 0 + 7) 23 [c1] := hh 1 _ rfl
  obtain ⟨v1, rfl, w1⟩ := zDm (State.row false) (State.wf) Tryz.underlying23 (by kernel_rfl) (fun r hl h => zVl hl h) f1
  have f2 : has p_ (n + 2 + 5) 24 [c2] := hh 2 _ rfl
  obtain ⟨v2, rfl, w2⟩ := zDm (Order.row false) (Order.wf) Tryz.underlying24 (by kernel_rfl) (fun r hl h => zVk hl h) f2
  exact ⟨⟨v0, v1, v2⟩, rfl, ⟨w0, w1, w2⟩⟩
end Go.Proofs.Wb

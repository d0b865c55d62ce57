import Derived.Test.YtbomnfkdccemmaaGreatFnExactSnapAtNE
import Derived.Test.YtbomnfkdccemmaaGreatAmRead
set_option linter.all false
set_option maxRecDepth 100000
namespace Go.Proofs.Wb
open Tryz renaming prog → p_
open Go Go.Am
theorem zSg {n : Nat} {row : List T} (hl : row.length = 3) (h : has p_ (n + 2) 213 row) : ∃ x : Got, row = Got.row false x ∧ x.wf := by
 match row, hl with
 | [c0, c1, c2], _ =>
  unfold has at h
  simp only [Tryz.underlying213] at h
  have hh := h
  have f0 : has p_ (n + 0 + 1) 9 [c0] := hh 0 _ rfl
  obtain ⟨v0, rfl, w0⟩ := zDd Tryz.underlying9 f0
  have f1 : has p_ (n + 0 + 1) 9 [c1] := hh 1 _ rfl
  obtain ⟨v1, rfl, w1⟩ := zDd Tryz.underlying9 f1
  have f2 : has p_ (n + 0 + 1) 4 [c2] := hh 2 _ rfl
  obtain ⟨v2, rfl⟩ := zC0 Tryz.underlying4 f2
  exact ⟨⟨v0, v1, v2⟩, rfl, ⟨w0, w1⟩⟩
theorem zXg {n : Nat} {row : List T} (hl : row.length = 3) (h : has p_ (n + 2) 153 row) : ∃ x : Lock, row = Lock.row false x ∧ x.wf := by
 match row, hl with
 | [c0, c1, c2], _ =>
  unfold has at h
  simp only [Tryz.underlying153] at h
  have hh := h
  have f0 : has p_ (n + 0 + 1) 9 [c0] := hh 0 _ rfl
  obtain ⟨v0, rfl, w0⟩ := zDd Tryz.underlying9 f0
  have f1 : has p_ (n + 0 + 1) 3 [c1] := hh 1 _ rfl
  obtain ⟨v1, rfl, w1⟩ := zBa Tryz.underlying3 f1
  have f2 : has p_ (n + 0 + 1) 4 [c2] := hh 2 _ rfl
  obtain ⟨v2, rfl⟩ := zC0 Tryz.underlying4 f2
  exact ⟨⟨v0, v1, v2⟩, rfl, ⟨w0, w1⟩⟩
theorem zAbs {n : Nat} {row : List T} (hl : row.length = 4) (h : has p_ (n + 2) 211 row) : ∃ x : Op, row = Op.row false x ∧ x.wf := by
 match row, hl with
 | [c0, c1, c2, c3], _ =>
  unfold has at h
  simp only [Tryz.underlying211] at h
  have hh := h
  have f0 : has p_ (n + 0 + 1) 3 [c0] := hh 0 _ rfl
  obtain ⟨v0, rfl, w0⟩ := zBa Tryz.underlying3 f0
  have f1 : has p_ (n + 0 + 1) 9 [c1] := hh 1 _ rfl
  obtain ⟨v1, rfl, w1⟩ := zDd Tryz.underlying9 f1
  have f2 : has p_ (n + 0 + 1) 9 [c2] := hh 2 _ rfl
  obtain ⟨v2, rfl, w2⟩ := zDd Tryz.underlying9 f2
  have f3 : has p_ (n + 0 + 1) 3 [c3] := hh 3 _ rfl
  obtain ⟨v3, rfl, w3⟩ := zBa Tryz.underlying3 f3
  exact ⟨⟨v0, v1, v2, v3⟩, rfl, ⟨w0, w1, w2, w3⟩⟩
theorem zVI {n : Nat} {row : List T} (hl : row.length = 3) (h : has p_ (n + 2) 326 row) : ∃ x : Write, row = Write.row false x ∧ x.wf := by
 match row, hl with
 | [c0, c1, c2], _ =>
  unfold has at h
  simp only [Tryz.underlying326] at h
  have hh := h
  have f0 : has p_ (n + 0 + 1) 9 [c0] := hh 0 _ rfl
  obtain ⟨v0, rfl, w0⟩ := zDd Tryz.underlying9 f0
  have f1 : has p_ (n + 0 + 1) 9 [c1] := hh 1 _ rfl
  obtain ⟨v1, rfl, w1⟩ := zDd Tryz.underlying9 f1
  have f2 : has p_ (n + 0 + 1) 4 [c2] := hh 2 _ rfl
  obtain ⟨v2, rfl⟩ := zC0 Tryz.underlying4 f2
  exact ⟨⟨v0, v1, v2⟩, rfl, ⟨w0, w1⟩⟩
theorem zVJ {n : Nat} {row : List T} (hl : row.length = 1) (h : has p_ (n + 2) 129 row) : ∃ x : Clock, row = Clock.row false x ∧ x.wf := by
 match row, hl with
 | [c0], _ =>
  unfold has at h
  simp only [Tryz.underlying129] at h
  have hh := h
  have f0 : has p_ (n + 0 + 1) 3 [c0] := hh 0 _ rfl
  obtain ⟨v0, rfl, w0⟩ := zBa Tryz.underlying3 f0
  exact ⟨⟨v0⟩, rfl, w0⟩
theorem zYv {n : Nat} {row : List T} (hl : row.length = 7) (h : has p_ (n + 4) 257 row) : ∃ x : Rec, row = Rec.row false x ∧ x.wf := by
 match row, hl with
 | [c0, c1, c2, c3, c4, c5, c6], _ =>
  unfold has at h
  simp only [Tryz.underlying257] at h
  have hh := h
  have f0 : has p_ (n + 2 + 1) 3 [c0] := hh 0 _ rfl
  obtain ⟨v0, rfl, w0⟩ := zBa Tryz.underlying3 f0
  have f1 : has p_ (n + 2 + 1) 3 [c1] := hh 1 _ rfl
  obtain ⟨v1, rfl, w1⟩ := zBa Tryz.underlying3 f1
  have f2 : has p_ (n + 2 + 1) 3 [c2] := hh 2 _ rfl
  obtain ⟨v2, rfl, w2⟩ := zBa Tryz.underlying3 f2
  have f3 : has p_ (n + 2 + 1) 3 [c3] := hh 3 _ rfl
  obtain ⟨v3, rfl, w3⟩ := zBa Tryz.underlying3 f3
  have f4 : has p_ (n + 1 + 2) 23 [c4] := hh 4 _ rfl
  obtain ⟨v4, rfl, w4⟩ := zB0 (fun x => [str x]) (fun s => s.size ≤ maxLen) Tryz.underlying23 (by kernel_rfl) (fun r hl h => zFY (F := fun x => str x) (Q := fun s => s.size ≤ maxLen) hl (fun c hc => zDd Tryz.underlying9 (hc ▸ h))) f4
  have f5 : has p_ (n + 0 + 3) 255 [c5] := hh 5 _ rfl
  obtain ⟨v5, rfl, w5⟩ := zB0 (Write.row false) (Write.wf) Tryz.underlying255 (by kernel_rfl) (fun r hl h => zVI hl h) f5
  have f6 : has p_ (n + 2 + 1) 4 [c6] := hh 6 _ rfl
  obtain ⟨v6, rfl⟩ := zC0 Tryz.underlying4 f6
  exact ⟨⟨v0, v1, v2, v3, v4, v5, v6⟩, rfl, ⟨w0, w1, w2, w3, w4, w5⟩⟩
theorem zOE {n : Nat} {row : List T} (hl : row.length = 6) (h : has p_ (n + 4) 98 row) : ∃ x : WorldLook, row = WorldLook.row false x ∧ x.wf := by
 match row, hl with
 | [c0, c1, c2, c3, c4, c5], _ =>
  unfold has at h
  simp only [Tryz.underlying98] at h
  have hh := h
  have f0 : has p_ (n + 2 + 1) 3 [c0] := hh 0 _ rfl
  obtain ⟨v0, rfl, w0⟩ := zBa Tryz.underlying3 f0
  have f1 : has p_ (n + 1 + 2) 23 [c1] := hh 1 _ rfl
  obtain ⟨v1, rfl, w1⟩ := zB0 (fun x => [str x]) (fun s => s.size ≤ maxLen) Tryz.underlying23 (by kernel_rfl) (fun r hl h => zFY (F := fun x => str x) (Q := fun s => s.size ≤ maxLen) hl (fun c hc => zDd Tryz.underlying9 (hc ▸ h))) f1
  have f2 : has p_ (n + 0 + 3) 93 [c2] := hh 2 _ rfl
  obtain ⟨v2, rfl, w2⟩ := zB0 (Got.row false) (Got.wf) Tryz.underlying93 (by kernel_rfl) (fun r hl h => zSg hl h) f2
  have f3 : has p_ (n + 2 + 1) 3 [c3] := hh 3 _ rfl
  obtain ⟨v3, rfl, w3⟩ := zBa Tryz.underlying3 f3
  have f4 : has p_ (n + 2 + 1) 3 [c4] := hh 4 _ rfl
  obtain ⟨v4, rfl, w4⟩ := zBa Tryz.underlying3 f4
  have f5 : has p_ (n + 2 + 1) 3 [c5] := hh 5 _ rfl
  obtain ⟨v5, rfl, w5⟩ := zBa Tryz.underlying3 f5
  exact ⟨⟨v0, v1, v2, v3, v4, v5⟩, rfl, ⟨w0, w1, w2, w3, w4, w5⟩⟩
theorem zQn {n : Nat} {row : List T} (hl : row.length = 10) (h : has p_ (n + 4) 95 row) : ∃ x : WorldTxn, row = WorldTxn.row false x ∧ x.wf := by
 match row, hl with
 | [c0, c1, c2, c3, c4, c5, c6, c7, c8, c9], _ =>
  unfold has at h
  simp only [Tryz.underlying95] at h
  have hh := h
  have f0 : has p_ (n + 0 + 3) 92 [c0] := hh 0 _ rfl
  obtain ⟨v0, rfl, w0⟩ := zB0 (Op.row false) (Op.wf) Tryz.underlying92 (by kernel_rfl) (fun r hl h => zAbs hl h) f0
  have f1 : has p_ (n + 0 + 3) 93 [c1] := hh 1 _ rfl
  obtain ⟨v1, rfl, w1⟩ := zB0 (Got.row false) (Got.wf) Tryz.underlying93 (by kernel_rfl) (fun r hl h => zSg hl h) f1
  have f2 : has p_ (n + 1 + 2) 26 [c2] := hh 2 _ rfl
  obtain ⟨v2, rfl, w2⟩ := zB0 (fun x => [i64 x]) (fun n => -9223372036854775808 ≤ n ∧ n ≤ 9223372036854775807) Tryz.underlying26 (by kernel_rfl) (fun r hl h => zFY (F := fun x => i64 x) (Q := fun n => -9223372036854775808 ≤ n ∧ n ≤ 9223372036854775807) hl (fun c hc => zBa Tryz.underlying3 (hc ▸ h))) f2
  have f3 : has p_ (n + 2 + 1) 3 [c3] := hh 3 _ rfl
  obtain ⟨v3, rfl, w3⟩ := zBa Tryz.underlying3 f3
  have f4 : has p_ (n + 2 + 1) 3 [c4] := hh 4 _ rfl
  obtain ⟨v4, rfl, w4⟩ := zBa Tryz.underlying3 f4
  have f5 : has p_ (n + 2 + 1) 4 [c5] := hh 5 _ rfl
  obtain ⟨v5, rfl⟩ := zC0 Tryz.underlying4 f5
  have f6 : has p_ (n + 2 + 1) 3 [c6] := hh 6 _ rfl
  obtain ⟨v6, rfl, w6⟩ := zBa Tryz.underlying3 f6
  have f7 : has p_ (n + 2 + 1) 4 [c7] := hh 7 _ rfl
  obtain ⟨v7, rfl⟩ := zC0 Tryz.underlying4 f7
  have f8 : has p_ (n + 2 + 1) 4 [c8] := hh 8 _ rfl
  obtain ⟨v8, rfl⟩ := zC0 Tryz.underlying4 f8
  have f9 : has p_ (n + 2 + 1) 4 [c9] := hh 9 _ rfl
  obtain ⟨v9, rfl⟩ := zC0 Tryz.underlying4 f9
  exact ⟨⟨v0, v1, v2, v3, v4, v5, v6, v7, v8, v9⟩, rfl, ⟨w0, w1, w2, w3, w4, w6⟩⟩
theorem zVK {n : Nat} {row : List T} (hl : row.length = 8) (h : has p_ (n + 5) 259 row) : ∃ x : Entry, row = Entry.row false x ∧ x.wf := by
 match row, hl with
 | [c0, c1, c2, c3, c4, c5, c6, c7], _ =>
  unfold has at h
  simp only [Tryz.underlying259] at h
  have hh := h
  have f0 : has p_ (n + 3 + 1) 3 [c0] := hh 0 _ rfl
  obtain ⟨v0, rfl, w0⟩ := zBa Tryz.underlying3 f0
  have f1 : has p_ (n + 0 + 4) 257 [c1, c2, c3, c4, c5, c6, c7] := hh 1 _ rfl
  obtain ⟨v1, e1, w1⟩ := zYv rfl f1
  simp only [Rec.row, List.cons.injEq, and_true] at e1
  obtain ⟨rfl, rfl, rfl, rfl, rfl, rfl, rfl⟩ := e1
  exact ⟨⟨v0, v1⟩, rfl, ⟨w0, w1⟩⟩
theorem zQ8 {n : Nat} {row : List T} (hl : row.length = 3) (h : has p_ (n + 7) 209 row) : ∃ x : Replica, row = Replica.row false x ∧ x.wf := by
 match row, hl with
 | [c0, c1, c2], _ =>
  unfold has at h
  simp only [Tryz.underlying209] at h
  have hh := h
  have f0 : has p_ (n + 5 + 1) 4 [c0] := hh 0 _ rfl
  obtain ⟨v0, rfl⟩ := zC0 Tryz.underlying4 f0
  have f1 : has p_ (n + 0 + 6) 207 [c1] := hh 1 _ rfl
  obtain ⟨v1, rfl, w1⟩ := zB0 (Entry.row false) (Entry.wf) Tryz.underlying207 (by kernel_rfl) (fun r hl h => zVK hl h) f1
  have f2 : has p_ (n + 5 + 1) 3 [c2] := hh 2 _ rfl
  obtain ⟨v2, rfl, w2⟩ := zBa Tryz.underlying3 f2
  exact ⟨⟨v0, v1, v2⟩, rfl, ⟨w1, w2⟩⟩
theorem zVL {n : Nat} {row : List T} (hl : row.length = 3) (h : has p_ (n + 9) 88 row) : ∃ x : Group, row = Group.row false x ∧ x.wf := by
 match row, hl with
 | [c0, c1, c2], _ =>
  unfold has at h
  simp only [Tryz.underlying88] at h
  have hh := h
  have f0 : has p_ (n + 0 + 8) 86 [c0] := hh 0 _ rfl
  obtain ⟨v0, rfl, w0⟩ := zB0 (Replica.row false) (Replica.wf) Tryz.underlying86 (by kernel_rfl) (fun r hl h => zQ8 hl h) f0
  have f1 : has p_ (n + 7 + 1) 3 [c1] := hh 1 _ rfl
  obtain ⟨v1, rfl, w1⟩ := zBa Tryz.underlying3 f1
  have f2 : has p_ (n + 7 + 1) 3 [c2] := hh 2 _ rfl
  obtain ⟨v2, rfl, w2⟩ := zBa Tryz.underlying3 f2
  exact ⟨⟨v0, v1, v2⟩, rfl, ⟨w0, w1, w2⟩⟩
theorem zVM {n : Nat} {row : List T} (hl : row.length = 9) (h : has p_ (n + 11) 30 row) : ∃ x : World, row = World.row false x ∧ x.wf := by
 match row, hl with
 | [c0, c1, c2, c3, c4, c5, c6, c7, c8], _ =>
  unfold has at h
  simp only [Tryz.underlying30] at h
  have hh := h
  have f0 : has p_ (n + 9 + 1) 3 [c0] := hh 0 _ rfl
  obtain ⟨v0, rfl, w0⟩ := zBa Tryz.underlying3 f0
  have f1 : has p_ (n + 9 + 1) 3 [c1] := hh 1 _ rfl
  obtain ⟨v1, rfl, w1⟩ := zBa Tryz.underlying3 f1
  have f2 : has p_ (n + 7 + 3) 22 [c2] := hh 2 _ rfl
  obtain ⟨v2, rfl, w2⟩ := zB0 (Clock.row false) (Clock.wf) Tryz.underlying22 (by kernel_rfl) (fun r hl h => zVJ hl h) f2
  have f3 : has p_ (n + 8 + 2) 23 [c3] := hh 3 _ rfl
  obtain ⟨v3, rfl, w3⟩ := zB0 (fun x => [str x]) (fun s => s.size ≤ maxLen) Tryz.underlying23 (by kernel_rfl) (fun r hl h => zFY (F := fun x => str x) (Q := fun s => s.size ≤ maxLen) hl (fun c hc => zDd Tryz.underlying9 (hc ▸ h))) f3
  have f4 : has p_ (n + 0 + 10) 24 [c4] := hh 4 _ rfl
  obtain ⟨v4, rfl, w4⟩ := zB0 (Group.row false) (Group.wf) Tryz.underlying24 (by kernel_rfl) (fun r hl h => zVL hl h) f4
  have f5 : has p_ (n + 6 + 4) 25 [c5] := hh 5 _ rfl
  obtain ⟨v5, rfl, w5⟩ := zB0 (fun y => [.sl false 3 (y.map (Lock.row false))]) (wfL (Lock.wf)) Tryz.underlying25 (by kernel_rfl) (fun r hl h => zFY (F := fun y => .sl false 3 (y.map (Lock.row false))) (Q := wfL (Lock.wf)) hl (fun c hc => zB0 (Lock.row false) (Lock.wf) Tryz.underlying90 (by kernel_rfl) (fun r hl h => zXg hl h) (hc ▸ h))) f5
  have f6 : has p_ (n + 8 + 2) 26 [c6] := hh 6 _ rfl
  obtain ⟨v6, rfl, w6⟩ := zB0 (fun x => [i64 x]) (fun n => -9223372036854775808 ≤ n ∧ n ≤ 9223372036854775807) Tryz.underlying26 (by kernel_rfl) (fun r hl h => zFY (F := fun x => i64 x) (Q := fun n => -9223372036854775808 ≤ n ∧ n ≤ 9223372036854775807) hl (fun c hc => zBa Tryz.underlying3 (hc ▸ h))) f6
  have f7 : has p_ (n + 5 + 5) 27 [c7] := hh 7 _ rfl
  obtain ⟨v7, rfl, w7⟩ := zB0 (WorldTxn.row false) (WorldTxn.wf) Tryz.underlying27 (by kernel_rfl) (fun r hl h => zQn hl h) f7
  have f8 : has p_ (n + 5 + 5) 28 [c8] := hh 8 _ rfl
  obtain ⟨v8, rfl, w8⟩ := zB0 (WorldLook.row false) (WorldLook.wf) Tryz.underlying28 (by kernel_rfl) (fun r hl h => zOE hl h) f8
  exact ⟨⟨v0, v1, v2, v3, v4, v5, v6, v7, v8⟩, rfl, ⟨w0, w1, w2, w3, w4, w5, w6, w7, w8⟩⟩
end Go.Proofs.Wb

import Derived.Test.YthaildflhjfikaaGreatDoorFnExactSnapSumNE
import Derived.Test.YthaildflhjfikaaGreatDoorAmRead
set_option linter.all false
set_option maxRecDepth 100000
namespace Go.Proofs.Wb
open Tryz renaming prog → p_
open Go Go.Am
theorem zRY {n : Nat} {row : List T} (hl : row.length = 3) (h : has p_ (n + 2) 169 row) : ∃ x : Got, row = Got.row false x ∧ x.wf := by
 match row, hl with
 | [c0, c1, c2], _ =>
  unfold has at h
  simp only [Tryz.underlying169] at h
  have hh := h
  have f0 : has p_ (n + 0 + 1) 9 [c0] := hh 0 _ rfl
  obtain ⟨v0, rfl, w0⟩ := zC6 Tryz.underlying9 f0
  have f1 : has p_ (n + 0 + 1) 9 [c1] := hh 1 _ rfl
  obtain ⟨v1, rfl, w1⟩ := zC6 Tryz.underlying9 f1
  have f2 : has p_ (n + 0 + 1) 4 [c2] := hh 2 _ rfl
  obtain ⟨v2, rfl⟩ := zCT Tryz.underlying4 f2
  exact ⟨⟨v0, v1, v2⟩, rfl, ⟨w0, w1⟩⟩
theorem zWL {n : Nat} {row : List T} (hl : row.length = 3) (h : has p_ (n + 2) 120 row) : ∃ x : Lock, row = Lock.row false x ∧ x.wf := by
 match row, hl with
 | [c0, c1, c2], _ =>
  unfold has at h
  simp only [Tryz.underlying120] at h
  have hh := h
  have f0 : has p_ (n + 0 + 1) 9 [c0] := hh 0 _ rfl
  obtain ⟨v0, rfl, w0⟩ := zC6 Tryz.underlying9 f0
  have f1 : has p_ (n + 0 + 1) 3 [c1] := hh 1 _ rfl
  obtain ⟨v1, rfl, w1⟩ := zA3 Tryz.underlying3 f1
  have f2 : has p_ (n + 0 + 1) 4 [c2] := hh 2 _ rfl
  obtain ⟨v2, rfl⟩ := zCT Tryz.underlying4 f2
  exact ⟨⟨v0, v1, v2⟩, rfl, ⟨w0, w1⟩⟩
theorem zAa0 {n : Nat} {row : List T} (hl : row.length = 4) (h : has p_ (n + 2) 166 row) : ∃ x : Op, row = Op.row false x ∧ x.wf := by
 match row, hl with
 | [c0, c1, c2, c3], _ =>
  unfold has at h
  simp only [Tryz.underlying166] at h
  have hh := h
  have f0 : has p_ (n + 0 + 1) 3 [c0] := hh 0 _ rfl
  obtain ⟨v0, rfl, w0⟩ := zA3 Tryz.underlying3 f0
  have f1 : has p_ (n + 0 + 1) 9 [c1] := hh 1 _ rfl
  obtain ⟨v1, rfl, w1⟩ := zC6 Tryz.underlying9 f1
  have f2 : has p_ (n + 0 + 1) 9 [c2] := hh 2 _ rfl
  obtain ⟨v2, rfl, w2⟩ := zC6 Tryz.underlying9 f2
  have f3 : has p_ (n + 0 + 1) 3 [c3] := hh 3 _ rfl
  obtain ⟨v3, rfl, w3⟩ := zA3 Tryz.underlying3 f3
  exact ⟨⟨v0, v1, v2, v3⟩, rfl, ⟨w0, w1, w2, w3⟩⟩
theorem zVe {n : Nat} {row : List T} (hl : row.length = 3) (h : has p_ (n + 2) 340 row) : ∃ x : Write, row = Write.row false x ∧ x.wf := by
 match row, hl with
 | [c0, c1, c2], _ =>
  unfold has at h
  simp only [Tryz.underlying340] at h
  have hh := h
  have f0 : has p_ (n + 0 + 1) 9 [c0] := hh 0 _ rfl
  obtain ⟨v0, rfl, w0⟩ := zC6 Tryz.underlying9 f0
  have f1 : has p_ (n + 0 + 1) 9 [c1] := hh 1 _ rfl
  obtain ⟨v1, rfl, w1⟩ := zC6 Tryz.underlying9 f1
  have f2 : has p_ (n + 0 + 1) 4 [c2] := hh 2 _ rfl
  obtain ⟨v2, rfl⟩ := zCT Tryz.underlying4 f2
  exact ⟨⟨v0, v1, v2⟩, rfl, ⟨w0, w1⟩⟩
theorem zVf {n : Nat} {row : List T} (hl : row.length = 1) (h : has p_ (n + 2) 93 row) : ∃ x : Clock, row = Clock.row false x ∧ x.wf := by
 match row, hl with
 | [c0], _ =>
  unfold has at h
  simp only [Tryz.underlying93] at h
  have hh := h
  have f0 : has p_ (n + 0 + 1) 3 [c0] := hh 0 _ rfl
  obtain ⟨v0, rfl, w0⟩ := zA3 Tryz.underlying3 f0
  exact ⟨⟨v0⟩, rfl, w0⟩
theorem zX2 {n : Nat} {row : List T} (hl : row.length = 7) (h : has p_ (n + 4) 253 row) : ∃ x : Rec, row = Rec.row false x ∧ x.wf := by
 match row, hl with
 | [c0, c1, c2, c3, c4, c5, c6], _ =>
  unfold has at h
  simp only [Tryz.underlying253] at h
  have hh := h
  have f0 : has p_ (n + 2 + 1) 3 [c0] := hh 0 _ rfl
  obtain ⟨v0, rfl, w0⟩ := zA3 Tryz.underlying3 f0
  have f1 : has p_ (n + 2 + 1) 3 [c1] := hh 1 _ rfl
  obtain ⟨v1, rfl, w1⟩ := zA3 Tryz.underlying3 f1
  have f2 : has p_ (n + 2 + 1) 3 [c2] := hh 2 _ rfl
  obtain ⟨v2, rfl, w2⟩ := zA3 Tryz.underlying3 f2
  have f3 : has p_ (n + 2 + 1) 3 [c3] := hh 3 _ rfl
  obtain ⟨v3, rfl, w3⟩ := zA3 Tryz.underlying3 f3
  have f4 : has p_ (n + 1 + 2) 23 [c4] := hh 4 _ rfl
  obtain ⟨v4, rfl, w4⟩ := zBT (fun x => [str x]) (fun s => s.size ≤ maxLen) Tryz.underlying23 (by kernel_rfl) (fun r hl h => zFK (F := fun x => str x) (Q := fun s => s.size ≤ maxLen) hl (fun c hc => zC6 Tryz.underlying9 (hc ▸ h))) f4
  have f5 : has p_ (n + 0 + 3) 251 [c5] := hh 5 _ rfl
  obtain ⟨v5, rfl, w5⟩ := zBT (Write.row false) (Write.wf) Tryz.underlying251 (by kernel_rfl) (fun r hl h => zVe hl h) f5
  have f6 : has p_ (n + 2 + 1) 4 [c6] := hh 6 _ rfl
  obtain ⟨v6, rfl⟩ := zCT Tryz.underlying4 f6
  exact ⟨⟨v0, v1, v2, v3, v4, v5, v6⟩, rfl, ⟨w0, w1, w2, w3, w4, w5⟩⟩
theorem zOr {n : Nat} {row : List T} (hl : row.length = 6) (h : has p_ (n + 4) 84 row) : ∃ x : WorldLook, row = WorldLook.row false x ∧ x.wf := by
 match row, hl with
 | [c0, c1, c2, c3, c4, c5], _ =>
  unfold has at h
  simp only [Tryz.underlying84] at h
  have hh := h
  have f0 : has p_ (n + 2 + 1) 3 [c0] := hh 0 _ rfl
  obtain ⟨v0, rfl, w0⟩ := zA3 Tryz.underlying3 f0
  have f1 : has p_ (n + 1 + 2) 23 [c1] := hh 1 _ rfl
  obtain ⟨v1, rfl, w1⟩ := zBT (fun x => [str x]) (fun s => s.size ≤ maxLen) Tryz.underlying23 (by kernel_rfl) (fun r hl h => zFK (F := fun x => str x) (Q := fun s => s.size ≤ maxLen) hl (fun c hc => zC6 Tryz.underlying9 (hc ▸ h))) f1
  have f2 : has p_ (n + 0 + 3) 79 [c2] := hh 2 _ rfl
  obtain ⟨v2, rfl, w2⟩ := zBT (Got.row false) (Got.wf) Tryz.underlying79 (by kernel_rfl) (fun r hl h => zRY hl h) f2
  have f3 : has p_ (n + 2 + 1) 3 [c3] := hh 3 _ rfl
  obtain ⟨v3, rfl, w3⟩ := zA3 Tryz.underlying3 f3
  have f4 : has p_ (n + 2 + 1) 3 [c4] := hh 4 _ rfl
  obtain ⟨v4, rfl, w4⟩ := zA3 Tryz.underlying3 f4
  have f5 : has p_ (n + 2 + 1) 3 [c5] := hh 5 _ rfl
  obtain ⟨v5, rfl, w5⟩ := zA3 Tryz.underlying3 f5
  exact ⟨⟨v0, v1, v2, v3, v4, v5⟩, rfl, ⟨w0, w1, w2, w3, w4, w5⟩⟩
theorem zP8 {n : Nat} {row : List T} (hl : row.length = 10) (h : has p_ (n + 4) 81 row) : ∃ x : WorldTxn, row = WorldTxn.row false x ∧ x.wf := by
 match row, hl with
 | [c0, c1, c2, c3, c4, c5, c6, c7, c8, c9], _ =>
  unfold has at h
  simp only [Tryz.underlying81] at h
  have hh := h
  have f0 : has p_ (n + 0 + 3) 78 [c0] := hh 0 _ rfl
  obtain ⟨v0, rfl, w0⟩ := zBT (Op.row false) (Op.wf) Tryz.underlying78 (by kernel_rfl) (fun r hl h => zAa0 hl h) f0
  have f1 : has p_ (n + 0 + 3) 79 [c1] := hh 1 _ rfl
  obtain ⟨v1, rfl, w1⟩ := zBT (Got.row false) (Got.wf) Tryz.underlying79 (by kernel_rfl) (fun r hl h => zRY hl h) f1
  have f2 : has p_ (n + 1 + 2) 26 [c2] := hh 2 _ rfl
  obtain ⟨v2, rfl, w2⟩ := zBT (fun x => [i64 x]) (fun n => -9223372036854775808 ≤ n ∧ n ≤ 9223372036854775807) Tryz.underlying26 (by kernel_rfl) (fun r hl h => zFK (F := fun x => i64 x) (Q := fun n => -9223372036854775808 ≤ n ∧ n ≤ 9223372036854775807) hl (fun c hc => zA3 Tryz.underlying3 (hc ▸ h))) f2
  have f3 : has p_ (n + 2 + 1) 3 [c3] := hh 3 _ rfl
  obtain ⟨v3, rfl, w3⟩ := zA3 Tryz.underlying3 f3
  have f4 : has p_ (n + 2 + 1) 3 [c4] := hh 4 _ rfl
  obtain ⟨v4, rfl, w4⟩ := zA3 Tryz.underlying3 f4
  have f5 : has p_ (n + 2 + 1) 4 [c5] := hh 5 _ rfl
  obtain ⟨v5, rfl⟩ := zCT Tryz.underlying4 f5
  have f6 : has p_ (n + 2 + 1) 3 [c6] := hh 6 _ rfl
  obtain ⟨v6, rfl, w6⟩ := zA3 Tryz.underlying3 f6
  have f7 : has p_ (n + 2 + 1) 4 [c7] := hh 7 _ rfl
  obtain ⟨v7, rfl⟩ := zCT Tryz.underlying4 f7
  have f8 : has p_ (n + 2 + 1) 4 [c8] := hh 8 _ rfl
  obtain ⟨v8, rfl⟩ := zCT Tryz.underlying4 f8
  have f9 : has p_ (n + 2 + 1) 4 [c9] := hh 9 _ rfl
  obtain ⟨v9, rfl⟩ := zCT Tryz.underlying4 f9
  exact ⟨⟨v0, v1, v2, v3, v4, v5, v6, v7, v8, v9⟩, rfl, ⟨w0, w1, w2, w3, w4, w6⟩⟩
theorem zVg {n : Nat} {row : List T} (hl : row.length = 8) (h : has p_ (n + 5) 255 row) : ∃ x : Entry, row = Entry.row false x ∧ x.wf := by
 match row, hl with
 | [c0, c1, c2, c3, c4, c5, c6, c7], _ =>
  unfold has at h
  simp only [Tryz.underlying255] at h
  have hh := h
  have f0 : has p_ (n + 3 + 1) 3 [c0] := hh 0 _ rfl
  obtain ⟨v0, rfl, w0⟩ := zA3 Tryz.underlying3 f0
  have f1 : has p_ (n + 0 + 4) 253 [c1, c2, c3, c4, c5, c6, c7] := hh 1 _ rfl
  obtain ⟨v1, e1, w1⟩ := zX2 rfl f1
  simp only [Rec.row, List.cons.injEq, and_true] at e1
  obtain ⟨rfl, rfl, rfl, rfl, rfl, rfl, rfl⟩ := e1
  exact ⟨⟨v0, v1⟩, rfl, ⟨w0, w1⟩⟩
theorem zQR {n : Nat} {row : List T} (hl : row.length = 3) (h : has p_ (n + 7) 163 row) : ∃ x : Replica, row = Replica.row false x ∧ x.wf := by
 match row, hl with
 | [c0, c1, c2], _ =>
  unfold has at h
  simp only [Tryz.underlying163] at h
  have hh := h
  have f0 : has p_ (n + 5 + 1) 4 [c0] := hh 0 _ rfl
  obtain ⟨v0, rfl⟩ := zCT Tryz.underlying4 f0
  have f1 : has p_ (n + 0 + 6) 161 [c1] := hh 1 _ rfl
  obtain ⟨v1, rfl, w1⟩ := zBT (Entry.row false) (Entry.wf) Tryz.underlying161 (by kernel_rfl) (fun r hl h => zVg hl h) f1
  have f2 : has p_ (n + 5 + 1) 3 [c2] := hh 2 _ rfl
  obtain ⟨v2, rfl, w2⟩ := zA3 Tryz.underlying3 f2
  exact ⟨⟨v0, v1, v2⟩, rfl, ⟨w1, w2⟩⟩
theorem zVh {n : Nat} {row : List T} (hl : row.length = 3) (h : has p_ (n + 9) 74 row) : ∃ x : Group, row = Group.row false x ∧ x.wf := by
 match row, hl with
 | [c0, c1, c2], _ =>
  unfold has at h
  simp only [Tryz.underlying74] at h
  have hh := h
  have f0 : has p_ (n + 0 + 8) 72 [c0] := hh 0 _ rfl
  obtain ⟨v0, rfl, w0⟩ := zBT (Replica.row false) (Replica.wf) Tryz.underlying72 (by kernel_rfl) (fun r hl h => zQR hl h) f0
  have f1 : has p_ (n + 7 + 1) 3 [c1] := hh 1 _ rfl
  obtain ⟨v1, rfl, w1⟩ := zA3 Tryz.underlying3 f1
  have f2 : has p_ (n + 7 + 1) 3 [c2] := hh 2 _ rfl
  obtain ⟨v2, rfl, w2⟩ := zA3 Tryz.underlying3 f2
  exact ⟨⟨v0, v1, v2⟩, rfl, ⟨w0, w1, w2⟩⟩
theorem zVi {n : Nat} {row : List T} (hl : row.length = 9) (h : has p_ (n + 11) 30 row) : ∃ x : World, row = World.row false x ∧ x.wf := by
 match row, hl with
 | [c0, c1, c2, c3, c4, c5, c6, c7, c8], _ =>
  unfold has at h
  simp only [Tryz.underlying30] at h
  have hh := h
  have f0 : has p_ (n + 9 + 1) 3 [c0] := hh 0 _ rfl
  obtain ⟨v0, rfl, w0⟩ := zA3 Tryz.underlying3 f0
  have f1 : has p_ (n + 9 + 1) 3 [c1] := hh 1 _ rfl
  obtain ⟨v1, rfl, w1⟩ := zA3 Tryz.underlying3 f1
  have f2 : has p_ (n + 7 + 3) 22 [c2] := hh 2 _ rfl
  obtain ⟨v2, rfl, w2⟩ := zBT (Clock.row false) (Clock.wf) Tryz.underlying22 (by kernel_rfl) (fun r hl h => zVf hl h) f2
  have f3 : has p_ (n + 8 + 2) 23 [c3] := hh 3 _ rfl
  obtain ⟨v3, rfl, w3⟩ := zBT (fun x => [str x]) (fun s => s.size ≤ maxLen) Tryz.underlying23 (by kernel_rfl) (fun r hl h => zFK (F := fun x => str x) (Q := fun s => s.size ≤ maxLen) hl (fun c hc => zC6 Tryz.underlying9 (hc ▸ h))) f3
  have f4 : has p_ (n + 0 + 10) 24 [c4] := hh 4 _ rfl
  obtain ⟨v4, rfl, w4⟩ := zBT (Group.row false) (Group.wf) Tryz.underlying24 (by kernel_rfl) (fun r hl h => zVh hl h) f4
  have f5 : has p_ (n + 6 + 4) 25 [c5] := hh 5 _ rfl
  obtain ⟨v5, rfl, w5⟩ := zBT (fun y => [.sl false 3 (y.map (Lock.row false))]) (wfL (Lock.wf)) Tryz.underlying25 (by kernel_rfl) (fun r hl h => zFK (F := fun y => .sl false 3 (y.map (Lock.row false))) (Q := wfL (Lock.wf)) hl (fun c hc => zBT (Lock.row false) (Lock.wf) Tryz.underlying76 (by kernel_rfl) (fun r hl h => zWL hl h) (hc ▸ h))) f5
  have f6 : has p_ (n + 8 + 2) 26 [c6] := hh 6 _ rfl
  obtain ⟨v6, rfl, w6⟩ := zBT (fun x => [i64 x]) (fun n => -9223372036854775808 ≤ n ∧ n ≤ 9223372036854775807) Tryz.underlying26 (by kernel_rfl) (fun r hl h => zFK (F := fun x => i64 x) (Q := fun n => -9223372036854775808 ≤ n ∧ n ≤ 9223372036854775807) hl (fun c hc => zA3 Tryz.underlying3 (hc ▸ h))) f6
  have f7 : has p_ (n + 5 + 5) 27 [c7] := hh 7 _ rfl
  obtain ⟨v7, rfl, w7⟩ := zBT (WorldTxn.row false) (WorldTxn.wf) Tryz.underlying27 (by kernel_rfl) (fun r hl h => zP8 hl h) f7
  have f8 : has p_ (n + 5 + 5) 28 [c8] := hh 8 _ rfl
  obtain ⟨v8, rfl, w8⟩ := zBT (WorldLook.row false) (WorldLook.wf) Tryz.underlying28 (by kernel_rfl) (fun r hl h => zOr hl h) f8
  exact ⟨⟨v0, v1, v2, v3, v4, v5, v6, v7, v8⟩, rfl, ⟨w0, w1, w2, w3, w4, w5, w6, w7, w8⟩⟩
end Go.Proofs.Wb

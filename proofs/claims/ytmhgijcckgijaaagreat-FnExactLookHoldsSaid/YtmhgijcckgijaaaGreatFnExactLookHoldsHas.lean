import Derived.Test.YtmhgijcckgijaaaGreatFnExactLookHoldsNE
import Derived.Test.YtmhgijcckgijaaaGreatAmRead
set_option linter.unusedSimpArgs false
set_option linter.unusedVariables false
set_option linter.unusedSectionVars false
set_option maxRecDepth 100000
namespace Go.Proofs.Wb
open Go Go.Am
theorem zQP {n : Nat} {row : List T} (hl : row.length = 3) (h : has Tryz.prog (n + 2) 222 row) : ∃ x : Got, row = Got.row false x ∧ x.wf := by
 match row, hl with
 | [c0, c1, c2], _ =>
  unfold has at h
  simp only [Tryz.underlying222] at h
  have hh := h
  have f0 : has Tryz.prog (n + 0 + 1) 9 [c0] := hh 0 _ rfl
  obtain ⟨v0, rfl, w0⟩ := zCX Tryz.underlying9 f0
  have f1 : has Tryz.prog (n + 0 + 1) 9 [c1] := hh 1 _ rfl
  obtain ⟨v1, rfl, w1⟩ := zCX Tryz.underlying9 f1
  have f2 : has Tryz.prog (n + 0 + 1) 4 [c2] := hh 2 _ rfl
  obtain ⟨v2, rfl⟩ := zCL Tryz.underlying4 f2
  exact ⟨⟨v0, v1, v2⟩, rfl, ⟨w0, w1⟩⟩
theorem zVh {n : Nat} {row : List T} (hl : row.length = 3) (h : has Tryz.prog (n + 2) 165 row) : ∃ x : Lock, row = Lock.row false x ∧ x.wf := by
 match row, hl with
 | [c0, c1, c2], _ =>
  unfold has at h
  simp only [Tryz.underlying165] at h
  have hh := h
  have f0 : has Tryz.prog (n + 0 + 1) 9 [c0] := hh 0 _ rfl
  obtain ⟨v0, rfl, w0⟩ := zCX Tryz.underlying9 f0
  have f1 : has Tryz.prog (n + 0 + 1) 3 [c1] := hh 1 _ rfl
  obtain ⟨v1, rfl, w1⟩ := zA3 Tryz.underlying3 f1
  have f2 : has Tryz.prog (n + 0 + 1) 4 [c2] := hh 2 _ rfl
  obtain ⟨v2, rfl⟩ := zCL Tryz.underlying4 f2
  exact ⟨⟨v0, v1, v2⟩, rfl, ⟨w0, w1⟩⟩
theorem zZo {n : Nat} {row : List T} (hl : row.length = 4) (h : has Tryz.prog (n + 2) 220 row) : ∃ x : Op, row = Op.row false x ∧ x.wf := by
 match row, hl with
 | [c0, c1, c2, c3], _ =>
  unfold has at h
  simp only [Tryz.underlying220] at h
  have hh := h
  have f0 : has Tryz.prog (n + 0 + 1) 3 [c0] := hh 0 _ rfl
  obtain ⟨v0, rfl, w0⟩ := zA3 Tryz.underlying3 f0
  have f1 : has Tryz.prog (n + 0 + 1) 9 [c1] := hh 1 _ rfl
  obtain ⟨v1, rfl, w1⟩ := zCX Tryz.underlying9 f1
  have f2 : has Tryz.prog (n + 0 + 1) 9 [c2] := hh 2 _ rfl
  obtain ⟨v2, rfl, w2⟩ := zCX Tryz.underlying9 f2
  have f3 : has Tryz.prog (n + 0 + 1) 3 [c3] := hh 3 _ rfl
  obtain ⟨v3, rfl, w3⟩ := zA3 Tryz.underlying3 f3
  exact ⟨⟨v0, v1, v2, v3⟩, rfl, ⟨w0, w1, w2, w3⟩⟩
theorem zTN {n : Nat} {row : List T} (hl : row.length = 3) (h : has Tryz.prog (n + 2) 336 row) : ∃ x : Write, row = Write.row false x ∧ x.wf := by
 match row, hl with
 | [c0, c1, c2], _ =>
  unfold has at h
  simp only [Tryz.underlying336] at h
  have hh := h
  have f0 : has Tryz.prog (n + 0 + 1) 9 [c0] := hh 0 _ rfl
  obtain ⟨v0, rfl, w0⟩ := zCX Tryz.underlying9 f0
  have f1 : has Tryz.prog (n + 0 + 1) 9 [c1] := hh 1 _ rfl
  obtain ⟨v1, rfl, w1⟩ := zCX Tryz.underlying9 f1
  have f2 : has Tryz.prog (n + 0 + 1) 4 [c2] := hh 2 _ rfl
  obtain ⟨v2, rfl⟩ := zCL Tryz.underlying4 f2
  exact ⟨⟨v0, v1, v2⟩, rfl, ⟨w0, w1⟩⟩
theorem zTO {n : Nat} {row : List T} (hl : row.length = 1) (h : has Tryz.prog (n + 2) 137 row) : ∃ x : Clock, row = Clock.row false x ∧ x.wf := by
 match row, hl with
 | [c0], _ =>
  unfold has at h
  simp only [Tryz.underlying137] at h
  have hh := h
  have f0 : has Tryz.prog (n + 0 + 1) 3 [c0] := hh 0 _ rfl
  obtain ⟨v0, rfl, w0⟩ := zA3 Tryz.underlying3 f0
  exact ⟨⟨v0⟩, rfl, w0⟩
theorem zWp {n : Nat} {row : List T} (hl : row.length = 7) (h : has Tryz.prog (n + 4) 269 row) : ∃ x : Rec, row = Rec.row false x ∧ x.wf := by
 match row, hl with
 | [c0, c1, c2, c3, c4, c5, c6], _ =>
  unfold has at h
  simp only [Tryz.underlying269] at h
  have hh := h
  have f0 : has Tryz.prog (n + 2 + 1) 3 [c0] := hh 0 _ rfl
  obtain ⟨v0, rfl, w0⟩ := zA3 Tryz.underlying3 f0
  have f1 : has Tryz.prog (n + 2 + 1) 3 [c1] := hh 1 _ rfl
  obtain ⟨v1, rfl, w1⟩ := zA3 Tryz.underlying3 f1
  have f2 : has Tryz.prog (n + 2 + 1) 3 [c2] := hh 2 _ rfl
  obtain ⟨v2, rfl, w2⟩ := zA3 Tryz.underlying3 f2
  have f3 : has Tryz.prog (n + 2 + 1) 3 [c3] := hh 3 _ rfl
  obtain ⟨v3, rfl, w3⟩ := zA3 Tryz.underlying3 f3
  have f4 : has Tryz.prog (n + 1 + 2) 23 [c4] := hh 4 _ rfl
  obtain ⟨v4, rfl, w4⟩ := zBQ (fun x => [str x]) (fun s => s.size ≤ maxLen) Tryz.underlying23 (by kernel_rfl) (fun r hl h => zFg (F := fun x => str x) (Q := fun s => s.size ≤ maxLen) hl (fun c hc => zCX Tryz.underlying9 (hc ▸ h))) f4
  have f5 : has Tryz.prog (n + 0 + 3) 267 [c5] := hh 5 _ rfl
  obtain ⟨v5, rfl, w5⟩ := zBQ (Write.row false) (Write.wf) Tryz.underlying267 (by kernel_rfl) (fun r hl h => zTN hl h) f5
  have f6 : has Tryz.prog (n + 2 + 1) 4 [c6] := hh 6 _ rfl
  obtain ⟨v6, rfl⟩ := zCL Tryz.underlying4 f6
  exact ⟨⟨v0, v1, v2, v3, v4, v5, v6⟩, rfl, ⟨w0, w1, w2, w3, w4, w5⟩⟩
theorem zNn {n : Nat} {row : List T} (hl : row.length = 6) (h : has Tryz.prog (n + 4) 110 row) : ∃ x : WorldLook, row = WorldLook.row false x ∧ x.wf := by
 match row, hl with
 | [c0, c1, c2, c3, c4, c5], _ =>
  unfold has at h
  simp only [Tryz.underlying110] at h
  have hh := h
  have f0 : has Tryz.prog (n + 2 + 1) 3 [c0] := hh 0 _ rfl
  obtain ⟨v0, rfl, w0⟩ := zA3 Tryz.underlying3 f0
  have f1 : has Tryz.prog (n + 1 + 2) 23 [c1] := hh 1 _ rfl
  obtain ⟨v1, rfl, w1⟩ := zBQ (fun x => [str x]) (fun s => s.size ≤ maxLen) Tryz.underlying23 (by kernel_rfl) (fun r hl h => zFg (F := fun x => str x) (Q := fun s => s.size ≤ maxLen) hl (fun c hc => zCX Tryz.underlying9 (hc ▸ h))) f1
  have f2 : has Tryz.prog (n + 0 + 3) 105 [c2] := hh 2 _ rfl
  obtain ⟨v2, rfl, w2⟩ := zBQ (Got.row false) (Got.wf) Tryz.underlying105 (by kernel_rfl) (fun r hl h => zQP hl h) f2
  have f3 : has Tryz.prog (n + 2 + 1) 3 [c3] := hh 3 _ rfl
  obtain ⟨v3, rfl, w3⟩ := zA3 Tryz.underlying3 f3
  have f4 : has Tryz.prog (n + 2 + 1) 3 [c4] := hh 4 _ rfl
  obtain ⟨v4, rfl, w4⟩ := zA3 Tryz.underlying3 f4
  have f5 : has Tryz.prog (n + 2 + 1) 3 [c5] := hh 5 _ rfl
  obtain ⟨v5, rfl, w5⟩ := zA3 Tryz.underlying3 f5
  exact ⟨⟨v0, v1, v2, v3, v4, v5⟩, rfl, ⟨w0, w1, w2, w3, w4, w5⟩⟩
theorem zO7 {n : Nat} {row : List T} (hl : row.length = 10) (h : has Tryz.prog (n + 4) 107 row) : ∃ x : WorldTxn, row = WorldTxn.row false x ∧ x.wf := by
 match row, hl with
 | [c0, c1, c2, c3, c4, c5, c6, c7, c8, c9], _ =>
  unfold has at h
  simp only [Tryz.underlying107] at h
  have hh := h
  have f0 : has Tryz.prog (n + 0 + 3) 104 [c0] := hh 0 _ rfl
  obtain ⟨v0, rfl, w0⟩ := zBQ (Op.row false) (Op.wf) Tryz.underlying104 (by kernel_rfl) (fun r hl h => zZo hl h) f0
  have f1 : has Tryz.prog (n + 0 + 3) 105 [c1] := hh 1 _ rfl
  obtain ⟨v1, rfl, w1⟩ := zBQ (Got.row false) (Got.wf) Tryz.underlying105 (by kernel_rfl) (fun r hl h => zQP hl h) f1
  have f2 : has Tryz.prog (n + 1 + 2) 26 [c2] := hh 2 _ rfl
  obtain ⟨v2, rfl, w2⟩ := zBQ (fun x => [i64 x]) (fun n => -9223372036854775808 ≤ n ∧ n ≤ 9223372036854775807) Tryz.underlying26 (by kernel_rfl) (fun r hl h => zFg (F := fun x => i64 x) (Q := fun n => -9223372036854775808 ≤ n ∧ n ≤ 9223372036854775807) hl (fun c hc => zA3 Tryz.underlying3 (hc ▸ h))) f2
  have f3 : has Tryz.prog (n + 2 + 1) 3 [c3] := hh 3 _ rfl
  obtain ⟨v3, rfl, w3⟩ := zA3 Tryz.underlying3 f3
  have f4 : has Tryz.prog (n + 2 + 1) 3 [c4] := hh 4 _ rfl
  obtain ⟨v4, rfl, w4⟩ := zA3 Tryz.underlying3 f4
  have f5 : has Tryz.prog (n + 2 + 1) 4 [c5] := hh 5 _ rfl
  obtain ⟨v5, rfl⟩ := zCL Tryz.underlying4 f5
  have f6 : has Tryz.prog (n + 2 + 1) 3 [c6] := hh 6 _ rfl
  obtain ⟨v6, rfl, w6⟩ := zA3 Tryz.underlying3 f6
  have f7 : has Tryz.prog (n + 2 + 1) 4 [c7] := hh 7 _ rfl
  obtain ⟨v7, rfl⟩ := zCL Tryz.underlying4 f7
  have f8 : has Tryz.prog (n + 2 + 1) 4 [c8] := hh 8 _ rfl
  obtain ⟨v8, rfl⟩ := zCL Tryz.underlying4 f8
  have f9 : has Tryz.prog (n + 2 + 1) 4 [c9] := hh 9 _ rfl
  obtain ⟨v9, rfl⟩ := zCL Tryz.underlying4 f9
  exact ⟨⟨v0, v1, v2, v3, v4, v5, v6, v7, v8, v9⟩, rfl, ⟨w0, w1, w2, w3, w4, w6⟩⟩
theorem zTP {n : Nat} {row : List T} (hl : row.length = 8) (h : has Tryz.prog (n + 5) 271 row) : ∃ x : Entry, row = Entry.row false x ∧ x.wf := by
 match row, hl with
 | [c0, c1, c2, c3, c4, c5, c6, c7], _ =>
  unfold has at h
  simp only [Tryz.underlying271] at h
  have hh := h
  have f0 : has Tryz.prog (n + 3 + 1) 3 [c0] := hh 0 _ rfl
  obtain ⟨v0, rfl, w0⟩ := zA3 Tryz.underlying3 f0
  have f1 : has Tryz.prog (n + 0 + 4) 269 [c1, c2, c3, c4, c5, c6, c7] := hh 1 _ rfl
  obtain ⟨v1, e1, w1⟩ := zWp rfl f1
  simp only [Rec.row, List.cons.injEq, and_true] at e1
  obtain ⟨rfl, rfl, rfl, rfl, rfl, rfl, rfl⟩ := e1
  exact ⟨⟨v0, v1⟩, rfl, ⟨w0, w1⟩⟩
theorem zPN {n : Nat} {row : List T} (hl : row.length = 3) (h : has Tryz.prog (n + 7) 218 row) : ∃ x : Replica, row = Replica.row false x ∧ x.wf := by
 match row, hl with
 | [c0, c1, c2], _ =>
  unfold has at h
  simp only [Tryz.underlying218] at h
  have hh := h
  have f0 : has Tryz.prog (n + 5 + 1) 4 [c0] := hh 0 _ rfl
  obtain ⟨v0, rfl⟩ := zCL Tryz.underlying4 f0
  have f1 : has Tryz.prog (n + 0 + 6) 216 [c1] := hh 1 _ rfl
  obtain ⟨v1, rfl, w1⟩ := zBQ (Entry.row false) (Entry.wf) Tryz.underlying216 (by kernel_rfl) (fun r hl h => zTP hl h) f1
  have f2 : has Tryz.prog (n + 5 + 1) 3 [c2] := hh 2 _ rfl
  obtain ⟨v2, rfl, w2⟩ := zA3 Tryz.underlying3 f2
  exact ⟨⟨v0, v1, v2⟩, rfl, ⟨w1, w2⟩⟩
theorem zTQ {n : Nat} {row : List T} (hl : row.length = 3) (h : has Tryz.prog (n + 9) 100 row) : ∃ x : Group, row = Group.row false x ∧ x.wf := by
 match row, hl with
 | [c0, c1, c2], _ =>
  unfold has at h
  simp only [Tryz.underlying100] at h
  have hh := h
  have f0 : has Tryz.prog (n + 0 + 8) 98 [c0] := hh 0 _ rfl
  obtain ⟨v0, rfl, w0⟩ := zBQ (Replica.row false) (Replica.wf) Tryz.underlying98 (by kernel_rfl) (fun r hl h => zPN hl h) f0
  have f1 : has Tryz.prog (n + 7 + 1) 3 [c1] := hh 1 _ rfl
  obtain ⟨v1, rfl, w1⟩ := zA3 Tryz.underlying3 f1
  have f2 : has Tryz.prog (n + 7 + 1) 3 [c2] := hh 2 _ rfl
  obtain ⟨v2, rfl, w2⟩ := zA3 Tryz.underlying3 f2
  exact ⟨⟨v0, v1, v2⟩, rfl, ⟨w0, w1, w2⟩⟩
theorem zTR {n : Nat} {row : List T} (hl : row.length = 9) (h : has Tryz.prog (n + 11) 30 row) : ∃ x : World, row = World.row false x ∧ x.wf := by
 match row, hl with
 | [c0, c1, c2, c3, c4, c5, c6, c7, c8], _ =>
  unfold has at h
  simp only [Tryz.underlying30] at h
  have hh := h
  have f0 : has Tryz.prog (n + 9 + 1) 3 [c0] := hh 0 _ rfl
  obtain ⟨v0, rfl, w0⟩ := zA3 Tryz.underlying3 f0
  have f1 : has Tryz.prog (n + 9 + 1) 3 [c1] := hh 1 _ rfl
  obtain ⟨v1, rfl, w1⟩ := zA3 Tryz.underlying3 f1
  have f2 : has Tryz.prog (n + 7 + 3) 22 [c2] := hh 2 _ rfl
  obtain ⟨v2, rfl, w2⟩ := zBQ (Clock.row false) (Clock.wf) Tryz.underlying22 (by kernel_rfl) (fun r hl h => zTO hl h) f2
  have f3 : has Tryz.prog (n + 8 + 2) 23 [c3] := hh 3 _ rfl
  obtain ⟨v3, rfl, w3⟩ := zBQ (fun x => [str x]) (fun s => s.size ≤ maxLen) Tryz.underlying23 (by kernel_rfl) (fun r hl h => zFg (F := fun x => str x) (Q := fun s => s.size ≤ maxLen) hl (fun c hc => zCX Tryz.underlying9 (hc ▸ h))) f3
  have f4 : has Tryz.prog (n + 0 + 10) 24 [c4] := hh 4 _ rfl
  obtain ⟨v4, rfl, w4⟩ := zBQ (Group.row false) (Group.wf) Tryz.underlying24 (by kernel_rfl) (fun r hl h => zTQ hl h) f4
  have f5 : has Tryz.prog (n + 6 + 4) 25 [c5] := hh 5 _ rfl
  obtain ⟨v5, rfl, w5⟩ := zBQ (fun y => [.sl false 3 (y.map (Lock.row false))]) (wfL (Lock.wf)) Tryz.underlying25 (by kernel_rfl) (fun r hl h => zFg (F := fun y => .sl false 3 (y.map (Lock.row false))) (Q := wfL (Lock.wf)) hl (fun c hc => zBQ (Lock.row false) (Lock.wf) Tryz.underlying102 (by kernel_rfl) (fun r hl h => zVh hl h) (hc ▸ h))) f5
  have f6 : has Tryz.prog (n + 8 + 2) 26 [c6] := hh 6 _ rfl
  obtain ⟨v6, rfl, w6⟩ := zBQ (fun x => [i64 x]) (fun n => -9223372036854775808 ≤ n ∧ n ≤ 9223372036854775807) Tryz.underlying26 (by kernel_rfl) (fun r hl h => zFg (F := fun x => i64 x) (Q := fun n => -9223372036854775808 ≤ n ∧ n ≤ 9223372036854775807) hl (fun c hc => zA3 Tryz.underlying3 (hc ▸ h))) f6
  have f7 : has Tryz.prog (n + 5 + 5) 27 [c7] := hh 7 _ rfl
  obtain ⟨v7, rfl, w7⟩ := zBQ (WorldTxn.row false) (WorldTxn.wf) Tryz.underlying27 (by kernel_rfl) (fun r hl h => zO7 hl h) f7
  have f8 : has Tryz.prog (n + 5 + 5) 28 [c8] := hh 8 _ rfl
  obtain ⟨v8, rfl, w8⟩ := zBQ (WorldLook.row false) (WorldLook.wf) Tryz.underlying28 (by kernel_rfl) (fun r hl h => zNn hl h) f8
  exact ⟨⟨v0, v1, v2, v3, v4, v5, v6, v7, v8⟩, rfl, ⟨w0, w1, w2, w3, w4, w5, w6, w7, w8⟩⟩
end Go.Proofs.Wb

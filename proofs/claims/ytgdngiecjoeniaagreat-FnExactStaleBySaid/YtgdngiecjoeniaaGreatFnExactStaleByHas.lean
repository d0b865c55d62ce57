import Derived.Test.YtgdngiecjoeniaaGreatFnExactStaleByNE
import Derived.Test.YtgdngiecjoeniaaGreatAmRead
set_option linter.unusedSimpArgs false
set_option linter.unusedVariables false
set_option linter.unusedSectionVars false
set_option maxRecDepth 100000
namespace Go.Proofs.Wb
open Go Go.Am
theorem has_Got {n : Nat} {row : List T} (hl : row.length = 3) (h : has Tryz.prog (n + 2) 204 row) : ∃ x : Got, row = Got.row false x ∧ x.wf := by
 match row, hl with
 | [c0, c1, c2], _ =>
  unfold has at h
  simp only [Tryz.underlying204] at h
  have hh := h
  have f0 : has Tryz.prog (n + 0 + 1) 9 [c0] := hh 0 _ rfl
  obtain ⟨v0, rfl, w0⟩ := has_str Tryz.underlying9 f0
  have f1 : has Tryz.prog (n + 0 + 1) 9 [c1] := hh 1 _ rfl
  obtain ⟨v1, rfl, w1⟩ := has_str Tryz.underlying9 f1
  have f2 : has Tryz.prog (n + 0 + 1) 4 [c2] := hh 2 _ rfl
  obtain ⟨v2, rfl⟩ := has_bool Tryz.underlying4 f2
  exact ⟨⟨v0, v1, v2⟩, rfl, ⟨w0, w1⟩⟩
theorem has_Lock {n : Nat} {row : List T} (hl : row.length = 3) (h : has Tryz.prog (n + 2) 159 row) : ∃ x : Lock, row = Lock.row false x ∧ x.wf := by
 match row, hl with
 | [c0, c1, c2], _ =>
  unfold has at h
  simp only [Tryz.underlying159] at h
  have hh := h
  have f0 : has Tryz.prog (n + 0 + 1) 9 [c0] := hh 0 _ rfl
  obtain ⟨v0, rfl, w0⟩ := has_str Tryz.underlying9 f0
  have f1 : has Tryz.prog (n + 0 + 1) 3 [c1] := hh 1 _ rfl
  obtain ⟨v1, rfl, w1⟩ := has_int Tryz.underlying3 f1
  have f2 : has Tryz.prog (n + 0 + 1) 4 [c2] := hh 2 _ rfl
  obtain ⟨v2, rfl⟩ := has_bool Tryz.underlying4 f2
  exact ⟨⟨v0, v1, v2⟩, rfl, ⟨w0, w1⟩⟩
theorem has_Op {n : Nat} {row : List T} (hl : row.length = 4) (h : has Tryz.prog (n + 2) 202 row) : ∃ x : Op, row = Op.row false x ∧ x.wf := by
 match row, hl with
 | [c0, c1, c2, c3], _ =>
  unfold has at h
  simp only [Tryz.underlying202] at h
  have hh := h
  have f0 : has Tryz.prog (n + 0 + 1) 3 [c0] := hh 0 _ rfl
  obtain ⟨v0, rfl, w0⟩ := has_int Tryz.underlying3 f0
  have f1 : has Tryz.prog (n + 0 + 1) 9 [c1] := hh 1 _ rfl
  obtain ⟨v1, rfl, w1⟩ := has_str Tryz.underlying9 f1
  have f2 : has Tryz.prog (n + 0 + 1) 9 [c2] := hh 2 _ rfl
  obtain ⟨v2, rfl, w2⟩ := has_str Tryz.underlying9 f2
  have f3 : has Tryz.prog (n + 0 + 1) 3 [c3] := hh 3 _ rfl
  obtain ⟨v3, rfl, w3⟩ := has_int Tryz.underlying3 f3
  exact ⟨⟨v0, v1, v2, v3⟩, rfl, ⟨w0, w1, w2, w3⟩⟩
theorem has_Write {n : Nat} {row : List T} (hl : row.length = 3) (h : has Tryz.prog (n + 2) 315 row) : ∃ x : Write, row = Write.row false x ∧ x.wf := by
 match row, hl with
 | [c0, c1, c2], _ =>
  unfold has at h
  simp only [Tryz.underlying315] at h
  have hh := h
  have f0 : has Tryz.prog (n + 0 + 1) 9 [c0] := hh 0 _ rfl
  obtain ⟨v0, rfl, w0⟩ := has_str Tryz.underlying9 f0
  have f1 : has Tryz.prog (n + 0 + 1) 9 [c1] := hh 1 _ rfl
  obtain ⟨v1, rfl, w1⟩ := has_str Tryz.underlying9 f1
  have f2 : has Tryz.prog (n + 0 + 1) 4 [c2] := hh 2 _ rfl
  obtain ⟨v2, rfl⟩ := has_bool Tryz.underlying4 f2
  exact ⟨⟨v0, v1, v2⟩, rfl, ⟨w0, w1⟩⟩
theorem has_Clock {n : Nat} {row : List T} (hl : row.length = 1) (h : has Tryz.prog (n + 2) 134 row) : ∃ x : Clock, row = Clock.row false x ∧ x.wf := by
 match row, hl with
 | [c0], _ =>
  unfold has at h
  simp only [Tryz.underlying134] at h
  have hh := h
  have f0 : has Tryz.prog (n + 0 + 1) 3 [c0] := hh 0 _ rfl
  obtain ⟨v0, rfl, w0⟩ := has_int Tryz.underlying3 f0
  exact ⟨⟨v0⟩, rfl, w0⟩
theorem has_Rec {n : Nat} {row : List T} (hl : row.length = 7) (h : has Tryz.prog (n + 4) 247 row) : ∃ x : Rec, row = Rec.row false x ∧ x.wf := by
 match row, hl with
 | [c0, c1, c2, c3, c4, c5, c6], _ =>
  unfold has at h
  simp only [Tryz.underlying247] at h
  have hh := h
  have f0 : has Tryz.prog (n + 2 + 1) 3 [c0] := hh 0 _ rfl
  obtain ⟨v0, rfl, w0⟩ := has_int Tryz.underlying3 f0
  have f1 : has Tryz.prog (n + 2 + 1) 3 [c1] := hh 1 _ rfl
  obtain ⟨v1, rfl, w1⟩ := has_int Tryz.underlying3 f1
  have f2 : has Tryz.prog (n + 2 + 1) 3 [c2] := hh 2 _ rfl
  obtain ⟨v2, rfl, w2⟩ := has_int Tryz.underlying3 f2
  have f3 : has Tryz.prog (n + 2 + 1) 3 [c3] := hh 3 _ rfl
  obtain ⟨v3, rfl, w3⟩ := has_int Tryz.underlying3 f3
  have f4 : has Tryz.prog (n + 1 + 2) 23 [c4] := hh 4 _ rfl
  obtain ⟨v4, rfl, w4⟩ := has_sl (fun x => [str x]) (fun s => s.size ≤ maxLen) Tryz.underlying23 (by kernel_rfl) (fun r hl h => one_row (F := fun x => str x) (Q := fun s => s.size ≤ maxLen) hl (fun c hc => has_str Tryz.underlying9 (hc ▸ h))) f4
  have f5 : has Tryz.prog (n + 0 + 3) 245 [c5] := hh 5 _ rfl
  obtain ⟨v5, rfl, w5⟩ := has_sl (Write.row false) (Write.wf) Tryz.underlying245 (by kernel_rfl) (fun r hl h => has_Write hl h) f5
  have f6 : has Tryz.prog (n + 2 + 1) 4 [c6] := hh 6 _ rfl
  obtain ⟨v6, rfl⟩ := has_bool Tryz.underlying4 f6
  exact ⟨⟨v0, v1, v2, v3, v4, v5, v6⟩, rfl, ⟨w0, w1, w2, w3, w4, w5⟩⟩
theorem has_WorldLook {n : Nat} {row : List T} (hl : row.length = 6) (h : has Tryz.prog (n + 4) 111 row) : ∃ x : WorldLook, row = WorldLook.row false x ∧ x.wf := by
 match row, hl with
 | [c0, c1, c2, c3, c4, c5], _ =>
  unfold has at h
  simp only [Tryz.underlying111] at h
  have hh := h
  have f0 : has Tryz.prog (n + 2 + 1) 3 [c0] := hh 0 _ rfl
  obtain ⟨v0, rfl, w0⟩ := has_int Tryz.underlying3 f0
  have f1 : has Tryz.prog (n + 1 + 2) 23 [c1] := hh 1 _ rfl
  obtain ⟨v1, rfl, w1⟩ := has_sl (fun x => [str x]) (fun s => s.size ≤ maxLen) Tryz.underlying23 (by kernel_rfl) (fun r hl h => one_row (F := fun x => str x) (Q := fun s => s.size ≤ maxLen) hl (fun c hc => has_str Tryz.underlying9 (hc ▸ h))) f1
  have f2 : has Tryz.prog (n + 0 + 3) 106 [c2] := hh 2 _ rfl
  obtain ⟨v2, rfl, w2⟩ := has_sl (Got.row false) (Got.wf) Tryz.underlying106 (by kernel_rfl) (fun r hl h => has_Got hl h) f2
  have f3 : has Tryz.prog (n + 2 + 1) 3 [c3] := hh 3 _ rfl
  obtain ⟨v3, rfl, w3⟩ := has_int Tryz.underlying3 f3
  have f4 : has Tryz.prog (n + 2 + 1) 3 [c4] := hh 4 _ rfl
  obtain ⟨v4, rfl, w4⟩ := has_int Tryz.underlying3 f4
  have f5 : has Tryz.prog (n + 2 + 1) 3 [c5] := hh 5 _ rfl
  obtain ⟨v5, rfl, w5⟩ := has_int Tryz.underlying3 f5
  exact ⟨⟨v0, v1, v2, v3, v4, v5⟩, rfl, ⟨w0, w1, w2, w3, w4, w5⟩⟩
theorem has_WorldTxn {n : Nat} {row : List T} (hl : row.length = 10) (h : has Tryz.prog (n + 4) 108 row) : ∃ x : WorldTxn, row = WorldTxn.row false x ∧ x.wf := by
 match row, hl with
 | [c0, c1, c2, c3, c4, c5, c6, c7, c8, c9], _ =>
  unfold has at h
  simp only [Tryz.underlying108] at h
  have hh := h
  have f0 : has Tryz.prog (n + 0 + 3) 105 [c0] := hh 0 _ rfl
  obtain ⟨v0, rfl, w0⟩ := has_sl (Op.row false) (Op.wf) Tryz.underlying105 (by kernel_rfl) (fun r hl h => has_Op hl h) f0
  have f1 : has Tryz.prog (n + 0 + 3) 106 [c1] := hh 1 _ rfl
  obtain ⟨v1, rfl, w1⟩ := has_sl (Got.row false) (Got.wf) Tryz.underlying106 (by kernel_rfl) (fun r hl h => has_Got hl h) f1
  have f2 : has Tryz.prog (n + 1 + 2) 26 [c2] := hh 2 _ rfl
  obtain ⟨v2, rfl, w2⟩ := has_sl (fun x => [i64 x]) (fun n => -9223372036854775808 ≤ n ∧ n ≤ 9223372036854775807) Tryz.underlying26 (by kernel_rfl) (fun r hl h => one_row (F := fun x => i64 x) (Q := fun n => -9223372036854775808 ≤ n ∧ n ≤ 9223372036854775807) hl (fun c hc => has_int Tryz.underlying3 (hc ▸ h))) f2
  have f3 : has Tryz.prog (n + 2 + 1) 3 [c3] := hh 3 _ rfl
  obtain ⟨v3, rfl, w3⟩ := has_int Tryz.underlying3 f3
  have f4 : has Tryz.prog (n + 2 + 1) 3 [c4] := hh 4 _ rfl
  obtain ⟨v4, rfl, w4⟩ := has_int Tryz.underlying3 f4
  have f5 : has Tryz.prog (n + 2 + 1) 4 [c5] := hh 5 _ rfl
  obtain ⟨v5, rfl⟩ := has_bool Tryz.underlying4 f5
  have f6 : has Tryz.prog (n + 2 + 1) 3 [c6] := hh 6 _ rfl
  obtain ⟨v6, rfl, w6⟩ := has_int Tryz.underlying3 f6
  have f7 : has Tryz.prog (n + 2 + 1) 4 [c7] := hh 7 _ rfl
  obtain ⟨v7, rfl⟩ := has_bool Tryz.underlying4 f7
  have f8 : has Tryz.prog (n + 2 + 1) 4 [c8] := hh 8 _ rfl
  obtain ⟨v8, rfl⟩ := has_bool Tryz.underlying4 f8
  have f9 : has Tryz.prog (n + 2 + 1) 4 [c9] := hh 9 _ rfl
  obtain ⟨v9, rfl⟩ := has_bool Tryz.underlying4 f9
  exact ⟨⟨v0, v1, v2, v3, v4, v5, v6, v7, v8, v9⟩, rfl, ⟨w0, w1, w2, w3, w4, w6⟩⟩
theorem has_Entry {n : Nat} {row : List T} (hl : row.length = 8) (h : has Tryz.prog (n + 5) 249 row) : ∃ x : Entry, row = Entry.row false x ∧ x.wf := by
 match row, hl with
 | [c0, c1, c2, c3, c4, c5, c6, c7], _ =>
  unfold has at h
  simp only [Tryz.underlying249] at h
  have hh := h
  have f0 : has Tryz.prog (n + 3 + 1) 3 [c0] := hh 0 _ rfl
  obtain ⟨v0, rfl, w0⟩ := has_int Tryz.underlying3 f0
  have f1 : has Tryz.prog (n + 0 + 4) 247 [c1, c2, c3, c4, c5, c6, c7] := hh 1 _ rfl
  obtain ⟨v1, e1, w1⟩ := has_Rec rfl f1
  simp only [Rec.row, List.cons.injEq, and_true] at e1
  obtain ⟨rfl, rfl, rfl, rfl, rfl, rfl, rfl⟩ := e1
  exact ⟨⟨v0, v1⟩, rfl, ⟨w0, w1⟩⟩
theorem has_Replica {n : Nat} {row : List T} (hl : row.length = 3) (h : has Tryz.prog (n + 7) 199 row) : ∃ x : Replica, row = Replica.row false x ∧ x.wf := by
 match row, hl with
 | [c0, c1, c2], _ =>
  unfold has at h
  simp only [Tryz.underlying199] at h
  have hh := h
  have f0 : has Tryz.prog (n + 5 + 1) 4 [c0] := hh 0 _ rfl
  obtain ⟨v0, rfl⟩ := has_bool Tryz.underlying4 f0
  have f1 : has Tryz.prog (n + 0 + 6) 197 [c1] := hh 1 _ rfl
  obtain ⟨v1, rfl, w1⟩ := has_sl (Entry.row false) (Entry.wf) Tryz.underlying197 (by kernel_rfl) (fun r hl h => has_Entry hl h) f1
  have f2 : has Tryz.prog (n + 5 + 1) 3 [c2] := hh 2 _ rfl
  obtain ⟨v2, rfl, w2⟩ := has_int Tryz.underlying3 f2
  exact ⟨⟨v0, v1, v2⟩, rfl, ⟨w1, w2⟩⟩
theorem has_Group {n : Nat} {row : List T} (hl : row.length = 3) (h : has Tryz.prog (n + 9) 101 row) : ∃ x : Group, row = Group.row false x ∧ x.wf := by
 match row, hl with
 | [c0, c1, c2], _ =>
  unfold has at h
  simp only [Tryz.underlying101] at h
  have hh := h
  have f0 : has Tryz.prog (n + 0 + 8) 99 [c0] := hh 0 _ rfl
  obtain ⟨v0, rfl, w0⟩ := has_sl (Replica.row false) (Replica.wf) Tryz.underlying99 (by kernel_rfl) (fun r hl h => has_Replica hl h) f0
  have f1 : has Tryz.prog (n + 7 + 1) 3 [c1] := hh 1 _ rfl
  obtain ⟨v1, rfl, w1⟩ := has_int Tryz.underlying3 f1
  have f2 : has Tryz.prog (n + 7 + 1) 3 [c2] := hh 2 _ rfl
  obtain ⟨v2, rfl, w2⟩ := has_int Tryz.underlying3 f2
  exact ⟨⟨v0, v1, v2⟩, rfl, ⟨w0, w1, w2⟩⟩
theorem has_World {n : Nat} {row : List T} (hl : row.length = 9) (h : has Tryz.prog (n + 11) 30 row) : ∃ x : World, row = World.row false x ∧ x.wf := by
 match row, hl with
 | [c0, c1, c2, c3, c4, c5, c6, c7, c8], _ =>
  unfold has at h
  simp only [Tryz.underlying30] at h
  have hh := h
  have f0 : has Tryz.prog (n + 9 + 1) 3 [c0] := hh 0 _ rfl
  obtain ⟨v0, rfl, w0⟩ := has_int Tryz.underlying3 f0
  have f1 : has Tryz.prog (n + 9 + 1) 3 [c1] := hh 1 _ rfl
  obtain ⟨v1, rfl, w1⟩ := has_int Tryz.underlying3 f1
  have f2 : has Tryz.prog (n + 7 + 3) 22 [c2] := hh 2 _ rfl
  obtain ⟨v2, rfl, w2⟩ := has_sl (Clock.row false) (Clock.wf) Tryz.underlying22 (by kernel_rfl) (fun r hl h => has_Clock hl h) f2
  have f3 : has Tryz.prog (n + 8 + 2) 23 [c3] := hh 3 _ rfl
  obtain ⟨v3, rfl, w3⟩ := has_sl (fun x => [str x]) (fun s => s.size ≤ maxLen) Tryz.underlying23 (by kernel_rfl) (fun r hl h => one_row (F := fun x => str x) (Q := fun s => s.size ≤ maxLen) hl (fun c hc => has_str Tryz.underlying9 (hc ▸ h))) f3
  have f4 : has Tryz.prog (n + 0 + 10) 24 [c4] := hh 4 _ rfl
  obtain ⟨v4, rfl, w4⟩ := has_sl (Group.row false) (Group.wf) Tryz.underlying24 (by kernel_rfl) (fun r hl h => has_Group hl h) f4
  have f5 : has Tryz.prog (n + 6 + 4) 25 [c5] := hh 5 _ rfl
  obtain ⟨v5, rfl, w5⟩ := has_sl (fun y => [.sl false 3 (y.map (Lock.row false))]) (wfL (Lock.wf)) Tryz.underlying25 (by kernel_rfl) (fun r hl h => one_row (F := fun y => .sl false 3 (y.map (Lock.row false))) (Q := wfL (Lock.wf)) hl (fun c hc => has_sl (Lock.row false) (Lock.wf) Tryz.underlying103 (by kernel_rfl) (fun r hl h => has_Lock hl h) (hc ▸ h))) f5
  have f6 : has Tryz.prog (n + 8 + 2) 26 [c6] := hh 6 _ rfl
  obtain ⟨v6, rfl, w6⟩ := has_sl (fun x => [i64 x]) (fun n => -9223372036854775808 ≤ n ∧ n ≤ 9223372036854775807) Tryz.underlying26 (by kernel_rfl) (fun r hl h => one_row (F := fun x => i64 x) (Q := fun n => -9223372036854775808 ≤ n ∧ n ≤ 9223372036854775807) hl (fun c hc => has_int Tryz.underlying3 (hc ▸ h))) f6
  have f7 : has Tryz.prog (n + 5 + 5) 27 [c7] := hh 7 _ rfl
  obtain ⟨v7, rfl, w7⟩ := has_sl (WorldTxn.row false) (WorldTxn.wf) Tryz.underlying27 (by kernel_rfl) (fun r hl h => has_WorldTxn hl h) f7
  have f8 : has Tryz.prog (n + 5 + 5) 28 [c8] := hh 8 _ rfl
  obtain ⟨v8, rfl, w8⟩ := has_sl (WorldLook.row false) (WorldLook.wf) Tryz.underlying28 (by kernel_rfl) (fun r hl h => has_WorldLook hl h) f8
  exact ⟨⟨v0, v1, v2, v3, v4, v5, v6, v7, v8⟩, rfl, ⟨w0, w1, w2, w3, w4, w5, w6, w7, w8⟩⟩
end Go.Proofs.Wb

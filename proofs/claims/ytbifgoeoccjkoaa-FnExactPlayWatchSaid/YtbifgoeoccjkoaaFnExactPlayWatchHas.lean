/- Arguments as things of their types. -/
import Derived.Test.YtbifgoeoccjkoaaFnExactPlayWatchF2
import Derived.Test.YtbifgoeoccjkoaaAmRead
set_option linter.unusedSimpArgs false
set_option linter.unusedVariables false
set_option linter.unusedSectionVars false
set_option maxRecDepth 100000
namespace Go.Proofs.Wb
open Go Go.Am
theorem has_Clock {n : Nat} {row : List T} (hl : row.length = 1) (h : has Try.prog (n + 2) 108 row) : ∃ x : Clock, row = Clock.row false x ∧ x.wf := by
  match row, hl with
  | [c0], _ =>
    unfold has at h
    simp only [Try.underlying108] at h
    have hh := h
    have f0 : has Try.prog (n + 0 + 1) 3 [c0] := hh 0 _ rfl
    obtain ⟨v0, rfl, w0⟩ := has_int Try.underlying3 f0
    exact ⟨⟨v0⟩, rfl, w0⟩
theorem has_Lease {n : Nat} {row : List T} (hl : row.length = 3) (h : has Try.prog (n + 2) 110 row) : ∃ x : Lease, row = Lease.row false x ∧ x.wf := by
  match row, hl with
  | [c0, c1, c2], _ =>
    unfold has at h
    simp only [Try.underlying110] at h
    have hh := h
    have f0 : has Try.prog (n + 0 + 1) 3 [c0] := hh 0 _ rfl
    obtain ⟨v0, rfl, w0⟩ := has_int Try.underlying3 f0
    have f1 : has Try.prog (n + 0 + 1) 3 [c1] := hh 1 _ rfl
    obtain ⟨v1, rfl, w1⟩ := has_int Try.underlying3 f1
    have f2 : has Try.prog (n + 0 + 1) 3 [c2] := hh 2 _ rfl
    obtain ⟨v2, rfl, w2⟩ := has_int Try.underlying3 f2
    exact ⟨⟨v0, v1, v2⟩, rfl, ⟨w0, w1, w2⟩⟩
theorem has_WatchAct {n : Nat} {row : List T} (hl : row.length = 3) (h : has Try.prog (n + 2) 70 row) : ∃ x : WatchAct, row = WatchAct.row false x ∧ x.wf := by
  match row, hl with
  | [c0, c1, c2], _ =>
    unfold has at h
    simp only [Try.underlying70] at h
    have hh := h
    have f0 : has Try.prog (n + 0 + 1) 3 [c0] := hh 0 _ rfl
    obtain ⟨v0, rfl, w0⟩ := has_int Try.underlying3 f0
    have f1 : has Try.prog (n + 0 + 1) 3 [c1] := hh 1 _ rfl
    obtain ⟨v1, rfl, w1⟩ := has_int Try.underlying3 f1
    have f2 : has Try.prog (n + 0 + 1) 3 [c2] := hh 2 _ rfl
    obtain ⟨v2, rfl, w2⟩ := has_int Try.underlying3 f2
    exact ⟨⟨v0, v1, v2⟩, rfl, ⟨w0, w1, w2⟩⟩
theorem has_Watch {n : Nat} {row : List T} (hl : row.length = 3) (h : has Try.prog (n + 4) 37 row) : ∃ x : Watch, row = Watch.row false x ∧ x.wf := by
  match row, hl with
  | [c0, c1, c2], _ =>
    unfold has at h
    simp only [Try.underlying37] at h
    have hh := h
    have f0 : has Try.prog (n + 2 + 1) 3 [c0] := hh 0 _ rfl
    obtain ⟨v0, rfl, w0⟩ := has_int Try.underlying3 f0
    have f1 : has Try.prog (n + 0 + 3) 34 [c1] := hh 1 _ rfl
    obtain ⟨v1, rfl, w1⟩ := has_sl (Clock.row false) (Clock.wf) Try.underlying34 (by kernel_rfl) (fun r hl h => has_Clock hl h) f1
    have f2 : has Try.prog (n + 0 + 3) 35 [c2] := hh 2 _ rfl
    obtain ⟨v2, rfl, w2⟩ := has_sl (Lease.row false) (Lease.wf) Try.underlying35 (by kernel_rfl) (fun r hl h => has_Lease hl h) f2
    exact ⟨⟨v0, v1, v2⟩, rfl, ⟨w0, w1, w2⟩⟩
end Go.Proofs.Wb

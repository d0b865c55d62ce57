import Derived.Test.YtpkhdekgoppcmaaGreatFnExactNewWorldY7
import Derived.Test.YtpkhdekgoppcmaaGreatAmRead
set_option linter.all false
set_option maxRecDepth 100000
namespace Go.Proofs.Wb
open Tryz renaming prog → p_
open Go Go.Am
theorem has_Op {n : Nat} {row : List T} (hl : row.length = 4) (h : has p_ (n + 2) 91 row) : ∃ x : Op, row = Op.row false x ∧ x.wf := by
 match row, hl with
 | [c0, c1, c2, c3], _ =>
  unfold has at h
  simp only [Tryz.underlying91] at h
  have hh := h
  have f0 : has p_ (n + 0 + 1) 3 [c0] := hh 0 _ rfl
  obtain ⟨v0, rfl, w0⟩ := has_int Tryz.underlying3 f0
  have f1 : has p_ (n + 0 + 1) 9 [c1] := hh 1 _ rfl
  obtain ⟨v1, rfl, w1⟩ := has_str Tryz.underlying9 f1
  have f2 : has p_ (n + 0 + 1) 9 [c2] := hh 2 _ rfl
  obtain ⟨v2, rfl, w2⟩ := has_str Tryz.underlying9 f2
  have f3 : has p_ (n + 0 + 1) 3 [c3] := hh 3 _ rfl
  obtain ⟨v3, rfl, w3⟩ := has_int Tryz.underlying3 f3
  exact ⟨⟨v0, v1, v2, v3⟩, rfl, ⟨w0, w1, w2, w3⟩⟩
end Go.Proofs.Wb

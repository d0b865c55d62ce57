/- Contracts of functions. -/
import Derived.Test.YtpfgmidkclompaaFnExactSeenByTy
import Derived.Laws.Externs
set_option linter.unusedSimpArgs false
set_option linter.unusedVariables false
set_option linter.unusedSectionVars false
namespace Go.Proofs.Wb
open Go Go.Am
/-! the helpers that mark and look for marks -/
attribute [go_sem] isByteRow
def dg (k : Int) : ByteArray := bytesOf [[.v (.int .u8 (IntKind.u8.wrap (48 + k % 10)))]]
theorem dg_size (k : Int) : (dg k).size = 1 := rfl
def digW (k : Int) (out : ByteArray) : ByteArray := if 0 < k then digW (k / 10) (dg k ++ out) else out
termination_by k.toNat
decreasing_by omega
def mkText (k : Int) : ByteArray := if k ≤ 0 then ⟨⟨[109, 48]⟩⟩ else ⟨⟨[109]⟩⟩ ++ digW k ⟨⟨[]⟩⟩
theorem markText_ok (k : Int) (h1 : k ≤ 2 ^ 62) : ACall Try.prog n_laws_markText [i64 k] (fun r _ => r = str (mkText k)) := by
  refine fn_in h_laws_markText r_laws_markText ⟨by simp only [go_sem, ↓reduceIte, Nat.reduceEqDiff, Nat.reduceAdd, Nat.reduceSub, Nat.reduceMul, Nat.reduceLT, Nat.reduceLeDiff, Int.reduceToNat, reduceCtorEq], fun E hE hH => ?_⟩; simp only [go_sem, ↓reduceIte, Nat.reduceEqDiff, Nat.reduceAdd, Nat.reduceSub, Nat.reduceMul, Nat.reduceLT, Nat.reduceLeDiff, Int.reduceToNat, reduceCtorEq] at hE hH; simp only [go_sem, hE, hH, ↓reduceIte, Nat.reduceEqDiff, Nat.reduceAdd, Nat.reduceSub, Nat.reduceMul, Nat.reduceLT, Nat.reduceLeDiff, Int.reduceToNat, reduceCtorEq, c_laws_markText]
  first | refine gd_t (fun h => ?_) (fun h => ?_) | refine gd_f (fun h => ?_) (fun h => ?_)
  · try simp (disch := omega) only [go_sem, hE, hH, ↓reduceIte, Nat.reduceEqDiff, Nat.reduceAdd, Nat.reduceSub, Nat.reduceMul, Nat.reduceLT, Nat.reduceLeDiff, Int.reduceToNat, reduceCtorEq, wrap_id, getD_map, getD_ms, getD_cs, cpy_len, h]
    simp only [decide_eq_true_eq, decide_eq_false_iff_not, Int.not_lt, Int.not_le, ge_iff_le, gt_iff_lt, Bool.not_eq_true', Bool.not_eq_false', beq_iff_eq, bne_iff_ne, beq_eq_false_iff_ne, bne_eq_false_iff_eq, Int.ofNat_lt, Int.ofNat_le] at h
    simp [mkText, h]
  try simp (disch := omega) only [go_sem, hE, hH, ↓reduceIte, Nat.reduceEqDiff, Nat.reduceAdd, Nat.reduceSub, Nat.reduceMul, Nat.reduceLT, Nat.reduceLeDiff, Int.reduceToNat, reduceCtorEq, wrap_id, getD_map, getD_ms, getD_cs, cpy_len, h]
  simp only [decide_eq_true_eq, decide_eq_false_iff_not, Int.not_lt, Int.not_le, ge_iff_le, gt_iff_lt, Bool.not_eq_true', Bool.not_eq_false', beq_iff_eq, bne_iff_ne, beq_eq_false_iff_ne, bne_eq_false_iff_eq, Int.ofNat_lt, Int.ofNat_le] at h
  refine loopM (fun (x : Int × ByteArray) => ⟨[(0, i64 x.1), (3, str x.2)], []⟩) (fun x => 0 ≤ x.1 ∧ x.2.size + x.1 ≤ k ∧ digW x.1 x.2 = digW k ⟨⟨[]⟩⟩) (fun x => x.1.toNat) (k, ⟨⟨[]⟩⟩) ⟨by omega, by change ((0 : Nat) : Int) + k ≤ k; omega, rfl⟩ ?_
  rintro ⟨n, out⟩ ⟨i0, i1, i2⟩
  simp only at i0 i1 i2
  try simp only [go_sem, hE, hH, ↓reduceIte, Nat.reduceEqDiff, Nat.reduceAdd, Nat.reduceSub, Nat.reduceMul, Nat.reduceLT, Nat.reduceLeDiff, Int.reduceToNat, reduceCtorEq, c_laws_markText_l1]
  first | refine gd_t (fun hb => ?_) (fun hb => ?_) | refine gd_f (fun hb => ?_) (fun hb => ?_)
  · have hb2 := hb
    simp only [decide_eq_true_eq, decide_eq_false_iff_not, Int.not_lt, Int.not_le, ge_iff_le, gt_iff_lt, Bool.not_eq_true', Bool.not_eq_false', beq_iff_eq, bne_iff_ne, beq_eq_false_iff_ne, bne_eq_false_iff_eq, Int.ofNat_lt, Int.ofNat_le] at hb
    have e1 : n.tmod 10 = n % 10 := Int.tmod_eq_emod_of_nonneg i0
    have e2 : n.tdiv 10 = n / 10 := Int.tdiv_eq_ediv_of_nonneg i0
    have e3 : (bytesOf [[.v (.int .u8 (IntKind.u8.wrap (48 + n % 10)))]]) = dg n := rfl
    try simp (disch := omega) only [go_sem, hE, hH, ↓reduceIte, Nat.reduceEqDiff, Nat.reduceAdd, Nat.reduceSub, Nat.reduceMul, Nat.reduceLT, Nat.reduceLeDiff, Int.reduceToNat, reduceCtorEq, wrap_id, getD_map, getD_ms, getD_cs, cpy_len, hb2, e1, e2, e3, dg_size]
    refine ⟨by omega, by omega, by omega, ⟨n / 10, dg n ++ out⟩, rfl, ⟨by simp only; omega, ?_, ?_⟩, by simp only; omega⟩
    · rw [ByteArray.size_append, dg_size]; simp only; omega
    · rw [← i2, digW.eq_1 n out, if_pos (by omega)]
  · have hb2 := hb
    simp only [decide_eq_true_eq, decide_eq_false_iff_not, Int.not_lt, Int.not_le, ge_iff_le, gt_iff_lt, Bool.not_eq_true', Bool.not_eq_false', beq_iff_eq, bne_iff_ne, beq_eq_false_iff_ne, bne_eq_false_iff_eq, Int.ofNat_lt, Int.ofNat_le] at hb
    have e0 : n = 0 := by omega
    subst e0
    rw [digW, if_neg (by omega)] at i2
    try simp (disch := omega) only [go_sem, hE, hH, ↓reduceIte, Nat.reduceEqDiff, Nat.reduceAdd, Nat.reduceSub, Nat.reduceMul, Nat.reduceLT, Nat.reduceLeDiff, Int.reduceToNat, reduceCtorEq, wrap_id, getD_map, getD_ms, getD_cs, cpy_len, hb2]
    rw [mkText, if_neg (by omega), ← i2]
    have e9 : (⟨⟨[109]⟩⟩ : ByteArray).size = 1 := rfl
    exact ⟨by rw [e9]; omega, rfl⟩
end Go.Proofs.Wb

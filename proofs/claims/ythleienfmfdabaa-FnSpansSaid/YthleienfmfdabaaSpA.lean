/- First contracts. -/
import Derived.Test.YthleienfmfdabaaSpCodes
import Derived.IntWalk
set_option linter.unusedSimpArgs false
set_option linter.unusedVariables false
set_option linter.unusedSectionVars false
namespace Go.Proofs.Sp
open Go Go.Am
abbrev i64 (n : Int) : T := .v (.int .i64 n)
abbrev u64 (n : Int) : T := .v (.int .u64 n)
abbrev bl (b : Bool) : T := .v (.bool b)
def inB (n lo hi : Int) : Bool := decide (lo ≤ n) && decide (n ≤ hi)
theorem within_ok (n lo hi : Int) : ACall Try.prog n_impl_within [i64 n, i64 lo, i64 hi] (fun r l => r = bl (inB n lo hi)) := by
  refine acall' h_impl_within r_impl_within rfl (by simp [entOk, unpOk, T.bare, T.okLeaf, objsNoM, St.unp, unpLeaf, St.new, St.set, noMLL, noML, T.noM]) (fun E hE => ?_)
  simp only [go_sem, Int.reduceLT, Int.reduceLE, Int.reduceAdd, Int.reduceSub, Int.reduceMul, Int.reduceNeg, Int.reduceToNat, Int.reduceGT, Int.reduceGE, Int.cast_ofNat_Int, decide_true, decide_false, Nat.reduceBNe, Nat.reduceBEq, ↓reduceIte, Nat.reduceEqDiff, Nat.reduceAdd, Nat.reduceSub, Nat.reduceMul, Nat.reduceLT, Nat.reduceLeDiff, Nat.zero_add, Nat.add_zero, reduceCtorEq, and_self, c_impl_within] at hE ⊢
  refine gd_t (fun h => ?_) (fun h => ?_)
  · try simp only [go_sem, Int.reduceLT, Int.reduceLE, Int.reduceAdd, Int.reduceSub, Int.reduceMul, Int.reduceNeg, Int.reduceToNat, Int.reduceGT, Int.reduceGE, Int.cast_ofNat_Int, decide_true, decide_false, Nat.reduceBNe, Nat.reduceBEq, ↓reduceIte, Nat.reduceEqDiff, Nat.reduceAdd, Nat.reduceSub, Nat.reduceMul, Nat.reduceLT, Nat.reduceLeDiff, Nat.zero_add, Nat.add_zero, reduceCtorEq, and_self, h, inB]
  · try simp only [go_sem, Int.reduceLT, Int.reduceLE, Int.reduceAdd, Int.reduceSub, Int.reduceMul, Int.reduceNeg, Int.reduceToNat, Int.reduceGT, Int.reduceGE, Int.cast_ofNat_Int, decide_true, decide_false, Nat.reduceBNe, Nat.reduceBEq, ↓reduceIte, Nat.reduceEqDiff, Nat.reduceAdd, Nat.reduceSub, Nat.reduceMul, Nat.reduceLT, Nat.reduceLeDiff, Nat.zero_add, Nat.add_zero, reduceCtorEq, and_self, h, inB]
theorem GoodClock_ok (o : Int) : ACall Try.prog n_impl_GoodClock [.agg [i64 o]] (fun r l => r = bl (inB o (-5) 5)) := by
  refine acall' h_impl_GoodClock r_impl_GoodClock rfl (by simp [entOk, unpOk, T.bare, T.okLeaf, objsNoM, St.unp, unpLeaf, St.new, St.set, noMLL, noML, T.noM]) (fun E hE => ?_)
  simp only [go_sem, Int.reduceLT, Int.reduceLE, Int.reduceAdd, Int.reduceSub, Int.reduceMul, Int.reduceNeg, Int.reduceToNat, Int.reduceGT, Int.reduceGE, Int.cast_ofNat_Int, decide_true, decide_false, Nat.reduceBNe, Nat.reduceBEq, ↓reduceIte, Nat.reduceEqDiff, Nat.reduceAdd, Nat.reduceSub, Nat.reduceMul, Nat.reduceLT, Nat.reduceLeDiff, Nat.zero_add, Nat.add_zero, reduceCtorEq, and_self, c_impl_GoodClock] at hE ⊢
  refine ok_box' (by rfl) (by rfl) (by rfl) (okd_of hE (by simp [noML, T.noM])) (by first | trivial | simp [objsNoM, noMLL, noML, T.noM]) (by first | trivial | simp [noML, T.noM, noMLL, objsNoM]) ?_
  try simp only [go_sem, Int.reduceLT, Int.reduceLE, Int.reduceAdd, Int.reduceSub, Int.reduceMul, Int.reduceNeg, Int.reduceToNat, Int.reduceGT, Int.reduceGE, Int.cast_ofNat_Int, decide_true, decide_false, Nat.reduceBNe, Nat.reduceBEq, ↓reduceIte, Nat.reduceEqDiff, Nat.reduceAdd, Nat.reduceSub, Nat.reduceMul, Nat.reduceLT, Nat.reduceLeDiff, Nat.zero_add, Nat.add_zero, reduceCtorEq, and_self]
  refine ok_callS (by rfl) (by rfl) (by first | trivial | simp [T.packed, packedL, packedLL, T.bare, T.ofV, T.ofV1, T.okLeaf]) (within_ok _ _ _) (okdO_of hE (by simp [noML, T.noM]) (by simp [noML, T.noM] <;> omega)) ?_
  try simp only [go_sem, Int.reduceLT, Int.reduceLE, Int.reduceAdd, Int.reduceSub, Int.reduceMul, Int.reduceNeg, Int.reduceToNat, Int.reduceGT, Int.reduceGE, Int.cast_ofNat_Int, decide_true, decide_false, Nat.reduceBNe, Nat.reduceBEq, ↓reduceIte, Nat.reduceEqDiff, Nat.reduceAdd, Nat.reduceSub, Nat.reduceMul, Nat.reduceLT, Nat.reduceLeDiff, Nat.zero_add, Nat.add_zero, reduceCtorEq, and_self]
/-- The cursor. -/
abbrev cur (code : List (List T)) (a s : Int) : T := .bx true [.sl false 1 code, i64 a, u64 s]
def bytes (code : List (List T)) : Prop := ∀ i, i < code.length → ∃ b : Int, 0 ≤ b ∧ b < 256 ∧ code[i]? = some [.v (.int .u8 b)]
theorem bytes.at {code : List (List T)} (hb : bytes code) {a : Int} (h0 : 0 ≤ a) (h : a < code.length) : ∃ b : Int, 0 ≤ b ∧ b < 256 ∧ code.getD a.toNat [] = [.v (.int .u8 b)] := by
  obtain ⟨b, b1, b2, b3⟩ := hb a.toNat (by omega)
  exact ⟨b, b1, b2, by simp [List.getD, b3]⟩
theorem low8 (x : Int) : ∃ b : Int, 0 ≤ b ∧ b < 256 ∧ IntKind.i64.wrap (IntKind.u64.wrap ((BitVec.ofInt IntKind.u64.bits x &&& BitVec.ofInt IntKind.u64.bits 255).toNat : Int)) = b := by
  have h : (BitVec.ofInt IntKind.u64.bits x &&& BitVec.ofInt IntKind.u64.bits 255).toNat < 256 := by
    rw [BitVec.toNat_and]
    refine Nat.lt_of_le_of_lt Nat.and_le_right ?_
    decide
  refine ⟨((BitVec.ofInt IntKind.u64.bits x &&& BitVec.ofInt IntKind.u64.bits 255).toNat : Nat), Int.natCast_nonneg _, by omega, ?_⟩
  rw [Go.IntWalk.u64_in _ (by omega), Go.IntWalk.i64_in _ (by omega)]
theorem low8' (x : Int) : 0 ≤ IntKind.i64.wrap (IntKind.u64.wrap ((BitVec.ofInt IntKind.u64.bits x &&& BitVec.ofInt IntKind.u64.bits 255).toNat : Int)) ∧ IntKind.i64.wrap (IntKind.u64.wrap ((BitVec.ofInt IntKind.u64.bits x &&& BitVec.ofInt IntKind.u64.bits 255).toNat : Int)) < 256 := by
  obtain ⟨c, c1, c2, c3⟩ := low8 x
  rw [c3]; exact ⟨c1, c2⟩
theorem next_ok {code : List (List T)} (hb : bytes code) (hl : code.length ≤ 2 ^ 40) (a s : Int) (h0 : 0 ≤ a) (h1 : a ≤ 2 ^ 61) : ACall Try.prog n_pspec_l1Cur_next [cur code a s]
    (fun r l => ∃ x s' : Int, r = i64 x ∧ 0 ≤ x ∧ x < 256 ∧ l = [cur code (a + 1) s']) := by
  refine acall' h_pspec_l1Cur_next r_pspec_l1Cur_next rfl (by simp [entOk, unpOk, T.bare, T.okLeaf, objsNoM, St.unp, unpLeaf, St.new, St.set, noMLL, noML, T.noM]) (fun E hE => ?_)
  simp only [go_sem, Int.reduceLT, Int.reduceLE, Int.reduceAdd, Int.reduceSub, Int.reduceMul, Int.reduceNeg, Int.reduceToNat, Int.reduceGT, Int.reduceGE, Int.cast_ofNat_Int, decide_true, decide_false, Nat.reduceBNe, Nat.reduceBEq, ↓reduceIte, Nat.reduceEqDiff, Nat.reduceAdd, Nat.reduceSub, Nat.reduceMul, Nat.reduceLT, Nat.reduceLeDiff, Nat.zero_add, Nat.add_zero, reduceCtorEq, and_self, c_pspec_l1Cur_next] at hE ⊢
  refine gd_t (fun h => ?_) (fun h => ?_)
  · obtain ⟨b, b1, b2, b3⟩ := hb.at h0 (of_decide_eq_true h)
    try simp only [go_sem, Int.reduceLT, Int.reduceLE, Int.reduceAdd, Int.reduceSub, Int.reduceMul, Int.reduceNeg, Int.reduceToNat, Int.reduceGT, Int.reduceGE, Int.cast_ofNat_Int, decide_true, decide_false, Nat.reduceBNe, Nat.reduceBEq, ↓reduceIte, Nat.reduceEqDiff, Nat.reduceAdd, Nat.reduceSub, Nat.reduceMul, Nat.reduceLT, Nat.reduceLeDiff, Nat.zero_add, Nat.add_zero, reduceCtorEq, and_self, b3]
    refine ⟨⟨h0, of_decide_eq_true h⟩, ?_⟩
    rw [Go.IntWalk.i64_in _ (by omega), Go.IntWalk.i64_in b (by omega)]
    refine ok_store' (by rfl) (by rfl) (by rfl) (by rfl) (by rfl) (by rfl) (by rfl) (by simp) (by simp) ?_
    try simp only [go_sem, Int.reduceLT, Int.reduceLE, Int.reduceAdd, Int.reduceSub, Int.reduceMul, Int.reduceNeg, Int.reduceToNat, Int.reduceGT, Int.reduceGE, Int.cast_ofNat_Int, decide_true, decide_false, Nat.reduceBNe, Nat.reduceBEq, ↓reduceIte, Nat.reduceEqDiff, Nat.reduceAdd, Nat.reduceSub, Nat.reduceMul, Nat.reduceLT, Nat.reduceLeDiff, Nat.zero_add, Nat.add_zero, reduceCtorEq, and_self]
    refine ok_store' (by rfl) (by rfl) (by rfl) (by rfl) (by rfl) (by rfl) (by rfl) (by simp) (by simp) ?_
    try simp only [go_sem, Int.reduceLT, Int.reduceLE, Int.reduceAdd, Int.reduceSub, Int.reduceMul, Int.reduceNeg, Int.reduceToNat, Int.reduceGT, Int.reduceGE, Int.cast_ofNat_Int, decide_true, decide_false, Nat.reduceBNe, Nat.reduceBEq, ↓reduceIte, Nat.reduceEqDiff, Nat.reduceAdd, Nat.reduceSub, Nat.reduceMul, Nat.reduceLT, Nat.reduceLeDiff, Nat.zero_add, Nat.add_zero, reduceCtorEq, and_self]
    refine gd_t (fun h => ?_) (fun h => ?_)
    · try simp only [go_sem, Int.reduceLT, Int.reduceLE, Int.reduceAdd, Int.reduceSub, Int.reduceMul, Int.reduceNeg, Int.reduceToNat, Int.reduceGT, Int.reduceGE, Int.cast_ofNat_Int, decide_true, decide_false, Nat.reduceBNe, Nat.reduceBEq, ↓reduceIte, Nat.reduceEqDiff, Nat.reduceAdd, Nat.reduceSub, Nat.reduceMul, Nat.reduceLT, Nat.reduceLeDiff, Nat.zero_add, Nat.add_zero, reduceCtorEq, and_self]
      exact ⟨b, _, rfl, b1, b2, rfl⟩
    · try simp only [go_sem, Int.reduceLT, Int.reduceLE, Int.reduceAdd, Int.reduceSub, Int.reduceMul, Int.reduceNeg, Int.reduceToNat, Int.reduceGT, Int.reduceGE, Int.cast_ofNat_Int, decide_true, decide_false, Nat.reduceBNe, Nat.reduceBEq, ↓reduceIte, Nat.reduceEqDiff, Nat.reduceAdd, Nat.reduceSub, Nat.reduceMul, Nat.reduceLT, Nat.reduceLeDiff, Nat.zero_add, Nat.add_zero, reduceCtorEq, and_self]
      exact ⟨_, _, rfl, (low8' _).1, (low8' _).2, rfl⟩
  · try simp only [go_sem, Int.reduceLT, Int.reduceLE, Int.reduceAdd, Int.reduceSub, Int.reduceMul, Int.reduceNeg, Int.reduceToNat, Int.reduceGT, Int.reduceGE, Int.cast_ofNat_Int, decide_true, decide_false, Nat.reduceBNe, Nat.reduceBEq, ↓reduceIte, Nat.reduceEqDiff, Nat.reduceAdd, Nat.reduceSub, Nat.reduceMul, Nat.reduceLT, Nat.reduceLeDiff, Nat.zero_add, Nat.add_zero, reduceCtorEq, and_self]
    rw [Go.IntWalk.i64_in _ (by omega)]
    refine ok_store' (by rfl) (by rfl) (by rfl) (by rfl) (by rfl) (by rfl) (by rfl) (by simp) (by simp) ?_
    try simp only [go_sem, Int.reduceLT, Int.reduceLE, Int.reduceAdd, Int.reduceSub, Int.reduceMul, Int.reduceNeg, Int.reduceToNat, Int.reduceGT, Int.reduceGE, Int.cast_ofNat_Int, decide_true, decide_false, Nat.reduceBNe, Nat.reduceBEq, ↓reduceIte, Nat.reduceEqDiff, Nat.reduceAdd, Nat.reduceSub, Nat.reduceMul, Nat.reduceLT, Nat.reduceLeDiff, Nat.zero_add, Nat.add_zero, reduceCtorEq, and_self]
    refine ok_store' (by rfl) (by rfl) (by rfl) (by rfl) (by rfl) (by rfl) (by rfl) (by simp) (by simp) ?_
    try simp only [go_sem, Int.reduceLT, Int.reduceLE, Int.reduceAdd, Int.reduceSub, Int.reduceMul, Int.reduceNeg, Int.reduceToNat, Int.reduceGT, Int.reduceGE, Int.cast_ofNat_Int, decide_true, decide_false, Nat.reduceBNe, Nat.reduceBEq, ↓reduceIte, Nat.reduceEqDiff, Nat.reduceAdd, Nat.reduceSub, Nat.reduceMul, Nat.reduceLT, Nat.reduceLeDiff, Nat.zero_add, Nat.add_zero, reduceCtorEq, and_self]
    refine gd_t (fun h => ?_) (fun h => ?_)
    · try simp only [go_sem, Int.reduceLT, Int.reduceLE, Int.reduceAdd, Int.reduceSub, Int.reduceMul, Int.reduceNeg, Int.reduceToNat, Int.reduceGT, Int.reduceGE, Int.cast_ofNat_Int, decide_true, decide_false, Nat.reduceBNe, Nat.reduceBEq, ↓reduceIte, Nat.reduceEqDiff, Nat.reduceAdd, Nat.reduceSub, Nat.reduceMul, Nat.reduceLT, Nat.reduceLeDiff, Nat.zero_add, Nat.add_zero, reduceCtorEq, and_self]
      exact ⟨0, _, rfl, by omega, by omega, rfl⟩
    · try simp only [go_sem, Int.reduceLT, Int.reduceLE, Int.reduceAdd, Int.reduceSub, Int.reduceMul, Int.reduceNeg, Int.reduceToNat, Int.reduceGT, Int.reduceGE, Int.cast_ofNat_Int, decide_true, decide_false, Nat.reduceBNe, Nat.reduceBEq, ↓reduceIte, Nat.reduceEqDiff, Nat.reduceAdd, Nat.reduceSub, Nat.reduceMul, Nat.reduceLT, Nat.reduceLeDiff, Nat.zero_add, Nat.add_zero, reduceCtorEq, and_self]
      exact ⟨_, _, rfl, (low8' _).1, (low8' _).2, rfl⟩
section
variable {code : List (List T)} (hb : bytes code) (hl : code.length ≤ 2 ^ 40)
include hb hl
theorem pick_ok (a s n : Int) (h0 : 0 ≤ a) (h1 : a ≤ 2 ^ 60) : ACall Try.prog n_pspec_l1Cur_pick [cur code a s, i64 n]
    (fun r l => ∃ x a' s' : Int, r = i64 x ∧ 0 ≤ x ∧ (x < n ∨ x = 0) ∧ a ≤ a' ∧ a' ≤ a + 2 ∧ l = [cur code a' s', i64 n]) := by
  refine acall' h_pspec_l1Cur_pick r_pspec_l1Cur_pick rfl (by simp [entOk, unpOk, T.bare, T.okLeaf, objsNoM, St.unp, unpLeaf, St.new, St.set, noMLL, noML, T.noM]) (fun E hE => ?_)
  simp only [go_sem, Int.reduceLT, Int.reduceLE, Int.reduceAdd, Int.reduceSub, Int.reduceMul, Int.reduceNeg, Int.reduceToNat, Int.reduceGT, Int.reduceGE, Int.cast_ofNat_Int, decide_true, decide_false, Nat.reduceBNe, Nat.reduceBEq, ↓reduceIte, Nat.reduceEqDiff, Nat.reduceAdd, Nat.reduceSub, Nat.reduceMul, Nat.reduceLT, Nat.reduceLeDiff, Nat.zero_add, Nat.add_zero, reduceCtorEq, and_self, c_pspec_l1Cur_pick] at hE ⊢
  refine gd_t (fun h => ?_) (fun h => ?_)
  · try simp only [go_sem, Int.reduceLT, Int.reduceLE, Int.reduceAdd, Int.reduceSub, Int.reduceMul, Int.reduceNeg, Int.reduceToNat, Int.reduceGT, Int.reduceGE, Int.cast_ofNat_Int, decide_true, decide_false, Nat.reduceBNe, Nat.reduceBEq, ↓reduceIte, Nat.reduceEqDiff, Nat.reduceAdd, Nat.reduceSub, Nat.reduceMul, Nat.reduceLT, Nat.reduceLeDiff, Nat.zero_add, Nat.add_zero, reduceCtorEq, and_self]
    exact ⟨0, a, s, rfl, by omega, .inr rfl, by omega, by omega, rfl⟩
  · have hn : 1 < n := by simpa using h
    try simp only [go_sem, Int.reduceLT, Int.reduceLE, Int.reduceAdd, Int.reduceSub, Int.reduceMul, Int.reduceNeg, Int.reduceToNat, Int.reduceGT, Int.reduceGE, Int.cast_ofNat_Int, decide_true, decide_false, Nat.reduceBNe, Nat.reduceBEq, ↓reduceIte, Nat.reduceEqDiff, Nat.reduceAdd, Nat.reduceSub, Nat.reduceMul, Nat.reduceLT, Nat.reduceLeDiff, Nat.zero_add, Nat.add_zero, reduceCtorEq, and_self]
    refine ok_callM [true] (by rfl) (by rfl) (by rfl) (by rfl) (by rfl) (by first | trivial | simp [T.packed, packedL, packedLL, T.bare, T.ofV, T.ofV1, T.okLeaf]) (okdO_of hE (by simp [noML, T.noM]) (by simp [noML, T.noM] <;> omega)) (next_ok hb hl a s h0 (by omega)) ?_
    rintro r l ⟨x, s', rfl, x0, x1, rfl⟩
    try simp only [go_sem, Int.reduceLT, Int.reduceLE, Int.reduceAdd, Int.reduceSub, Int.reduceMul, Int.reduceNeg, Int.reduceToNat, Int.reduceGT, Int.reduceGE, Int.cast_ofNat_Int, decide_true, decide_false, Nat.reduceBNe, Nat.reduceBEq, ↓reduceIte, Nat.reduceEqDiff, Nat.reduceAdd, Nat.reduceSub, Nat.reduceMul, Nat.reduceLT, Nat.reduceLeDiff, Nat.zero_add, Nat.add_zero, reduceCtorEq, and_self]
    refine gd_t (fun h => ?_) (fun h => ?_)
    · try simp only [go_sem, Int.reduceLT, Int.reduceLE, Int.reduceAdd, Int.reduceSub, Int.reduceMul, Int.reduceNeg, Int.reduceToNat, Int.reduceGT, Int.reduceGE, Int.cast_ofNat_Int, decide_true, decide_false, Nat.reduceBNe, Nat.reduceBEq, ↓reduceIte, Nat.reduceEqDiff, Nat.reduceAdd, Nat.reduceSub, Nat.reduceMul, Nat.reduceLT, Nat.reduceLeDiff, Nat.zero_add, Nat.add_zero, reduceCtorEq, and_self]
      refine ok_callM [true] (by rfl) (by rfl) (by rfl) (by rfl) (by rfl) (by first | trivial | simp [T.packed, packedL, packedLL, T.bare, T.ofV, T.ofV1, T.okLeaf]) (okdO_of hE (by simp [noML, T.noM]) (by simp [noML, T.noM] <;> omega)) (next_ok hb hl _ s' (by omega) (by omega)) ?_
      rintro r l ⟨y, s2, rfl, y0, y1, rfl⟩
      try simp only [go_sem, Int.reduceLT, Int.reduceLE, Int.reduceAdd, Int.reduceSub, Int.reduceMul, Int.reduceNeg, Int.reduceToNat, Int.reduceGT, Int.reduceGE, Int.cast_ofNat_Int, decide_true, decide_false, Nat.reduceBNe, Nat.reduceBEq, ↓reduceIte, Nat.reduceEqDiff, Nat.reduceAdd, Nat.reduceSub, Nat.reduceMul, Nat.reduceLT, Nat.reduceLeDiff, Nat.zero_add, Nat.add_zero, reduceCtorEq, and_self]
      rw [Go.IntWalk.i64_in (x * 256) (by omega), Go.IntWalk.i64_in _ (by omega)]
      refine ⟨by omega, _, _, _, rfl, Int.tmod_nonneg _ (by omega), .inl (Int.tmod_lt_of_pos _ (by omega)), ?_, ?_, rfl⟩ <;> omega
    · try simp only [go_sem, Int.reduceLT, Int.reduceLE, Int.reduceAdd, Int.reduceSub, Int.reduceMul, Int.reduceNeg, Int.reduceToNat, Int.reduceGT, Int.reduceGE, Int.cast_ofNat_Int, decide_true, decide_false, Nat.reduceBNe, Nat.reduceBEq, ↓reduceIte, Nat.reduceEqDiff, Nat.reduceAdd, Nat.reduceSub, Nat.reduceMul, Nat.reduceLT, Nat.reduceLeDiff, Nat.zero_add, Nat.add_zero, reduceCtorEq, and_self]
      refine ⟨by omega, _, _, _, rfl, Int.tmod_nonneg _ (by omega), .inl (Int.tmod_lt_of_pos _ (by omega)), ?_, ?_, rfl⟩ <;> omega
theorem one_ok (a s n : Int) (h0 : 0 ≤ a) (h1 : a ≤ 2 ^ 60) : ACall Try.prog n_pspec_l1Cur_one [cur code a s, i64 n]
    (fun r l => ∃ (x : Bool) (a' s' : Int), r = bl x ∧ a ≤ a' ∧ a' ≤ a + 2 ∧ l = [cur code a' s', i64 n]) := by
  refine acall' h_pspec_l1Cur_one r_pspec_l1Cur_one rfl (by simp [entOk, unpOk, T.bare, T.okLeaf, objsNoM, St.unp, unpLeaf, St.new, St.set, noMLL, noML, T.noM]) (fun E hE => ?_)
  simp only [go_sem, Int.reduceLT, Int.reduceLE, Int.reduceAdd, Int.reduceSub, Int.reduceMul, Int.reduceNeg, Int.reduceToNat, Int.reduceGT, Int.reduceGE, Int.cast_ofNat_Int, decide_true, decide_false, Nat.reduceBNe, Nat.reduceBEq, ↓reduceIte, Nat.reduceEqDiff, Nat.reduceAdd, Nat.reduceSub, Nat.reduceMul, Nat.reduceLT, Nat.reduceLeDiff, Nat.zero_add, Nat.add_zero, reduceCtorEq, and_self, c_pspec_l1Cur_one] at hE ⊢
  refine ok_callM [true, false] (by rfl) (by rfl) (by rfl) (by rfl) (by rfl) (by first | trivial | simp [T.packed, packedL, packedLL, T.bare, T.ofV, T.ofV1, T.okLeaf]) (okdO_of hE (by simp [noML, T.noM]) (by simp [noML, T.noM] <;> omega)) (pick_ok hb hl a s n h0 (by omega)) ?_
  rintro r l ⟨x, a', s', rfl, x0, x1, h2, h3, rfl⟩
  try simp only [go_sem, Int.reduceLT, Int.reduceLE, Int.reduceAdd, Int.reduceSub, Int.reduceMul, Int.reduceNeg, Int.reduceToNat, Int.reduceGT, Int.reduceGE, Int.cast_ofNat_Int, decide_true, decide_false, Nat.reduceBNe, Nat.reduceBEq, ↓reduceIte, Nat.reduceEqDiff, Nat.reduceAdd, Nat.reduceSub, Nat.reduceMul, Nat.reduceLT, Nat.reduceLeDiff, Nat.zero_add, Nat.add_zero, reduceCtorEq, and_self]
  exact ⟨_, _, _, rfl, h2, h3, rfl⟩
def ints (l : List (List T)) (p : Int → Prop) : Prop := ∀ i, i < l.length → ∃ x : Int, p x ∧ l[i]? = some [i64 x]
omit hb hl in
theorem ints_of (l : List (List T)) (p : Int → Prop) (h : ∀ r, r ∈ l → ∃ x, p x ∧ r = [i64 x]) : ints l p := by
  intro i hi
  obtain ⟨x, x1, x2⟩ := h _ (List.getElem_mem hi)
  exact ⟨x, x1, by rw [List.getElem?_eq_getElem hi, x2]⟩
omit hb hl in
theorem ints_packed {l : List (List T)} {p : Int → Prop} (h : ints l p) : packedLL l := by
  intro r hr
  obtain ⟨i, hi, rfl⟩ := List.getElem_of_mem hr
  obtain ⟨x, _, h2⟩ := h i hi
  rw [List.getElem?_eq_getElem hi] at h2
  rw [Option.some.inj h2]
  simp [packedL, T.packed]
theorem among_ok (a s : Int) (l : List (List T)) (p : Int → Prop) (h0 : 0 ≤ a) (h1 : a ≤ 2 ^ 60) (hp : ints l p) (hn : 0 < l.length) (hn2 : l.length ≤ 1000) : ACall Try.prog n_pspec_l1Cur_among [cur code a s, .sl true 1 l]
    (fun r l' => ∃ (x a' s' : Int), r = i64 x ∧ p x ∧ a ≤ a' ∧ a' ≤ a + 2 ∧ l' = [cur code a' s', .sl true 1 l]) := by
  refine acall' h_pspec_l1Cur_among r_pspec_l1Cur_among rfl (by simp [entOk, unpOk, T.bare, T.okLeaf, objsNoM, St.unp, unpLeaf, St.new, St.set, noMLL, noML, T.noM]) (fun E hE => ?_)
  simp only [go_sem, Int.reduceLT, Int.reduceLE, Int.reduceAdd, Int.reduceSub, Int.reduceMul, Int.reduceNeg, Int.reduceToNat, Int.reduceGT, Int.reduceGE, Int.cast_ofNat_Int, decide_true, decide_false, Nat.reduceBNe, Nat.reduceBEq, ↓reduceIte, Nat.reduceEqDiff, Nat.reduceAdd, Nat.reduceSub, Nat.reduceMul, Nat.reduceLT, Nat.reduceLeDiff, Nat.zero_add, Nat.add_zero, reduceCtorEq, and_self, c_pspec_l1Cur_among] at hE ⊢
  refine ok_callM [true, false] (by rfl) (by rfl) (by rfl) (by rfl) (by rfl) (by first | trivial | simp [T.packed, packedL, packedLL, T.bare, T.ofV, T.ofV1, T.okLeaf]) (okdO_of hE (by simp [noML, T.noM]) (by simp [noML, T.noM] <;> omega)) (pick_ok hb hl a s l.length h0 (by omega)) ?_
  rintro r l' ⟨x, a', s', rfl, x0, x1, h2, h3, rfl⟩
  have hx : x < l.length := by omega
  obtain ⟨y, y1, y2⟩ := hp x.toNat (by omega)
  have y3 : l.getD x.toNat [] = [i64 y] := by simp [List.getD, y2]
  try simp only [go_sem, Int.reduceLT, Int.reduceLE, Int.reduceAdd, Int.reduceSub, Int.reduceMul, Int.reduceNeg, Int.reduceToNat, Int.reduceGT, Int.reduceGE, Int.cast_ofNat_Int, decide_true, decide_false, Nat.reduceBNe, Nat.reduceBEq, ↓reduceIte, Nat.reduceEqDiff, Nat.reduceAdd, Nat.reduceSub, Nat.reduceMul, Nat.reduceLT, Nat.reduceLeDiff, Nat.zero_add, Nat.add_zero, reduceCtorEq, and_self, y3]
  refine ⟨⟨x0, hx⟩, by omega, ints_packed hp, _, _, _, rfl, y1, h2, h3, rfl⟩
theorem clock_ok (a s : Int) (h0 : 0 ≤ a) (h1 : a ≤ 2 ^ 59) : ACall Try.prog n_pspec_l1Cur_clock [cur code a s]
    (fun r l => ∃ (x a' s' : Int), r = .agg [i64 x] ∧ a ≤ a' ∧ a' ≤ a + 6 ∧ l = [cur code a' s']) := by
  refine acall' h_pspec_l1Cur_clock r_pspec_l1Cur_clock rfl (by simp [entOk, unpOk, T.bare, T.okLeaf, objsNoM, St.unp, unpLeaf, St.new, St.set, noMLL, noML, T.noM]) (fun E hE => ?_)
  simp only [go_sem, Int.reduceLT, Int.reduceLE, Int.reduceAdd, Int.reduceSub, Int.reduceMul, Int.reduceNeg, Int.reduceToNat, Int.reduceGT, Int.reduceGE, Int.cast_ofNat_Int, decide_true, decide_false, Nat.reduceBNe, Nat.reduceBEq, ↓reduceIte, Nat.reduceEqDiff, Nat.reduceAdd, Nat.reduceSub, Nat.reduceMul, Nat.reduceLT, Nat.reduceLeDiff, Nat.zero_add, Nat.add_zero, reduceCtorEq, and_self, c_pspec_l1Cur_clock] at hE ⊢
  refine ok_alloc' (okd_of hE (by simp [noML, T.noM])) (by first | trivial | simp [objsNoM, noMLL, noML, T.noM]) ?_
  try simp only [go_sem, Int.reduceLT, Int.reduceLE, Int.reduceAdd, Int.reduceSub, Int.reduceMul, Int.reduceNeg, Int.reduceToNat, Int.reduceGT, Int.reduceGE, Int.cast_ofNat_Int, decide_true, decide_false, Nat.reduceBNe, Nat.reduceBEq, ↓reduceIte, Nat.reduceEqDiff, Nat.reduceAdd, Nat.reduceSub, Nat.reduceMul, Nat.reduceLT, Nat.reduceLeDiff, Nat.zero_add, Nat.add_zero, reduceCtorEq, and_self]
  refine ok_callM [true, false] (by rfl) (by rfl) (by rfl) (by rfl) (by rfl) (by first | trivial | simp [T.packed, packedL, packedLL, T.bare, T.ofV, T.ofV1, T.okLeaf]) (okdO_of hE (by simp [noML, T.noM]) (by simp [noML, T.noM] <;> omega)) (pick_ok hb hl a s 11 h0 (by omega)) ?_
  rintro r l ⟨x, a', s', rfl, x0, x1, h2, h3, rfl⟩
  try simp only [go_sem, Int.reduceLT, Int.reduceLE, Int.reduceAdd, Int.reduceSub, Int.reduceMul, Int.reduceNeg, Int.reduceToNat, Int.reduceGT, Int.reduceGE, Int.cast_ofNat_Int, decide_true, decide_false, Nat.reduceBNe, Nat.reduceBEq, ↓reduceIte, Nat.reduceEqDiff, Nat.reduceAdd, Nat.reduceSub, Nat.reduceMul, Nat.reduceLT, Nat.reduceLeDiff, Nat.zero_add, Nat.add_zero, reduceCtorEq, and_self]
  refine ok_alloc' (okd_of hE (by simp [noML, T.noM])) (by first | trivial | simp [objsNoM, noMLL, noML, T.noM]) ?_
  try simp only [go_sem, Int.reduceLT, Int.reduceLE, Int.reduceAdd, Int.reduceSub, Int.reduceMul, Int.reduceNeg, Int.reduceToNat, Int.reduceGT, Int.reduceGE, Int.cast_ofNat_Int, decide_true, decide_false, Nat.reduceBNe, Nat.reduceBEq, ↓reduceIte, Nat.reduceEqDiff, Nat.reduceAdd, Nat.reduceSub, Nat.reduceMul, Nat.reduceLT, Nat.reduceLeDiff, Nat.zero_add, Nat.add_zero, reduceCtorEq, and_self]
  refine ok_store' (by rfl) (by rfl) (by rfl) (by rfl) (by rfl) (by rfl) (by rfl) (by simp) (by simp) ?_
  try simp only [go_sem, Int.reduceLT, Int.reduceLE, Int.reduceAdd, Int.reduceSub, Int.reduceMul, Int.reduceNeg, Int.reduceToNat, Int.reduceGT, Int.reduceGE, Int.cast_ofNat_Int, decide_true, decide_false, Nat.reduceBNe, Nat.reduceBEq, ↓reduceIte, Nat.reduceEqDiff, Nat.reduceAdd, Nat.reduceSub, Nat.reduceMul, Nat.reduceLT, Nat.reduceLeDiff, Nat.zero_add, Nat.add_zero, reduceCtorEq, and_self]
  refine ok_callM [true, false] (by rfl) (by rfl) (by rfl) (by rfl) (by rfl) (by first | trivial | simp [T.packed, packedL, packedLL, T.bare, T.ofV, T.ofV1, T.okLeaf]) (okdO_of hE (by simp [noML, T.noM]) (by simp [noML, T.noM] <;> omega)) (one_ok hb hl _ _ 30 (by omega) (by omega)) ?_
  rintro r l ⟨x, a2, s2, rfl, h4, h5, rfl⟩
  try simp only [go_sem, Int.reduceLT, Int.reduceLE, Int.reduceAdd, Int.reduceSub, Int.reduceMul, Int.reduceNeg, Int.reduceToNat, Int.reduceGT, Int.reduceGE, Int.cast_ofNat_Int, decide_true, decide_false, Nat.reduceBNe, Nat.reduceBEq, ↓reduceIte, Nat.reduceEqDiff, Nat.reduceAdd, Nat.reduceSub, Nat.reduceMul, Nat.reduceLT, Nat.reduceLeDiff, Nat.zero_add, Nat.add_zero, reduceCtorEq, and_self]
  refine gd_t (fun h => ?_) (fun h => ?_)
  · try simp only [go_sem, Int.reduceLT, Int.reduceLE, Int.reduceAdd, Int.reduceSub, Int.reduceMul, Int.reduceNeg, Int.reduceToNat, Int.reduceGT, Int.reduceGE, Int.cast_ofNat_Int, decide_true, decide_false, Nat.reduceBNe, Nat.reduceBEq, ↓reduceIte, Nat.reduceEqDiff, Nat.reduceAdd, Nat.reduceSub, Nat.reduceMul, Nat.reduceLT, Nat.reduceLeDiff, Nat.zero_add, Nat.add_zero, reduceCtorEq, and_self]
    refine ok_bsl' (by rfl) (by rfl) (by rfl) (by rfl) (okd_of hE (by simp [noML, T.noM])) (by first | trivial | simp [objsNoM, noMLL, noML, T.noM]) (by simp [noMLL, noML, T.noM, chunks, T.ofV, T.ofV1]) ?_
    try simp only [go_sem, Int.reduceLT, Int.reduceLE, Int.reduceAdd, Int.reduceSub, Int.reduceMul, Int.reduceNeg, Int.reduceToNat, Int.reduceGT, Int.reduceGE, Int.cast_ofNat_Int, decide_true, decide_false, Nat.reduceBNe, Nat.reduceBEq, ↓reduceIte, Nat.reduceEqDiff, Nat.reduceAdd, Nat.reduceSub, Nat.reduceMul, Nat.reduceLT, Nat.reduceLeDiff, Nat.zero_add, Nat.add_zero, reduceCtorEq, and_self]
    refine ok_callM [true, true] (by rfl) (by rfl) (by rfl) (by rfl) (by rfl) (by first | trivial | simp [T.packed, packedL, packedLL, T.bare, T.ofV, T.ofV1, T.okLeaf]) (okdO_of hE (by simp [noML, T.noM]) (by simp [noML, T.noM] <;> omega)) (among_ok hb hl _ _ _ (fun _ => True) (by omega) (by omega) (ints_of _ _ (by simp)) (by simp) (by simp)) ?_
    rintro r l ⟨x, a3, s3, rfl, -, h6, h7, rfl⟩
    try simp only [go_sem, Int.reduceLT, Int.reduceLE, Int.reduceAdd, Int.reduceSub, Int.reduceMul, Int.reduceNeg, Int.reduceToNat, Int.reduceGT, Int.reduceGE, Int.cast_ofNat_Int, decide_true, decide_false, Nat.reduceBNe, Nat.reduceBEq, ↓reduceIte, Nat.reduceEqDiff, Nat.reduceAdd, Nat.reduceSub, Nat.reduceMul, Nat.reduceLT, Nat.reduceLeDiff, Nat.zero_add, Nat.add_zero, reduceCtorEq, and_self]
    refine ok_store' (by rfl) (by rfl) (by rfl) (by rfl) (by rfl) (by rfl) (by rfl) (by simp) (by simp) ?_
    try simp only [go_sem, Int.reduceLT, Int.reduceLE, Int.reduceAdd, Int.reduceSub, Int.reduceMul, Int.reduceNeg, Int.reduceToNat, Int.reduceGT, Int.reduceGE, Int.cast_ofNat_Int, decide_true, decide_false, Nat.reduceBNe, Nat.reduceBEq, ↓reduceIte, Nat.reduceEqDiff, Nat.reduceAdd, Nat.reduceSub, Nat.reduceMul, Nat.reduceLT, Nat.reduceLeDiff, Nat.zero_add, Nat.add_zero, reduceCtorEq, and_self]
    refine ok_store' (by rfl) (by rfl) (by rfl) (by rfl) (by rfl) (by rfl) (by rfl) (by simp) (by simp) ?_
    try simp only [go_sem, Int.reduceLT, Int.reduceLE, Int.reduceAdd, Int.reduceSub, Int.reduceMul, Int.reduceNeg, Int.reduceToNat, Int.reduceGT, Int.reduceGE, Int.cast_ofNat_Int, decide_true, decide_false, Nat.reduceBNe, Nat.reduceBEq, ↓reduceIte, Nat.reduceEqDiff, Nat.reduceAdd, Nat.reduceSub, Nat.reduceMul, Nat.reduceLT, Nat.reduceLeDiff, Nat.zero_add, Nat.add_zero, reduceCtorEq, and_self]
    exact ⟨_, _, _, rfl, by omega, by omega, rfl⟩
  · try simp only [go_sem, Int.reduceLT, Int.reduceLE, Int.reduceAdd, Int.reduceSub, Int.reduceMul, Int.reduceNeg, Int.reduceToNat, Int.reduceGT, Int.reduceGE, Int.cast_ofNat_Int, decide_true, decide_false, Nat.reduceBNe, Nat.reduceBEq, ↓reduceIte, Nat.reduceEqDiff, Nat.reduceAdd, Nat.reduceSub, Nat.reduceMul, Nat.reduceLT, Nat.reduceLeDiff, Nat.zero_add, Nat.add_zero, reduceCtorEq, and_self]
    refine ok_store' (by rfl) (by rfl) (by rfl) (by rfl) (by rfl) (by rfl) (by rfl) (by simp) (by simp) ?_
    try simp only [go_sem, Int.reduceLT, Int.reduceLE, Int.reduceAdd, Int.reduceSub, Int.reduceMul, Int.reduceNeg, Int.reduceToNat, Int.reduceGT, Int.reduceGE, Int.cast_ofNat_Int, decide_true, decide_false, Nat.reduceBNe, Nat.reduceBEq, ↓reduceIte, Nat.reduceEqDiff, Nat.reduceAdd, Nat.reduceSub, Nat.reduceMul, Nat.reduceLT, Nat.reduceLeDiff, Nat.zero_add, Nat.add_zero, reduceCtorEq, and_self]
    exact ⟨_, _, _, rfl, by omega, by omega, rfl⟩
theorem time_ok (a s : Int) (h0 : 0 ≤ a) (h1 : a ≤ 2 ^ 59) : ACall Try.prog n_pspec_l1Cur_time [cur code a s]
    (fun r l => ∃ (x a' s' : Int), r = i64 x ∧ a ≤ a' ∧ a' ≤ a + 2 ∧ l = [cur code a' s']) := by
  refine acall' h_pspec_l1Cur_time r_pspec_l1Cur_time rfl (by simp [entOk, unpOk, T.bare, T.okLeaf, objsNoM, St.unp, unpLeaf, St.new, St.set, noMLL, noML, T.noM]) (fun E hE => ?_)
  simp only [go_sem, Int.reduceLT, Int.reduceLE, Int.reduceAdd, Int.reduceSub, Int.reduceMul, Int.reduceNeg, Int.reduceToNat, Int.reduceGT, Int.reduceGE, Int.cast_ofNat_Int, decide_true, decide_false, Nat.reduceBNe, Nat.reduceBEq, ↓reduceIte, Nat.reduceEqDiff, Nat.reduceAdd, Nat.reduceSub, Nat.reduceMul, Nat.reduceLT, Nat.reduceLeDiff, Nat.zero_add, Nat.add_zero, reduceCtorEq, and_self, c_pspec_l1Cur_time] at hE ⊢
  refine ok_bsl' (by rfl) (by rfl) (by rfl) (by rfl) (okd_of hE (by simp [noML, T.noM])) (by first | trivial | simp [objsNoM, noMLL, noML, T.noM]) (by simp [noMLL, noML, T.noM, chunks, T.ofV, T.ofV1]) ?_
  try simp only [go_sem, Int.reduceLT, Int.reduceLE, Int.reduceAdd, Int.reduceSub, Int.reduceMul, Int.reduceNeg, Int.reduceToNat, Int.reduceGT, Int.reduceGE, Int.cast_ofNat_Int, decide_true, decide_false, Nat.reduceBNe, Nat.reduceBEq, ↓reduceIte, Nat.reduceEqDiff, Nat.reduceAdd, Nat.reduceSub, Nat.reduceMul, Nat.reduceLT, Nat.reduceLeDiff, Nat.zero_add, Nat.add_zero, reduceCtorEq, and_self]
  refine ok_callM [true, true] (by rfl) (by rfl) (by rfl) (by rfl) (by rfl) (by first | trivial | simp [T.packed, packedL, packedLL, T.bare, T.ofV, T.ofV1, T.okLeaf]) (okdO_of hE (by simp [noML, T.noM]) (by simp [noML, T.noM] <;> omega)) (among_ok hb hl _ _ _ (fun _ => True) (by omega) (by omega) (ints_of _ _ (by simp)) (by simp) (by simp)) ?_
  rintro r l ⟨x, a3, s3, rfl, -, h6, h7, rfl⟩
  try simp only [go_sem, Int.reduceLT, Int.reduceLE, Int.reduceAdd, Int.reduceSub, Int.reduceMul, Int.reduceNeg, Int.reduceToNat, Int.reduceGT, Int.reduceGE, Int.cast_ofNat_Int, decide_true, decide_false, Nat.reduceBNe, Nat.reduceBEq, ↓reduceIte, Nat.reduceEqDiff, Nat.reduceAdd, Nat.reduceSub, Nat.reduceMul, Nat.reduceLT, Nat.reduceLeDiff, Nat.zero_add, Nat.add_zero, reduceCtorEq, and_self]
  exact ⟨_, _, _, rfl, by omega, by omega, rfl⟩
theorem DrawGoodClock_ok : ACall Try.prog n_spec_DrawGoodClock [.sl false 1 code] (fun r l => ∃ x, r = .agg [i64 x]) := by
  refine acall' h_spec_DrawGoodClock r_spec_DrawGoodClock rfl (by simp [entOk, unpOk, T.bare, T.okLeaf, objsNoM, St.unp, unpLeaf, St.new, St.set, noMLL, noML, T.noM]) (fun E hE => ?_)
  simp only [go_sem, Int.reduceLT, Int.reduceLE, Int.reduceAdd, Int.reduceSub, Int.reduceMul, Int.reduceNeg, Int.reduceToNat, Int.reduceGT, Int.reduceGE, Int.cast_ofNat_Int, decide_true, decide_false, Nat.reduceBNe, Nat.reduceBEq, ↓reduceIte, Nat.reduceEqDiff, Nat.reduceAdd, Nat.reduceSub, Nat.reduceMul, Nat.reduceLT, Nat.reduceLeDiff, Nat.zero_add, Nat.add_zero, reduceCtorEq, and_self, c_spec_DrawGoodClock] at hE ⊢
  refine ok_alloc' (okd_of hE (by simp [noML, T.noM])) (by first | trivial | simp [objsNoM, noMLL, noML, T.noM]) ?_
  try simp only [go_sem, Int.reduceLT, Int.reduceLE, Int.reduceAdd, Int.reduceSub, Int.reduceMul, Int.reduceNeg, Int.reduceToNat, Int.reduceGT, Int.reduceGE, Int.cast_ofNat_Int, decide_true, decide_false, Nat.reduceBNe, Nat.reduceBEq, ↓reduceIte, Nat.reduceEqDiff, Nat.reduceAdd, Nat.reduceSub, Nat.reduceMul, Nat.reduceLT, Nat.reduceLeDiff, Nat.zero_add, Nat.add_zero, reduceCtorEq, and_self]
  refine ok_box' (by rfl) (by rfl) (by rfl) (okd_of hE (by simp [noML, T.noM])) (by first | trivial | simp [objsNoM, noMLL, noML, T.noM]) (by first | trivial | simp [noML, T.noM, noMLL, objsNoM]) ?_
  try simp only [go_sem, Int.reduceLT, Int.reduceLE, Int.reduceAdd, Int.reduceSub, Int.reduceMul, Int.reduceNeg, Int.reduceToNat, Int.reduceGT, Int.reduceGE, Int.cast_ofNat_Int, decide_true, decide_false, Nat.reduceBNe, Nat.reduceBEq, ↓reduceIte, Nat.reduceEqDiff, Nat.reduceAdd, Nat.reduceSub, Nat.reduceMul, Nat.reduceLT, Nat.reduceLeDiff, Nat.zero_add, Nat.add_zero, reduceCtorEq, and_self]
  refine ok_callM [true] (by rfl) (by rfl) (by rfl) (by rfl) (by rfl) (by first | trivial | simp [T.packed, packedL, packedLL, T.bare, T.ofV, T.ofV1, T.okLeaf]) (okdO_of hE (by simp [noML, T.noM]) (by simp [noML, T.noM] <;> omega)) (clock_ok hb hl 0 0 (by omega) (by omega)) ?_
  rintro r l ⟨x, a3, s3, rfl, h6, h7, rfl⟩
  try simp only [go_sem, Int.reduceLT, Int.reduceLE, Int.reduceAdd, Int.reduceSub, Int.reduceMul, Int.reduceNeg, Int.reduceToNat, Int.reduceGT, Int.reduceGE, Int.cast_ofNat_Int, decide_true, decide_false, Nat.reduceBNe, Nat.reduceBEq, ↓reduceIte, Nat.reduceEqDiff, Nat.reduceAdd, Nat.reduceSub, Nat.reduceMul, Nat.reduceLT, Nat.reduceLeDiff, Nat.zero_add, Nat.add_zero, reduceCtorEq, and_self]
  first | (refine ⟨(by first | trivial | (refine ⟨by first | trivial | rfl, fun i hi => ?_⟩; simp [objsNoM, noMLL, noML, T.noM] <;> omega) | (intro i hi; simp [objsNoM, noMLL, noML, T.noM] <;> omega)), ?_⟩) | skip
  refine ok_store' (by rfl) (by rfl) (by rfl) (by rfl) (by rfl) (by rfl) (by rfl) (by simp) (by simp) ?_
  try simp only [go_sem, Int.reduceLT, Int.reduceLE, Int.reduceAdd, Int.reduceSub, Int.reduceMul, Int.reduceNeg, Int.reduceToNat, Int.reduceGT, Int.reduceGE, Int.cast_ofNat_Int, decide_true, decide_false, Nat.reduceBNe, Nat.reduceBEq, ↓reduceIte, Nat.reduceEqDiff, Nat.reduceAdd, Nat.reduceSub, Nat.reduceMul, Nat.reduceLT, Nat.reduceLeDiff, Nat.zero_add, Nat.add_zero, reduceCtorEq, and_self]
  exact ⟨_, rfl⟩
theorem DrawSpanAt_ok : ACall Try.prog n_spec_DrawSpanAt [.sl false 1 code] (fun r l => ∃ x y, r = .tup [.agg [i64 x], i64 y]) := by
  refine acall' h_spec_DrawSpanAt r_spec_DrawSpanAt rfl (by simp [entOk, unpOk, T.bare, T.okLeaf, objsNoM, St.unp, unpLeaf, St.new, St.set, noMLL, noML, T.noM]) (fun E hE => ?_)
  simp only [go_sem, Int.reduceLT, Int.reduceLE, Int.reduceAdd, Int.reduceSub, Int.reduceMul, Int.reduceNeg, Int.reduceToNat, Int.reduceGT, Int.reduceGE, Int.cast_ofNat_Int, decide_true, decide_false, Nat.reduceBNe, Nat.reduceBEq, ↓reduceIte, Nat.reduceEqDiff, Nat.reduceAdd, Nat.reduceSub, Nat.reduceMul, Nat.reduceLT, Nat.reduceLeDiff, Nat.zero_add, Nat.add_zero, reduceCtorEq, and_self, c_spec_DrawSpanAt] at hE ⊢
  refine ok_alloc' (okd_of hE (by simp [noML, T.noM])) (by first | trivial | simp [objsNoM, noMLL, noML, T.noM]) ?_
  try simp only [go_sem, Int.reduceLT, Int.reduceLE, Int.reduceAdd, Int.reduceSub, Int.reduceMul, Int.reduceNeg, Int.reduceToNat, Int.reduceGT, Int.reduceGE, Int.cast_ofNat_Int, decide_true, decide_false, Nat.reduceBNe, Nat.reduceBEq, ↓reduceIte, Nat.reduceEqDiff, Nat.reduceAdd, Nat.reduceSub, Nat.reduceMul, Nat.reduceLT, Nat.reduceLeDiff, Nat.zero_add, Nat.add_zero, reduceCtorEq, and_self]
  refine ok_box' (by rfl) (by rfl) (by rfl) (okd_of hE (by simp [noML, T.noM])) (by first | trivial | simp [objsNoM, noMLL, noML, T.noM]) (by first | trivial | simp [noML, T.noM, noMLL, objsNoM]) ?_
  try simp only [go_sem, Int.reduceLT, Int.reduceLE, Int.reduceAdd, Int.reduceSub, Int.reduceMul, Int.reduceNeg, Int.reduceToNat, Int.reduceGT, Int.reduceGE, Int.cast_ofNat_Int, decide_true, decide_false, Nat.reduceBNe, Nat.reduceBEq, ↓reduceIte, Nat.reduceEqDiff, Nat.reduceAdd, Nat.reduceSub, Nat.reduceMul, Nat.reduceLT, Nat.reduceLeDiff, Nat.zero_add, Nat.add_zero, reduceCtorEq, and_self]
  refine ok_callM [true] (by rfl) (by rfl) (by rfl) (by rfl) (by rfl) (by first | trivial | simp [T.packed, packedL, packedLL, T.bare, T.ofV, T.ofV1, T.okLeaf]) (okdO_of hE (by simp [noML, T.noM]) (by simp [noML, T.noM] <;> omega)) (clock_ok hb hl 0 0 (by omega) (by omega)) ?_
  rintro r l ⟨x, a3, s3, rfl, h6, h7, rfl⟩
  try simp only [go_sem, Int.reduceLT, Int.reduceLE, Int.reduceAdd, Int.reduceSub, Int.reduceMul, Int.reduceNeg, Int.reduceToNat, Int.reduceGT, Int.reduceGE, Int.cast_ofNat_Int, decide_true, decide_false, Nat.reduceBNe, Nat.reduceBEq, ↓reduceIte, Nat.reduceEqDiff, Nat.reduceAdd, Nat.reduceSub, Nat.reduceMul, Nat.reduceLT, Nat.reduceLeDiff, Nat.zero_add, Nat.add_zero, reduceCtorEq, and_self]
  first | (refine ⟨(by first | trivial | (refine ⟨by first | trivial | rfl, fun i hi => ?_⟩; simp [objsNoM, noMLL, noML, T.noM] <;> omega) | (intro i hi; simp [objsNoM, noMLL, noML, T.noM] <;> omega)), ?_⟩) | skip
  refine ok_callM [true] (by rfl) (by rfl) (by rfl) (by rfl) (by rfl) (by first | trivial | simp [T.packed, packedL, packedLL, T.bare, T.ofV, T.ofV1, T.okLeaf]) (okdO_of hE (by simp [noML, T.noM]) (by simp [noML, T.noM] <;> omega)) (time_ok hb hl _ _ (by omega) (by omega)) ?_
  rintro r l ⟨x, a4, s4, rfl, h8, h9, rfl⟩
  try simp only [go_sem, Int.reduceLT, Int.reduceLE, Int.reduceAdd, Int.reduceSub, Int.reduceMul, Int.reduceNeg, Int.reduceToNat, Int.reduceGT, Int.reduceGE, Int.cast_ofNat_Int, decide_true, decide_false, Nat.reduceBNe, Nat.reduceBEq, ↓reduceIte, Nat.reduceEqDiff, Nat.reduceAdd, Nat.reduceSub, Nat.reduceMul, Nat.reduceLT, Nat.reduceLeDiff, Nat.zero_add, Nat.add_zero, reduceCtorEq, and_self]
  refine ok_callM [true, false] (by rfl) (by rfl) (by rfl) (by rfl) (by rfl) (by first | trivial | simp [T.packed, packedL, packedLL, T.bare, T.ofV, T.ofV1, T.okLeaf]) (okdO_of hE (by simp [noML, T.noM]) (by simp [noML, T.noM] <;> omega)) (pick_ok hb hl _ _ 20 (by omega) (by omega)) ?_
  rintro r l ⟨x, a5, s5, rfl, x0, x1, h2, h3, rfl⟩
  try simp only [go_sem, Int.reduceLT, Int.reduceLE, Int.reduceAdd, Int.reduceSub, Int.reduceMul, Int.reduceNeg, Int.reduceToNat, Int.reduceGT, Int.reduceGE, Int.cast_ofNat_Int, decide_true, decide_false, Nat.reduceBNe, Nat.reduceBEq, ↓reduceIte, Nat.reduceEqDiff, Nat.reduceAdd, Nat.reduceSub, Nat.reduceMul, Nat.reduceLT, Nat.reduceLeDiff, Nat.zero_add, Nat.add_zero, reduceCtorEq, and_self]
  refine ⟨by omega, ?_⟩
  refine ok_callM [true, false] (by rfl) (by rfl) (by rfl) (by rfl) (by rfl) (by first | trivial | simp [T.packed, packedL, packedLL, T.bare, T.ofV, T.ofV1, T.okLeaf]) (okdO_of hE (by simp [noML, T.noM]) (by simp [noML, T.noM] <;> omega)) (pick_ok hb hl _ _ 20 (by omega) (by omega)) ?_
  rintro r l ⟨x, a6, s6, rfl, y0, y1, h4, h5, rfl⟩
  try simp only [go_sem, Int.reduceLT, Int.reduceLE, Int.reduceAdd, Int.reduceSub, Int.reduceMul, Int.reduceNeg, Int.reduceToNat, Int.reduceGT, Int.reduceGE, Int.cast_ofNat_Int, decide_true, decide_false, Nat.reduceBNe, Nat.reduceBEq, ↓reduceIte, Nat.reduceEqDiff, Nat.reduceAdd, Nat.reduceSub, Nat.reduceMul, Nat.reduceLT, Nat.reduceLeDiff, Nat.zero_add, Nat.add_zero, reduceCtorEq, and_self]
  refine ⟨by omega, ?_⟩
  refine ok_store' (by rfl) (by rfl) (by rfl) (by rfl) (by rfl) (by rfl) (by rfl) (by simp) (by simp) ?_
  try simp only [go_sem, Int.reduceLT, Int.reduceLE, Int.reduceAdd, Int.reduceSub, Int.reduceMul, Int.reduceNeg, Int.reduceToNat, Int.reduceGT, Int.reduceGE, Int.cast_ofNat_Int, decide_true, decide_false, Nat.reduceBNe, Nat.reduceBEq, ↓reduceIte, Nat.reduceEqDiff, Nat.reduceAdd, Nat.reduceSub, Nat.reduceMul, Nat.reduceLT, Nat.reduceLeDiff, Nat.zero_add, Nat.add_zero, reduceCtorEq, and_self]
  exact ⟨_, _, rfl⟩
theorem DrawWaitFor_ok : ACall Try.prog n_spec_DrawWaitFor [.sl false 1 code] (fun r l => ∃ x y z, r = .tup [.agg [i64 x], i64 y, i64 z]) := by
  refine acall' h_spec_DrawWaitFor r_spec_DrawWaitFor rfl (by simp [entOk, unpOk, T.bare, T.okLeaf, objsNoM, St.unp, unpLeaf, St.new, St.set, noMLL, noML, T.noM]) (fun E hE => ?_)
  simp only [go_sem, Int.reduceLT, Int.reduceLE, Int.reduceAdd, Int.reduceSub, Int.reduceMul, Int.reduceNeg, Int.reduceToNat, Int.reduceGT, Int.reduceGE, Int.cast_ofNat_Int, decide_true, decide_false, Nat.reduceBNe, Nat.reduceBEq, ↓reduceIte, Nat.reduceEqDiff, Nat.reduceAdd, Nat.reduceSub, Nat.reduceMul, Nat.reduceLT, Nat.reduceLeDiff, Nat.zero_add, Nat.add_zero, reduceCtorEq, and_self, c_spec_DrawWaitFor] at hE ⊢
  refine ok_alloc' (okd_of hE (by simp [noML, T.noM])) (by first | trivial | simp [objsNoM, noMLL, noML, T.noM]) ?_
  try simp only [go_sem, Int.reduceLT, Int.reduceLE, Int.reduceAdd, Int.reduceSub, Int.reduceMul, Int.reduceNeg, Int.reduceToNat, Int.reduceGT, Int.reduceGE, Int.cast_ofNat_Int, decide_true, decide_false, Nat.reduceBNe, Nat.reduceBEq, ↓reduceIte, Nat.reduceEqDiff, Nat.reduceAdd, Nat.reduceSub, Nat.reduceMul, Nat.reduceLT, Nat.reduceLeDiff, Nat.zero_add, Nat.add_zero, reduceCtorEq, and_self]
  refine ok_box' (by rfl) (by rfl) (by rfl) (okd_of hE (by simp [noML, T.noM])) (by first | trivial | simp [objsNoM, noMLL, noML, T.noM]) (by first | trivial | simp [noML, T.noM, noMLL, objsNoM]) ?_
  try simp only [go_sem, Int.reduceLT, Int.reduceLE, Int.reduceAdd, Int.reduceSub, Int.reduceMul, Int.reduceNeg, Int.reduceToNat, Int.reduceGT, Int.reduceGE, Int.cast_ofNat_Int, decide_true, decide_false, Nat.reduceBNe, Nat.reduceBEq, ↓reduceIte, Nat.reduceEqDiff, Nat.reduceAdd, Nat.reduceSub, Nat.reduceMul, Nat.reduceLT, Nat.reduceLeDiff, Nat.zero_add, Nat.add_zero, reduceCtorEq, and_self]
  refine ok_callM [true] (by rfl) (by rfl) (by rfl) (by rfl) (by rfl) (by first | trivial | simp [T.packed, packedL, packedLL, T.bare, T.ofV, T.ofV1, T.okLeaf]) (okdO_of hE (by simp [noML, T.noM]) (by simp [noML, T.noM] <;> omega)) (clock_ok hb hl 0 0 (by omega) (by omega)) ?_
  rintro r l ⟨x, a3, s3, rfl, h6, h7, rfl⟩
  try simp only [go_sem, Int.reduceLT, Int.reduceLE, Int.reduceAdd, Int.reduceSub, Int.reduceMul, Int.reduceNeg, Int.reduceToNat, Int.reduceGT, Int.reduceGE, Int.cast_ofNat_Int, decide_true, decide_false, Nat.reduceBNe, Nat.reduceBEq, ↓reduceIte, Nat.reduceEqDiff, Nat.reduceAdd, Nat.reduceSub, Nat.reduceMul, Nat.reduceLT, Nat.reduceLeDiff, Nat.zero_add, Nat.add_zero, reduceCtorEq, and_self]
  first | (refine ⟨(by first | trivial | (refine ⟨by first | trivial | rfl, fun i hi => ?_⟩; simp [objsNoM, noMLL, noML, T.noM] <;> omega) | (intro i hi; simp [objsNoM, noMLL, noML, T.noM] <;> omega)), ?_⟩) | skip
  refine ok_callM [true] (by rfl) (by rfl) (by rfl) (by rfl) (by rfl) (by first | trivial | simp [T.packed, packedL, packedLL, T.bare, T.ofV, T.ofV1, T.okLeaf]) (okdO_of hE (by simp [noML, T.noM]) (by simp [noML, T.noM] <;> omega)) (time_ok hb hl _ _ (by omega) (by omega)) ?_
  rintro r l ⟨x, a4, s4, rfl, h8, h9, rfl⟩
  try simp only [go_sem, Int.reduceLT, Int.reduceLE, Int.reduceAdd, Int.reduceSub, Int.reduceMul, Int.reduceNeg, Int.reduceToNat, Int.reduceGT, Int.reduceGE, Int.cast_ofNat_Int, decide_true, decide_false, Nat.reduceBNe, Nat.reduceBEq, ↓reduceIte, Nat.reduceEqDiff, Nat.reduceAdd, Nat.reduceSub, Nat.reduceMul, Nat.reduceLT, Nat.reduceLeDiff, Nat.zero_add, Nat.add_zero, reduceCtorEq, and_self]
  refine ok_callM [true] (by rfl) (by rfl) (by rfl) (by rfl) (by rfl) (by first | trivial | simp [T.packed, packedL, packedLL, T.bare, T.ofV, T.ofV1, T.okLeaf]) (okdO_of hE (by simp [noML, T.noM]) (by simp [noML, T.noM] <;> omega)) (time_ok hb hl _ _ (by omega) (by omega)) ?_
  rintro r l ⟨x, a5, s5, rfl, h8, h9, rfl⟩
  try simp only [go_sem, Int.reduceLT, Int.reduceLE, Int.reduceAdd, Int.reduceSub, Int.reduceMul, Int.reduceNeg, Int.reduceToNat, Int.reduceGT, Int.reduceGE, Int.cast_ofNat_Int, decide_true, decide_false, Nat.reduceBNe, Nat.reduceBEq, ↓reduceIte, Nat.reduceEqDiff, Nat.reduceAdd, Nat.reduceSub, Nat.reduceMul, Nat.reduceLT, Nat.reduceLeDiff, Nat.zero_add, Nat.add_zero, reduceCtorEq, and_self]
  refine ok_store' (by rfl) (by rfl) (by rfl) (by rfl) (by rfl) (by rfl) (by rfl) (by simp) (by simp) ?_
  try simp only [go_sem, Int.reduceLT, Int.reduceLE, Int.reduceAdd, Int.reduceSub, Int.reduceMul, Int.reduceNeg, Int.reduceToNat, Int.reduceGT, Int.reduceGE, Int.cast_ofNat_Int, decide_true, decide_false, Nat.reduceBNe, Nat.reduceBEq, ↓reduceIte, Nat.reduceEqDiff, Nat.reduceAdd, Nat.reduceSub, Nat.reduceMul, Nat.reduceLT, Nat.reduceLeDiff, Nat.zero_add, Nat.add_zero, reduceCtorEq, and_self]
  exact ⟨_, _, _, rfl⟩
end
end Go.Proofs.Sp

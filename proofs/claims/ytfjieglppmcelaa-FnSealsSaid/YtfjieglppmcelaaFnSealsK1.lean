/- Contracts of functions. -/
import Derived.Test.YtfjieglppmcelaaFnSealsA1
import Derived.Laws.Externs
set_option linter.unusedSimpArgs false
set_option linter.unusedVariables false
set_option linter.unusedSectionVars false
namespace Go.Proofs.Wb
open Go Go.Am
/-! the cursor that reads choices -/
abbrev u64 (n : Int) : T := .v (.int .u64 n)
abbrev cur (code : List Int) (a : Nat) (s : Int) : T := .bx true [.sl false 1 (bys code), i64 a, u64 s]
theorem low8 (x : Int) : 0 ≤ IntKind.i64.wrap (IntKind.u64.wrap ((BitVec.ofInt 64 x &&& BitVec.ofInt 64 255).toNat : Int)) ∧ IntKind.i64.wrap (IntKind.u64.wrap ((BitVec.ofInt 64 x &&& BitVec.ofInt 64 255).toNat : Int)) < 256 := by
  have h : (BitVec.ofInt 64 x &&& BitVec.ofInt 64 255).toNat < 256 := by
    rw [BitVec.toNat_and]
    refine Nat.lt_of_le_of_lt Nat.and_le_right ?_
    decide
  rw [Go.IntWalk.u64_in _ (by omega), Go.IntWalk.i64_in _ (by omega)]
  omega
theorem next_ok (code : List Int) (hb : isB code) (a : Nat) (s : Int) (ha : a ≤ 2 ^ 60) : ACall Try.prog n_pspec_l1Cur_next [cur code a s] (fun r l => ∃ (x s' : Int), r = i64 x ∧ l = [cur code (a + 1) s'] ∧ 0 ≤ x ∧ x < 256) := by
  have hmx := mx_eq
  obtain ⟨hl, hB⟩ := hb
  by_cases h : a < code.length
  · have hn := hB _ (nth_mem h)
    refine fn_in h_pspec_l1Cur_next r_pspec_l1Cur_next ⟨by simp only [go_sem], fun E hE hH => ?_⟩; simp only [go_sem] at hE hH; simp only [go_sem, hE, hH, c_pspec_l1Cur_next]
    repeat' (first | ((with_reducible first | refine gd_t ?_ ?_ | refine gd_f ?_ ?_) <;> (intro h; have hb := h; (try simp only [nf, beq_iff_eq, bne_iff_ne, beq_eq_false_iff_ne, bne_eq_false_iff_eq] at h); simp (disch := omega) only [go_sem, hE, hH, hb]; (try clear hb))) | ((with_reducible refine And.intro ?_ ?_); · omega) | (refine jn _ ?_ ?_) | (with_reducible refine both ?_ ?_) | (with_reducible refine And.intro ?_ ?_) | (refine fin_eq ?_; (try (simp (disch := omega) only [go_sem, hE, hH])); first | done | rfl) | (simp (disch := omega) only [go_sem, hE, hH]) | ((first | apply noMLL_sE | apply pk_sE) <;> (simp only [go_sem, hE, hH]; done)) | (simp only [go_sem, hE, hH]) | fail)
    all_goals (first | omega | exact nilR_of ⟨_, _, rfl, rfl, by omega, by omega⟩ | exact nilR_of ⟨_, _, rfl, rfl, low8 _⟩)
  · refine fn_in h_pspec_l1Cur_next r_pspec_l1Cur_next ⟨by simp only [go_sem], fun E hE hH => ?_⟩; simp only [go_sem] at hE hH; simp only [go_sem, hE, hH, c_pspec_l1Cur_next]
    repeat' (first | ((with_reducible first | refine gd_t ?_ ?_ | refine gd_f ?_ ?_) <;> (intro h; have hb := h; (try simp only [nf, beq_iff_eq, bne_iff_ne, beq_eq_false_iff_ne, bne_eq_false_iff_eq] at h); simp (disch := omega) only [go_sem, hE, hH, hb]; (try clear hb))) | ((with_reducible refine And.intro ?_ ?_); · omega) | (refine jn _ ?_ ?_) | (with_reducible refine both ?_ ?_) | (with_reducible refine And.intro ?_ ?_) | (refine fin_eq ?_; (try (simp (disch := omega) only [go_sem, hE, hH])); first | done | rfl) | (simp (disch := omega) only [go_sem, hE, hH]) | ((first | apply noMLL_sE | apply pk_sE) <;> (simp only [go_sem, hE, hH]; done)) | (simp only [go_sem, hE, hH]) | fail)
    all_goals (first | omega | exact nilR_of ⟨_, _, rfl, rfl, by omega, by omega⟩ | exact nilR_of ⟨_, _, rfl, rfl, low8 _⟩)
theorem tmod_bd {x n : Int} (h : 0 ≤ x) (hn : 1 < n) : 0 ≤ x.tmod n ∧ x.tmod n < (if n > 1 then n else 1) := by
  rw [if_pos hn]; exact ⟨Int.tmod_nonneg _ h, Int.tmod_lt_of_pos _ (by omega)⟩
theorem pick_ok (n : Int) (code : List Int) (hb : isB code) (a : Nat) (s : Int) (ha : a ≤ 2 ^ 59) (hn : n ≤ 60000) : ACall Try.prog n_pspec_l1Cur_pick [cur code a s, i64 n] (fun r l => ∃ (x : Int) (a' : Nat) (s' : Int), r = i64 x ∧ l = [cur code a' s', i64 n] ∧ a' ≤ a + 2 ∧ 0 ≤ x ∧ x < (if n > 1 then n else 1)) := by
  have hmx := mx_eq
  refine fn_in h_pspec_l1Cur_pick r_pspec_l1Cur_pick ⟨by simp only [go_sem], fun E hE hH => ?_⟩; simp only [go_sem] at hE hH; simp only [go_sem, hE, hH, c_pspec_l1Cur_pick]
  repeat' (first | ((with_reducible first | refine gd_t ?_ ?_ | refine gd_f ?_ ?_) <;> (intro h; have hb := h; (try simp only [nf, beq_iff_eq, bne_iff_ne, beq_eq_false_iff_ne, bne_eq_false_iff_eq] at h); simp (disch := omega) only [go_sem, hE, hH, hb]; (try clear hb))) | ((with_reducible refine And.intro ?_ ?_); · omega) | (refine ok_lend [true] ?_; simp (disch := omega) only [go_sem, hE, hH]; refine cmA (next_ok code hb _ _ (by omega)) ?_; refine aftM_intro ?_; rintro _ _ ⟨x, s', rfl, rfl, h1, h2⟩; simp (disch := omega) only [go_sem, hE, hH]) | (refine jn _ ?_ ?_) | (with_reducible refine both ?_ ?_) | (with_reducible refine And.intro ?_ ?_) | (refine fin_eq ?_; (try (simp (disch := omega) only [go_sem, hE, hH])); first | done | rfl) | (simp (disch := omega) only [go_sem, hE, hH]) | ((first | apply noMLL_sE | apply pk_sE) <;> (simp only [go_sem, hE, hH]; done)) | (simp only [go_sem, hE, hH]) | fail)
  · exact nilR_of ⟨_, _, _, rfl, rfl, by omega, by omega, by split <;> omega⟩
  all_goals exact nilR_of ⟨_, _, _, rfl, rfl, by omega, tmod_bd (by omega) (by omega)⟩
theorem one_ok (n : Int) (code : List Int) (hb : isB code) (a : Nat) (s : Int) (ha : a ≤ 2 ^ 59) (hn : n ≤ 60000) : ACall Try.prog n_pspec_l1Cur_one [cur code a s, i64 n] (fun r l => ∃ (b : Bool) (a' : Nat) (s' : Int), r = bl b ∧ l = [cur code a' s', i64 n] ∧ a' ≤ a + 2) := by
  have hmx := mx_eq
  refine fn_in h_pspec_l1Cur_one r_pspec_l1Cur_one ⟨by simp only [go_sem], fun E hE hH => ?_⟩; simp only [go_sem] at hE hH; simp only [go_sem, hE, hH, c_pspec_l1Cur_one]
  repeat' (first | ((with_reducible first | refine gd_t ?_ ?_ | refine gd_f ?_ ?_) <;> (intro h; have hb := h; (try simp only [nf, beq_iff_eq, bne_iff_ne, beq_eq_false_iff_ne, bne_eq_false_iff_eq] at h); simp (disch := omega) only [go_sem, hE, hH, hb]; (try clear hb))) | ((with_reducible refine And.intro ?_ ?_); · omega) | (refine ok_lend [true, false] ?_; simp (disch := omega) only [go_sem, hE, hH]; refine cmA (pick_ok _ code hb _ _ (by omega) (by omega)) ?_; refine aftM_intro ?_; rintro _ _ ⟨x, a', s', rfl, rfl, h1, h2, h3⟩; simp (disch := omega) only [go_sem, hE, hH]) | (refine jn _ ?_ ?_) | (with_reducible refine both ?_ ?_) | (with_reducible refine And.intro ?_ ?_) | (refine fin_eq ?_; (try (simp (disch := omega) only [go_sem, hE, hH])); first | done | rfl) | (simp (disch := omega) only [go_sem, hE, hH]) | ((first | apply noMLL_sE | apply pk_sE) <;> (simp only [go_sem, hE, hH]; done)) | (simp only [go_sem, hE, hH]) | fail)
  exact nilR_of ⟨_, _, _, rfl, rfl, by omega⟩
end Go.Proofs.Wb

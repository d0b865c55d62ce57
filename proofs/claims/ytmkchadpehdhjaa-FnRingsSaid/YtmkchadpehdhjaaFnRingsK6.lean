/- Contracts of functions. -/
import Derived.Test.YtmkchadpehdhjaaFnRingsK5
import Derived.Laws.Externs
set_option linter.unusedSimpArgs false
set_option linter.unusedVariables false
set_option linter.unusedSectionVars false
namespace Go.Proofs.Wb
open Go Go.Am
abbrev grO (g : List (List Int)) : List (List T) := g.map fun y => [.sl true 1 (ints y)]
def drwG (y : List Int) : Prop := y.length ≤ 3 ∧ ∀ w, w ∈ y → 0 ≤ w ∧ w ≤ 6
theorem drwG_app {y : List Int} {w : Int} (h : drwG y) (hl : y.length ≤ 2) (hw : 0 ≤ w ∧ w ≤ 6) : drwG (y ++ [w]) := by
  refine ⟨by simp; omega, fun v hv => ?_⟩
  rcases List.mem_append.1 hv with h2 | h2
  · exact h.2 v h2
  · simp only [List.mem_singleton] at h2; subst h2; exact hw
theorem DrawFindRing_ok (code : List Int) (hb : isB code) : ACall Try.prog n_spec_DrawFindRing [.sl false 1 (bys code)] (fun r _ => ∃ (g : List (List Int)), r = .sl true 1 (grO g) ∧ g.length ≤ 6 ∧ ∀ y, y ∈ g → drwG y) := by
  have hmx := mx_eq
  refine fn_in h_spec_DrawFindRing r_spec_DrawFindRing ⟨by simp only [go_sem, ↓reduceIte], fun E hE hH => ?_⟩; simp only [go_sem, ↓reduceIte] at hE hH; simp only [go_sem, hE, hH, ↓reduceIte, c_spec_DrawFindRing]
  repeat' (first | ((with_reducible (first | refine gd_t (fun h => ?_) (fun h => ?_) | refine gd_f (fun h => ?_) (fun h => ?_))) <;> (have hb := h; (try simp only [decide_eq_true_eq, decide_eq_false_iff_not, Int.not_lt, Int.not_le, ge_iff_le, gt_iff_lt, Bool.not_eq_true', Bool.not_eq_false', beq_iff_eq, bne_iff_ne, beq_eq_false_iff_ne, bne_eq_false_iff_eq, Int.ofNat_lt, Int.ofNat_le] at h); simp (disch := omega) only [go_sem, hE, hH, ↓reduceIte, hb]; (try clear hb))) | ((with_reducible refine And.intro ?_ ?_); · omega) | (refine ok_lend [true, false] ?_; simp (disch := omega) only [go_sem, hE, hH, ↓reduceIte]; refine cmA (pick_ok _ code hb 0 0 (by omega) (by omega)) ?_; refine aftM_intro ?_; rintro _ _ ⟨n, a', s', rfl, rfl, h1, h2, h3⟩; simp (disch := omega) only [go_sem, hE, hH, ↓reduceIte]) | (refine jn _ ?_ ?_) | (with_reducible refine both ?_ ?_) | (with_reducible refine And.intro ?_ ?_) | (refine fin_eq ?_; (try (simp (disch := omega) only [go_sem, hE, hH, ↓reduceIte])); first | done | rfl) | (simp (disch := omega) only [go_sem, hE, hH, ↓reduceIte]) | (exact (noMLL_set (by simp only [go_sem, hE, hH, ↓reduceIte]) (by simp only [go_sem, hE, hH, ↓reduceIte])).2 trivial) | (exact (pk_set (by simp only [go_sem, hE, hH, ↓reduceIte]) (by simp only [go_sem, hE, hH, ↓reduceIte])).2 trivial) | (simp only [go_sem, hE, hH, ↓reduceIte]) | fail)
  have hn : n ≤ 6 := by split at h3 <;> omega
  refine loopNe n.toNat (fun k (x : List (List Int) × Nat × Int) => ⟨[(3, .ptr 4000000 0 0), (4, i64 n), (5, .ref 6000000 0 x.1.length), (6, i64 k)], [(4000000, ⟨3, [[.sl false 1 (bys code), i64 x.2.1, u64 x.2.2]]⟩), (6000000, ⟨1, grO x.1⟩)]⟩) (fun k x => x.1.length = k ∧ x.2.1 ≤ 2 + 8 * k ∧ ∀ y, y ∈ x.1 → drwG y) ([], a', s') (by simp [bys]) ⟨rfl, by simp only; omega, by simp⟩ ?_
  rintro k ⟨l, b, t⟩ hk ⟨hI1, hI2, hI3⟩
  simp only at hI1 hI2 hI3
  try simp only [go_sem, hE, hH, ↓reduceIte, c_spec_DrawFindRing_l2]
  first | refine gd_t (fun hq => ?_) (fun hq => ?_) | refine gd_f (fun hq => ?_) (fun hq => ?_)
  · have hb1 := hq
    simp only [decide_eq_true_eq, decide_eq_false_iff_not, Int.not_lt, Int.not_le, ge_iff_le, gt_iff_lt, Bool.not_eq_true', Bool.not_eq_false', beq_iff_eq, bne_iff_ne, beq_eq_false_iff_ne, bne_eq_false_iff_eq, Int.ofNat_lt, Int.ofNat_le] at hq
    try simp (disch := omega) only [go_sem, hE, hH, ↓reduceIte, hb1]
    repeat' (first | ((with_reducible (first | refine gd_t (fun h => ?_) (fun h => ?_) | refine gd_f (fun h => ?_) (fun h => ?_))) <;> (have hb := h; (try simp only [decide_eq_true_eq, decide_eq_false_iff_not, Int.not_lt, Int.not_le, ge_iff_le, gt_iff_lt, Bool.not_eq_true', Bool.not_eq_false', beq_iff_eq, bne_iff_ne, beq_eq_false_iff_ne, bne_eq_false_iff_eq, Int.ofNat_lt, Int.ofNat_le] at h); simp (disch := omega) only [go_sem, hE, hH, ↓reduceIte, hb]; (try clear hb))) | ((with_reducible refine And.intro ?_ ?_); · omega) | (refine ok_lend [true, false] ?_; simp (disch := omega) only [go_sem, hE, hH, ↓reduceIte]; refine cmA (pick_ok 3 code hb _ _ (by omega) (by omega)) ?_; refine aftM_intro ?_; rintro _ _ ⟨m, a', s', rfl, rfl, h1, h2, h3⟩; simp (disch := omega) only [go_sem, hE, hH, ↓reduceIte]) | (refine jn _ ?_ ?_) | (with_reducible refine both ?_ ?_) | (with_reducible refine And.intro ?_ ?_) | (refine fin_eq ?_; (try (simp (disch := omega) only [go_sem, hE, hH, ↓reduceIte])); first | done | rfl) | (simp (disch := omega) only [go_sem, hE, hH, ↓reduceIte]) | (exact (noMLL_set (by simp only [go_sem, hE, hH, ↓reduceIte]) (by simp only [go_sem, hE, hH, ↓reduceIte])).2 trivial) | (exact (pk_set (by simp only [go_sem, hE, hH, ↓reduceIte]) (by simp only [go_sem, hE, hH, ↓reduceIte])).2 trivial) | (simp only [go_sem, hE, hH, ↓reduceIte]) | fail)
    refine loopNe m.toNat (fun i (x : List Int × Nat × Int) => ⟨[(3, .ptr 4000000 0 0), (4, i64 n), (5, .ref 6000000 0 l.length), (6, i64 k), (7, .ref 8000000 0 x.1.length), (8, i64 (m - i))], [(4000000, ⟨3, [[.sl false 1 (bys code), i64 x.2.1, u64 x.2.2]]⟩), (6000000, ⟨1, grO l⟩), (8000000, ⟨1, ints x.1⟩)]⟩) (fun i x => x.1.length = i ∧ x.2.1 ≤ b + 2 + 2 * i ∧ drwG x.1) ([], a', s') (by simp [bys, ints]) ⟨rfl, by simp only; omega, by simp [drwG]⟩ ?_
    rintro i ⟨y, b2, t2⟩ hi ⟨hJ1, hJ2, hJ3⟩
    simp only at hJ1 hJ2 hJ3
    try simp only [go_sem, hE, hH, ↓reduceIte, c_spec_DrawFindRing_l1]
    first | refine gd_t (fun hp => ?_) (fun hp => ?_) | refine gd_f (fun hp => ?_) (fun hp => ?_)
    · have hb2 := hp
      simp only [decide_eq_true_eq, decide_eq_false_iff_not, Int.not_lt, Int.not_le, ge_iff_le, gt_iff_lt, Bool.not_eq_true', Bool.not_eq_false', beq_iff_eq, bne_iff_ne, beq_eq_false_iff_ne, bne_eq_false_iff_eq, Int.ofNat_lt, Int.ofNat_le] at hp
      try simp (disch := omega) only [go_sem, hE, hH, ↓reduceIte, hb2]
      repeat' (first | ((with_reducible (first | refine gd_t (fun h => ?_) (fun h => ?_) | refine gd_f (fun h => ?_) (fun h => ?_))) <;> (have hb := h; (try simp only [decide_eq_true_eq, decide_eq_false_iff_not, Int.not_lt, Int.not_le, ge_iff_le, gt_iff_lt, Bool.not_eq_true', Bool.not_eq_false', beq_iff_eq, bne_iff_ne, beq_eq_false_iff_ne, bne_eq_false_iff_eq, Int.ofNat_lt, Int.ofNat_le] at h); simp (disch := omega) only [go_sem, hE, hH, ↓reduceIte, hb]; (try clear hb))) | ((with_reducible refine And.intro ?_ ?_); · omega) | (refine ok_lend [true, false] ?_; simp (disch := omega) only [go_sem, hE, hH, ↓reduceIte]; refine cmA (pick_ok n code hb _ _ (by omega) (by omega)) ?_; refine aftM_intro ?_; rintro _ _ ⟨w, a', s', rfl, rfl, h1, h2, h3⟩; simp (disch := omega) only [go_sem, hE, hH, ↓reduceIte]) | (refine jn _ ?_ ?_) | (with_reducible refine both ?_ ?_) | (with_reducible refine And.intro ?_ ?_) | (refine fin_eq ?_; (try (simp (disch := omega) only [go_sem, hE, hH, ↓reduceIte])); first | done | rfl) | (simp (disch := omega) only [go_sem, hE, hH, ↓reduceIte]) | (exact (noMLL_set (by simp only [go_sem, hE, hH, ↓reduceIte]) (by simp only [go_sem, hE, hH, ↓reduceIte])).2 trivial) | (exact (pk_set (by simp only [go_sem, hE, hH, ↓reduceIte]) (by simp only [go_sem, hE, hH, ↓reduceIte])).2 trivial) | (simp only [go_sem, hE, hH, ↓reduceIte]) | fail)
      refine ⟨(y ++ [w], a', s'), ?_, by simp [hJ1], by simp only; omega, drwG_app hJ3 (by omega) ⟨by omega, by split at h3 <;> omega⟩⟩
      rw [show m - (i : Int) - 1 = m - ((i + 1 : Nat) : Int) by omega]
      simp [ints, bys]
    · have hp2 := hp
      simp only [decide_eq_true_eq, decide_eq_false_iff_not, Int.not_lt, Int.not_le, ge_iff_le, gt_iff_lt, Bool.not_eq_true', Bool.not_eq_false', beq_iff_eq, bne_iff_ne, beq_eq_false_iff_ne, bne_eq_false_iff_eq, Int.ofNat_lt, Int.ofNat_le] at hp2
      try simp (disch := omega) only [go_sem, hE, hH, ↓reduceIte, hp]
      repeat' (first | ((with_reducible (first | refine gd_t (fun h => ?_) (fun h => ?_) | refine gd_f (fun h => ?_) (fun h => ?_))) <;> (have hb := h; (try simp only [decide_eq_true_eq, decide_eq_false_iff_not, Int.not_lt, Int.not_le, ge_iff_le, gt_iff_lt, Bool.not_eq_true', Bool.not_eq_false', beq_iff_eq, bne_iff_ne, beq_eq_false_iff_ne, bne_eq_false_iff_eq, Int.ofNat_lt, Int.ofNat_le] at h); simp (disch := omega) only [go_sem, hE, hH, ↓reduceIte, hb]; (try clear hb))) | ((with_reducible refine And.intro ?_ ?_); · omega) | (refine ok_lend [true, false] ?_; simp (disch := omega) only [go_sem, hE, hH, ↓reduceIte]; refine cmA (one_ok _ code hb _ _ (by omega) (by omega)) ?_; refine aftM_intro ?_; rintro _ _ ⟨b, a', s', rfl, rfl, h1⟩; simp (disch := omega) only [go_sem, hE, hH, ↓reduceIte]) | (refine jn _ ?_ ?_) | (with_reducible refine both ?_ ?_) | (with_reducible refine And.intro ?_ ?_) | (refine fin_eq ?_; (try (simp (disch := omega) only [go_sem, hE, hH, ↓reduceIte])); first | done | rfl) | (simp (disch := omega) only [go_sem, hE, hH, ↓reduceIte]) | (exact (noMLL_set (by simp only [go_sem, hE, hH, ↓reduceIte]) (by simp only [go_sem, hE, hH, ↓reduceIte])).2 trivial) | (exact (pk_set (by simp only [go_sem, hE, hH, ↓reduceIte]) (by simp only [go_sem, hE, hH, ↓reduceIte])).2 trivial) | (simp only [go_sem, hE, hH, ↓reduceIte]) | fail)
      · refine ⟨(l ++ [y ++ [n]], a', s'), ?_, by simp [hI1], by simp only; omega, fun z hz => ?_⟩
        · simp [ints, bys]
        · rcases List.mem_append.1 hz with h9 | h9
          · exact hI3 z h9
          · simp only [List.mem_singleton] at h9; subst h9
            exact drwG_app hJ3 (by omega) ⟨by omega, by omega⟩
      · refine ⟨(l ++ [y], a', s'), ?_, by simp [hI1], by simp only; omega, fun z hz => ?_⟩
        · simp [ints, bys]
        · rcases List.mem_append.1 hz with h9 | h9
          · exact hI3 z h9
          · simp only [List.mem_singleton] at h9; subst h9
            exact hJ3
  · try simp (disch := omega) only [go_sem, hE, hH, ↓reduceIte, hq]
    repeat' (first | ((with_reducible (first | refine gd_t (fun h => ?_) (fun h => ?_) | refine gd_f (fun h => ?_) (fun h => ?_))) <;> (have hb := h; (try simp only [decide_eq_true_eq, decide_eq_false_iff_not, Int.not_lt, Int.not_le, ge_iff_le, gt_iff_lt, Bool.not_eq_true', Bool.not_eq_false', beq_iff_eq, bne_iff_ne, beq_eq_false_iff_ne, bne_eq_false_iff_eq, Int.ofNat_lt, Int.ofNat_le] at h); simp (disch := omega) only [go_sem, hE, hH, ↓reduceIte, hb]; (try clear hb))) | ((with_reducible refine And.intro ?_ ?_); · omega) | (refine jn _ ?_ ?_) | (with_reducible refine both ?_ ?_) | (with_reducible refine And.intro ?_ ?_) | (refine fin_eq ?_; (try (simp (disch := omega) only [go_sem, hE, hH, ↓reduceIte])); first | done | rfl) | (simp (disch := omega) only [go_sem, hE, hH, ↓reduceIte]) | (exact (noMLL_set (by simp only [go_sem, hE, hH, ↓reduceIte]) (by simp only [go_sem, hE, hH, ↓reduceIte])).2 trivial) | (exact (pk_set (by simp only [go_sem, hE, hH, ↓reduceIte]) (by simp only [go_sem, hE, hH, ↓reduceIte])).2 trivial) | (simp only [go_sem, hE, hH, ↓reduceIte]) | fail)
    exact ⟨l, rfl, by omega, hI3⟩
theorem sameInts_ok (a : List Int) (hl : a.length ≤ maxLen) : ACall Try.prog n_laws_sameInts [.sl false 1 (ints a), .sl false 1 (ints a)] (fun r _ => r = bl true) := by
  have hmx := mx_eq
  refine fn_in h_laws_sameInts r_laws_sameInts ⟨by simp only [go_sem, ↓reduceIte], fun E hE hH => ?_⟩; simp only [go_sem, ↓reduceIte] at hE hH; simp only [go_sem, hE, hH, ↓reduceIte, c_laws_sameInts]
  repeat' (first | ((with_reducible (first | refine gd_t (fun h => ?_) (fun h => ?_) | refine gd_f (fun h => ?_) (fun h => ?_))) <;> (have hb := h; (try simp only [decide_eq_true_eq, decide_eq_false_iff_not, Int.not_lt, Int.not_le, ge_iff_le, gt_iff_lt, Bool.not_eq_true', Bool.not_eq_false', beq_iff_eq, bne_iff_ne, beq_eq_false_iff_ne, bne_eq_false_iff_eq, Int.ofNat_lt, Int.ofNat_le] at h); simp (disch := omega) only [go_sem, hE, hH, ↓reduceIte, hb]; (try clear hb))) | ((with_reducible refine And.intro ?_ ?_); · omega) | (refine jn _ ?_ ?_) | (with_reducible refine both ?_ ?_) | (with_reducible refine And.intro ?_ ?_) | (refine fin_eq ?_; (try (simp (disch := omega) only [go_sem, hE, hH, ↓reduceIte])); first | done | rfl) | (simp (disch := omega) only [go_sem, hE, hH, ↓reduceIte]) | (exact (noMLL_set (by simp only [go_sem, hE, hH, ↓reduceIte]) (by simp only [go_sem, hE, hH, ↓reduceIte])).2 trivial) | (exact (pk_set (by simp only [go_sem, hE, hH, ↓reduceIte]) (by simp only [go_sem, hE, hH, ↓reduceIte])).2 trivial) | (simp only [go_sem, hE, hH, ↓reduceIte]) | fail)
  refine loopNe a.length (fun j (_ : Unit) => ⟨[(0, .sl false 1 (ints a)), (1, .sl false 1 (ints a)), (12, i64 a.length), (13, i64 j)], []⟩) (fun j _ => True) () rfl trivial ?_
  intro j _ hj _
  try simp only [go_sem, hE, hH, ↓reduceIte, c_laws_sameInts_l1]
  first | refine gd_t (fun q1 => ?_) (fun q1 => ?_) | refine gd_f (fun q1 => ?_) (fun q1 => ?_)
  · have hb1 := q1
    simp only [decide_eq_true_eq, decide_eq_false_iff_not, Int.not_lt, Int.not_le, ge_iff_le, gt_iff_lt, Bool.not_eq_true', Bool.not_eq_false', beq_iff_eq, bne_iff_ne, beq_eq_false_iff_ne, bne_eq_false_iff_eq, Int.ofNat_lt, Int.ofNat_le] at q1
    try simp (disch := omega) only [go_sem, hE, hH, ↓reduceIte, hb1]
    repeat' (first | ((with_reducible (first | refine gd_t (fun h => ?_) (fun h => ?_) | refine gd_f (fun h => ?_) (fun h => ?_))) <;> (have hb := h; (try simp only [decide_eq_true_eq, decide_eq_false_iff_not, Int.not_lt, Int.not_le, ge_iff_le, gt_iff_lt, Bool.not_eq_true', Bool.not_eq_false', beq_iff_eq, bne_iff_ne, beq_eq_false_iff_ne, bne_eq_false_iff_eq, Int.ofNat_lt, Int.ofNat_le] at h); simp (disch := omega) only [go_sem, hE, hH, ↓reduceIte, hb]; (try clear hb))) | ((with_reducible refine And.intro ?_ ?_); · omega) | (refine jn _ ?_ ?_) | (with_reducible refine both ?_ ?_) | (with_reducible refine And.intro ?_ ?_) | (refine fin_eq ?_; (try (simp (disch := omega) only [go_sem, hE, hH, ↓reduceIte])); first | done | rfl) | (simp (disch := omega) only [go_sem, hE, hH, ↓reduceIte]) | (exact (noMLL_set (by simp only [go_sem, hE, hH, ↓reduceIte]) (by simp only [go_sem, hE, hH, ↓reduceIte])).2 trivial) | (exact (pk_set (by simp only [go_sem, hE, hH, ↓reduceIte]) (by simp only [go_sem, hE, hH, ↓reduceIte])).2 trivial) | (simp only [go_sem, hE, hH, ↓reduceIte]) | fail)
    all_goals exact ⟨(), rfl⟩
  · try simp (disch := omega) only [go_sem, hE, hH, ↓reduceIte, q1]
    repeat' (first | ((with_reducible (first | refine gd_t (fun h => ?_) (fun h => ?_) | refine gd_f (fun h => ?_) (fun h => ?_))) <;> (have hb := h; (try simp only [decide_eq_true_eq, decide_eq_false_iff_not, Int.not_lt, Int.not_le, ge_iff_le, gt_iff_lt, Bool.not_eq_true', Bool.not_eq_false', beq_iff_eq, bne_iff_ne, beq_eq_false_iff_ne, bne_eq_false_iff_eq, Int.ofNat_lt, Int.ofNat_le] at h); simp (disch := omega) only [go_sem, hE, hH, ↓reduceIte, hb]; (try clear hb))) | ((with_reducible refine And.intro ?_ ?_); · omega) | (refine jn _ ?_ ?_) | (with_reducible refine both ?_ ?_) | (with_reducible refine And.intro ?_ ?_) | (refine fin_eq ?_; (try (simp (disch := omega) only [go_sem, hE, hH, ↓reduceIte])); first | done | rfl) | (simp (disch := omega) only [go_sem, hE, hH, ↓reduceIte]) | (exact (noMLL_set (by simp only [go_sem, hE, hH, ↓reduceIte]) (by simp only [go_sem, hE, hH, ↓reduceIte])).2 trivial) | (exact (pk_set (by simp only [go_sem, hE, hH, ↓reduceIte]) (by simp only [go_sem, hE, hH, ↓reduceIte])).2 trivial) | (simp only [go_sem, hE, hH, ↓reduceIte]) | fail)
theorem lhas_ok (l : List Int) (n : Int) (hl : l.length ≤ maxLen) : ACall Try.prog n_laws_has [.sl false 1 (ints l), i64 n] (fun r _ => r = bl (l.any fun x => decide (x = n))) := by
  have hmx := mx_eq
  refine fn_in h_laws_has r_laws_has ⟨by simp only [go_sem, ↓reduceIte], fun E hE hH => ?_⟩; simp only [go_sem, ↓reduceIte] at hE hH; simp only [go_sem, hE, hH, ↓reduceIte, c_laws_has]
  repeat' (first | ((with_reducible (first | refine gd_t (fun h => ?_) (fun h => ?_) | refine gd_f (fun h => ?_) (fun h => ?_))) <;> (have hb := h; (try simp only [decide_eq_true_eq, decide_eq_false_iff_not, Int.not_lt, Int.not_le, ge_iff_le, gt_iff_lt, Bool.not_eq_true', Bool.not_eq_false', beq_iff_eq, bne_iff_ne, beq_eq_false_iff_ne, bne_eq_false_iff_eq, Int.ofNat_lt, Int.ofNat_le] at h); simp (disch := omega) only [go_sem, hE, hH, ↓reduceIte, hb]; (try clear hb))) | ((with_reducible refine And.intro ?_ ?_); · omega) | (refine jn _ ?_ ?_) | (with_reducible refine both ?_ ?_) | (with_reducible refine And.intro ?_ ?_) | (refine fin_eq ?_; (try (simp (disch := omega) only [go_sem, hE, hH, ↓reduceIte])); first | done | rfl) | (simp (disch := omega) only [go_sem, hE, hH, ↓reduceIte]) | (exact (noMLL_set (by simp only [go_sem, hE, hH, ↓reduceIte]) (by simp only [go_sem, hE, hH, ↓reduceIte])).2 trivial) | (exact (pk_set (by simp only [go_sem, hE, hH, ↓reduceIte]) (by simp only [go_sem, hE, hH, ↓reduceIte])).2 trivial) | (simp only [go_sem, hE, hH, ↓reduceIte]) | fail)
  refine loopNe l.length (fun j (_ : Unit) => ⟨[(1, i64 n), (7, .sl false 1 (ints l)), (8, i64 l.length), (9, i64 j)], []⟩) (fun j _ => allN (fun i => !decide (nth l i = n)) j = true) () rfl rfl ?_
  intro j _ hj hI
  try simp only [go_sem, hE, hH, ↓reduceIte, c_laws_has_l1]
  first | refine gd_t (fun q1 => ?_) (fun q1 => ?_) | refine gd_f (fun q1 => ?_) (fun q1 => ?_)
  · have hb1 := q1
    simp only [decide_eq_true_eq, decide_eq_false_iff_not, Int.not_lt, Int.not_le, ge_iff_le, gt_iff_lt, Bool.not_eq_true', Bool.not_eq_false', beq_iff_eq, bne_iff_ne, beq_eq_false_iff_ne, bne_eq_false_iff_eq, Int.ofNat_lt, Int.ofNat_le] at q1
    try simp (disch := omega) only [go_sem, hE, hH, ↓reduceIte, hb1]
    repeat' (first | ((with_reducible (first | refine gd_t (fun h => ?_) (fun h => ?_) | refine gd_f (fun h => ?_) (fun h => ?_))) <;> (have hb := h; (try simp only [decide_eq_true_eq, decide_eq_false_iff_not, Int.not_lt, Int.not_le, ge_iff_le, gt_iff_lt, Bool.not_eq_true', Bool.not_eq_false', beq_iff_eq, bne_iff_ne, beq_eq_false_iff_ne, bne_eq_false_iff_eq, Int.ofNat_lt, Int.ofNat_le] at h); simp (disch := omega) only [go_sem, hE, hH, ↓reduceIte, hb]; (try clear hb))) | ((with_reducible refine And.intro ?_ ?_); · omega) | (refine jn _ ?_ ?_) | (with_reducible refine both ?_ ?_) | (with_reducible refine And.intro ?_ ?_) | (refine fin_eq ?_; (try (simp (disch := omega) only [go_sem, hE, hH, ↓reduceIte])); first | done | rfl) | (simp (disch := omega) only [go_sem, hE, hH, ↓reduceIte]) | (exact (noMLL_set (by simp only [go_sem, hE, hH, ↓reduceIte]) (by simp only [go_sem, hE, hH, ↓reduceIte])).2 trivial) | (exact (pk_set (by simp only [go_sem, hE, hH, ↓reduceIte]) (by simp only [go_sem, hE, hH, ↓reduceIte])).2 trivial) | (simp only [go_sem, hE, hH, ↓reduceIte]) | fail)
    · rw [List.any_eq_true.2 ⟨nth l j, nth_mem q1, by simp [h]⟩]
    · exact ⟨(), rfl, allN_step hI (by simp [h])⟩
  · have q2 := q1
    simp only [decide_eq_true_eq, decide_eq_false_iff_not, Int.not_lt, Int.not_le, ge_iff_le, gt_iff_lt, Bool.not_eq_true', Bool.not_eq_false', beq_iff_eq, bne_iff_ne, beq_eq_false_iff_ne, bne_eq_false_iff_eq, Int.ofNat_lt, Int.ofNat_le] at q2
    obtain rfl : j = l.length := by omega
    try simp (disch := omega) only [go_sem, hE, hH, ↓reduceIte, q1]
    repeat' (first | ((with_reducible (first | refine gd_t (fun h => ?_) (fun h => ?_) | refine gd_f (fun h => ?_) (fun h => ?_))) <;> (have hb := h; (try simp only [decide_eq_true_eq, decide_eq_false_iff_not, Int.not_lt, Int.not_le, ge_iff_le, gt_iff_lt, Bool.not_eq_true', Bool.not_eq_false', beq_iff_eq, bne_iff_ne, beq_eq_false_iff_ne, bne_eq_false_iff_eq, Int.ofNat_lt, Int.ofNat_le] at h); simp (disch := omega) only [go_sem, hE, hH, ↓reduceIte, hb]; (try clear hb))) | ((with_reducible refine And.intro ?_ ?_); · omega) | (refine jn _ ?_ ?_) | (with_reducible refine both ?_ ?_) | (with_reducible refine And.intro ?_ ?_) | (refine fin_eq ?_; (try (simp (disch := omega) only [go_sem, hE, hH, ↓reduceIte])); first | done | rfl) | (simp (disch := omega) only [go_sem, hE, hH, ↓reduceIte]) | (exact (noMLL_set (by simp only [go_sem, hE, hH, ↓reduceIte]) (by simp only [go_sem, hE, hH, ↓reduceIte])).2 trivial) | (exact (pk_set (by simp only [go_sem, hE, hH, ↓reduceIte]) (by simp only [go_sem, hE, hH, ↓reduceIte])).2 trivial) | (simp only [go_sem, hE, hH, ↓reduceIte]) | fail)
    rw [allN_all (p := fun x => !decide (x = n)), List.all_eq_true] at hI
    have e : (l.any fun x => decide (x = n)) = false := by
      rw [List.any_eq_false]
      intro x hx
      have := hI x hx
      simpa using this
    rw [e]
theorem ring_law {g : List (List Int)} (hg : goodG g = true) (h : (ringR g).2 = true) : 0 < (ringR g).1.length ∧ ∀ k, k < (ringR g).1.length → 0 ≤ nth (ringR g).1 k ∧ nth (ringR g).1 k < g.length ∧ ((nth g (nth (ringR g).1 k).toNat).any fun x => decide (x = nth (ringR g).1 ((k + 1) % (ringR g).1.length))) = true ∧ nth (ringR g).1 0 ≤ nth (ringR g).1 k := by
  have hk := goodG_ok hg
  by_cases hn : ∀ v : Nat, v < g.length → dl g v g.length v = 0
  · rw [ringR_no hg hn] at h; simp at h
  · obtain ⟨j, hj, h1, h2⟩ : ∃ j : Nat, j < g.length ∧ dl g j g.length j ≠ 0 ∧ ∀ v : Nat, v < j → dl g v g.length v = 0 := by
      have ex : ∃ j : Nat, j < g.length ∧ dl g j g.length j ≠ 0 := by
        refine Classical.byContradiction fun hc => hn fun v hv => ?_
        refine Classical.byContradiction fun h9 => hc ⟨v, hv, h9⟩
      obtain ⟨j0, a, b⟩ := ex
      have key : ∀ n j : Nat, j ≤ n → j < g.length → dl g j g.length j ≠ 0 → ∃ j : Nat, j < g.length ∧ dl g j g.length j ≠ 0 ∧ ∀ v : Nat, v < j → dl g v g.length v = 0 := by
        intro n
        induction n with
        | zero => intro j h0 h1 h2; exact ⟨j, h1, h2, fun v hv => by omega⟩
        | succ n ih =>
          intro j h0 h1 h2
          by_cases hc : ∃ v : Nat, v < j ∧ dl g v g.length v ≠ 0
          · obtain ⟨v, hv, hv2⟩ := hc
            exact ih v (by omega) (by omega) hv2
          · refine ⟨j, h1, h2, fun v hv => ?_⟩
            refine Classical.byContradiction fun h9 => hc ⟨v, hv, h9⟩
      exact key j0 j0 (Nat.le_refl _) a b
    have hbd := dl_bd (g := g) (t := (j : Int)) (j := g.length) (v := (j : Int))
    obtain ⟨M, hM⟩ : ∃ M : Nat, dl g j g.length j = M + 1 := ⟨dl g j g.length j - 1, by omega⟩
    have e := ringR_at hg hj h2 h1
    rw [hM, Nat.add_sub_cancel] at e
    rw [hM] at hbd
    rw [e]
    have hlen : ((j : Int) :: ring g j M j).length = M + 1 := by simp [ring_len]
    have hgl := hk.1
    refine ⟨by simp, fun k hk2 => ?_⟩
    rw [hlen] at hk2 ⊢
    obtain ⟨a1, a2, a3, a4⟩ := ring_at hk (t := (j : Int)) (u := (j : Int)) (by omega) (by omega) hM k (by omega)
    refine ⟨a1, a2, ?_, ?_⟩
    · rw [List.any_eq_true]
      by_cases hl : k = M
      · subst hl
        refine ⟨(j : Int), ring_last hk (by omega) (by omega) hM, ?_⟩
        rw [Nat.mod_self, nth_cons_zero]
        simp
      · refine ⟨_, a4 (by omega), ?_⟩
        rw [Nat.mod_eq_of_lt (by omega)]
        simp
    · rw [nth_cons_zero]
      have hs := ring_self hk (t := (j : Int)) (u := (j : Int)) (by omega) (by omega) rfl hM (i := k) (by omega)
      refine Int.not_lt.1 fun hlt => hs ?_
      have hlt2 : nth ((j : Int) :: ring g j M j) k < (j : Int) := hlt
      have := h2 (nth ((j : Int) :: ring g j M j) k).toNat (by omega)
      rwa [show (((nth ((j : Int) :: ring g j M j) k).toNat : Nat) : Int) = nth ((j : Int) :: ring g j M j) k by omega] at this
theorem ringR_20 {g : List (List Int)} : (ringR g).1.length ≤ 20 := by
  by_cases hg : goodG g = true
  · have hk := (goodG_ok hg).1
    unfold ringR
    rw [if_pos hg]
    split
    · simp
    · rename_i v _
      have hbd := dl_bd (g := g) (t := (v : Int)) (j := g.length) (v := (v : Int))
      simp only [List.length_cons, ring_len]
      omega
  · rw [ringR_bad (by simpa using hg)]; simp
def eldR (l : List Int) (k : Nat) : List Int := l.filter fun n => decide (0 ≤ n) && decide (n < k)
theorem eldR_in {l : List Int} {k : Nat} : ∀ w, w ∈ eldR l k → 0 ≤ w ∧ w < k := by
  intro w hw
  simp [eldR] at hw
  exact hw.2
theorem grO_same {g : List (List Int)} {i : Nat} (h : i < g.length) : (grO g).set i [.sl true 1 (ints (nth g i))] = grO g := by
  refine List.ext_getElem (by simp) fun j h1 h2 => ?_
  rw [List.getElem_set]
  split
  · rename_i e; subst e; simp [nth_lt h]
  · rfl
set_option maxHeartbeats 2000000 in
theorem FnRings_ok (vc vm : List Int) (wc : vc.length ≤ maxLen ∧ ∀ y ∈ vc, 0 ≤ y ∧ y ≤ 255) (wm : vm.length ≤ maxLen ∧ ∀ y ∈ vm, 0 ≤ y ∧ y ≤ 255) : ACall Try.prog n_laws_FnRings [.sl false 1 (bys vc), .sl false 1 (bys vm)] (fun r _ => r = bl true) := by
  have hmx := mx_eq
  cases hB : bigB vc vm
  · obtain ⟨hc, hm⟩ := isB_of hB wc.2 wm.2
    refine fn_in h_laws_FnRings r_laws_FnRings ⟨by simp only [go_sem, ↓reduceIte], fun E hE hH => ?_⟩; simp only [go_sem, ↓reduceIte] at hE hH; simp only [go_sem, hE, hH, ↓reduceIte, c_laws_FnRings]
    repeat' (first | ((with_reducible (first | refine gd_t (fun h => ?_) (fun h => ?_) | refine gd_f (fun h => ?_) (fun h => ?_))) <;> (have hb := h; (try simp only [decide_eq_true_eq, decide_eq_false_iff_not, Int.not_lt, Int.not_le, ge_iff_le, gt_iff_lt, Bool.not_eq_true', Bool.not_eq_false', beq_iff_eq, bne_iff_ne, beq_eq_false_iff_ne, bne_eq_false_iff_eq, Int.ofNat_lt, Int.ofNat_le] at h); simp (disch := omega) only [go_sem, hE, hH, ↓reduceIte, hB, hb]; (try clear hb))) | ((with_reducible refine And.intro ?_ ?_); · omega) | (refine ok_view ?_; simp (disch := omega) only [go_sem, hE, hH, ↓reduceIte, hB]; refine cvA (DrawFindRing_ok vc hc) ?_; refine aftV_intro ?_; rintro _ _ ⟨g, rfl, g1, g2⟩; simp (disch := omega) only [go_sem, hE, hH, ↓reduceIte, hB]) | (refine ok_view ?_; simp (disch := omega) only [go_sem, hE, hH, ↓reduceIte, hB]) | (refine cvA (big_ok vc vm wc.1 wm.1) ?_; simp (disch := omega) only [go_sem, hE, hH, ↓reduceIte, hB]) | (refine jn _ ?_ ?_) | (with_reducible refine both ?_ ?_) | (with_reducible refine And.intro ?_ ?_) | (refine fin_eq ?_; (try (simp (disch := omega) only [go_sem, hE, hH, ↓reduceIte, hB])); first | done | rfl) | (simp (disch := omega) only [go_sem, hE, hH, ↓reduceIte, hB]) | (exact (noMLL_set (by simp only [go_sem, hE, hH, ↓reduceIte, hB]) (by simp only [go_sem, hE, hH, ↓reduceIte, hB])).2 trivial) | (exact (pk_set (by simp only [go_sem, hE, hH, ↓reduceIte, hB]) (by simp only [go_sem, hE, hH, ↓reduceIte, hB])).2 trivial) | (simp only [go_sem, hE, hH, ↓reduceIte, hB]) | fail)
    have hgm : ∀ i, (nth g i).length ≤ maxLen := by
      intro i
      by_cases hi : i < g.length
      · have := (g2 _ (nth_mem hi)).1; omega
      · have : nth g i = [] := by simp [nth, hi]; rfl
        rw [this]; simp
    have l2 := ringR_20 (g := g)
    cases hr : (ringR g).2
    ·
      repeat' (first | ((with_reducible (first | refine gd_t (fun h => ?_) (fun h => ?_) | refine gd_f (fun h => ?_) (fun h => ?_))) <;> (have hb := h; (try simp only [decide_eq_true_eq, decide_eq_false_iff_not, Int.not_lt, Int.not_le, ge_iff_le, gt_iff_lt, Bool.not_eq_true', Bool.not_eq_false', beq_iff_eq, bne_iff_ne, beq_eq_false_iff_ne, bne_eq_false_iff_eq, Int.ofNat_lt, Int.ofNat_le] at h); simp (disch := omega) only [go_sem, hE, hH, ↓reduceIte, hr, hb]; (try clear hb))) | ((with_reducible refine And.intro ?_ ?_); · omega) | (refine ok_view ?_; simp (disch := omega) only [go_sem, hE, hH, ↓reduceIte, hr]; refine cvA (DrawFindRing_ok vm hm) ?_; refine aftV_intro ?_; rintro _ _ ⟨g', rfl, g1', g2'⟩; simp (disch := omega) only [go_sem, hE, hH, ↓reduceIte, hr]) | (refine ok_view ?_; simp (disch := omega) only [go_sem, hE, hH, ↓reduceIte, hr]) | (refine cvA (FindRing_ok g (by omega) hgm) ?_; simp (disch := omega) only [go_sem, hE, hH, ↓reduceIte, hr]) | (refine cvA (sFindRing_ok g (by omega) hgm) ?_; simp (disch := omega) only [go_sem, hE, hH, ↓reduceIte, hr]) | (refine cvA (sameInts_ok (ringR g).1 (by omega)) ?_; simp (disch := omega) only [go_sem, hE, hH, ↓reduceIte, hr]) | (refine jn _ ?_ ?_) | (with_reducible refine both ?_ ?_) | (with_reducible refine And.intro ?_ ?_) | (refine fin_eq ?_; (try (simp (disch := omega) only [go_sem, hE, hH, ↓reduceIte, hr])); first | done | rfl) | (simp (disch := omega) only [go_sem, hE, hH, ↓reduceIte, hr]) | (exact (noMLL_set (by simp only [go_sem, hE, hH, ↓reduceIte, hr]) (by simp only [go_sem, hE, hH, ↓reduceIte, hr])).2 trivial) | (exact (pk_set (by simp only [go_sem, hE, hH, ↓reduceIte, hr]) (by simp only [go_sem, hE, hH, ↓reduceIte, hr])).2 trivial) | (simp only [go_sem, hE, hH, ↓reduceIte, hr]) | fail)
      refine loopNe g'.length (fun k (el : List (List Int)) => ⟨[(13, .ref 14000000 0 el.length), (90, .ref 91000000 0 g'.length), (91, i64 g'.length), (92, i64 k)], [(14000000, ⟨1, grO el⟩), (91000000, ⟨1, grO g'⟩)]⟩) (fun k el => el = (List.range k).map fun i => eldR (nth g' i) i) [] rfl rfl ?_
      intro k el hk hI
      have hel : el.length = k := by rw [hI]; simp
      try simp only [go_sem, hE, hH, ↓reduceIte, c_laws_FnRings_l3]
      first | refine gd_t (fun q1 => ?_) (fun q1 => ?_) | refine gd_f (fun q1 => ?_) (fun q1 => ?_)
      · have hb1 := q1
        simp only [decide_eq_true_eq, decide_eq_false_iff_not, Int.not_lt, Int.not_le, ge_iff_le, gt_iff_lt, Bool.not_eq_true', Bool.not_eq_false', beq_iff_eq, bne_iff_ne, beq_eq_false_iff_ne, bne_eq_false_iff_eq, Int.ofNat_lt, Int.ofNat_le] at q1
        have hyk := (g2' _ (nth_mem q1)).1
        have hgs := grO_same q1
        try simp (disch := omega) only [go_sem, hE, hH, ↓reduceIte, hb1]
        repeat' (first | ((with_reducible (first | refine gd_t (fun h => ?_) (fun h => ?_) | refine gd_f (fun h => ?_) (fun h => ?_))) <;> (have hb := h; (try simp only [decide_eq_true_eq, decide_eq_false_iff_not, Int.not_lt, Int.not_le, ge_iff_le, gt_iff_lt, Bool.not_eq_true', Bool.not_eq_false', beq_iff_eq, bne_iff_ne, beq_eq_false_iff_ne, bne_eq_false_iff_eq, Int.ofNat_lt, Int.ofNat_le] at h); simp (disch := omega) only [go_sem, hE, hH, ↓reduceIte, hb]; (try clear hb))) | ((with_reducible refine And.intro ?_ ?_); · omega) | (refine jn _ ?_ ?_) | (with_reducible refine both ?_ ?_) | (with_reducible refine And.intro ?_ ?_) | (refine fin_eq ?_; (try (simp (disch := omega) only [go_sem, hE, hH, ↓reduceIte])); first | done | rfl) | (simp (disch := omega) only [go_sem, hE, hH, ↓reduceIte]) | (exact (noMLL_set (by simp only [go_sem, hE, hH, ↓reduceIte]) (by simp only [go_sem, hE, hH, ↓reduceIte])).2 trivial) | (exact (pk_set (by simp only [go_sem, hE, hH, ↓reduceIte]) (by simp only [go_sem, hE, hH, ↓reduceIte])).2 trivial) | (simp only [go_sem, hE, hH, ↓reduceIte]) | fail)
        refine loopNe (nth g' k).length (fun i (y : List Int) => ⟨[(13, .ref 14000000 0 el.length), (14, i64 k), (16, .ref 17000000 0 y.length), (90, .ref 91000000 0 g'.length), (91, i64 g'.length), (92, i64 k), (97, .ref 98000000 0 (nth g' k).length), (98, i64 (nth g' k).length), (99, i64 i)], [(14000000, ⟨1, grO el⟩), (17000000, ⟨1, ints y⟩), (91000000, ⟨1, (grO g').set k [.ref 98000000 0 (nth g' k).length]⟩), (98000000, ⟨1, ints (nth g' k)⟩)]⟩) (fun i y => y = eldR ((nth g' k).take i) k) [] rfl rfl ?_
        intro i y hi hJ
        have hyl : y.length ≤ 3 := by
          rw [hJ]
          have h1 : (eldR ((nth g' k).take i) k).length ≤ ((nth g' k).take i).length := List.length_filter_le ..
          have h2 : ((nth g' k).take i).length ≤ (nth g' k).length := by rw [List.length_take]; omega
          omega
        try simp only [go_sem, hE, hH, ↓reduceIte, c_laws_FnRings_l2]
        first | refine gd_t (fun q3 => ?_) (fun q3 => ?_) | refine gd_f (fun q3 => ?_) (fun q3 => ?_)
        · have hb3 := q3
          simp only [decide_eq_true_eq, decide_eq_false_iff_not, Int.not_lt, Int.not_le, ge_iff_le, gt_iff_lt, Bool.not_eq_true', Bool.not_eq_false', beq_iff_eq, bne_iff_ne, beq_eq_false_iff_ne, bne_eq_false_iff_eq, Int.ofNat_lt, Int.ofNat_le] at q3
          have hs : eldR ((nth g' k).take (i + 1)) k = if 0 ≤ nth (nth g' k) i ∧ nth (nth g' k) i < k then y ++ [nth (nth g' k) i] else y := by
            rw [hJ, eldR, take_nth q3, List.filter_append]
            by_cases hc : 0 ≤ nth (nth g' k) i ∧ nth (nth g' k) i < k
            · rw [if_pos hc]; simp [hc, eldR]
            · rw [if_neg hc]; simp [eldR]; omega
          try simp (disch := omega) only [go_sem, hE, hH, ↓reduceIte, hb3]
          repeat' (first | ((with_reducible (first | refine gd_t (fun h => ?_) (fun h => ?_) | refine gd_f (fun h => ?_) (fun h => ?_))) <;> (have hb := h; (try simp only [decide_eq_true_eq, decide_eq_false_iff_not, Int.not_lt, Int.not_le, ge_iff_le, gt_iff_lt, Bool.not_eq_true', Bool.not_eq_false', beq_iff_eq, bne_iff_ne, beq_eq_false_iff_ne, bne_eq_false_iff_eq, Int.ofNat_lt, Int.ofNat_le] at h); simp (disch := omega) only [go_sem, hE, hH, ↓reduceIte, hb]; (try clear hb))) | ((with_reducible refine And.intro ?_ ?_); · omega) | (refine jn _ ?_ ?_) | (with_reducible refine both ?_ ?_) | (with_reducible refine And.intro ?_ ?_) | (refine fin_eq ?_; (try (simp (disch := omega) only [go_sem, hE, hH, ↓reduceIte])); first | done | rfl) | (simp (disch := omega) only [go_sem, hE, hH, ↓reduceIte]) | (exact (noMLL_set (by simp only [go_sem, hE, hH, ↓reduceIte]) (by simp only [go_sem, hE, hH, ↓reduceIte])).2 trivial) | (exact (pk_set (by simp only [go_sem, hE, hH, ↓reduceIte]) (by simp only [go_sem, hE, hH, ↓reduceIte])).2 trivial) | (simp only [go_sem, hE, hH, ↓reduceIte]) | fail)
          all_goals (rw [hs]; first | (rw [if_pos (by omega)]; simp [ints]; done) | (rw [if_neg (by omega)]; rfl))
        · have q4 := q3
          simp only [decide_eq_true_eq, decide_eq_false_iff_not, Int.not_lt, Int.not_le, ge_iff_le, gt_iff_lt, Bool.not_eq_true', Bool.not_eq_false', beq_iff_eq, bne_iff_ne, beq_eq_false_iff_ne, bne_eq_false_iff_eq, Int.ofNat_lt, Int.ofNat_le] at q4
          rw [List.take_of_length_le (by omega)] at hJ
          have hnx : (List.range k ++ [k]).map (fun i => eldR (nth g' i) i) = el ++ [y] := by
            rw [List.map_append, ← hI, hJ]; rfl
          try simp (disch := omega) only [go_sem, hE, hH, ↓reduceIte, q3]
          repeat' (first | ((with_reducible (first | refine gd_t (fun h => ?_) (fun h => ?_) | refine gd_f (fun h => ?_) (fun h => ?_))) <;> (have hb := h; (try simp only [decide_eq_true_eq, decide_eq_false_iff_not, Int.not_lt, Int.not_le, ge_iff_le, gt_iff_lt, Bool.not_eq_true', Bool.not_eq_false', beq_iff_eq, bne_iff_ne, beq_eq_false_iff_ne, bne_eq_false_iff_eq, Int.ofNat_lt, Int.ofNat_le] at h); simp (disch := omega) only [go_sem, hE, hH, ↓reduceIte, hb]; (try clear hb))) | ((with_reducible refine And.intro ?_ ?_); · omega) | (refine jn _ ?_ ?_) | (with_reducible refine both ?_ ?_) | (with_reducible refine And.intro ?_ ?_) | (refine fin_eq ?_; (try (simp (disch := omega) only [go_sem, hE, hH, ↓reduceIte])); first | done | rfl) | (simp (disch := omega) only [go_sem, hE, hH, ↓reduceIte]) | (exact (noMLL_set (by simp only [go_sem, hE, hH, ↓reduceIte]) (by simp only [go_sem, hE, hH, ↓reduceIte])).2 trivial) | (exact (pk_set (by simp only [go_sem, hE, hH, ↓reduceIte]) (by simp only [go_sem, hE, hH, ↓reduceIte])).2 trivial) | (simp only [go_sem, hE, hH, ↓reduceIte]) | fail)
          rw [hnx, hgs]
          simp [hel]
      · have q2 := q1
        simp only [decide_eq_true_eq, decide_eq_false_iff_not, Int.not_lt, Int.not_le, ge_iff_le, gt_iff_lt, Bool.not_eq_true', Bool.not_eq_false', beq_iff_eq, bne_iff_ne, beq_eq_false_iff_ne, bne_eq_false_iff_eq, Int.ofNat_lt, Int.ofNat_le] at q2
        have hn : ∀ v : Nat, v < el.length → nth el v = eldR (nth g' v) v := by
          intro v hv
          rw [hI, nth_lt (by simp; omega)]
          simp
        have e : (ringR el).2 = false := by
          cases h9 : goodG el
          · rw [ringR_bad h9]
          · rw [ringR_no h9 fun v hv => elder_dl fun u hu w hw => eldR_in w (by rw [← hn u hu]; exact hw)]
        have hlen : ∀ i, (nth el i).length ≤ maxLen := by
          intro i
          by_cases hi : i < el.length
          · rw [hn i hi]
            have h1 : (eldR (nth g' i) i).length ≤ (nth g' i).length := List.length_filter_le ..
            have := (g2' _ (nth_mem (show i < g'.length by omega))).1
            omega
          · have : nth el i = [] := by simp [nth, hi]; rfl
            rw [this]; simp
        have hF := FindRing_ok el (by omega) hlen
        simp only [e] at hF
        try simp (disch := omega) only [go_sem, hE, hH, ↓reduceIte, q1]
        repeat' (first | ((with_reducible (first | refine gd_t (fun h => ?_) (fun h => ?_) | refine gd_f (fun h => ?_) (fun h => ?_))) <;> (have hb := h; (try simp only [decide_eq_true_eq, decide_eq_false_iff_not, Int.not_lt, Int.not_le, ge_iff_le, gt_iff_lt, Bool.not_eq_true', Bool.not_eq_false', beq_iff_eq, bne_iff_ne, beq_eq_false_iff_ne, bne_eq_false_iff_eq, Int.ofNat_lt, Int.ofNat_le] at h); simp (disch := omega) only [go_sem, hE, hH, ↓reduceIte, hb]; (try clear hb))) | ((with_reducible refine And.intro ?_ ?_); · omega) | (refine ok_view ?_; simp (disch := omega) only [go_sem, hE, hH, ↓reduceIte]) | (refine cvA (hF) ?_; simp (disch := omega) only [go_sem, hE, hH, ↓reduceIte]) | (refine jn _ ?_ ?_) | (with_reducible refine both ?_ ?_) | (with_reducible refine And.intro ?_ ?_) | (refine fin_eq ?_; (try (simp (disch := omega) only [go_sem, hE, hH, ↓reduceIte])); first | done | rfl) | (simp (disch := omega) only [go_sem, hE, hH, ↓reduceIte]) | (exact (noMLL_set (by simp only [go_sem, hE, hH, ↓reduceIte]) (by simp only [go_sem, hE, hH, ↓reduceIte])).2 trivial) | (exact (pk_set (by simp only [go_sem, hE, hH, ↓reduceIte]) (by simp only [go_sem, hE, hH, ↓reduceIte])).2 trivial) | (simp only [go_sem, hE, hH, ↓reduceIte]) | fail)
    · have hG : goodG g = true := by
        cases h9 : goodG g
        · rw [ringR_bad h9] at hr; simp at hr
        · rfl
      obtain ⟨l1, l3⟩ := ring_law hG hr
      repeat' (first | ((with_reducible (first | refine gd_t (fun h => ?_) (fun h => ?_) | refine gd_f (fun h => ?_) (fun h => ?_))) <;> (have hb := h; (try simp only [decide_eq_true_eq, decide_eq_false_iff_not, Int.not_lt, Int.not_le, ge_iff_le, gt_iff_lt, Bool.not_eq_true', Bool.not_eq_false', beq_iff_eq, bne_iff_ne, beq_eq_false_iff_ne, bne_eq_false_iff_eq, Int.ofNat_lt, Int.ofNat_le] at h); simp (disch := omega) only [go_sem, hE, hH, ↓reduceIte, hr, hb]; (try clear hb))) | ((with_reducible refine And.intro ?_ ?_); · omega) | (refine ok_view ?_; simp (disch := omega) only [go_sem, hE, hH, ↓reduceIte, hr]; refine cvA (DrawFindRing_ok vm hm) ?_; refine aftV_intro ?_; rintro _ _ ⟨g', rfl, g1', g2'⟩; simp (disch := omega) only [go_sem, hE, hH, ↓reduceIte, hr]) | (refine ok_view ?_; simp (disch := omega) only [go_sem, hE, hH, ↓reduceIte, hr]) | (refine cvA (FindRing_ok g (by omega) hgm) ?_; simp (disch := omega) only [go_sem, hE, hH, ↓reduceIte, hr]) | (refine cvA (sFindRing_ok g (by omega) hgm) ?_; simp (disch := omega) only [go_sem, hE, hH, ↓reduceIte, hr]) | (refine cvA (sameInts_ok (ringR g).1 (by omega)) ?_; simp (disch := omega) only [go_sem, hE, hH, ↓reduceIte, hr]) | (refine jn _ ?_ ?_) | (with_reducible refine both ?_ ?_) | (with_reducible refine And.intro ?_ ?_) | (refine fin_eq ?_; (try (simp (disch := omega) only [go_sem, hE, hH, ↓reduceIte, hr])); first | done | rfl) | (simp (disch := omega) only [go_sem, hE, hH, ↓reduceIte, hr]) | (exact (noMLL_set (by simp only [go_sem, hE, hH, ↓reduceIte, hr]) (by simp only [go_sem, hE, hH, ↓reduceIte, hr])).2 trivial) | (exact (pk_set (by simp only [go_sem, hE, hH, ↓reduceIte, hr]) (by simp only [go_sem, hE, hH, ↓reduceIte, hr])).2 trivial) | (simp only [go_sem, hE, hH, ↓reduceIte, hr]) | fail)
      all_goals try (exfalso; omega)
      refine loopNe (ringR g).1.length (fun k (_ : Unit) => ⟨[(1, .sl false 1 (bys vm)), (5, .ref 6000000 0 g.length), (6, .ref 7000000 0 (ringR g).1.length), (49, .ref 7000000 0 (ringR g).1.length), (50, i64 (ringR g).1.length), (51, i64 k)], [(6000000, ⟨1, grO g⟩), (7000000, ⟨1, ints (ringR g).1⟩)]⟩) (fun j _ => True) () rfl trivial ?_
      intro k _ hk _
      try simp only [go_sem, hE, hH, ↓reduceIte, c_laws_FnRings_l1]
      first | refine gd_t (fun q1 => ?_) (fun q1 => ?_) | refine gd_f (fun q1 => ?_) (fun q1 => ?_)
      · have hb1 := q1
        simp only [decide_eq_true_eq, decide_eq_false_iff_not, Int.not_lt, Int.not_le, ge_iff_le, gt_iff_lt, Bool.not_eq_true', Bool.not_eq_false', beq_iff_eq, bne_iff_ne, beq_eq_false_iff_ne, bne_eq_false_iff_eq, Int.ofNat_lt, Int.ofNat_le] at q1
        obtain ⟨m1, m2, m3, m4⟩ := l3 k q1
        have m5 : ((k : Int) + 1).tmod (((ringR g).1.length : Nat) : Int) = (((k + 1) % (ringR g).1.length : Nat) : Int) := by
          rw [Int.ofNat_tmod]; rfl
        have m6 : (k + 1) % (ringR g).1.length < (ringR g).1.length := Nat.mod_lt _ l1
        try simp (disch := omega) only [go_sem, hE, hH, ↓reduceIte, hb1]
        have hgs := grO_same (g := g) (i := (nth (ringR g).1 k).toNat) (by omega)
        repeat' (first | ((with_reducible (first | refine gd_t (fun h => ?_) (fun h => ?_) | refine gd_f (fun h => ?_) (fun h => ?_))) <;> (have hb := h; (try simp only [decide_eq_true_eq, decide_eq_false_iff_not, Int.not_lt, Int.not_le, ge_iff_le, gt_iff_lt, Bool.not_eq_true', Bool.not_eq_false', beq_iff_eq, bne_iff_ne, beq_eq_false_iff_ne, bne_eq_false_iff_eq, Int.ofNat_lt, Int.ofNat_le] at h); simp (disch := omega) only [go_sem, hE, hH, ↓reduceIte, m5, m3, hgs, hb]; (try clear hb))) | ((with_reducible refine And.intro ?_ ?_); · omega) | (refine ok_view ?_; simp (disch := omega) only [go_sem, hE, hH, ↓reduceIte, m5, m3, hgs]) | (refine cvA (lhas_ok (nth g (nth (ringR g).1 k).toNat) _ (hgm _)) ?_; simp (disch := omega) only [go_sem, hE, hH, ↓reduceIte, m5, m3, hgs]) | (refine jn _ ?_ ?_) | (with_reducible refine both ?_ ?_) | (with_reducible refine And.intro ?_ ?_) | (refine fin_eq ?_; (try (simp (disch := omega) only [go_sem, hE, hH, ↓reduceIte, m5, m3, hgs])); first | done | rfl) | (simp (disch := omega) only [go_sem, hE, hH, ↓reduceIte, m5, m3, hgs]) | (exact (noMLL_set (by simp only [go_sem, hE, hH, ↓reduceIte, m5, m3, hgs]) (by simp only [go_sem, hE, hH, ↓reduceIte, m5, m3, hgs])).2 trivial) | (exact (pk_set (by simp only [go_sem, hE, hH, ↓reduceIte, m5, m3, hgs]) (by simp only [go_sem, hE, hH, ↓reduceIte, m5, m3, hgs])).2 trivial) | (simp only [go_sem, hE, hH, ↓reduceIte, m5, m3, hgs]) | fail)
        all_goals try (exfalso; omega)
        all_goals exact ⟨(), rfl⟩
      · try simp (disch := omega) only [go_sem, hE, hH, ↓reduceIte, q1]
        repeat' (first | ((with_reducible (first | refine gd_t (fun h => ?_) (fun h => ?_) | refine gd_f (fun h => ?_) (fun h => ?_))) <;> (have hb := h; (try simp only [decide_eq_true_eq, decide_eq_false_iff_not, Int.not_lt, Int.not_le, ge_iff_le, gt_iff_lt, Bool.not_eq_true', Bool.not_eq_false', beq_iff_eq, bne_iff_ne, beq_eq_false_iff_ne, bne_eq_false_iff_eq, Int.ofNat_lt, Int.ofNat_le] at h); simp (disch := omega) only [go_sem, hE, hH, ↓reduceIte, hb]; (try clear hb))) | ((with_reducible refine And.intro ?_ ?_); · omega) | (refine ok_view ?_; simp (disch := omega) only [go_sem, hE, hH, ↓reduceIte]; refine cvA (DrawFindRing_ok vm hm) ?_; refine aftV_intro ?_; rintro _ _ ⟨g', rfl, g1', g2'⟩; simp (disch := omega) only [go_sem, hE, hH, ↓reduceIte]) | (refine jn _ ?_ ?_) | (with_reducible refine both ?_ ?_) | (with_reducible refine And.intro ?_ ?_) | (refine fin_eq ?_; (try (simp (disch := omega) only [go_sem, hE, hH, ↓reduceIte])); first | done | rfl) | (simp (disch := omega) only [go_sem, hE, hH, ↓reduceIte]) | (exact (noMLL_set (by simp only [go_sem, hE, hH, ↓reduceIte]) (by simp only [go_sem, hE, hH, ↓reduceIte])).2 trivial) | (exact (pk_set (by simp only [go_sem, hE, hH, ↓reduceIte]) (by simp only [go_sem, hE, hH, ↓reduceIte])).2 trivial) | (simp only [go_sem, hE, hH, ↓reduceIte]) | fail)
        refine loopNe g'.length (fun k (el : List (List Int)) => ⟨[(13, .ref 14000000 0 el.length), (90, .ref 91000000 0 g'.length), (91, i64 g'.length), (92, i64 k)], [(14000000, ⟨1, grO el⟩), (91000000, ⟨1, grO g'⟩)]⟩) (fun k el => el = (List.range k).map fun i => eldR (nth g' i) i) [] rfl rfl ?_
        intro k el hk hI
        have hel : el.length = k := by rw [hI]; simp
        try simp only [go_sem, hE, hH, ↓reduceIte, c_laws_FnRings_l3]
        first | refine gd_t (fun q1 => ?_) (fun q1 => ?_) | refine gd_f (fun q1 => ?_) (fun q1 => ?_)
        · have hb1 := q1
          simp only [decide_eq_true_eq, decide_eq_false_iff_not, Int.not_lt, Int.not_le, ge_iff_le, gt_iff_lt, Bool.not_eq_true', Bool.not_eq_false', beq_iff_eq, bne_iff_ne, beq_eq_false_iff_ne, bne_eq_false_iff_eq, Int.ofNat_lt, Int.ofNat_le] at q1
          have hyk := (g2' _ (nth_mem q1)).1
          have hgs := grO_same q1
          try simp (disch := omega) only [go_sem, hE, hH, ↓reduceIte, hb1]
          repeat' (first | ((with_reducible (first | refine gd_t (fun h => ?_) (fun h => ?_) | refine gd_f (fun h => ?_) (fun h => ?_))) <;> (have hb := h; (try simp only [decide_eq_true_eq, decide_eq_false_iff_not, Int.not_lt, Int.not_le, ge_iff_le, gt_iff_lt, Bool.not_eq_true', Bool.not_eq_false', beq_iff_eq, bne_iff_ne, beq_eq_false_iff_ne, bne_eq_false_iff_eq, Int.ofNat_lt, Int.ofNat_le] at h); simp (disch := omega) only [go_sem, hE, hH, ↓reduceIte, hb]; (try clear hb))) | ((with_reducible refine And.intro ?_ ?_); · omega) | (refine jn _ ?_ ?_) | (with_reducible refine both ?_ ?_) | (with_reducible refine And.intro ?_ ?_) | (refine fin_eq ?_; (try (simp (disch := omega) only [go_sem, hE, hH, ↓reduceIte])); first | done | rfl) | (simp (disch := omega) only [go_sem, hE, hH, ↓reduceIte]) | (exact (noMLL_set (by simp only [go_sem, hE, hH, ↓reduceIte]) (by simp only [go_sem, hE, hH, ↓reduceIte])).2 trivial) | (exact (pk_set (by simp only [go_sem, hE, hH, ↓reduceIte]) (by simp only [go_sem, hE, hH, ↓reduceIte])).2 trivial) | (simp only [go_sem, hE, hH, ↓reduceIte]) | fail)
          refine loopNe (nth g' k).length (fun i (y : List Int) => ⟨[(13, .ref 14000000 0 el.length), (14, i64 k), (16, .ref 17000000 0 y.length), (90, .ref 91000000 0 g'.length), (91, i64 g'.length), (92, i64 k), (97, .ref 98000000 0 (nth g' k).length), (98, i64 (nth g' k).length), (99, i64 i)], [(14000000, ⟨1, grO el⟩), (17000000, ⟨1, ints y⟩), (91000000, ⟨1, (grO g').set k [.ref 98000000 0 (nth g' k).length]⟩), (98000000, ⟨1, ints (nth g' k)⟩)]⟩) (fun i y => y = eldR ((nth g' k).take i) k) [] rfl rfl ?_
          intro i y hi hJ
          have hyl : y.length ≤ 3 := by
            rw [hJ]
            have h1 : (eldR ((nth g' k).take i) k).length ≤ ((nth g' k).take i).length := List.length_filter_le ..
            have h2 : ((nth g' k).take i).length ≤ (nth g' k).length := by rw [List.length_take]; omega
            omega
          try simp only [go_sem, hE, hH, ↓reduceIte, c_laws_FnRings_l2]
          first | refine gd_t (fun q3 => ?_) (fun q3 => ?_) | refine gd_f (fun q3 => ?_) (fun q3 => ?_)
          · have hb3 := q3
            simp only [decide_eq_true_eq, decide_eq_false_iff_not, Int.not_lt, Int.not_le, ge_iff_le, gt_iff_lt, Bool.not_eq_true', Bool.not_eq_false', beq_iff_eq, bne_iff_ne, beq_eq_false_iff_ne, bne_eq_false_iff_eq, Int.ofNat_lt, Int.ofNat_le] at q3
            have hs : eldR ((nth g' k).take (i + 1)) k = if 0 ≤ nth (nth g' k) i ∧ nth (nth g' k) i < k then y ++ [nth (nth g' k) i] else y := by
              rw [hJ, eldR, take_nth q3, List.filter_append]
              by_cases hc : 0 ≤ nth (nth g' k) i ∧ nth (nth g' k) i < k
              · rw [if_pos hc]; simp [hc, eldR]
              · rw [if_neg hc]; simp [eldR]; omega
            try simp (disch := omega) only [go_sem, hE, hH, ↓reduceIte, hb3]
            repeat' (first | ((with_reducible (first | refine gd_t (fun h => ?_) (fun h => ?_) | refine gd_f (fun h => ?_) (fun h => ?_))) <;> (have hb := h; (try simp only [decide_eq_true_eq, decide_eq_false_iff_not, Int.not_lt, Int.not_le, ge_iff_le, gt_iff_lt, Bool.not_eq_true', Bool.not_eq_false', beq_iff_eq, bne_iff_ne, beq_eq_false_iff_ne, bne_eq_false_iff_eq, Int.ofNat_lt, Int.ofNat_le] at h); simp (disch := omega) only [go_sem, hE, hH, ↓reduceIte, hb]; (try clear hb))) | ((with_reducible refine And.intro ?_ ?_); · omega) | (refine jn _ ?_ ?_) | (with_reducible refine both ?_ ?_) | (with_reducible refine And.intro ?_ ?_) | (refine fin_eq ?_; (try (simp (disch := omega) only [go_sem, hE, hH, ↓reduceIte])); first | done | rfl) | (simp (disch := omega) only [go_sem, hE, hH, ↓reduceIte]) | (exact (noMLL_set (by simp only [go_sem, hE, hH, ↓reduceIte]) (by simp only [go_sem, hE, hH, ↓reduceIte])).2 trivial) | (exact (pk_set (by simp only [go_sem, hE, hH, ↓reduceIte]) (by simp only [go_sem, hE, hH, ↓reduceIte])).2 trivial) | (simp only [go_sem, hE, hH, ↓reduceIte]) | fail)
            all_goals (rw [hs]; first | (rw [if_pos (by omega)]; simp [ints]; done) | (rw [if_neg (by omega)]; rfl))
          · have q4 := q3
            simp only [decide_eq_true_eq, decide_eq_false_iff_not, Int.not_lt, Int.not_le, ge_iff_le, gt_iff_lt, Bool.not_eq_true', Bool.not_eq_false', beq_iff_eq, bne_iff_ne, beq_eq_false_iff_ne, bne_eq_false_iff_eq, Int.ofNat_lt, Int.ofNat_le] at q4
            rw [List.take_of_length_le (by omega)] at hJ
            have hnx : (List.range k ++ [k]).map (fun i => eldR (nth g' i) i) = el ++ [y] := by
              rw [List.map_append, ← hI, hJ]; rfl
            try simp (disch := omega) only [go_sem, hE, hH, ↓reduceIte, q3]
            repeat' (first | ((with_reducible (first | refine gd_t (fun h => ?_) (fun h => ?_) | refine gd_f (fun h => ?_) (fun h => ?_))) <;> (have hb := h; (try simp only [decide_eq_true_eq, decide_eq_false_iff_not, Int.not_lt, Int.not_le, ge_iff_le, gt_iff_lt, Bool.not_eq_true', Bool.not_eq_false', beq_iff_eq, bne_iff_ne, beq_eq_false_iff_ne, bne_eq_false_iff_eq, Int.ofNat_lt, Int.ofNat_le] at h); simp (disch := omega) only [go_sem, hE, hH, ↓reduceIte, hb]; (try clear hb))) | ((with_reducible refine And.intro ?_ ?_); · omega) | (refine jn _ ?_ ?_) | (with_reducible refine both ?_ ?_) | (with_reducible refine And.intro ?_ ?_) | (refine fin_eq ?_; (try (simp (disch := omega) only [go_sem, hE, hH, ↓reduceIte])); first | done | rfl) | (simp (disch := omega) only [go_sem, hE, hH, ↓reduceIte]) | (exact (noMLL_set (by simp only [go_sem, hE, hH, ↓reduceIte]) (by simp only [go_sem, hE, hH, ↓reduceIte])).2 trivial) | (exact (pk_set (by simp only [go_sem, hE, hH, ↓reduceIte]) (by simp only [go_sem, hE, hH, ↓reduceIte])).2 trivial) | (simp only [go_sem, hE, hH, ↓reduceIte]) | fail)
            rw [hnx, hgs]
            simp [hel]
        · have q2 := q1
          simp only [decide_eq_true_eq, decide_eq_false_iff_not, Int.not_lt, Int.not_le, ge_iff_le, gt_iff_lt, Bool.not_eq_true', Bool.not_eq_false', beq_iff_eq, bne_iff_ne, beq_eq_false_iff_ne, bne_eq_false_iff_eq, Int.ofNat_lt, Int.ofNat_le] at q2
          have hn : ∀ v : Nat, v < el.length → nth el v = eldR (nth g' v) v := by
            intro v hv
            rw [hI, nth_lt (by simp; omega)]
            simp
          have e : (ringR el).2 = false := by
            cases h9 : goodG el
            · rw [ringR_bad h9]
            · rw [ringR_no h9 fun v hv => elder_dl fun u hu w hw => eldR_in w (by rw [← hn u hu]; exact hw)]
          have hlen : ∀ i, (nth el i).length ≤ maxLen := by
            intro i
            by_cases hi : i < el.length
            · rw [hn i hi]
              have h1 : (eldR (nth g' i) i).length ≤ (nth g' i).length := List.length_filter_le ..
              have := (g2' _ (nth_mem (show i < g'.length by omega))).1
              omega
            · have : nth el i = [] := by simp [nth, hi]; rfl
              rw [this]; simp
          have hF := FindRing_ok el (by omega) hlen
          simp only [e] at hF
          try simp (disch := omega) only [go_sem, hE, hH, ↓reduceIte, q1]
          repeat' (first | ((with_reducible (first | refine gd_t (fun h => ?_) (fun h => ?_) | refine gd_f (fun h => ?_) (fun h => ?_))) <;> (have hb := h; (try simp only [decide_eq_true_eq, decide_eq_false_iff_not, Int.not_lt, Int.not_le, ge_iff_le, gt_iff_lt, Bool.not_eq_true', Bool.not_eq_false', beq_iff_eq, bne_iff_ne, beq_eq_false_iff_ne, bne_eq_false_iff_eq, Int.ofNat_lt, Int.ofNat_le] at h); simp (disch := omega) only [go_sem, hE, hH, ↓reduceIte, hb]; (try clear hb))) | ((with_reducible refine And.intro ?_ ?_); · omega) | (refine ok_view ?_; simp (disch := omega) only [go_sem, hE, hH, ↓reduceIte]) | (refine cvA (hF) ?_; simp (disch := omega) only [go_sem, hE, hH, ↓reduceIte]) | (refine jn _ ?_ ?_) | (with_reducible refine both ?_ ?_) | (with_reducible refine And.intro ?_ ?_) | (refine fin_eq ?_; (try (simp (disch := omega) only [go_sem, hE, hH, ↓reduceIte])); first | done | rfl) | (simp (disch := omega) only [go_sem, hE, hH, ↓reduceIte]) | (exact (noMLL_set (by simp only [go_sem, hE, hH, ↓reduceIte]) (by simp only [go_sem, hE, hH, ↓reduceIte])).2 trivial) | (exact (pk_set (by simp only [go_sem, hE, hH, ↓reduceIte]) (by simp only [go_sem, hE, hH, ↓reduceIte])).2 trivial) | (simp only [go_sem, hE, hH, ↓reduceIte]) | fail)
  · refine fn_in h_laws_FnRings r_laws_FnRings ⟨by simp only [go_sem, ↓reduceIte], fun E hE hH => ?_⟩; simp only [go_sem, ↓reduceIte] at hE hH; simp only [go_sem, hE, hH, ↓reduceIte, c_laws_FnRings]
    repeat' (first | ((with_reducible (first | refine gd_t (fun h => ?_) (fun h => ?_) | refine gd_f (fun h => ?_) (fun h => ?_))) <;> (have hb := h; (try simp only [decide_eq_true_eq, decide_eq_false_iff_not, Int.not_lt, Int.not_le, ge_iff_le, gt_iff_lt, Bool.not_eq_true', Bool.not_eq_false', beq_iff_eq, bne_iff_ne, beq_eq_false_iff_ne, bne_eq_false_iff_eq, Int.ofNat_lt, Int.ofNat_le] at h); simp (disch := omega) only [go_sem, hE, hH, ↓reduceIte, hB, hb]; (try clear hb))) | ((with_reducible refine And.intro ?_ ?_); · omega) | (refine ok_view ?_; simp (disch := omega) only [go_sem, hE, hH, ↓reduceIte, hB]) | (refine cvA (big_ok vc vm wc.1 wm.1) ?_; simp (disch := omega) only [go_sem, hE, hH, ↓reduceIte, hB]) | (refine jn _ ?_ ?_) | (with_reducible refine both ?_ ?_) | (with_reducible refine And.intro ?_ ?_) | (refine fin_eq ?_; (try (simp (disch := omega) only [go_sem, hE, hH, ↓reduceIte, hB])); first | done | rfl) | (simp (disch := omega) only [go_sem, hE, hH, ↓reduceIte, hB]) | (exact (noMLL_set (by simp only [go_sem, hE, hH, ↓reduceIte, hB]) (by simp only [go_sem, hE, hH, ↓reduceIte, hB])).2 trivial) | (exact (pk_set (by simp only [go_sem, hE, hH, ↓reduceIte, hB]) (by simp only [go_sem, hE, hH, ↓reduceIte, hB])).2 trivial) | (simp only [go_sem, hE, hH, ↓reduceIte, hB]) | fail)

end Go.Proofs.Wb

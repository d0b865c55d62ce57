/- Contracts of functions. -/
import Derived.Test.YtjdnnijmpnokaaaFnSentK3
import Derived.Laws.Externs
set_option linter.unusedSimpArgs false
set_option linter.unusedVariables false
set_option linter.unusedSectionVars false
namespace Go.Proofs.Wb
open Go Go.Am
def vatF (c : List Int) (i : Int) : Int := if i < c.length then nth c i.toNat else (i * 7 + c.length).tmod 256
theorem vatF_rng {c : List Int} (hc : isB c) {i : Int} (h0 : 0 ≤ i) (h1 : i ≤ 1000) : 0 ≤ vatF c i ∧ vatF c i < 256 := by
  unfold vatF
  split
  · exact hc.2 _ (nth_mem (by omega))
  · exact ⟨Int.tmod_nonneg _ (by omega), Int.tmod_lt_of_pos _ (by omega)⟩
theorem vAt_ok (c : List Int) (hc : isB c) (i : Int) (h0 : 0 ≤ i) (h1 : i ≤ 1000) : ACall Try.prog n_laws_vAt [.sl false 1 (bys c), i64 i] (fun r _ => r = i64 (vatF c i)) := by
  have hmx := mx_eq
  have hcl := hc.1
  by_cases h : i < c.length
  · have hb := hc.2 _ (nth_mem (show i.toNat < c.length by omega))
    have e : vatF c i = nth c i.toNat := if_pos h
    refine fn_in h_laws_vAt r_laws_vAt ⟨by simp only [go_sem, ↓reduceIte], fun E hE hH => ?_⟩; simp only [go_sem, ↓reduceIte] at hE hH; simp only [go_sem, hE, hH, ↓reduceIte, c_laws_vAt]
    repeat' (first | ((with_reducible (first | refine gd_t (fun h => ?_) (fun h => ?_) | refine gd_f (fun h => ?_) (fun h => ?_))) <;> (have hb := h; (try simp only [decide_eq_true_eq, decide_eq_false_iff_not, Int.not_lt, Int.not_le, ge_iff_le, gt_iff_lt, Bool.not_eq_true', Bool.not_eq_false', beq_iff_eq, bne_iff_ne, beq_eq_false_iff_ne, bne_eq_false_iff_eq, Int.ofNat_lt, Int.ofNat_le] at h); simp (disch := omega) only [go_sem, hE, hH, ↓reduceIte, e, hb]; (try clear hb))) | ((with_reducible refine And.intro ?_ ?_); · omega) | (with_reducible apply jn) | (with_reducible apply both) | (with_reducible refine And.intro ?_ ?_) | ((with_reducible apply fin_eq); (try (simp (disch := omega) only [go_sem, hE, hH, ↓reduceIte, e])); first | done | rfl) | (simp (disch := omega) only [go_sem, hE, hH, ↓reduceIte, e]) | (exact (noMLL_set (by simp only [go_sem, hE, hH, ↓reduceIte, e]) (by simp only [go_sem, hE, hH, ↓reduceIte, e])).2 trivial) | (exact (pk_set (by simp only [go_sem, hE, hH, ↓reduceIte, e]) (by simp only [go_sem, hE, hH, ↓reduceIte, e])).2 trivial) | (simp only [go_sem, hE, hH, ↓reduceIte, e]) | fail)
    all_goals first | omega | (exfalso; omega) | decide
  · have e : vatF c i = (i * 7 + c.length).tmod 256 := if_neg h
    refine fn_in h_laws_vAt r_laws_vAt ⟨by simp only [go_sem, ↓reduceIte], fun E hE hH => ?_⟩; simp only [go_sem, ↓reduceIte] at hE hH; simp only [go_sem, hE, hH, ↓reduceIte, c_laws_vAt]
    repeat' (first | ((with_reducible (first | refine gd_t (fun h => ?_) (fun h => ?_) | refine gd_f (fun h => ?_) (fun h => ?_))) <;> (have hb := h; (try simp only [decide_eq_true_eq, decide_eq_false_iff_not, Int.not_lt, Int.not_le, ge_iff_le, gt_iff_lt, Bool.not_eq_true', Bool.not_eq_false', beq_iff_eq, bne_iff_ne, beq_eq_false_iff_ne, bne_eq_false_iff_eq, Int.ofNat_lt, Int.ofNat_le] at h); simp (disch := omega) only [go_sem, hE, hH, ↓reduceIte, e, hb]; (try clear hb))) | ((with_reducible refine And.intro ?_ ?_); · omega) | (with_reducible apply jn) | (with_reducible apply both) | (with_reducible refine And.intro ?_ ?_) | ((with_reducible apply fin_eq); (try (simp (disch := omega) only [go_sem, hE, hH, ↓reduceIte, e])); first | done | rfl) | (simp (disch := omega) only [go_sem, hE, hH, ↓reduceIte, e]) | (exact (noMLL_set (by simp only [go_sem, hE, hH, ↓reduceIte, e]) (by simp only [go_sem, hE, hH, ↓reduceIte, e])).2 trivial) | (exact (pk_set (by simp only [go_sem, hE, hH, ↓reduceIte, e]) (by simp only [go_sem, hE, hH, ↓reduceIte, e])).2 trivial) | (simp only [go_sem, hE, hH, ↓reduceIte, e]) | fail)
    all_goals first | omega | (exfalso; omega) | decide
theorem vInts_ok (a : List Int) (hl : a.length ≤ maxLen) : ACall Try.prog n_laws_vInts [.sl false 1 (ints a), .sl false 1 (ints a)] (fun r _ => r = bl true) := by
  have hmx := mx_eq
  refine fn_in h_laws_vInts r_laws_vInts ⟨by simp only [go_sem, ↓reduceIte], fun E hE hH => ?_⟩; simp only [go_sem, ↓reduceIte] at hE hH; simp only [go_sem, hE, hH, ↓reduceIte, c_laws_vInts]
  repeat' (first | ((with_reducible (first | refine gd_t (fun h => ?_) (fun h => ?_) | refine gd_f (fun h => ?_) (fun h => ?_))) <;> (have hb := h; (try simp only [decide_eq_true_eq, decide_eq_false_iff_not, Int.not_lt, Int.not_le, ge_iff_le, gt_iff_lt, Bool.not_eq_true', Bool.not_eq_false', beq_iff_eq, bne_iff_ne, beq_eq_false_iff_ne, bne_eq_false_iff_eq, Int.ofNat_lt, Int.ofNat_le] at h); simp (disch := omega) only [go_sem, hE, hH, ↓reduceIte, hb]; (try clear hb))) | ((with_reducible refine And.intro ?_ ?_); · omega) | (refine jn _ ?_ ?_) | (with_reducible refine both ?_ ?_) | (with_reducible refine And.intro ?_ ?_) | (refine fin_eq ?_; (try (simp (disch := omega) only [go_sem, hE, hH, ↓reduceIte])); first | done | rfl) | (simp (disch := omega) only [go_sem, hE, hH, ↓reduceIte]) | (exact (noMLL_set (by simp only [go_sem, hE, hH, ↓reduceIte]) (by simp only [go_sem, hE, hH, ↓reduceIte])).2 trivial) | (exact (pk_set (by simp only [go_sem, hE, hH, ↓reduceIte]) (by simp only [go_sem, hE, hH, ↓reduceIte])).2 trivial) | (simp only [go_sem, hE, hH, ↓reduceIte]) | fail)
  refine loopNe a.length (fun j (_ : Unit) => ⟨[(0, .sl false 1 (ints a)), (1, .sl false 1 (ints a)), (5, i64 j)], []⟩) (fun j _ => True) () rfl trivial ?_
  intro j _ hj _
  try simp only [go_sem, hE, hH, ↓reduceIte, c_laws_vInts_l1]
  first | refine gd_t (fun q1 => ?_) (fun q1 => ?_) | refine gd_f (fun q1 => ?_) (fun q1 => ?_)
  · have hb1 := q1
    simp only [decide_eq_true_eq, decide_eq_false_iff_not, Int.not_lt, Int.not_le, ge_iff_le, gt_iff_lt, Bool.not_eq_true', Bool.not_eq_false', beq_iff_eq, bne_iff_ne, beq_eq_false_iff_ne, bne_eq_false_iff_eq, Int.ofNat_lt, Int.ofNat_le] at q1
    try simp (disch := omega) only [go_sem, hE, hH, ↓reduceIte, hb1]
    repeat' (first | ((with_reducible (first | refine gd_t (fun h => ?_) (fun h => ?_) | refine gd_f (fun h => ?_) (fun h => ?_))) <;> (have hb := h; (try simp only [decide_eq_true_eq, decide_eq_false_iff_not, Int.not_lt, Int.not_le, ge_iff_le, gt_iff_lt, Bool.not_eq_true', Bool.not_eq_false', beq_iff_eq, bne_iff_ne, beq_eq_false_iff_ne, bne_eq_false_iff_eq, Int.ofNat_lt, Int.ofNat_le] at h); simp (disch := omega) only [go_sem, hE, hH, ↓reduceIte, hb]; (try clear hb))) | ((with_reducible refine And.intro ?_ ?_); · omega) | (refine jn _ ?_ ?_) | (with_reducible refine both ?_ ?_) | (with_reducible refine And.intro ?_ ?_) | (refine fin_eq ?_; (try (simp (disch := omega) only [go_sem, hE, hH, ↓reduceIte])); first | done | rfl) | (simp (disch := omega) only [go_sem, hE, hH, ↓reduceIte]) | (exact (noMLL_set (by simp only [go_sem, hE, hH, ↓reduceIte]) (by simp only [go_sem, hE, hH, ↓reduceIte])).2 trivial) | (exact (pk_set (by simp only [go_sem, hE, hH, ↓reduceIte]) (by simp only [go_sem, hE, hH, ↓reduceIte])).2 trivial) | (simp only [go_sem, hE, hH, ↓reduceIte]) | fail)
    all_goals exact ⟨(), rfl⟩
  · try simp (disch := omega) only [go_sem, hE, hH, ↓reduceIte, q1]
    repeat' (first | ((with_reducible (first | refine gd_t (fun h => ?_) (fun h => ?_) | refine gd_f (fun h => ?_) (fun h => ?_))) <;> (have hb := h; (try simp only [decide_eq_true_eq, decide_eq_false_iff_not, Int.not_lt, Int.not_le, ge_iff_le, gt_iff_lt, Bool.not_eq_true', Bool.not_eq_false', beq_iff_eq, bne_iff_ne, beq_eq_false_iff_ne, bne_eq_false_iff_eq, Int.ofNat_lt, Int.ofNat_le] at h); simp (disch := omega) only [go_sem, hE, hH, ↓reduceIte, hb]; (try clear hb))) | ((with_reducible refine And.intro ?_ ?_); · omega) | (refine jn _ ?_ ?_) | (with_reducible refine both ?_ ?_) | (with_reducible refine And.intro ?_ ?_) | (refine fin_eq ?_; (try (simp (disch := omega) only [go_sem, hE, hH, ↓reduceIte])); first | done | rfl) | (simp (disch := omega) only [go_sem, hE, hH, ↓reduceIte]) | (exact (noMLL_set (by simp only [go_sem, hE, hH, ↓reduceIte]) (by simp only [go_sem, hE, hH, ↓reduceIte])).2 trivial) | (exact (pk_set (by simp only [go_sem, hE, hH, ↓reduceIte]) (by simp only [go_sem, hE, hH, ↓reduceIte])).2 trivial) | (simp only [go_sem, hE, hH, ↓reduceIte]) | fail)
theorem vLetters_ok (a : List Letter) (hl : a.length ≤ maxLen) : ACall Try.prog n_laws_vLetters [.sl false 4 (a.map (Letter.row false)), .sl false 4 (a.map (Letter.row false))] (fun r _ => r = bl true) := by
  have hmx := mx_eq
  refine fn_in h_laws_vLetters r_laws_vLetters ⟨by simp only [go_sem, ↓reduceIte], fun E hE hH => ?_⟩; simp only [go_sem, ↓reduceIte] at hE hH; simp only [go_sem, hE, hH, ↓reduceIte, c_laws_vLetters]
  repeat' (first | ((with_reducible (first | refine gd_t (fun h => ?_) (fun h => ?_) | refine gd_f (fun h => ?_) (fun h => ?_))) <;> (have hb := h; (try simp only [decide_eq_true_eq, decide_eq_false_iff_not, Int.not_lt, Int.not_le, ge_iff_le, gt_iff_lt, Bool.not_eq_true', Bool.not_eq_false', beq_iff_eq, bne_iff_ne, beq_eq_false_iff_ne, bne_eq_false_iff_eq, Int.ofNat_lt, Int.ofNat_le] at h); simp (disch := omega) only [go_sem, hE, hH, ↓reduceIte, hb]; (try clear hb))) | ((with_reducible refine And.intro ?_ ?_); · omega) | (refine jn _ ?_ ?_) | (with_reducible refine both ?_ ?_) | (with_reducible refine And.intro ?_ ?_) | (refine fin_eq ?_; (try (simp (disch := omega) only [go_sem, hE, hH, ↓reduceIte])); first | done | rfl) | (simp (disch := omega) only [go_sem, hE, hH, ↓reduceIte]) | (exact (noMLL_set (by simp only [go_sem, hE, hH, ↓reduceIte]) (by simp only [go_sem, hE, hH, ↓reduceIte])).2 trivial) | (exact (pk_set (by simp only [go_sem, hE, hH, ↓reduceIte]) (by simp only [go_sem, hE, hH, ↓reduceIte])).2 trivial) | (simp only [go_sem, hE, hH, ↓reduceIte]) | fail)
  refine loopNe a.length (fun j (_ : Unit) => ⟨[(0, .sl false 4 (a.map (Letter.row false))), (1, .sl false 4 (a.map (Letter.row false))), (5, i64 j)], []⟩) (fun j _ => True) () rfl trivial ?_
  intro j _ hj _
  try simp only [go_sem, hE, hH, ↓reduceIte, c_laws_vLetters_l1]
  first | refine gd_t (fun q1 => ?_) (fun q1 => ?_) | refine gd_f (fun q1 => ?_) (fun q1 => ?_)
  · have hb1 := q1
    simp only [decide_eq_true_eq, decide_eq_false_iff_not, Int.not_lt, Int.not_le, ge_iff_le, gt_iff_lt, Bool.not_eq_true', Bool.not_eq_false', beq_iff_eq, bne_iff_ne, beq_eq_false_iff_ne, bne_eq_false_iff_eq, Int.ofNat_lt, Int.ofNat_le] at q1
    try simp (disch := omega) only [go_sem, hE, hH, ↓reduceIte, hb1]
    repeat' (first | ((with_reducible (first | refine gd_t (fun h => ?_) (fun h => ?_) | refine gd_f (fun h => ?_) (fun h => ?_))) <;> (have hb := h; (try simp only [decide_eq_true_eq, decide_eq_false_iff_not, Int.not_lt, Int.not_le, ge_iff_le, gt_iff_lt, Bool.not_eq_true', Bool.not_eq_false', beq_iff_eq, bne_iff_ne, beq_eq_false_iff_ne, bne_eq_false_iff_eq, Int.ofNat_lt, Int.ofNat_le] at h); simp (disch := omega) only [go_sem, hE, hH, ↓reduceIte, hb]; (try clear hb))) | ((with_reducible refine And.intro ?_ ?_); · omega) | (refine jn _ ?_ ?_) | (with_reducible refine both ?_ ?_) | (with_reducible refine And.intro ?_ ?_) | (refine fin_eq ?_; (try (simp (disch := omega) only [go_sem, hE, hH, ↓reduceIte])); first | done | rfl) | (simp (disch := omega) only [go_sem, hE, hH, ↓reduceIte]) | (exact (noMLL_set (by simp only [go_sem, hE, hH, ↓reduceIte]) (by simp only [go_sem, hE, hH, ↓reduceIte])).2 trivial) | (exact (pk_set (by simp only [go_sem, hE, hH, ↓reduceIte]) (by simp only [go_sem, hE, hH, ↓reduceIte])).2 trivial) | (simp only [go_sem, hE, hH, ↓reduceIte]) | fail)
    all_goals exact ⟨(), rfl⟩
  · try simp (disch := omega) only [go_sem, hE, hH, ↓reduceIte, q1]
    repeat' (first | ((with_reducible (first | refine gd_t (fun h => ?_) (fun h => ?_) | refine gd_f (fun h => ?_) (fun h => ?_))) <;> (have hb := h; (try simp only [decide_eq_true_eq, decide_eq_false_iff_not, Int.not_lt, Int.not_le, ge_iff_le, gt_iff_lt, Bool.not_eq_true', Bool.not_eq_false', beq_iff_eq, bne_iff_ne, beq_eq_false_iff_ne, bne_eq_false_iff_eq, Int.ofNat_lt, Int.ofNat_le] at h); simp (disch := omega) only [go_sem, hE, hH, ↓reduceIte, hb]; (try clear hb))) | ((with_reducible refine And.intro ?_ ?_); · omega) | (refine jn _ ?_ ?_) | (with_reducible refine both ?_ ?_) | (with_reducible refine And.intro ?_ ?_) | (refine fin_eq ?_; (try (simp (disch := omega) only [go_sem, hE, hH, ↓reduceIte])); first | done | rfl) | (simp (disch := omega) only [go_sem, hE, hH, ↓reduceIte]) | (exact (noMLL_set (by simp only [go_sem, hE, hH, ↓reduceIte]) (by simp only [go_sem, hE, hH, ↓reduceIte])).2 trivial) | (exact (pk_set (by simp only [go_sem, hE, hH, ↓reduceIte]) (by simp only [go_sem, hE, hH, ↓reduceIte])).2 trivial) | (simp only [go_sem, hE, hH, ↓reduceIte]) | fail)
theorem vNet_ok (n : Net) (h1 : n.Homes.length ≤ maxLen) (h2 : n.Under.length ≤ maxLen) : ACall Try.prog n_laws_vNet [.agg (Net.row false n), .agg (Net.row false n)] (fun r _ => r = bl true) := by
  have hmx := mx_eq
  refine fn_in h_laws_vNet r_laws_vNet ⟨by simp only [go_sem, ↓reduceIte], fun E hE hH => ?_⟩; simp only [go_sem, ↓reduceIte] at hE hH; simp only [go_sem, hE, hH, ↓reduceIte, c_laws_vNet]
  repeat' (first | ((with_reducible (first | refine gd_t (fun h => ?_) (fun h => ?_) | refine gd_f (fun h => ?_) (fun h => ?_))) <;> (have hb := h; (try simp only [decide_eq_true_eq, decide_eq_false_iff_not, Int.not_lt, Int.not_le, ge_iff_le, gt_iff_lt, Bool.not_eq_true', Bool.not_eq_false', beq_iff_eq, bne_iff_ne, beq_eq_false_iff_ne, bne_eq_false_iff_eq, Int.ofNat_lt, Int.ofNat_le] at h); simp (disch := omega) only [go_sem, hE, hH, ↓reduceIte, hb]; (try clear hb))) | ((with_reducible refine And.intro ?_ ?_); · omega) | (refine ok_view ?_; simp (disch := omega) only [go_sem, hE, hH, ↓reduceIte]) | (refine cvA (vInts_ok _ h1) ?_; simp (disch := omega) only [go_sem, hE, hH, ↓reduceIte]) | (refine cvA (vLetters_ok _ h2) ?_; simp (disch := omega) only [go_sem, hE, hH, ↓reduceIte]) | (with_reducible apply jn) | (with_reducible apply both) | (with_reducible refine And.intro ?_ ?_) | ((with_reducible apply fin_eq); (try (simp (disch := omega) only [go_sem, hE, hH, ↓reduceIte])); first | done | rfl) | (simp (disch := omega) only [go_sem, hE, hH, ↓reduceIte]) | (exact (noMLL_set (by simp only [go_sem, hE, hH, ↓reduceIte]) (by simp only [go_sem, hE, hH, ↓reduceIte])).2 trivial) | (exact (pk_set (by simp only [go_sem, hE, hH, ↓reduceIte]) (by simp only [go_sem, hE, hH, ↓reduceIte])).2 trivial) | (simp only [go_sem, hE, hH, ↓reduceIte]) | fail)
def tickN (n : Net) : Net × Bool := if goodNet n && !decide (n.Now = 100000) then (⟨n.Now + 1, n.Homes, n.Far, n.Under⟩, true) else (zeroN, false)
theorem TickNet_ok (n : Net) (hm : n.Homes.length ≤ maxLen) : ACall Try.prog n_impl_TickNet [.agg (Net.row false n)] (fun r _ => r = .tup [.agg (Net.row true (tickN n).1), bl (tickN n).2]) := by
  have hmx := mx_eq
  cases h1 : goodNet n
  · have e : tickN n = (zeroN, false) := by simp [tickN, h1]
    refine fn_in h_impl_TickNet r_impl_TickNet ⟨by simp only [go_sem, ↓reduceIte], fun E hE hH => ?_⟩; simp only [go_sem, ↓reduceIte] at hE hH; simp only [go_sem, hE, hH, ↓reduceIte, c_impl_TickNet]
    repeat' (first | ((with_reducible (first | refine gd_t (fun h => ?_) (fun h => ?_) | refine gd_f (fun h => ?_) (fun h => ?_))) <;> (have hb := h; (try simp only [decide_eq_true_eq, decide_eq_false_iff_not, Int.not_lt, Int.not_le, ge_iff_le, gt_iff_lt, Bool.not_eq_true', Bool.not_eq_false', beq_iff_eq, bne_iff_ne, beq_eq_false_iff_ne, bne_eq_false_iff_eq, Int.ofNat_lt, Int.ofNat_le] at h); simp (disch := omega) only [go_sem, hE, hH, ↓reduceIte, h1, e, hb]; (try clear hb))) | ((with_reducible refine And.intro ?_ ?_); · omega) | (refine ok_view ?_; simp (disch := omega) only [go_sem, hE, hH, ↓reduceIte, h1, e]) | (refine cvA (GoodNet_ok n hm) ?_; simp (disch := omega) only [go_sem, hE, hH, ↓reduceIte, h1, e]) | (with_reducible apply jn) | (with_reducible apply both) | (with_reducible refine And.intro ?_ ?_) | ((with_reducible apply fin_eq); (try (simp (disch := omega) only [go_sem, hE, hH, ↓reduceIte, h1, e])); first | done | rfl) | (simp (disch := omega) only [go_sem, hE, hH, ↓reduceIte, h1, e]) | (exact (noMLL_set (by simp only [go_sem, hE, hH, ↓reduceIte, h1, e]) (by simp only [go_sem, hE, hH, ↓reduceIte, h1, e])).2 trivial) | (exact (pk_set (by simp only [go_sem, hE, hH, ↓reduceIte, h1, e]) (by simp only [go_sem, hE, hH, ↓reduceIte, h1, e])).2 trivial) | (simp only [go_sem, hE, hH, ↓reduceIte, h1, e]) | fail)
    all_goals rfl
  · have hl := goodNet_len h1
    have hw := h1
    simp only [goodNet, Bool.and_eq_true, rng_iff] at hw
    by_cases h2 : n.Now = 100000
    · have e : tickN n = (zeroN, false) := by simp [tickN, h2]
      refine fn_in h_impl_TickNet r_impl_TickNet ⟨by simp only [go_sem, ↓reduceIte], fun E hE hH => ?_⟩; simp only [go_sem, ↓reduceIte] at hE hH; simp only [go_sem, hE, hH, ↓reduceIte, c_impl_TickNet]
      repeat' (first | ((with_reducible (first | refine gd_t (fun h => ?_) (fun h => ?_) | refine gd_f (fun h => ?_) (fun h => ?_))) <;> (have hb := h; (try simp only [decide_eq_true_eq, decide_eq_false_iff_not, Int.not_lt, Int.not_le, ge_iff_le, gt_iff_lt, Bool.not_eq_true', Bool.not_eq_false', beq_iff_eq, bne_iff_ne, beq_eq_false_iff_ne, bne_eq_false_iff_eq, Int.ofNat_lt, Int.ofNat_le] at h); simp (disch := omega) only [go_sem, hE, hH, ↓reduceIte, h1, e, hb]; (try clear hb))) | ((with_reducible refine And.intro ?_ ?_); · omega) | (refine ok_view ?_; simp (disch := omega) only [go_sem, hE, hH, ↓reduceIte, h1, e]) | (refine cvA (GoodNet_ok n hm) ?_; simp (disch := omega) only [go_sem, hE, hH, ↓reduceIte, h1, e]) | (refine cvA (copyNet_ok n (by omega) (by omega)) ?_; simp (disch := omega) only [go_sem, hE, hH, ↓reduceIte, h1, e]) | (with_reducible apply jn) | (with_reducible apply both) | (with_reducible refine And.intro ?_ ?_) | ((with_reducible apply fin_eq); (try (simp (disch := omega) only [go_sem, hE, hH, ↓reduceIte, h1, e])); first | done | rfl) | (simp (disch := omega) only [go_sem, hE, hH, ↓reduceIte, h1, e]) | (exact (noMLL_set (by simp only [go_sem, hE, hH, ↓reduceIte, h1, e]) (by simp only [go_sem, hE, hH, ↓reduceIte, h1, e])).2 trivial) | (exact (pk_set (by simp only [go_sem, hE, hH, ↓reduceIte, h1, e]) (by simp only [go_sem, hE, hH, ↓reduceIte, h1, e])).2 trivial) | (simp only [go_sem, hE, hH, ↓reduceIte, h1, e]) | fail)
      all_goals first | rfl | (exfalso; omega)
    · have e : tickN n = (⟨n.Now + 1, n.Homes, n.Far, n.Under⟩, true) := by simp [tickN, h1, h2]
      refine fn_in h_impl_TickNet r_impl_TickNet ⟨by simp only [go_sem, ↓reduceIte], fun E hE hH => ?_⟩; simp only [go_sem, ↓reduceIte] at hE hH; simp only [go_sem, hE, hH, ↓reduceIte, c_impl_TickNet]
      repeat' (first | ((with_reducible (first | refine gd_t (fun h => ?_) (fun h => ?_) | refine gd_f (fun h => ?_) (fun h => ?_))) <;> (have hb := h; (try simp only [decide_eq_true_eq, decide_eq_false_iff_not, Int.not_lt, Int.not_le, ge_iff_le, gt_iff_lt, Bool.not_eq_true', Bool.not_eq_false', beq_iff_eq, bne_iff_ne, beq_eq_false_iff_ne, bne_eq_false_iff_eq, Int.ofNat_lt, Int.ofNat_le] at h); simp (disch := omega) only [go_sem, hE, hH, ↓reduceIte, h1, e, hb]; (try clear hb))) | ((with_reducible refine And.intro ?_ ?_); · omega) | (refine ok_view ?_; simp (disch := omega) only [go_sem, hE, hH, ↓reduceIte, h1, e]) | (refine cvA (GoodNet_ok n hm) ?_; simp (disch := omega) only [go_sem, hE, hH, ↓reduceIte, h1, e]) | (refine cvA (copyNet_ok n (by omega) (by omega)) ?_; simp (disch := omega) only [go_sem, hE, hH, ↓reduceIte, h1, e]) | (with_reducible apply jn) | (with_reducible apply both) | (with_reducible refine And.intro ?_ ?_) | ((with_reducible apply fin_eq); (try (simp (disch := omega) only [go_sem, hE, hH, ↓reduceIte, h1, e])); first | done | rfl) | (simp (disch := omega) only [go_sem, hE, hH, ↓reduceIte, h1, e]) | (exact (noMLL_set (by simp only [go_sem, hE, hH, ↓reduceIte, h1, e]) (by simp only [go_sem, hE, hH, ↓reduceIte, h1, e])).2 trivial) | (exact (pk_set (by simp only [go_sem, hE, hH, ↓reduceIte, h1, e]) (by simp only [go_sem, hE, hH, ↓reduceIte, h1, e])).2 trivial) | (simp only [go_sem, hE, hH, ↓reduceIte, h1, e]) | fail)
      all_goals (exfalso; omega)
def newN (h : List Int) (f : Int) : Net × Bool := if goodHomes h f then (⟨0, h, f, []⟩, true) else (zeroN, false)
theorem NewNet_ok (h : List Int) (f : Int) (hl : h.length ≤ 2 ^ 20) : ACall Try.prog n_impl_NewNet [.sl false 1 (ints h), i64 f] (fun r _ => r = .tup [.agg (Net.row true (newN h f).1), bl (newN h f).2]) := by
  have hmx := mx_eq
  cases h1 : goodHomes h f
  · have e : newN h f = (zeroN, false) := by simp [newN, h1]
    refine fn_in h_impl_NewNet r_impl_NewNet ⟨by simp only [go_sem, ↓reduceIte], fun E hE hH => ?_⟩; simp only [go_sem, ↓reduceIte] at hE hH; simp only [go_sem, hE, hH, ↓reduceIte, c_impl_NewNet]
    repeat' (first | ((with_reducible (first | refine gd_t (fun h => ?_) (fun h => ?_) | refine gd_f (fun h => ?_) (fun h => ?_))) <;> (have hb := h; (try simp only [decide_eq_true_eq, decide_eq_false_iff_not, Int.not_lt, Int.not_le, ge_iff_le, gt_iff_lt, Bool.not_eq_true', Bool.not_eq_false', beq_iff_eq, bne_iff_ne, beq_eq_false_iff_ne, bne_eq_false_iff_eq, Int.ofNat_lt, Int.ofNat_le] at h); simp (disch := omega) only [go_sem, hE, hH, ↓reduceIte, h1, e, hb]; (try clear hb))) | ((with_reducible refine And.intro ?_ ?_); · omega) | (refine ok_view ?_; simp (disch := omega) only [go_sem, hE, hH, ↓reduceIte, h1, e]) | (refine cvA (areHomes_ok h f (by omega)) ?_; simp (disch := omega) only [go_sem, hE, hH, ↓reduceIte, h1, e]) | (with_reducible apply jn) | (with_reducible apply both) | (with_reducible refine And.intro ?_ ?_) | ((with_reducible apply fin_eq); (try (simp (disch := omega) only [go_sem, hE, hH, ↓reduceIte, h1, e])); first | done | rfl) | (simp (disch := omega) only [go_sem, hE, hH, ↓reduceIte, h1, e]) | (exact (noMLL_set (by simp only [go_sem, hE, hH, ↓reduceIte, h1, e]) (by simp only [go_sem, hE, hH, ↓reduceIte, h1, e])).2 trivial) | (exact (pk_set (by simp only [go_sem, hE, hH, ↓reduceIte, h1, e]) (by simp only [go_sem, hE, hH, ↓reduceIte, h1, e])).2 trivial) | (simp only [go_sem, hE, hH, ↓reduceIte, h1, e]) | fail)
    all_goals rfl
  · have e : newN h f = (⟨0, h, f, []⟩, true) := by simp [newN, h1]
    refine fn_in h_impl_NewNet r_impl_NewNet ⟨by simp only [go_sem, ↓reduceIte], fun E hE hH => ?_⟩; simp only [go_sem, ↓reduceIte] at hE hH; simp only [go_sem, hE, hH, ↓reduceIte, c_impl_NewNet]
    repeat' (first | ((with_reducible (first | refine gd_t (fun h => ?_) (fun h => ?_) | refine gd_f (fun h => ?_) (fun h => ?_))) <;> (have hb := h; (try simp only [decide_eq_true_eq, decide_eq_false_iff_not, Int.not_lt, Int.not_le, ge_iff_le, gt_iff_lt, Bool.not_eq_true', Bool.not_eq_false', beq_iff_eq, bne_iff_ne, beq_eq_false_iff_ne, bne_eq_false_iff_eq, Int.ofNat_lt, Int.ofNat_le] at h); simp (disch := omega) only [go_sem, hE, hH, ↓reduceIte, h1, e, hb]; (try clear hb))) | ((with_reducible refine And.intro ?_ ?_); · omega) | (refine ok_view ?_; simp (disch := omega) only [go_sem, hE, hH, ↓reduceIte, h1, e]) | (refine cvA (areHomes_ok h f (by omega)) ?_; simp (disch := omega) only [go_sem, hE, hH, ↓reduceIte, h1, e]) | (refine cvA (Clone_Int_ok h hl) ?_; simp (disch := omega) only [go_sem, hE, hH, ↓reduceIte, h1, e]) | (with_reducible apply jn) | (with_reducible apply both) | (with_reducible refine And.intro ?_ ?_) | ((with_reducible apply fin_eq); (try (simp (disch := omega) only [go_sem, hE, hH, ↓reduceIte, h1, e])); first | done | rfl) | (simp (disch := omega) only [go_sem, hE, hH, ↓reduceIte, h1, e]) | (exact (noMLL_set (by simp only [go_sem, hE, hH, ↓reduceIte, h1, e]) (by simp only [go_sem, hE, hH, ↓reduceIte, h1, e])).2 trivial) | (exact (pk_set (by simp only [go_sem, hE, hH, ↓reduceIte, h1, e]) (by simp only [go_sem, hE, hH, ↓reduceIte, h1, e])).2 trivial) | (simp only [go_sem, hE, hH, ↓reduceIte, h1, e]) | fail)

theorem sNewNet_ok (h : List Int) (f : Int) (hl : h.length ≤ 2 ^ 20) : ACall Try.prog n_spec_NewNet [.sl false 1 (ints h), i64 f] (fun r _ => r = .tup [.agg (Net.row true (newN h f).1), bl (newN h f).2]) := by
  have hmx := mx_eq
  have hg : goodNet ⟨0, h, f, []⟩ = goodHomes h f := by simp [goodNet, rng, allN]
  cases h1 : goodHomes h f
  · have e : newN h f = (zeroN, false) := by simp [newN, h1]
    refine fn_in h_spec_NewNet r_spec_NewNet ⟨by simp only [go_sem, ↓reduceIte], fun E hE hH => ?_⟩; simp only [go_sem, ↓reduceIte] at hE hH; simp only [go_sem, hE, hH, ↓reduceIte, c_spec_NewNet]
    repeat' (first | ((with_reducible (first | refine gd_t (fun h => ?_) (fun h => ?_) | refine gd_f (fun h => ?_) (fun h => ?_))) <;> (have hb := h; (try simp only [decide_eq_true_eq, decide_eq_false_iff_not, Int.not_lt, Int.not_le, ge_iff_le, gt_iff_lt, Bool.not_eq_true', Bool.not_eq_false', beq_iff_eq, bne_iff_ne, beq_eq_false_iff_ne, bne_eq_false_iff_eq, Int.ofNat_lt, Int.ofNat_le] at h); simp (disch := omega) only [go_sem, hE, hH, ↓reduceIte, h1, e, hg, hb]; (try clear hb))) | ((with_reducible refine And.intro ?_ ?_); · omega) | (refine ok_view ?_; simp (disch := omega) only [go_sem, hE, hH, ↓reduceIte, h1, e, hg]) | (refine cvA (l1Own_ok h hl) ?_; simp (disch := omega) only [go_sem, hE, hH, ↓reduceIte, h1, e, hg]) | (refine cvAn (l7Good_ok ⟨0, h, f, []⟩ (by simp only; omega)) ?_; simp (disch := omega) only [go_sem, hE, hH, ↓reduceIte, h1, e, hg]) | (with_reducible apply jn) | (with_reducible apply both) | (with_reducible refine And.intro ?_ ?_) | ((with_reducible apply fin_eq); (try (simp (disch := omega) only [go_sem, hE, hH, ↓reduceIte, h1, e, hg])); first | done | rfl) | (simp (disch := omega) only [go_sem, hE, hH, ↓reduceIte, h1, e, hg]) | (exact (noMLL_set (by simp only [go_sem, hE, hH, ↓reduceIte, h1, e, hg]) (by simp only [go_sem, hE, hH, ↓reduceIte, h1, e, hg])).2 trivial) | (exact (pk_set (by simp only [go_sem, hE, hH, ↓reduceIte, h1, e, hg]) (by simp only [go_sem, hE, hH, ↓reduceIte, h1, e, hg])).2 trivial) | (simp only [go_sem, hE, hH, ↓reduceIte, h1, e, hg]) | fail)
    all_goals rfl
  · have e : newN h f = (⟨0, h, f, []⟩, true) := by simp [newN, h1]
    refine fn_in h_spec_NewNet r_spec_NewNet ⟨by simp only [go_sem, ↓reduceIte], fun E hE hH => ?_⟩; simp only [go_sem, ↓reduceIte] at hE hH; simp only [go_sem, hE, hH, ↓reduceIte, c_spec_NewNet]
    repeat' (first | ((with_reducible (first | refine gd_t (fun h => ?_) (fun h => ?_) | refine gd_f (fun h => ?_) (fun h => ?_))) <;> (have hb := h; (try simp only [decide_eq_true_eq, decide_eq_false_iff_not, Int.not_lt, Int.not_le, ge_iff_le, gt_iff_lt, Bool.not_eq_true', Bool.not_eq_false', beq_iff_eq, bne_iff_ne, beq_eq_false_iff_ne, bne_eq_false_iff_eq, Int.ofNat_lt, Int.ofNat_le] at h); simp (disch := omega) only [go_sem, hE, hH, ↓reduceIte, h1, e, hg, hb]; (try clear hb))) | ((with_reducible refine And.intro ?_ ?_); · omega) | (refine ok_view ?_; simp (disch := omega) only [go_sem, hE, hH, ↓reduceIte, h1, e, hg]) | (refine cvA (l1Own_ok h hl) ?_; simp (disch := omega) only [go_sem, hE, hH, ↓reduceIte, h1, e, hg]) | (refine cvAn (l7Good_ok ⟨0, h, f, []⟩ (by simp only; omega)) ?_; simp (disch := omega) only [go_sem, hE, hH, ↓reduceIte, h1, e, hg]) | (with_reducible apply jn) | (with_reducible apply both) | (with_reducible refine And.intro ?_ ?_) | ((with_reducible apply fin_eq); (try (simp (disch := omega) only [go_sem, hE, hH, ↓reduceIte, h1, e, hg])); first | done | rfl) | (simp (disch := omega) only [go_sem, hE, hH, ↓reduceIte, h1, e, hg]) | (exact (noMLL_set (by simp only [go_sem, hE, hH, ↓reduceIte, h1, e, hg]) (by simp only [go_sem, hE, hH, ↓reduceIte, h1, e, hg])).2 trivial) | (exact (pk_set (by simp only [go_sem, hE, hH, ↓reduceIte, h1, e, hg]) (by simp only [go_sem, hE, hH, ↓reduceIte, h1, e, hg])).2 trivial) | (simp only [go_sem, hE, hH, ↓reduceIte, h1, e, hg]) | fail)

theorem TripOf_ok (n : Net) (f t : Int) (hm : n.Homes.length ≤ maxLen) (h : goodNet n = true) (hf0 : 0 ≤ f) (hf : f < n.Homes.length) (ht0 : 0 ≤ t) (ht : t < n.Homes.length) : ACall Try.prog n_impl_TripOf [.agg (Net.row false n), i64 f, i64 t] (fun r _ => r = .tup [i64 (tripN n f t), bl true]) := by
  have hmx := mx_eq
  have h1 : rng f 0 ((n.Homes.length : Int) - 1) = true := rng_iff.2 (by omega)
  have h2 : rng t 0 ((n.Homes.length : Int) - 1) = true := rng_iff.2 (by omega)
  refine fn_in h_impl_TripOf r_impl_TripOf ⟨by simp only [go_sem, ↓reduceIte], fun E hE hH => ?_⟩; simp only [go_sem, ↓reduceIte] at hE hH; simp only [go_sem, hE, hH, ↓reduceIte, c_impl_TripOf]
  repeat' (first | ((with_reducible (first | refine gd_t (fun h => ?_) (fun h => ?_) | refine gd_f (fun h => ?_) (fun h => ?_))) <;> (have hb := h; (try simp only [decide_eq_true_eq, decide_eq_false_iff_not, Int.not_lt, Int.not_le, ge_iff_le, gt_iff_lt, Bool.not_eq_true', Bool.not_eq_false', beq_iff_eq, bne_iff_ne, beq_eq_false_iff_ne, bne_eq_false_iff_eq, Int.ofNat_lt, Int.ofNat_le] at h); simp (disch := omega) only [go_sem, hE, hH, ↓reduceIte, h, h1, h2, hb]; (try clear hb))) | ((with_reducible refine And.intro ?_ ?_); · omega) | (refine ok_view ?_; simp (disch := omega) only [go_sem, hE, hH, ↓reduceIte, h, h1, h2]) | (refine cvA (GoodNet_ok n hm) ?_; simp (disch := omega) only [go_sem, hE, hH, ↓reduceIte, h, h1, h2]) | (refine cvA (isNode_ok n _ hm) ?_; simp (disch := omega) only [go_sem, hE, hH, ↓reduceIte, h, h1, h2]) | (refine cvA (trip_ok n f t h hf0 hf ht0 ht) ?_; simp (disch := omega) only [go_sem, hE, hH, ↓reduceIte, h, h1, h2]) | (with_reducible apply jn) | (with_reducible apply both) | (with_reducible refine And.intro ?_ ?_) | ((with_reducible apply fin_eq); (try (simp (disch := omega) only [go_sem, hE, hH, ↓reduceIte, h, h1, h2])); first | done | rfl) | (simp (disch := omega) only [go_sem, hE, hH, ↓reduceIte, h, h1, h2]) | (exact (noMLL_set (by simp only [go_sem, hE, hH, ↓reduceIte, h, h1, h2]) (by simp only [go_sem, hE, hH, ↓reduceIte, h, h1, h2])).2 trivial) | (exact (pk_set (by simp only [go_sem, hE, hH, ↓reduceIte, h, h1, h2]) (by simp only [go_sem, hE, hH, ↓reduceIte, h, h1, h2])).2 trivial) | (simp only [go_sem, hE, hH, ↓reduceIte, h, h1, h2]) | fail)

def sntI (h : List Int) (f : Int) (i : Nat) (j : Int) (n : Net) (s c : Int) : Prop := n.Now = i ∧ n.Homes = h ∧ n.Far = f ∧ goodNet n = true ∧ (∀ x, x ∈ n.Under → (i : Int) + 1 ≤ x.Due ∧ x.Due ≤ 30) ∧ c + n.Under.length = s ∧ 0 ≤ c ∧ s ≤ j ∧ s ≤ 20
theorem laid_mem {u : List Letter} {x y : Letter} (h : y ∈ laidL u x) : y = x ∨ y ∈ u := by
  simp only [laidL, List.mem_append, List.mem_singleton] at h
  rcases h with (h | h) | h
  · exact .inr (List.mem_of_mem_take h)
  · exact .inl h
  · exact .inr (List.mem_of_mem_drop h)
theorem snt_send {h : List Int} {f : Int} {i : Nat} {n : Net} {s c : Int} (hi : i < 20) (hf : f ≤ 5) (hn : sntI h f i i n s c) {a b : Int} (a0 : 0 ≤ a) (a1 : a < h.length) (b0 : 0 ≤ b) (b1 : b < h.length) (hab : a ≠ b) : sendN n a b ⟨⟨[108]⟩⟩ = (withN n (laidL n.Under (sentL n a b ⟨⟨[108]⟩⟩)), true) ∧ sntI h f i (i + 1) (withN n (laidL n.Under (sentL n a b ⟨⟨[108]⟩⟩))) (s + 1) c ∧ 1 ≤ tripN n a b := by
  obtain ⟨n1, n2, n3, n4, n5, n6, n7, n8, n9⟩ := hn
  subst n2
  obtain ⟨t1, t2, t3, t4, t5⟩ := tripN_rng n4 a0 a1 b0 b1
  have hl := goodNet_len n4
  have hm : mostI (nth n.Homes a.toNat - nth n.Homes b.toNat) (0 - (nth n.Homes a.toNat - nth n.Homes b.toNat)) ≤ 2 ∧ 0 ≤ mostI (nth n.Homes a.toNat - nth n.Homes b.toNat) (0 - (nth n.Homes a.toNat - nth n.Homes b.toNat)) := by
    unfold mostI; split <;> omega
  have hf0 : 0 ≤ n.Far := by
    have h4 := n4
    simp only [goodNet, goodHomes, Bool.and_eq_true, rng_iff] at h4
    omega
  have ht : 1 ≤ tripN n a b ∧ tripN n a b ≤ 11 := by
    unfold tripN
    have h1 : 0 ≤ n.Far * mostI (nth n.Homes a.toNat - nth n.Homes b.toNat) (0 - (nth n.Homes a.toNat - nth n.Homes b.toNat)) := Int.mul_nonneg hf0 hm.2
    have h2 : n.Far * mostI (nth n.Homes a.toNat - nth n.Homes b.toNat) (0 - (nth n.Homes a.toNat - nth n.Homes b.toNat)) ≤ 5 * 2 := Int.mul_le_mul (by omega) hm.1 hm.2 (by omega)
    omega
  have hd : (sentL n a b ⟨⟨[108]⟩⟩).Due = i + tripN n a b := by simp only [sentL, n1]
  have hU : n.Under.length ≤ 20 := by omega
  have hg : goodNet (withN n (laidL n.Under (sentL n a b ⟨⟨[108]⟩⟩))) = true := by
    rw [goodNet_laid n4]
    have h1 : letOk n.Homes.length (sentL n a b ⟨⟨[108]⟩⟩) = true := by
      simp only [letOk, Bool.and_eq_true, rng_iff, Bool.not_eq_true', decide_eq_false_iff_not, hd]
      refine ⟨⟨⟨⟨by simp only [sentL]; omega, by simp only [sentL]; omega⟩, hab⟩, by omega⟩, ?_⟩
      have : (sentL n a b ⟨⟨[108]⟩⟩).Body.size = 1 := rfl
      omega
    rw [h1]
    simp; omega
  refine ⟨?_, ⟨n1, rfl, n3, hg, ?_, ?_, n7, by omega, by omega⟩, ht.1⟩
  · have hc : sendC n a b = true := by
      simp only [sendC, Bool.and_eq_true, rng_iff, Bool.not_eq_true', decide_eq_false_iff_not]
      exact ⟨⟨⟨n4, by omega⟩, by omega⟩, hab⟩
    rw [sendN, if_pos hc, ifN, if_pos hg]
  · intro x hx
    rcases laid_mem hx with rfl | hx
    · rw [hd]; omega
    · exact n5 x hx
  · have := laidL_len n.Under (sentL n a b ⟨⟨[108]⟩⟩)
    simp only [withN]
    omega
theorem snt_tick {h : List Int} {f : Int} {i : Nat} {n : Net} {s c : Int} (hi : i < 40) (hn : sntI h f i (i + 1) n s c) : tickN n = (⟨n.Now + 1, n.Homes, n.Far, n.Under⟩, true) ∧ goodNet ⟨n.Now + 1, n.Homes, n.Far, n.Under⟩ = true ∧ (∀ x, x ∈ (deliverN ⟨n.Now + 1, n.Homes, n.Far, n.Under⟩).2.1 → x.Due = n.Now + 1) ∧ (deliverN ⟨n.Now + 1, n.Homes, n.Far, n.Under⟩).2.2 = true ∧ (deliverN ⟨n.Now + 1, n.Homes, n.Far, n.Under⟩).2.1.length ≤ 20 ∧ sntI h f (i + 1) ((i + 1 : Nat) : Int) (deliverN ⟨n.Now + 1, n.Homes, n.Far, n.Under⟩).1 s (c + (deliverN ⟨n.Now + 1, n.Homes, n.Far, n.Under⟩).2.1.length) := by
  obtain ⟨n1, n2, n3, n4, n5, n6, n7, n8, n9⟩ := hn
  have hg : goodNet ⟨n.Now + 1, n.Homes, n.Far, n.Under⟩ = true := by
    have h4 := n4
    simp only [goodNet, Bool.and_eq_true, rng_iff] at h4 ⊢
    exact ⟨⟨⟨by omega, h4.1.1.2⟩, h4.1.2⟩, h4.2⟩
  have hpw : (∀ x ∈ n.Under, letOk n.Homes.length x = true) ∧ n.Under.Pairwise (fun a b => a.Due ≤ b.Due) := by
    have h4 := n4
    rw [goodNet_u] at h4
    simp only [Bool.and_eq_true] at h4
    exact goodU_iff.1 h4.2
  have hp := posL_spec (u := n.Under) (n.Now + 1)
  have hple := posL_le n.Under (n.Now + 1)
  have hc : cutD ⟨n.Now + 1, n.Homes, n.Far, n.Under⟩ = posL n.Under (n.Now + 1) := rfl
  have hD : deliverN ⟨n.Now + 1, n.Homes, n.Far, n.Under⟩ = (⟨n.Now + 1, n.Homes, n.Far, n.Under.drop (posL n.Under (n.Now + 1))⟩, n.Under.take (posL n.Under (n.Now + 1)), true) := by
    rw [deliverN, if_pos hg, hc]; rfl
  rw [hD]
  have htl : (n.Under.take (posL n.Under (n.Now + 1))).length = posL n.Under (n.Now + 1) := by rw [List.length_take]; omega
  refine ⟨by simp [tickN, n4]; omega, hg, fun x hx => ?_, rfl, by simp only; omega, ⟨by simp only; omega, n2, n3, ?_, ?_, ?_, by simp only; omega, by omega, n9⟩⟩
  · obtain ⟨k, h1, h2⟩ := List.getElem_of_mem hx
    have h3 : k < posL n.Under (n.Now + 1) := by rw [htl] at h1; exact h1
    have h4 := hp.1 k h3
    have h5 := (n5 x (List.mem_of_mem_take hx)).1
    have h6 : nth n.Under k = x := by rw [nth_lt (by omega), ← h2]; simp
    rw [h6] at h4
    omega
  · rw [goodNet_u] at hg ⊢
    simp only [Bool.and_eq_true, decide_eq_true_eq] at hg ⊢
    refine ⟨⟨hg.1.1, by simp; omega⟩, goodU_iff.2 ⟨fun x hx => hpw.1 x (List.mem_of_mem_drop hx), hpw.2.sublist (List.drop_sublist ..)⟩⟩
  · intro x hx
    simp only at hx
    have h5 := (n5 x (List.mem_of_mem_drop hx)).2
    obtain ⟨k, h1, h2⟩ := List.getElem_of_mem hx
    have h3 : posL n.Under (n.Now + 1) + k < n.Under.length := by simp at h1; omega
    have h4 := hp.2 (by omega)
    have h6 : nth n.Under (posL n.Under (n.Now + 1) + k) = x := by rw [nth_lt h3, ← h2]; simp
    have h7 : (nth n.Under (posL n.Under (n.Now + 1))).Due ≤ (nth n.Under (posL n.Under (n.Now + 1) + k)).Due := by
      by_cases hk : k = 0
      · subst hk; exact Int.le_refl _
      · rw [nth_lt (by omega), nth_lt h3]
        exact List.pairwise_iff_getElem.1 hpw.2 _ _ (by omega) h3 (by omega)
    rw [h6] at h7
    omega
  · simp only [htl, List.length_drop]; omega
theorem snt_mid {h : List Int} {f : Int} {i : Nat} {n : Net} {s c : Int} (hn : sntI h f i i n s c) : sntI h f i (i + 1) n s c := by
  obtain ⟨n1, n2, n3, n4, n5, n6, n7, n8, n9⟩ := hn
  exact ⟨n1, n2, n3, n4, n5, n6, n7, by omega, n9⟩
theorem snt_len {h : List Int} {f : Int} {i : Nat} {j : Int} {n : Net} {s c : Int} (hn : sntI h f i j n s c) : n.Homes = h ∧ goodNet n = true ∧ n.Homes.length ≤ 5 ∧ n.Under.length ≤ 60 ∧ 0 ≤ s ∧ s ≤ 20 ∧ 0 ≤ c ∧ c ≤ 20 := by
  obtain ⟨n1, n2, n3, n4, n5, n6, n7, n8, n9⟩ := hn
  have := goodNet_len n4
  refine ⟨n2, n4, this.1, this.2, by omega, n9, n7, by omega⟩
theorem snt_round {h : List Int} {f : Int} {i : Nat} {n : Net} {s c : Int} (hi : i < 40) (hn : sntI h f i (i + 1) n s c) : ∃ t d l, tickN n = (t, true) ∧ goodNet t = true ∧ t.Homes = h ∧ t.Under.length ≤ 60 ∧ deliverN t = (d, l, true) ∧ (∀ x, x ∈ l → x.Due = t.Now) ∧ l.length ≤ 20 ∧ sntI h f (i + 1) ((i + 1 : Nat) : Int) d s (c + l.length) := by
  obtain ⟨a1, a2, a3, a4, a5, a6⟩ := snt_tick hi hn
  obtain ⟨n1, n2, n3, n4, n5, n6, n7, n8, n9⟩ := hn
  refine ⟨_, (deliverN ⟨n.Now + 1, n.Homes, n.Far, n.Under⟩).1, (deliverN ⟨n.Now + 1, n.Homes, n.Far, n.Under⟩).2.1, a1, a2, n2, (goodNet_len n4).2, ?_, a3, a5, a6⟩
  rw [← a4]
def nmA : Bool → Nat | true => 22000002 | false => 7000002
def nmB : Bool → Nat | true => 22000004 | false => 7000004
theorem tm_rng {x m : Int} (h0 : 0 ≤ x) (hm : 0 < m) : 0 ≤ x.tmod m ∧ x.tmod m < m := ⟨Int.tmod_nonneg _ h0, Int.tmod_lt_of_pos _ hm⟩
set_option maxHeartbeats 4000000 in
theorem FnSent_ok (vc : List Int) (wc : vc.length ≤ maxLen ∧ ∀ y ∈ vc, 0 ≤ y ∧ y ≤ 255) : ACall Try.prog n_laws_FnSent [.sl false 1 (bys vc)] (fun r _ => r = bl true) := by
  have hmx := mx_eq
  cases hB : vBigB vc
  · have hc := isB_ofv hB wc.2
    have hcl := hc.1
    obtain ⟨M, hMe, hM1, hM2⟩ : ∃ M, 2 + (vatF vc 0).tmod 4 = M ∧ 2 ≤ M ∧ M ≤ 5 := by
      have := tm_rng (vatF_rng hc (i := 0) (by omega) (by omega)).1 (m := 4) (by omega)
      exact ⟨_, rfl, by omega, by omega⟩
    obtain ⟨f, hfe, hf1, hf2⟩ : ∃ f, (vatF vc 7).tmod 6 = f ∧ 0 ≤ f ∧ f ≤ 5 := by
      have := tm_rng (vatF_rng hc (i := 7) (by omega) (by omega)).1 (m := 6) (by omega)
      exact ⟨_, rfl, by omega, by omega⟩
    have hv0 := vatF_rng hc (i := 0) (by omega) (by omega)
    have ht0 := tm_rng hv0.1 (m := 4) (by omega)
    refine fn_in h_laws_FnSent r_laws_FnSent ⟨by simp only [go_sem, ↓reduceIte], fun E hE hH => ?_⟩; simp only [go_sem, ↓reduceIte] at hE hH; simp only [go_sem, hE, hH, ↓reduceIte, c_laws_FnSent]
    repeat' (first | ((with_reducible (first | refine gd_t (fun h => ?_) (fun h => ?_) | refine gd_f (fun h => ?_) (fun h => ?_))) <;> (have hb := h; (try simp only [decide_eq_true_eq, decide_eq_false_iff_not, Int.not_lt, Int.not_le, ge_iff_le, gt_iff_lt, Bool.not_eq_true', Bool.not_eq_false', beq_iff_eq, bne_iff_ne, beq_eq_false_iff_ne, bne_eq_false_iff_eq, Int.ofNat_lt, Int.ofNat_le] at h); simp (disch := omega) only [go_sem, hE, hH, ↓reduceIte, hB, hMe, hb]; (try clear hb))) | ((with_reducible refine And.intro ?_ ?_); · omega) | (refine ok_view ?_; simp (disch := omega) only [go_sem, hE, hH, ↓reduceIte, hB, hMe]) | (refine cvA (vBig_ok vc wc.1) ?_; simp (disch := omega) only [go_sem, hE, hH, ↓reduceIte, hB, hMe]) | (refine cvA (vAt_ok vc hc 0 (by omega) (by omega)) ?_; simp (disch := omega) only [go_sem, hE, hH, ↓reduceIte, hB, hMe]) | (refine jn _ ?_ ?_) | (with_reducible refine both ?_ ?_) | (with_reducible refine And.intro ?_ ?_) | (refine fin_eq ?_; (try (simp (disch := omega) only [go_sem, hE, hH, ↓reduceIte, hB, hMe])); first | done | rfl) | (simp (disch := omega) only [go_sem, hE, hH, ↓reduceIte, hB, hMe]) | (exact (noMLL_set (by simp only [go_sem, hE, hH, ↓reduceIte, hB, hMe]) (by simp only [go_sem, hE, hH, ↓reduceIte, hB, hMe])).2 trivial) | (exact (pk_set (by simp only [go_sem, hE, hH, ↓reduceIte, hB, hMe]) (by simp only [go_sem, hE, hH, ↓reduceIte, hB, hMe])).2 trivial) | (simp only [go_sem, hE, hH, ↓reduceIte, hB, hMe]) | fail)
    all_goals try decide
    refine loopNe M.toNat (fun k (h : List Int) => ⟨[(0, .sl false 1 (bys vc)), (3, i64 M), (4, .ref 5000000 0 h.length), (5, i64 k)], [(5000000, ⟨1, ints h⟩)]⟩) (fun k h => h.length = k ∧ ∀ x, x ∈ h → 0 ≤ x ∧ x ≤ 2) [] rfl ⟨rfl, by simp⟩ ?_
    rintro k h hk ⟨hI1, hI2⟩
    try simp only [go_sem, hE, hH, ↓reduceIte, c_laws_FnSent_l1]
    first | refine gd_t (fun q1 => ?_) (fun q1 => ?_) | refine gd_f (fun q1 => ?_) (fun q1 => ?_)
    · have hb1 := q1
      simp only [decide_eq_true_eq, decide_eq_false_iff_not, Int.not_lt, Int.not_le, ge_iff_le, gt_iff_lt, Bool.not_eq_true', Bool.not_eq_false', beq_iff_eq, bne_iff_ne, beq_eq_false_iff_ne, bne_eq_false_iff_eq, Int.ofNat_lt, Int.ofNat_le] at q1
      have hv := vatF_rng hc (i := (k : Int) + 1) (by omega) (by omega)
      have ht := tm_rng hv.1 (m := 3) (by omega)
      try simp (disch := omega) only [go_sem, hE, hH, ↓reduceIte, hb1]
      repeat' (first | ((with_reducible (first | refine gd_t (fun h => ?_) (fun h => ?_) | refine gd_f (fun h => ?_) (fun h => ?_))) <;> (have hb := h; (try simp only [decide_eq_true_eq, decide_eq_false_iff_not, Int.not_lt, Int.not_le, ge_iff_le, gt_iff_lt, Bool.not_eq_true', Bool.not_eq_false', beq_iff_eq, bne_iff_ne, beq_eq_false_iff_ne, bne_eq_false_iff_eq, Int.ofNat_lt, Int.ofNat_le] at h); simp (disch := omega) only [go_sem, hE, hH, ↓reduceIte, hb]; (try clear hb))) | ((with_reducible refine And.intro ?_ ?_); · omega) | (refine ok_view ?_; simp (disch := omega) only [go_sem, hE, hH, ↓reduceIte]) | (refine cvA (vAt_ok vc hc ((k : Int) + 1) (by omega) (by omega)) ?_; simp (disch := omega) only [go_sem, hE, hH, ↓reduceIte]) | (refine jn _ ?_ ?_) | (with_reducible refine both ?_ ?_) | (with_reducible refine And.intro ?_ ?_) | (refine fin_eq ?_; (try (simp (disch := omega) only [go_sem, hE, hH, ↓reduceIte])); first | done | rfl) | (simp (disch := omega) only [go_sem, hE, hH, ↓reduceIte]) | (exact (noMLL_set (by simp only [go_sem, hE, hH, ↓reduceIte]) (by simp only [go_sem, hE, hH, ↓reduceIte])).2 trivial) | (exact (pk_set (by simp only [go_sem, hE, hH, ↓reduceIte]) (by simp only [go_sem, hE, hH, ↓reduceIte])).2 trivial) | (simp only [go_sem, hE, hH, ↓reduceIte]) | fail)
      refine ⟨h ++ [(vatF vc ((k : Int) + 1)).tmod 3], ?_, by simp [hI1], fun x hx => ?_⟩
      · simp [ints, bys]
      · rcases List.mem_append.1 hx with h9 | h9
        · exact hI2 x h9
        · simp only [List.mem_singleton] at h9; subst h9; omega
    · have q2 := q1
      simp only [decide_eq_true_eq, decide_eq_false_iff_not, Int.not_lt, Int.not_le, ge_iff_le, gt_iff_lt, Bool.not_eq_true', Bool.not_eq_false', beq_iff_eq, bne_iff_ne, beq_eq_false_iff_ne, bne_eq_false_iff_eq, Int.ofNat_lt, Int.ofNat_le] at q2
      have hhl : (h.length : Int) = M := by omega
      have hgh : goodHomes h f = true := by
        simp only [goodHomes, Bool.and_eq_true, rng_iff, allR, allN_iff]
        exact ⟨⟨by omega, fun i hi => hI2 _ (nth_mem hi)⟩, by omega⟩
      have hnew : newN h f = (⟨0, h, f, []⟩, true) := by rw [newN, hgh]; rfl
      have hgn : goodNet ⟨0, h, f, []⟩ = true := by simp [goodNet, rng, allN, hgh]
      try simp (disch := omega) only [go_sem, hE, hH, ↓reduceIte, q1]
      repeat' (first | ((with_reducible (first | refine gd_t (fun h => ?_) (fun h => ?_) | refine gd_f (fun h => ?_) (fun h => ?_))) <;> (have hb := h; (try simp only [decide_eq_true_eq, decide_eq_false_iff_not, Int.not_lt, Int.not_le, ge_iff_le, gt_iff_lt, Bool.not_eq_true', Bool.not_eq_false', beq_iff_eq, bne_iff_ne, beq_eq_false_iff_ne, bne_eq_false_iff_eq, Int.ofNat_lt, Int.ofNat_le] at h); simp (disch := omega) only [go_sem, hE, hH, ↓reduceIte, hfe, hnew, hb]; (try clear hb))) | ((with_reducible refine And.intro ?_ ?_); · omega) | (refine ok_view ?_; simp (disch := omega) only [go_sem, hE, hH, ↓reduceIte, hfe, hnew]) | (refine cvA (vAt_ok vc hc 7 (by omega) (by omega)) ?_; simp (disch := omega) only [go_sem, hE, hH, ↓reduceIte, hfe, hnew]) | (refine cvA (NewNet_ok h f (by omega)) ?_; simp (disch := omega) only [go_sem, hE, hH, ↓reduceIte, hfe, hnew]) | (refine cvA (sNewNet_ok h f (by omega)) ?_; simp (disch := omega) only [go_sem, hE, hH, ↓reduceIte, hfe, hnew]) | (refine cvA (vNet_ok ⟨0, h, f, []⟩ (by simp only; omega) (by simp)) ?_; simp (disch := omega) only [go_sem, hE, hH, ↓reduceIte, hfe, hnew]) | (refine jn _ ?_ ?_) | (with_reducible refine both ?_ ?_) | (with_reducible refine And.intro ?_ ?_) | (refine fin_eq ?_; (try (simp (disch := omega) only [go_sem, hE, hH, ↓reduceIte, hfe, hnew])); first | done | rfl) | (simp (disch := omega) only [go_sem, hE, hH, ↓reduceIte, hfe, hnew]) | (exact (noMLL_set (by simp only [go_sem, hE, hH, ↓reduceIte, hfe, hnew]) (by simp only [go_sem, hE, hH, ↓reduceIte, hfe, hnew])).2 trivial) | (exact (pk_set (by simp only [go_sem, hE, hH, ↓reduceIte, hfe, hnew]) (by simp only [go_sem, hE, hH, ↓reduceIte, hfe, hnew])).2 trivial) | (simp only [go_sem, hE, hH, ↓reduceIte, hfe, hnew]) | fail)
      refine loopNe 40 (fun i (x : Bool × Net × Int × Int) => ⟨[(0, .sl false 1 (bys vc)), (3, i64 M), (6, .ptr 7000000 0 0), (10, i64 x.2.2.1), (11, i64 x.2.2.2), (12, i64 i)], [(7000000, ⟨4, [[i64 x.2.1.Now, .ref (nmA x.1) 0 x.2.1.Homes.length, i64 x.2.1.Far, .ref (nmB x.1) 0 x.2.1.Under.length]]⟩), (nmA x.1, ⟨1, ints x.2.1.Homes⟩), (nmB x.1, ⟨4, x.2.1.Under.map (Letter.row true)⟩)]⟩) (fun i x => sntI h f i i x.2.1 x.2.2.1 x.2.2.2) (false, ⟨0, h, f, []⟩, 0, 0) rfl ⟨rfl, rfl, rfl, hgn, by simp, by simp, by simp, by simp, by simp⟩ ?_
      rintro i ⟨fl, n, s, c⟩ hi hS
      simp only at hS
      obtain ⟨z1, z2, z3, z4, z5, z6, z7, z8⟩ := snt_len hS
      cases fl
      all_goals
        simp only [nmA, nmB]
        try simp only [go_sem, hE, hH, ↓reduceIte, c_laws_FnSent_l3]
        first | refine gd_t (fun q3 => ?_) (fun q3 => ?_) | refine gd_f (fun q3 => ?_) (fun q3 => ?_)
        · have hb3 := q3
          simp only [decide_eq_true_eq, decide_eq_false_iff_not, Int.not_lt, Int.not_le, ge_iff_le, gt_iff_lt, Bool.not_eq_true', Bool.not_eq_false', beq_iff_eq, bne_iff_ne, beq_eq_false_iff_ne, bne_eq_false_iff_eq, Int.ofNat_lt, Int.ofNat_le] at q3
          have hva := vatF_rng hc (i := (i : Int) + 8) (by omega) (by omega)
          have hvb := vatF_rng hc (i := (i : Int) + 9) (by omega) (by omega)
          obtain ⟨a, hae, ha1, ha2⟩ : ∃ a, (vatF vc ((i : Int) + 8)).tmod M = a ∧ 0 ≤ a ∧ a < M := ⟨_, rfl, tm_rng hva.1 (by omega)⟩
          obtain ⟨b, hbe, hb1, hb2⟩ : ∃ b, (vatF vc ((i : Int) + 9)).tmod M = b ∧ 0 ≤ b ∧ b < M := ⟨_, rfl, tm_rng hvb.1 (by omega)⟩
          by_cases hcs : i < 20 ∧ a ≠ b
          · obtain ⟨e1, e2, e3⟩ := snt_send hcs.1 hf2 hS ha1 (by omega) hb1 (by omega) hcs.2
            obtain ⟨n', hn'⟩ : ∃ n', withN n (laidL n.Under (sentL n a b ⟨⟨[108]⟩⟩)) = n' := ⟨_, rfl⟩
            rw [hn'] at e1 e2
            obtain ⟨y1, y2, y3, y4, y5, y6, y7, y8⟩ := snt_len e2
            obtain ⟨t, d, l, e4, e5, e6, e7, e8, e9, e10, e11⟩ := snt_round (by omega) e2
            obtain ⟨x1, x2, x3, x4, x5, x6, x7, x8⟩ := snt_len e11
            try simp (disch := omega) only [go_sem, hE, hH, ↓reduceIte, hb3]
            repeat' (first | ((with_reducible (first | refine gd_t (fun h => ?_) (fun h => ?_) | refine gd_f (fun h => ?_) (fun h => ?_))) <;> (have hb := h; (try simp only [decide_eq_true_eq, decide_eq_false_iff_not, Int.not_lt, Int.not_le, ge_iff_le, gt_iff_lt, Bool.not_eq_true', Bool.not_eq_false', beq_iff_eq, bne_iff_ne, beq_eq_false_iff_ne, bne_eq_false_iff_eq, Int.ofNat_lt, Int.ofNat_le] at h); simp (disch := omega) only [go_sem, hE, hH, ↓reduceIte, hae, hbe, e1, e4, e8, hb]; (try clear hb))) | ((with_reducible refine And.intro ?_ ?_); · omega) | (refine ok_view ?_; simp (disch := omega) only [go_sem, hE, hH, ↓reduceIte, hae, hbe, e1, e4, e8]) | (refine cvA (vAt_ok vc hc ((i : Int) + 8) (by omega) (by omega)) ?_; simp (disch := omega) only [go_sem, hE, hH, ↓reduceIte, hae, hbe, e1, e4, e8]) | (refine cvA (vAt_ok vc hc ((i : Int) + 9) (by omega) (by omega)) ?_; simp (disch := omega) only [go_sem, hE, hH, ↓reduceIte, hae, hbe, e1, e4, e8]) | (refine cvA (SendTo_ok n a b ⟨⟨[108]⟩⟩ (by omega)) ?_; simp (disch := omega) only [go_sem, hE, hH, ↓reduceIte, hae, hbe, e1, e4, e8]) | (refine cvA (TripOf_ok n a b (by omega) z2 ha1 (by rw [z1]; omega) hb1 (by rw [z1]; omega)) ?_; simp (disch := omega) only [go_sem, hE, hH, ↓reduceIte, hae, hbe, e1, e4, e8]) | (refine cvA (sSendTo_ok n a b ⟨⟨[108]⟩⟩ (by omega)) ?_; simp (disch := omega) only [go_sem, hE, hH, ↓reduceIte, hae, hbe, e1, e4, e8]) | (refine cvA (vNet_ok n' (by omega) (by omega)) ?_; simp (disch := omega) only [go_sem, hE, hH, ↓reduceIte, hae, hbe, e1, e4, e8]) | (refine cvA (TickNet_ok n' (by omega)) ?_; simp (disch := omega) only [go_sem, hE, hH, ↓reduceIte, hae, hbe, e1, e4, e8]) | (refine cvA (Deliver_ok t (by rw [e6]; omega)) ?_; simp (disch := omega) only [go_sem, hE, hH, ↓reduceIte, hae, hbe, e1, e4, e8]) | (refine cvA (sDeliver_ok t (by rw [e6]; omega)) ?_; simp (disch := omega) only [go_sem, hE, hH, ↓reduceIte, hae, hbe, e1, e4, e8]) | (refine cvA (vNet_ok d (by omega) (by omega)) ?_; simp (disch := omega) only [go_sem, hE, hH, ↓reduceIte, hae, hbe, e1, e4, e8]) | (refine cvA (vLetters_ok l (by omega)) ?_; simp (disch := omega) only [go_sem, hE, hH, ↓reduceIte, hae, hbe, e1, e4, e8]) | (with_reducible apply jn) | (with_reducible apply both) | (with_reducible refine And.intro ?_ ?_) | ((with_reducible apply fin_eq); (try (simp (disch := omega) only [go_sem, hE, hH, ↓reduceIte, hae, hbe, e1, e4, e8])); first | done | rfl) | (simp (disch := omega) only [go_sem, hE, hH, ↓reduceIte, hae, hbe, e1, e4, e8]) | (exact (noMLL_set (by simp only [go_sem, hE, hH, ↓reduceIte, hae, hbe, e1, e4, e8]) (by simp only [go_sem, hE, hH, ↓reduceIte, hae, hbe, e1, e4, e8])).2 trivial) | (exact (pk_set (by simp only [go_sem, hE, hH, ↓reduceIte, hae, hbe, e1, e4, e8]) (by simp only [go_sem, hE, hH, ↓reduceIte, hae, hbe, e1, e4, e8])).2 trivial) | (simp only [go_sem, hE, hH, ↓reduceIte, hae, hbe, e1, e4, e8]) | fail)
            all_goals try (exfalso; omega)
            all_goals refine loopNe l.length (fun k (_ : Unit) => ⟨[(0, .sl false 1 (bys vc)), (3, i64 M), (6, .ptr 7000000 0 0), (10, i64 (s + 1)), (11, i64 c), (12, i64 i), (21, .ptr 22000000 0 0), (22, .ref 23000000 0 l.length), (27, i64 k)], [(7000000, ⟨4, [[i64 t.Now, .ref 7000002 0 t.Homes.length, i64 t.Far, .ref 7000004 0 t.Under.length]]⟩), (7000002, ⟨1, ints t.Homes⟩), (7000004, ⟨4, t.Under.map (Letter.row true)⟩), (22000000, ⟨4, [[i64 d.Now, .ref 22000002 0 d.Homes.length, i64 d.Far, .ref 22000004 0 d.Under.length]]⟩), (22000002, ⟨1, ints d.Homes⟩), (22000004, ⟨4, d.Under.map (Letter.row true)⟩), (23000000, ⟨4, l.map (Letter.row true)⟩)]⟩) (fun _ _ => True) () rfl trivial ?_
            all_goals intro k _ hk _
            all_goals try simp only [go_sem, hE, hH, ↓reduceIte, c_laws_FnSent_l2]
            all_goals first | refine gd_t (fun q5 => ?_) (fun q5 => ?_) | refine gd_f (fun q5 => ?_) (fun q5 => ?_)
            all_goals
              have q6 := q5
              simp only [decide_eq_true_eq, decide_eq_false_iff_not, Int.not_lt, Int.not_le, ge_iff_le, gt_iff_lt, Bool.not_eq_true', Bool.not_eq_false', beq_iff_eq, bne_iff_ne, beq_eq_false_iff_ne, bne_eq_false_iff_eq, Int.ofNat_lt, Int.ofNat_le] at q6
              try simp (disch := omega) only [go_sem, hE, hH, ↓reduceIte, q5]
              try have hdue := e9 _ (nth_mem q6)
              repeat' (first | ((with_reducible (first | refine gd_t (fun h => ?_) (fun h => ?_) | refine gd_f (fun h => ?_) (fun h => ?_))) <;> (have hb := h; (try simp only [decide_eq_true_eq, decide_eq_false_iff_not, Int.not_lt, Int.not_le, ge_iff_le, gt_iff_lt, Bool.not_eq_true', Bool.not_eq_false', beq_iff_eq, bne_iff_ne, beq_eq_false_iff_ne, bne_eq_false_iff_eq, Int.ofNat_lt, Int.ofNat_le] at h); simp (disch := omega) only [go_sem, hE, hH, ↓reduceIte, hb]; (try clear hb))) | ((with_reducible refine And.intro ?_ ?_); · omega) | (refine jn _ ?_ ?_) | (with_reducible refine both ?_ ?_) | (with_reducible refine And.intro ?_ ?_) | (refine fin_eq ?_; (try (simp (disch := omega) only [go_sem, hE, hH, ↓reduceIte])); first | done | rfl) | (simp (disch := omega) only [go_sem, hE, hH, ↓reduceIte]) | (exact (noMLL_set (by simp only [go_sem, hE, hH, ↓reduceIte]) (by simp only [go_sem, hE, hH, ↓reduceIte])).2 trivial) | (exact (pk_set (by simp only [go_sem, hE, hH, ↓reduceIte]) (by simp only [go_sem, hE, hH, ↓reduceIte])).2 trivial) | (simp only [go_sem, hE, hH, ↓reduceIte]) | fail)
            all_goals (first | (exfalso; omega) | exact ⟨(), rfl⟩ | exact ⟨(true, d, s + 1, c + l.length), rfl, e11⟩ | trace_state)
          · obtain ⟨t, d, l, e4, e5, e6, e7, e8, e9, e10, e11⟩ := snt_round (by omega) (snt_mid hS)
            obtain ⟨x1, x2, x3, x4, x5, x6, x7, x8⟩ := snt_len e11
            try simp (disch := omega) only [go_sem, hE, hH, ↓reduceIte, hb3]
            repeat' (first | ((with_reducible (first | refine gd_t (fun h => ?_) (fun h => ?_) | refine gd_f (fun h => ?_) (fun h => ?_))) <;> (have hb := h; (try simp only [decide_eq_true_eq, decide_eq_false_iff_not, Int.not_lt, Int.not_le, ge_iff_le, gt_iff_lt, Bool.not_eq_true', Bool.not_eq_false', beq_iff_eq, bne_iff_ne, beq_eq_false_iff_ne, bne_eq_false_iff_eq, Int.ofNat_lt, Int.ofNat_le] at h); simp (disch := omega) only [go_sem, hE, hH, ↓reduceIte, hae, hbe, e4, e8, hb]; (try clear hb))) | ((with_reducible refine And.intro ?_ ?_); · omega) | (refine ok_view ?_; simp (disch := omega) only [go_sem, hE, hH, ↓reduceIte, hae, hbe, e4, e8]) | (refine cvA (vAt_ok vc hc ((i : Int) + 8) (by omega) (by omega)) ?_; simp (disch := omega) only [go_sem, hE, hH, ↓reduceIte, hae, hbe, e4, e8]) | (refine cvA (vAt_ok vc hc ((i : Int) + 9) (by omega) (by omega)) ?_; simp (disch := omega) only [go_sem, hE, hH, ↓reduceIte, hae, hbe, e4, e8]) | (refine cvA (TickNet_ok n (by omega)) ?_; simp (disch := omega) only [go_sem, hE, hH, ↓reduceIte, hae, hbe, e4, e8]) | (refine cvA (Deliver_ok t (by rw [e6]; omega)) ?_; simp (disch := omega) only [go_sem, hE, hH, ↓reduceIte, hae, hbe, e4, e8]) | (refine cvA (sDeliver_ok t (by rw [e6]; omega)) ?_; simp (disch := omega) only [go_sem, hE, hH, ↓reduceIte, hae, hbe, e4, e8]) | (refine cvA (vNet_ok d (by omega) (by omega)) ?_; simp (disch := omega) only [go_sem, hE, hH, ↓reduceIte, hae, hbe, e4, e8]) | (refine cvA (vLetters_ok l (by omega)) ?_; simp (disch := omega) only [go_sem, hE, hH, ↓reduceIte, hae, hbe, e4, e8]) | (with_reducible apply jn) | (with_reducible apply both) | (with_reducible refine And.intro ?_ ?_) | ((with_reducible apply fin_eq); (try (simp (disch := omega) only [go_sem, hE, hH, ↓reduceIte, hae, hbe, e4, e8])); first | done | rfl) | (simp (disch := omega) only [go_sem, hE, hH, ↓reduceIte, hae, hbe, e4, e8]) | (exact (noMLL_set (by simp only [go_sem, hE, hH, ↓reduceIte, hae, hbe, e4, e8]) (by simp only [go_sem, hE, hH, ↓reduceIte, hae, hbe, e4, e8])).2 trivial) | (exact (pk_set (by simp only [go_sem, hE, hH, ↓reduceIte, hae, hbe, e4, e8]) (by simp only [go_sem, hE, hH, ↓reduceIte, hae, hbe, e4, e8])).2 trivial) | (simp only [go_sem, hE, hH, ↓reduceIte, hae, hbe, e4, e8]) | fail)
            all_goals try (exfalso; omega)
            all_goals refine loopNe l.length (fun k (_ : Unit) => ⟨[(0, .sl false 1 (bys vc)), (3, i64 M), (6, .ptr 7000000 0 0), (10, i64 s), (11, i64 c), (12, i64 i), (21, .ptr 22000000 0 0), (22, .ref 23000000 0 l.length), (27, i64 k)], [(7000000, ⟨4, [[i64 t.Now, .ref 7000002 0 t.Homes.length, i64 t.Far, .ref 7000004 0 t.Under.length]]⟩), (7000002, ⟨1, ints t.Homes⟩), (7000004, ⟨4, t.Under.map (Letter.row true)⟩), (22000000, ⟨4, [[i64 d.Now, .ref 22000002 0 d.Homes.length, i64 d.Far, .ref 22000004 0 d.Under.length]]⟩), (22000002, ⟨1, ints d.Homes⟩), (22000004, ⟨4, d.Under.map (Letter.row true)⟩), (23000000, ⟨4, l.map (Letter.row true)⟩)]⟩) (fun _ _ => True) () rfl trivial ?_
            all_goals intro k _ hk _
            all_goals try simp only [go_sem, hE, hH, ↓reduceIte, c_laws_FnSent_l2]
            all_goals first | refine gd_t (fun q5 => ?_) (fun q5 => ?_) | refine gd_f (fun q5 => ?_) (fun q5 => ?_)
            all_goals
              have q6 := q5
              simp only [decide_eq_true_eq, decide_eq_false_iff_not, Int.not_lt, Int.not_le, ge_iff_le, gt_iff_lt, Bool.not_eq_true', Bool.not_eq_false', beq_iff_eq, bne_iff_ne, beq_eq_false_iff_ne, bne_eq_false_iff_eq, Int.ofNat_lt, Int.ofNat_le] at q6
              try simp (disch := omega) only [go_sem, hE, hH, ↓reduceIte, q5]
              try have hdue := e9 _ (nth_mem q6)
              repeat' (first | ((with_reducible (first | refine gd_t (fun h => ?_) (fun h => ?_) | refine gd_f (fun h => ?_) (fun h => ?_))) <;> (have hb := h; (try simp only [decide_eq_true_eq, decide_eq_false_iff_not, Int.not_lt, Int.not_le, ge_iff_le, gt_iff_lt, Bool.not_eq_true', Bool.not_eq_false', beq_iff_eq, bne_iff_ne, beq_eq_false_iff_ne, bne_eq_false_iff_eq, Int.ofNat_lt, Int.ofNat_le] at h); simp (disch := omega) only [go_sem, hE, hH, ↓reduceIte, hb]; (try clear hb))) | ((with_reducible refine And.intro ?_ ?_); · omega) | (refine jn _ ?_ ?_) | (with_reducible refine both ?_ ?_) | (with_reducible refine And.intro ?_ ?_) | (refine fin_eq ?_; (try (simp (disch := omega) only [go_sem, hE, hH, ↓reduceIte])); first | done | rfl) | (simp (disch := omega) only [go_sem, hE, hH, ↓reduceIte]) | (exact (noMLL_set (by simp only [go_sem, hE, hH, ↓reduceIte]) (by simp only [go_sem, hE, hH, ↓reduceIte])).2 trivial) | (exact (pk_set (by simp only [go_sem, hE, hH, ↓reduceIte]) (by simp only [go_sem, hE, hH, ↓reduceIte])).2 trivial) | (simp only [go_sem, hE, hH, ↓reduceIte]) | fail)
            all_goals (first | (exfalso; omega) | exact ⟨(), rfl⟩ | exact ⟨(true, d, s, c + l.length), rfl, e11⟩ | trace_state)
        · have q4 := q3
          simp only [decide_eq_true_eq, decide_eq_false_iff_not, Int.not_lt, Int.not_le, ge_iff_le, gt_iff_lt, Bool.not_eq_true', Bool.not_eq_false', beq_iff_eq, bne_iff_ne, beq_eq_false_iff_ne, bne_eq_false_iff_eq, Int.ofNat_lt, Int.ofNat_le] at q4
          obtain ⟨n1, n2, n3, n4, n5, n6, n7, n8, n9⟩ := hS
          have hU : n.Under.length = 0 := by
            cases hu : n.Under with
            | nil => rfl
            | cons x r =>
              have := n5 x (by rw [hu]; exact List.mem_cons_self ..)
              omega
          try simp (disch := omega) only [go_sem, hE, hH, ↓reduceIte, q3]
          repeat' (first | ((with_reducible (first | refine gd_t (fun h => ?_) (fun h => ?_) | refine gd_f (fun h => ?_) (fun h => ?_))) <;> (have hb := h; (try simp only [decide_eq_true_eq, decide_eq_false_iff_not, Int.not_lt, Int.not_le, ge_iff_le, gt_iff_lt, Bool.not_eq_true', Bool.not_eq_false', beq_iff_eq, bne_iff_ne, beq_eq_false_iff_ne, bne_eq_false_iff_eq, Int.ofNat_lt, Int.ofNat_le] at h); simp (disch := omega) only [go_sem, hE, hH, ↓reduceIte, hb]; (try clear hb))) | ((with_reducible refine And.intro ?_ ?_); · omega) | (with_reducible apply jn) | (with_reducible apply both) | (with_reducible refine And.intro ?_ ?_) | ((with_reducible apply fin_eq); (try (simp (disch := omega) only [go_sem, hE, hH, ↓reduceIte])); first | done | rfl) | (simp (disch := omega) only [go_sem, hE, hH, ↓reduceIte]) | (exact (noMLL_set (by simp only [go_sem, hE, hH, ↓reduceIte]) (by simp only [go_sem, hE, hH, ↓reduceIte])).2 trivial) | (exact (pk_set (by simp only [go_sem, hE, hH, ↓reduceIte]) (by simp only [go_sem, hE, hH, ↓reduceIte])).2 trivial) | (simp only [go_sem, hE, hH, ↓reduceIte]) | fail)
          all_goals (first | (exfalso; omega) | simp [hU])
  · refine fn_in h_laws_FnSent r_laws_FnSent ⟨by simp only [go_sem, ↓reduceIte], fun E hE hH => ?_⟩; simp only [go_sem, ↓reduceIte] at hE hH; simp only [go_sem, hE, hH, ↓reduceIte, c_laws_FnSent]
    repeat' (first | ((with_reducible (first | refine gd_t (fun h => ?_) (fun h => ?_) | refine gd_f (fun h => ?_) (fun h => ?_))) <;> (have hb := h; (try simp only [decide_eq_true_eq, decide_eq_false_iff_not, Int.not_lt, Int.not_le, ge_iff_le, gt_iff_lt, Bool.not_eq_true', Bool.not_eq_false', beq_iff_eq, bne_iff_ne, beq_eq_false_iff_ne, bne_eq_false_iff_eq, Int.ofNat_lt, Int.ofNat_le] at h); simp (disch := omega) only [go_sem, hE, hH, ↓reduceIte, hB, hb]; (try clear hb))) | ((with_reducible refine And.intro ?_ ?_); · omega) | (refine ok_view ?_; simp (disch := omega) only [go_sem, hE, hH, ↓reduceIte, hB]) | (refine cvA (vBig_ok vc wc.1) ?_; simp (disch := omega) only [go_sem, hE, hH, ↓reduceIte, hB]) | (refine jn _ ?_ ?_) | (with_reducible refine both ?_ ?_) | (with_reducible refine And.intro ?_ ?_) | (refine fin_eq ?_; (try (simp (disch := omega) only [go_sem, hE, hH, ↓reduceIte, hB])); first | done | rfl) | (simp (disch := omega) only [go_sem, hE, hH, ↓reduceIte, hB]) | (exact (noMLL_set (by simp only [go_sem, hE, hH, ↓reduceIte, hB]) (by simp only [go_sem, hE, hH, ↓reduceIte, hB])).2 trivial) | (exact (pk_set (by simp only [go_sem, hE, hH, ↓reduceIte, hB]) (by simp only [go_sem, hE, hH, ↓reduceIte, hB])).2 trivial) | (simp only [go_sem, hE, hH, ↓reduceIte, hB]) | fail)

end Go.Proofs.Wb

/- Contracts of functions. -/
import Derived.Test.YtmkchadpehdhjaaFnRingsK4
import Derived.Laws.Externs
set_option linter.unusedSimpArgs false
set_option linter.unusedVariables false
set_option linter.unusedSectionVars false
namespace Go.Proofs.Wb
open Go Go.Am
abbrev grT (o : Bool) (g : List (List Int)) : T := .sl o 1 (g.map fun y => [.sl o 1 (ints y)])
def tst (far t : Int) (out : List Int) (w : Int) : Bool := (decide (far = 1) && decide (w = t)) || (decide (far > 1) && decide (nth out w.toNat = far - 1))
theorem distances_1_ok (w far t : Int) (out : List Int) (h0 : 0 ≤ w) (h1 : w < out.length) (hf : 1 ≤ far) (hf2 : far ≤ 30) : ACall Try.prog n_impl_distances_1 ([i64 w] ++ [.bx false [i64 far], .bx false [i64 t], .bx false [.sl false 1 (ints out)]]) (fun r _ => r = bl (tst far t out w)) := by
  have hmx := mx_eq
  refine fn_in h_impl_distances_1 r_impl_distances_1 ⟨by simp only [go_sem, ↓reduceIte], fun E hE hH => ?_⟩; simp only [go_sem, ↓reduceIte] at hE hH; simp only [go_sem, hE, hH, ↓reduceIte, c_impl_distances_1]
  repeat' (first | ((with_reducible (first | refine gd_t (fun h => ?_) (fun h => ?_) | refine gd_f (fun h => ?_) (fun h => ?_))) <;> (have hb := h; (try simp only [decide_eq_true_eq, decide_eq_false_iff_not, Int.not_lt, Int.not_le, ge_iff_le, gt_iff_lt, Bool.not_eq_true', Bool.not_eq_false', beq_iff_eq, bne_iff_ne, beq_eq_false_iff_ne, bne_eq_false_iff_eq, Int.ofNat_lt, Int.ofNat_le] at h); simp (disch := omega) only [go_sem, hE, hH, ↓reduceIte, hb]; (try clear hb))) | ((with_reducible refine And.intro ?_ ?_); · omega) | (with_reducible apply jn) | (with_reducible apply both) | (with_reducible refine And.intro ?_ ?_) | ((with_reducible apply fin_eq); (try (simp (disch := omega) only [go_sem, hE, hH, ↓reduceIte])); first | done | rfl) | (simp (disch := omega) only [go_sem, hE, hH, ↓reduceIte]) | (exact (noMLL_set (by simp only [go_sem, hE, hH, ↓reduceIte]) (by simp only [go_sem, hE, hH, ↓reduceIte])).2 trivial) | (exact (pk_set (by simp only [go_sem, hE, hH, ↓reduceIte]) (by simp only [go_sem, hE, hH, ↓reduceIte])).2 trivial) | (simp only [go_sem, hE, hH, ↓reduceIte]) | fail)
  all_goals (simp_all [tst]; try omega)
theorem tst_any {g : List (List Int)} {t : Int} {j i : Nat} {y : List Int} (hg : okG g) (hi : i < g.length) (hI : ∀ v : Nat, v < g.length → nth y v = if v < i then (dl g t (j + 1) v : Int) else dl g t j v) (h0 : dl g t j i = 0) : (nth g i).any (tst ((j : Int) + 1) t y) = wk g t (j + 1) i := by
  have hn : nb g (i : Int) = nth g i := rfl
  cases j with
  | zero =>
    have e : ∀ w, tst (((0 : Nat) : Int) + 1) t y w = wk g t 0 w := by
      intro w
      simp [tst, wk]
    rw [show tst (((0 : Nat) : Int) + 1) t y = wk g t 0 from funext e]
    rfl
  | succ j =>
    rw [dl_step (by omega) h0, hn, Bool.eq_iff_iff]
    simp only [List.any_eq_true]
    have e : ∀ w, w ∈ nth g i → (tst (((j + 1 : Nat) : Int) + 1) t y w = true ↔ decide (dl g t (j + 1) w = j + 1) = true) := by
      intro w hw
      have hb := hg.2 _ (nth_mem hi) w hw
      have hv := hI w.toNat (by omega)
      have hc : ((w.toNat : Nat) : Int) = w := by omega
      rw [hc] at hv
      simp only [tst, Bool.or_eq_true, Bool.and_eq_true, decide_eq_true_eq]
      rw [hv]
      have hs := dl_same (g := g) (t := t) (j := j + 1) (v := w) (by omega)
      split
      · rw [← hs]; omega
      · omega
    constructor
    · rintro ⟨w, h1, h2⟩; exact ⟨w, h1, (e w h1).1 h2⟩
    · rintro ⟨w, h1, h2⟩; exact ⟨w, h1, (e w h1).2 h2⟩
theorem distances_ok (g : List (List Int)) (t : Int) (hg : okG g) (hgm : ∀ i, (nth g i).length ≤ maxLen) : ACall Try.prog n_impl_distances [grT false g, i64 t] (fun r _ => ∃ x : List Int, r = .sl true 1 (ints x) ∧ x.length = g.length ∧ ∀ v : Nat, v < g.length → nth x v = dl g t g.length v) := by
  have hmx := mx_eq
  have hgl := hg.1
  have hgr : ∀ i, (nth g i).length ≤ maxLen := fun i => hgm i
  refine fn_in h_impl_distances r_impl_distances ⟨by simp only [go_sem, ↓reduceIte], fun E hE hH => ?_⟩; simp only [go_sem, ↓reduceIte] at hE hH; simp only [go_sem, hE, hH, ↓reduceIte, c_impl_distances]
  repeat' (first | ((with_reducible (first | refine gd_t (fun h => ?_) (fun h => ?_) | refine gd_f (fun h => ?_) (fun h => ?_))) <;> (have hb := h; (try simp only [decide_eq_true_eq, decide_eq_false_iff_not, Int.not_lt, Int.not_le, ge_iff_le, gt_iff_lt, Bool.not_eq_true', Bool.not_eq_false', beq_iff_eq, bne_iff_ne, beq_eq_false_iff_ne, bne_eq_false_iff_eq, Int.ofNat_lt, Int.ofNat_le] at h); simp (disch := omega) only [go_sem, hE, hH, ↓reduceIte, hb]; (try clear hb))) | ((with_reducible refine And.intro ?_ ?_); · omega) | (with_reducible apply jn) | (with_reducible apply both) | (with_reducible refine And.intro ?_ ?_) | ((with_reducible apply fin_eq); (try (simp (disch := omega) only [go_sem, hE, hH, ↓reduceIte])); first | done | rfl) | (simp (disch := omega) only [go_sem, hE, hH, ↓reduceIte]) | (exact (noMLL_set (by simp only [go_sem, hE, hH, ↓reduceIte]) (by simp only [go_sem, hE, hH, ↓reduceIte])).2 trivial) | (exact (pk_set (by simp only [go_sem, hE, hH, ↓reduceIte]) (by simp only [go_sem, hE, hH, ↓reduceIte])).2 trivial) | (simp only [go_sem, hE, hH, ↓reduceIte]) | fail)
  refine loopNe g.length (fun j (x : List Int) => ⟨[(0, grT false g), (3, .ptr 4000000 0 0), (5, .ptr 6000000 0 0), (6, .ptr 7000000 0 0)], [(4000000, ⟨1, [[i64 t]]⟩), (6000000, ⟨1, [[.ref 6000001 0 g.length]]⟩), (6000001, ⟨1, ints x⟩), (7000000, ⟨1, [[i64 (j + 1)]]⟩)]⟩) (fun j x => x.length = g.length ∧ ∀ v : Nat, v < g.length → nth x v = dl g t j v) (List.replicate g.length 0) (by simp [ints]) ⟨by simp, fun v hv => by simp [nth, hv, dl]⟩ ?_
  rintro j x hj ⟨hx, hI⟩
  try simp only [go_sem, hE, hH, ↓reduceIte, c_impl_distances_l2]
  first | refine gd_t (fun q1 => ?_) (fun q1 => ?_) | refine gd_f (fun q1 => ?_) (fun q1 => ?_)
  · have hb1 := q1
    simp only [decide_eq_true_eq, decide_eq_false_iff_not, Int.not_lt, Int.not_le, ge_iff_le, gt_iff_lt, Bool.not_eq_true', Bool.not_eq_false', beq_iff_eq, bne_iff_ne, beq_eq_false_iff_ne, bne_eq_false_iff_eq, Int.ofNat_lt, Int.ofNat_le] at q1
    have hjl : j < g.length := by omega
    try simp (disch := omega) only [go_sem, hE, hH, ↓reduceIte, hb1]
    refine loopNe g.length (fun i (y : List Int) => ⟨[(0, grT false g), (3, .ptr 4000000 0 0), (5, .ptr 6000000 0 0), (6, .ptr 7000000 0 0), (18, grT false g), (19, i64 g.length), (20, i64 i)], [(4000000, ⟨1, [[i64 t]]⟩), (6000000, ⟨1, [[.ref 6000001 0 g.length]]⟩), (6000001, ⟨1, ints y⟩), (7000000, ⟨1, [[i64 (j + 1)]]⟩)]⟩) (fun i y => y.length = g.length ∧ ∀ v : Nat, v < g.length → nth y v = if v < i then (dl g t (j + 1) v : Int) else dl g t j v) x rfl ⟨hx, fun v hv => by rw [hI v hv]; simp⟩ ?_
    rintro i y hi ⟨hy, hJ⟩
    try simp only [go_sem, hE, hH, ↓reduceIte, c_impl_distances_l1]
    first | refine gd_t (fun q2 => ?_) (fun q2 => ?_) | refine gd_f (fun q2 => ?_) (fun q2 => ?_)
    · have hb2 := q2
      simp only [decide_eq_true_eq, decide_eq_false_iff_not, Int.not_lt, Int.not_le, ge_iff_le, gt_iff_lt, Bool.not_eq_true', Bool.not_eq_false', beq_iff_eq, bne_iff_ne, beq_eq_false_iff_ne, bne_eq_false_iff_eq, Int.ofNat_lt, Int.ofNat_le] at q2
      have hv : nth y i = dl g t j i := by rw [hJ i q2]; simp
      try simp (disch := omega) only [go_sem, hE, hH, ↓reduceIte, hb2]
      have hty : y.take g.length = y := List.take_of_length_le (by omega)
      repeat' (first | ((with_reducible (first | refine gd_t (fun h => ?_) (fun h => ?_) | refine gd_f (fun h => ?_) (fun h => ?_))) <;> (have hb := h; (try simp only [decide_eq_true_eq, decide_eq_false_iff_not, Int.not_lt, Int.not_le, ge_iff_le, gt_iff_lt, Bool.not_eq_true', Bool.not_eq_false', beq_iff_eq, bne_iff_ne, beq_eq_false_iff_ne, bne_eq_false_iff_eq, Int.ofNat_lt, Int.ofNat_le] at h); simp (disch := omega) only [go_sem, hE, hH, ↓reduceIte, hty, hb]; (try clear hb))) | ((with_reducible refine And.intro ?_ ?_); · omega) | (refine ok_view ?_; simp (disch := omega) only [go_sem, hE, hH, ↓reduceIte, hty]) | (refine cvA (ContainsFunc_Int_ok (nth g i) _ [.bx false [i64 ((j : Int) + 1)], .bx false [i64 t], .bx false [.sl false 1 (ints y)]] (tst ((j : Int) + 1) t y) (by kernel_rfl) rfl (hgr i) (fun w hw => distances_1_ok w _ t y (hg.2 _ (nth_mem q2) w hw).1 (by have := (hg.2 _ (nth_mem q2) w hw).2; omega) (by omega) (by omega))) ?_; simp (disch := omega) only [go_sem, hE, hH, ↓reduceIte, hty]) | (with_reducible apply jn) | (with_reducible apply both) | (with_reducible refine And.intro ?_ ?_) | ((with_reducible apply fin_eq); (try (simp (disch := omega) only [go_sem, hE, hH, ↓reduceIte, hty])); first | done | rfl) | (simp (disch := omega) only [go_sem, hE, hH, ↓reduceIte, hty]) | (exact (noMLL_set (by simp only [go_sem, hE, hH, ↓reduceIte, hty]) (by simp only [go_sem, hE, hH, ↓reduceIte, hty])).2 trivial) | (exact (pk_set (by simp only [go_sem, hE, hH, ↓reduceIte, hty]) (by simp only [go_sem, hE, hH, ↓reduceIte, hty])).2 trivial) | (simp only [go_sem, hE, hH, ↓reduceIte, hty]) | fail)
      · have h0 : dl g t j i = 0 := by omega
        rw [tst_any hg q2 hJ h0] at h
        refine ⟨y.set i ((j : Int) + 1), rfl, by simp [hy], fun v hv => ?_⟩
        rw [nth_st (by omega), hJ v hv]
        by_cases e : i = v
        · subst e
          rw [if_pos rfl, if_pos (by omega)]
          simp only [dl, h0, h, if_true]
          omega
        · rw [if_neg e]
          by_cases e2 : v < i
          · rw [if_pos e2, if_pos (by omega)]
          · rw [if_neg e2, if_neg (by omega)]
      · have h0 : dl g t j i = 0 := by omega
        rw [tst_any hg q2 hJ h0] at h
        refine ⟨y, rfl, hy, fun v hv => ?_⟩
        rw [hJ v hv]
        by_cases e : i = v
        · subst e
          rw [if_neg (by omega), if_pos (by omega)]
          simp only [dl, h0, h, if_true]
          rfl
        · by_cases e2 : v < i
          · rw [if_pos e2, if_pos (by omega)]
          · rw [if_neg e2, if_neg (by omega)]
      · have h0 : dl g t j i ≠ 0 := by omega
        refine ⟨y, rfl, hy, fun v hv => ?_⟩
        rw [hJ v hv]
        by_cases e : i = v
        · subst e
          rw [if_neg (by omega), if_pos (by omega), dl_mono h0]
        · by_cases e2 : v < i
          · rw [if_pos e2, if_pos (by omega)]
          · rw [if_neg e2, if_neg (by omega)]
    · try simp (disch := omega) only [go_sem, hE, hH, ↓reduceIte, q2]
      simp only [decide_eq_true_eq, decide_eq_false_iff_not, Int.not_lt, Int.not_le, ge_iff_le, gt_iff_lt, Bool.not_eq_true', Bool.not_eq_false', beq_iff_eq, bne_iff_ne, beq_eq_false_iff_ne, bne_eq_false_iff_eq, Int.ofNat_lt, Int.ofNat_le] at q2
      repeat' (first | ((with_reducible (first | refine gd_t (fun h => ?_) (fun h => ?_) | refine gd_f (fun h => ?_) (fun h => ?_))) <;> (have hb := h; (try simp only [decide_eq_true_eq, decide_eq_false_iff_not, Int.not_lt, Int.not_le, ge_iff_le, gt_iff_lt, Bool.not_eq_true', Bool.not_eq_false', beq_iff_eq, bne_iff_ne, beq_eq_false_iff_ne, bne_eq_false_iff_eq, Int.ofNat_lt, Int.ofNat_le] at h); simp (disch := omega) only [go_sem, hE, hH, ↓reduceIte, hb]; (try clear hb))) | ((with_reducible refine And.intro ?_ ?_); · omega) | (with_reducible apply jn) | (with_reducible apply both) | (with_reducible refine And.intro ?_ ?_) | ((with_reducible apply fin_eq); (try (simp (disch := omega) only [go_sem, hE, hH, ↓reduceIte])); first | done | rfl) | (simp (disch := omega) only [go_sem, hE, hH, ↓reduceIte]) | (exact (noMLL_set (by simp only [go_sem, hE, hH, ↓reduceIte]) (by simp only [go_sem, hE, hH, ↓reduceIte])).2 trivial) | (exact (pk_set (by simp only [go_sem, hE, hH, ↓reduceIte]) (by simp only [go_sem, hE, hH, ↓reduceIte])).2 trivial) | (simp only [go_sem, hE, hH, ↓reduceIte]) | fail)
      refine ⟨y, by simp [ints, show (j : Int) + 1 + 1 = ((j + 1 : Nat) : Int) + 1 by omega], hy, fun v hv => ?_⟩
      rw [hJ v hv, if_pos (by omega)]
  · have q2 := q1
    simp only [decide_eq_true_eq, decide_eq_false_iff_not, Int.not_lt, Int.not_le, ge_iff_le, gt_iff_lt, Bool.not_eq_true', Bool.not_eq_false', beq_iff_eq, bne_iff_ne, beq_eq_false_iff_ne, bne_eq_false_iff_eq, Int.ofNat_lt, Int.ofNat_le] at q2
    obtain rfl : j = g.length := by omega
    try simp (disch := omega) only [go_sem, hE, hH, ↓reduceIte, q1]
    repeat' (first | ((with_reducible (first | refine gd_t (fun h => ?_) (fun h => ?_) | refine gd_f (fun h => ?_) (fun h => ?_))) <;> (have hb := h; (try simp only [decide_eq_true_eq, decide_eq_false_iff_not, Int.not_lt, Int.not_le, ge_iff_le, gt_iff_lt, Bool.not_eq_true', Bool.not_eq_false', beq_iff_eq, bne_iff_ne, beq_eq_false_iff_ne, bne_eq_false_iff_eq, Int.ofNat_lt, Int.ofNat_le] at h); simp (disch := omega) only [go_sem, hE, hH, ↓reduceIte, hb]; (try clear hb))) | ((with_reducible refine And.intro ?_ ?_); · omega) | (with_reducible apply jn) | (with_reducible apply both) | (with_reducible refine And.intro ?_ ?_) | ((with_reducible apply fin_eq); (try (simp (disch := omega) only [go_sem, hE, hH, ↓reduceIte])); first | done | rfl) | (simp (disch := omega) only [go_sem, hE, hH, ↓reduceIte]) | (exact (noMLL_set (by simp only [go_sem, hE, hH, ↓reduceIte]) (by simp only [go_sem, hE, hH, ↓reduceIte])).2 trivial) | (exact (pk_set (by simp only [go_sem, hE, hH, ↓reduceIte]) (by simp only [go_sem, hE, hH, ↓reduceIte])).2 trivial) | (simp only [go_sem, hE, hH, ↓reduceIte]) | fail)
    exact ⟨x, rfl, hx, hI⟩
theorem l12Next_ok (l far : List Int) (hl : l.length ≤ maxLen) (h : ∀ w, w ∈ l → 0 ≤ w ∧ w < far.length) : ACall Try.prog n_spec_l12Next [.sl false 1 (ints l), .sl false 1 (ints far)] (fun r _ => r = i64 (nx (fun v => nth far v.toNat) l)) := by
  have hmx := mx_eq
  refine fn_in h_spec_l12Next r_spec_l12Next ⟨by simp only [go_sem, ↓reduceIte], fun E hE hH => ?_⟩; simp only [go_sem, ↓reduceIte] at hE hH; simp only [go_sem, hE, hH, ↓reduceIte, c_spec_l12Next]
  repeat' (first | ((with_reducible (first | refine gd_t (fun h => ?_) (fun h => ?_) | refine gd_f (fun h => ?_) (fun h => ?_))) <;> (have hb := h; (try simp only [decide_eq_true_eq, decide_eq_false_iff_not, Int.not_lt, Int.not_le, ge_iff_le, gt_iff_lt, Bool.not_eq_true', Bool.not_eq_false', beq_iff_eq, bne_iff_ne, beq_eq_false_iff_ne, bne_eq_false_iff_eq, Int.ofNat_lt, Int.ofNat_le] at h); simp (disch := omega) only [go_sem, hE, hH, ↓reduceIte, hb]; (try clear hb))) | ((with_reducible refine And.intro ?_ ?_); · omega) | (with_reducible apply jn) | (with_reducible apply both) | (with_reducible refine And.intro ?_ ?_) | ((with_reducible apply fin_eq); (try (simp (disch := omega) only [go_sem, hE, hH, ↓reduceIte])); first | done | rfl) | (simp (disch := omega) only [go_sem, hE, hH, ↓reduceIte]) | (exact (noMLL_set (by simp only [go_sem, hE, hH, ↓reduceIte]) (by simp only [go_sem, hE, hH, ↓reduceIte])).2 trivial) | (exact (pk_set (by simp only [go_sem, hE, hH, ↓reduceIte]) (by simp only [go_sem, hE, hH, ↓reduceIte])).2 trivial) | (simp only [go_sem, hE, hH, ↓reduceIte]) | fail)
  refine loopNe l.length (fun j (b : Int) => ⟨[(1, .sl false 1 (ints far)), (5, i64 b), (8, .sl false 1 (ints l)), (9, i64 l.length), (10, i64 j)], []⟩) (fun j b => b = nx (fun v => nth far v.toNat) (l.take j)) (-1) rfl rfl ?_
  intro j b hj hI
  try simp only [go_sem, hE, hH, ↓reduceIte, c_spec_l12Next_l1]
  first | refine gd_t (fun q1 => ?_) (fun q1 => ?_) | refine gd_f (fun q1 => ?_) (fun q1 => ?_)
  · have hb1 := q1
    simp only [decide_eq_true_eq, decide_eq_false_iff_not, Int.not_lt, Int.not_le, ge_iff_le, gt_iff_lt, Bool.not_eq_true', Bool.not_eq_false', beq_iff_eq, bne_iff_ne, beq_eq_false_iff_ne, bne_eq_false_iff_eq, Int.ofNat_lt, Int.ofNat_le] at q1
    have hw := h _ (nth_mem q1)
    have hb : b = -1 ∨ (0 ≤ b ∧ b < far.length) := by
      rcases nx_is (F := fun v => nth far v.toNat) (l := l.take j) (fun w hw => (h w (List.mem_of_mem_take hw)).1) with ⟨e, _⟩ | ⟨e, _⟩
      · left; omega
      · right; rw [hI]; exact h _ (List.mem_of_mem_take e)
    try simp (disch := omega) only [go_sem, hE, hH, ↓reduceIte, hb1]
    have hs : nx (fun v => nth far v.toNat) (l.take (j + 1)) = if (decide (0 ≤ nth far (nth l j).toNat) && (decide (b < 0) || decide (nth far (nth l j).toNat < nth far b.toNat) || (decide (nth far (nth l j).toNat = nth far b.toNat) && decide (nth l j < b)))) = true then nth l j else b := by
      rw [nx, foldl_tk q1, ← nx, ← hI]
    repeat' (first | ((with_reducible (first | refine gd_t (fun h => ?_) (fun h => ?_) | refine gd_f (fun h => ?_) (fun h => ?_))) <;> (have hb := h; (try simp only [decide_eq_true_eq, decide_eq_false_iff_not, Int.not_lt, Int.not_le, ge_iff_le, gt_iff_lt, Bool.not_eq_true', Bool.not_eq_false', beq_iff_eq, bne_iff_ne, beq_eq_false_iff_ne, bne_eq_false_iff_eq, Int.ofNat_lt, Int.ofNat_le] at h); simp (disch := omega) only [go_sem, hE, hH, ↓reduceIte, hb]; (try clear hb))) | ((with_reducible refine And.intro ?_ ?_); · omega) | (with_reducible apply jn) | (with_reducible apply both) | (with_reducible refine And.intro ?_ ?_) | ((with_reducible apply fin_eq); (try (simp (disch := omega) only [go_sem, hE, hH, ↓reduceIte])); first | done | rfl) | (simp (disch := omega) only [go_sem, hE, hH, ↓reduceIte]) | (exact (noMLL_set (by simp only [go_sem, hE, hH, ↓reduceIte]) (by simp only [go_sem, hE, hH, ↓reduceIte])).2 trivial) | (exact (pk_set (by simp only [go_sem, hE, hH, ↓reduceIte]) (by simp only [go_sem, hE, hH, ↓reduceIte])).2 trivial) | (simp only [go_sem, hE, hH, ↓reduceIte]) | fail)
    all_goals (rw [hs]; first | (rw [if_pos (by simp only [Bool.and_eq_true, Bool.or_eq_true, decide_eq_true_eq]; omega)]; rfl) | (rw [if_neg (by simp only [Bool.and_eq_true, Bool.or_eq_true, decide_eq_true_eq]; omega)]; rfl))
  · have q2 := q1
    simp only [decide_eq_true_eq, decide_eq_false_iff_not, Int.not_lt, Int.not_le, ge_iff_le, gt_iff_lt, Bool.not_eq_true', Bool.not_eq_false', beq_iff_eq, bne_iff_ne, beq_eq_false_iff_ne, bne_eq_false_iff_eq, Int.ofNat_lt, Int.ofNat_le] at q2
    obtain rfl : j = l.length := by omega
    rw [List.take_length] at hI
    try simp (disch := omega) only [go_sem, hE, hH, ↓reduceIte, q1]
    repeat' (first | ((with_reducible (first | refine gd_t (fun h => ?_) (fun h => ?_) | refine gd_f (fun h => ?_) (fun h => ?_))) <;> (have hb := h; (try simp only [decide_eq_true_eq, decide_eq_false_iff_not, Int.not_lt, Int.not_le, ge_iff_le, gt_iff_lt, Bool.not_eq_true', Bool.not_eq_false', beq_iff_eq, bne_iff_ne, beq_eq_false_iff_ne, bne_eq_false_iff_eq, Int.ofNat_lt, Int.ofNat_le] at h); simp (disch := omega) only [go_sem, hE, hH, ↓reduceIte, hb]; (try clear hb))) | ((with_reducible refine And.intro ?_ ?_); · omega) | (with_reducible apply jn) | (with_reducible apply both) | (with_reducible refine And.intro ?_ ?_) | ((with_reducible apply fin_eq); (try (simp (disch := omega) only [go_sem, hE, hH, ↓reduceIte])); first | done | rfl) | (simp (disch := omega) only [go_sem, hE, hH, ↓reduceIte]) | (exact (noMLL_set (by simp only [go_sem, hE, hH, ↓reduceIte]) (by simp only [go_sem, hE, hH, ↓reduceIte])).2 trivial) | (exact (pk_set (by simp only [go_sem, hE, hH, ↓reduceIte]) (by simp only [go_sem, hE, hH, ↓reduceIte])).2 trivial) | (simp only [go_sem, hE, hH, ↓reduceIte]) | fail)
    rw [hI]
theorem bet_set {x : List Int} {k v : Nat} {y d : Int} (hv : v < x.length) (h : 0 ≤ nth x v ∧ nth x v ≤ d) (h0 : 0 ≤ y) (h2 : nth x k < 0 ∨ y < nth x k) : 0 ≤ nth (x.set k y) v ∧ nth (x.set k y) v ≤ d := by
  rw [nth_st hv]
  split
  · rename_i e; subst e; omega
  · exact h
theorem l12Far_ok (g : List (List Int)) (t : Nat) (ht : t < g.length) (hg : okG g) (hgm : ∀ i, (nth g i).length ≤ maxLen) : ACall Try.prog n_spec_l12Far [grT false g, i64 t] (fun r _ => ∃ x : List Int, r = .sl true 1 (ints x) ∧ x.length = g.length ∧ ∀ v : Nat, v < g.length → nth x v = d0 g t v ∧ nth x v < g.length) := by
  have hmx := mx_eq
  have hgl := hg.1
  refine fn_in h_spec_l12Far r_spec_l12Far ⟨by simp only [go_sem, ↓reduceIte], fun E hE hH => ?_⟩; simp only [go_sem, ↓reduceIte] at hE hH; simp only [go_sem, hE, hH, ↓reduceIte, c_spec_l12Far]
  repeat' (first | ((with_reducible (first | refine gd_t (fun h => ?_) (fun h => ?_) | refine gd_f (fun h => ?_) (fun h => ?_))) <;> (have hb := h; (try simp only [decide_eq_true_eq, decide_eq_false_iff_not, Int.not_lt, Int.not_le, ge_iff_le, gt_iff_lt, Bool.not_eq_true', Bool.not_eq_false', beq_iff_eq, bne_iff_ne, beq_eq_false_iff_ne, bne_eq_false_iff_eq, Int.ofNat_lt, Int.ofNat_le] at h); simp (disch := omega) only [go_sem, hE, hH, ↓reduceIte, hb]; (try clear hb))) | ((with_reducible refine And.intro ?_ ?_); · omega) | (with_reducible apply jn) | (with_reducible apply both) | (with_reducible refine And.intro ?_ ?_) | ((with_reducible apply fin_eq); (try (simp (disch := omega) only [go_sem, hE, hH, ↓reduceIte])); first | done | rfl) | (simp (disch := omega) only [go_sem, hE, hH, ↓reduceIte]) | (exact (noMLL_set (by simp only [go_sem, hE, hH, ↓reduceIte]) (by simp only [go_sem, hE, hH, ↓reduceIte])).2 trivial) | (exact (pk_set (by simp only [go_sem, hE, hH, ↓reduceIte]) (by simp only [go_sem, hE, hH, ↓reduceIte])).2 trivial) | (simp only [go_sem, hE, hH, ↓reduceIte]) | fail)
  refine loopNe g.length (fun j (x : List Int) => ⟨[(0, grT false g), (1, i64 t), (5, .ref 6000000 0 g.length), (15, i64 g.length), (16, i64 j)], [(6000000, ⟨1, ints x⟩)]⟩) (fun j x => x.length = g.length ∧ ∀ v : Nat, v < j → nth x v = -1) (List.replicate g.length 0) (by simp [ints]) ⟨by simp, fun v hv => by omega⟩ ?_
  rintro j x hj ⟨hx, hI⟩
  try simp only [go_sem, hE, hH, ↓reduceIte, c_spec_l12Far_l1]
  first | refine gd_t (fun q1 => ?_) (fun q1 => ?_) | refine gd_f (fun q1 => ?_) (fun q1 => ?_)
  · have hb1 := q1
    simp only [decide_eq_true_eq, decide_eq_false_iff_not, Int.not_lt, Int.not_le, ge_iff_le, gt_iff_lt, Bool.not_eq_true', Bool.not_eq_false', beq_iff_eq, bne_iff_ne, beq_eq_false_iff_ne, bne_eq_false_iff_eq, Int.ofNat_lt, Int.ofNat_le] at q1
    try simp (disch := omega) only [go_sem, hE, hH, ↓reduceIte, hb1]
    repeat' (first | ((with_reducible (first | refine gd_t (fun h => ?_) (fun h => ?_) | refine gd_f (fun h => ?_) (fun h => ?_))) <;> (have hb := h; (try simp only [decide_eq_true_eq, decide_eq_false_iff_not, Int.not_lt, Int.not_le, ge_iff_le, gt_iff_lt, Bool.not_eq_true', Bool.not_eq_false', beq_iff_eq, bne_iff_ne, beq_eq_false_iff_ne, bne_eq_false_iff_eq, Int.ofNat_lt, Int.ofNat_le] at h); simp (disch := omega) only [go_sem, hE, hH, ↓reduceIte, hb]; (try clear hb))) | ((with_reducible refine And.intro ?_ ?_); · omega) | (with_reducible apply jn) | (with_reducible apply both) | (with_reducible refine And.intro ?_ ?_) | ((with_reducible apply fin_eq); (try (simp (disch := omega) only [go_sem, hE, hH, ↓reduceIte])); first | done | rfl) | (simp (disch := omega) only [go_sem, hE, hH, ↓reduceIte]) | (exact (noMLL_set (by simp only [go_sem, hE, hH, ↓reduceIte]) (by simp only [go_sem, hE, hH, ↓reduceIte])).2 trivial) | (exact (pk_set (by simp only [go_sem, hE, hH, ↓reduceIte]) (by simp only [go_sem, hE, hH, ↓reduceIte])).2 trivial) | (simp only [go_sem, hE, hH, ↓reduceIte]) | fail)
    refine ⟨x.set j (-1), rfl, by simp [hx], fun v hv => ?_⟩
    rw [nth_st (by omega)]
    split
    · rfl
    · exact hI v (by omega)
  · have q2 := q1
    simp only [decide_eq_true_eq, decide_eq_false_iff_not, Int.not_lt, Int.not_le, ge_iff_le, gt_iff_lt, Bool.not_eq_true', Bool.not_eq_false', beq_iff_eq, bne_iff_ne, beq_eq_false_iff_ne, bne_eq_false_iff_eq, Int.ofNat_lt, Int.ofNat_le] at q2
    obtain rfl : j = g.length := by omega
    try simp (disch := omega) only [go_sem, hE, hH, ↓reduceIte, q1]
    repeat' (first | ((with_reducible (first | refine gd_t (fun h => ?_) (fun h => ?_) | refine gd_f (fun h => ?_) (fun h => ?_))) <;> (have hb := h; (try simp only [decide_eq_true_eq, decide_eq_false_iff_not, Int.not_lt, Int.not_le, ge_iff_le, gt_iff_lt, Bool.not_eq_true', Bool.not_eq_false', beq_iff_eq, bne_iff_ne, beq_eq_false_iff_ne, bne_eq_false_iff_eq, Int.ofNat_lt, Int.ofNat_le] at h); simp (disch := omega) only [go_sem, hE, hH, ↓reduceIte, hb]; (try clear hb))) | ((with_reducible refine And.intro ?_ ?_); · omega) | (with_reducible apply jn) | (with_reducible apply both) | (with_reducible refine And.intro ?_ ?_) | ((with_reducible apply fin_eq); (try (simp (disch := omega) only [go_sem, hE, hH, ↓reduceIte])); first | done | rfl) | (simp (disch := omega) only [go_sem, hE, hH, ↓reduceIte]) | (exact (noMLL_set (by simp only [go_sem, hE, hH, ↓reduceIte]) (by simp only [go_sem, hE, hH, ↓reduceIte])).2 trivial) | (exact (pk_set (by simp only [go_sem, hE, hH, ↓reduceIte]) (by simp only [go_sem, hE, hH, ↓reduceIte])).2 trivial) | (simp only [go_sem, hE, hH, ↓reduceIte]) | fail)
    have hini : sndF g t (x.set t 0) ∧ cplF g t (x.set t 0) 0 := by
      refine ⟨⟨by simp [hx], fun v hv => ?_, fun v hv h => ?_⟩, fun v hv d hd hw => ?_⟩
      · rw [nth_st (by omega)]; have := hI v hv; split <;> omega
      · rw [nth_st (by omega)] at h ⊢
        by_cases e : t = v
        · subst e
          rw [if_pos rfl]
          refine ⟨by simp [wk], ?_⟩
          have : 0 < (x.set t 0).countP (fun y => decide (0 ≤ y)) := by
            rw [List.countP_pos_iff]
            refine ⟨nth (x.set t 0) t, nth_mem (by simp; omega), ?_⟩
            rw [nth_st (by omega), if_pos rfl]; rfl
          omega
        · rw [if_neg e] at h
          have := hI v hv; omega
      · obtain rfl : d = 0 := by omega
        simp only [wk, decide_eq_true_eq] at hw
        rw [nth_st (by omega), if_pos (by omega)]
        omega
    refine loopNe g.length (fun r (x : List Int) => ⟨[(0, grT false g), (5, .ref 6000000 0 g.length), (27, i64 g.length), (28, i64 r)], [(6000000, ⟨1, ints x⟩)]⟩) (fun r x => sndF g t x ∧ cplF g t x r) (x.set t 0) rfl hini ?_
    rintro r y hr ⟨hS, hC⟩
    try simp only [go_sem, hE, hH, ↓reduceIte, c_spec_l12Far_l4]
    first | refine gd_t (fun q1 => ?_) (fun q1 => ?_) | refine gd_f (fun q1 => ?_) (fun q1 => ?_)
    · have hb1 := q1
      simp only [decide_eq_true_eq, decide_eq_false_iff_not, Int.not_lt, Int.not_le, ge_iff_le, gt_iff_lt, Bool.not_eq_true', Bool.not_eq_false', beq_iff_eq, bne_iff_ne, beq_eq_false_iff_ne, bne_eq_false_iff_eq, Int.ofNat_lt, Int.ofNat_le] at q1
      try simp (disch := omega) only [go_sem, hE, hH, ↓reduceIte, hb1]
      refine loopNe g.length (fun k (x : List Int) => ⟨[(0, grT false g), (5, .ref 6000000 0 g.length), (27, i64 g.length), (28, i64 r), (30, grT false g), (31, i64 g.length), (32, i64 k)], [(6000000, ⟨1, ints x⟩)]⟩) (fun k x => sndF g t x ∧ cplF g t x r ∧ ∀ v : Nat, v < k → ∀ d, d ≤ r + 1 → wk g t d v = true → 0 ≤ nth x v ∧ nth x v ≤ d) y rfl ⟨hS, hC, fun v hv => by omega⟩ ?_
      rintro k z hk ⟨hS2, hC2, hK⟩
      try simp only [go_sem, hE, hH, ↓reduceIte, c_spec_l12Far_l3]
      first | refine gd_t (fun q3 => ?_) (fun q3 => ?_) | refine gd_f (fun q3 => ?_) (fun q3 => ?_)
      · have hb3 := q3
        simp only [decide_eq_true_eq, decide_eq_false_iff_not, Int.not_lt, Int.not_le, ge_iff_le, gt_iff_lt, Bool.not_eq_true', Bool.not_eq_false', beq_iff_eq, bne_iff_ne, beq_eq_false_iff_ne, bne_eq_false_iff_eq, Int.ofNat_lt, Int.ofNat_le] at q3
        try simp (disch := omega) only [go_sem, hE, hH, ↓reduceIte, hb3]
        have hgk := hgm k
        repeat' (first | ((with_reducible (first | refine gd_t (fun h => ?_) (fun h => ?_) | refine gd_f (fun h => ?_) (fun h => ?_))) <;> (have hb := h; (try simp only [decide_eq_true_eq, decide_eq_false_iff_not, Int.not_lt, Int.not_le, ge_iff_le, gt_iff_lt, Bool.not_eq_true', Bool.not_eq_false', beq_iff_eq, bne_iff_ne, beq_eq_false_iff_ne, bne_eq_false_iff_eq, Int.ofNat_lt, Int.ofNat_le] at h); simp (disch := omega) only [go_sem, hE, hH, ↓reduceIte, hb]; (try clear hb))) | ((with_reducible refine And.intro ?_ ?_); · omega) | (with_reducible apply jn) | (with_reducible apply both) | (with_reducible refine And.intro ?_ ?_) | ((with_reducible apply fin_eq); (try (simp (disch := omega) only [go_sem, hE, hH, ↓reduceIte])); first | done | rfl) | (simp (disch := omega) only [go_sem, hE, hH, ↓reduceIte]) | (exact (noMLL_set (by simp only [go_sem, hE, hH, ↓reduceIte]) (by simp only [go_sem, hE, hH, ↓reduceIte])).2 trivial) | (exact (pk_set (by simp only [go_sem, hE, hH, ↓reduceIte]) (by simp only [go_sem, hE, hH, ↓reduceIte])).2 trivial) | (simp only [go_sem, hE, hH, ↓reduceIte]) | fail)
        refine loopNe (nth g k).length (fun i (x : List Int) => ⟨[(0, grT false g), (5, .ref 6000000 0 g.length), (7, i64 k), (27, i64 g.length), (28, i64 r), (30, grT false g), (31, i64 g.length), (32, i64 k), (37, .sl false 1 (ints (nth g k))), (38, i64 (nth g k).length), (39, i64 i)], [(6000000, ⟨1, ints x⟩)]⟩) (fun i x => sndF g t x ∧ cplF g t x r ∧ (∀ v : Nat, v < k → ∀ d, d ≤ r + 1 → wk g t d v = true → 0 ≤ nth x v ∧ nth x v ≤ d) ∧ ∀ i', i' < i → 0 ≤ nth x (nth (nth g k) i').toNat → 0 ≤ nth x k ∧ nth x k ≤ nth x (nth (nth g k) i').toNat + 1) z rfl ⟨hS2, hC2, hK, fun v hv => by omega⟩ ?_
        rintro i x hi ⟨hS3, hC3, hK3, hJ⟩
        have hxl : x.length = g.length := hS3.1
        try simp only [go_sem, hE, hH, ↓reduceIte, c_spec_l12Far_l2]
        first | refine gd_t (fun q5 => ?_) (fun q5 => ?_) | refine gd_f (fun q5 => ?_) (fun q5 => ?_)
        · have hb5 := q5
          simp only [decide_eq_true_eq, decide_eq_false_iff_not, Int.not_lt, Int.not_le, ge_iff_le, gt_iff_lt, Bool.not_eq_true', Bool.not_eq_false', beq_iff_eq, bne_iff_ne, beq_eq_false_iff_ne, bne_eq_false_iff_eq, Int.ofNat_lt, Int.ofNat_le] at q5
          have hw := hg.2 _ (nth_mem q3) _ (nth_mem q5)
          have hwm : nth (nth g k) i ∈ nb g k := nth_mem q5
          have hwc : (((nth (nth g k) i).toNat : Nat) : Int) = nth (nth g k) i := by omega
          have hxb : -1 ≤ nth x (nth (nth g k) i).toNat ∧ nth x (nth (nth g k) i).toNat ≤ 20 := by
            refine ⟨hS3.2.1 _ (by omega), ?_⟩
            by_cases h : 0 ≤ nth x (nth (nth g k) i).toNat
            · have := (hS3.2.2 _ (by omega) h).2
              have : x.countP (fun y => decide (0 ≤ y)) ≤ x.length := List.countP_le_length
              omega
            · omega
          have hset : 0 ≤ nth x (nth (nth g k) i).toNat → (nth x k < 0 ∨ nth x (nth (nth g k) i).toNat + 1 < nth x k) → (sndF g t (x.set k (nth x (nth (nth g k) i).toNat + 1)) ∧ cplF g t (x.set k (nth x (nth (nth g k) i).toNat + 1)) r ∧ (∀ v : Nat, v < k → ∀ d, d ≤ r + 1 → wk g t d v = true → 0 ≤ nth (x.set k (nth x (nth (nth g k) i).toNat + 1)) v ∧ nth (x.set k (nth x (nth (nth g k) i).toNat + 1)) v ≤ d) ∧ ∀ i', i' < i + 1 → 0 ≤ nth (x.set k (nth x (nth (nth g k) i).toNat + 1)) (nth (nth g k) i').toNat → 0 ≤ nth (x.set k (nth x (nth (nth g k) i).toNat + 1)) k ∧ nth (x.set k (nth x (nth (nth g k) i).toNat + 1)) k ≤ nth (x.set k (nth x (nth (nth g k) i).toNat + 1)) (nth (nth g k) i').toNat + 1) := by
            intro h0 h2
            refine ⟨snd_set hS3 q3 (by omega) (by rw [hwc]; exact hwm) h0 h2, cpl_set hxl hC3 (by omega) h2, fun v hv d hd hh => bet_set (by omega) (hK3 v hv d hd hh) (by omega) h2, fun i' hi' h => ?_⟩
            have hr' := hg.2 _ (nth_mem q3) _ (nth_mem (show i' < (nth g k).length by omega))
            rw [nth_st (by omega)] at h
            rw [nth_st (by omega), nth_st (by omega), if_pos rfl]
            refine ⟨by omega, ?_⟩
            split at h
            · rename_i e; rw [if_pos e]; omega
            · rename_i e
              rw [if_neg e]
              by_cases e2 : i' = i
              · subst e2; omega
              · have := hJ i' (by omega) h; omega
          try simp (disch := omega) only [go_sem, hE, hH, ↓reduceIte, hb5]
          repeat' (first | ((with_reducible (first | refine gd_t (fun h => ?_) (fun h => ?_) | refine gd_f (fun h => ?_) (fun h => ?_))) <;> (have hb := h; (try simp only [decide_eq_true_eq, decide_eq_false_iff_not, Int.not_lt, Int.not_le, ge_iff_le, gt_iff_lt, Bool.not_eq_true', Bool.not_eq_false', beq_iff_eq, bne_iff_ne, beq_eq_false_iff_ne, bne_eq_false_iff_eq, Int.ofNat_lt, Int.ofNat_le] at h); simp (disch := omega) only [go_sem, hE, hH, ↓reduceIte, hb]; (try clear hb))) | ((with_reducible refine And.intro ?_ ?_); · omega) | (with_reducible apply jn) | (with_reducible apply both) | (with_reducible refine And.intro ?_ ?_) | ((with_reducible apply fin_eq); (try (simp (disch := omega) only [go_sem, hE, hH, ↓reduceIte])); first | done | rfl) | (simp (disch := omega) only [go_sem, hE, hH, ↓reduceIte]) | (exact (noMLL_set (by simp only [go_sem, hE, hH, ↓reduceIte]) (by simp only [go_sem, hE, hH, ↓reduceIte])).2 trivial) | (exact (pk_set (by simp only [go_sem, hE, hH, ↓reduceIte]) (by simp only [go_sem, hE, hH, ↓reduceIte])).2 trivial) | (simp only [go_sem, hE, hH, ↓reduceIte]) | fail)
          all_goals (first | exact ⟨_, rfl, hset (by omega) (by omega)⟩ | exact ⟨x, rfl, hS3, hC3, hK3, fun i' hi' h => by
            by_cases e : i' = i
            · subst e; omega
            · exact hJ i' (by omega) h⟩)
        · try simp (disch := omega) only [go_sem, hE, hH, ↓reduceIte, q5]
          simp only [decide_eq_true_eq, decide_eq_false_iff_not, Int.not_lt, Int.not_le, ge_iff_le, gt_iff_lt, Bool.not_eq_true', Bool.not_eq_false', beq_iff_eq, bne_iff_ne, beq_eq_false_iff_ne, bne_eq_false_iff_eq, Int.ofNat_lt, Int.ofNat_le] at q5
          repeat' (first | ((with_reducible (first | refine gd_t (fun h => ?_) (fun h => ?_) | refine gd_f (fun h => ?_) (fun h => ?_))) <;> (have hb := h; (try simp only [decide_eq_true_eq, decide_eq_false_iff_not, Int.not_lt, Int.not_le, ge_iff_le, gt_iff_lt, Bool.not_eq_true', Bool.not_eq_false', beq_iff_eq, bne_iff_ne, beq_eq_false_iff_ne, bne_eq_false_iff_eq, Int.ofNat_lt, Int.ofNat_le] at h); simp (disch := omega) only [go_sem, hE, hH, ↓reduceIte, hb]; (try clear hb))) | ((with_reducible refine And.intro ?_ ?_); · omega) | (with_reducible apply jn) | (with_reducible apply both) | (with_reducible refine And.intro ?_ ?_) | ((with_reducible apply fin_eq); (try (simp (disch := omega) only [go_sem, hE, hH, ↓reduceIte])); first | done | rfl) | (simp (disch := omega) only [go_sem, hE, hH, ↓reduceIte]) | (exact (noMLL_set (by simp only [go_sem, hE, hH, ↓reduceIte]) (by simp only [go_sem, hE, hH, ↓reduceIte])).2 trivial) | (exact (pk_set (by simp only [go_sem, hE, hH, ↓reduceIte]) (by simp only [go_sem, hE, hH, ↓reduceIte])).2 trivial) | (simp only [go_sem, hE, hH, ↓reduceIte]) | fail)
          refine ⟨x, rfl, hS3, hC3, fun v hv d hd hh => ?_⟩
          by_cases e : v = k
          · subst e
            cases d with
            | zero => exact hC3 _ q3 0 (by omega) hh
            | succ d =>
              obtain ⟨w, h1, h2⟩ := wk_succ.1 hh
              obtain ⟨i', h3, h4⟩ := List.getElem_of_mem h1
              have hl : nb g v = nth g v := rfl
              have h5 : i' < (nth g v).length := h3
              have h6 : nth (nth g v) i' = w := by rw [nth_lt h5]; exact h4
              have hr' := hg.2 _ (nth_mem q3) _ (nth_mem h5)
              have hc := hC3 w.toNat (by omega) d (by omega) (by rw [show ((w.toNat : Nat) : Int) = w by omega]; exact h2)
              have := hJ i' (by omega) (by rw [h6]; exact hc.1)
              rw [h6] at this
              omega
          · exact hK3 v (by omega) d hd hh
      · have q4 := q3
        simp only [decide_eq_true_eq, decide_eq_false_iff_not, Int.not_lt, Int.not_le, ge_iff_le, gt_iff_lt, Bool.not_eq_true', Bool.not_eq_false', beq_iff_eq, bne_iff_ne, beq_eq_false_iff_ne, bne_eq_false_iff_eq, Int.ofNat_lt, Int.ofNat_le] at q4
        obtain rfl : k = g.length := by omega
        try simp (disch := omega) only [go_sem, hE, hH, ↓reduceIte, q3]
        repeat' (first | ((with_reducible (first | refine gd_t (fun h => ?_) (fun h => ?_) | refine gd_f (fun h => ?_) (fun h => ?_))) <;> (have hb := h; (try simp only [decide_eq_true_eq, decide_eq_false_iff_not, Int.not_lt, Int.not_le, ge_iff_le, gt_iff_lt, Bool.not_eq_true', Bool.not_eq_false', beq_iff_eq, bne_iff_ne, beq_eq_false_iff_ne, bne_eq_false_iff_eq, Int.ofNat_lt, Int.ofNat_le] at h); simp (disch := omega) only [go_sem, hE, hH, ↓reduceIte, hb]; (try clear hb))) | ((with_reducible refine And.intro ?_ ?_); · omega) | (with_reducible apply jn) | (with_reducible apply both) | (with_reducible refine And.intro ?_ ?_) | ((with_reducible apply fin_eq); (try (simp (disch := omega) only [go_sem, hE, hH, ↓reduceIte])); first | done | rfl) | (simp (disch := omega) only [go_sem, hE, hH, ↓reduceIte]) | (exact (noMLL_set (by simp only [go_sem, hE, hH, ↓reduceIte]) (by simp only [go_sem, hE, hH, ↓reduceIte])).2 trivial) | (exact (pk_set (by simp only [go_sem, hE, hH, ↓reduceIte]) (by simp only [go_sem, hE, hH, ↓reduceIte])).2 trivial) | (simp only [go_sem, hE, hH, ↓reduceIte]) | fail)
        refine ⟨z, rfl, hS2, fun v hv d hd hw => hK v hv d hd hw⟩
    · have q3 := q1
      simp only [decide_eq_true_eq, decide_eq_false_iff_not, Int.not_lt, Int.not_le, ge_iff_le, gt_iff_lt, Bool.not_eq_true', Bool.not_eq_false', beq_iff_eq, bne_iff_ne, beq_eq_false_iff_ne, bne_eq_false_iff_eq, Int.ofNat_lt, Int.ofNat_le] at q3
      obtain rfl : r = g.length := by omega
      try simp (disch := omega) only [go_sem, hE, hH, ↓reduceIte, q1]
      have hyl : y.length = g.length := hS.1
      repeat' (first | ((with_reducible (first | refine gd_t (fun h => ?_) (fun h => ?_) | refine gd_f (fun h => ?_) (fun h => ?_))) <;> (have hb := h; (try simp only [decide_eq_true_eq, decide_eq_false_iff_not, Int.not_lt, Int.not_le, ge_iff_le, gt_iff_lt, Bool.not_eq_true', Bool.not_eq_false', beq_iff_eq, bne_iff_ne, beq_eq_false_iff_ne, bne_eq_false_iff_eq, Int.ofNat_lt, Int.ofNat_le] at h); simp (disch := omega) only [go_sem, hE, hH, ↓reduceIte, hb]; (try clear hb))) | ((with_reducible refine And.intro ?_ ?_); · omega) | (with_reducible apply jn) | (with_reducible apply both) | (with_reducible refine And.intro ?_ ?_) | ((with_reducible apply fin_eq); (try (simp (disch := omega) only [go_sem, hE, hH, ↓reduceIte])); first | done | rfl) | (simp (disch := omega) only [go_sem, hE, hH, ↓reduceIte]) | (exact (noMLL_set (by simp only [go_sem, hE, hH, ↓reduceIte]) (by simp only [go_sem, hE, hH, ↓reduceIte])).2 trivial) | (exact (pk_set (by simp only [go_sem, hE, hH, ↓reduceIte]) (by simp only [go_sem, hE, hH, ↓reduceIte])).2 trivial) | (simp only [go_sem, hE, hH, ↓reduceIte]) | fail)
      refine ⟨y, rfl, hyl, fun v hv => ⟨far_d0 hS hC hv, ?_⟩⟩
      by_cases h : 0 ≤ nth y v
      · have := (hS.2.2 v hv h).2
        have : y.countP (fun y => decide (0 ≤ y)) ≤ y.length := List.countP_le_length
        omega
      · omega
theorem FindRing_1_ok (w : Int) (g : List (List Int)) (hl : g.length ≤ maxLen) : ACall Try.prog n_impl_FindRing_1 ([i64 w] ++ [.bx false [grT false g]]) (fun r _ => r = bl (!rng w 0 ((g.length : Int) - 1))) := by
  have hmx := mx_eq
  refine fn_in h_impl_FindRing_1 r_impl_FindRing_1 ⟨by simp only [go_sem, ↓reduceIte], fun E hE hH => ?_⟩; simp only [go_sem, ↓reduceIte] at hE hH; simp only [go_sem, hE, hH, ↓reduceIte, c_impl_FindRing_1]
  repeat' (first | ((with_reducible (first | refine gd_t (fun h => ?_) (fun h => ?_) | refine gd_f (fun h => ?_) (fun h => ?_))) <;> (have hb := h; (try simp only [decide_eq_true_eq, decide_eq_false_iff_not, Int.not_lt, Int.not_le, ge_iff_le, gt_iff_lt, Bool.not_eq_true', Bool.not_eq_false', beq_iff_eq, bne_iff_ne, beq_eq_false_iff_ne, bne_eq_false_iff_eq, Int.ofNat_lt, Int.ofNat_le] at h); simp (disch := omega) only [go_sem, hE, hH, ↓reduceIte, hb]; (try clear hb))) | ((with_reducible refine And.intro ?_ ?_); · omega) | (refine ok_view ?_; simp (disch := omega) only [go_sem, hE, hH, ↓reduceIte]) | (refine cvA (within_ok _ _ _) ?_; simp (disch := omega) only [go_sem, hE, hH, ↓reduceIte]) | (with_reducible apply jn) | (with_reducible apply both) | (with_reducible refine And.intro ?_ ?_) | ((with_reducible apply fin_eq); (try (simp (disch := omega) only [go_sem, hE, hH, ↓reduceIte])); first | done | rfl) | (simp (disch := omega) only [go_sem, hE, hH, ↓reduceIte]) | (exact (noMLL_set (by simp only [go_sem, hE, hH, ↓reduceIte]) (by simp only [go_sem, hE, hH, ↓reduceIte])).2 trivial) | (exact (pk_set (by simp only [go_sem, hE, hH, ↓reduceIte]) (by simp only [go_sem, hE, hH, ↓reduceIte])).2 trivial) | (simp only [go_sem, hE, hH, ↓reduceIte]) | fail)
theorem nth_last {α : Type} [Inhabited α] {l : List α} {i : Nat} {b : α} (h : l.length = i) : nth (l ++ [b]) i = b := by
  subst h; simp [nth, List.getD]
theorem nx_congr {F G : Int → Int} : ∀ {l : List Int} {b : Int}, (∀ w, w ∈ l → F w = G w) → (b < 0 ∨ F b = G b) → l.foldl (fun b w => if decide (0 ≤ F w) && (decide (b < 0) || decide (F w < F b) || (decide (F w = F b) && decide (w < b))) then w else b) b = l.foldl (fun b w => if decide (0 ≤ G w) && (decide (b < 0) || decide (G w < G b) || (decide (G w = G b) && decide (w < b))) then w else b) b
  | [], _, _, _ => rfl
  | a :: l, b, h, hb => by
    have ha := h a (List.mem_cons_self ..)
    have e : (decide (0 ≤ F a) && (decide (b < 0) || decide (F a < F b) || (decide (F a = F b) && decide (a < b)))) = (decide (0 ≤ G a) && (decide (b < 0) || decide (G a < G b) || (decide (G a = G b) && decide (a < b)))) := by
      rw [ha]
      rcases hb with hb | hb
      · simp [hb]
      · rw [hb]
    simp only [List.foldl_cons]
    rw [e]
    refine nx_congr (fun w hw => h w (List.mem_cons_of_mem _ hw)) ?_
    split
    · exact .inr ha
    · exact hb
theorem nx_none {g : List (List Int)} {t : Nat} (hb : ∀ v : Nat, v < g.length → d0 g t v < g.length) (hw : ∀ w, w ∈ nb g t → 0 ≤ w ∧ w < g.length) (h : dl g t g.length t = 0) : nx (d0 g t) (nb g t) = -1 := by
  rcases nx_is (F := d0 g t) (fun w h => (hw w h).1) with ⟨e, _⟩ | ⟨h1, h2, h3, _⟩
  · exact e
  · exfalso
    have hr := hw _ h1
    have hlt := hb (nx (d0 g t) (nb g t)).toNat (by omega)
    rw [show (((nx (d0 g t) (nb g t)).toNat : Nat) : Int) = nx (d0 g t) (nb g t) by omega] at hlt
    by_cases e : nx (d0 g t) (nb g t) = t
    · have := dl_of (g := g) (t := (t : Int)) (j := g.length) (d := 1) (v := (t : Int)) (by omega) (by omega) (wk_succ.2 ⟨_, h1, by simp [wk, e]⟩)
      exact this.1 h
    · obtain ⟨a, b⟩ := d0_pos h3 e
      have := dl_of (g := g) (t := (t : Int)) (j := g.length) (d := dl g t g.length (nx (d0 g t) (nb g t)) + 1) (v := (t : Int)) (by omega) (by omega) (wk_succ.2 ⟨_, h1, (dl_pos a).1⟩)
      exact this.1 h
theorem ringR_len {g : List (List Int)} (h : ¬ g.length ≤ 20) : ringR g = ([], false) := ringR_bad (by
  have : decide ((g.length : Int) ≤ 20) = false := decide_eq_false (by omega)
  simp [goodG, this])
theorem ringR_row {g : List (List Int)} {j : Nat} (hj : j < g.length) (h : ((nth g j).all fun w => rng w 0 ((g.length : Int) - 1)) = false) : ringR g = ([], false) := ringR_bad (by
  have : (g.all fun y => y.all fun w => rng w 0 ((g.length : Int) - 1)) = false := by
    rw [← allN_all (p := fun y : List Int => y.all fun w => rng w 0 ((g.length : Int) - 1))]; exact allN_no hj h
  rw [goodG, this, Bool.and_false])
theorem goodG_of {g : List (List Int)} (h1 : g.length ≤ 20) (h : allN (fun i => (nth g i).all fun w => rng w 0 ((g.length : Int) - 1)) g.length = true) : goodG g = true := by
  rw [allN_all (p := fun y : List Int => y.all fun w => rng w 0 ((g.length : Int) - 1)) (l := g)] at h
  rw [goodG, h, decide_eq_true (by omega)]; rfl
theorem FindRing_ok (g : List (List Int)) (hl : g.length ≤ maxLen) (hgm : ∀ i, (nth g i).length ≤ maxLen) : ACall Try.prog n_impl_FindRing [grT false g] (fun r _ => r = .tup [.sl true 1 (ints (ringR g).1), bl (ringR g).2]) := by
  have hmx := mx_eq
  by_cases hlen : g.length ≤ 20
  · refine fn_in h_impl_FindRing r_impl_FindRing ⟨by simp only [go_sem, ↓reduceIte], fun E hE hH => ?_⟩; simp only [go_sem, ↓reduceIte] at hE hH; simp only [go_sem, hE, hH, ↓reduceIte, c_impl_FindRing]
    repeat' (first | ((with_reducible (first | refine gd_t (fun h => ?_) (fun h => ?_) | refine gd_f (fun h => ?_) (fun h => ?_))) <;> (have hb := h; (try simp only [decide_eq_true_eq, decide_eq_false_iff_not, Int.not_lt, Int.not_le, ge_iff_le, gt_iff_lt, Bool.not_eq_true', Bool.not_eq_false', beq_iff_eq, bne_iff_ne, beq_eq_false_iff_ne, bne_eq_false_iff_eq, Int.ofNat_lt, Int.ofNat_le] at h); simp (disch := omega) only [go_sem, hE, hH, ↓reduceIte, hb]; (try clear hb))) | ((with_reducible refine And.intro ?_ ?_); · omega) | (with_reducible apply jn) | (with_reducible apply both) | (with_reducible refine And.intro ?_ ?_) | ((with_reducible apply fin_eq); (try (simp (disch := omega) only [go_sem, hE, hH, ↓reduceIte])); first | done | rfl) | (simp (disch := omega) only [go_sem, hE, hH, ↓reduceIte]) | (exact (noMLL_set (by simp only [go_sem, hE, hH, ↓reduceIte]) (by simp only [go_sem, hE, hH, ↓reduceIte])).2 trivial) | (exact (pk_set (by simp only [go_sem, hE, hH, ↓reduceIte]) (by simp only [go_sem, hE, hH, ↓reduceIte])).2 trivial) | (simp only [go_sem, hE, hH, ↓reduceIte]) | fail)
    all_goals try (exfalso; omega)
    refine loopNe g.length (fun j (_ : Unit) => ⟨[(1, .ptr 2000000 0 0), (16, grT false g), (17, i64 g.length), (18, i64 j)], [(2000000, ⟨1, [[grT false g]]⟩)]⟩) (fun j _ => allN (fun i => (nth g i).all fun w => rng w 0 ((g.length : Int) - 1)) j = true) () rfl rfl ?_
    intro j _ hj hI
    try simp only [go_sem, hE, hH, ↓reduceIte, c_impl_FindRing_l1]
    first | refine gd_t (fun q1 => ?_) (fun q1 => ?_) | refine gd_f (fun q1 => ?_) (fun q1 => ?_)
    · have hb1 := q1
      simp only [decide_eq_true_eq, decide_eq_false_iff_not, Int.not_lt, Int.not_le, ge_iff_le, gt_iff_lt, Bool.not_eq_true', Bool.not_eq_false', beq_iff_eq, bne_iff_ne, beq_eq_false_iff_ne, bne_eq_false_iff_eq, Int.ofNat_lt, Int.ofNat_le] at q1
      try simp (disch := omega) only [go_sem, hE, hH, ↓reduceIte, hb1]
      cases hq : (nth g j).all fun w => rng w 0 ((g.length : Int) - 1)
      · have e := ringR_row q1 hq
        repeat' (first | ((with_reducible (first | refine gd_t (fun h => ?_) (fun h => ?_) | refine gd_f (fun h => ?_) (fun h => ?_))) <;> (have hb := h; (try simp only [decide_eq_true_eq, decide_eq_false_iff_not, Int.not_lt, Int.not_le, ge_iff_le, gt_iff_lt, Bool.not_eq_true', Bool.not_eq_false', beq_iff_eq, bne_iff_ne, beq_eq_false_iff_ne, bne_eq_false_iff_eq, Int.ofNat_lt, Int.ofNat_le] at h); simp (disch := omega) only [go_sem, hE, hH, ↓reduceIte, e, any_not, hq, hb]; (try clear hb))) | ((with_reducible refine And.intro ?_ ?_); · omega) | (refine ok_view ?_; simp (disch := omega) only [go_sem, hE, hH, ↓reduceIte, e, any_not, hq]) | (refine cvA (ContainsFunc_Int_ok (nth g j) _ [.bx false [grT false g]] (fun w => !rng w 0 ((g.length : Int) - 1)) (by kernel_rfl) rfl (hgm j) (fun w _ => FindRing_1_ok w g hl)) ?_; simp (disch := omega) only [go_sem, hE, hH, ↓reduceIte, e, any_not, hq]) | (with_reducible apply jn) | (with_reducible apply both) | (with_reducible refine And.intro ?_ ?_) | ((with_reducible apply fin_eq); (try (simp (disch := omega) only [go_sem, hE, hH, ↓reduceIte, e, any_not, hq])); first | done | rfl) | (simp (disch := omega) only [go_sem, hE, hH, ↓reduceIte, e, any_not, hq]) | (exact (noMLL_set (by simp only [go_sem, hE, hH, ↓reduceIte, e, any_not, hq]) (by simp only [go_sem, hE, hH, ↓reduceIte, e, any_not, hq])).2 trivial) | (exact (pk_set (by simp only [go_sem, hE, hH, ↓reduceIte, e, any_not, hq]) (by simp only [go_sem, hE, hH, ↓reduceIte, e, any_not, hq])).2 trivial) | (simp only [go_sem, hE, hH, ↓reduceIte, e, any_not, hq]) | fail)
      ·
        repeat' (first | ((with_reducible (first | refine gd_t (fun h => ?_) (fun h => ?_) | refine gd_f (fun h => ?_) (fun h => ?_))) <;> (have hb := h; (try simp only [decide_eq_true_eq, decide_eq_false_iff_not, Int.not_lt, Int.not_le, ge_iff_le, gt_iff_lt, Bool.not_eq_true', Bool.not_eq_false', beq_iff_eq, bne_iff_ne, beq_eq_false_iff_ne, bne_eq_false_iff_eq, Int.ofNat_lt, Int.ofNat_le] at h); simp (disch := omega) only [go_sem, hE, hH, ↓reduceIte, any_not, hq, hb]; (try clear hb))) | ((with_reducible refine And.intro ?_ ?_); · omega) | (refine ok_view ?_; simp (disch := omega) only [go_sem, hE, hH, ↓reduceIte, any_not, hq]) | (refine cvA (ContainsFunc_Int_ok (nth g j) _ [.bx false [grT false g]] (fun w => !rng w 0 ((g.length : Int) - 1)) (by kernel_rfl) rfl (hgm j) (fun w _ => FindRing_1_ok w g hl)) ?_; simp (disch := omega) only [go_sem, hE, hH, ↓reduceIte, any_not, hq]) | (with_reducible apply jn) | (with_reducible apply both) | (with_reducible refine And.intro ?_ ?_) | ((with_reducible apply fin_eq); (try (simp (disch := omega) only [go_sem, hE, hH, ↓reduceIte, any_not, hq])); first | done | rfl) | (simp (disch := omega) only [go_sem, hE, hH, ↓reduceIte, any_not, hq]) | (exact (noMLL_set (by simp only [go_sem, hE, hH, ↓reduceIte, any_not, hq]) (by simp only [go_sem, hE, hH, ↓reduceIte, any_not, hq])).2 trivial) | (exact (pk_set (by simp only [go_sem, hE, hH, ↓reduceIte, any_not, hq]) (by simp only [go_sem, hE, hH, ↓reduceIte, any_not, hq])).2 trivial) | (simp only [go_sem, hE, hH, ↓reduceIte, any_not, hq]) | fail)
        exact ⟨(), rfl, allN_step hI hq⟩
    · have q2 := q1
      simp only [decide_eq_true_eq, decide_eq_false_iff_not, Int.not_lt, Int.not_le, ge_iff_le, gt_iff_lt, Bool.not_eq_true', Bool.not_eq_false', beq_iff_eq, bne_iff_ne, beq_eq_false_iff_ne, bne_eq_false_iff_eq, Int.ofNat_lt, Int.ofNat_le] at q2
      obtain rfl : j = g.length := by omega
      have hG := goodG_of hlen hI
      have hk := goodG_ok hG
      try simp (disch := omega) only [go_sem, hE, hH, ↓reduceIte, q1]
      repeat' (first | ((with_reducible (first | refine gd_t (fun h => ?_) (fun h => ?_) | refine gd_f (fun h => ?_) (fun h => ?_))) <;> (have hb := h; (try simp only [decide_eq_true_eq, decide_eq_false_iff_not, Int.not_lt, Int.not_le, ge_iff_le, gt_iff_lt, Bool.not_eq_true', Bool.not_eq_false', beq_iff_eq, bne_iff_ne, beq_eq_false_iff_ne, bne_eq_false_iff_eq, Int.ofNat_lt, Int.ofNat_le] at h); simp (disch := omega) only [go_sem, hE, hH, ↓reduceIte, hb]; (try clear hb))) | ((with_reducible refine And.intro ?_ ?_); · omega) | (with_reducible apply jn) | (with_reducible apply both) | (with_reducible refine And.intro ?_ ?_) | ((with_reducible apply fin_eq); (try (simp (disch := omega) only [go_sem, hE, hH, ↓reduceIte])); first | done | rfl) | (simp (disch := omega) only [go_sem, hE, hH, ↓reduceIte]) | (exact (noMLL_set (by simp only [go_sem, hE, hH, ↓reduceIte]) (by simp only [go_sem, hE, hH, ↓reduceIte])).2 trivial) | (exact (pk_set (by simp only [go_sem, hE, hH, ↓reduceIte]) (by simp only [go_sem, hE, hH, ↓reduceIte])).2 trivial) | (simp only [go_sem, hE, hH, ↓reduceIte]) | fail)
      refine loopNe g.length (fun j (_ : Unit) => ⟨[(1, .ptr 2000000 0 0), (27, i64 g.length), (28, i64 j)], [(2000000, ⟨1, [[grT false g]]⟩)]⟩) (fun j _ => ∀ v : Nat, v < j → dl g v g.length v = 0) () rfl (fun v hv => by omega) ?_
      intro j _ hj hI
      try simp only [go_sem, hE, hH, ↓reduceIte, c_impl_FindRing_l4]
      first | refine gd_t (fun q3 => ?_) (fun q3 => ?_) | refine gd_f (fun q3 => ?_) (fun q3 => ?_)
      · have hb1 := q3
        simp only [decide_eq_true_eq, decide_eq_false_iff_not, Int.not_lt, Int.not_le, ge_iff_le, gt_iff_lt, Bool.not_eq_true', Bool.not_eq_false', beq_iff_eq, bne_iff_ne, beq_eq_false_iff_ne, bne_eq_false_iff_eq, Int.ofNat_lt, Int.ofNat_le] at q3
        try simp (disch := omega) only [go_sem, hE, hH, ↓reduceIte, hb1]
        repeat' (first | ((with_reducible (first | refine gd_t (fun h => ?_) (fun h => ?_) | refine gd_f (fun h => ?_) (fun h => ?_))) <;> (have hb := h; (try simp only [decide_eq_true_eq, decide_eq_false_iff_not, Int.not_lt, Int.not_le, ge_iff_le, gt_iff_lt, Bool.not_eq_true', Bool.not_eq_false', beq_iff_eq, bne_iff_ne, beq_eq_false_iff_ne, bne_eq_false_iff_eq, Int.ofNat_lt, Int.ofNat_le] at h); simp (disch := omega) only [go_sem, hE, hH, ↓reduceIte, hb]; (try clear hb))) | ((with_reducible refine And.intro ?_ ?_); · omega) | (refine ok_view ?_; simp (disch := omega) only [go_sem, hE, hH, ↓reduceIte]; refine cvA (distances_ok g j hk hgm) ?_; refine aftV_intro ?_; rintro _ _ ⟨dm, rfl, hd1, hd2⟩; simp (disch := omega) only [go_sem, hE, hH, ↓reduceIte]) | (with_reducible apply jn) | (with_reducible apply both) | (with_reducible refine And.intro ?_ ?_) | ((with_reducible apply fin_eq); (try (simp (disch := omega) only [go_sem, hE, hH, ↓reduceIte])); first | done | rfl) | (simp (disch := omega) only [go_sem, hE, hH, ↓reduceIte]) | (exact (noMLL_set (by simp only [go_sem, hE, hH, ↓reduceIte]) (by simp only [go_sem, hE, hH, ↓reduceIte])).2 trivial) | (exact (pk_set (by simp only [go_sem, hE, hH, ↓reduceIte]) (by simp only [go_sem, hE, hH, ↓reduceIte])).2 trivial) | (simp only [go_sem, hE, hH, ↓reduceIte]) | fail)
        · refine ⟨(), rfl, fun v hv => ?_⟩
          by_cases e : v = j
          · subst e
            have := hd2 v q3
            omega
          · exact hI v (by omega)
        · have hdj := hd2 j q3
          have hbd := dl_bd (g := g) (t := (j : Int)) (j := g.length) (v := (j : Int))
          obtain ⟨M, hM⟩ : ∃ M : Nat, dl g j g.length j = M + 1 := ⟨dl g j g.length j - 1, by omega⟩
          have e := ringR_at hG q3 hI (by omega)
          rw [hM] at hdj e hbd
          have e9 : IntKind.i64.wrap (nth dm j - 1) = (M : Int) - ((0 : Nat) : Int) := by rw [hdj, Go.IntWalk.i64_in _ (by omega)]; omega
          rw [e9]
          refine loopNe M (fun i (out : List Int) => ⟨[(1, .ptr 2000000 0 0), (7, .ref 8000000 0 dm.length), (8, .ref 9000000 0 out.length), (9, i64 ((M : Int) - i))], [(2000000, ⟨1, [[grT false g]]⟩), (8000000, ⟨1, ints dm⟩), (9000000, ⟨1, ints out⟩)]⟩) (fun i out => out.length = i + 1 ∧ 0 ≤ nth out i ∧ nth out i < g.length ∧ dl g j g.length (nth out i) = M - i + 1 ∧ out ++ ring g j (M - i) (nth out i) = (j : Int) :: ring g j M j) [(j : Int)] rfl ⟨rfl, by simp only [nth_cons_zero]; omega, by simp only [nth_cons_zero]; omega, hM, rfl⟩ ?_
          rintro i out hi ⟨ho, hu0, hu1, hu2, hu3⟩
          try simp only [go_sem, hE, hH, ↓reduceIte, c_impl_FindRing_l3]
          first | refine gd_t (fun q5 => ?_) (fun q5 => ?_) | refine gd_f (fun q5 => ?_) (fun q5 => ?_)
          · have hb5 := q5
            simp only [decide_eq_true_eq, decide_eq_false_iff_not, Int.not_lt, Int.not_le, ge_iff_le, gt_iff_lt, Bool.not_eq_true', Bool.not_eq_false', beq_iff_eq, bne_iff_ne, beq_eq_false_iff_ne, bne_eq_false_iff_eq, Int.ofNat_lt, Int.ofNat_le] at q5
            have hnb := okG_nb hk hu0 hu1
            have hgu := hgm (nth out i).toNat
            have hix : out.length - 1 = i := by omega
            have hMi : ((M : Int) - i) = ((M - i : Nat) : Int) := by omega
            try simp (disch := omega) only [go_sem, hE, hH, ↓reduceIte, hb5]
            repeat' (first | ((with_reducible (first | refine gd_t (fun h => ?_) (fun h => ?_) | refine gd_f (fun h => ?_) (fun h => ?_))) <;> (have hb := h; (try simp only [decide_eq_true_eq, decide_eq_false_iff_not, Int.not_lt, Int.not_le, ge_iff_le, gt_iff_lt, Bool.not_eq_true', Bool.not_eq_false', beq_iff_eq, bne_iff_ne, beq_eq_false_iff_ne, bne_eq_false_iff_eq, Int.ofNat_lt, Int.ofNat_le] at h); simp (disch := omega) only [go_sem, hE, hH, ↓reduceIte, hix, hb]; (try clear hb))) | ((with_reducible refine And.intro ?_ ?_); · omega) | (with_reducible apply jn) | (with_reducible apply both) | (with_reducible refine And.intro ?_ ?_) | ((with_reducible apply fin_eq); (try (simp (disch := omega) only [go_sem, hE, hH, ↓reduceIte, hix])); first | done | rfl) | (simp (disch := omega) only [go_sem, hE, hH, ↓reduceIte, hix]) | (exact (noMLL_set (by simp only [go_sem, hE, hH, ↓reduceIte, hix]) (by simp only [go_sem, hE, hH, ↓reduceIte, hix])).2 trivial) | (exact (pk_set (by simp only [go_sem, hE, hH, ↓reduceIte, hix]) (by simp only [go_sem, hE, hH, ↓reduceIte, hix])).2 trivial) | (simp only [go_sem, hE, hH, ↓reduceIte, hix]) | fail)
            all_goals try assumption
            refine loopNe (nth g (nth out i).toNat).length (fun k (b : Int) => ⟨[(1, .ptr 2000000 0 0), (7, .ref 8000000 0 dm.length), (8, .ref 9000000 0 out.length), (9, i64 ((M : Int) - i)), (10, i64 b), (58, .sl false 1 (ints (nth g (nth out i).toNat))), (59, i64 (nth g (nth out i).toNat).length), (60, i64 k)], [(2000000, ⟨1, [[grT false g]]⟩), (8000000, ⟨1, ints dm⟩), (9000000, ⟨1, ints out⟩)]⟩) (fun k b => b = mn (fun w => decide (dl g j g.length w = M - i)) ((nb g (nth out i)).take k)) (-1) rfl rfl ?_
            intro k b hk2 hJ
            try simp only [go_sem, hE, hH, ↓reduceIte, c_impl_FindRing_l2]
            first | refine gd_t (fun q7 => ?_) (fun q7 => ?_) | refine gd_f (fun q7 => ?_) (fun q7 => ?_)
            · have hb7 := q7
              simp only [decide_eq_true_eq, decide_eq_false_iff_not, Int.not_lt, Int.not_le, ge_iff_le, gt_iff_lt, Bool.not_eq_true', Bool.not_eq_false', beq_iff_eq, bne_iff_ne, beq_eq_false_iff_ne, bne_eq_false_iff_eq, Int.ofNat_lt, Int.ofNat_le] at q7
              have hw := hnb _ (nth_mem (l := nb g (nth out i)) q7)
              have hwd := hd2 (nth (nb g (nth out i)) k).toNat (by omega)
              rw [show (((nth (nb g (nth out i)) k).toNat : Nat) : Int) = nth (nb g (nth out i)) k by omega] at hwd
              have hs : mn (fun w => decide (dl g j g.length w = M - i)) ((nb g (nth out i)).take (k + 1)) = if (decide (dl g j g.length (nth (nb g (nth out i)) k) = M - i) && (decide (b < 0) || decide (nth (nb g (nth out i)) k < b))) = true then nth (nb g (nth out i)) k else b := by
                rw [mn, foldl_tk (l := nb g (nth out i)) q7, ← mn, ← hJ]
              have hnn : nth (nb g (nth out i)) k = nth (nth g (nth out i).toNat) k := rfl
              rw [hnn] at hs hwd hw
              try simp (disch := omega) only [go_sem, hE, hH, ↓reduceIte, hb7]
              repeat' (first | ((with_reducible (first | refine gd_t (fun h => ?_) (fun h => ?_) | refine gd_f (fun h => ?_) (fun h => ?_))) <;> (have hb := h; (try simp only [decide_eq_true_eq, decide_eq_false_iff_not, Int.not_lt, Int.not_le, ge_iff_le, gt_iff_lt, Bool.not_eq_true', Bool.not_eq_false', beq_iff_eq, bne_iff_ne, beq_eq_false_iff_ne, bne_eq_false_iff_eq, Int.ofNat_lt, Int.ofNat_le] at h); simp (disch := omega) only [go_sem, hE, hH, ↓reduceIte, hb]; (try clear hb))) | ((with_reducible refine And.intro ?_ ?_); · omega) | (with_reducible apply jn) | (with_reducible apply both) | (with_reducible refine And.intro ?_ ?_) | ((with_reducible apply fin_eq); (try (simp (disch := omega) only [go_sem, hE, hH, ↓reduceIte])); first | done | rfl) | (simp (disch := omega) only [go_sem, hE, hH, ↓reduceIte]) | (exact (noMLL_set (by simp only [go_sem, hE, hH, ↓reduceIte]) (by simp only [go_sem, hE, hH, ↓reduceIte])).2 trivial) | (exact (pk_set (by simp only [go_sem, hE, hH, ↓reduceIte]) (by simp only [go_sem, hE, hH, ↓reduceIte])).2 trivial) | (simp only [go_sem, hE, hH, ↓reduceIte]) | fail)
              all_goals (rw [hs]; first | (rw [if_pos (by simp only [Bool.and_eq_true, Bool.or_eq_true, decide_eq_true_eq]; omega)]; rfl) | (rw [if_neg (by simp only [Bool.and_eq_true, Bool.or_eq_true, decide_eq_true_eq]; omega)]; rfl))
            · have q8 := q7
              simp only [decide_eq_true_eq, decide_eq_false_iff_not, Int.not_lt, Int.not_le, ge_iff_le, gt_iff_lt, Bool.not_eq_true', Bool.not_eq_false', beq_iff_eq, bne_iff_ne, beq_eq_false_iff_ne, bne_eq_false_iff_eq, Int.ofNat_lt, Int.ofNat_le] at q8
              have q9 : k = (nth g (nth out i).toNat).length := by omega
              have q10 : (nb g (nth out i)).length ≤ k := by rw [q9]; exact Nat.le_refl _
              rw [List.take_of_length_le q10] at hJ
              obtain ⟨e1, e2, e3, e4⟩ := (step_to (fun w hw => (hnb w hw).1) hu2).2 (by omega)
              rw [e1, ← hJ] at e2 e3
              have hbr := hnb _ e2
              obtain ⟨m, hm⟩ : ∃ m, M - i = m + 1 := ⟨M - i - 1, by omega⟩
              have hm2 : M - (i + 1) = m := by omega
              rw [hm] at hu3 hJ e3
              simp only [ring] at hu3
              rw [← hJ] at hu3
              try simp (disch := omega) only [go_sem, hE, hH, ↓reduceIte, q7]
              repeat' (first | ((with_reducible (first | refine gd_t (fun h => ?_) (fun h => ?_) | refine gd_f (fun h => ?_) (fun h => ?_))) <;> (have hb := h; (try simp only [decide_eq_true_eq, decide_eq_false_iff_not, Int.not_lt, Int.not_le, ge_iff_le, gt_iff_lt, Bool.not_eq_true', Bool.not_eq_false', beq_iff_eq, bne_iff_ne, beq_eq_false_iff_ne, bne_eq_false_iff_eq, Int.ofNat_lt, Int.ofNat_le] at h); simp (disch := omega) only [go_sem, hE, hH, ↓reduceIte, hb]; (try clear hb))) | ((with_reducible refine And.intro ?_ ?_); · omega) | (with_reducible apply jn) | (with_reducible apply both) | (with_reducible refine And.intro ?_ ?_) | ((with_reducible apply fin_eq); (try (simp (disch := omega) only [go_sem, hE, hH, ↓reduceIte])); first | done | rfl) | (simp (disch := omega) only [go_sem, hE, hH, ↓reduceIte]) | (exact (noMLL_set (by simp only [go_sem, hE, hH, ↓reduceIte]) (by simp only [go_sem, hE, hH, ↓reduceIte])).2 trivial) | (exact (pk_set (by simp only [go_sem, hE, hH, ↓reduceIte]) (by simp only [go_sem, hE, hH, ↓reduceIte])).2 trivial) | (simp only [go_sem, hE, hH, ↓reduceIte]) | fail)
              refine ⟨out ++ [b], ?_, by simp [ho], ?_⟩
              · simp [ints, show (M : Int) - i - 1 = (M : Int) - ((i + 1 : Nat) : Int) by omega]
              · rw [nth_last (by omega), hm2]
                exact ⟨hbr.1, hbr.2, e3, by rw [List.append_assoc]; exact hu3⟩
          · try simp (disch := omega) only [go_sem, hE, hH, ↓reduceIte, q5]
            simp only [decide_eq_true_eq, decide_eq_false_iff_not, Int.not_lt, Int.not_le, ge_iff_le, gt_iff_lt, Bool.not_eq_true', Bool.not_eq_false', beq_iff_eq, bne_iff_ne, beq_eq_false_iff_ne, bne_eq_false_iff_eq, Int.ofNat_lt, Int.ofNat_le] at q5
            have q6 : M - i = 0 := by omega
            rw [q6] at hu3
            simp only [ring, List.append_nil] at hu3
            repeat' (first | ((with_reducible (first | refine gd_t (fun h => ?_) (fun h => ?_) | refine gd_f (fun h => ?_) (fun h => ?_))) <;> (have hb := h; (try simp only [decide_eq_true_eq, decide_eq_false_iff_not, Int.not_lt, Int.not_le, ge_iff_le, gt_iff_lt, Bool.not_eq_true', Bool.not_eq_false', beq_iff_eq, bne_iff_ne, beq_eq_false_iff_ne, bne_eq_false_iff_eq, Int.ofNat_lt, Int.ofNat_le] at h); simp (disch := omega) only [go_sem, hE, hH, ↓reduceIte, e, hb]; (try clear hb))) | ((with_reducible refine And.intro ?_ ?_); · omega) | (with_reducible apply jn) | (with_reducible apply both) | (with_reducible refine And.intro ?_ ?_) | ((with_reducible apply fin_eq); (try (simp (disch := omega) only [go_sem, hE, hH, ↓reduceIte, e])); first | done | rfl) | (simp (disch := omega) only [go_sem, hE, hH, ↓reduceIte, e]) | (exact (noMLL_set (by simp only [go_sem, hE, hH, ↓reduceIte, e]) (by simp only [go_sem, hE, hH, ↓reduceIte, e])).2 trivial) | (exact (pk_set (by simp only [go_sem, hE, hH, ↓reduceIte, e]) (by simp only [go_sem, hE, hH, ↓reduceIte, e])).2 trivial) | (simp only [go_sem, hE, hH, ↓reduceIte, e]) | fail)
            rw [hu3]; simp [ints]
      · have q4 := q3
        simp only [decide_eq_true_eq, decide_eq_false_iff_not, Int.not_lt, Int.not_le, ge_iff_le, gt_iff_lt, Bool.not_eq_true', Bool.not_eq_false', beq_iff_eq, bne_iff_ne, beq_eq_false_iff_ne, bne_eq_false_iff_eq, Int.ofNat_lt, Int.ofNat_le] at q4
        obtain rfl : j = g.length := by omega
        have e := ringR_no hG hI
        try simp (disch := omega) only [go_sem, hE, hH, ↓reduceIte, q3]
        repeat' (first | ((with_reducible (first | refine gd_t (fun h => ?_) (fun h => ?_) | refine gd_f (fun h => ?_) (fun h => ?_))) <;> (have hb := h; (try simp only [decide_eq_true_eq, decide_eq_false_iff_not, Int.not_lt, Int.not_le, ge_iff_le, gt_iff_lt, Bool.not_eq_true', Bool.not_eq_false', beq_iff_eq, bne_iff_ne, beq_eq_false_iff_ne, bne_eq_false_iff_eq, Int.ofNat_lt, Int.ofNat_le] at h); simp (disch := omega) only [go_sem, hE, hH, ↓reduceIte, e, hb]; (try clear hb))) | ((with_reducible refine And.intro ?_ ?_); · omega) | (with_reducible apply jn) | (with_reducible apply both) | (with_reducible refine And.intro ?_ ?_) | ((with_reducible apply fin_eq); (try (simp (disch := omega) only [go_sem, hE, hH, ↓reduceIte, e])); first | done | rfl) | (simp (disch := omega) only [go_sem, hE, hH, ↓reduceIte, e]) | (exact (noMLL_set (by simp only [go_sem, hE, hH, ↓reduceIte, e]) (by simp only [go_sem, hE, hH, ↓reduceIte, e])).2 trivial) | (exact (pk_set (by simp only [go_sem, hE, hH, ↓reduceIte, e]) (by simp only [go_sem, hE, hH, ↓reduceIte, e])).2 trivial) | (simp only [go_sem, hE, hH, ↓reduceIte, e]) | fail)
  · have e := ringR_len hlen
    refine fn_in h_impl_FindRing r_impl_FindRing ⟨by simp only [go_sem, ↓reduceIte], fun E hE hH => ?_⟩; simp only [go_sem, ↓reduceIte] at hE hH; simp only [go_sem, hE, hH, ↓reduceIte, c_impl_FindRing]
    repeat' (first | ((with_reducible (first | refine gd_t (fun h => ?_) (fun h => ?_) | refine gd_f (fun h => ?_) (fun h => ?_))) <;> (have hb := h; (try simp only [decide_eq_true_eq, decide_eq_false_iff_not, Int.not_lt, Int.not_le, ge_iff_le, gt_iff_lt, Bool.not_eq_true', Bool.not_eq_false', beq_iff_eq, bne_iff_ne, beq_eq_false_iff_ne, bne_eq_false_iff_eq, Int.ofNat_lt, Int.ofNat_le] at h); simp (disch := omega) only [go_sem, hE, hH, ↓reduceIte, e, hb]; (try clear hb))) | ((with_reducible refine And.intro ?_ ?_); · omega) | (with_reducible apply jn) | (with_reducible apply both) | (with_reducible refine And.intro ?_ ?_) | ((with_reducible apply fin_eq); (try (simp (disch := omega) only [go_sem, hE, hH, ↓reduceIte, e])); first | done | rfl) | (simp (disch := omega) only [go_sem, hE, hH, ↓reduceIte, e]) | (exact (noMLL_set (by simp only [go_sem, hE, hH, ↓reduceIte, e]) (by simp only [go_sem, hE, hH, ↓reduceIte, e])).2 trivial) | (exact (pk_set (by simp only [go_sem, hE, hH, ↓reduceIte, e]) (by simp only [go_sem, hE, hH, ↓reduceIte, e])).2 trivial) | (simp only [go_sem, hE, hH, ↓reduceIte, e]) | fail)
    all_goals (exfalso; omega)
theorem sFindRing_ok (g : List (List Int)) (hl : g.length ≤ maxLen) (hgm : ∀ i, (nth g i).length ≤ maxLen) : ACall Try.prog n_spec_FindRing [grT false g] (fun r _ => r = .tup [.sl true 1 (ints (ringR g).1), bl (ringR g).2]) := by
  have hmx := mx_eq
  by_cases hlen : g.length ≤ 20
  · refine fn_in h_spec_FindRing r_spec_FindRing ⟨by simp only [go_sem, ↓reduceIte], fun E hE hH => ?_⟩; simp only [go_sem, ↓reduceIte] at hE hH; simp only [go_sem, hE, hH, ↓reduceIte, c_spec_FindRing]
    repeat' (first | ((with_reducible (first | refine gd_t (fun h => ?_) (fun h => ?_) | refine gd_f (fun h => ?_) (fun h => ?_))) <;> (have hb := h; (try simp only [decide_eq_true_eq, decide_eq_false_iff_not, Int.not_lt, Int.not_le, ge_iff_le, gt_iff_lt, Bool.not_eq_true', Bool.not_eq_false', beq_iff_eq, bne_iff_ne, beq_eq_false_iff_ne, bne_eq_false_iff_eq, Int.ofNat_lt, Int.ofNat_le] at h); simp (disch := omega) only [go_sem, hE, hH, ↓reduceIte, hb]; (try clear hb))) | ((with_reducible refine And.intro ?_ ?_); · omega) | (with_reducible apply jn) | (with_reducible apply both) | (with_reducible refine And.intro ?_ ?_) | ((with_reducible apply fin_eq); (try (simp (disch := omega) only [go_sem, hE, hH, ↓reduceIte])); first | done | rfl) | (simp (disch := omega) only [go_sem, hE, hH, ↓reduceIte]) | (exact (noMLL_set (by simp only [go_sem, hE, hH, ↓reduceIte]) (by simp only [go_sem, hE, hH, ↓reduceIte])).2 trivial) | (exact (pk_set (by simp only [go_sem, hE, hH, ↓reduceIte]) (by simp only [go_sem, hE, hH, ↓reduceIte])).2 trivial) | (simp only [go_sem, hE, hH, ↓reduceIte]) | fail)
    all_goals try (exfalso; omega)
    refine loopNe g.length (fun j (_ : Unit) => ⟨[(0, grT false g), (13, grT false g), (14, i64 g.length), (15, i64 j)], []⟩) (fun j _ => allN (fun i => (nth g i).all fun w => rng w 0 ((g.length : Int) - 1)) j = true) () rfl rfl ?_
    intro j _ hj hI
    try simp only [go_sem, hE, hH, ↓reduceIte, c_spec_FindRing_l1]
    first | refine gd_t (fun q1 => ?_) (fun q1 => ?_) | refine gd_f (fun q1 => ?_) (fun q1 => ?_)
    · have hb1 := q1
      simp only [decide_eq_true_eq, decide_eq_false_iff_not, Int.not_lt, Int.not_le, ge_iff_le, gt_iff_lt, Bool.not_eq_true', Bool.not_eq_false', beq_iff_eq, bne_iff_ne, beq_eq_false_iff_ne, bne_eq_false_iff_eq, Int.ofNat_lt, Int.ofNat_le] at q1
      try simp (disch := omega) only [go_sem, hE, hH, ↓reduceIte, hb1]
      cases hq : (nth g j).all fun w => rng w 0 ((g.length : Int) - 1)
      · have e := ringR_row q1 hq
        have e2 : allR (nth g j) 0 ((g.length : Int) - 1) = false := by rw [allR, allN_all (p := fun w => rng w 0 ((g.length : Int) - 1))]; exact hq
        repeat' (first | ((with_reducible (first | refine gd_t (fun h => ?_) (fun h => ?_) | refine gd_f (fun h => ?_) (fun h => ?_))) <;> (have hb := h; (try simp only [decide_eq_true_eq, decide_eq_false_iff_not, Int.not_lt, Int.not_le, ge_iff_le, gt_iff_lt, Bool.not_eq_true', Bool.not_eq_false', beq_iff_eq, bne_iff_ne, beq_eq_false_iff_ne, bne_eq_false_iff_eq, Int.ofNat_lt, Int.ofNat_le] at h); simp (disch := omega) only [go_sem, hE, hH, ↓reduceIte, e, e2, hb]; (try clear hb))) | ((with_reducible refine And.intro ?_ ?_); · omega) | (refine ok_view ?_; simp (disch := omega) only [go_sem, hE, hH, ↓reduceIte, e, e2]) | (refine cvA (l1All_ok (nth g j) _ _ (hgm j)) ?_; simp (disch := omega) only [go_sem, hE, hH, ↓reduceIte, e, e2]) | (with_reducible apply jn) | (with_reducible apply both) | (with_reducible refine And.intro ?_ ?_) | ((with_reducible apply fin_eq); (try (simp (disch := omega) only [go_sem, hE, hH, ↓reduceIte, e, e2])); first | done | rfl) | (simp (disch := omega) only [go_sem, hE, hH, ↓reduceIte, e, e2]) | (exact (noMLL_set (by simp only [go_sem, hE, hH, ↓reduceIte, e, e2]) (by simp only [go_sem, hE, hH, ↓reduceIte, e, e2])).2 trivial) | (exact (pk_set (by simp only [go_sem, hE, hH, ↓reduceIte, e, e2]) (by simp only [go_sem, hE, hH, ↓reduceIte, e, e2])).2 trivial) | (simp only [go_sem, hE, hH, ↓reduceIte, e, e2]) | fail)
      · have e2 : allR (nth g j) 0 ((g.length : Int) - 1) = true := by rw [allR, allN_all (p := fun w => rng w 0 ((g.length : Int) - 1))]; exact hq
        repeat' (first | ((with_reducible (first | refine gd_t (fun h => ?_) (fun h => ?_) | refine gd_f (fun h => ?_) (fun h => ?_))) <;> (have hb := h; (try simp only [decide_eq_true_eq, decide_eq_false_iff_not, Int.not_lt, Int.not_le, ge_iff_le, gt_iff_lt, Bool.not_eq_true', Bool.not_eq_false', beq_iff_eq, bne_iff_ne, beq_eq_false_iff_ne, bne_eq_false_iff_eq, Int.ofNat_lt, Int.ofNat_le] at h); simp (disch := omega) only [go_sem, hE, hH, ↓reduceIte, e2, hb]; (try clear hb))) | ((with_reducible refine And.intro ?_ ?_); · omega) | (refine ok_view ?_; simp (disch := omega) only [go_sem, hE, hH, ↓reduceIte, e2]) | (refine cvA (l1All_ok (nth g j) _ _ (hgm j)) ?_; simp (disch := omega) only [go_sem, hE, hH, ↓reduceIte, e2]) | (with_reducible apply jn) | (with_reducible apply both) | (with_reducible refine And.intro ?_ ?_) | ((with_reducible apply fin_eq); (try (simp (disch := omega) only [go_sem, hE, hH, ↓reduceIte, e2])); first | done | rfl) | (simp (disch := omega) only [go_sem, hE, hH, ↓reduceIte, e2]) | (exact (noMLL_set (by simp only [go_sem, hE, hH, ↓reduceIte, e2]) (by simp only [go_sem, hE, hH, ↓reduceIte, e2])).2 trivial) | (exact (pk_set (by simp only [go_sem, hE, hH, ↓reduceIte, e2]) (by simp only [go_sem, hE, hH, ↓reduceIte, e2])).2 trivial) | (simp only [go_sem, hE, hH, ↓reduceIte, e2]) | fail)
        exact ⟨(), rfl, allN_step hI hq⟩
    · have q2 := q1
      simp only [decide_eq_true_eq, decide_eq_false_iff_not, Int.not_lt, Int.not_le, ge_iff_le, gt_iff_lt, Bool.not_eq_true', Bool.not_eq_false', beq_iff_eq, bne_iff_ne, beq_eq_false_iff_ne, bne_eq_false_iff_eq, Int.ofNat_lt, Int.ofNat_le] at q2
      obtain rfl : j = g.length := by omega
      have hG := goodG_of hlen hI
      have hk := goodG_ok hG
      try simp (disch := omega) only [go_sem, hE, hH, ↓reduceIte, q1]
      repeat' (first | ((with_reducible (first | refine gd_t (fun h => ?_) (fun h => ?_) | refine gd_f (fun h => ?_) (fun h => ?_))) <;> (have hb := h; (try simp only [decide_eq_true_eq, decide_eq_false_iff_not, Int.not_lt, Int.not_le, ge_iff_le, gt_iff_lt, Bool.not_eq_true', Bool.not_eq_false', beq_iff_eq, bne_iff_ne, beq_eq_false_iff_ne, bne_eq_false_iff_eq, Int.ofNat_lt, Int.ofNat_le] at h); simp (disch := omega) only [go_sem, hE, hH, ↓reduceIte, hb]; (try clear hb))) | ((with_reducible refine And.intro ?_ ?_); · omega) | (with_reducible apply jn) | (with_reducible apply both) | (with_reducible refine And.intro ?_ ?_) | ((with_reducible apply fin_eq); (try (simp (disch := omega) only [go_sem, hE, hH, ↓reduceIte])); first | done | rfl) | (simp (disch := omega) only [go_sem, hE, hH, ↓reduceIte]) | (exact (noMLL_set (by simp only [go_sem, hE, hH, ↓reduceIte]) (by simp only [go_sem, hE, hH, ↓reduceIte])).2 trivial) | (exact (pk_set (by simp only [go_sem, hE, hH, ↓reduceIte]) (by simp only [go_sem, hE, hH, ↓reduceIte])).2 trivial) | (simp only [go_sem, hE, hH, ↓reduceIte]) | fail)
      refine loopNe g.length (fun j (_ : Unit) => ⟨[(0, grT false g), (27, i64 g.length), (28, i64 j)], []⟩) (fun j _ => ∀ v : Nat, v < j → dl g v g.length v = 0) () rfl (fun v hv => by omega) ?_
      intro j _ hj hI
      try simp only [go_sem, hE, hH, ↓reduceIte, c_spec_FindRing_l3]
      first | refine gd_t (fun q3 => ?_) (fun q3 => ?_) | refine gd_f (fun q3 => ?_) (fun q3 => ?_)
      · have hb1 := q3
        simp only [decide_eq_true_eq, decide_eq_false_iff_not, Int.not_lt, Int.not_le, ge_iff_le, gt_iff_lt, Bool.not_eq_true', Bool.not_eq_false', beq_iff_eq, bne_iff_ne, beq_eq_false_iff_ne, bne_eq_false_iff_eq, Int.ofNat_lt, Int.ofNat_le] at q3
        try simp (disch := omega) only [go_sem, hE, hH, ↓reduceIte, hb1]
        repeat' (first | ((with_reducible (first | refine gd_t (fun h => ?_) (fun h => ?_) | refine gd_f (fun h => ?_) (fun h => ?_))) <;> (have hb := h; (try simp only [decide_eq_true_eq, decide_eq_false_iff_not, Int.not_lt, Int.not_le, ge_iff_le, gt_iff_lt, Bool.not_eq_true', Bool.not_eq_false', beq_iff_eq, bne_iff_ne, beq_eq_false_iff_ne, bne_eq_false_iff_eq, Int.ofNat_lt, Int.ofNat_le] at h); simp (disch := omega) only [go_sem, hE, hH, ↓reduceIte, hb]; (try clear hb))) | ((with_reducible refine And.intro ?_ ?_); · omega) | (refine ok_view ?_; simp (disch := omega) only [go_sem, hE, hH, ↓reduceIte]; refine cvA (l12Far_ok g j q3 hk hgm) ?_; refine aftV_intro ?_; rintro _ _ ⟨dm, rfl, hd1, hd2⟩; simp (disch := omega) only [go_sem, hE, hH, ↓reduceIte]) | (with_reducible apply jn) | (with_reducible apply both) | (with_reducible refine And.intro ?_ ?_) | ((with_reducible apply fin_eq); (try (simp (disch := omega) only [go_sem, hE, hH, ↓reduceIte])); first | done | rfl) | (simp (disch := omega) only [go_sem, hE, hH, ↓reduceIte]) | (exact (noMLL_set (by simp only [go_sem, hE, hH, ↓reduceIte]) (by simp only [go_sem, hE, hH, ↓reduceIte])).2 trivial) | (exact (pk_set (by simp only [go_sem, hE, hH, ↓reduceIte]) (by simp only [go_sem, hE, hH, ↓reduceIte])).2 trivial) | (simp only [go_sem, hE, hH, ↓reduceIte]) | fail)
        have hnb := okG_nb hk (u := (j : Int)) (by omega) (by omega)
        have hcg : ∀ u : Int, 0 ≤ u → u < g.length → nx (fun v => nth dm v.toNat) (nth g u.toNat) = nx (d0 g j) (nb g u) := by
          intro u h1 h2
          refine nx_congr (fun w hw => ?_) (.inl (by omega))
          have := okG_nb hk h1 h2 w hw
          show nth dm w.toNat = d0 g j w
          rw [(hd2 w.toNat (by omega)).1, show ((w.toNat : Nat) : Int) = w by omega]
        have hlt : ∀ v : Nat, v < g.length → d0 g j v < g.length := fun v hv => by rw [← (hd2 v hv).1]; exact (hd2 v hv).2
        have hn9 : ∀ u : Int, 0 ≤ u → u < g.length → ∀ w, w ∈ nth g u.toNat → 0 ≤ w ∧ w < dm.length := fun u h1 h2 w hw => by rw [hd1]; exact okG_nb hk h1 h2 w hw
        have hcj := hcg j (by omega) (by omega)
        simp only [Int.toNat_natCast] at hcj
        by_cases h0 : dl g j g.length j = 0
        · have en := nx_none hlt hnb h0
          repeat' (first | ((with_reducible (first | refine gd_t (fun h => ?_) (fun h => ?_) | refine gd_f (fun h => ?_) (fun h => ?_))) <;> (have hb := h; (try simp only [decide_eq_true_eq, decide_eq_false_iff_not, Int.not_lt, Int.not_le, ge_iff_le, gt_iff_lt, Bool.not_eq_true', Bool.not_eq_false', beq_iff_eq, bne_iff_ne, beq_eq_false_iff_ne, bne_eq_false_iff_eq, Int.ofNat_lt, Int.ofNat_le] at h); simp (disch := omega) only [go_sem, hE, hH, ↓reduceIte, hcj, en, hb]; (try clear hb))) | ((with_reducible refine And.intro ?_ ?_); · omega) | (refine ok_view ?_; simp (disch := omega) only [go_sem, hE, hH, ↓reduceIte, hcj, en]) | (refine cvA (l12Next_ok (nth g j) dm (hgm j) (hn9 j (by omega) (by omega))) ?_; simp (disch := omega) only [go_sem, hE, hH, ↓reduceIte, hcj, en]) | (with_reducible apply jn) | (with_reducible apply both) | (with_reducible refine And.intro ?_ ?_) | ((with_reducible apply fin_eq); (try (simp (disch := omega) only [go_sem, hE, hH, ↓reduceIte, hcj, en])); first | done | rfl) | (simp (disch := omega) only [go_sem, hE, hH, ↓reduceIte, hcj, en]) | (exact (noMLL_set (by simp only [go_sem, hE, hH, ↓reduceIte, hcj, en]) (by simp only [go_sem, hE, hH, ↓reduceIte, hcj, en])).2 trivial) | (exact (pk_set (by simp only [go_sem, hE, hH, ↓reduceIte, hcj, en]) (by simp only [go_sem, hE, hH, ↓reduceIte, hcj, en])).2 trivial) | (simp only [go_sem, hE, hH, ↓reduceIte, hcj, en]) | fail)
          · refine ⟨(), rfl, fun v hv => ?_⟩
            by_cases e : v = j
            · subst e; exact h0
            · exact hI v (by omega)
          · exfalso; omega
        · obtain ⟨M, hM⟩ : ∃ M : Nat, dl g j g.length j = M + 1 := ⟨dl g j g.length j - 1, by omega⟩
          have hbd := dl_bd (g := g) (t := (j : Int)) (j := g.length) (v := (j : Int))
          have e := ringR_at hG q3 hI (by omega)
          rw [hM] at e hbd
          obtain ⟨s1, s2⟩ := step_to (fun w hw => (hnb w hw).1) hM
          have hpos : 0 ≤ nx (d0 g j) (nb g j) ∧ nx (d0 g j) (nb g j) < g.length := by
            by_cases hM0 : M = 0
            · rw [s1 hM0]; omega
            · exact hnb _ (s2 (by omega)).2.1
          repeat' (first | ((with_reducible (first | refine gd_t (fun h => ?_) (fun h => ?_) | refine gd_f (fun h => ?_) (fun h => ?_))) <;> (have hb := h; (try simp only [decide_eq_true_eq, decide_eq_false_iff_not, Int.not_lt, Int.not_le, ge_iff_le, gt_iff_lt, Bool.not_eq_true', Bool.not_eq_false', beq_iff_eq, bne_iff_ne, beq_eq_false_iff_ne, bne_eq_false_iff_eq, Int.ofNat_lt, Int.ofNat_le] at h); simp (disch := omega) only [go_sem, hE, hH, ↓reduceIte, hcj, hb]; (try clear hb))) | ((with_reducible refine And.intro ?_ ?_); · omega) | (refine ok_view ?_; simp (disch := omega) only [go_sem, hE, hH, ↓reduceIte, hcj]) | (refine cvA (l12Next_ok (nth g j) dm (hgm j) (hn9 j (by omega) (by omega))) ?_; simp (disch := omega) only [go_sem, hE, hH, ↓reduceIte, hcj]) | (with_reducible apply jn) | (with_reducible apply both) | (with_reducible refine And.intro ?_ ?_) | ((with_reducible apply fin_eq); (try (simp (disch := omega) only [go_sem, hE, hH, ↓reduceIte, hcj])); first | done | rfl) | (simp (disch := omega) only [go_sem, hE, hH, ↓reduceIte, hcj]) | (exact (noMLL_set (by simp only [go_sem, hE, hH, ↓reduceIte, hcj]) (by simp only [go_sem, hE, hH, ↓reduceIte, hcj])).2 trivial) | (exact (pk_set (by simp only [go_sem, hE, hH, ↓reduceIte, hcj]) (by simp only [go_sem, hE, hH, ↓reduceIte, hcj])).2 trivial) | (simp only [go_sem, hE, hH, ↓reduceIte, hcj]) | fail)
          all_goals try (exfalso; omega)
          refine loopNe M (fun i (x : Int × List Int) => ⟨[(0, grT false g), (6, i64 j), (7, .ref 8000000 0 dm.length), (8, i64 x.1), (9, .ref 10000000 0 x.2.length)], [(8000000, ⟨1, ints dm⟩), (10000000, ⟨1, ints x.2⟩)]⟩) (fun i x => x.2.length = i + 1 ∧ 0 ≤ x.1 ∧ x.1 < g.length ∧ (i = M → x.1 = j ∧ x.2 = (j : Int) :: ring g j M j) ∧ (i < M → x.1 ≠ j ∧ dl g j g.length x.1 = M - i ∧ x.2 ++ (x.1 :: ring g j (M - i - 1) x.1) = (j : Int) :: ring g j M j)) (nx (d0 g j) (nb g j), [(j : Int)]) rfl ⟨rfl, hpos.1, hpos.2, fun hM0 => ⟨s1 hM0.symm, by rw [← hM0]; rfl⟩, fun hM0 => ?_⟩ ?_
          · obtain ⟨t1, t2, t3, t4⟩ := s2 (by omega)
            refine ⟨t4, by rw [t3]; omega, ?_⟩
            obtain ⟨m, hm⟩ : ∃ m, M = m + 1 := ⟨M - 1, by omega⟩
            rw [hm] at t1 ⊢
            simp only [Nat.sub_zero, Nat.add_sub_cancel, ring, List.cons_append, List.nil_append, ← t1]
          · rintro i ⟨n, out⟩ hi ⟨hol, hn0, hn1, hn2, hn3⟩
            simp only at hol hn0 hn1 hn2 hn3
            try simp only [go_sem, hE, hH, ↓reduceIte, c_spec_FindRing_l2]
            first | refine gd_t (fun q5 => ?_) (fun q5 => ?_) | refine gd_f (fun q5 => ?_) (fun q5 => ?_)
            · have hb5 := q5
              simp only [decide_eq_true_eq, decide_eq_false_iff_not, Int.not_lt, Int.not_le, ge_iff_le, gt_iff_lt, Bool.not_eq_true', Bool.not_eq_false', beq_iff_eq, bne_iff_ne, beq_eq_false_iff_ne, bne_eq_false_iff_eq, Int.ofNat_lt, Int.ofNat_le] at q5
              have hiM : i < M := by
                by_cases e : i = M
                · exact absurd (hn2 e).1 q5
                · omega
              obtain ⟨p1, p2, p3⟩ := hn3 hiM
              have hcn := hcg n hn0 hn1
              have hnn := okG_nb hk hn0 hn1
              obtain ⟨m, hm⟩ : ∃ m, M - i = m + 1 := ⟨M - i - 1, by omega⟩
              have hm2 : M - i - 1 = m := by omega
              rw [hm] at p2
              rw [hm2] at p3
              obtain ⟨r1, r2⟩ := step_to (fun w hw => (hnn w hw).1) p2
              have hps : 0 ≤ nx (d0 g j) (nb g n) ∧ nx (d0 g j) (nb g n) < g.length := by
                by_cases hM0 : m = 0
                · rw [r1 hM0]; omega
                · exact hnn _ (r2 (by omega)).2.1
              try simp (disch := omega) only [go_sem, hE, hH, ↓reduceIte, hb5]
              repeat' (first | ((with_reducible (first | refine gd_t (fun h => ?_) (fun h => ?_) | refine gd_f (fun h => ?_) (fun h => ?_))) <;> (have hb := h; (try simp only [decide_eq_true_eq, decide_eq_false_iff_not, Int.not_lt, Int.not_le, ge_iff_le, gt_iff_lt, Bool.not_eq_true', Bool.not_eq_false', beq_iff_eq, bne_iff_ne, beq_eq_false_iff_ne, bne_eq_false_iff_eq, Int.ofNat_lt, Int.ofNat_le] at h); simp (disch := omega) only [go_sem, hE, hH, ↓reduceIte, hcn, hb]; (try clear hb))) | ((with_reducible refine And.intro ?_ ?_); · omega) | (refine ok_view ?_; simp (disch := omega) only [go_sem, hE, hH, ↓reduceIte, hcn]) | (refine cvA (l12Next_ok (nth g n.toNat) dm (hgm _) (hn9 n (by omega) (by omega))) ?_; simp (disch := omega) only [go_sem, hE, hH, ↓reduceIte, hcn]) | (with_reducible apply jn) | (with_reducible apply both) | (with_reducible refine And.intro ?_ ?_) | ((with_reducible apply fin_eq); (try (simp (disch := omega) only [go_sem, hE, hH, ↓reduceIte, hcn])); first | done | rfl) | (simp (disch := omega) only [go_sem, hE, hH, ↓reduceIte, hcn]) | (exact (noMLL_set (by simp only [go_sem, hE, hH, ↓reduceIte, hcn]) (by simp only [go_sem, hE, hH, ↓reduceIte, hcn])).2 trivial) | (exact (pk_set (by simp only [go_sem, hE, hH, ↓reduceIte, hcn]) (by simp only [go_sem, hE, hH, ↓reduceIte, hcn])).2 trivial) | (simp only [go_sem, hE, hH, ↓reduceIte, hcn]) | fail)
              refine ⟨(nx (d0 g j) (nb g n), out ++ [n]), by simp [ints], by simp [hol], hps.1, hps.2, fun hz => ?_, fun hz => ?_⟩
              · have hm0 : m = 0 := by omega
                refine ⟨r1 hm0, ?_⟩
                rw [hm0] at p3
                exact p3
              · obtain ⟨t1, t2, t3, t4⟩ := r2 (by omega)
                refine ⟨t4, by rw [t3]; omega, ?_⟩
                obtain ⟨m', hm'⟩ : ∃ m', m = m' + 1 := ⟨m - 1, by omega⟩
                have hm3 : M - (i + 1) - 1 = m' := by omega
                rw [hm3]
                rw [hm'] at p3 t1
                simp only [ring, ← t1] at p3
                rw [List.append_assoc]
                exact p3
            · have q6 := q5
              simp only [decide_eq_true_eq, decide_eq_false_iff_not, Int.not_lt, Int.not_le, ge_iff_le, gt_iff_lt, Bool.not_eq_true', Bool.not_eq_false', beq_iff_eq, bne_iff_ne, beq_eq_false_iff_ne, bne_eq_false_iff_eq, Int.ofNat_lt, Int.ofNat_le] at q6
              have hiM : i = M := by
                by_cases e : i < M
                · exact absurd q6 (hn3 e).1
                · omega
              have hout := (hn2 hiM).2
              try simp (disch := omega) only [go_sem, hE, hH, ↓reduceIte, q5]
              repeat' (first | ((with_reducible (first | refine gd_t (fun h => ?_) (fun h => ?_) | refine gd_f (fun h => ?_) (fun h => ?_))) <;> (have hb := h; (try simp only [decide_eq_true_eq, decide_eq_false_iff_not, Int.not_lt, Int.not_le, ge_iff_le, gt_iff_lt, Bool.not_eq_true', Bool.not_eq_false', beq_iff_eq, bne_iff_ne, beq_eq_false_iff_ne, bne_eq_false_iff_eq, Int.ofNat_lt, Int.ofNat_le] at h); simp (disch := omega) only [go_sem, hE, hH, ↓reduceIte, e, hb]; (try clear hb))) | ((with_reducible refine And.intro ?_ ?_); · omega) | (with_reducible apply jn) | (with_reducible apply both) | (with_reducible refine And.intro ?_ ?_) | ((with_reducible apply fin_eq); (try (simp (disch := omega) only [go_sem, hE, hH, ↓reduceIte, e])); first | done | rfl) | (simp (disch := omega) only [go_sem, hE, hH, ↓reduceIte, e]) | (exact (noMLL_set (by simp only [go_sem, hE, hH, ↓reduceIte, e]) (by simp only [go_sem, hE, hH, ↓reduceIte, e])).2 trivial) | (exact (pk_set (by simp only [go_sem, hE, hH, ↓reduceIte, e]) (by simp only [go_sem, hE, hH, ↓reduceIte, e])).2 trivial) | (simp only [go_sem, hE, hH, ↓reduceIte, e]) | fail)
              all_goals (rw [hout]; simp [ints])
      · have q4 := q3
        simp only [decide_eq_true_eq, decide_eq_false_iff_not, Int.not_lt, Int.not_le, ge_iff_le, gt_iff_lt, Bool.not_eq_true', Bool.not_eq_false', beq_iff_eq, bne_iff_ne, beq_eq_false_iff_ne, bne_eq_false_iff_eq, Int.ofNat_lt, Int.ofNat_le] at q4
        obtain rfl : j = g.length := by omega
        have e := ringR_no hG hI
        try simp (disch := omega) only [go_sem, hE, hH, ↓reduceIte, q3]
        repeat' (first | ((with_reducible (first | refine gd_t (fun h => ?_) (fun h => ?_) | refine gd_f (fun h => ?_) (fun h => ?_))) <;> (have hb := h; (try simp only [decide_eq_true_eq, decide_eq_false_iff_not, Int.not_lt, Int.not_le, ge_iff_le, gt_iff_lt, Bool.not_eq_true', Bool.not_eq_false', beq_iff_eq, bne_iff_ne, beq_eq_false_iff_ne, bne_eq_false_iff_eq, Int.ofNat_lt, Int.ofNat_le] at h); simp (disch := omega) only [go_sem, hE, hH, ↓reduceIte, e, hb]; (try clear hb))) | ((with_reducible refine And.intro ?_ ?_); · omega) | (with_reducible apply jn) | (with_reducible apply both) | (with_reducible refine And.intro ?_ ?_) | ((with_reducible apply fin_eq); (try (simp (disch := omega) only [go_sem, hE, hH, ↓reduceIte, e])); first | done | rfl) | (simp (disch := omega) only [go_sem, hE, hH, ↓reduceIte, e]) | (exact (noMLL_set (by simp only [go_sem, hE, hH, ↓reduceIte, e]) (by simp only [go_sem, hE, hH, ↓reduceIte, e])).2 trivial) | (exact (pk_set (by simp only [go_sem, hE, hH, ↓reduceIte, e]) (by simp only [go_sem, hE, hH, ↓reduceIte, e])).2 trivial) | (simp only [go_sem, hE, hH, ↓reduceIte, e]) | fail)
  · have e := ringR_len hlen
    refine fn_in h_spec_FindRing r_spec_FindRing ⟨by simp only [go_sem, ↓reduceIte], fun E hE hH => ?_⟩; simp only [go_sem, ↓reduceIte] at hE hH; simp only [go_sem, hE, hH, ↓reduceIte, c_spec_FindRing]
    repeat' (first | ((with_reducible (first | refine gd_t (fun h => ?_) (fun h => ?_) | refine gd_f (fun h => ?_) (fun h => ?_))) <;> (have hb := h; (try simp only [decide_eq_true_eq, decide_eq_false_iff_not, Int.not_lt, Int.not_le, ge_iff_le, gt_iff_lt, Bool.not_eq_true', Bool.not_eq_false', beq_iff_eq, bne_iff_ne, beq_eq_false_iff_ne, bne_eq_false_iff_eq, Int.ofNat_lt, Int.ofNat_le] at h); simp (disch := omega) only [go_sem, hE, hH, ↓reduceIte, e, hb]; (try clear hb))) | ((with_reducible refine And.intro ?_ ?_); · omega) | (with_reducible apply jn) | (with_reducible apply both) | (with_reducible refine And.intro ?_ ?_) | ((with_reducible apply fin_eq); (try (simp (disch := omega) only [go_sem, hE, hH, ↓reduceIte, e])); first | done | rfl) | (simp (disch := omega) only [go_sem, hE, hH, ↓reduceIte, e]) | (exact (noMLL_set (by simp only [go_sem, hE, hH, ↓reduceIte, e]) (by simp only [go_sem, hE, hH, ↓reduceIte, e])).2 trivial) | (exact (pk_set (by simp only [go_sem, hE, hH, ↓reduceIte, e]) (by simp only [go_sem, hE, hH, ↓reduceIte, e])).2 trivial) | (simp only [go_sem, hE, hH, ↓reduceIte, e]) | fail)
    all_goals (exfalso; omega)

end Go.Proofs.Wb

/- Contracts of functions. -/
import Derived.Test.YtjdnnijmpnokaaaFnSentD1
import Derived.Laws.Externs
set_option linter.unusedSimpArgs false
set_option linter.unusedVariables false
set_option linter.unusedSectionVars false
namespace Go.Proofs.Wb
open Go Go.Am
def mostI (a b : Int) : Int := if a > b then a else b
def tripN (n : Net) (f t : Int) : Int := 1 + n.Far * mostI (nth n.Homes f.toNat - nth n.Homes t.toNat) (0 - (nth n.Homes f.toNat - nth n.Homes t.toNat))
theorem tripN_rng {n : Net} (h : goodNet n = true) {f t : Int} (hf0 : 0 ≤ f) (hf : f < n.Homes.length) (ht0 : 0 ≤ t) (ht : t < n.Homes.length) :
    (0 ≤ nth n.Homes f.toNat ∧ nth n.Homes f.toNat ≤ 2) ∧ (0 ≤ nth n.Homes t.toNat ∧ nth n.Homes t.toNat ≤ 2) ∧ (0 ≤ n.Far ∧ n.Far ≤ 20) ∧ (0 ≤ n.Now ∧ n.Now ≤ 100000) ∧
      (0 ≤ n.Far * mostI (nth n.Homes f.toNat - nth n.Homes t.toNat) (0 - (nth n.Homes f.toNat - nth n.Homes t.toNat)) ∧ n.Far * mostI (nth n.Homes f.toNat - nth n.Homes t.toNat) (0 - (nth n.Homes f.toNat - nth n.Homes t.toNat)) ≤ 40) := by
  simp only [goodNet, goodHomes, Bool.and_eq_true, rng_iff, allR, allN_iff] at h
  obtain ⟨⟨⟨h1, ⟨h2, h3⟩, h4⟩, h5⟩, h6⟩ := h
  have a1 := h3 f.toNat (by omega)
  have a2 := h3 t.toNat (by omega)
  refine ⟨a1, a2, h4, h1, ?_⟩
  have hm : mostI (nth n.Homes f.toNat - nth n.Homes t.toNat) (0 - (nth n.Homes f.toNat - nth n.Homes t.toNat)) = 0 ∨ mostI (nth n.Homes f.toNat - nth n.Homes t.toNat) (0 - (nth n.Homes f.toNat - nth n.Homes t.toNat)) = 1 ∨ mostI (nth n.Homes f.toNat - nth n.Homes t.toNat) (0 - (nth n.Homes f.toNat - nth n.Homes t.toNat)) = 2 := by
    unfold mostI; split <;> omega
  rcases hm with hm | hm | hm <;> rw [hm] <;> omega
def sentL (n : Net) (f t : Int) (b : ByteArray) : Letter := ⟨f, t, n.Now + tripN n f t, b⟩
def sendC (n : Net) (f t : Int) : Bool := goodNet n && rng f 0 ((n.Homes.length : Int) - 1) && rng t 0 ((n.Homes.length : Int) - 1) && !decide (f = t)
def sendN (n : Net) (f t : Int) (b : ByteArray) : Net × Bool := if sendC n f t then ifN (withN n (laidL n.Under (sentL n f t b))) else (zeroN, false)
theorem posL_spec {u : List Letter} (d : Int) : (∀ i, i < posL u d → (nth u i).Due ≤ d) ∧ (posL u d < u.length → d < (nth u (posL u d)).Due) := by
  have key : ∀ n, n ≤ u.length → (allN (fun i => !decide (d < (nth u i).Due)) n = true ∨ ∃ j, j < n ∧ d < (nth u j).Due ∧ allN (fun i => !decide (d < (nth u i).Due)) j = true) := by
    intro n
    induction n with
    | zero => intro _; exact .inl rfl
    | succ n ih =>
      intro hn
      rcases ih (by omega) with h | ⟨j, h1, h2, h3⟩
      · by_cases hp : d < (nth u n).Due
        · exact .inr ⟨n, by omega, hp, h⟩
        · exact .inl (allN_step h (by simpa using hp))
      · exact .inr ⟨j, by omega, h2, h3⟩
  rcases key u.length (Nat.le_refl _) with h | ⟨j, h1, h2, h3⟩
  · have e := posL_end h
    refine ⟨fun i hi => ?_, fun hlt => by omega⟩
    have := allN_iff.1 h i (by omega)
    simpa using this
  · have e := posL_at h1 h3 h2
    refine ⟨fun i hi => ?_, fun _ => by rw [e]; exact h2⟩
    have := allN_iff.1 h3 i (by omega)
    simpa using this
theorem goodNet_laid {n : Net} (h : goodNet n = true) (x : Letter) : goodNet (withN n (laidL n.Under x)) = (letOk n.Homes.length x && !decide (60 ≤ n.Under.length)) := by
  have h0 := h
  rw [goodNet_u] at h ⊢
  simp only [Bool.and_eq_true, decide_eq_true_eq, goodU_iff] at h
  obtain ⟨⟨h1, h2⟩, h3, h4⟩ := h
  have e1 : (withN n (laidL n.Under x)).Homes = n.Homes := rfl
  have e2 : (withN n (laidL n.Under x)).Far = n.Far := rfl
  have e3 : (withN n (laidL n.Under x)).Now = n.Now := rfl
  have e4 : (withN n (laidL n.Under x)).Under = laidL n.Under x := rfl
  rw [e1, e2, e3, e4, h1.1, h1.2, laidL_len]
  simp only [Bool.true_and]
  obtain ⟨p1, p2⟩ := posL_spec (u := n.Under) x.Due
  have pl := posL_le n.Under x.Due
  have hU : goodU n.Homes.length (laidL n.Under x) = letOk n.Homes.length x := by
    rw [Bool.eq_iff_iff, goodU_iff]
    constructor
    · intro hh
      exact hh.1 x (by simp [laidL])
    · intro hx
      refine ⟨fun y hy => ?_, ?_⟩
      · simp only [laidL, List.mem_append, List.mem_singleton] at hy
        rcases hy with (hy | hy) | hy
        · exact h3 y (List.mem_of_mem_take hy)
        · rw [hy]; exact hx
        · exact h3 y (List.mem_of_mem_drop hy)
      · have hpw := h4
        rw [List.pairwise_iff_getElem] at hpw
        rw [laidL, List.append_assoc, List.pairwise_append]
        refine ⟨h4.sublist (List.take_sublist _ _), ?_, ?_⟩
        · rw [List.singleton_append, List.pairwise_cons]
          refine ⟨fun y hy => ?_, h4.sublist (List.drop_sublist _ _)⟩
          obtain ⟨i, hi, rfl⟩ := List.getElem_of_mem hy
          simp only [List.length_drop] at hi
          have q := p2 (by omega)
          rw [nth_lt (show posL n.Under x.Due < n.Under.length by omega)] at q
          rw [List.getElem_drop]
          by_cases hz : i = 0
          · subst hz; simp only [Nat.add_zero]; omega
          · have := hpw (posL n.Under x.Due) (posL n.Under x.Due + i) (by omega) (by omega) (by omega)
            omega
        · intro y hy z hz
          obtain ⟨i, hi, rfl⟩ := List.getElem_of_mem hy
          simp only [List.length_take] at hi
          have q := p1 i (by omega)
          rw [nth_lt (show i < n.Under.length by omega)] at q
          rw [List.getElem_take]
          simp only [List.singleton_append, List.mem_cons] at hz
          rcases hz with rfl | hz
          · exact q
          · obtain ⟨j, hj, rfl⟩ := List.getElem_of_mem hz
            simp only [List.length_drop] at hj
            rw [List.getElem_drop]
            have := hpw i (posL n.Under x.Due + j) (by omega) (by omega) (by omega)
            exact this
  rw [hU]
  have : decide (((n.Under.length + 1 : Nat) : Int) ≤ 60) = !decide (60 ≤ n.Under.length) := by
    by_cases hc : 60 ≤ n.Under.length
    · simp [hc]; omega
    · simp [hc]; omega
  rw [this, Bool.and_comm]
theorem l1Most_ok (a b : Int) : ACall Try.prog n_spec_l1Most [i64 a, i64 b] (fun r _ => r = i64 (mostI a b)) := by
  refine fn_in h_spec_l1Most r_spec_l1Most ⟨by simp only [go_sem, ↓reduceIte], fun E hE hH => ?_⟩; simp only [go_sem, ↓reduceIte] at hE hH; simp only [go_sem, hE, hH, ↓reduceIte, c_spec_l1Most]
  repeat' (first | ((with_reducible (first | refine gd_t (fun h => ?_) (fun h => ?_) | refine gd_f (fun h => ?_) (fun h => ?_))) <;> (have hb := h; (try simp only [decide_eq_true_eq, decide_eq_false_iff_not, Int.not_lt, Int.not_le, ge_iff_le, gt_iff_lt, Bool.not_eq_true', Bool.not_eq_false', beq_iff_eq, bne_iff_ne, beq_eq_false_iff_ne, bne_eq_false_iff_eq, Int.ofNat_lt, Int.ofNat_le] at h); simp (disch := omega) only [go_sem, hE, hH, ↓reduceIte, hb]; (try clear hb))) | ((with_reducible refine And.intro ?_ ?_); · omega) | (refine jn _ ?_ ?_) | (with_reducible refine both ?_ ?_) | (with_reducible refine And.intro ?_ ?_) | (refine fin_eq ?_; (try (simp (disch := omega) only [go_sem, hE, hH, ↓reduceIte])); first | done | rfl) | (simp (disch := omega) only [go_sem, hE, hH, ↓reduceIte]) | (exact (noMLL_set (by simp only [go_sem, hE, hH, ↓reduceIte]) (by simp only [go_sem, hE, hH, ↓reduceIte])).2 trivial) | (exact (pk_set (by simp only [go_sem, hE, hH, ↓reduceIte]) (by simp only [go_sem, hE, hH, ↓reduceIte])).2 trivial) | (simp only [go_sem, hE, hH, ↓reduceIte]) | fail)
  all_goals (simp only [mostI]; first | rw [if_pos (by omega)] | rw [if_neg (by omega)])
theorem trip_ok (n : Net) (f t : Int) (h : goodNet n = true) (hf0 : 0 ≤ f) (hf : f < n.Homes.length) (ht0 : 0 ≤ t) (ht : t < n.Homes.length) : ACall Try.prog n_impl_Net_trip [.agg (Net.row false n), i64 f, i64 t] (fun r _ => r = i64 (tripN n f t)) := by
  have hmx := mx_eq
  obtain ⟨b1, b2, b3, b4, b5⟩ := tripN_rng h hf0 hf ht0 ht
  have k1 : f.toNat < n.Homes.length := by omega
  have k2 : t.toNat < n.Homes.length := by omega
  have hm : (if 0 - (nth n.Homes f.toNat - nth n.Homes t.toNat) > nth n.Homes f.toNat - nth n.Homes t.toNat then 0 - (nth n.Homes f.toNat - nth n.Homes t.toNat) else nth n.Homes f.toNat - nth n.Homes t.toNat) = mostI (nth n.Homes f.toNat - nth n.Homes t.toNat) (0 - (nth n.Homes f.toNat - nth n.Homes t.toNat)) := by
    unfold mostI; split <;> split <;> omega
  refine fn_in h_impl_Net_trip r_impl_Net_trip ⟨by simp only [go_sem, ↓reduceIte], fun E hE hH => ?_⟩; simp only [go_sem, ↓reduceIte] at hE hH; simp only [go_sem, hE, hH, ↓reduceIte, c_impl_Net_trip]
  repeat' (first | ((with_reducible (first | refine gd_t (fun h => ?_) (fun h => ?_) | refine gd_f (fun h => ?_) (fun h => ?_))) <;> (have hb := h; (try simp only [decide_eq_true_eq, decide_eq_false_iff_not, Int.not_lt, Int.not_le, ge_iff_le, gt_iff_lt, Bool.not_eq_true', Bool.not_eq_false', beq_iff_eq, bne_iff_ne, beq_eq_false_iff_ne, bne_eq_false_iff_eq, Int.ofNat_lt, Int.ofNat_le] at h); simp (disch := omega) only [go_sem, hE, hH, ↓reduceIte, hm, hb]; (try clear hb))) | ((with_reducible refine And.intro ?_ ?_); · omega) | (with_reducible apply jn) | (with_reducible apply both) | (with_reducible refine And.intro ?_ ?_) | ((with_reducible apply fin_eq); (try (simp (disch := omega) only [go_sem, hE, hH, ↓reduceIte, hm])); first | done | rfl) | (simp (disch := omega) only [go_sem, hE, hH, ↓reduceIte, hm]) | (exact (noMLL_set (by simp only [go_sem, hE, hH, ↓reduceIte, hm]) (by simp only [go_sem, hE, hH, ↓reduceIte, hm])).2 trivial) | (exact (pk_set (by simp only [go_sem, hE, hH, ↓reduceIte, hm]) (by simp only [go_sem, hE, hH, ↓reduceIte, hm])).2 trivial) | (simp only [go_sem, hE, hH, ↓reduceIte, hm]) | fail)
  all_goals rfl
theorem l7Trip_ok (n : Net) (f t : Int) (h : goodNet n = true) (hf0 : 0 ≤ f) (hf : f < n.Homes.length) (ht0 : 0 ≤ t) (ht : t < n.Homes.length) : ACall Try.prog n_spec_l7Trip [.agg (Net.row false n), i64 f, i64 t] (fun r _ => r = i64 (tripN n f t)) := by
  have hmx := mx_eq
  obtain ⟨b1, b2, b3, b4, b5⟩ := tripN_rng h hf0 hf ht0 ht
  have k1 : f.toNat < n.Homes.length := by omega
  have k2 : t.toNat < n.Homes.length := by omega
  refine fn_in h_spec_l7Trip r_spec_l7Trip ⟨by simp only [go_sem, ↓reduceIte], fun E hE hH => ?_⟩; simp only [go_sem, ↓reduceIte] at hE hH; simp only [go_sem, hE, hH, ↓reduceIte, c_spec_l7Trip]
  repeat' (first | ((with_reducible (first | refine gd_t (fun h => ?_) (fun h => ?_) | refine gd_f (fun h => ?_) (fun h => ?_))) <;> (have hb := h; (try simp only [decide_eq_true_eq, decide_eq_false_iff_not, Int.not_lt, Int.not_le, ge_iff_le, gt_iff_lt, Bool.not_eq_true', Bool.not_eq_false', beq_iff_eq, bne_iff_ne, beq_eq_false_iff_ne, bne_eq_false_iff_eq, Int.ofNat_lt, Int.ofNat_le] at h); simp (disch := omega) only [go_sem, hE, hH, ↓reduceIte, hb]; (try clear hb))) | ((with_reducible refine And.intro ?_ ?_); · omega) | (refine ok_view ?_; simp (disch := omega) only [go_sem, hE, hH, ↓reduceIte]) | (refine cvA (l1Most_ok _ _) ?_; simp (disch := omega) only [go_sem, hE, hH, ↓reduceIte]) | (with_reducible apply jn) | (with_reducible apply both) | (with_reducible refine And.intro ?_ ?_) | ((with_reducible apply fin_eq); (try (simp (disch := omega) only [go_sem, hE, hH, ↓reduceIte])); first | done | rfl) | (simp (disch := omega) only [go_sem, hE, hH, ↓reduceIte]) | (exact (noMLL_set (by simp only [go_sem, hE, hH, ↓reduceIte]) (by simp only [go_sem, hE, hH, ↓reduceIte])).2 trivial) | (exact (pk_set (by simp only [go_sem, hE, hH, ↓reduceIte]) (by simp only [go_sem, hE, hH, ↓reduceIte])).2 trivial) | (simp only [go_sem, hE, hH, ↓reduceIte]) | fail)
  all_goals rfl
set_option maxHeartbeats 2000000 in
theorem sent_ok (n : Net) (f t : Int) (b : ByteArray) (hg : goodNet n = true) (hm : n.Homes.length ≤ maxLen) : ACall Try.prog n_impl_Net_sent [.agg (Net.row false n), i64 f, i64 t, str b] (fun r _ => r = .tup [.agg (Net.row true (sendN n f t b).1), bl (sendN n f t b).2]) := by
  have hmx := mx_eq
  have i1 := isNode_ok n f hm
  have i2 := isNode_ok n t hm
  cases h1 : rng f 0 ((n.Homes.length : Int) - 1) with
  | false =>
    rw [h1] at i1
    have e : sendN n f t b = (zeroN, false) := by simp [sendN, sendC, h1]
    refine fn_in h_impl_Net_sent r_impl_Net_sent ⟨by simp only [go_sem, ↓reduceIte], fun E hE hH => ?_⟩; simp only [go_sem, ↓reduceIte] at hE hH; simp only [go_sem, hE, hH, ↓reduceIte, c_impl_Net_sent]
    repeat' (first | ((with_reducible (first | refine gd_t (fun h => ?_) (fun h => ?_) | refine gd_f (fun h => ?_) (fun h => ?_))) <;> (have hb := h; (try simp only [decide_eq_true_eq, decide_eq_false_iff_not, Int.not_lt, Int.not_le, ge_iff_le, gt_iff_lt, Bool.not_eq_true', Bool.not_eq_false', beq_iff_eq, bne_iff_ne, beq_eq_false_iff_ne, bne_eq_false_iff_eq, Int.ofNat_lt, Int.ofNat_le] at h); simp (disch := omega) only [go_sem, hE, hH, ↓reduceIte, hb]; (try clear hb))) | ((with_reducible refine And.intro ?_ ?_); · omega) | (refine ok_view ?_; simp (disch := omega) only [go_sem, hE, hH, ↓reduceIte]) | (refine cvA (i1) ?_; simp (disch := omega) only [go_sem, hE, hH, ↓reduceIte]) | (refine jn _ ?_ ?_) | (with_reducible refine both ?_ ?_) | (with_reducible refine And.intro ?_ ?_) | (refine fin_eq ?_; (try (simp (disch := omega) only [go_sem, hE, hH, ↓reduceIte])); first | done | rfl) | (simp (disch := omega) only [go_sem, hE, hH, ↓reduceIte]) | (exact (noMLL_set (by simp only [go_sem, hE, hH, ↓reduceIte]) (by simp only [go_sem, hE, hH, ↓reduceIte])).2 trivial) | (exact (pk_set (by simp only [go_sem, hE, hH, ↓reduceIte]) (by simp only [go_sem, hE, hH, ↓reduceIte])).2 trivial) | (simp only [go_sem, hE, hH, ↓reduceIte]) | fail)
    all_goals (rw [e]; try rfl)
  | true =>
    rw [h1] at i1
    have h1' := rng_iff.1 h1
    cases h2 : rng t 0 ((n.Homes.length : Int) - 1) with
    | false =>
      rw [h2] at i2
      have e : sendN n f t b = (zeroN, false) := by simp [sendN, sendC, h2]
      refine fn_in h_impl_Net_sent r_impl_Net_sent ⟨by simp only [go_sem, ↓reduceIte], fun E hE hH => ?_⟩; simp only [go_sem, ↓reduceIte] at hE hH; simp only [go_sem, hE, hH, ↓reduceIte, c_impl_Net_sent]
      repeat' (first | ((with_reducible (first | refine gd_t (fun h => ?_) (fun h => ?_) | refine gd_f (fun h => ?_) (fun h => ?_))) <;> (have hb := h; (try simp only [decide_eq_true_eq, decide_eq_false_iff_not, Int.not_lt, Int.not_le, ge_iff_le, gt_iff_lt, Bool.not_eq_true', Bool.not_eq_false', beq_iff_eq, bne_iff_ne, beq_eq_false_iff_ne, bne_eq_false_iff_eq, Int.ofNat_lt, Int.ofNat_le] at h); simp (disch := omega) only [go_sem, hE, hH, ↓reduceIte, hb]; (try clear hb))) | ((with_reducible refine And.intro ?_ ?_); · omega) | (refine ok_view ?_; simp (disch := omega) only [go_sem, hE, hH, ↓reduceIte]) | (refine cvA (i1) ?_; simp (disch := omega) only [go_sem, hE, hH, ↓reduceIte]) | (refine cvA (i2) ?_; simp (disch := omega) only [go_sem, hE, hH, ↓reduceIte]) | (refine jn _ ?_ ?_) | (with_reducible refine both ?_ ?_) | (with_reducible refine And.intro ?_ ?_) | (refine fin_eq ?_; (try (simp (disch := omega) only [go_sem, hE, hH, ↓reduceIte])); first | done | rfl) | (simp (disch := omega) only [go_sem, hE, hH, ↓reduceIte]) | (exact (noMLL_set (by simp only [go_sem, hE, hH, ↓reduceIte]) (by simp only [go_sem, hE, hH, ↓reduceIte])).2 trivial) | (exact (pk_set (by simp only [go_sem, hE, hH, ↓reduceIte]) (by simp only [go_sem, hE, hH, ↓reduceIte])).2 trivial) | (simp only [go_sem, hE, hH, ↓reduceIte]) | fail)
      all_goals (rw [e]; try rfl)
    | true =>
      rw [h2] at i2
      have h2' := rng_iff.1 h2
      by_cases hft : f = t
      · have e : sendN n f t b = (zeroN, false) := by simp [sendN, sendC, hft]
        subst hft
        refine fn_in h_impl_Net_sent r_impl_Net_sent ⟨by simp only [go_sem, ↓reduceIte], fun E hE hH => ?_⟩; simp only [go_sem, ↓reduceIte] at hE hH; simp only [go_sem, hE, hH, ↓reduceIte, c_impl_Net_sent]
        repeat' (first | ((with_reducible (first | refine gd_t (fun h => ?_) (fun h => ?_) | refine gd_f (fun h => ?_) (fun h => ?_))) <;> (have hb := h; (try simp only [decide_eq_true_eq, decide_eq_false_iff_not, Int.not_lt, Int.not_le, ge_iff_le, gt_iff_lt, Bool.not_eq_true', Bool.not_eq_false', beq_iff_eq, bne_iff_ne, beq_eq_false_iff_ne, bne_eq_false_iff_eq, Int.ofNat_lt, Int.ofNat_le] at h); simp (disch := omega) only [go_sem, hE, hH, ↓reduceIte, hb]; (try clear hb))) | ((with_reducible refine And.intro ?_ ?_); · omega) | (refine ok_view ?_; simp (disch := omega) only [go_sem, hE, hH, ↓reduceIte]) | (refine cvA (i1) ?_; simp (disch := omega) only [go_sem, hE, hH, ↓reduceIte]) | (refine cvA (i2) ?_; simp (disch := omega) only [go_sem, hE, hH, ↓reduceIte]) | (with_reducible apply jn) | (with_reducible apply both) | (with_reducible refine And.intro ?_ ?_) | ((with_reducible apply fin_eq); (try (simp (disch := omega) only [go_sem, hE, hH, ↓reduceIte])); first | done | rfl) | (simp (disch := omega) only [go_sem, hE, hH, ↓reduceIte]) | (exact (noMLL_set (by simp only [go_sem, hE, hH, ↓reduceIte]) (by simp only [go_sem, hE, hH, ↓reduceIte])).2 trivial) | (exact (pk_set (by simp only [go_sem, hE, hH, ↓reduceIte]) (by simp only [go_sem, hE, hH, ↓reduceIte])).2 trivial) | (simp only [go_sem, hE, hH, ↓reduceIte]) | fail)
        all_goals (rw [e]; try rfl)
      · have hC : sendC n f t = true := by simp [sendC, hg, h1, h2, hft]
        have e : sendN n f t b = ifN (withN n (laidL n.Under (sentL n f t b))) := if_pos hC
        have gl := goodNet_len hg
        obtain ⟨b1, b2, b3, b4, b5⟩ := tripN_rng hg h1'.1 (by omega) h2'.1 (by omega)
        have bt : 1 ≤ tripN n f t ∧ tripN n f t ≤ 41 := by unfold tripN; omega
        have hgl := goodNet_laid hg (sentL n f t b)
        have hl := isLetter_ok n (sentL n f t b) hm
        have hy := laid_ok n.Under (sentL n f t b) (by omega)
        simp only [sentL, Letter.row_eq] at hl hy
        have ez : goodNet (withN n (laidL n.Under (sentL n f t b))) = false → sendN n f t b = (zeroN, false) := fun hh => by rw [e, ifN, hh]; rfl
        have et : goodNet (withN n (laidL n.Under (sentL n f t b))) = true → sendN n f t b = (withN n (laidL n.Under (sentL n f t b)), true) := fun hh => by rw [e, ifN, hh]; rfl
        refine fn_in h_impl_Net_sent r_impl_Net_sent ⟨by simp only [go_sem, ↓reduceIte], fun E hE hH => ?_⟩; simp only [go_sem, ↓reduceIte] at hE hH; simp only [go_sem, hE, hH, ↓reduceIte, c_impl_Net_sent]
        repeat' (first | ((with_reducible (first | refine gd_t (fun h => ?_) (fun h => ?_) | refine gd_f (fun h => ?_) (fun h => ?_))) <;> (have hb := h; (try simp only [decide_eq_true_eq, decide_eq_false_iff_not, Int.not_lt, Int.not_le, ge_iff_le, gt_iff_lt, Bool.not_eq_true', Bool.not_eq_false', beq_iff_eq, bne_iff_ne, beq_eq_false_iff_ne, bne_eq_false_iff_eq, Int.ofNat_lt, Int.ofNat_le] at h); simp (disch := omega) only [go_sem, hE, hH, ↓reduceIte, hft, hb]; (try clear hb))) | ((with_reducible refine And.intro ?_ ?_); · omega) | (refine ok_view ?_; simp (disch := omega) only [go_sem, hE, hH, ↓reduceIte, hft]) | (refine cvA (i1) ?_; simp (disch := omega) only [go_sem, hE, hH, ↓reduceIte, hft]) | (refine cvA (i2) ?_; simp (disch := omega) only [go_sem, hE, hH, ↓reduceIte, hft]) | (refine cvA (trip_ok n f t hg h1'.1 (by omega) h2'.1 (by omega)) ?_; simp (disch := omega) only [go_sem, hE, hH, ↓reduceIte, hft]) | (refine cvA (hl) ?_; simp (disch := omega) only [go_sem, hE, hH, ↓reduceIte, hft]) | (refine cvA (hy) ?_; simp (disch := omega) only [go_sem, hE, hH, ↓reduceIte, hft]) | (refine cvA (Clone_Int_ok _ (by omega)) ?_; simp (disch := omega) only [go_sem, hE, hH, ↓reduceIte, hft]) | (with_reducible apply jn) | (with_reducible apply both) | (with_reducible refine And.intro ?_ ?_) | ((with_reducible apply fin_eq); (try (simp (disch := omega) only [go_sem, hE, hH, ↓reduceIte, hft])); first | done | rfl) | (simp (disch := omega) only [go_sem, hE, hH, ↓reduceIte, hft]) | (exact (noMLL_set (by simp only [go_sem, hE, hH, ↓reduceIte, hft]) (by simp only [go_sem, hE, hH, ↓reduceIte, hft])).2 trivial) | (exact (pk_set (by simp only [go_sem, hE, hH, ↓reduceIte, hft]) (by simp only [go_sem, hE, hH, ↓reduceIte, hft])).2 trivial) | (simp only [go_sem, hE, hH, ↓reduceIte, hft]) | fail)
        all_goals try omega
        all_goals first | (rw [ez (by rw [hgl, (show letOk n.Homes.length (sentL n f t b) = false from h)]; rfl)]; try rfl; done) | (rw [ez (by rw [hgl, decide_eq_true (by omega)]; simp)]; try rfl; done) | (rw [et (by rw [hgl, (show letOk n.Homes.length (sentL n f t b) = true by (show letOk n.Homes.length ⟨f, t, n.Now + tripN n f t, b⟩ = true); assumption), decide_eq_false (by omega)]; rfl)]; try rfl; done)
theorem SendTo_ok (n : Net) (f t : Int) (b : ByteArray) (hm : n.Homes.length ≤ maxLen) : ACall Try.prog n_impl_SendTo [.agg (Net.row false n), i64 f, i64 t, str b] (fun r _ => r = .tup [.agg (Net.row true (sendN n f t b).1), bl (sendN n f t b).2]) := by
  have hmx := mx_eq
  have hi := GoodNet_ok n hm
  cases hg : goodNet n with
  | false =>
    rw [hg] at hi
    have e : sendN n f t b = (zeroN, false) := by simp [sendN, sendC, hg]
    refine fn_in h_impl_SendTo r_impl_SendTo ⟨by simp only [go_sem, ↓reduceIte], fun E hE hH => ?_⟩; simp only [go_sem, ↓reduceIte] at hE hH; simp only [go_sem, hE, hH, ↓reduceIte, c_impl_SendTo]
    repeat' (first | ((with_reducible (first | refine gd_t (fun h => ?_) (fun h => ?_) | refine gd_f (fun h => ?_) (fun h => ?_))) <;> (have hb := h; (try simp only [decide_eq_true_eq, decide_eq_false_iff_not, Int.not_lt, Int.not_le, ge_iff_le, gt_iff_lt, Bool.not_eq_true', Bool.not_eq_false', beq_iff_eq, bne_iff_ne, beq_eq_false_iff_ne, bne_eq_false_iff_eq, Int.ofNat_lt, Int.ofNat_le] at h); simp (disch := omega) only [go_sem, hE, hH, ↓reduceIte, hb]; (try clear hb))) | ((with_reducible refine And.intro ?_ ?_); · omega) | (refine ok_view ?_; simp (disch := omega) only [go_sem, hE, hH, ↓reduceIte]) | (refine cvA (hi) ?_; simp (disch := omega) only [go_sem, hE, hH, ↓reduceIte]) | (refine jn _ ?_ ?_) | (with_reducible refine both ?_ ?_) | (with_reducible refine And.intro ?_ ?_) | (refine fin_eq ?_; (try (simp (disch := omega) only [go_sem, hE, hH, ↓reduceIte])); first | done | rfl) | (simp (disch := omega) only [go_sem, hE, hH, ↓reduceIte]) | (exact (noMLL_set (by simp only [go_sem, hE, hH, ↓reduceIte]) (by simp only [go_sem, hE, hH, ↓reduceIte])).2 trivial) | (exact (pk_set (by simp only [go_sem, hE, hH, ↓reduceIte]) (by simp only [go_sem, hE, hH, ↓reduceIte])).2 trivial) | (simp only [go_sem, hE, hH, ↓reduceIte]) | fail)
    all_goals (rw [e]; try rfl)
  | true =>
    rw [hg] at hi
    refine fn_in h_impl_SendTo r_impl_SendTo ⟨by simp only [go_sem, ↓reduceIte], fun E hE hH => ?_⟩; simp only [go_sem, ↓reduceIte] at hE hH; simp only [go_sem, hE, hH, ↓reduceIte, c_impl_SendTo]
    repeat' (first | ((with_reducible (first | refine gd_t (fun h => ?_) (fun h => ?_) | refine gd_f (fun h => ?_) (fun h => ?_))) <;> (have hb := h; (try simp only [decide_eq_true_eq, decide_eq_false_iff_not, Int.not_lt, Int.not_le, ge_iff_le, gt_iff_lt, Bool.not_eq_true', Bool.not_eq_false', beq_iff_eq, bne_iff_ne, beq_eq_false_iff_ne, bne_eq_false_iff_eq, Int.ofNat_lt, Int.ofNat_le] at h); simp (disch := omega) only [go_sem, hE, hH, ↓reduceIte, hb]; (try clear hb))) | ((with_reducible refine And.intro ?_ ?_); · omega) | (refine ok_view ?_; simp (disch := omega) only [go_sem, hE, hH, ↓reduceIte]) | (refine cvA (hi) ?_; simp (disch := omega) only [go_sem, hE, hH, ↓reduceIte]) | (refine cvA (sent_ok n f t b hg hm) ?_; simp (disch := omega) only [go_sem, hE, hH, ↓reduceIte]) | (refine jn _ ?_ ?_) | (with_reducible refine both ?_ ?_) | (with_reducible refine And.intro ?_ ?_) | (refine fin_eq ?_; (try (simp (disch := omega) only [go_sem, hE, hH, ↓reduceIte])); first | done | rfl) | (simp (disch := omega) only [go_sem, hE, hH, ↓reduceIte]) | (exact (noMLL_set (by simp only [go_sem, hE, hH, ↓reduceIte]) (by simp only [go_sem, hE, hH, ↓reduceIte])).2 trivial) | (exact (pk_set (by simp only [go_sem, hE, hH, ↓reduceIte]) (by simp only [go_sem, hE, hH, ↓reduceIte])).2 trivial) | (simp only [go_sem, hE, hH, ↓reduceIte]) | fail)
set_option maxHeartbeats 2000000 in
theorem sSendTo_ok (n : Net) (f t : Int) (b : ByteArray) (hm : n.Homes.length ≤ maxLen) : ACall Try.prog n_spec_SendTo [.agg (Net.row false n), i64 f, i64 t, str b] (fun r _ => r = .tup [.agg (Net.row true (sendN n f t b).1), bl (sendN n f t b).2]) := by
  have hmx := mx_eq
  have hi := l7Good_ok n hm
  cases hg : goodNet n with
  | false =>
    rw [hg] at hi
    have e : sendN n f t b = (zeroN, false) := by simp [sendN, sendC, hg]
    refine fn_in h_spec_SendTo r_spec_SendTo ⟨by simp only [go_sem, ↓reduceIte], fun E hE hH => ?_⟩; simp only [go_sem, ↓reduceIte] at hE hH; simp only [go_sem, hE, hH, ↓reduceIte, c_spec_SendTo]
    repeat' (first | ((with_reducible (first | refine gd_t (fun h => ?_) (fun h => ?_) | refine gd_f (fun h => ?_) (fun h => ?_))) <;> (have hb := h; (try simp only [decide_eq_true_eq, decide_eq_false_iff_not, Int.not_lt, Int.not_le, ge_iff_le, gt_iff_lt, Bool.not_eq_true', Bool.not_eq_false', beq_iff_eq, bne_iff_ne, beq_eq_false_iff_ne, bne_eq_false_iff_eq, Int.ofNat_lt, Int.ofNat_le] at h); simp (disch := omega) only [go_sem, hE, hH, ↓reduceIte, hb]; (try clear hb))) | ((with_reducible refine And.intro ?_ ?_); · omega) | (refine ok_view ?_; simp (disch := omega) only [go_sem, hE, hH, ↓reduceIte]) | (refine cvA (hi) ?_; simp (disch := omega) only [go_sem, hE, hH, ↓reduceIte]) | (refine jn _ ?_ ?_) | (with_reducible refine both ?_ ?_) | (with_reducible refine And.intro ?_ ?_) | (refine fin_eq ?_; (try (simp (disch := omega) only [go_sem, hE, hH, ↓reduceIte])); first | done | rfl) | (simp (disch := omega) only [go_sem, hE, hH, ↓reduceIte]) | (exact (noMLL_set (by simp only [go_sem, hE, hH, ↓reduceIte]) (by simp only [go_sem, hE, hH, ↓reduceIte])).2 trivial) | (exact (pk_set (by simp only [go_sem, hE, hH, ↓reduceIte]) (by simp only [go_sem, hE, hH, ↓reduceIte])).2 trivial) | (simp only [go_sem, hE, hH, ↓reduceIte]) | fail)
    all_goals (rw [e]; try rfl)
  | true =>
    rw [hg] at hi
    have i1 := l7Node_ok n f hm
    have i2 := l7Node_ok n t hm
    cases h1 : rng f 0 ((n.Homes.length : Int) - 1) with
    | false =>
      rw [h1] at i1
      have e : sendN n f t b = (zeroN, false) := by simp [sendN, sendC, h1]
      refine fn_in h_spec_SendTo r_spec_SendTo ⟨by simp only [go_sem, ↓reduceIte], fun E hE hH => ?_⟩; simp only [go_sem, ↓reduceIte] at hE hH; simp only [go_sem, hE, hH, ↓reduceIte, c_spec_SendTo]
      repeat' (first | ((with_reducible (first | refine gd_t (fun h => ?_) (fun h => ?_) | refine gd_f (fun h => ?_) (fun h => ?_))) <;> (have hb := h; (try simp only [decide_eq_true_eq, decide_eq_false_iff_not, Int.not_lt, Int.not_le, ge_iff_le, gt_iff_lt, Bool.not_eq_true', Bool.not_eq_false', beq_iff_eq, bne_iff_ne, beq_eq_false_iff_ne, bne_eq_false_iff_eq, Int.ofNat_lt, Int.ofNat_le] at h); simp (disch := omega) only [go_sem, hE, hH, ↓reduceIte, hb]; (try clear hb))) | ((with_reducible refine And.intro ?_ ?_); · omega) | (refine ok_view ?_; simp (disch := omega) only [go_sem, hE, hH, ↓reduceIte]) | (refine cvA (hi) ?_; simp (disch := omega) only [go_sem, hE, hH, ↓reduceIte]) | (refine cvA (i1) ?_; simp (disch := omega) only [go_sem, hE, hH, ↓reduceIte]) | (refine jn _ ?_ ?_) | (with_reducible refine both ?_ ?_) | (with_reducible refine And.intro ?_ ?_) | (refine fin_eq ?_; (try (simp (disch := omega) only [go_sem, hE, hH, ↓reduceIte])); first | done | rfl) | (simp (disch := omega) only [go_sem, hE, hH, ↓reduceIte]) | (exact (noMLL_set (by simp only [go_sem, hE, hH, ↓reduceIte]) (by simp only [go_sem, hE, hH, ↓reduceIte])).2 trivial) | (exact (pk_set (by simp only [go_sem, hE, hH, ↓reduceIte]) (by simp only [go_sem, hE, hH, ↓reduceIte])).2 trivial) | (simp only [go_sem, hE, hH, ↓reduceIte]) | fail)
      all_goals (rw [e]; try rfl)
    | true =>
      rw [h1] at i1
      have h1' := rng_iff.1 h1
      cases h2 : rng t 0 ((n.Homes.length : Int) - 1) with
      | false =>
        rw [h2] at i2
        have e : sendN n f t b = (zeroN, false) := by simp [sendN, sendC, h2]
        refine fn_in h_spec_SendTo r_spec_SendTo ⟨by simp only [go_sem, ↓reduceIte], fun E hE hH => ?_⟩; simp only [go_sem, ↓reduceIte] at hE hH; simp only [go_sem, hE, hH, ↓reduceIte, c_spec_SendTo]
        repeat' (first | ((with_reducible (first | refine gd_t (fun h => ?_) (fun h => ?_) | refine gd_f (fun h => ?_) (fun h => ?_))) <;> (have hb := h; (try simp only [decide_eq_true_eq, decide_eq_false_iff_not, Int.not_lt, Int.not_le, ge_iff_le, gt_iff_lt, Bool.not_eq_true', Bool.not_eq_false', beq_iff_eq, bne_iff_ne, beq_eq_false_iff_ne, bne_eq_false_iff_eq, Int.ofNat_lt, Int.ofNat_le] at h); simp (disch := omega) only [go_sem, hE, hH, ↓reduceIte, hb]; (try clear hb))) | ((with_reducible refine And.intro ?_ ?_); · omega) | (refine ok_view ?_; simp (disch := omega) only [go_sem, hE, hH, ↓reduceIte]) | (refine cvA (hi) ?_; simp (disch := omega) only [go_sem, hE, hH, ↓reduceIte]) | (refine cvA (i1) ?_; simp (disch := omega) only [go_sem, hE, hH, ↓reduceIte]) | (refine cvA (i2) ?_; simp (disch := omega) only [go_sem, hE, hH, ↓reduceIte]) | (refine jn _ ?_ ?_) | (with_reducible refine both ?_ ?_) | (with_reducible refine And.intro ?_ ?_) | (refine fin_eq ?_; (try (simp (disch := omega) only [go_sem, hE, hH, ↓reduceIte])); first | done | rfl) | (simp (disch := omega) only [go_sem, hE, hH, ↓reduceIte]) | (exact (noMLL_set (by simp only [go_sem, hE, hH, ↓reduceIte]) (by simp only [go_sem, hE, hH, ↓reduceIte])).2 trivial) | (exact (pk_set (by simp only [go_sem, hE, hH, ↓reduceIte]) (by simp only [go_sem, hE, hH, ↓reduceIte])).2 trivial) | (simp only [go_sem, hE, hH, ↓reduceIte]) | fail)
        all_goals (rw [e]; try rfl)
      | true =>
        rw [h2] at i2
        have h2' := rng_iff.1 h2
        by_cases hft : f = t
        · have e : sendN n f t b = (zeroN, false) := by simp [sendN, sendC, hft]
          subst hft
          refine fn_in h_spec_SendTo r_spec_SendTo ⟨by simp only [go_sem, ↓reduceIte], fun E hE hH => ?_⟩; simp only [go_sem, ↓reduceIte] at hE hH; simp only [go_sem, hE, hH, ↓reduceIte, c_spec_SendTo]
          repeat' (first | ((with_reducible (first | refine gd_t (fun h => ?_) (fun h => ?_) | refine gd_f (fun h => ?_) (fun h => ?_))) <;> (have hb := h; (try simp only [decide_eq_true_eq, decide_eq_false_iff_not, Int.not_lt, Int.not_le, ge_iff_le, gt_iff_lt, Bool.not_eq_true', Bool.not_eq_false', beq_iff_eq, bne_iff_ne, beq_eq_false_iff_ne, bne_eq_false_iff_eq, Int.ofNat_lt, Int.ofNat_le] at h); simp (disch := omega) only [go_sem, hE, hH, ↓reduceIte, hb]; (try clear hb))) | ((with_reducible refine And.intro ?_ ?_); · omega) | (refine ok_view ?_; simp (disch := omega) only [go_sem, hE, hH, ↓reduceIte]) | (refine cvA (hi) ?_; simp (disch := omega) only [go_sem, hE, hH, ↓reduceIte]) | (refine cvA (i1) ?_; simp (disch := omega) only [go_sem, hE, hH, ↓reduceIte]) | (refine cvA (i2) ?_; simp (disch := omega) only [go_sem, hE, hH, ↓reduceIte]) | (with_reducible apply jn) | (with_reducible apply both) | (with_reducible refine And.intro ?_ ?_) | ((with_reducible apply fin_eq); (try (simp (disch := omega) only [go_sem, hE, hH, ↓reduceIte])); first | done | rfl) | (simp (disch := omega) only [go_sem, hE, hH, ↓reduceIte]) | (exact (noMLL_set (by simp only [go_sem, hE, hH, ↓reduceIte]) (by simp only [go_sem, hE, hH, ↓reduceIte])).2 trivial) | (exact (pk_set (by simp only [go_sem, hE, hH, ↓reduceIte]) (by simp only [go_sem, hE, hH, ↓reduceIte])).2 trivial) | (simp only [go_sem, hE, hH, ↓reduceIte]) | fail)
          all_goals (rw [e]; try rfl)
        · have hC : sendC n f t = true := by simp [sendC, hg, h1, h2, hft]
          have e : sendN n f t b = ifN (withN n (laidL n.Under (sentL n f t b))) := if_pos hC
          have gl := goodNet_len hg
          obtain ⟨b1, b2, b3, b4, b5⟩ := tripN_rng hg h1'.1 (by omega) h2'.1 (by omega)
          have bt : 1 ≤ tripN n f t ∧ tripN n f t ≤ 41 := by unfold tripN; omega
          have hy := l7In_ok n.Under (sentL n f t b) (by omega)
          simp only [sentL, Letter.row_eq] at hy
          refine fn_in h_spec_SendTo r_spec_SendTo ⟨by simp only [go_sem, ↓reduceIte], fun E hE hH => ?_⟩; simp only [go_sem, ↓reduceIte] at hE hH; simp only [go_sem, hE, hH, ↓reduceIte, c_spec_SendTo]
          repeat' (first | ((with_reducible (first | refine gd_t (fun h => ?_) (fun h => ?_) | refine gd_f (fun h => ?_) (fun h => ?_))) <;> (have hb := h; (try simp only [decide_eq_true_eq, decide_eq_false_iff_not, Int.not_lt, Int.not_le, ge_iff_le, gt_iff_lt, Bool.not_eq_true', Bool.not_eq_false', beq_iff_eq, bne_iff_ne, beq_eq_false_iff_ne, bne_eq_false_iff_eq, Int.ofNat_lt, Int.ofNat_le] at h); simp (disch := omega) only [go_sem, hE, hH, ↓reduceIte, hft, hb]; (try clear hb))) | ((with_reducible refine And.intro ?_ ?_); · omega) | (refine ok_lend [true] ?_; simp (disch := omega) only [go_sem, hE, hH, ↓reduceIte, hft]; refine cmA (l7If_ok (withN n (laidL n.Under (sentL n f t b))) hm) ?_; simp (disch := omega) only [go_sem, hE, hH, ↓reduceIte, hft]) | (refine ok_view ?_; simp (disch := omega) only [go_sem, hE, hH, ↓reduceIte, hft]) | (refine cvA (hi) ?_; simp (disch := omega) only [go_sem, hE, hH, ↓reduceIte, hft]) | (refine cvA (i1) ?_; simp (disch := omega) only [go_sem, hE, hH, ↓reduceIte, hft]) | (refine cvA (i2) ?_; simp (disch := omega) only [go_sem, hE, hH, ↓reduceIte, hft]) | (refine cvA (l7Trip_ok n f t hg h1'.1 (by omega) h2'.1 (by omega)) ?_; simp (disch := omega) only [go_sem, hE, hH, ↓reduceIte, hft]) | (refine cvA (hy) ?_; simp (disch := omega) only [go_sem, hE, hH, ↓reduceIte, hft]) | (refine cvA (l7Own_ok n _ (by omega) (by rw [laidL_len]; omega)) ?_; simp (disch := omega) only [go_sem, hE, hH, ↓reduceIte, hft]) | (with_reducible apply jn) | (with_reducible apply both) | (with_reducible refine And.intro ?_ ?_) | ((with_reducible apply fin_eq); (try (simp (disch := omega) only [go_sem, hE, hH, ↓reduceIte, hft])); first | done | rfl) | (simp (disch := omega) only [go_sem, hE, hH, ↓reduceIte, hft]) | (exact (noMLL_set (by simp only [go_sem, hE, hH, ↓reduceIte, hft]) (by simp only [go_sem, hE, hH, ↓reduceIte, hft])).2 trivial) | (exact (pk_set (by simp only [go_sem, hE, hH, ↓reduceIte, hft]) (by simp only [go_sem, hE, hH, ↓reduceIte, hft])).2 trivial) | (simp only [go_sem, hE, hH, ↓reduceIte, hft]) | fail)
          all_goals try omega
          all_goals (rw [e]; try rfl)
end Go.Proofs.Wb

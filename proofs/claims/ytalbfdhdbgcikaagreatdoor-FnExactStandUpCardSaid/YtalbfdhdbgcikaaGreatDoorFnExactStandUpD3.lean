import Derived.Test.YtalbfdhdbgcikaaGreatDoorFnExactStandUpM0
import Derived.Laws.Externs
set_option linter.unusedSimpArgs false
set_option linter.unusedVariables false
set_option linter.unusedSectionVars false
namespace Go.Proofs.Wb
open Go Go.Am
def mostI (a b : Int) : Int := if a > b then a else b
def tripN (n : Net) (f t : Int) : Int := 1 + n.Far * mostI (nth n.Homes f.toNat - nth n.Homes t.toNat) (0 - (nth n.Homes f.toNat - nth n.Homes t.toNat))
theorem tripN_rng {n : Net} (h : goodNet n = true) {f t : Int} (hf0 : 0 ≤ f) (hf : f < n.Homes.length) (ht0 : 0 ≤ t) (ht : t < n.Homes.length) :
    (0 ≤ nth n.Homes f.toNat ∧ nth n.Homes f.toNat ≤ 2) ∧ (0 ≤ nth n.Homes t.toNat ∧ nth n.Homes t.toNat ≤ 2) ∧ (0 ≤ n.Far ∧ n.Far ≤ 20) ∧ (0 ≤ n.Now ∧ n.Now ≤ 100000) ∧
      (0 ≤ n.Far * mostI (nth n.Homes f.toNat - nth n.Homes t.toNat) (0 - (nth n.Homes f.toNat - nth n.Homes t.toNat)) ∧ n.Far * mostI (nth n.Homes f.toNat - nth n.Homes t.toNat) (0 - (nth n.Homes f.toNat - nth n.Homes t.toNat)) ≤ 40) := by
  simp only [goodNet, goodHomes, Bool.and_eq_true, rng_iff, allR, allN_iff] at h
  obtain ⟨⟨⟨h1, ⟨h2, h3⟩, h4⟩, h5⟩, h6⟩ := h
  have a1 := h3 f.toNat (by omega)
  have a2 := h3 t.toNat (by omega)
  refine ⟨a1, a2, h4, h1, ?_⟩
  have hm : mostI (nth n.Homes f.toNat - nth n.Homes t.toNat) (0 - (nth n.Homes f.toNat - nth n.Homes t.toNat)) = 0 ∨ mostI (nth n.Homes f.toNat - nth n.Homes t.toNat) (0 - (nth n.Homes f.toNat - nth n.Homes t.toNat)) = 1 ∨ mostI (nth n.Homes f.toNat - nth n.Homes t.toNat) (0 - (nth n.Homes f.toNat - nth n.Homes t.toNat)) = 2 := by
    unfold mostI; split <;> omega
  rcases hm with hm | hm | hm <;> rw [hm] <;> omega
def sentL (n : Net) (f t : Int) (b : ByteArray) : Letter := ⟨f, t, n.Now + tripN n f t, b⟩
def sendC (n : Net) (f t : Int) : Bool := goodNet n && rng f 0 ((n.Homes.length : Int) - 1) && rng t 0 ((n.Homes.length : Int) - 1) && !decide (f = t)
def sendN (n : Net) (f t : Int) (b : ByteArray) : Net × Bool := if sendC n f t then ifN (withN n (laidL n.Under (sentL n f t b))) else (zeroN, false)
theorem posL_spec {u : List Letter} (d : Int) : (∀ i, i < posL u d → (nth u i).Due ≤ d) ∧ (posL u d < u.length → d < (nth u (posL u d)).Due) := by
  have key : ∀ n, n ≤ u.length → (allN (fun i => !decide (d < (nth u i).Due)) n = true ∨ ∃ j, j < n ∧ d < (nth u j).Due ∧ allN (fun i => !decide (d < (nth u i).Due)) j = true) := by
    intro n
    induction n with
    | zero => intro _; exact .inl rfl
    | succ n ih =>
      intro hn
      rcases ih (by omega) with h | ⟨j, h1, h2, h3⟩
      · by_cases hp : d < (nth u n).Due
        · exact .inr ⟨n, by omega, hp, h⟩
        · exact .inl (allN_step h (by simpa using hp))
      · exact .inr ⟨j, by omega, h2, h3⟩
  rcases key u.length (Nat.le_refl _) with h | ⟨j, h1, h2, h3⟩
  · have e := posL_end h
    refine ⟨fun i hi => ?_, fun hlt => by omega⟩
    have := allN_iff.1 h i (by omega)
    simpa using this
  · have e := posL_at h1 h3 h2
    refine ⟨fun i hi => ?_, fun _ => by rw [e]; exact h2⟩
    have := allN_iff.1 h3 i (by omega)
    simpa using this
theorem goodNet_laid {n : Net} (h : goodNet n = true) (x : Letter) : goodNet (withN n (laidL n.Under x)) = (letOk n.Homes.length x && !decide (60 ≤ n.Under.length)) := by
  have h0 := h
  rw [goodNet_u] at h ⊢
  simp only [Bool.and_eq_true, decide_eq_true_eq, goodU_iff] at h
  obtain ⟨⟨h1, h2⟩, h3, h4⟩ := h
  have e1 : (withN n (laidL n.Under x)).Homes = n.Homes := rfl
  have e2 : (withN n (laidL n.Under x)).Far = n.Far := rfl
  have e3 : (withN n (laidL n.Under x)).Now = n.Now := rfl
  have e4 : (withN n (laidL n.Under x)).Under = laidL n.Under x := rfl
  rw [e1, e2, e3, e4, h1.1, h1.2, laidL_len]
  simp only [Bool.true_and]
  obtain ⟨p1, p2⟩ := posL_spec (u := n.Under) x.Due
  have pl := posL_le n.Under x.Due
  have hU : goodU n.Homes.length (laidL n.Under x) = letOk n.Homes.length x := by
    rw [Bool.eq_iff_iff, goodU_iff]
    constructor
    · intro hh
      exact hh.1 x (by simp [laidL])
    · intro hx
      refine ⟨fun y hy => ?_, ?_⟩
      · simp only [laidL, List.mem_append, List.mem_singleton] at hy
        rcases hy with (hy | hy) | hy
        · exact h3 y (List.mem_of_mem_take hy)
        · rw [hy]; exact hx
        · exact h3 y (List.mem_of_mem_drop hy)
      · have hpw := h4
        rw [List.pairwise_iff_getElem] at hpw
        rw [laidL, List.append_assoc, List.pairwise_append]
        refine ⟨h4.sublist (List.take_sublist _ _), ?_, ?_⟩
        · rw [List.singleton_append, List.pairwise_cons]
          refine ⟨fun y hy => ?_, h4.sublist (List.drop_sublist _ _)⟩
          obtain ⟨i, hi, rfl⟩ := List.getElem_of_mem hy
          simp only [List.length_drop] at hi
          have q := p2 (by omega)
          rw [nth_lt (show posL n.Under x.Due < n.Under.length by omega)] at q
          rw [List.getElem_drop]
          by_cases hz : i = 0
          · subst hz; simp only [Nat.add_zero]; omega
          · have := hpw (posL n.Under x.Due) (posL n.Under x.Due + i) (by omega) (by omega) (by omega)
            omega
        · intro y hy z hz
          obtain ⟨i, hi, rfl⟩ := List.getElem_of_mem hy
          simp only [List.length_take] at hi
          have q := p1 i (by omega)
          rw [nth_lt (show i < n.Under.length by omega)] at q
          rw [List.getElem_take]
          simp only [List.singleton_append, List.mem_cons] at hz
          rcases hz with rfl | hz
          · exact q
          · obtain ⟨j, hj, rfl⟩ := List.getElem_of_mem hz
            simp only [List.length_drop] at hj
            rw [List.getElem_drop]
            have := hpw i (posL n.Under x.Due + j) (by omega) (by omega) (by omega)
            exact this
  rw [hU]
  have : decide (((n.Under.length + 1 : Nat) : Int) ≤ 60) = !decide (60 ≤ n.Under.length) := by
    by_cases hc : 60 ≤ n.Under.length
    · simp [hc]; omega
    · simp [hc]; omega
  rw [this, Bool.and_comm]
theorem l1Most_ok (a b : Int) : ACall Tryz.prog n_spec_l1Most [i64 a, i64 b] (fun r _ => r = i64 (mostI a b)) := by
  refine fn_in h_spec_l1Most r_spec_l1Most ⟨by simp only [go_sem], fun E hE hH => ?_⟩; simp only [go_sem] at hE hH; simp only [go_sem, hE, hH, c_spec_l1Most]
  repeat' (first | ((with_reducible first | refine gd_t ?_ ?_ | refine gd_f ?_ ?_) <;> (intro h; have hb := h; (try simp only [nf] at h); simp (disch := omega) only [go_sem, hE, hH, hb]; (try clear hb))) | ((with_reducible refine And.intro ?_ ?_); · omega) | (refine jn _ ?_ ?_) | (with_reducible refine both ?_ ?_) | (with_reducible refine And.intro ?_ ?_) | (refine fin_eq ?_; (try (simp (disch := omega) only [go_sem, hE, hH])); first | done | rfl) | (simp (disch := omega) only [go_sem, hE, hH]) | ((first | apply noMLL_sE | apply pk_sE) <;> (simp only [go_sem, hE, hH]; done)) | (simp only [go_sem, hE, hH]) | fail)
  all_goals (simp only [mostI]; first | rw [if_pos (by omega)] | rw [if_neg (by omega)])
theorem trip_ok (n : Net) (f t : Int) (h : goodNet n = true) (hf0 : 0 ≤ f) (hf : f < n.Homes.length) (ht0 : 0 ≤ t) (ht : t < n.Homes.length) : ACall Tryz.prog n_impl_Net_trip [.agg (Net.row false n), i64 f, i64 t] (fun r _ => r = i64 (tripN n f t)) := by
  have hmx := mx_eq
  obtain ⟨b1, b2, b3, b4, b5⟩ := tripN_rng h hf0 hf ht0 ht
  have k1 : f.toNat < n.Homes.length := by omega
  have k2 : t.toNat < n.Homes.length := by omega
  have hm : (if 0 - (nth n.Homes f.toNat - nth n.Homes t.toNat) > nth n.Homes f.toNat - nth n.Homes t.toNat then 0 - (nth n.Homes f.toNat - nth n.Homes t.toNat) else nth n.Homes f.toNat - nth n.Homes t.toNat) = mostI (nth n.Homes f.toNat - nth n.Homes t.toNat) (0 - (nth n.Homes f.toNat - nth n.Homes t.toNat)) := by
    unfold mostI; split <;> split <;> omega
  refine fn_in h_impl_Net_trip r_impl_Net_trip ⟨by simp only [go_sem], fun E hE hH => ?_⟩; simp only [go_sem] at hE hH; simp only [go_sem, hE, hH, c_impl_Net_trip]
  repeat' (first | ((with_reducible first | refine gd_t ?_ ?_ | refine gd_f ?_ ?_) <;> (intro h; have hb := h; (try simp only [nf] at h); simp (disch := omega) only [go_sem, hE, hH, hm, hb]; (try clear hb))) | ((with_reducible refine And.intro ?_ ?_); · omega) | (with_reducible apply jn) | (with_reducible apply both) | (with_reducible refine And.intro ?_ ?_) | ((with_reducible apply fin_eq); (try (simp (disch := omega) only [go_sem, hE, hH, hm])); first | done | rfl) | (simp (disch := omega) only [go_sem, hE, hH, hm]) | ((first | apply noMLL_sE | apply pk_sE) <;> (simp only [go_sem, hE, hH, hm]; done)) | (simp only [go_sem, hE, hH, hm]) | fail)
  all_goals rfl
theorem l7Trip_ok (n : Net) (f t : Int) (h : goodNet n = true) (hf0 : 0 ≤ f) (hf : f < n.Homes.length) (ht0 : 0 ≤ t) (ht : t < n.Homes.length) : ACall Tryz.prog n_spec_l7Trip [.agg (Net.row false n), i64 f, i64 t] (fun r _ => r = i64 (tripN n f t)) := by
  have hmx := mx_eq
  obtain ⟨b1, b2, b3, b4, b5⟩ := tripN_rng h hf0 hf ht0 ht
  have k1 : f.toNat < n.Homes.length := by omega
  have k2 : t.toNat < n.Homes.length := by omega
  refine fn_in h_spec_l7Trip r_spec_l7Trip ⟨by simp only [go_sem], fun E hE hH => ?_⟩; simp only [go_sem] at hE hH; simp only [go_sem, hE, hH, c_spec_l7Trip]
  repeat' (first | ((with_reducible first | refine gd_t ?_ ?_ | refine gd_f ?_ ?_) <;> (intro h; have hb := h; (try simp only [nf] at h); simp (disch := omega) only [go_sem, hE, hH, hb]; (try clear hb))) | ((with_reducible refine And.intro ?_ ?_); · omega) | ((first | refine ok_view ?_ | refine cvA (l1Most_ok _ _) ?_); simp (disch := omega) only [go_sem, hE, hH]) | (with_reducible apply jn) | (with_reducible apply both) | (with_reducible refine And.intro ?_ ?_) | ((with_reducible apply fin_eq); (try (simp (disch := omega) only [go_sem, hE, hH])); first | done | rfl) | (simp (disch := omega) only [go_sem, hE, hH]) | ((first | apply noMLL_sE | apply pk_sE) <;> (simp only [go_sem, hE, hH]; done)) | (simp only [go_sem, hE, hH]) | fail)
  all_goals rfl
set_option maxHeartbeats 2000000 in
theorem sent_ok (n : Net) (f t : Int) (b : ByteArray) (hg : goodNet n = true) (hm : n.Homes.length ≤ maxLen) : ACall Tryz.prog n_impl_Net_sent [.agg (Net.row false n), i64 f, i64 t, str b] (fun r _ => r = .tup [.agg (Net.row true (sendN n f t b).1), bl (sendN n f t b).2]) := by
  have hmx := mx_eq
  have i1 := isNode_ok n f hm
  have i2 := isNode_ok n t hm
  cases h1 : rng f 0 ((n.Homes.length : Int) - 1) with
  | false =>
    rw [h1] at i1
    have e : sendN n f t b = (zeroN, false) := by simp [sendN, sendC, h1]
    refine fn_in h_impl_Net_sent r_impl_Net_sent ⟨by simp only [go_sem], fun E hE hH => ?_⟩; simp only [go_sem] at hE hH; simp only [go_sem, hE, hH, c_impl_Net_sent]
    repeat' (first | ((with_reducible first | refine gd_t ?_ ?_ | refine gd_f ?_ ?_) <;> (intro h; have hb := h; (try simp only [nf] at h); simp (disch := omega) only [go_sem, hE, hH, hb]; (try clear hb))) | ((with_reducible refine And.intro ?_ ?_); · omega) | ((first | refine ok_view ?_ | refine cvA (i1) ?_); simp (disch := omega) only [go_sem, hE, hH]) | (refine jn _ ?_ ?_) | (with_reducible refine both ?_ ?_) | (with_reducible refine And.intro ?_ ?_) | (refine fin_eq ?_; (try (simp (disch := omega) only [go_sem, hE, hH])); first | done | rfl) | (simp (disch := omega) only [go_sem, hE, hH]) | ((first | apply noMLL_sE | apply pk_sE) <;> (simp only [go_sem, hE, hH]; done)) | (simp only [go_sem, hE, hH]) | fail)
    all_goals (rw [e]; try rfl)
  | true =>
    rw [h1] at i1
    have h1' := rng_iff.1 h1
    cases h2 : rng t 0 ((n.Homes.length : Int) - 1) with
    | false =>
      rw [h2] at i2
      have e : sendN n f t b = (zeroN, false) := by simp [sendN, sendC, h2]
      refine fn_in h_impl_Net_sent r_impl_Net_sent ⟨by simp only [go_sem], fun E hE hH => ?_⟩; simp only [go_sem] at hE hH; simp only [go_sem, hE, hH, c_impl_Net_sent]
      repeat' (first | ((with_reducible first | refine gd_t ?_ ?_ | refine gd_f ?_ ?_) <;> (intro h; have hb := h; (try simp only [nf] at h); simp (disch := omega) only [go_sem, hE, hH, hb]; (try clear hb))) | ((with_reducible refine And.intro ?_ ?_); · omega) | ((first | refine ok_view ?_ | refine cvA (i1) ?_ | refine cvA (i2) ?_); simp (disch := omega) only [go_sem, hE, hH]) | (refine jn _ ?_ ?_) | (with_reducible refine both ?_ ?_) | (with_reducible refine And.intro ?_ ?_) | (refine fin_eq ?_; (try (simp (disch := omega) only [go_sem, hE, hH])); first | done | rfl) | (simp (disch := omega) only [go_sem, hE, hH]) | ((first | apply noMLL_sE | apply pk_sE) <;> (simp only [go_sem, hE, hH]; done)) | (simp only [go_sem, hE, hH]) | fail)
      all_goals (rw [e]; try rfl)
    | true =>
      rw [h2] at i2
      have h2' := rng_iff.1 h2
      by_cases hft : f = t
      · have e : sendN n f t b = (zeroN, false) := by simp [sendN, sendC, hft]
        subst hft
        refine fn_in h_impl_Net_sent r_impl_Net_sent ⟨by simp only [go_sem], fun E hE hH => ?_⟩; simp only [go_sem] at hE hH; simp only [go_sem, hE, hH, c_impl_Net_sent]
        repeat' (first | ((with_reducible first | refine gd_t ?_ ?_ | refine gd_f ?_ ?_) <;> (intro h; have hb := h; (try simp only [nf] at h); simp (disch := omega) only [go_sem, hE, hH, hb]; (try clear hb))) | ((with_reducible refine And.intro ?_ ?_); · omega) | ((first | refine ok_view ?_ | refine cvA (i1) ?_ | refine cvA (i2) ?_); simp (disch := omega) only [go_sem, hE, hH]) | (with_reducible apply jn) | (with_reducible apply both) | (with_reducible refine And.intro ?_ ?_) | ((with_reducible apply fin_eq); (try (simp (disch := omega) only [go_sem, hE, hH])); first | done | rfl) | (simp (disch := omega) only [go_sem, hE, hH]) | ((first | apply noMLL_sE | apply pk_sE) <;> (simp only [go_sem, hE, hH]; done)) | (simp only [go_sem, hE, hH]) | fail)
        all_goals (rw [e]; try rfl)
      · have hC : sendC n f t = true := by simp [sendC, hg, h1, h2, hft]
        have e : sendN n f t b = ifN (withN n (laidL n.Under (sentL n f t b))) := if_pos hC
        have gl := goodNet_len hg
        obtain ⟨b1, b2, b3, b4, b5⟩ := tripN_rng hg h1'.1 (by omega) h2'.1 (by omega)
        have bt : 1 ≤ tripN n f t ∧ tripN n f t ≤ 41 := by unfold tripN; omega
        have hgl := goodNet_laid hg (sentL n f t b)
        have hl := isLetter_ok n (sentL n f t b) hm
        have hy := laid_ok n.Under (sentL n f t b) (by omega)
        simp only [sentL, Letter.row_eq] at hl hy
        have ez : goodNet (withN n (laidL n.Under (sentL n f t b))) = false → sendN n f t b = (zeroN, false) := fun hh => by rw [e, ifN, hh]; rfl
        have et : goodNet (withN n (laidL n.Under (sentL n f t b))) = true → sendN n f t b = (withN n (laidL n.Under (sentL n f t b)), true) := fun hh => by rw [e, ifN, hh]; rfl
        refine fn_in h_impl_Net_sent r_impl_Net_sent ⟨by simp only [go_sem], fun E hE hH => ?_⟩; simp only [go_sem] at hE hH; simp only [go_sem, hE, hH, c_impl_Net_sent]
        repeat' (first | ((with_reducible first | refine gd_t ?_ ?_ | refine gd_f ?_ ?_) <;> (intro h; have hb := h; (try simp only [nf] at h); simp (disch := omega) only [go_sem, hE, hH, hft, hb]; (try clear hb))) | ((with_reducible refine And.intro ?_ ?_); · omega) | ((first | refine ok_view ?_ | refine cvA (i1) ?_ | refine cvA (i2) ?_ | refine cvA (trip_ok n f t hg h1'.1 (by omega) h2'.1 (by omega)) ?_ | refine cvA (hl) ?_ | refine cvA (hy) ?_ | refine cvA (Clone_Int_ok _ (by omega)) ?_); simp (disch := omega) only [go_sem, hE, hH, hft]) | (with_reducible apply jn) | (with_reducible apply both) | (with_reducible refine And.intro ?_ ?_) | ((with_reducible apply fin_eq); (try (simp (disch := omega) only [go_sem, hE, hH, hft])); first | done | rfl) | (simp (disch := omega) only [go_sem, hE, hH, hft]) | ((first | apply noMLL_sE | apply pk_sE) <;> (simp only [go_sem, hE, hH, hft]; done)) | (simp only [go_sem, hE, hH, hft]) | fail)
        all_goals try omega
        all_goals first | (rw [ez (by rw [hgl, (show letOk n.Homes.length (sentL n f t b) = false from h)]; rfl)]; try rfl; done) | (rw [ez (by rw [hgl, decide_eq_true (by omega)]; simp)]; try rfl; done) | (rw [et (by rw [hgl, (show letOk n.Homes.length (sentL n f t b) = true by (show letOk n.Homes.length ⟨f, t, n.Now + tripN n f t, b⟩ = true); assumption), decide_eq_false (by omega)]; rfl)]; try rfl; done)
set_option maxHeartbeats 2000000 in
theorem sSendTo_ok (n : Net) (f t : Int) (b : ByteArray) (hm : n.Homes.length ≤ maxLen) : ACall Tryz.prog n_spec_SendTo [.agg (Net.row false n), i64 f, i64 t, str b] (fun r _ => r = .tup [.agg (Net.row true (sendN n f t b).1), bl (sendN n f t b).2]) := by
  have hmx := mx_eq
  have hi := l7Good_ok n hm
  cases hg : goodNet n with
  | false =>
    rw [hg] at hi
    have e : sendN n f t b = (zeroN, false) := by simp [sendN, sendC, hg]
    refine fn_in h_spec_SendTo r_spec_SendTo ⟨by simp only [go_sem], fun E hE hH => ?_⟩; simp only [go_sem] at hE hH; simp only [go_sem, hE, hH, c_spec_SendTo]
    repeat' (first | ((with_reducible first | refine gd_t ?_ ?_ | refine gd_f ?_ ?_) <;> (intro h; have hb := h; (try simp only [nf] at h); simp (disch := omega) only [go_sem, hE, hH, hb]; (try clear hb))) | ((with_reducible refine And.intro ?_ ?_); · omega) | ((first | refine ok_view ?_ | refine cvA (hi) ?_); simp (disch := omega) only [go_sem, hE, hH]) | (refine jn _ ?_ ?_) | (with_reducible refine both ?_ ?_) | (with_reducible refine And.intro ?_ ?_) | (refine fin_eq ?_; (try (simp (disch := omega) only [go_sem, hE, hH])); first | done | rfl) | (simp (disch := omega) only [go_sem, hE, hH]) | ((first | apply noMLL_sE | apply pk_sE) <;> (simp only [go_sem, hE, hH]; done)) | (simp only [go_sem, hE, hH]) | fail)
    all_goals (rw [e]; try rfl)
  | true =>
    rw [hg] at hi
    have i1 := l7Node_ok n f hm
    have i2 := l7Node_ok n t hm
    cases h1 : rng f 0 ((n.Homes.length : Int) - 1) with
    | false =>
      rw [h1] at i1
      have e : sendN n f t b = (zeroN, false) := by simp [sendN, sendC, h1]
      refine fn_in h_spec_SendTo r_spec_SendTo ⟨by simp only [go_sem], fun E hE hH => ?_⟩; simp only [go_sem] at hE hH; simp only [go_sem, hE, hH, c_spec_SendTo]
      repeat' (first | ((with_reducible first | refine gd_t ?_ ?_ | refine gd_f ?_ ?_) <;> (intro h; have hb := h; (try simp only [nf] at h); simp (disch := omega) only [go_sem, hE, hH, hb]; (try clear hb))) | ((with_reducible refine And.intro ?_ ?_); · omega) | ((first | refine ok_view ?_ | refine cvA (hi) ?_ | refine cvA (i1) ?_); simp (disch := omega) only [go_sem, hE, hH]) | (refine jn _ ?_ ?_) | (with_reducible refine both ?_ ?_) | (with_reducible refine And.intro ?_ ?_) | (refine fin_eq ?_; (try (simp (disch := omega) only [go_sem, hE, hH])); first | done | rfl) | (simp (disch := omega) only [go_sem, hE, hH]) | ((first | apply noMLL_sE | apply pk_sE) <;> (simp only [go_sem, hE, hH]; done)) | (simp only [go_sem, hE, hH]) | fail)
      all_goals (rw [e]; try rfl)
    | true =>
      rw [h1] at i1
      have h1' := rng_iff.1 h1
      cases h2 : rng t 0 ((n.Homes.length : Int) - 1) with
      | false =>
        rw [h2] at i2
        have e : sendN n f t b = (zeroN, false) := by simp [sendN, sendC, h2]
        refine fn_in h_spec_SendTo r_spec_SendTo ⟨by simp only [go_sem], fun E hE hH => ?_⟩; simp only [go_sem] at hE hH; simp only [go_sem, hE, hH, c_spec_SendTo]
        repeat' (first | ((with_reducible first | refine gd_t ?_ ?_ | refine gd_f ?_ ?_) <;> (intro h; have hb := h; (try simp only [nf] at h); simp (disch := omega) only [go_sem, hE, hH, hb]; (try clear hb))) | ((with_reducible refine And.intro ?_ ?_); · omega) | ((first | refine ok_view ?_ | refine cvA (hi) ?_ | refine cvA (i1) ?_ | refine cvA (i2) ?_); simp (disch := omega) only [go_sem, hE, hH]) | (refine jn _ ?_ ?_) | (with_reducible refine both ?_ ?_) | (with_reducible refine And.intro ?_ ?_) | (refine fin_eq ?_; (try (simp (disch := omega) only [go_sem, hE, hH])); first | done | rfl) | (simp (disch := omega) only [go_sem, hE, hH]) | ((first | apply noMLL_sE | apply pk_sE) <;> (simp only [go_sem, hE, hH]; done)) | (simp only [go_sem, hE, hH]) | fail)
        all_goals (rw [e]; try rfl)
      | true =>
        rw [h2] at i2
        have h2' := rng_iff.1 h2
        by_cases hft : f = t
        · have e : sendN n f t b = (zeroN, false) := by simp [sendN, sendC, hft]
          subst hft
          refine fn_in h_spec_SendTo r_spec_SendTo ⟨by simp only [go_sem], fun E hE hH => ?_⟩; simp only [go_sem] at hE hH; simp only [go_sem, hE, hH, c_spec_SendTo]
          repeat' (first | ((with_reducible first | refine gd_t ?_ ?_ | refine gd_f ?_ ?_) <;> (intro h; have hb := h; (try simp only [nf] at h); simp (disch := omega) only [go_sem, hE, hH, hb]; (try clear hb))) | ((with_reducible refine And.intro ?_ ?_); · omega) | ((first | refine ok_view ?_ | refine cvA (hi) ?_ | refine cvA (i1) ?_ | refine cvA (i2) ?_); simp (disch := omega) only [go_sem, hE, hH]) | (with_reducible apply jn) | (with_reducible apply both) | (with_reducible refine And.intro ?_ ?_) | ((with_reducible apply fin_eq); (try (simp (disch := omega) only [go_sem, hE, hH])); first | done | rfl) | (simp (disch := omega) only [go_sem, hE, hH]) | ((first | apply noMLL_sE | apply pk_sE) <;> (simp only [go_sem, hE, hH]; done)) | (simp only [go_sem, hE, hH]) | fail)
          all_goals (rw [e]; try rfl)
        · have hC : sendC n f t = true := by simp [sendC, hg, h1, h2, hft]
          have e : sendN n f t b = ifN (withN n (laidL n.Under (sentL n f t b))) := if_pos hC
          have gl := goodNet_len hg
          obtain ⟨b1, b2, b3, b4, b5⟩ := tripN_rng hg h1'.1 (by omega) h2'.1 (by omega)
          have bt : 1 ≤ tripN n f t ∧ tripN n f t ≤ 41 := by unfold tripN; omega
          have hy := l7In_ok n.Under (sentL n f t b) (by omega)
          simp only [sentL, Letter.row_eq] at hy
          refine fn_in h_spec_SendTo r_spec_SendTo ⟨by simp only [go_sem], fun E hE hH => ?_⟩; simp only [go_sem] at hE hH; simp only [go_sem, hE, hH, c_spec_SendTo]
          repeat' (first | ((with_reducible first | refine gd_t ?_ ?_ | refine gd_f ?_ ?_) <;> (intro h; have hb := h; (try simp only [nf] at h); simp (disch := omega) only [go_sem, hE, hH, hft, hb]; (try clear hb))) | ((with_reducible refine And.intro ?_ ?_); · omega) | (refine ok_lend [true] ?_; simp (disch := omega) only [go_sem, hE, hH, hft]; refine cmA (l7If_ok (withN n (laidL n.Under (sentL n f t b))) hm) ?_; simp (disch := omega) only [go_sem, hE, hH, hft]) | ((first | refine ok_view ?_ | refine cvA (hi) ?_ | refine cvA (i1) ?_ | refine cvA (i2) ?_ | refine cvA (l7Trip_ok n f t hg h1'.1 (by omega) h2'.1 (by omega)) ?_ | refine cvA (hy) ?_ | refine cvA (l7Own_ok n _ (by omega) (by rw [laidL_len]; omega)) ?_); simp (disch := omega) only [go_sem, hE, hH, hft]) | (with_reducible apply jn) | (with_reducible apply both) | (with_reducible refine And.intro ?_ ?_) | ((with_reducible apply fin_eq); (try (simp (disch := omega) only [go_sem, hE, hH, hft])); first | done | rfl) | (simp (disch := omega) only [go_sem, hE, hH, hft]) | ((first | apply noMLL_sE | apply pk_sE) <;> (simp only [go_sem, hE, hH, hft]; done)) | (simp only [go_sem, hE, hH, hft]) | fail)
          all_goals try omega
          all_goals (rw [e]; try rfl)
abbrev sD (l : List UInt8) : T := .v (.string ⟨⟨l⟩⟩)
def numF : Nat → Nat → List UInt8
  | 0, _ => []
  | k + 1, u => if u < 10 then [UInt8.ofNat (48 + u)] else numF k (u / 10) ++ [UInt8.ofNat (48 + u % 10)]
def dgt (u : Nat) : List UInt8 := numF 20 u
theorem numF_eq : ∀ (k m u : Nat), u < 10 ^ k → k ≤ m → 1 ≤ k → numF m u = numF k u
  | 0, _, _, _, _, h => absurd h (by omega)
  | k + 1, m, u, hu, hm, _ => by
    obtain ⟨m, rfl⟩ : ∃ n, m = n + 1 := ⟨m - 1, by omega⟩
    simp only [numF]
    by_cases h : u < 10
    · rw [if_pos h, if_pos h]
    · rw [if_neg h, if_neg h, numF_eq k m (u / 10) (by rw [Nat.pow_succ] at hu; omega) (by omega) (by
        rcases Nat.eq_zero_or_pos k with rfl | h1
        · simp at hu; omega
        · exact h1)]
theorem numF_len : ∀ (k u : Nat), 1 ≤ k → 1 ≤ (numF k u).length ∧ (numF k u).length ≤ k
  | 0, _, h => absurd h (by omega)
  | k + 1, u, _ => by
    simp only [numF]
    split
    · simp
    · rcases Nat.eq_zero_or_pos k with rfl | h1
      · simp [numF]
      · have := numF_len k (u / 10) h1
        simp; omega
@[go_sem] theorem ba_app2 (a b : List UInt8) : (⟨⟨a⟩⟩ : ByteArray) ++ ⟨⟨b⟩⟩ = ⟨⟨a ++ b⟩⟩ := by
  apply ByteArray.ext
  rw [ByteArray.data_append]
  simp
@[go_sem] theorem ba_size2 (a : List UInt8) : (⟨⟨a⟩⟩ : ByteArray).size = a.length := rfl
theorem u8_wrap {u : Nat} (h : u < 256) : IntKind.u8.wrap (u : Int) = u := by
  simp [IntKind.wrap, IntKind.bits, IntKind.signed]; omega
@[go_sem] theorem isByteRow_u82 (n : Int) : isByteRow [.v (.int .u8 n)] = true := rfl
theorem byteOf_u82 (n : Int) : Am.byteOf [.v (.int .u8 n)] = UInt8.ofNat n.toNat := rfl
theorem dig_row {u : Nat} (h : u < 10) : bytesOf [[.v (.int .u8 (IntKind.u8.wrap (48 + (u : Int))))]] = ⟨⟨[UInt8.ofNat (48 + u)]⟩⟩ := by
  have e : (48 : Int) + u = ((48 + u : Nat) : Int) := by omega
  rw [e, u8_wrap (by omega)]
  simp only [bytesOf, List.map_cons, List.map_nil, byteOf_u82]
  rfl
theorem l1Num_okF : ∀ (k u : Nat), u < 10 ^ k → 1 ≤ k → k ≤ 18 → ACall Tryz.prog n_spec_l1Num [i64 u] (fun r _ => r = sD (numF k u))
  | 0, _, _, h, _ => absurd h (by omega)
  | k + 1, u, hu, _, hk => by
    have hmx := mx_eq
    have hp : 10 ^ (k + 1) ≤ 10 ^ 18 := Nat.pow_le_pow_right (by omega) hk
    by_cases h : u < 10
    · have e := dig_row h
      have e2 : numF (k + 1) u = [UInt8.ofNat (48 + u)] := by simp only [numF]; rw [if_pos h]
      refine fn_in h_spec_l1Num r_spec_l1Num ⟨by simp only [go_sem], fun E hE hH => ?_⟩; simp only [go_sem] at hE hH; simp only [go_sem, hE, hH, c_spec_l1Num]
      repeat' (first | ((with_reducible first | refine gd_t ?_ ?_ | refine gd_f ?_ ?_) <;> (intro h; have hb := h; (try simp only [nf] at h); simp (disch := omega) only [go_sem, hE, hH, e, e2, hb]; (try clear hb))) | ((with_reducible refine And.intro ?_ ?_); · omega) | (with_reducible apply jn) | (with_reducible apply both) | (with_reducible refine And.intro ?_ ?_) | ((with_reducible apply fin_eq); (try (simp (disch := omega) only [go_sem, hE, hH, e, e2])); first | done | rfl) | (simp (disch := omega) only [go_sem, hE, hH, e, e2]) | ((first | apply noMLL_sE | apply pk_sE) <;> (simp only [go_sem, hE, hH, e, e2]; done)) | (simp only [go_sem, hE, hH, e, e2]) | fail)
      all_goals first | omega | (exfalso; omega) | rfl | trace_state
    · have hk1 : 1 ≤ k := by
        rcases Nat.eq_zero_or_pos k with rfl | h1
        · simp at hu; omega
        · exact h1
      have e := dig_row (show u % 10 < 10 by omega)
      have e2 : numF (k + 1) u = numF k (u / 10) ++ [UInt8.ofNat (48 + u % 10)] := by simp only [numF]; rw [if_neg h]
      have ih := l1Num_okF k (u / 10) (by rw [Nat.pow_succ] at hu; omega) hk1 (by omega)
      have e3 : ((u : Nat) : Int).tdiv 10 = ((u / 10 : Nat) : Int) := by rw [show (10 : Int) = ((10 : Nat) : Int) from rfl, Int.ofNat_tdiv]
      have e4 : ((u : Nat) : Int).tmod 10 = ((u % 10 : Nat) : Int) := by rw [show (10 : Int) = ((10 : Nat) : Int) from rfl, Int.ofNat_tmod]
      have hl := numF_len k (u / 10) hk1
      refine fn_in h_spec_l1Num r_spec_l1Num ⟨by simp only [go_sem], fun E hE hH => ?_⟩; simp only [go_sem] at hE hH; simp only [go_sem, hE, hH, c_spec_l1Num]
      repeat' (first | ((with_reducible first | refine gd_t ?_ ?_ | refine gd_f ?_ ?_) <;> (intro h; have hb := h; (try simp only [nf] at h); simp (disch := omega) only [go_sem, hE, hH, e, e2, e3, e4, hb]; (try clear hb))) | ((with_reducible refine And.intro ?_ ?_); · omega) | ((first | refine ok_view ?_ | refine cvA (ih) ?_); simp (disch := omega) only [go_sem, hE, hH, e, e2, e3, e4]) | (with_reducible apply jn) | (with_reducible apply both) | (with_reducible refine And.intro ?_ ?_) | ((with_reducible apply fin_eq); (try (simp (disch := omega) only [go_sem, hE, hH, e, e2, e3, e4])); first | done | rfl) | (simp (disch := omega) only [go_sem, hE, hH, e, e2, e3, e4]) | ((first | apply noMLL_sE | apply pk_sE) <;> (simp only [go_sem, hE, hH, e, e2, e3, e4]; done)) | (simp only [go_sem, hE, hH, e, e2, e3, e4]) | fail)
      all_goals first | omega | (exfalso; omega) | rfl | trace_state
theorem l1Num_ok (u : Nat) (hu : u < 10 ^ 18) : ACall Tryz.prog n_spec_l1Num [i64 u] (fun r _ => r = sD (dgt u)) := by
  rw [dgt, numF_eq 18 20 u hu (by omega) (by omega)]
  exact l1Num_okF 18 u hu (by omega) (by omega)
abbrev ItoaH : Prop := ∀ u : Nat, u < 10 ^ 18 → ACall Tryz.prog n_strconv_Itoa [i64 u] (fun r _ => r = sD (dgt u))
def sendP (n : Net) (f t : Int) (b : ByteArray) : Net := if (sendN n f t b).2 = true then (sendN n f t b).1 else n
theorem sendN_good {n : Net} {f t : Int} {b : ByteArray} (h : (sendN n f t b).2 = true) : goodNet (sendN n f t b).1 = true ∧ (sendN n f t b).1 = withN n (laidL n.Under (sentL n f t b)) := by
  unfold sendN at h ⊢
  split at h
  · rename_i hc
    rw [if_pos hc]
    unfold ifN at h ⊢
    split at h
    · rename_i hg
      rw [if_pos hg]; exact ⟨hg, rfl⟩
    · cases h
  · cases h
theorem sendP_good {n : Net} {f t : Int} {b : ByteArray} (h : goodNet n = true) : goodNet (sendP n f t b) = true := by
  unfold sendP
  split
  · rename_i hc; exact (sendN_good hc).1
  · exact h
theorem sendP_homes {n : Net} {f t : Int} {b : ByteArray} : (sendP n f t b).Homes = n.Homes := by
  unfold sendP
  split
  · rename_i hc; rw [(sendN_good hc).2]; rfl
  · rfl
def netP (p : Poll) (n : Net) : Poll := ⟨p.Voters, n, p.Won⟩
def spread (n : Net) (v : Int) (b : ByteArray) : Nat → Net
  | 0 => n
  | j + 1 => sendP (spread n v b j) v j b
theorem spread_good {n : Net} {v : Int} {b : ByteArray} (h : goodNet n = true) : ∀ j, goodNet (spread n v b j) = true
  | 0 => h
  | j + 1 => sendP_good (spread_good h j)
theorem spread_homes {n : Net} {v : Int} {b : ByteArray} : ∀ j, (spread n v b j).Homes = n.Homes
  | 0 => rfl
  | j + 1 => by rw [spread, sendP_homes, spread_homes j]
theorem sendP_self {n : Net} {v : Int} {b : ByteArray} : sendP n v v b = n := by
  unfold sendP sendN sendC
  simp
def askB (c : Nat) (t : Int) : ByteArray := ⟨⟨UInt8.ofNat c :: dgt t.toNat⟩⟩
def standC (p : Poll) (v : Int) : Bool := fallC p v && (nth p.Voters v.toNat).Up && !decide ((nth p.Voters v.toNat).Term = 200)
def standX (p : Poll) (v : Int) : Poll := ⟨p.Voters.set v.toNat ⟨true, (nth p.Voters v.toNat).Term + 1, v, [v], false⟩, spread p.Net v (askB 97 ((nth p.Voters v.toNat).Term + 1)) p.Voters.length, p.Won⟩
def zeroP : Poll := ⟨[], ⟨0, [], 0, []⟩, []⟩
def standV (p : Poll) (v : Int) : Poll × Bool := if standC p v then (standX p v, true) else (zeroP, false)
set_option maxHeartbeats 4000000 in
theorem send_ok (p : Poll) (f t : Int) (b : ByteArray) (hg : goodNet p.Net = true) : ACall Tryz.prog n_pimpl_Net_send [.bo true (Poll.row true p) 1, i64 f, i64 t, str b] (fun r l => r = .tup [] ∧ l = [.bo true (Poll.row true (netP p (sendP p.Net f t b))) 1, i64 f, i64 t, str b]) := by
  have hmx := mx_eq
  have gl := goodNet_len hg
  cases hc : (sendN p.Net f t b).2 with
  | false =>
    have e : sendP p.Net f t b = p.Net := by simp [sendP, hc]
    rw [e]
    refine fn_in h_pimpl_Net_send r_pimpl_Net_send ⟨by simp only [go_sem], fun E hE hH => ?_⟩; simp only [go_sem] at hE hH; simp only [go_sem, hE, hH, c_pimpl_Net_send]
    repeat' (first | ((with_reducible first | refine gd_t ?_ ?_ | refine gd_f ?_ ?_) <;> (intro h; have hb := h; (try simp only [nf] at h); simp (disch := omega) only [go_sem, hE, hH, hc, hb]; (try clear hb))) | ((with_reducible refine And.intro ?_ ?_); · omega) | ((first | refine ok_view ?_ | refine cvA (sent_ok p.Net f t b hg (by omega)) ?_); simp (disch := omega) only [go_sem, hE, hH, hc]) | (with_reducible apply jn) | (with_reducible apply both) | (with_reducible refine And.intro ?_ ?_) | ((with_reducible apply fin_eq); (try (simp (disch := omega) only [go_sem, hE, hH, hc])); first | done | rfl) | (simp (disch := omega) only [go_sem, hE, hH, hc]) | ((first | apply noMLL_sE | apply pk_sE) <;> (simp only [go_sem, hE, hH, hc]; done)) | (simp only [go_sem, hE, hH, hc]) | fail)
    all_goals first | rfl | trace_state
  | true =>
    have e : sendP p.Net f t b = (sendN p.Net f t b).1 := by simp [sendP, hc]
    rw [e]
    refine fn_in h_pimpl_Net_send r_pimpl_Net_send ⟨by simp only [go_sem], fun E hE hH => ?_⟩; simp only [go_sem] at hE hH; simp only [go_sem, hE, hH, c_pimpl_Net_send]
    repeat' (first | ((with_reducible first | refine gd_t ?_ ?_ | refine gd_f ?_ ?_) <;> (intro h; have hb := h; (try simp only [nf] at h); simp (disch := omega) only [go_sem, hE, hH, hc, hb]; (try clear hb))) | ((with_reducible refine And.intro ?_ ?_); · omega) | ((first | refine ok_view ?_ | refine cvA (sent_ok p.Net f t b hg (by omega)) ?_); simp (disch := omega) only [go_sem, hE, hH, hc]) | (with_reducible apply jn) | (with_reducible apply both) | (with_reducible refine And.intro ?_ ?_) | ((with_reducible apply fin_eq); (try (simp (disch := omega) only [go_sem, hE, hH, hc])); first | done | rfl) | (simp (disch := omega) only [go_sem, hE, hH, hc]) | ((first | apply noMLL_sE | apply pk_sE) <;> (simp only [go_sem, hE, hH, hc]; done)) | (simp only [go_sem, hE, hH, hc]) | fail)
    all_goals first | rfl | trace_state
abbrev srtK (l : List Int) : Prop := srtX ltI (fun x : Int => x) l
theorem risR_iff {l : List Int} {lo hi : Int} : risR l lo hi = true ↔ (∀ x ∈ l, lo ≤ x ∧ x ≤ hi) ∧ srtK l := by
  unfold risR
  rw [allN_iff]
  simp only [Bool.and_eq_true, rng_iff, Bool.or_eq_true, decide_eq_true_eq]
  constructor
  · intro h
    refine ⟨fun x hx => ?_, fun i j hij hj => ?_⟩
    · obtain ⟨i, hi, rfl⟩ := List.getElem_of_mem hx
      have := (h i hi).1
      rwa [nth_lt hi] at this
    · simp only [ltI, decide_eq_true_eq]
      have key : ∀ d, i + d + 1 < l.length → nth l i < nth l (i + d + 1) := by
        intro d
        induction d with
        | zero =>
          intro h1
          rcases (h (i + 0 + 1) h1).2 with h2 | h2
          · omega
          · simpa using h2
        | succ d ih =>
          intro h1
          have h0 := ih (by omega)
          rcases (h (i + (d + 1) + 1) h1).2 with h2 | h2
          · omega
          · rw [show i + (d + 1) + 1 - 1 = i + d + 1 by omega] at h2
            omega
      have := key (j - i - 1) (by omega)
      rwa [show i + (j - i - 1) + 1 = j by omega] at this
  · rintro ⟨h1, h2⟩ i hi
    refine ⟨h1 _ (nth_mem hi), ?_⟩
    by_cases h : i = 0
    · exact .inl h
    · have := h2 (i - 1) i (by omega) hi
      simp only [ltI, decide_eq_true_eq] at this
      exact .inr this
structure VOk (x : Voter) (v : Int) (n : Nat) : Prop where
  t : 0 ≤ x.Term ∧ x.Term ≤ 200
  f : -1 ≤ x.For ∧ x.For ≤ (n : Int) - 1
  y : (∀ a ∈ x.Yes, 0 ≤ a ∧ a ≤ (n : Int) - 1) ∧ srtK x.Yes
  o : x.Yes = [] ∨ (x.Up = true ∧ x.For = v)
  l : x.Leads = true → x.Up = true ∧ x.For = v ∧ (n : Int) < 2 * (x.Yes.length : Int)
theorem voterOk_iff {x : Voter} {v : Int} {n : Nat} : voterOk x v n = true ↔ VOk x v n := by
  simp only [voterOk, ownV, Bool.and_eq_true, rng_iff, risR_iff, Bool.or_eq_true, decide_eq_true_eq, Bool.not_eq_true']
  constructor
  · rintro ⟨⟨⟨⟨h1, h2⟩, h3⟩, h4⟩, h5⟩
    refine ⟨h1, h2, h3, ?_, fun h => ?_⟩
    · rcases h4 with h4 | h4
      · exact .inr h4
      · exact .inl (List.length_eq_zero_iff.1 (by omega))
    · rcases h5 with h5 | h5
      · rw [h] at h5; cases h5
      · exact ⟨h5.1.1, h5.1.2, h5.2⟩
  · rintro ⟨h1, h2, h3, h4, h5⟩
    refine ⟨⟨⟨⟨h1, h2⟩, h3⟩, ?_⟩, ?_⟩
    · rcases h4 with h4 | h4
      · right; rw [h4]; rfl
      · exact .inl h4
    · cases h : x.Leads
      · exact .inl rfl
      · obtain ⟨a, b, c⟩ := h5 h; exact .inr ⟨⟨a, b⟩, c⟩
structure Good (p : Poll) : Prop where
  net : goodNet p.Net = true
  n : p.Net.Homes.length = 3 ∨ p.Net.Homes.length = 5
  v : p.Voters.length = p.Net.Homes.length
  w : p.Won.length ≤ 60
  vs : ∀ i, i < p.Voters.length → VOk (nth p.Voters i) i p.Net.Homes.length
  ws : ∀ x ∈ p.Won, (1 ≤ x.Term ∧ x.Term ≤ 200) ∧ 0 ≤ x.Who ∧ x.Who ≤ (p.Net.Homes.length : Int) - 1
theorem good_iff {p : Poll} : goodPoll p = true ↔ Good p := by
  simp only [goodPoll, wonOk, Bool.and_eq_true, Bool.or_eq_true, decide_eq_true_eq, allN_iff, voterOk_iff, List.all_eq_true, rng_iff]
  constructor
  · rintro ⟨⟨⟨⟨⟨h1, h2⟩, h3⟩, h4⟩, h5⟩, h6⟩
    exact ⟨h1, by omega, by omega, by omega, h5, h6⟩
  · rintro ⟨h1, h2, h3, h4, h5, h6⟩
    exact ⟨⟨⟨⟨⟨h1, by omega⟩, by omega⟩, by omega⟩, h5⟩, h6⟩
theorem nthSet {α : Type} [Inhabited α] {l : List α} {i j : Nat} {y : α} (hi : i < l.length) : nth (l.set i y) j = if j = i then y else nth l j := by
  unfold nth
  simp only [List.getD, List.getElem?_set]
  by_cases h : i = j
  · subst h; simp [hi]
  · rw [if_neg h, if_neg (Ne.symm h)]
theorem Good.set {p : Poll} (h : Good p) {i : Nat} {y : Voter} {n : Net} {W : List Won} (hi : i < p.Voters.length) (hy : VOk y i p.Net.Homes.length) (hn : goodNet n = true) (hh : n.Homes = p.Net.Homes) (hw : W.length ≤ 60) (hW : ∀ x ∈ W, (1 ≤ x.Term ∧ x.Term ≤ 200) ∧ 0 ≤ x.Who ∧ x.Who ≤ (p.Net.Homes.length : Int) - 1) : Good ⟨p.Voters.set i y, n, W⟩ where
  net := hn
  n := by simp only [hh]; exact h.n
  v := by simp only [hh, List.length_set]; exact h.v
  w := hw
  vs := fun j hj => by
    simp only [List.length_set] at hj
    simp only [hh]
    rw [nthSet hi]
    split
    · rename_i e; rw [e]; exact hy
    · exact h.vs j hj
  ws := by simp only [hh]; exact hW
theorem Good.netP {p : Poll} (h : Good p) {n : Net} (hn : goodNet n = true) (hh : n.Homes = p.Net.Homes) : Good (netP p n) := ⟨hn, by simp only [Wb.netP, hh]; exact h.n, by simp only [Wb.netP, hh]; exact h.v, h.w, by simp only [Wb.netP, hh]; exact h.vs, by simp only [Wb.netP, hh]; exact h.ws⟩
structure LOk (n : Nat) (l : Letter) : Prop where
  f : 0 ≤ l.From ∧ l.From ≤ (n : Int) - 1
  t : 0 ≤ l.To ∧ l.To ≤ (n : Int) - 1
  ne : l.From ≠ l.To
  b : 1 ≤ l.Body.size ∧ l.Body.size ≤ 40
theorem lok_of {n : Nat} {l : Letter} (h : letOk n l = true) : LOk n l := by
  simp only [letOk, Bool.and_eq_true, rng_iff, Bool.not_eq_true', decide_eq_false_iff_not] at h
  obtain ⟨⟨⟨⟨h1, h2⟩, h3⟩, h4⟩, h5⟩ := h
  exact ⟨h1, h2, h3, by omega⟩
theorem good_u {n : Net} (h : goodNet n = true) : ∀ x ∈ n.Under, LOk n.Homes.length x := by
  rw [goodNet_u] at h
  simp only [Bool.and_eq_true, goodU_iff] at h
  exact fun x hx => lok_of (h.2.1 x hx)
theorem stand_good {p : Poll} {v : Int} (h : (standV p v).2 = true) : Good p ∧ Good (standV p v).1 ∧ (standV p v).1.Net.Homes = p.Net.Homes := by
  unfold standV at h ⊢
  split at h
  · rename_i hc
    rw [if_pos hc]
    simp only [standC, fallC, Bool.and_eq_true, rng_iff, Bool.not_eq_true', decide_eq_false_iff_not] at hc
    obtain ⟨⟨⟨h1, h2⟩, h3⟩, h4⟩ := hc
    have hp := good_iff.1 h1
    have hv := hp.v
    have hi : v.toNat < p.Voters.length := by omega
    have hx := hp.vs _ hi
    have hc : ((v.toNat : Nat) : Int) = v := by omega
    have ht := hx.t
    refine ⟨hp, hp.set hi ⟨by simp only; omega, by simp only; omega, ⟨by simp; omega, fun i j a b => by simp at b; omega⟩, .inr ⟨rfl, hc.symm⟩, by simp⟩ (spread_good hp.net _) (spread_homes _) hp.w hp.ws, spread_homes _⟩
  · cases h
theorem srtK_nodup {L : List Int} (h : srtK L) : L.Nodup := by
  rw [List.nodup_iff_pairwise_ne, List.pairwise_iff_getElem]
  intro i j hi hj hij e
  have := h i j hij hj
  rw [nth_lt hi, nth_lt hj, e] at this
  simp [ltI] at this
theorem nodup_len : ∀ (n : Nat) (L : List Int), L.Nodup → (∀ x ∈ L, 0 ≤ x ∧ x < (n : Int)) → L.length ≤ n
  | 0, [], _, _ => Nat.le_refl _
  | 0, x :: L, _, h => by have := h x (List.mem_cons_self ..); omega
  | n + 1, L, hd, h => by
    have h1 : (L.filter (fun x => decide (x ≠ (n : Int)))).length ≤ n := nodup_len n _ (hd.filter _) fun x hx => by
      rw [List.mem_filter] at hx
      have := h x hx.1
      have h2 := hx.2
      simp at h2
      omega
    have h2 : (L.filter (fun x => !decide (x ≠ (n : Int)))).length ≤ 1 := by
      have hn := hd.filter (fun x => !decide (x ≠ (n : Int)))
      have ha : ∀ x ∈ L.filter (fun x => !decide (x ≠ (n : Int))), x = n := fun x hx => by
        rw [List.mem_filter] at hx
        simpa using hx.2
      revert hn ha
      generalize L.filter (fun x => !decide (x ≠ (n : Int))) = M
      intro hn ha
      rcases M with _ | ⟨a, _ | ⟨b, M⟩⟩
      · simp
      · simp
      · exfalso
        have e1 := ha a (by simp)
        have e2 := ha b (by simp)
        rw [e1, e2] at hn
        simp at hn
    have h3 : L.length = (L.filter (fun x => decide (x ≠ (n : Int)))).length + (L.filter (fun x => !decide (x ≠ (n : Int)))).length := by
      clear h1 h2 h hd
      induction L with
      | nil => rfl
      | cons a L ih =>
        simp only [List.filter_cons]
        cases decide (a ≠ (n : Int)) <;> simp only [Bool.not_true, Bool.not_false, Bool.false_eq_true, if_true, if_false, List.length_cons] <;> omega
    omega
theorem szL_le {α : Type} {f : α → Nat} {A : Nat} : ∀ {l : List α}, (∀ x ∈ l, f x ≤ A) → szL f l ≤ l.length * (A + 1)
  | [], _ => by simp [szL]
  | x :: l, h => by
    have h1 := szL_le (l := l) (fun y hy => h y (List.mem_cons_of_mem _ hy))
    have h2 := h x (List.mem_cons_self ..)
    simp only [szL, List.map_cons, List.sum_cons, List.length_cons, Nat.succ_mul] at h1 ⊢
    omega
theorem vok_len {x : Voter} {v : Int} {n : Nat} (h : VOk x v n) : x.Yes.length ≤ n :=
  nodup_len n _ (srtK_nodup h.y.2) fun a ha => by have := h.y.1 a ha; omega
theorem good_sz {p : Poll} (h : Good p) : p.sz ≤ 3000 := by
  have h1 : szL Voter.sz p.Voters ≤ p.Voters.length * 6 := szL_le (A := 5) fun x hx => by
    obtain ⟨i, hi, rfl⟩ := List.getElem_of_mem hx
    have := vok_len (h.vs i hi)
    rw [nth_lt hi] at this
    have hn := h.n
    have e : Voter.sz p.Voters[i] = p.Voters[i].Yes.length := rfl
    omega
  have h2 : szL Letter.sz p.Net.Under ≤ p.Net.Under.length * 41 := szL_le (A := 40) fun x hx => (good_u h.net x hx).b.2
  have h3 := goodNet_len h.net
  have hv := h.v; have hn := h.n; have hw := h.w
  have h4 : p.Voters.length * 6 ≤ 5 * 6 := Nat.mul_le_mul_right _ (by omega)
  have h5 : p.Net.Under.length * 41 ≤ 60 * 41 := Nat.mul_le_mul_right _ (by omega)
  simp only [Poll.sz, Net.sz]
  omega
theorem zeroP_sz : zeroP.sz ≤ 3000 := by simp [zeroP, Poll.sz, Net.sz, szL]
theorem standV_sz (p : Poll) (v : Int) : (standV p v).1.sz ≤ 3000 := by
  cases h : (standV p v).2 with
  | true => exact good_sz (stand_good h).2.1
  | false =>
    have : (standV p v).1 = zeroP := by
      unfold standV at h ⊢
      split at h
      · cases h
      · rename_i hc; rw [if_neg hc]
    rw [this]; exact zeroP_sz
set_option maxHeartbeats 4000000 in
theorem l8Send_ok (n : Net) (f t : Int) (b : ByteArray) (hm : n.Homes.length ≤ maxLen) : ACall Tryz.prog n_spec_l8Send [.agg (Net.row true n), i64 f, i64 t, str b] (fun r l => r = .agg (Net.row true (sendP n f t b)) ∧ l = [.any, i64 f, i64 t, str b]) := by
  have hmx := mx_eq
  cases hc : (sendN n f t b).2 with
  | false =>
    have e : sendP n f t b = n := by simp [sendP, hc]
    refine fn_inD [true, false, false, false] h_spec_l8Send r_spec_l8Send ⟨by simp only [go_sem], fun E hE hH => ?_⟩; simp only [go_sem] at hE hH; simp only [go_sem, hE, hH, c_spec_l8Send]
    repeat' (first | ((with_reducible first | refine gd_t ?_ ?_ | refine gd_f ?_ ?_) <;> (intro h; have hb := h; (try simp only [nf] at h); simp (disch := omega) only [go_sem, hE, hH, hc, e, hb]; (try clear hb))) | ((with_reducible refine And.intro ?_ ?_); · omega) | ((first | refine ok_view ?_ | refine cvA (sSendTo_ok n f t b hm) ?_); simp (disch := omega) only [go_sem, hE, hH, hc, e]) | (with_reducible apply jn) | (with_reducible apply both) | (with_reducible refine And.intro ?_ ?_) | ((with_reducible apply fin_eq); (try (simp (disch := omega) only [go_sem, hE, hH, hc, e])); first | done | rfl) | (simp (disch := omega) only [go_sem, hE, hH, hc, e]) | ((first | apply noMLL_sE | apply pk_sE) <;> (simp only [go_sem, hE, hH, hc, e]; done)) | (simp only [go_sem, hE, hH, hc, e]) | fail)
    all_goals first | rfl | trace_state
  | true =>
    have e : sendP n f t b = (sendN n f t b).1 := by simp [sendP, hc]
    refine fn_inD [true, false, false, false] h_spec_l8Send r_spec_l8Send ⟨by simp only [go_sem], fun E hE hH => ?_⟩; simp only [go_sem] at hE hH; simp only [go_sem, hE, hH, c_spec_l8Send]
    repeat' (first | ((with_reducible first | refine gd_t ?_ ?_ | refine gd_f ?_ ?_) <;> (intro h; have hb := h; (try simp only [nf] at h); simp (disch := omega) only [go_sem, hE, hH, hc, e, hb]; (try clear hb))) | ((with_reducible refine And.intro ?_ ?_); · omega) | ((first | refine ok_view ?_ | refine cvA (sSendTo_ok n f t b hm) ?_); simp (disch := omega) only [go_sem, hE, hH, hc, e]) | (with_reducible apply jn) | (with_reducible apply both) | (with_reducible refine And.intro ?_ ?_) | ((with_reducible apply fin_eq); (try (simp (disch := omega) only [go_sem, hE, hH, hc, e])); first | done | rfl) | (simp (disch := omega) only [go_sem, hE, hH, hc, e]) | ((first | apply noMLL_sE | apply pk_sE) <;> (simp only [go_sem, hE, hH, hc, e]; done)) | (simp only [go_sem, hE, hH, hc, e]) | fail)
    all_goals first | rfl | trace_state
theorem standV_no {p : Poll} {v : Int} (h : standC p v = false) : standV p v = (zeroP, false) := by simp [standV, h]
theorem standV_yes {p : Poll} {v : Int} (h : standC p v = true) : standV p v = (standX p v, true) := by simp [standV, h]
theorem stand_at {p : Poll} {v : Int} (h : standC p v = true) : Good p ∧ fallC p v = true ∧ 0 ≤ v ∧ v < p.Voters.length ∧ (nth p.Voters v.toNat).Up = true ∧ (nth p.Voters v.toNat).Term ≠ 200 ∧ ∃ t : Nat, (nth p.Voters v.toNat).Term + 1 = t ∧ 1 ≤ t ∧ t ≤ 200 := by
  simp only [standC, Bool.and_eq_true, Bool.not_eq_true', decide_eq_false_iff_not] at h
  obtain ⟨⟨h1, h2⟩, h3⟩ := h
  obtain ⟨k1, k2⟩ := fallC_at h1
  have h4 := h1
  simp only [fallC, Bool.and_eq_true] at h4
  have hp := good_iff.1 h4.1
  have ht := (hp.vs v.toNat (by omega)).t
  exact ⟨hp, h1, k1, k2, h2, h3, ((nth p.Voters v.toNat).Term + 1).toNat, by omega, by omega, by omega⟩
theorem dgt_len (t : Nat) : (dgt t).length ≤ 20 := (numF_len 20 t (by omega)).2
def upTo (p : Poll) (v : Int) (t : Nat) (j : Nat) : Poll := ⟨p.Voters.set v.toNat ⟨true, t, v, [v], false⟩, spread p.Net v (askB 97 t) j, p.Won⟩
set_option maxHeartbeats 4000000 in
theorem StandUp_ok (hI : ItoaH) (p : Poll) (v : Int) (hp : pollOk p) (hq : pollSm p) : ACall Tryz.prog n_impl_StandUp [.agg (Poll.row false p), i64 v] (fun r _ => r = .tup [.agg (Poll.row true (standV p v).1), bl (standV p v).2]) := by
  have hmx := mx_eq
  obtain ⟨h1, h2, h3, h4, h5⟩ := hq
  have hi := isVoterOf_ok p v hp
  rw [fallC_eq] at hi
  cases hc : standC p v with
  | false =>
    have e := standV_no hc
    cases hf : fallC p v with
    | false =>
      rw [hf] at hi
      refine fn_in h_impl_StandUp r_impl_StandUp ⟨by simp only [go_sem], fun E hE hH => ?_⟩; simp only [go_sem] at hE hH; simp only [go_sem, hE, hH, c_impl_StandUp]
      repeat' (first | ((with_reducible first | refine gd_t ?_ ?_ | refine gd_f ?_ ?_) <;> (intro h; have hb := h; (try simp only [nf] at h); simp (disch := omega) only [go_sem, hE, hH, e, hb]; (try clear hb))) | ((with_reducible refine And.intro ?_ ?_); · omega) | ((first | refine ok_view ?_ | refine cvA (hi) ?_); simp (disch := omega) only [go_sem, hE, hH, e]) | (refine jn _ ?_ ?_) | (with_reducible refine both ?_ ?_) | (with_reducible refine And.intro ?_ ?_) | (refine fin_eq ?_; (try (simp (disch := omega) only [go_sem, hE, hH, e])); first | done | rfl) | (simp (disch := omega) only [go_sem, hE, hH, e]) | ((first | apply noMLL_sE | apply pk_sE) <;> (simp only [go_sem, hE, hH, e]; done)) | (simp only [go_sem, hE, hH, e]) | fail)
      all_goals first | rfl | trace_state
    | true =>
      rw [hf] at hi
      obtain ⟨k1, k2⟩ := fallC_at hf
      refine fn_in h_impl_StandUp r_impl_StandUp ⟨by simp only [go_sem], fun E hE hH => ?_⟩; simp only [go_sem] at hE hH; simp only [go_sem, hE, hH, c_impl_StandUp]
      repeat' (first | ((with_reducible first | refine gd_t ?_ ?_ | refine gd_f ?_ ?_) <;> (intro h; have hb := h; (try simp only [nf] at h); simp (disch := omega) only [go_sem, hE, hH, e, hb]; (try clear hb))) | ((with_reducible refine And.intro ?_ ?_); · omega) | ((first | refine ok_view ?_ | refine cvA (hi) ?_); simp (disch := omega) only [go_sem, hE, hH, e]) | (refine jn _ ?_ ?_) | (with_reducible refine both ?_ ?_) | (with_reducible refine And.intro ?_ ?_) | (refine fin_eq ?_; (try (simp (disch := omega) only [go_sem, hE, hH, e])); first | done | rfl) | (simp (disch := omega) only [go_sem, hE, hH, e]) | ((first | apply noMLL_sE | apply pk_sE) <;> (simp only [go_sem, hE, hH, e]; done)) | (simp only [go_sem, hE, hH, e]) | fail)
      all_goals first | rfl | (exfalso; simp_all [standC]; done) | omega | trace_state
  | true =>
    obtain ⟨hg, hf, k1, k2, hu, hn, t, ht, t1, t2⟩ := stand_at hc
    rw [hf] at hi
    rw [standV_yes hc]
    have hk : v.toNat < p.Voters.length := by omega
    have hs := fun r => getD_set_map (f := Voter.row true) (r := r) hk
    refine fn_in h_impl_StandUp r_impl_StandUp ⟨by simp only [go_sem], fun E hE hH => ?_⟩; simp only [go_sem] at hE hH; simp only [go_sem, hE, hH, c_impl_StandUp]
    repeat' (first | ((with_reducible first | refine gd_t ?_ ?_ | refine gd_f ?_ ?_) <;> (intro h; have hb := h; (try simp only [nf] at h); simp (disch := omega) only [go_sem, hE, hH, hs, hu, hn, ht, hb]; (try clear hb))) | ((with_reducible refine And.intro ?_ ?_); · omega) | ((first | refine ok_view ?_ | refine cvA (hi) ?_ | refine cvA (copyPoll_ok p h1 h2 h3 h4 h5) ?_); simp (disch := omega) only [go_sem, hE, hH, hs, hu, hn, ht]) | (with_reducible apply jn) | (with_reducible apply both) | (with_reducible refine And.intro ?_ ?_) | ((with_reducible apply fin_eq); (try (simp (disch := omega) only [go_sem, hE, hH, hs, hu, hn, ht])); first | done | rfl) | (simp (disch := omega) only [go_sem, hE, hH, hs, hu, hn, ht]) | ((first | apply noMLL_sE | apply pk_sE) <;> (simp only [go_sem, hE, hH, hs, hu, hn, ht]; done)) | (simp only [go_sem, hE, hH, hs, hu, hn, ht]) | fail)
    have q9 : 10 ^ 18 = 1000000000000000000 := by decide
    have hsend : ∀ j, ACall Tryz.prog n_pimpl_Net_send [.bo true (Poll.row true (upTo p v t j)) 1, i64 v, i64 j, str ⟨⟨[97] ++ dgt t⟩⟩] (fun r l => r = .tup [] ∧ l = [.bo true (Poll.row true (upTo p v t (j + 1))) 1, i64 v, i64 j, str ⟨⟨[97] ++ dgt t⟩⟩]) := fun j => send_ok (upTo p v t j) v j (askB 97 t) (spread_good hg.net j)
    refine loopNe p.Voters.length (fun j (_ : Unit) => ⟨[(1, i64 v), (4, .ptr 5000000 0 0), (6, .ptr 7000000 0 0), (7, i64 t), (52, i64 p.Voters.length), (53, i64 j)], [(5000000, ⟨6, [[nils, i64 0, nils, i64 0, nils, nils]]⟩), (7000000, ⟨6, [Poll.row true (upTo p v t j)]⟩)]⟩) (fun _ _ => True) () (by simp only [upTo, spread, Poll.row_eq, List.map_set]; rfl) trivial ?_
    intro j _ hj _
    have hdl := dgt_len t
    try simp only [go_sem, hE, hH, c_impl_StandUp_l1]
    first | refine gd_t (fun h => ?_) (fun h => ?_) | refine gd_f (fun h => ?_) (fun h => ?_)
    · have hb := h
      simp only [nf] at h
      have hlt := h; clear h
      try simp (disch := omega) only [go_sem, hE, hH, hb]
      repeat' (first | ((with_reducible first | refine gd_t ?_ ?_ | refine gd_f ?_ ?_) <;> (intro h; have hb := h; (try simp only [nf] at h); simp (disch := omega) only [go_sem, hE, hH, hb]; (try clear hb))) | ((with_reducible refine And.intro ?_ ?_); · omega) | (refine ok_lend [true, false, false, false] ?_; simp (disch := omega) only [go_sem, hE, hH]; refine cmA (hsend j) ?_; simp (disch := omega) only [go_sem, hE, hH]) | ((first | refine ok_view ?_ | refine cvA (hI t (by omega)) ?_); simp (disch := omega) only [go_sem, hE, hH]) | (with_reducible apply jn) | (with_reducible apply both) | (with_reducible refine And.intro ?_ ?_) | ((with_reducible apply fin_eq); (try (simp (disch := omega) only [go_sem, hE, hH])); first | done | rfl) | (simp (disch := omega) only [go_sem, hE, hH]) | ((first | apply noMLL_sE | apply pk_sE) <;> (simp only [go_sem, hE, hH]; done)) | (simp only [go_sem, hE, hH]) | fail)
      all_goals first | omega | exact ⟨(), rfl⟩ | exact ⟨by omega, (), rfl⟩ | trace_state
    · try simp (disch := omega) only [go_sem, hE, hH, h]
      simp only [nf] at h
      have ej : j = p.Voters.length := by omega
      subst ej
      have eX : standX p v = upTo p v t p.Voters.length := by simp only [standX, upTo, ht]
      rw [eX]
      all_goals first | rfl | (refine ⟨?_, ?_⟩ <;> simp; done) | (simp; done) | trace_state
set_option maxHeartbeats 4000000 in
theorem sStandUp_ok (p : Poll) (v : Int) (hp : pollOk p) (hq : pollSm p) : ACall Tryz.prog n_spec_StandUp [.agg (Poll.row false p), i64 v] (fun r _ => r = .tup [.agg (Poll.row true (standV p v).1), bl (standV p v).2]) := by
  have hmx := mx_eq
  obtain ⟨h1, h2, h3, h4, h5⟩ := hq
  have hi := l8Has_ok p v hp
  change ACall Tryz.prog _ _ (fun r _ => r = bl (fallC p v)) at hi
  cases hc : standC p v with
  | false =>
    have e := standV_no hc
    cases hf : fallC p v with
    | false =>
      rw [hf] at hi
      refine fn_in h_spec_StandUp r_spec_StandUp ⟨by simp only [go_sem], fun E hE hH => ?_⟩; simp only [go_sem] at hE hH; simp only [go_sem, hE, hH, c_spec_StandUp]
      repeat' (first | ((with_reducible first | refine gd_t ?_ ?_ | refine gd_f ?_ ?_) <;> (intro h; have hb := h; (try simp only [nf] at h); simp (disch := omega) only [go_sem, hE, hH, e, hb]; (try clear hb))) | ((with_reducible refine And.intro ?_ ?_); · omega) | ((first | refine ok_view ?_ | refine cvA (hi) ?_); simp (disch := omega) only [go_sem, hE, hH, e]) | (refine jn _ ?_ ?_) | (with_reducible refine both ?_ ?_) | (with_reducible refine And.intro ?_ ?_) | (refine fin_eq ?_; (try (simp (disch := omega) only [go_sem, hE, hH, e])); first | done | rfl) | (simp (disch := omega) only [go_sem, hE, hH, e]) | ((first | apply noMLL_sE | apply pk_sE) <;> (simp only [go_sem, hE, hH, e]; done)) | (simp only [go_sem, hE, hH, e]) | fail)
      all_goals first | rfl | trace_state
    | true =>
      rw [hf] at hi
      obtain ⟨k1, k2⟩ := fallC_at hf
      refine fn_in h_spec_StandUp r_spec_StandUp ⟨by simp only [go_sem], fun E hE hH => ?_⟩; simp only [go_sem] at hE hH; simp only [go_sem, hE, hH, c_spec_StandUp]
      repeat' (first | ((with_reducible first | refine gd_t ?_ ?_ | refine gd_f ?_ ?_) <;> (intro h; have hb := h; (try simp only [nf] at h); simp (disch := omega) only [go_sem, hE, hH, e, hb]; (try clear hb))) | ((with_reducible refine And.intro ?_ ?_); · omega) | ((first | refine ok_view ?_ | refine cvA (hi) ?_); simp (disch := omega) only [go_sem, hE, hH, e]) | (refine jn _ ?_ ?_) | (with_reducible refine both ?_ ?_) | (with_reducible refine And.intro ?_ ?_) | (refine fin_eq ?_; (try (simp (disch := omega) only [go_sem, hE, hH, e])); first | done | rfl) | (simp (disch := omega) only [go_sem, hE, hH, e]) | ((first | apply noMLL_sE | apply pk_sE) <;> (simp only [go_sem, hE, hH, e]; done)) | (simp only [go_sem, hE, hH, e]) | fail)
      all_goals first | rfl | (exfalso; simp_all [standC]; done) | omega | trace_state
  | true =>
    obtain ⟨hg, hf, k1, k2, hu, hn, t, ht, t1, t2⟩ := stand_at hc
    rw [hf] at hi
    rw [standV_yes hc]
    have hk : v.toNat < p.Voters.length := by omega
    have hs := fun r => getD_set_map (f := Voter.row true) (r := r) hk
    refine fn_in h_spec_StandUp r_spec_StandUp ⟨by simp only [go_sem], fun E hE hH => ?_⟩; simp only [go_sem] at hE hH; simp only [go_sem, hE, hH, c_spec_StandUp]
    repeat' (first | ((with_reducible first | refine gd_t ?_ ?_ | refine gd_f ?_ ?_) <;> (intro h; have hb := h; (try simp only [nf] at h); simp (disch := omega) only [go_sem, hE, hH, hs, hu, hn, ht, hb]; (try clear hb))) | ((with_reducible refine And.intro ?_ ?_); · omega) | ((first | refine ok_view ?_ | refine cvA (hi) ?_ | refine cvA (l8Own_ok p h1 h2 h3 h4 h5) ?_); simp (disch := omega) only [go_sem, hE, hH, hs, hu, hn, ht]) | (with_reducible apply jn) | (with_reducible apply both) | (with_reducible refine And.intro ?_ ?_) | ((with_reducible apply fin_eq); (try (simp (disch := omega) only [go_sem, hE, hH, hs, hu, hn, ht])); first | done | rfl) | (simp (disch := omega) only [go_sem, hE, hH, hs, hu, hn, ht]) | ((first | apply noMLL_sE | apply pk_sE) <;> (simp only [go_sem, hE, hH, hs, hu, hn, ht]; done)) | (simp only [go_sem, hE, hH, hs, hu, hn, ht]) | fail)
    have q9 : 10 ^ 18 = 1000000000000000000 := by decide
    have hh : ∀ j, (spread p.Net v (askB 97 t) j).Homes.length ≤ maxLen := fun j => by rw [spread_homes]; omega
    have hsend : ∀ j, ACall Tryz.prog n_spec_l8Send [.agg (Net.row true (spread p.Net v (askB 97 t) j)), i64 v, i64 j, str ⟨⟨[97] ++ dgt t⟩⟩] (fun r l => r = .agg (Net.row true (spread p.Net v (askB 97 t) (j + 1))) ∧ l = [.any, i64 v, i64 j, str ⟨⟨[97] ++ dgt t⟩⟩]) := fun j => l8Send_ok (spread p.Net v (askB 97 t) j) v j (askB 97 t) (hh j)
    refine loopNe p.Voters.length (fun j (_ : Unit) => ⟨[(1, i64 v), (2, .ptr 3000000 0 0), (4, .ptr 5000000 0 0), (6, .ptr 7000000 0 0), (7, i64 t), (8, i64 j)], [(3000000, ⟨6, [Poll.row false p]⟩), (5000000, ⟨6, [[nils, i64 0, nils, i64 0, nils, nils]]⟩), (7000000, ⟨6, [[.ref 7000001 0 p.Voters.length, i64 (spread p.Net v (askB 97 t) j).Now, .ref 7000003 0 (spread p.Net v (askB 97 t) j).Homes.length, i64 (spread p.Net v (askB 97 t) j).Far, .ref 7000005 0 (spread p.Net v (askB 97 t) j).Under.length, .ref 7000006 0 p.Won.length]]⟩), (7000001, ⟨5, (p.Voters.set v.toNat ⟨true, t, v, [v], false⟩).map (Voter.row true)⟩), (7000003, ⟨1, ints (spread p.Net v (askB 97 t) j).Homes⟩), (7000005, ⟨4, (spread p.Net v (askB 97 t) j).Under.map (Letter.row true)⟩), (7000006, ⟨2, p.Won.map (Won.row true)⟩)]⟩) (fun _ _ => True) () (by simp only [spread, List.map_set]; rfl) trivial ?_
    intro j _ hj _
    have hdl := dgt_len t
    have hsl : (p.Voters.set v.toNat ⟨true, t, v, [v], false⟩).length = p.Voters.length := List.length_set ..
    have hsn := hsend j
    have esj : (j : Int) = v → spread p.Net v (askB 97 t) (j + 1) = spread p.Net v (askB 97 t) j := fun e => by rw [spread, e, sendP_self]
    try simp only [go_sem, hE, hH, c_spec_StandUp_l1]
    first | refine gd_t (fun h => ?_) (fun h => ?_) | refine gd_f (fun h => ?_) (fun h => ?_)
    · have hb := h
      simp only [nf] at h
      have hlt := h; clear h
      try simp (disch := omega) only [go_sem, hE, hH, hb]
      repeat' (first | ((with_reducible first | refine gd_t ?_ ?_ | refine gd_f ?_ ?_) <;> (intro h; have hb := h; (try simp only [nf] at h); simp (disch := omega) only [go_sem, hE, hH, hb]; (try clear hb))) | ((with_reducible refine And.intro ?_ ?_); · omega) | (refine ok_lend [true, false, false, false] ?_; simp (disch := omega) only [go_sem, hE, hH]; refine cmA (hsn) ?_; simp (disch := omega) only [go_sem, hE, hH]) | ((first | refine ok_view ?_ | refine cvA (l1Num_ok t (by omega)) ?_); simp (disch := omega) only [go_sem, hE, hH]) | (with_reducible apply jn) | (with_reducible apply both) | (with_reducible refine And.intro ?_ ?_) | ((with_reducible apply fin_eq); (try (simp (disch := omega) only [go_sem, hE, hH])); first | done | rfl) | (simp (disch := omega) only [go_sem, hE, hH]) | ((first | apply noMLL_sE | apply pk_sE) <;> (simp only [go_sem, hE, hH]; done)) | (simp only [go_sem, hE, hH]) | fail)
      all_goals first | omega | exact ⟨(), rfl⟩ | (rw [esj (by omega)]; exact ⟨(), rfl⟩) | exact ⟨by omega, (), rfl⟩ | trace_state
    · try simp (disch := omega) only [go_sem, hE, hH, h]
      simp only [nf] at h
      have ej : j = p.Voters.length := by omega
      subst ej
      have eX : standX p v = upTo p v t p.Voters.length := by simp only [standX, upTo, ht]
      rw [eX]
      exact ⟨rfl, rfl, rfl, rfl, rfl, rfl⟩
set_option maxHeartbeats 4000000 in
theorem FnExactStandUp_ok (hI : ItoaH) (vP : Poll) (vV : Int) (wP : vP.wf) (wV : -9223372036854775808 ≤ vV ∧ vV ≤ 9223372036854775807) : ACall Tryz.prog n_laws_FnExactStandUp [.agg (Poll.row false vP), i64 vV] (fun r _ => r = bl true) := by
  have hmx := mx_eq
  have lP : vP.lim := Poll.lim_of wP
  refine fn_in h_laws_FnExactStandUp r_laws_FnExactStandUp ⟨by simp only [go_sem], fun E hE hH => ?_⟩; simp only [go_sem] at hE hH; simp only [go_sem, hE, hH, c_laws_FnExactStandUp]
  refine ok_view ?_; simp (disch := omega) only [go_sem, hE, hH]; refine cvA (szPoll_ok vP _ (by decide) (by decide) wP) ?_
  refine aftV_intro ?_
  rintro r l ⟨n1, rfl, hn1, hsz1⟩
  try simp (disch := omega) only [go_sem, hE, hH]
  first | refine gd_t (fun h1 => ?_) (fun h1 => ?_) | refine gd_f (fun h1 => ?_) (fun h1 => ?_)
  · try simp (disch := omega) only [go_sem, hE, hH, h1]
  have hb1 := h1
  simp only [nf] at h1
  try simp (disch := omega) only [go_sem, hE, hH, hb1]
  have sP : vP.sz ≤ 2 ^ 20 := by have := hsz1 h1; omega
  have hp := pollOk_of sP
  have hq := pollSm_of sP
  have hz := standV_sz vP vV
  have hlim := Poll.lim_sz (x := (standV vP vV).1) (by omega)
  have c1 := Poll.cntv_le vP
  have c2 := Poll.cntv_le (standV vP vV).1
  have e1 := Poll.mkv_cnt vP 1
  have e2 := Poll.mkv_cnt (standV vP vV).1 1
  repeat' (first | ((with_reducible first | refine gd_t ?_ ?_ | refine gd_f ?_ ?_) <;> (intro h; have hb := h; (try simp only [nf] at h); simp (disch := omega) only [go_sem, hE, hH, hb]; (try clear hb))) | ((with_reducible refine And.intro ?_ ?_); · omega) | (refine ok_lend [true, false] ?_; simp (disch := omega) only [go_sem, hE, hH]; refine cmA (markPoll_ok vP 1 (by omega) (by omega)) ?_; simp (disch := omega) only [go_sem, hE, hH]) | (refine ok_lend [true, false] ?_; simp (disch := omega) only [go_sem, hE, hH]; refine cmA (markPoll_ok (standV vP vV).1 1 (by omega) (by omega)) ?_; simp (disch := omega) only [go_sem, hE, hH]) | ((first | refine ok_view ?_ | refine cvA (toPoll_ok vP sP) ?_ | refine cvA (sStandUp_ok vP vV hp hq) ?_ | refine cvA (StandUp_ok hI vP vV hp hq) ?_ | refine cvA (eqPoll_ok vP vP lP) ?_ | refine cvA (eqPoll_ok (standV vP vV).1 (standV vP vV).1 hlim) ?_ | refine cvA (heldPoll_ok (standV vP vV).1 1 (by omega) (by omega)) ?_); simp (disch := omega) only [go_sem, hE, hH]) | (refine jn _ ?_ ?_) | (with_reducible refine both ?_ ?_) | (with_reducible refine And.intro ?_ ?_) | (refine fin_eq ?_; (try (simp (disch := omega) only [go_sem, hE, hH])); first | done | rfl) | (simp (disch := omega) only [go_sem, hE, hH]) | ((first | apply noMLL_sE | apply pk_sE) <;> (simp only [go_sem, hE, hH]; done)) | (simp only [go_sem, hE, hH]) | fail)
  all_goals try omega
structure FairV (p : Poll) (V : Nat → Int → Int → Prop) : Prop where
  fn : ∀ w t c c', V w t c → V w t c' → c = c'
  pos : ∀ w t c, V w t c → 0 ≤ c
  cur : ∀ w, w < p.Voters.length → (nth p.Voters w).For ≠ -1 → V w (nth p.Voters w).Term (nth p.Voters w).For
  le : ∀ w t c, w < p.Voters.length → V w t c → t ≤ (nth p.Voters w).Term
  eq : ∀ w c, w < p.Voters.length → V w (nth p.Voters w).Term c → (nth p.Voters w).For = c
  ltr : ∀ l ∈ p.Net.Under, ∀ t : Nat, 1 ≤ t → t ≤ 200 → l.Body = askB 121 t → V l.From.toNat t l.To
  yes : ∀ c : Nat, c < p.Voters.length → ∀ x ∈ (nth p.Voters c).Yes, V x.toNat (nth p.Voters c).Term c
  won : ∀ w ∈ p.Won, ∃ L : List Int, srtK L ∧ (∀ x ∈ L, 0 ≤ x ∧ x ≤ (p.Voters.length : Int) - 1) ∧ p.Voters.length < 2 * L.length ∧ ∀ x ∈ L, V x.toNat w.Term w.Who
def FairE (p : Poll) (V : Nat → Int → Int → Prop) : Prop := ∃ V', FairV p V' ∧ ∀ w t c, V w t c → V' w t c
theorem meet {n : Nat} {L M : List Int} (hL : srtK L) (hM : srtK M) (bL : ∀ x ∈ L, 0 ≤ x ∧ x ≤ (n : Int) - 1) (bM : ∀ x ∈ M, 0 ≤ x ∧ x ≤ (n : Int) - 1) (cL : n < 2 * L.length) (cM : n < 2 * M.length) : ∃ x, x ∈ L ∧ x ∈ M := by
  by_cases h : ∃ x, x ∈ L ∧ x ∈ M
  · exact h
  · exfalso
    have hn : (L ++ M).Nodup := List.nodup_append.2 ⟨srtK_nodup hL, srtK_nodup hM, fun x hx y hy e => h ⟨x, hx, e ▸ hy⟩⟩
    have := nodup_len n (L ++ M) hn fun x hx => by
      rcases List.mem_append.1 hx with hx | hx
      · have := bL x hx; omega
      · have := bM x hx; omega
    rw [List.length_append] at this
    omega
theorem FairV.one {p : Poll} {V : Nat → Int → Int → Prop} (h : FairV p V) {a b : Won} (ha : a ∈ p.Won) (hb : b ∈ p.Won) (e : a.Term = b.Term) : a.Who = b.Who := by
  obtain ⟨L, l1, l2, l3, l4⟩ := h.won a ha
  obtain ⟨M, m1, m2, m3, m4⟩ := h.won b hb
  obtain ⟨x, x1, x2⟩ := meet l1 m1 l2 m2 l3 m3
  exact h.fn _ _ _ _ (l4 x x1) (by rw [e]; exact m4 x x2)
theorem FairV.later {p : Poll} {V : Nat → Int → Int → Prop} (h : FairV p V) {i : Nat} {y : Voter} (hi : i < p.Voters.length) (h1 : (nth p.Voters i).Term < y.Term) (h2 : (y.For = -1 ∧ y.Yes = []) ∨ (y.For = i ∧ ∀ x ∈ y.Yes, x = i)) : FairE ⟨p.Voters.set i y, p.Net, p.Won⟩ V := by
  have hlt : ∀ t c, V i t c → t < y.Term := fun t c hv => by have := h.le i t c hi hv; omega
  rcases h2 with ⟨h2, h3⟩ | ⟨h2, h3⟩
  · refine ⟨V, ⟨h.fn, h.pos, fun w hw => ?_, fun w t c hw hv => ?_, fun w c hw hv => ?_, h.ltr, fun c hc x hx => ?_, ?_⟩, fun _ _ _ h => h⟩
    · simp only [List.length_set] at hw ⊢
      rw [nthSet hi]
      split
      · rename_i e; subst e; intro hh; exact absurd h2 hh
      · exact h.cur w hw
    · simp only [List.length_set] at hw ⊢
      rw [nthSet hi]
      split
      · rename_i e; subst e; have := hlt _ _ hv; omega
      · exact h.le w t c hw hv
    · simp only [List.length_set] at hw hv ⊢
      rw [nthSet hi] at hv ⊢
      split at hv
      · rename_i e; subst e; have := hlt _ _ hv; omega
      · rename_i e; rw [if_neg e]; exact h.eq w c hw hv
    · simp only [List.length_set] at hc hx ⊢
      rw [nthSet hi] at hx ⊢
      split at hx
      · rw [h3] at hx; cases hx
      · rename_i e; rw [if_neg e]; exact h.yes c hc x hx
    · simp only [List.length_set]; exact h.won
  · refine ⟨fun w t c => V w t c ∨ (w = i ∧ t = y.Term ∧ c = i), ⟨fun w t c c' a b => ?_, fun w t c a => ?_, fun w hw => ?_, fun w t c hw hv => ?_, fun w c hw hv => ?_, fun l hl t a b e => .inl (h.ltr l hl t a b e), fun c hc x hx => ?_, ?_⟩, fun _ _ _ h => .inl h⟩
    · rcases a with a | ⟨rfl, rfl, rfl⟩
      · rcases b with b | ⟨rfl, rfl, rfl⟩
        · exact h.fn _ _ _ _ a b
        · have := hlt _ _ a; omega
      · rcases b with b | ⟨_, _, rfl⟩
        · have := hlt _ _ b; omega
        · rfl
    · rcases a with a | ⟨_, _, rfl⟩
      · exact h.pos _ _ _ a
      · omega
    · simp only [List.length_set] at hw ⊢
      rw [nthSet hi]
      split
      · rename_i e; intro _; exact .inr ⟨e, rfl, h2⟩
      · intro hh; exact .inl (h.cur w hw hh)
    · simp only [List.length_set] at hw ⊢
      rw [nthSet hi]
      split
      · rename_i e; subst e
        rcases hv with hv | ⟨_, rfl, _⟩
        · have := hlt _ _ hv; omega
        · omega
      · rename_i e
        rcases hv with hv | ⟨rfl, _, _⟩
        · exact h.le w t c hw hv
        · exact absurd rfl e
    · simp only [List.length_set] at hw hv ⊢
      rw [nthSet hi] at hv ⊢
      split at hv
      · rename_i e; subst e; rw [if_pos rfl]
        rcases hv with hv | ⟨_, _, rfl⟩
        · have := hlt _ _ hv; omega
        · exact h2
      · rename_i e; rw [if_neg e]
        rcases hv with hv | ⟨rfl, _, _⟩
        · exact h.eq w c hw hv
        · exact absurd rfl e
    · simp only [List.length_set] at hc hx ⊢
      rw [nthSet hi] at hx ⊢
      split at hx
      · rename_i e; subst e; rw [if_pos rfl, h3 x hx]; exact .inr ⟨by omega, rfl, rfl⟩
      · rename_i e; rw [if_neg e]; exact .inl (h.yes c hc x hx)
    · simp only [List.length_set]
      intro w hw
      obtain ⟨L, a, b, c, d⟩ := h.won w hw
      exact ⟨L, a, b, c, fun x hx => .inl (d x hx)⟩
theorem FairV.net {p : Poll} {V : Nat → Int → Int → Prop} (h : FairV p V) {n : Net} (hn : ∀ l ∈ n.Under, ∀ t : Nat, 1 ≤ t → t ≤ 200 → l.Body = askB 121 t → V l.From.toNat t l.To) : FairV ⟨p.Voters, n, p.Won⟩ V := ⟨h.fn, h.pos, h.cur, h.le, h.eq, hn, h.yes, h.won⟩
end Go.Proofs.Wb

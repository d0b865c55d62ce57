/- Contracts of functions. -/
import Derived.Test.YtjchgajhlpognaaFnGivenF1
import Derived.Laws.Externs
set_option linter.unusedSimpArgs false
set_option linter.unusedVariables false
set_option linter.unusedSectionVars false
namespace Go.Proofs.Wb
open Go Go.Am
def doW (w : Watch) (a : WatchAct) : Watch × Bool := if a.Kind = 1 then askW w a.Who a.By else if a.Kind = 2 then passW w a.By else if a.Kind = 3 then driftW w a.Who a.By else if a.Kind = 4 then giveW w a.Who else (zeroW, false)
theorem ifW_good {w : Watch} (h : (ifW w).2 = true) : watchOk (ifW w).1 = true := by
  unfold ifW at h ⊢
  split
  · rename_i g; exact g
  · rename_i g; simp [g] at h
theorem doW_good {w : Watch} {a : WatchAct} (h : (doW w a).2 = true) : watchOk (doW w a).1 = true := by
  unfold doW at h ⊢
  split
  · rename_i g
    rw [if_pos g] at h
    unfold askW at h ⊢
    split
    · rename_i g2; rw [if_pos g2] at h; exact ifW_good h
    · rename_i g2; rw [if_neg g2] at h; cases h
  · rename_i g
    rw [if_neg g] at h
    split
    · rename_i g1
      rw [if_pos g1] at h
      unfold passW at h ⊢
      split
      · rename_i g2; rw [if_pos g2] at h; exact ifW_good h
      · rename_i g2; rw [if_neg g2] at h; cases h
    · rename_i g1
      rw [if_neg g1] at h
      split
      · rename_i g3
        rw [if_pos g3] at h
        unfold driftW at h ⊢
        split
        · rename_i g2
          simp only [Bool.and_eq_true] at g2
          show watchOk (driftV w a.Who a.By) = true
          rw [driftV_ok g2.1]; exact g2.2
        · rename_i g2; rw [if_neg g2] at h; cases h
      · rename_i g3
        rw [if_neg g3] at h
        split
        · rename_i g4
          rw [if_pos g4] at h
          unfold giveW at h ⊢
          split
          · rename_i g2
            simp only [Bool.and_eq_true] at g2
            exact giveV_ok g2.1
          · rename_i g2; rw [if_neg g2] at h; cases h
        · rename_i g4
          rw [if_neg g4] at h; cases h
def nextW (w : Watch) (a : WatchAct) : Watch := if (doW w a).2 then (doW w a).1 else w
def playF (w : Watch) (l : List WatchAct) : Watch := l.foldl nextW w
theorem playF_succ {w : Watch} {l : List WatchAct} {j : Nat} (h : j < l.length) : playF w (l.take (j + 1)) = nextW (playF w (l.take j)) (nth l j) := by
  simp only [playF, take_nth h, List.foldl_append, List.foldl_cons, List.foldl_nil]
theorem watchM_of {w : Watch} (h : watchOk w = true) : watchM w := by
  have := watchOk_len h
  have hmx := mx_eq
  exact ⟨by omega, by omega⟩
def playW (w : Watch) (l : List WatchAct) : Watch × Bool := if watchOk w && decide ((l.length : Int) ≤ 100) then (playF w l, true) else (zeroW, false)
theorem l10Do_ok (w : Watch) (a : WatchAct) (hw : watchM w) : ACall Try.prog n_spec_l10Do [.agg (Watch.row false w), .agg (WatchAct.row false a)] (fun r _ => r = .tup [.agg (Watch.row true (doW w a).1), bl (doW w a).2]) := by
  refine fn_in h_spec_l10Do r_spec_l10Do ⟨by simp only [go_sem, ↓reduceIte], fun E hE hH => ?_⟩; simp only [go_sem, ↓reduceIte] at hE hH; simp only [go_sem, hE, hH, ↓reduceIte, c_spec_l10Do]
  repeat' (first | ((with_reducible (first | refine gd_t (fun h => ?_) (fun h => ?_) | refine gd_f (fun h => ?_) (fun h => ?_))) <;> (have hb := h; (try simp only [decide_eq_true_eq, decide_eq_false_iff_not, Int.not_lt, Int.not_le, ge_iff_le, gt_iff_lt, Bool.not_eq_true', Bool.not_eq_false', beq_iff_eq, bne_iff_ne, beq_eq_false_iff_ne, bne_eq_false_iff_eq, Int.ofNat_lt, Int.ofNat_le] at h); simp (disch := omega) only [go_sem, hE, hH, ↓reduceIte, hb]; (try clear hb))) | ((with_reducible refine And.intro ?_ ?_); · omega) | (refine ok_view ?_; simp (disch := omega) only [go_sem, hE, hH, ↓reduceIte]) | (refine cvA (sAskLease_ok w _ _ hw) ?_; simp (disch := omega) only [go_sem, hE, hH, ↓reduceIte]) | (refine cvA (sPassTime_ok w _ hw) ?_; simp (disch := omega) only [go_sem, hE, hH, ↓reduceIte]) | (refine cvA (sDriftTo_ok w _ _ hw) ?_; simp (disch := omega) only [go_sem, hE, hH, ↓reduceIte]) | (refine cvA (sGiveBack_ok w _ hw) ?_; simp (disch := omega) only [go_sem, hE, hH, ↓reduceIte]) | (with_reducible apply jn) | (with_reducible apply both) | (with_reducible refine And.intro ?_ ?_) | ((with_reducible apply fin_eq); (try (simp (disch := omega) only [go_sem, hE, hH, ↓reduceIte])); first | done | rfl) | (simp (disch := omega) only [go_sem, hE, hH, ↓reduceIte]) | (exact (noMLL_set (by simp only [go_sem, hE, hH, ↓reduceIte]) (by simp only [go_sem, hE, hH, ↓reduceIte])).2 trivial) | (exact (pk_set (by simp only [go_sem, hE, hH, ↓reduceIte]) (by simp only [go_sem, hE, hH, ↓reduceIte])).2 trivial) | (simp only [go_sem, hE, hH, ↓reduceIte]) | fail)
  all_goals (first | (simp [doW, *]; done) | (simp_all [doW]; done) | (simp_all [doW, zeroW]; done) | trace_state)
set_option maxHeartbeats 2000000 in
theorem sPlayWatch_ok (w : Watch) (l : List WatchAct) (hw : watchM w) (hl : l.length ≤ maxLen) : ACall Try.prog n_spec_PlayWatch [.agg (Watch.row false w), .sl false 3 (l.map (WatchAct.row false))] (fun r _ => r = .tup [.agg (Watch.row true (playW w l).1), bl (playW w l).2]) := by
  have hmx := mx_eq
  have i1 := l10Good_ok w hw
  cases h1 : watchOk w with
  | false =>
    rw [h1] at i1
    have e : playW w l = (zeroW, false) := by simp [playW, h1]
    refine fn_in h_spec_PlayWatch r_spec_PlayWatch ⟨by simp only [go_sem, ↓reduceIte], fun E hE hH => ?_⟩; simp only [go_sem, ↓reduceIte] at hE hH; simp only [go_sem, hE, hH, ↓reduceIte, c_spec_PlayWatch]
    repeat' (first | ((with_reducible (first | refine gd_t (fun h => ?_) (fun h => ?_) | refine gd_f (fun h => ?_) (fun h => ?_))) <;> (have hb := h; (try simp only [decide_eq_true_eq, decide_eq_false_iff_not, Int.not_lt, Int.not_le, ge_iff_le, gt_iff_lt, Bool.not_eq_true', Bool.not_eq_false', beq_iff_eq, bne_iff_ne, beq_eq_false_iff_ne, bne_eq_false_iff_eq, Int.ofNat_lt, Int.ofNat_le] at h); simp (disch := omega) only [go_sem, hE, hH, ↓reduceIte, hb]; (try clear hb))) | ((with_reducible refine And.intro ?_ ?_); · omega) | (refine ok_view ?_; simp (disch := omega) only [go_sem, hE, hH, ↓reduceIte]) | (refine cvA (i1) ?_; simp (disch := omega) only [go_sem, hE, hH, ↓reduceIte]) | (with_reducible apply jn) | (with_reducible apply both) | (with_reducible refine And.intro ?_ ?_) | ((with_reducible apply fin_eq); (try (simp (disch := omega) only [go_sem, hE, hH, ↓reduceIte])); first | done | rfl) | (simp (disch := omega) only [go_sem, hE, hH, ↓reduceIte]) | (exact (noMLL_set (by simp only [go_sem, hE, hH, ↓reduceIte]) (by simp only [go_sem, hE, hH, ↓reduceIte])).2 trivial) | (exact (pk_set (by simp only [go_sem, hE, hH, ↓reduceIte]) (by simp only [go_sem, hE, hH, ↓reduceIte])).2 trivial) | (simp only [go_sem, hE, hH, ↓reduceIte]) | fail)
    all_goals (rw [e]; try rfl)
  | true =>
    rw [h1] at i1
    obtain ⟨a1, a2, a3, a4, a5⟩ := watchOk_len h1
    by_cases h2 : (l.length : Int) ≤ 100
    · have e : playW w l = (playF w l, true) := by simp [playW, h1, h2]
      refine fn_in h_spec_PlayWatch r_spec_PlayWatch ⟨by simp only [go_sem, ↓reduceIte], fun E hE hH => ?_⟩; simp only [go_sem, ↓reduceIte] at hE hH; simp only [go_sem, hE, hH, ↓reduceIte, c_spec_PlayWatch]
      repeat' (first | ((with_reducible (first | refine gd_t (fun h => ?_) (fun h => ?_) | refine gd_f (fun h => ?_) (fun h => ?_))) <;> (have hb := h; (try simp only [decide_eq_true_eq, decide_eq_false_iff_not, Int.not_lt, Int.not_le, ge_iff_le, gt_iff_lt, Bool.not_eq_true', Bool.not_eq_false', beq_iff_eq, bne_iff_ne, beq_eq_false_iff_ne, bne_eq_false_iff_eq, Int.ofNat_lt, Int.ofNat_le] at h); simp (disch := omega) only [go_sem, hE, hH, ↓reduceIte, hb]; (try clear hb))) | ((with_reducible refine And.intro ?_ ?_); · omega) | (refine ok_view ?_; simp (disch := omega) only [go_sem, hE, hH, ↓reduceIte]) | (refine cvA (i1) ?_; simp (disch := omega) only [go_sem, hE, hH, ↓reduceIte]) | (refine cvA (l10Own_ok w (by omega) (by omega)) ?_; simp (disch := omega) only [go_sem, hE, hH, ↓reduceIte]) | (with_reducible apply jn) | (with_reducible apply both) | (with_reducible refine And.intro ?_ ?_) | ((with_reducible apply fin_eq); (try (simp (disch := omega) only [go_sem, hE, hH, ↓reduceIte])); first | done | rfl) | (simp (disch := omega) only [go_sem, hE, hH, ↓reduceIte]) | (exact (noMLL_set (by simp only [go_sem, hE, hH, ↓reduceIte]) (by simp only [go_sem, hE, hH, ↓reduceIte])).2 trivial) | (exact (pk_set (by simp only [go_sem, hE, hH, ↓reduceIte]) (by simp only [go_sem, hE, hH, ↓reduceIte])).2 trivial) | (simp only [go_sem, hE, hH, ↓reduceIte]) | fail)
      all_goals try omega
      refine loopN l.length (fun j (x : Watch) => ⟨[(1, .sl false 3 (l.map (WatchAct.row false))), (4, .ptr 5000000 0 0), (6, .ptr 7000000 0 0), (7, i64 j)], [(5000000, ⟨3, [[i64 0, nils, nils]]⟩), (7000000, ⟨3, [[i64 x.True, .ref 7000002 0 x.Clocks.length, .ref 7000003 0 x.Given.length]]⟩), (7000002, ⟨1, x.Clocks.map (Clock.row true)⟩), (7000003, ⟨3, x.Given.map (Lease.row true)⟩)]⟩) (fun j x => watchOk x = true ∧ x = playF w (l.take j)) w ⟨h1, rfl⟩ ?_
      rintro j x hj ⟨hI, hx⟩
      try simp only [go_sem, hE, hH, ↓reduceIte, c_spec_PlayWatch_l1]
      first | refine gd_t (fun h3 => ?_) (fun h3 => ?_) | refine gd_f (fun h3 => ?_) (fun h3 => ?_)
      · have hb3 := h3
        simp only [decide_eq_true_eq, decide_eq_false_iff_not, Int.not_lt, Int.not_le, ge_iff_le, gt_iff_lt, Bool.not_eq_true', Bool.not_eq_false', beq_iff_eq, bne_iff_ne, beq_eq_false_iff_ne, bne_eq_false_iff_eq, Int.ofNat_lt, Int.ofNat_le] at h3
        have hlt := h3; clear h3
        try simp (disch := omega) only [go_sem, hE, hH, ↓reduceIte, hb3]
        repeat' (first | ((with_reducible (first | refine gd_t (fun h => ?_) (fun h => ?_) | refine gd_f (fun h => ?_) (fun h => ?_))) <;> (have hb := h; (try simp only [decide_eq_true_eq, decide_eq_false_iff_not, Int.not_lt, Int.not_le, ge_iff_le, gt_iff_lt, Bool.not_eq_true', Bool.not_eq_false', beq_iff_eq, bne_iff_ne, beq_eq_false_iff_ne, bne_eq_false_iff_eq, Int.ofNat_lt, Int.ofNat_le] at h); simp (disch := omega) only [go_sem, hE, hH, ↓reduceIte, hb]; (try clear hb))) | ((with_reducible refine And.intro ?_ ?_); · omega) | (refine ok_view ?_; simp (disch := omega) only [go_sem, hE, hH, ↓reduceIte]) | (refine cvA (l10Do_ok x (nth l j) (watchM_of hI)) ?_; simp (disch := omega) only [go_sem, hE, hH, ↓reduceIte]) | (with_reducible apply jn) | (with_reducible apply both) | (with_reducible refine And.intro ?_ ?_) | ((with_reducible apply fin_eq); (try (simp (disch := omega) only [go_sem, hE, hH, ↓reduceIte])); first | done | rfl) | (simp (disch := omega) only [go_sem, hE, hH, ↓reduceIte]) | (exact (noMLL_set (by simp only [go_sem, hE, hH, ↓reduceIte]) (by simp only [go_sem, hE, hH, ↓reduceIte])).2 trivial) | (exact (pk_set (by simp only [go_sem, hE, hH, ↓reduceIte]) (by simp only [go_sem, hE, hH, ↓reduceIte])).2 trivial) | (simp only [go_sem, hE, hH, ↓reduceIte]) | fail)
        all_goals try omega
        · exact ⟨(doW x (nth l j)).1, rfl, doW_good h, by rw [playF_succ hlt, ← hx, nextW, if_pos h]⟩
        · exact ⟨x, rfl, hI, by rw [playF_succ hlt, ← hx, nextW, h]; rfl⟩
      · try simp (disch := omega) only [go_sem, hE, hH, ↓reduceIte, h3]
        simp only [decide_eq_true_eq, decide_eq_false_iff_not, Int.not_lt, Int.not_le, ge_iff_le, gt_iff_lt, Bool.not_eq_true', Bool.not_eq_false', beq_iff_eq, bne_iff_ne, beq_eq_false_iff_ne, bne_eq_false_iff_eq, Int.ofNat_lt, Int.ofNat_le] at h3
        have hx' : x = playF w l := by rw [hx, show j = l.length by omega, List.take_length]
        repeat' (first | ((with_reducible (first | refine gd_t (fun h => ?_) (fun h => ?_) | refine gd_f (fun h => ?_) (fun h => ?_))) <;> (have hb := h; (try simp only [decide_eq_true_eq, decide_eq_false_iff_not, Int.not_lt, Int.not_le, ge_iff_le, gt_iff_lt, Bool.not_eq_true', Bool.not_eq_false', beq_iff_eq, bne_iff_ne, beq_eq_false_iff_ne, bne_eq_false_iff_eq, Int.ofNat_lt, Int.ofNat_le] at h); simp (disch := omega) only [go_sem, hE, hH, ↓reduceIte, hb]; (try clear hb))) | ((with_reducible refine And.intro ?_ ?_); · omega) | (with_reducible apply jn) | (with_reducible apply both) | (with_reducible refine And.intro ?_ ?_) | ((with_reducible apply fin_eq); (try (simp (disch := omega) only [go_sem, hE, hH, ↓reduceIte])); first | done | rfl) | (simp (disch := omega) only [go_sem, hE, hH, ↓reduceIte]) | (exact (noMLL_set (by simp only [go_sem, hE, hH, ↓reduceIte]) (by simp only [go_sem, hE, hH, ↓reduceIte])).2 trivial) | (exact (pk_set (by simp only [go_sem, hE, hH, ↓reduceIte]) (by simp only [go_sem, hE, hH, ↓reduceIte])).2 trivial) | (simp only [go_sem, hE, hH, ↓reduceIte]) | fail)
        all_goals (rw [e, ← hx']; try rfl)
    · have e : playW w l = (zeroW, false) := by simp [playW, h2]
      refine fn_in h_spec_PlayWatch r_spec_PlayWatch ⟨by simp only [go_sem, ↓reduceIte], fun E hE hH => ?_⟩; simp only [go_sem, ↓reduceIte] at hE hH; simp only [go_sem, hE, hH, ↓reduceIte, c_spec_PlayWatch]
      repeat' (first | ((with_reducible (first | refine gd_t (fun h => ?_) (fun h => ?_) | refine gd_f (fun h => ?_) (fun h => ?_))) <;> (have hb := h; (try simp only [decide_eq_true_eq, decide_eq_false_iff_not, Int.not_lt, Int.not_le, ge_iff_le, gt_iff_lt, Bool.not_eq_true', Bool.not_eq_false', beq_iff_eq, bne_iff_ne, beq_eq_false_iff_ne, bne_eq_false_iff_eq, Int.ofNat_lt, Int.ofNat_le] at h); simp (disch := omega) only [go_sem, hE, hH, ↓reduceIte, hb]; (try clear hb))) | ((with_reducible refine And.intro ?_ ?_); · omega) | (refine ok_view ?_; simp (disch := omega) only [go_sem, hE, hH, ↓reduceIte]) | (refine cvA (i1) ?_; simp (disch := omega) only [go_sem, hE, hH, ↓reduceIte]) | (with_reducible apply jn) | (with_reducible apply both) | (with_reducible refine And.intro ?_ ?_) | ((with_reducible apply fin_eq); (try (simp (disch := omega) only [go_sem, hE, hH, ↓reduceIte])); first | done | rfl) | (simp (disch := omega) only [go_sem, hE, hH, ↓reduceIte]) | (exact (noMLL_set (by simp only [go_sem, hE, hH, ↓reduceIte]) (by simp only [go_sem, hE, hH, ↓reduceIte])).2 trivial) | (exact (pk_set (by simp only [go_sem, hE, hH, ↓reduceIte]) (by simp only [go_sem, hE, hH, ↓reduceIte])).2 trivial) | (simp only [go_sem, hE, hH, ↓reduceIte]) | fail)
      all_goals (first | omega | (rw [e]; try rfl))
theorem playF_ok {w : Watch} {l : List WatchAct} (h : watchOk w = true) : watchOk (playF w l) = true := by
  induction l generalizing w with
  | nil => exact h
  | cons a t ih =>
    show watchOk (playF (nextW w a) t) = true
    refine ih ?_
    unfold nextW
    split
    · rename_i g; exact doW_good g
    · exact h
theorem playW_len (w : Watch) (l : List WatchAct) : (playW w l).1.Clocks.length ≤ 5 ∧ (playW w l).1.Given.length ≤ 40 := by
  unfold playW
  split
  · rename_i g
    simp only [Bool.and_eq_true] at g
    have := watchOk_len (playF_ok (l := l) g.1)
    exact ⟨by show (playF w l).Clocks.length ≤ 5; omega, by show (playF w l).Given.length ≤ 40; omega⟩
  · exact ⟨by simp [zeroW], by simp [zeroW]⟩
end Go.Proofs.Wb

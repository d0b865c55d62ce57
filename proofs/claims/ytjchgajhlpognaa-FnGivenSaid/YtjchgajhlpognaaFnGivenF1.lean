/- Contracts of functions. -/
import Derived.Test.YtjchgajhlpognaaFnGivenD3
import Derived.Laws.Externs
set_option linter.unusedSimpArgs false
set_option linter.unusedVariables false
set_option linter.unusedSectionVars false
namespace Go.Proofs.Wb
open Go Go.Am
def clkOk (c : Clock) : Bool := rng c.Off (-5) 5
def leaseOk (m : Nat) (l : Lease) : Bool := rng l.Who 0 ((m : Int) - 1) && rng l.From (-20) 100020 && rng l.Until (-20) 100200
def clksOk (l : List Clock) : Bool := rng (l.length : Int) 1 5 && l.all clkOk
def watchOk (w : Watch) : Bool := rng w.True 0 100000 && clksOk w.Clocks && decide ((w.Given.length : Int) ≤ 40) && w.Given.all (leaseOk w.Clocks.length)
theorem watchOk_len {w : Watch} (h : watchOk w = true) : 0 ≤ w.True ∧ w.True ≤ 100000 ∧ 1 ≤ w.Clocks.length ∧ w.Clocks.length ≤ 5 ∧ w.Given.length ≤ 40 := by
  simp only [watchOk, clksOk, Bool.and_eq_true, rng_iff, decide_eq_true_eq] at h
  omega
theorem watchOk_off {w : Watch} (h : watchOk w = true) {i : Nat} (hi : i < w.Clocks.length) : -5 ≤ (nth w.Clocks i).Off ∧ (nth w.Clocks i).Off ≤ 5 := by
  simp only [watchOk, clksOk, Bool.and_eq_true, List.all_eq_true] at h
  exact rng_iff.1 (h.1.1.2.2 _ (nth_mem hi))
theorem watchOk_lease {w : Watch} (h : watchOk w = true) {l : Lease} (hl : l ∈ w.Given) : leaseOk w.Clocks.length l = true := by
  simp only [watchOk, Bool.and_eq_true, List.all_eq_true] at h
  exact h.2 _ hl
def watchM (w : Watch) : Prop := w.Clocks.length ≤ maxLen ∧ w.Given.length ≤ maxLen
def zeroW : Watch := ⟨0, [], []⟩
def ifW (w : Watch) : Watch × Bool := if watchOk w then (w, true) else (zeroW, false)
def lowW (w : Watch) (i : Int) : Int := w.True + (nth w.Clocks i.toNat).Off - 5
def highW (w : Watch) (i : Int) : Int := w.True + (nth w.Clocks i.toNat).Off + 5
def hasW (w : Watch) (i : Int) : Bool := watchOk w && rng i 0 ((w.Clocks.length : Int) - 1)
theorem hasW_at {w : Watch} {i : Int} (h : hasW w i = true) : watchOk w = true ∧ 0 ≤ i ∧ i < w.Clocks.length ∧ (0 ≤ w.True ∧ w.True ≤ 100000 ∧ 1 ≤ w.Clocks.length ∧ w.Clocks.length ≤ 5 ∧ w.Given.length ≤ 40) ∧ (-5 ≤ (nth w.Clocks i.toNat).Off ∧ (nth w.Clocks i.toNat).Off ≤ 5) := by
  simp only [hasW, Bool.and_eq_true, rng_iff] at h
  exact ⟨h.1, h.2.1, by omega, watchOk_len h.1, watchOk_off h.1 (by omega)⟩
theorem GoodClock_ok (c : Clock) : ACall Try.prog n_impl_GoodClock [.agg (Clock.row false c)] (fun r _ => r = bl (clkOk c)) := by
  refine fn_in h_impl_GoodClock r_impl_GoodClock ⟨by simp only [go_sem, ↓reduceIte], fun E hE hH => ?_⟩; simp only [go_sem, ↓reduceIte] at hE hH; simp only [go_sem, hE, hH, ↓reduceIte, c_impl_GoodClock]
  repeat' (first | ((with_reducible (first | refine gd_t (fun h => ?_) (fun h => ?_) | refine gd_f (fun h => ?_) (fun h => ?_))) <;> (have hb := h; (try simp only [decide_eq_true_eq, decide_eq_false_iff_not, Int.not_lt, Int.not_le, ge_iff_le, gt_iff_lt, Bool.not_eq_true', Bool.not_eq_false', beq_iff_eq, bne_iff_ne, beq_eq_false_iff_ne, bne_eq_false_iff_eq, Int.ofNat_lt, Int.ofNat_le] at h); simp (disch := omega) only [go_sem, hE, hH, ↓reduceIte, hb]; (try clear hb))) | ((with_reducible refine And.intro ?_ ?_); · omega) | (refine ok_view ?_; simp (disch := omega) only [go_sem, hE, hH, ↓reduceIte]) | (refine cvA (within_ok _ _ _) ?_; simp (disch := omega) only [go_sem, hE, hH, ↓reduceIte]) | (refine jn _ ?_ ?_) | (with_reducible refine both ?_ ?_) | (with_reducible refine And.intro ?_ ?_) | (refine fin_eq ?_; (try (simp (disch := omega) only [go_sem, hE, hH, ↓reduceIte])); first | done | rfl) | (simp (disch := omega) only [go_sem, hE, hH, ↓reduceIte]) | (exact (noMLL_set (by simp only [go_sem, hE, hH, ↓reduceIte]) (by simp only [go_sem, hE, hH, ↓reduceIte])).2 trivial) | (exact (pk_set (by simp only [go_sem, hE, hH, ↓reduceIte]) (by simp only [go_sem, hE, hH, ↓reduceIte])).2 trivial) | (simp only [go_sem, hE, hH, ↓reduceIte]) | fail)
  rfl
theorem areClocks_1_ok (c : Clock) : ACall Try.prog n_impl_areClocks_1 ([.agg (Clock.row false c)] ++ []) (fun r _ => r = bl (!clkOk c)) := by
  refine fn_in h_impl_areClocks_1 r_impl_areClocks_1 ⟨by simp only [go_sem, ↓reduceIte], fun E hE hH => ?_⟩; simp only [go_sem, ↓reduceIte] at hE hH; simp only [go_sem, hE, hH, ↓reduceIte, c_impl_areClocks_1]
  repeat' (first | ((with_reducible (first | refine gd_t (fun h => ?_) (fun h => ?_) | refine gd_f (fun h => ?_) (fun h => ?_))) <;> (have hb := h; (try simp only [decide_eq_true_eq, decide_eq_false_iff_not, Int.not_lt, Int.not_le, ge_iff_le, gt_iff_lt, Bool.not_eq_true', Bool.not_eq_false', beq_iff_eq, bne_iff_ne, beq_eq_false_iff_ne, bne_eq_false_iff_eq, Int.ofNat_lt, Int.ofNat_le] at h); simp (disch := omega) only [go_sem, hE, hH, ↓reduceIte, hb]; (try clear hb))) | ((with_reducible refine And.intro ?_ ?_); · omega) | (refine ok_view ?_; simp (disch := omega) only [go_sem, hE, hH, ↓reduceIte]) | (refine cvA (GoodClock_ok c) ?_; simp (disch := omega) only [go_sem, hE, hH, ↓reduceIte]) | (refine jn _ ?_ ?_) | (with_reducible refine both ?_ ?_) | (with_reducible refine And.intro ?_ ?_) | (refine fin_eq ?_; (try (simp (disch := omega) only [go_sem, hE, hH, ↓reduceIte])); first | done | rfl) | (simp (disch := omega) only [go_sem, hE, hH, ↓reduceIte]) | (exact (noMLL_set (by simp only [go_sem, hE, hH, ↓reduceIte]) (by simp only [go_sem, hE, hH, ↓reduceIte])).2 trivial) | (exact (pk_set (by simp only [go_sem, hE, hH, ↓reduceIte]) (by simp only [go_sem, hE, hH, ↓reduceIte])).2 trivial) | (simp only [go_sem, hE, hH, ↓reduceIte]) | fail)
theorem any_not {α : Type} {p : α → Bool} {l : List α} : (l.any fun x => !p x) = !(l.all p) := by
  rw [List.all_eq_not_any_not]; simp
theorem areClocks_ok (l : List Clock) (hl : l.length ≤ maxLen) : ACall Try.prog n_impl_areClocks [.sl false 1 (l.map (Clock.row false))] (fun r _ => r = bl (clksOk l)) := by
  have hmx := mx_eq
  refine fn_in h_impl_areClocks r_impl_areClocks ⟨by simp only [go_sem, ↓reduceIte], fun E hE hH => ?_⟩; simp only [go_sem, ↓reduceIte] at hE hH; simp only [go_sem, hE, hH, ↓reduceIte, c_impl_areClocks]
  repeat' (first | ((with_reducible (first | refine gd_t (fun h => ?_) (fun h => ?_) | refine gd_f (fun h => ?_) (fun h => ?_))) <;> (have hb := h; (try simp only [decide_eq_true_eq, decide_eq_false_iff_not, Int.not_lt, Int.not_le, ge_iff_le, gt_iff_lt, Bool.not_eq_true', Bool.not_eq_false', beq_iff_eq, bne_iff_ne, beq_eq_false_iff_ne, bne_eq_false_iff_eq, Int.ofNat_lt, Int.ofNat_le] at h); simp (disch := omega) only [go_sem, hE, hH, ↓reduceIte, hb]; (try clear hb))) | ((with_reducible refine And.intro ?_ ?_); · omega) | (refine ok_view ?_; simp (disch := omega) only [go_sem, hE, hH, ↓reduceIte]) | (refine cvA (within_ok _ _ _) ?_; simp (disch := omega) only [go_sem, hE, hH, ↓reduceIte]) | (refine cvA (ContainsFunc_Clock_ok l _ [] (fun c => !clkOk c) (by kernel_rfl) rfl hl (fun c _ => areClocks_1_ok c)) ?_; simp (disch := omega) only [go_sem, hE, hH, ↓reduceIte]) | (refine jn _ ?_ ?_) | (with_reducible refine both ?_ ?_) | (with_reducible refine And.intro ?_ ?_) | (refine fin_eq ?_; (try (simp (disch := omega) only [go_sem, hE, hH, ↓reduceIte])); first | done | rfl) | (simp (disch := omega) only [go_sem, hE, hH, ↓reduceIte]) | (exact (noMLL_set (by simp only [go_sem, hE, hH, ↓reduceIte]) (by simp only [go_sem, hE, hH, ↓reduceIte])).2 trivial) | (exact (pk_set (by simp only [go_sem, hE, hH, ↓reduceIte]) (by simp only [go_sem, hE, hH, ↓reduceIte])).2 trivial) | (simp only [go_sem, hE, hH, ↓reduceIte]) | fail)
  all_goals simp [clksOk, h, any_not]
theorem wNode_ok (w : Watch) (v : Int) (hm : w.Clocks.length ≤ maxLen) : ACall Try.prog n_impl_Watch_isNode [.agg (Watch.row false w), i64 v] (fun r _ => r = bl (rng v 0 ((w.Clocks.length : Int) - 1))) := by
  have hmx := mx_eq
  refine fn_in h_impl_Watch_isNode r_impl_Watch_isNode ⟨by simp only [go_sem, ↓reduceIte], fun E hE hH => ?_⟩; simp only [go_sem, ↓reduceIte] at hE hH; simp only [go_sem, hE, hH, ↓reduceIte, c_impl_Watch_isNode]
  repeat' (first | ((with_reducible (first | refine gd_t (fun h => ?_) (fun h => ?_) | refine gd_f (fun h => ?_) (fun h => ?_))) <;> (have hb := h; (try simp only [decide_eq_true_eq, decide_eq_false_iff_not, Int.not_lt, Int.not_le, ge_iff_le, gt_iff_lt, Bool.not_eq_true', Bool.not_eq_false', beq_iff_eq, bne_iff_ne, beq_eq_false_iff_ne, bne_eq_false_iff_eq, Int.ofNat_lt, Int.ofNat_le] at h); simp (disch := omega) only [go_sem, hE, hH, ↓reduceIte, hb]; (try clear hb))) | ((with_reducible refine And.intro ?_ ?_); · omega) | (refine ok_view ?_; simp (disch := omega) only [go_sem, hE, hH, ↓reduceIte]) | (refine cvA (within_ok _ _ _) ?_; simp (disch := omega) only [go_sem, hE, hH, ↓reduceIte]) | (refine jn _ ?_ ?_) | (with_reducible refine both ?_ ?_) | (with_reducible refine And.intro ?_ ?_) | (refine fin_eq ?_; (try (simp (disch := omega) only [go_sem, hE, hH, ↓reduceIte])); first | done | rfl) | (simp (disch := omega) only [go_sem, hE, hH, ↓reduceIte]) | (exact (noMLL_set (by simp only [go_sem, hE, hH, ↓reduceIte]) (by simp only [go_sem, hE, hH, ↓reduceIte])).2 trivial) | (exact (pk_set (by simp only [go_sem, hE, hH, ↓reduceIte]) (by simp only [go_sem, hE, hH, ↓reduceIte])).2 trivial) | (simp only [go_sem, hE, hH, ↓reduceIte]) | fail)
theorem GoodWatch_1_ok (l : Lease) (w : Watch) (hm : w.Clocks.length ≤ maxLen) : ACall Try.prog n_impl_GoodWatch_1 ([.agg (Lease.row false l)] ++ [.bx false (Watch.row false w)]) (fun r _ => r = bl (!leaseOk w.Clocks.length l)) := by
  refine fn_in h_impl_GoodWatch_1 r_impl_GoodWatch_1 ⟨by simp only [go_sem, ↓reduceIte], fun E hE hH => ?_⟩; simp only [go_sem, ↓reduceIte] at hE hH; simp only [go_sem, hE, hH, ↓reduceIte, c_impl_GoodWatch_1]
  repeat' (first | ((with_reducible (first | refine gd_t (fun h => ?_) (fun h => ?_) | refine gd_f (fun h => ?_) (fun h => ?_))) <;> (have hb := h; (try simp only [decide_eq_true_eq, decide_eq_false_iff_not, Int.not_lt, Int.not_le, ge_iff_le, gt_iff_lt, Bool.not_eq_true', Bool.not_eq_false', beq_iff_eq, bne_iff_ne, beq_eq_false_iff_ne, bne_eq_false_iff_eq, Int.ofNat_lt, Int.ofNat_le] at h); simp (disch := omega) only [go_sem, hE, hH, ↓reduceIte, hb]; (try clear hb))) | ((with_reducible refine And.intro ?_ ?_); · omega) | (refine ok_view ?_; simp (disch := omega) only [go_sem, hE, hH, ↓reduceIte]) | (refine cvA (wNode_ok w _ hm) ?_; simp (disch := omega) only [go_sem, hE, hH, ↓reduceIte]) | (refine cvA (within_ok _ _ _) ?_; simp (disch := omega) only [go_sem, hE, hH, ↓reduceIte]) | (with_reducible apply jn) | (with_reducible apply both) | (with_reducible refine And.intro ?_ ?_) | ((with_reducible apply fin_eq); (try (simp (disch := omega) only [go_sem, hE, hH, ↓reduceIte])); first | done | rfl) | (simp (disch := omega) only [go_sem, hE, hH, ↓reduceIte]) | (exact (noMLL_set (by simp only [go_sem, hE, hH, ↓reduceIte]) (by simp only [go_sem, hE, hH, ↓reduceIte])).2 trivial) | (exact (pk_set (by simp only [go_sem, hE, hH, ↓reduceIte]) (by simp only [go_sem, hE, hH, ↓reduceIte])).2 trivial) | (simp only [go_sem, hE, hH, ↓reduceIte]) | fail)
  all_goals (first | (simp_all [leaseOk]; done) | (simp_all [leaseOk] <;> first | omega | (intros; omega)))
theorem GoodWatch_ok (w : Watch) (hw : watchM w) : ACall Try.prog n_impl_GoodWatch [.agg (Watch.row false w)] (fun r _ => r = bl (watchOk w)) := by
  have hmx := mx_eq
  obtain ⟨h1, h2⟩ := hw
  refine fn_in h_impl_GoodWatch r_impl_GoodWatch ⟨by simp only [go_sem, ↓reduceIte], fun E hE hH => ?_⟩; simp only [go_sem, ↓reduceIte] at hE hH; simp only [go_sem, hE, hH, ↓reduceIte, c_impl_GoodWatch]
  repeat' (first | ((with_reducible (first | refine gd_t (fun h => ?_) (fun h => ?_) | refine gd_f (fun h => ?_) (fun h => ?_))) <;> (have hb := h; (try simp only [decide_eq_true_eq, decide_eq_false_iff_not, Int.not_lt, Int.not_le, ge_iff_le, gt_iff_lt, Bool.not_eq_true', Bool.not_eq_false', beq_iff_eq, bne_iff_ne, beq_eq_false_iff_ne, bne_eq_false_iff_eq, Int.ofNat_lt, Int.ofNat_le] at h); simp (disch := omega) only [go_sem, hE, hH, ↓reduceIte, hb]; (try clear hb))) | ((with_reducible refine And.intro ?_ ?_); · omega) | (refine ok_view ?_; simp (disch := omega) only [go_sem, hE, hH, ↓reduceIte]) | (refine cvA (isTrue_ok _) ?_; simp (disch := omega) only [go_sem, hE, hH, ↓reduceIte]) | (refine cvA (areClocks_ok _ h1) ?_; simp (disch := omega) only [go_sem, hE, hH, ↓reduceIte]) | (refine cvA (ContainsFunc_Lease_ok w.Given _ [.bx false (Watch.row false w)] (fun l => !leaseOk w.Clocks.length l) (by kernel_rfl) rfl h2 (fun l _ => GoodWatch_1_ok l w h1)) ?_; simp (disch := omega) only [go_sem, hE, hH, ↓reduceIte]) | (with_reducible apply jn) | (with_reducible apply both) | (with_reducible refine And.intro ?_ ?_) | ((with_reducible apply fin_eq); (try (simp (disch := omega) only [go_sem, hE, hH, ↓reduceIte])); first | done | rfl) | (simp (disch := omega) only [go_sem, hE, hH, ↓reduceIte]) | (exact (noMLL_set (by simp only [go_sem, hE, hH, ↓reduceIte]) (by simp only [go_sem, hE, hH, ↓reduceIte])).2 trivial) | (exact (pk_set (by simp only [go_sem, hE, hH, ↓reduceIte]) (by simp only [go_sem, hE, hH, ↓reduceIte])).2 trivial) | (simp only [go_sem, hE, hH, ↓reduceIte]) | fail)
  all_goals try simp only [any_not, Bool.not_not]
  all_goals (first | (simp [watchOk, *]; done) | (simp_all [watchOk]; done) | (simp_all [watchOk] <;> omega) | trace_state)
theorem l2Clock_ok (c : Clock) : ACall Try.prog n_spec_l2Clock [.agg (Clock.row false c)] (fun r _ => r = bl (clkOk c)) := by
  refine fn_in h_spec_l2Clock r_spec_l2Clock ⟨by simp only [go_sem, ↓reduceIte], fun E hE hH => ?_⟩; simp only [go_sem, ↓reduceIte] at hE hH; simp only [go_sem, hE, hH, ↓reduceIte, c_spec_l2Clock]
  repeat' (first | ((with_reducible (first | refine gd_t (fun h => ?_) (fun h => ?_) | refine gd_f (fun h => ?_) (fun h => ?_))) <;> (have hb := h; (try simp only [decide_eq_true_eq, decide_eq_false_iff_not, Int.not_lt, Int.not_le, ge_iff_le, gt_iff_lt, Bool.not_eq_true', Bool.not_eq_false', beq_iff_eq, bne_iff_ne, beq_eq_false_iff_ne, bne_eq_false_iff_eq, Int.ofNat_lt, Int.ofNat_le] at h); simp (disch := omega) only [go_sem, hE, hH, ↓reduceIte, hb]; (try clear hb))) | ((with_reducible refine And.intro ?_ ?_); · omega) | (refine ok_view ?_; simp (disch := omega) only [go_sem, hE, hH, ↓reduceIte]) | (refine cvA (l1In_ok _ _ _) ?_; simp (disch := omega) only [go_sem, hE, hH, ↓reduceIte]) | (refine jn _ ?_ ?_) | (with_reducible refine both ?_ ?_) | (with_reducible refine And.intro ?_ ?_) | (refine fin_eq ?_; (try (simp (disch := omega) only [go_sem, hE, hH, ↓reduceIte])); first | done | rfl) | (simp (disch := omega) only [go_sem, hE, hH, ↓reduceIte]) | (exact (noMLL_set (by simp only [go_sem, hE, hH, ↓reduceIte]) (by simp only [go_sem, hE, hH, ↓reduceIte])).2 trivial) | (exact (pk_set (by simp only [go_sem, hE, hH, ↓reduceIte]) (by simp only [go_sem, hE, hH, ↓reduceIte])).2 trivial) | (simp only [go_sem, hE, hH, ↓reduceIte]) | fail)
  rfl
theorem copyWatch_ok (w : Watch) (h1 : w.Clocks.length ≤ 2 ^ 20) (h2 : w.Given.length ≤ 2 ^ 20) : ACall Try.prog n_impl_copyWatch [.agg (Watch.row false w)] (fun r _ => r = .agg (Watch.row true w)) := by
  refine fn_in h_impl_copyWatch r_impl_copyWatch ⟨by simp only [go_sem, ↓reduceIte], fun E hE hH => ?_⟩; simp only [go_sem, ↓reduceIte] at hE hH; simp only [go_sem, hE, hH, ↓reduceIte, c_impl_copyWatch]
  repeat' (first | ((with_reducible (first | refine gd_t (fun h => ?_) (fun h => ?_) | refine gd_f (fun h => ?_) (fun h => ?_))) <;> (have hb := h; (try simp only [decide_eq_true_eq, decide_eq_false_iff_not, Int.not_lt, Int.not_le, ge_iff_le, gt_iff_lt, Bool.not_eq_true', Bool.not_eq_false', beq_iff_eq, bne_iff_ne, beq_eq_false_iff_ne, bne_eq_false_iff_eq, Int.ofNat_lt, Int.ofNat_le] at h); simp (disch := omega) only [go_sem, hE, hH, ↓reduceIte, hb]; (try clear hb))) | ((with_reducible refine And.intro ?_ ?_); · omega) | (refine ok_view ?_; simp (disch := omega) only [go_sem, hE, hH, ↓reduceIte]) | (refine cvA (Clone_Clock_ok _ h1) ?_; simp (disch := omega) only [go_sem, hE, hH, ↓reduceIte]) | (refine cvA (Clone_Lease_ok _ h2) ?_; simp (disch := omega) only [go_sem, hE, hH, ↓reduceIte]) | (with_reducible apply jn) | (with_reducible apply both) | (with_reducible refine And.intro ?_ ?_) | ((with_reducible apply fin_eq); (try (simp (disch := omega) only [go_sem, hE, hH, ↓reduceIte])); first | done | rfl) | (simp (disch := omega) only [go_sem, hE, hH, ↓reduceIte]) | (exact (noMLL_set (by simp only [go_sem, hE, hH, ↓reduceIte]) (by simp only [go_sem, hE, hH, ↓reduceIte])).2 trivial) | (exact (pk_set (by simp only [go_sem, hE, hH, ↓reduceIte]) (by simp only [go_sem, hE, hH, ↓reduceIte])).2 trivial) | (simp only [go_sem, hE, hH, ↓reduceIte]) | fail)
  all_goals rfl
set_option maxRecDepth 10000 in
theorem l10Own_ok (w : Watch) (h1 : w.Clocks.length ≤ 2 ^ 20) (h2 : w.Given.length ≤ 2 ^ 20) : ACall Try.prog n_spec_l10Own [.agg (Watch.row false w)] (fun r _ => r = .agg (Watch.row true w)) := by
  refine fn_in h_spec_l10Own r_spec_l10Own ⟨by simp only [go_sem, ↓reduceIte], fun E hE hH => ?_⟩; simp only [go_sem, ↓reduceIte] at hE hH; simp only [go_sem, hE, hH, ↓reduceIte, c_spec_l10Own]
  repeat' (first | ((with_reducible (first | refine gd_t (fun h => ?_) (fun h => ?_) | refine gd_f (fun h => ?_) (fun h => ?_))) <;> (have hb := h; (try simp only [decide_eq_true_eq, decide_eq_false_iff_not, Int.not_lt, Int.not_le, ge_iff_le, gt_iff_lt, Bool.not_eq_true', Bool.not_eq_false', beq_iff_eq, bne_iff_ne, beq_eq_false_iff_ne, bne_eq_false_iff_eq, Int.ofNat_lt, Int.ofNat_le] at h); simp (disch := omega) only [go_sem, hE, hH, ↓reduceIte, hb]; (try clear hb))) | ((with_reducible refine And.intro ?_ ?_); · omega) | (with_reducible apply jn) | (with_reducible apply both) | (with_reducible refine And.intro ?_ ?_) | ((with_reducible apply fin_eq); (try (simp (disch := omega) only [go_sem, hE, hH, ↓reduceIte])); first | done | rfl) | (simp (disch := omega) only [go_sem, hE, hH, ↓reduceIte]) | (exact (noMLL_set (by simp only [go_sem, hE, hH, ↓reduceIte]) (by simp only [go_sem, hE, hH, ↓reduceIte])).2 trivial) | (exact (pk_set (by simp only [go_sem, hE, hH, ↓reduceIte]) (by simp only [go_sem, hE, hH, ↓reduceIte])).2 trivial) | (simp only [go_sem, hE, hH, ↓reduceIte]) | fail)
  all_goals try omega
  all_goals rfl
theorem ifWatch_ok (w : Watch) (hw : watchM w) : ACall Try.prog n_impl_ifWatch [.agg (Watch.row true w)] (fun r a => r = .tup [.agg (Watch.row true (ifW w).1), bl (ifW w).2] ∧ a = [.any]) := by
  refine fn_inD [true] h_impl_ifWatch r_impl_ifWatch ⟨by simp only [go_sem, ↓reduceIte], fun E hE hH => ?_⟩; simp only [go_sem, ↓reduceIte] at hE hH; simp only [go_sem, hE, hH, ↓reduceIte, c_impl_ifWatch]
  repeat' (first | ((with_reducible (first | refine gd_t (fun h => ?_) (fun h => ?_) | refine gd_f (fun h => ?_) (fun h => ?_))) <;> (have hb := h; (try simp only [decide_eq_true_eq, decide_eq_false_iff_not, Int.not_lt, Int.not_le, ge_iff_le, gt_iff_lt, Bool.not_eq_true', Bool.not_eq_false', beq_iff_eq, bne_iff_ne, beq_eq_false_iff_ne, bne_eq_false_iff_eq, Int.ofNat_lt, Int.ofNat_le] at h); simp (disch := omega) only [go_sem, hE, hH, ↓reduceIte, hb]; (try clear hb))) | ((with_reducible refine And.intro ?_ ?_); · omega) | (refine ok_view ?_; simp (disch := omega) only [go_sem, hE, hH, ↓reduceIte]) | (refine cvA (GoodWatch_ok w hw) ?_; simp (disch := omega) only [go_sem, hE, hH, ↓reduceIte]) | (refine jn _ ?_ ?_) | (with_reducible refine both ?_ ?_) | (with_reducible refine And.intro ?_ ?_) | (refine fin_eq ?_; (try (simp (disch := omega) only [go_sem, hE, hH, ↓reduceIte])); first | done | rfl) | (simp (disch := omega) only [go_sem, hE, hH, ↓reduceIte]) | (exact (noMLL_set (by simp only [go_sem, hE, hH, ↓reduceIte]) (by simp only [go_sem, hE, hH, ↓reduceIte])).2 trivial) | (exact (pk_set (by simp only [go_sem, hE, hH, ↓reduceIte]) (by simp only [go_sem, hE, hH, ↓reduceIte])).2 trivial) | (simp only [go_sem, hE, hH, ↓reduceIte]) | fail)
  all_goals (simp only [ifW, h]; try rfl)
theorem cspan_ok (c : Clock) (t : Int) (h0 : 0 ≤ t) (h1 : t ≤ 100000) (h2 : -5 ≤ c.Off) (h3 : c.Off ≤ 5) : ACall Try.prog n_impl_Clock_span [.agg (Clock.row false c), i64 t] (fun r _ => r = .agg [i64 (t + c.Off - 5), i64 (t + c.Off + 5)]) := by
  refine fn_in h_impl_Clock_span r_impl_Clock_span ⟨by simp only [go_sem, ↓reduceIte], fun E hE hH => ?_⟩; simp only [go_sem, ↓reduceIte] at hE hH; simp only [go_sem, hE, hH, ↓reduceIte, c_impl_Clock_span]
  repeat' (first | ((with_reducible (first | refine gd_t (fun h => ?_) (fun h => ?_) | refine gd_f (fun h => ?_) (fun h => ?_))) <;> (have hb := h; (try simp only [decide_eq_true_eq, decide_eq_false_iff_not, Int.not_lt, Int.not_le, ge_iff_le, gt_iff_lt, Bool.not_eq_true', Bool.not_eq_false', beq_iff_eq, bne_iff_ne, beq_eq_false_iff_ne, bne_eq_false_iff_eq, Int.ofNat_lt, Int.ofNat_le] at h); simp (disch := omega) only [go_sem, hE, hH, ↓reduceIte, hb]; (try clear hb))) | ((with_reducible refine And.intro ?_ ?_); · omega) | (with_reducible apply jn) | (with_reducible apply both) | (with_reducible refine And.intro ?_ ?_) | ((with_reducible apply fin_eq); (try (simp (disch := omega) only [go_sem, hE, hH, ↓reduceIte])); first | done | rfl) | (simp (disch := omega) only [go_sem, hE, hH, ↓reduceIte]) | (exact (noMLL_set (by simp only [go_sem, hE, hH, ↓reduceIte]) (by simp only [go_sem, hE, hH, ↓reduceIte])).2 trivial) | (exact (pk_set (by simp only [go_sem, hE, hH, ↓reduceIte]) (by simp only [go_sem, hE, hH, ↓reduceIte])).2 trivial) | (simp only [go_sem, hE, hH, ↓reduceIte]) | fail)
theorem wspan_ok (w : Watch) (i : Int) (h : hasW w i = true) : ACall Try.prog n_impl_Watch_span [.agg (Watch.row false w), i64 i] (fun r _ => r = .agg [i64 (lowW w i), i64 (highW w i)]) := by
  have hmx := mx_eq
  obtain ⟨h0, h1, h2, h3, h4⟩ := hasW_at h
  have hk : i.toNat < w.Clocks.length := by omega
  refine fn_in h_impl_Watch_span r_impl_Watch_span ⟨by simp only [go_sem, ↓reduceIte], fun E hE hH => ?_⟩; simp only [go_sem, ↓reduceIte] at hE hH; simp only [go_sem, hE, hH, ↓reduceIte, c_impl_Watch_span]
  repeat' (first | ((with_reducible (first | refine gd_t (fun h => ?_) (fun h => ?_) | refine gd_f (fun h => ?_) (fun h => ?_))) <;> (have hb := h; (try simp only [decide_eq_true_eq, decide_eq_false_iff_not, Int.not_lt, Int.not_le, ge_iff_le, gt_iff_lt, Bool.not_eq_true', Bool.not_eq_false', beq_iff_eq, bne_iff_ne, beq_eq_false_iff_ne, bne_eq_false_iff_eq, Int.ofNat_lt, Int.ofNat_le] at h); simp (disch := omega) only [go_sem, hE, hH, ↓reduceIte, hb]; (try clear hb))) | ((with_reducible refine And.intro ?_ ?_); · omega) | (refine ok_view ?_; simp (disch := omega) only [go_sem, hE, hH, ↓reduceIte]) | (refine cvA (cspan_ok (nth w.Clocks i.toNat) w.True (by omega) (by omega) (by omega) (by omega)) ?_; simp (disch := omega) only [go_sem, hE, hH, ↓reduceIte]) | (with_reducible apply jn) | (with_reducible apply both) | (with_reducible refine And.intro ?_ ?_) | ((with_reducible apply fin_eq); (try (simp (disch := omega) only [go_sem, hE, hH, ↓reduceIte])); first | done | rfl) | (simp (disch := omega) only [go_sem, hE, hH, ↓reduceIte]) | (exact (noMLL_set (by simp only [go_sem, hE, hH, ↓reduceIte]) (by simp only [go_sem, hE, hH, ↓reduceIte])).2 trivial) | (exact (pk_set (by simp only [go_sem, hE, hH, ↓reduceIte]) (by simp only [go_sem, hE, hH, ↓reduceIte])).2 trivial) | (simp only [go_sem, hE, hH, ↓reduceIte]) | fail)
  all_goals try omega
  all_goals rfl
theorem l2At_ok (c : Clock) (t : Int) (h0 : 0 ≤ t) (h1 : t ≤ 100000) (h2 : -5 ≤ c.Off) (h3 : c.Off ≤ 5) : ACall Try.prog n_spec_l2At [.agg (Clock.row false c), i64 t] (fun r _ => r = .agg [i64 (t + c.Off - 5), i64 (t + c.Off + 5)]) := by
  refine fn_in h_spec_l2At r_spec_l2At ⟨by simp only [go_sem, ↓reduceIte], fun E hE hH => ?_⟩; simp only [go_sem, ↓reduceIte] at hE hH; simp only [go_sem, hE, hH, ↓reduceIte, c_spec_l2At]
  repeat' (first | ((with_reducible (first | refine gd_t (fun h => ?_) (fun h => ?_) | refine gd_f (fun h => ?_) (fun h => ?_))) <;> (have hb := h; (try simp only [decide_eq_true_eq, decide_eq_false_iff_not, Int.not_lt, Int.not_le, ge_iff_le, gt_iff_lt, Bool.not_eq_true', Bool.not_eq_false', beq_iff_eq, bne_iff_ne, beq_eq_false_iff_ne, bne_eq_false_iff_eq, Int.ofNat_lt, Int.ofNat_le] at h); simp (disch := omega) only [go_sem, hE, hH, ↓reduceIte, hb]; (try clear hb))) | ((with_reducible refine And.intro ?_ ?_); · omega) | (with_reducible apply jn) | (with_reducible apply both) | (with_reducible refine And.intro ?_ ?_) | ((with_reducible apply fin_eq); (try (simp (disch := omega) only [go_sem, hE, hH, ↓reduceIte])); first | done | rfl) | (simp (disch := omega) only [go_sem, hE, hH, ↓reduceIte]) | (exact (noMLL_set (by simp only [go_sem, hE, hH, ↓reduceIte]) (by simp only [go_sem, hE, hH, ↓reduceIte])).2 trivial) | (exact (pk_set (by simp only [go_sem, hE, hH, ↓reduceIte]) (by simp only [go_sem, hE, hH, ↓reduceIte])).2 trivial) | (simp only [go_sem, hE, hH, ↓reduceIte]) | fail)
theorem l10Span_ok (w : Watch) (i : Int) (h : hasW w i = true) : ACall Try.prog n_spec_l10Span [.agg (Watch.row false w), i64 i] (fun r _ => r = .agg [i64 (lowW w i), i64 (highW w i)]) := by
  have hmx := mx_eq
  obtain ⟨h0, h1, h2, h3, h4⟩ := hasW_at h
  have hk : i.toNat < w.Clocks.length := by omega
  refine fn_in h_spec_l10Span r_spec_l10Span ⟨by simp only [go_sem, ↓reduceIte], fun E hE hH => ?_⟩; simp only [go_sem, ↓reduceIte] at hE hH; simp only [go_sem, hE, hH, ↓reduceIte, c_spec_l10Span]
  repeat' (first | ((with_reducible (first | refine gd_t (fun h => ?_) (fun h => ?_) | refine gd_f (fun h => ?_) (fun h => ?_))) <;> (have hb := h; (try simp only [decide_eq_true_eq, decide_eq_false_iff_not, Int.not_lt, Int.not_le, ge_iff_le, gt_iff_lt, Bool.not_eq_true', Bool.not_eq_false', beq_iff_eq, bne_iff_ne, beq_eq_false_iff_ne, bne_eq_false_iff_eq, Int.ofNat_lt, Int.ofNat_le] at h); simp (disch := omega) only [go_sem, hE, hH, ↓reduceIte, hb]; (try clear hb))) | ((with_reducible refine And.intro ?_ ?_); · omega) | (refine ok_view ?_; simp (disch := omega) only [go_sem, hE, hH, ↓reduceIte]) | (refine cvA (l2At_ok (nth w.Clocks i.toNat) w.True (by omega) (by omega) (by omega) (by omega)) ?_; simp (disch := omega) only [go_sem, hE, hH, ↓reduceIte]) | (with_reducible apply jn) | (with_reducible apply both) | (with_reducible refine And.intro ?_ ?_) | ((with_reducible apply fin_eq); (try (simp (disch := omega) only [go_sem, hE, hH, ↓reduceIte])); first | done | rfl) | (simp (disch := omega) only [go_sem, hE, hH, ↓reduceIte]) | (exact (noMLL_set (by simp only [go_sem, hE, hH, ↓reduceIte]) (by simp only [go_sem, hE, hH, ↓reduceIte])).2 trivial) | (exact (pk_set (by simp only [go_sem, hE, hH, ↓reduceIte]) (by simp only [go_sem, hE, hH, ↓reduceIte])).2 trivial) | (simp only [go_sem, hE, hH, ↓reduceIte]) | fail)
  all_goals try omega
  all_goals rfl
theorem l10Good_ok (w : Watch) (hw : watchM w) : ACall Try.prog n_spec_l10Good [.agg (Watch.row false w)] (fun r _ => r = bl (watchOk w)) := by
  have hmx := mx_eq
  obtain ⟨h1, h2⟩ := hw
  refine fn_in h_spec_l10Good r_spec_l10Good ⟨by simp only [go_sem, ↓reduceIte], fun E hE hH => ?_⟩; simp only [go_sem, ↓reduceIte] at hE hH; simp only [go_sem, hE, hH, ↓reduceIte, c_spec_l10Good]
  repeat' (first | ((with_reducible (first | refine gd_t (fun h => ?_) (fun h => ?_) | refine gd_f (fun h => ?_) (fun h => ?_))) <;> (have hb := h; (try simp only [decide_eq_true_eq, decide_eq_false_iff_not, Int.not_lt, Int.not_le, ge_iff_le, gt_iff_lt, Bool.not_eq_true', Bool.not_eq_false', beq_iff_eq, bne_iff_ne, beq_eq_false_iff_ne, bne_eq_false_iff_eq, Int.ofNat_lt, Int.ofNat_le] at h); simp (disch := omega) only [go_sem, hE, hH, ↓reduceIte, hb]; (try clear hb))) | ((with_reducible refine And.intro ?_ ?_); · omega) | (refine ok_view ?_; simp (disch := omega) only [go_sem, hE, hH, ↓reduceIte]) | (refine cvA (l1In_ok _ _ _) ?_; simp (disch := omega) only [go_sem, hE, hH, ↓reduceIte]) | (with_reducible apply jn) | (with_reducible apply both) | (with_reducible refine And.intro ?_ ?_) | ((with_reducible apply fin_eq); (try (simp (disch := omega) only [go_sem, hE, hH, ↓reduceIte])); first | done | rfl) | (simp (disch := omega) only [go_sem, hE, hH, ↓reduceIte]) | (exact (noMLL_set (by simp only [go_sem, hE, hH, ↓reduceIte]) (by simp only [go_sem, hE, hH, ↓reduceIte])).2 trivial) | (exact (pk_set (by simp only [go_sem, hE, hH, ↓reduceIte]) (by simp only [go_sem, hE, hH, ↓reduceIte])).2 trivial) | (simp only [go_sem, hE, hH, ↓reduceIte]) | fail)
  · simp [watchOk, h]
  · simp [watchOk, clksOk, h]
  · rw [watchOk, decide_eq_false (show ¬ ((w.Given.length : Int) ≤ 40) by omega)]; simp
  rename_i ha hb
  refine loopN w.Clocks.length (fun j (_ : Unit) => ⟨[(1, .ptr 2000000 0 0), (3, i64 j)], [(2000000, ⟨3, [Watch.row false w]⟩)]⟩) (fun j _ => allN (fun i => clkOk (nth w.Clocks i)) j = true) () rfl ?_
  intro j _ hj hI
  try simp only [go_sem, hE, hH, ↓reduceIte, c_spec_l10Good_l1]
  first | refine gd_t (fun h5 => ?_) (fun h5 => ?_) | refine gd_f (fun h5 => ?_) (fun h5 => ?_)
  · have hb5 := h5
    simp only [decide_eq_true_eq, decide_eq_false_iff_not, Int.not_lt, Int.not_le, ge_iff_le, gt_iff_lt, Bool.not_eq_true', Bool.not_eq_false', beq_iff_eq, bne_iff_ne, beq_eq_false_iff_ne, bne_eq_false_iff_eq, Int.ofNat_lt, Int.ofNat_le] at h5
    have hlt := h5; clear h5
    try simp (disch := omega) only [go_sem, hE, hH, ↓reduceIte, hb5]
    repeat' (first | ((with_reducible (first | refine gd_t (fun h => ?_) (fun h => ?_) | refine gd_f (fun h => ?_) (fun h => ?_))) <;> (have hb := h; (try simp only [decide_eq_true_eq, decide_eq_false_iff_not, Int.not_lt, Int.not_le, ge_iff_le, gt_iff_lt, Bool.not_eq_true', Bool.not_eq_false', beq_iff_eq, bne_iff_ne, beq_eq_false_iff_ne, bne_eq_false_iff_eq, Int.ofNat_lt, Int.ofNat_le] at h); simp (disch := omega) only [go_sem, hE, hH, ↓reduceIte, hb]; (try clear hb))) | ((with_reducible refine And.intro ?_ ?_); · omega) | (refine ok_view ?_; simp (disch := omega) only [go_sem, hE, hH, ↓reduceIte]) | (refine cvA (l2Clock_ok (nth w.Clocks j)) ?_; simp (disch := omega) only [go_sem, hE, hH, ↓reduceIte]) | (with_reducible apply jn) | (with_reducible apply both) | (with_reducible refine And.intro ?_ ?_) | ((with_reducible apply fin_eq); (try (simp (disch := omega) only [go_sem, hE, hH, ↓reduceIte])); first | done | rfl) | (simp (disch := omega) only [go_sem, hE, hH, ↓reduceIte]) | (exact (noMLL_set (by simp only [go_sem, hE, hH, ↓reduceIte]) (by simp only [go_sem, hE, hH, ↓reduceIte])).2 trivial) | (exact (pk_set (by simp only [go_sem, hE, hH, ↓reduceIte]) (by simp only [go_sem, hE, hH, ↓reduceIte])).2 trivial) | (simp only [go_sem, hE, hH, ↓reduceIte]) | fail)
    · have : w.Clocks.all clkOk = false := by rw [← allN_all]; exact allN_no hlt h
      simp [watchOk, clksOk, this]
    · first | exact ⟨(), rfl, allN_step hI (by simp [h])⟩ | exact ⟨by omega, (), rfl, allN_step hI (by simp [h])⟩ | exact ⟨by omega, by omega, (), rfl, allN_step hI (by simp [h])⟩
  · try simp (disch := omega) only [go_sem, hE, hH, ↓reduceIte, h5]
    simp only [decide_eq_true_eq, decide_eq_false_iff_not, Int.not_lt, Int.not_le, ge_iff_le, gt_iff_lt, Bool.not_eq_true', Bool.not_eq_false', beq_iff_eq, bne_iff_ne, beq_eq_false_iff_ne, bne_eq_false_iff_eq, Int.ofNat_lt, Int.ofNat_le] at h5
    rw [show j = w.Clocks.length by omega, allN_all] at hI
    have hc : clksOk w.Clocks = true := by simp [clksOk, hb, hI]
    refine loopN w.Given.length (fun j (_ : Unit) => ⟨[(1, .ptr 2000000 0 0), (4, i64 j)], [(2000000, ⟨3, [Watch.row false w]⟩)]⟩) (fun j _ => allN (fun i => leaseOk w.Clocks.length (nth w.Given i)) j = true) () rfl ?_
    intro j _ hj hI2
    try simp only [go_sem, hE, hH, ↓reduceIte, c_spec_l10Good_l2]
    first | refine gd_t (fun h6 => ?_) (fun h6 => ?_) | refine gd_f (fun h6 => ?_) (fun h6 => ?_)
    · have hb6 := h6
      simp only [decide_eq_true_eq, decide_eq_false_iff_not, Int.not_lt, Int.not_le, ge_iff_le, gt_iff_lt, Bool.not_eq_true', Bool.not_eq_false', beq_iff_eq, bne_iff_ne, beq_eq_false_iff_ne, bne_eq_false_iff_eq, Int.ofNat_lt, Int.ofNat_le] at h6
      have hlt := h6; clear h6
      try simp (disch := omega) only [go_sem, hE, hH, ↓reduceIte, hb6]
      have hbad : leaseOk w.Clocks.length (nth w.Given j) = false → watchOk w = false := fun hh => by
        have : w.Given.all (leaseOk w.Clocks.length) = false := by rw [← allN_all]; exact allN_no hlt hh
        simp [watchOk, this]
      repeat' (first | ((with_reducible (first | refine gd_t (fun h => ?_) (fun h => ?_) | refine gd_f (fun h => ?_) (fun h => ?_))) <;> (have hb := h; (try simp only [decide_eq_true_eq, decide_eq_false_iff_not, Int.not_lt, Int.not_le, ge_iff_le, gt_iff_lt, Bool.not_eq_true', Bool.not_eq_false', beq_iff_eq, bne_iff_ne, beq_eq_false_iff_ne, bne_eq_false_iff_eq, Int.ofNat_lt, Int.ofNat_le] at h); simp (disch := omega) only [go_sem, hE, hH, ↓reduceIte, hb]; (try clear hb))) | ((with_reducible refine And.intro ?_ ?_); · omega) | (refine ok_view ?_; simp (disch := omega) only [go_sem, hE, hH, ↓reduceIte]) | (refine cvA (l1In_ok _ _ _) ?_; simp (disch := omega) only [go_sem, hE, hH, ↓reduceIte]) | (with_reducible apply jn) | (with_reducible apply both) | (with_reducible refine And.intro ?_ ?_) | ((with_reducible apply fin_eq); (try (simp (disch := omega) only [go_sem, hE, hH, ↓reduceIte])); first | done | rfl) | (simp (disch := omega) only [go_sem, hE, hH, ↓reduceIte]) | (exact (noMLL_set (by simp only [go_sem, hE, hH, ↓reduceIte]) (by simp only [go_sem, hE, hH, ↓reduceIte])).2 trivial) | (exact (pk_set (by simp only [go_sem, hE, hH, ↓reduceIte]) (by simp only [go_sem, hE, hH, ↓reduceIte])).2 trivial) | (simp only [go_sem, hE, hH, ↓reduceIte]) | fail)
      all_goals (first | (rw [hbad (by simp [leaseOk, h])]; done) | skip)
      first | exact ⟨(), rfl, allN_step hI2 (by simp_all [leaseOk])⟩ | exact ⟨by omega, (), rfl, allN_step hI2 (by simp_all [leaseOk])⟩ | exact ⟨by omega, by omega, (), rfl, allN_step hI2 (by simp_all [leaseOk])⟩
    · try simp (disch := omega) only [go_sem, hE, hH, ↓reduceIte, h6]
      simp only [decide_eq_true_eq, decide_eq_false_iff_not, Int.not_lt, Int.not_le, ge_iff_le, gt_iff_lt, Bool.not_eq_true', Bool.not_eq_false', beq_iff_eq, bne_iff_ne, beq_eq_false_iff_ne, bne_eq_false_iff_eq, Int.ofNat_lt, Int.ofNat_le] at h6
      rw [show j = w.Given.length by omega, allN_all] at hI2
      have hd : decide ((w.Given.length : Int) ≤ 40) = true := decide_eq_true (by omega)
      simp [watchOk, ha, hc, hd, hI2]
theorem l10If_ok (w : Watch) (hw : watchM w) : ACall Try.prog n_spec_l10If [.agg (Watch.row true w)] (fun r a => r = .tup [.agg (Watch.row true (ifW w).1), bl (ifW w).2] ∧ a = [.any]) := by
  refine fn_inD [true] h_spec_l10If r_spec_l10If ⟨by simp only [go_sem, ↓reduceIte], fun E hE hH => ?_⟩; simp only [go_sem, ↓reduceIte] at hE hH; simp only [go_sem, hE, hH, ↓reduceIte, c_spec_l10If]
  repeat' (first | ((with_reducible (first | refine gd_t (fun h => ?_) (fun h => ?_) | refine gd_f (fun h => ?_) (fun h => ?_))) <;> (have hb := h; (try simp only [decide_eq_true_eq, decide_eq_false_iff_not, Int.not_lt, Int.not_le, ge_iff_le, gt_iff_lt, Bool.not_eq_true', Bool.not_eq_false', beq_iff_eq, bne_iff_ne, beq_eq_false_iff_ne, bne_eq_false_iff_eq, Int.ofNat_lt, Int.ofNat_le] at h); simp (disch := omega) only [go_sem, hE, hH, ↓reduceIte, hb]; (try clear hb))) | ((with_reducible refine And.intro ?_ ?_); · omega) | (refine ok_view ?_; simp (disch := omega) only [go_sem, hE, hH, ↓reduceIte]) | (refine cvA (l10Good_ok w hw) ?_; simp (disch := omega) only [go_sem, hE, hH, ↓reduceIte]) | (refine jn _ ?_ ?_) | (with_reducible refine both ?_ ?_) | (with_reducible refine And.intro ?_ ?_) | (refine fin_eq ?_; (try (simp (disch := omega) only [go_sem, hE, hH, ↓reduceIte])); first | done | rfl) | (simp (disch := omega) only [go_sem, hE, hH, ↓reduceIte]) | (exact (noMLL_set (by simp only [go_sem, hE, hH, ↓reduceIte]) (by simp only [go_sem, hE, hH, ↓reduceIte])).2 trivial) | (exact (pk_set (by simp only [go_sem, hE, hH, ↓reduceIte]) (by simp only [go_sem, hE, hH, ↓reduceIte])).2 trivial) | (simp only [go_sem, hE, hH, ↓reduceIte]) | fail)
  all_goals (simp only [ifW, h]; try rfl)
theorem l10Has_ok (w : Watch) (i : Int) (hw : watchM w) : ACall Try.prog n_spec_l10Has [.agg (Watch.row false w), i64 i] (fun r _ => r = bl (hasW w i)) := by
  have hmx := mx_eq
  have h1 := hw.1
  refine fn_in h_spec_l10Has r_spec_l10Has ⟨by simp only [go_sem, ↓reduceIte], fun E hE hH => ?_⟩; simp only [go_sem, ↓reduceIte] at hE hH; simp only [go_sem, hE, hH, ↓reduceIte, c_spec_l10Has]
  repeat' (first | ((with_reducible (first | refine gd_t (fun h => ?_) (fun h => ?_) | refine gd_f (fun h => ?_) (fun h => ?_))) <;> (have hb := h; (try simp only [decide_eq_true_eq, decide_eq_false_iff_not, Int.not_lt, Int.not_le, ge_iff_le, gt_iff_lt, Bool.not_eq_true', Bool.not_eq_false', beq_iff_eq, bne_iff_ne, beq_eq_false_iff_ne, bne_eq_false_iff_eq, Int.ofNat_lt, Int.ofNat_le] at h); simp (disch := omega) only [go_sem, hE, hH, ↓reduceIte, hb]; (try clear hb))) | ((with_reducible refine And.intro ?_ ?_); · omega) | (refine ok_view ?_; simp (disch := omega) only [go_sem, hE, hH, ↓reduceIte]) | (refine cvA (l10Good_ok w hw) ?_; simp (disch := omega) only [go_sem, hE, hH, ↓reduceIte]) | (refine cvA (l1In_ok _ _ _) ?_; simp (disch := omega) only [go_sem, hE, hH, ↓reduceIte]) | (refine jn _ ?_ ?_) | (with_reducible refine both ?_ ?_) | (with_reducible refine And.intro ?_ ?_) | (refine fin_eq ?_; (try (simp (disch := omega) only [go_sem, hE, hH, ↓reduceIte])); first | done | rfl) | (simp (disch := omega) only [go_sem, hE, hH, ↓reduceIte]) | (exact (noMLL_set (by simp only [go_sem, hE, hH, ↓reduceIte]) (by simp only [go_sem, hE, hH, ↓reduceIte])).2 trivial) | (exact (pk_set (by simp only [go_sem, hE, hH, ↓reduceIte]) (by simp only [go_sem, hE, hH, ↓reduceIte])).2 trivial) | (simp only [go_sem, hE, hH, ↓reduceIte]) | fail)
  all_goals simp [hasW, h]
def passW (w : Watch) (b : Int) : Watch × Bool := if watchOk w && rng b 0 100000 then ifW ⟨w.True + b, w.Clocks, w.Given⟩ else (zeroW, false)
def driftV (w : Watch) (i o : Int) : Watch := ⟨w.True, w.Clocks.set i.toNat ⟨o⟩, w.Given⟩
def driftW (w : Watch) (i o : Int) : Watch × Bool := if hasW w i && rng o (-5) 5 then (driftV w i o, true) else (zeroW, false)
theorem mem_set_or {α : Type} {l : List α} {k : Nat} {x y : α} (h : y ∈ l.set k x) : y ∈ l ∨ y = x := List.mem_or_eq_of_mem_set h
theorem driftV_ok {w : Watch} {i o : Int} (h : hasW w i = true) : watchOk (driftV w i o) = rng o (-5) 5 := by
  obtain ⟨h0, h1, h2, _, _⟩ := hasW_at h
  have hk : i.toNat < w.Clocks.length := by omega
  have e1 : (driftV w i o).Given = w.Given := rfl
  have e2 : (driftV w i o).True = w.True := rfl
  have e3 : (driftV w i o).Clocks = w.Clocks.set i.toNat ⟨o⟩ := rfl
  have g := h0
  simp only [watchOk, clksOk, Bool.and_eq_true] at g
  obtain ⟨⟨⟨g1, g2, g3⟩, g4⟩, g5⟩ := g
  have hc : (w.Clocks.set i.toNat ⟨o⟩).all clkOk = rng o (-5) 5 := by
    rw [Bool.eq_iff_iff, List.all_eq_true]
    constructor
    · intro hh
      exact hh ⟨o⟩ (List.mem_set hk _)
    · intro hh x hx
      rcases mem_set_or hx with hx | rfl
      · exact (List.all_eq_true.1 g3) x hx
      · exact hh
  simp only [watchOk, clksOk, e1, e2, e3, List.length_set, g1, g2, g4, g5, hc, Bool.true_and, Bool.and_true]
theorem PassTime_ok (w : Watch) (b : Int) (hw : watchM w) : ACall Try.prog n_impl_PassTime [.agg (Watch.row false w), i64 b] (fun r _ => r = .tup [.agg (Watch.row true (passW w b).1), bl (passW w b).2]) := by
  have hmx := mx_eq
  have i1 := GoodWatch_ok w hw
  have i2 := isTrue_ok b
  cases h1 : watchOk w with
  | false =>
    rw [h1] at i1
    have e : passW w b = (zeroW, false) := by simp [passW, h1]
    refine fn_in h_impl_PassTime r_impl_PassTime ⟨by simp only [go_sem, ↓reduceIte], fun E hE hH => ?_⟩; simp only [go_sem, ↓reduceIte] at hE hH; simp only [go_sem, hE, hH, ↓reduceIte, c_impl_PassTime]
    repeat' (first | ((with_reducible (first | refine gd_t (fun h => ?_) (fun h => ?_) | refine gd_f (fun h => ?_) (fun h => ?_))) <;> (have hb := h; (try simp only [decide_eq_true_eq, decide_eq_false_iff_not, Int.not_lt, Int.not_le, ge_iff_le, gt_iff_lt, Bool.not_eq_true', Bool.not_eq_false', beq_iff_eq, bne_iff_ne, beq_eq_false_iff_ne, bne_eq_false_iff_eq, Int.ofNat_lt, Int.ofNat_le] at h); simp (disch := omega) only [go_sem, hE, hH, ↓reduceIte, hb]; (try clear hb))) | ((with_reducible refine And.intro ?_ ?_); · omega) | (refine ok_view ?_; simp (disch := omega) only [go_sem, hE, hH, ↓reduceIte]) | (refine cvA (i1) ?_; simp (disch := omega) only [go_sem, hE, hH, ↓reduceIte]) | (with_reducible apply jn) | (with_reducible apply both) | (with_reducible refine And.intro ?_ ?_) | ((with_reducible apply fin_eq); (try (simp (disch := omega) only [go_sem, hE, hH, ↓reduceIte])); first | done | rfl) | (simp (disch := omega) only [go_sem, hE, hH, ↓reduceIte]) | (exact (noMLL_set (by simp only [go_sem, hE, hH, ↓reduceIte]) (by simp only [go_sem, hE, hH, ↓reduceIte])).2 trivial) | (exact (pk_set (by simp only [go_sem, hE, hH, ↓reduceIte]) (by simp only [go_sem, hE, hH, ↓reduceIte])).2 trivial) | (simp only [go_sem, hE, hH, ↓reduceIte]) | fail)
    all_goals (rw [e]; try rfl)
  | true =>
    rw [h1] at i1
    obtain ⟨a1, a2, a3, a4, a5⟩ := watchOk_len h1
    cases h2 : rng b 0 100000 with
    | false =>
      rw [h2] at i2
      have e : passW w b = (zeroW, false) := by simp [passW, h2]
      refine fn_in h_impl_PassTime r_impl_PassTime ⟨by simp only [go_sem, ↓reduceIte], fun E hE hH => ?_⟩; simp only [go_sem, ↓reduceIte] at hE hH; simp only [go_sem, hE, hH, ↓reduceIte, c_impl_PassTime]
      repeat' (first | ((with_reducible (first | refine gd_t (fun h => ?_) (fun h => ?_) | refine gd_f (fun h => ?_) (fun h => ?_))) <;> (have hb := h; (try simp only [decide_eq_true_eq, decide_eq_false_iff_not, Int.not_lt, Int.not_le, ge_iff_le, gt_iff_lt, Bool.not_eq_true', Bool.not_eq_false', beq_iff_eq, bne_iff_ne, beq_eq_false_iff_ne, bne_eq_false_iff_eq, Int.ofNat_lt, Int.ofNat_le] at h); simp (disch := omega) only [go_sem, hE, hH, ↓reduceIte, hb]; (try clear hb))) | ((with_reducible refine And.intro ?_ ?_); · omega) | (refine ok_view ?_; simp (disch := omega) only [go_sem, hE, hH, ↓reduceIte]) | (refine cvA (i1) ?_; simp (disch := omega) only [go_sem, hE, hH, ↓reduceIte]) | (refine cvA (i2) ?_; simp (disch := omega) only [go_sem, hE, hH, ↓reduceIte]) | (with_reducible apply jn) | (with_reducible apply both) | (with_reducible refine And.intro ?_ ?_) | ((with_reducible apply fin_eq); (try (simp (disch := omega) only [go_sem, hE, hH, ↓reduceIte])); first | done | rfl) | (simp (disch := omega) only [go_sem, hE, hH, ↓reduceIte]) | (exact (noMLL_set (by simp only [go_sem, hE, hH, ↓reduceIte]) (by simp only [go_sem, hE, hH, ↓reduceIte])).2 trivial) | (exact (pk_set (by simp only [go_sem, hE, hH, ↓reduceIte]) (by simp only [go_sem, hE, hH, ↓reduceIte])).2 trivial) | (simp only [go_sem, hE, hH, ↓reduceIte]) | fail)
      all_goals (rw [e]; try rfl)
    | true =>
      rw [h2] at i2
      have h2' := rng_iff.1 h2
      have e : passW w b = ifW ⟨w.True + b, w.Clocks, w.Given⟩ := by simp [passW, h1, h2]
      refine fn_in h_impl_PassTime r_impl_PassTime ⟨by simp only [go_sem, ↓reduceIte], fun E hE hH => ?_⟩; simp only [go_sem, ↓reduceIte] at hE hH; simp only [go_sem, hE, hH, ↓reduceIte, c_impl_PassTime]
      repeat' (first | ((with_reducible (first | refine gd_t (fun h => ?_) (fun h => ?_) | refine gd_f (fun h => ?_) (fun h => ?_))) <;> (have hb := h; (try simp only [decide_eq_true_eq, decide_eq_false_iff_not, Int.not_lt, Int.not_le, ge_iff_le, gt_iff_lt, Bool.not_eq_true', Bool.not_eq_false', beq_iff_eq, bne_iff_ne, beq_eq_false_iff_ne, bne_eq_false_iff_eq, Int.ofNat_lt, Int.ofNat_le] at h); simp (disch := omega) only [go_sem, hE, hH, ↓reduceIte, hb]; (try clear hb))) | ((with_reducible refine And.intro ?_ ?_); · omega) | (refine ok_lend [true] ?_; simp (disch := omega) only [go_sem, hE, hH, ↓reduceIte]; refine cmA (ifWatch_ok ⟨w.True + b, w.Clocks, w.Given⟩ hw) ?_; simp (disch := omega) only [go_sem, hE, hH, ↓reduceIte]) | (refine ok_view ?_; simp (disch := omega) only [go_sem, hE, hH, ↓reduceIte]) | (refine cvA (i1) ?_; simp (disch := omega) only [go_sem, hE, hH, ↓reduceIte]) | (refine cvA (i2) ?_; simp (disch := omega) only [go_sem, hE, hH, ↓reduceIte]) | (refine cvA (copyWatch_ok w (by omega) (by omega)) ?_; simp (disch := omega) only [go_sem, hE, hH, ↓reduceIte]) | (with_reducible apply jn) | (with_reducible apply both) | (with_reducible refine And.intro ?_ ?_) | ((with_reducible apply fin_eq); (try (simp (disch := omega) only [go_sem, hE, hH, ↓reduceIte])); first | done | rfl) | (simp (disch := omega) only [go_sem, hE, hH, ↓reduceIte]) | (exact (noMLL_set (by simp only [go_sem, hE, hH, ↓reduceIte]) (by simp only [go_sem, hE, hH, ↓reduceIte])).2 trivial) | (exact (pk_set (by simp only [go_sem, hE, hH, ↓reduceIte]) (by simp only [go_sem, hE, hH, ↓reduceIte])).2 trivial) | (simp only [go_sem, hE, hH, ↓reduceIte]) | fail)
      all_goals try omega
      all_goals (rw [e]; try rfl)
theorem sPassTime_ok (w : Watch) (b : Int) (hw : watchM w) : ACall Try.prog n_spec_PassTime [.agg (Watch.row false w), i64 b] (fun r _ => r = .tup [.agg (Watch.row true (passW w b).1), bl (passW w b).2]) := by
  have hmx := mx_eq
  have i1 := l10Good_ok w hw
  have i2 := l1In_ok b 0 100000
  cases h1 : watchOk w with
  | false =>
    rw [h1] at i1
    have e : passW w b = (zeroW, false) := by simp [passW, h1]
    refine fn_in h_spec_PassTime r_spec_PassTime ⟨by simp only [go_sem, ↓reduceIte], fun E hE hH => ?_⟩; simp only [go_sem, ↓reduceIte] at hE hH; simp only [go_sem, hE, hH, ↓reduceIte, c_spec_PassTime]
    repeat' (first | ((with_reducible (first | refine gd_t (fun h => ?_) (fun h => ?_) | refine gd_f (fun h => ?_) (fun h => ?_))) <;> (have hb := h; (try simp only [decide_eq_true_eq, decide_eq_false_iff_not, Int.not_lt, Int.not_le, ge_iff_le, gt_iff_lt, Bool.not_eq_true', Bool.not_eq_false', beq_iff_eq, bne_iff_ne, beq_eq_false_iff_ne, bne_eq_false_iff_eq, Int.ofNat_lt, Int.ofNat_le] at h); simp (disch := omega) only [go_sem, hE, hH, ↓reduceIte, hb]; (try clear hb))) | ((with_reducible refine And.intro ?_ ?_); · omega) | (refine ok_view ?_; simp (disch := omega) only [go_sem, hE, hH, ↓reduceIte]) | (refine cvA (i1) ?_; simp (disch := omega) only [go_sem, hE, hH, ↓reduceIte]) | (with_reducible apply jn) | (with_reducible apply both) | (with_reducible refine And.intro ?_ ?_) | ((with_reducible apply fin_eq); (try (simp (disch := omega) only [go_sem, hE, hH, ↓reduceIte])); first | done | rfl) | (simp (disch := omega) only [go_sem, hE, hH, ↓reduceIte]) | (exact (noMLL_set (by simp only [go_sem, hE, hH, ↓reduceIte]) (by simp only [go_sem, hE, hH, ↓reduceIte])).2 trivial) | (exact (pk_set (by simp only [go_sem, hE, hH, ↓reduceIte]) (by simp only [go_sem, hE, hH, ↓reduceIte])).2 trivial) | (simp only [go_sem, hE, hH, ↓reduceIte]) | fail)
    all_goals (rw [e]; try rfl)
  | true =>
    rw [h1] at i1
    obtain ⟨a1, a2, a3, a4, a5⟩ := watchOk_len h1
    cases h2 : rng b 0 100000 with
    | false =>
      rw [h2] at i2
      have e : passW w b = (zeroW, false) := by simp [passW, h2]
      refine fn_in h_spec_PassTime r_spec_PassTime ⟨by simp only [go_sem, ↓reduceIte], fun E hE hH => ?_⟩; simp only [go_sem, ↓reduceIte] at hE hH; simp only [go_sem, hE, hH, ↓reduceIte, c_spec_PassTime]
      repeat' (first | ((with_reducible (first | refine gd_t (fun h => ?_) (fun h => ?_) | refine gd_f (fun h => ?_) (fun h => ?_))) <;> (have hb := h; (try simp only [decide_eq_true_eq, decide_eq_false_iff_not, Int.not_lt, Int.not_le, ge_iff_le, gt_iff_lt, Bool.not_eq_true', Bool.not_eq_false', beq_iff_eq, bne_iff_ne, beq_eq_false_iff_ne, bne_eq_false_iff_eq, Int.ofNat_lt, Int.ofNat_le] at h); simp (disch := omega) only [go_sem, hE, hH, ↓reduceIte, hb]; (try clear hb))) | ((with_reducible refine And.intro ?_ ?_); · omega) | (refine ok_view ?_; simp (disch := omega) only [go_sem, hE, hH, ↓reduceIte]) | (refine cvA (i1) ?_; simp (disch := omega) only [go_sem, hE, hH, ↓reduceIte]) | (refine cvA (i2) ?_; simp (disch := omega) only [go_sem, hE, hH, ↓reduceIte]) | (with_reducible apply jn) | (with_reducible apply both) | (with_reducible refine And.intro ?_ ?_) | ((with_reducible apply fin_eq); (try (simp (disch := omega) only [go_sem, hE, hH, ↓reduceIte])); first | done | rfl) | (simp (disch := omega) only [go_sem, hE, hH, ↓reduceIte]) | (exact (noMLL_set (by simp only [go_sem, hE, hH, ↓reduceIte]) (by simp only [go_sem, hE, hH, ↓reduceIte])).2 trivial) | (exact (pk_set (by simp only [go_sem, hE, hH, ↓reduceIte]) (by simp only [go_sem, hE, hH, ↓reduceIte])).2 trivial) | (simp only [go_sem, hE, hH, ↓reduceIte]) | fail)
      all_goals (rw [e]; try rfl)
    | true =>
      rw [h2] at i2
      have h2' := rng_iff.1 h2
      have e : passW w b = ifW ⟨w.True + b, w.Clocks, w.Given⟩ := by simp [passW, h1, h2]
      refine fn_in h_spec_PassTime r_spec_PassTime ⟨by simp only [go_sem, ↓reduceIte], fun E hE hH => ?_⟩; simp only [go_sem, ↓reduceIte] at hE hH; simp only [go_sem, hE, hH, ↓reduceIte, c_spec_PassTime]
      repeat' (first | ((with_reducible (first | refine gd_t (fun h => ?_) (fun h => ?_) | refine gd_f (fun h => ?_) (fun h => ?_))) <;> (have hb := h; (try simp only [decide_eq_true_eq, decide_eq_false_iff_not, Int.not_lt, Int.not_le, ge_iff_le, gt_iff_lt, Bool.not_eq_true', Bool.not_eq_false', beq_iff_eq, bne_iff_ne, beq_eq_false_iff_ne, bne_eq_false_iff_eq, Int.ofNat_lt, Int.ofNat_le] at h); simp (disch := omega) only [go_sem, hE, hH, ↓reduceIte, hb]; (try clear hb))) | ((with_reducible refine And.intro ?_ ?_); · omega) | (refine ok_lend [true] ?_; simp (disch := omega) only [go_sem, hE, hH, ↓reduceIte]; refine cmA (l10If_ok ⟨w.True + b, w.Clocks, w.Given⟩ hw) ?_; simp (disch := omega) only [go_sem, hE, hH, ↓reduceIte]) | (refine ok_view ?_; simp (disch := omega) only [go_sem, hE, hH, ↓reduceIte]) | (refine cvA (i1) ?_; simp (disch := omega) only [go_sem, hE, hH, ↓reduceIte]) | (refine cvA (i2) ?_; simp (disch := omega) only [go_sem, hE, hH, ↓reduceIte]) | (refine cvA (l10Own_ok w (by omega) (by omega)) ?_; simp (disch := omega) only [go_sem, hE, hH, ↓reduceIte]) | (with_reducible apply jn) | (with_reducible apply both) | (with_reducible refine And.intro ?_ ?_) | ((with_reducible apply fin_eq); (try (simp (disch := omega) only [go_sem, hE, hH, ↓reduceIte])); first | done | rfl) | (simp (disch := omega) only [go_sem, hE, hH, ↓reduceIte]) | (exact (noMLL_set (by simp only [go_sem, hE, hH, ↓reduceIte]) (by simp only [go_sem, hE, hH, ↓reduceIte])).2 trivial) | (exact (pk_set (by simp only [go_sem, hE, hH, ↓reduceIte]) (by simp only [go_sem, hE, hH, ↓reduceIte])).2 trivial) | (simp only [go_sem, hE, hH, ↓reduceIte]) | fail)
      all_goals try omega
      all_goals (rw [e]; try rfl)
theorem sDriftTo_ok (w : Watch) (i o : Int) (hw : watchM w) : ACall Try.prog n_spec_DriftTo [.agg (Watch.row false w), i64 i, i64 o] (fun r _ => r = .tup [.agg (Watch.row true (driftW w i o).1), bl (driftW w i o).2]) := by
  have hmx := mx_eq
  have i1 := l10Has_ok w i hw
  have i2 := l1In_ok o (-5) 5
  cases h1 : hasW w i with
  | false =>
    rw [h1] at i1
    have e : driftW w i o = (zeroW, false) := by simp [driftW, h1]
    refine fn_in h_spec_DriftTo r_spec_DriftTo ⟨by simp only [go_sem, ↓reduceIte], fun E hE hH => ?_⟩; simp only [go_sem, ↓reduceIte] at hE hH; simp only [go_sem, hE, hH, ↓reduceIte, c_spec_DriftTo]
    repeat' (first | ((with_reducible (first | refine gd_t (fun h => ?_) (fun h => ?_) | refine gd_f (fun h => ?_) (fun h => ?_))) <;> (have hb := h; (try simp only [decide_eq_true_eq, decide_eq_false_iff_not, Int.not_lt, Int.not_le, ge_iff_le, gt_iff_lt, Bool.not_eq_true', Bool.not_eq_false', beq_iff_eq, bne_iff_ne, beq_eq_false_iff_ne, bne_eq_false_iff_eq, Int.ofNat_lt, Int.ofNat_le] at h); simp (disch := omega) only [go_sem, hE, hH, ↓reduceIte, hb]; (try clear hb))) | ((with_reducible refine And.intro ?_ ?_); · omega) | (refine ok_view ?_; simp (disch := omega) only [go_sem, hE, hH, ↓reduceIte]) | (refine cvA (i1) ?_; simp (disch := omega) only [go_sem, hE, hH, ↓reduceIte]) | (with_reducible apply jn) | (with_reducible apply both) | (with_reducible refine And.intro ?_ ?_) | ((with_reducible apply fin_eq); (try (simp (disch := omega) only [go_sem, hE, hH, ↓reduceIte])); first | done | rfl) | (simp (disch := omega) only [go_sem, hE, hH, ↓reduceIte]) | (exact (noMLL_set (by simp only [go_sem, hE, hH, ↓reduceIte]) (by simp only [go_sem, hE, hH, ↓reduceIte])).2 trivial) | (exact (pk_set (by simp only [go_sem, hE, hH, ↓reduceIte]) (by simp only [go_sem, hE, hH, ↓reduceIte])).2 trivial) | (simp only [go_sem, hE, hH, ↓reduceIte]) | fail)
    all_goals (rw [e]; try rfl)
  | true =>
    rw [h1] at i1
    obtain ⟨h0, b1, b2, ⟨a1, a2, a3, a4, a5⟩, a6⟩ := hasW_at h1
    have hk : i.toNat < w.Clocks.length := by omega
    cases h2 : rng o (-5) 5 with
    | false =>
      rw [h2] at i2
      have e : driftW w i o = (zeroW, false) := by simp [driftW, h2]
      refine fn_in h_spec_DriftTo r_spec_DriftTo ⟨by simp only [go_sem, ↓reduceIte], fun E hE hH => ?_⟩; simp only [go_sem, ↓reduceIte] at hE hH; simp only [go_sem, hE, hH, ↓reduceIte, c_spec_DriftTo]
      repeat' (first | ((with_reducible (first | refine gd_t (fun h => ?_) (fun h => ?_) | refine gd_f (fun h => ?_) (fun h => ?_))) <;> (have hb := h; (try simp only [decide_eq_true_eq, decide_eq_false_iff_not, Int.not_lt, Int.not_le, ge_iff_le, gt_iff_lt, Bool.not_eq_true', Bool.not_eq_false', beq_iff_eq, bne_iff_ne, beq_eq_false_iff_ne, bne_eq_false_iff_eq, Int.ofNat_lt, Int.ofNat_le] at h); simp (disch := omega) only [go_sem, hE, hH, ↓reduceIte, hb]; (try clear hb))) | ((with_reducible refine And.intro ?_ ?_); · omega) | (refine ok_view ?_; simp (disch := omega) only [go_sem, hE, hH, ↓reduceIte]) | (refine cvA (i1) ?_; simp (disch := omega) only [go_sem, hE, hH, ↓reduceIte]) | (refine cvA (i2) ?_; simp (disch := omega) only [go_sem, hE, hH, ↓reduceIte]) | (with_reducible apply jn) | (with_reducible apply both) | (with_reducible refine And.intro ?_ ?_) | ((with_reducible apply fin_eq); (try (simp (disch := omega) only [go_sem, hE, hH, ↓reduceIte])); first | done | rfl) | (simp (disch := omega) only [go_sem, hE, hH, ↓reduceIte]) | (exact (noMLL_set (by simp only [go_sem, hE, hH, ↓reduceIte]) (by simp only [go_sem, hE, hH, ↓reduceIte])).2 trivial) | (exact (pk_set (by simp only [go_sem, hE, hH, ↓reduceIte]) (by simp only [go_sem, hE, hH, ↓reduceIte])).2 trivial) | (simp only [go_sem, hE, hH, ↓reduceIte]) | fail)
      all_goals (rw [e]; try rfl)
    | true =>
      rw [h2] at i2
      have e : driftW w i o = (driftV w i o, true) := by simp [driftW, h1, h2]
      have hs := getD_map (f := Clock.row true) hk
      have ms : (w.Clocks.map (Clock.row true)).set i.toNat [i64 o] = (w.Clocks.set i.toNat ⟨o⟩).map (Clock.row true) := by rw [List.map_set]; rfl
      refine fn_in h_spec_DriftTo r_spec_DriftTo ⟨by simp only [go_sem, ↓reduceIte], fun E hE hH => ?_⟩; simp only [go_sem, ↓reduceIte] at hE hH; simp only [go_sem, hE, hH, ↓reduceIte, c_spec_DriftTo]
      repeat' (first | ((with_reducible (first | refine gd_t (fun h => ?_) (fun h => ?_) | refine gd_f (fun h => ?_) (fun h => ?_))) <;> (have hb := h; (try simp only [decide_eq_true_eq, decide_eq_false_iff_not, Int.not_lt, Int.not_le, ge_iff_le, gt_iff_lt, Bool.not_eq_true', Bool.not_eq_false', beq_iff_eq, bne_iff_ne, beq_eq_false_iff_ne, bne_eq_false_iff_eq, Int.ofNat_lt, Int.ofNat_le] at h); simp (disch := omega) only [go_sem, hE, hH, ↓reduceIte, ms, List.length_set, hb]; (try clear hb))) | ((with_reducible refine And.intro ?_ ?_); · omega) | (refine ok_view ?_; simp (disch := omega) only [go_sem, hE, hH, ↓reduceIte, ms, List.length_set]) | (refine cvA (i1) ?_; simp (disch := omega) only [go_sem, hE, hH, ↓reduceIte, ms, List.length_set]) | (refine cvA (i2) ?_; simp (disch := omega) only [go_sem, hE, hH, ↓reduceIte, ms, List.length_set]) | (refine cvA (l10Own_ok w (by omega) (by omega)) ?_; simp (disch := omega) only [go_sem, hE, hH, ↓reduceIte, ms, List.length_set]) | (with_reducible apply jn) | (with_reducible apply both) | (with_reducible refine And.intro ?_ ?_) | ((with_reducible apply fin_eq); (try (simp (disch := omega) only [go_sem, hE, hH, ↓reduceIte, ms, List.length_set])); first | done | rfl) | (simp (disch := omega) only [go_sem, hE, hH, ↓reduceIte, ms, List.length_set]) | (exact (noMLL_set (by simp only [go_sem, hE, hH, ↓reduceIte, ms, List.length_set]) (by simp only [go_sem, hE, hH, ↓reduceIte, ms, List.length_set])).2 trivial) | (exact (pk_set (by simp only [go_sem, hE, hH, ↓reduceIte, ms, List.length_set]) (by simp only [go_sem, hE, hH, ↓reduceIte, ms, List.length_set])).2 trivial) | (simp only [go_sem, hE, hH, ↓reduceIte, ms, List.length_set]) | fail)
      all_goals try omega
      all_goals (rw [e]; try rfl)
def stepW (w : Watch) (i : Int) (s : Int) (l : Lease) : Int := if l.Who = i then s else if l.Until + 1 - lowW w i > s then l.Until + 1 - lowW w i else s
def waitW (w : Watch) (i : Int) (n : Nat) : Int := (w.Given.take n).foldl (stepW w i) 0
def freeW (w : Watch) (i : Int) : Bool := allN (fun k => decide ((nth w.Given k).Who = i) || !decide (lowW w i ≤ (nth w.Given k).Until)) w.Given.length
theorem waitW_succ {w : Watch} {i : Int} {n : Nat} (h : n < w.Given.length) : waitW w i (n + 1) = stepW w i (waitW w i n) (nth w.Given n) := by
  simp only [waitW, take_nth h, List.foldl_append, List.foldl_cons, List.foldl_nil]
theorem waitW_pos {w : Watch} {i : Int} : ∀ {n : Nat}, n ≤ w.Given.length → 0 ≤ waitW w i n ∧ (waitW w i n = 0 ↔ allN (fun k => decide ((nth w.Given k).Who = i) || !decide (lowW w i ≤ (nth w.Given k).Until)) n = true)
  | 0, _ => by simp [waitW, allN]
  | n + 1, h => by
    obtain ⟨h1, h2⟩ := waitW_pos (w := w) (i := i) (n := n) (by omega)
    rw [waitW_succ h, allN_iff]
    rw [allN_iff] at h2
    unfold stepW
    split
    · rename_i hw
      refine ⟨h1, h2.trans ⟨fun hh k hk => ?_, fun hh k hk => hh k (by omega)⟩⟩
      by_cases e : k = n
      · subst e; simp [hw]
      · exact hh k (by omega)
    · rename_i hw
      split
      · rename_i hg
        refine ⟨by omega, ⟨fun h0 => by omega, fun hh => ?_⟩⟩
        have := hh n (by omega)
        simp [hw] at this
        omega
      · rename_i hg
        refine ⟨h1, ⟨fun h0 k hk => ?_, fun hh => h2.2 fun k hk => hh k (by omega)⟩⟩
        by_cases e : k = n
        · subst e; simp [hw]; omega
        · exact h2.1 h0 k (by omega)
theorem wait_ok (w : Watch) (i : Int) (hh : hasW w i = true) : ACall Try.prog n_impl_Watch_wait [.agg (Watch.row false w), i64 i] (fun r _ => r = i64 (waitW w i w.Given.length)) := by
  have hmx := mx_eq
  obtain ⟨h0, b1, b2, ⟨a1, a2, a3, a4, a5⟩, a6⟩ := hasW_at hh
  refine fn_in h_impl_Watch_wait r_impl_Watch_wait ⟨by simp only [go_sem, ↓reduceIte], fun E hE hH => ?_⟩; simp only [go_sem, ↓reduceIte] at hE hH; simp only [go_sem, hE, hH, ↓reduceIte, c_impl_Watch_wait]
  refine loopN w.Given.length (fun j (_ : Unit) => ⟨[(1, i64 i), (2, .ptr 3000000 0 0), (5, i64 (waitW w i j)), (9, .sl false 3 (w.Given.map (Lease.row false))), (10, i64 w.Given.length), (11, i64 j)], [(3000000, ⟨3, [Watch.row false w]⟩)]⟩) (fun j _ => True) () trivial ?_
  intro j _ hj _
  try simp only [go_sem, hE, hH, ↓reduceIte, c_impl_Watch_wait_l1]
  first | refine gd_t (fun h1 => ?_) (fun h1 => ?_) | refine gd_f (fun h1 => ?_) (fun h1 => ?_)
  · have hb1 := h1
    simp only [decide_eq_true_eq, decide_eq_false_iff_not, Int.not_lt, Int.not_le, ge_iff_le, gt_iff_lt, Bool.not_eq_true', Bool.not_eq_false', beq_iff_eq, bne_iff_ne, beq_eq_false_iff_ne, bne_eq_false_iff_eq, Int.ofNat_lt, Int.ofNat_le] at h1
    have hlt := h1; clear h1
    have hl := watchOk_lease h0 (nth_mem hlt)
    simp only [leaseOk, Bool.and_eq_true, rng_iff] at hl
    have hs := waitW_succ (i := i) hlt
    have hlo : -10 ≤ lowW w i ∧ lowW w i ≤ 100000 := by unfold lowW; omega
    try simp (disch := omega) only [go_sem, hE, hH, ↓reduceIte, hb1]
    repeat' (first | ((with_reducible (first | refine gd_t (fun h => ?_) (fun h => ?_) | refine gd_f (fun h => ?_) (fun h => ?_))) <;> (have hb := h; (try simp only [decide_eq_true_eq, decide_eq_false_iff_not, Int.not_lt, Int.not_le, ge_iff_le, gt_iff_lt, Bool.not_eq_true', Bool.not_eq_false', beq_iff_eq, bne_iff_ne, beq_eq_false_iff_ne, bne_eq_false_iff_eq, Int.ofNat_lt, Int.ofNat_le] at h); simp (disch := omega) only [go_sem, hE, hH, ↓reduceIte, hb]; (try clear hb))) | ((with_reducible refine And.intro ?_ ?_); · omega) | (refine ok_view ?_; simp (disch := omega) only [go_sem, hE, hH, ↓reduceIte]) | (refine cvA (wspan_ok w i hh) ?_; simp (disch := omega) only [go_sem, hE, hH, ↓reduceIte]) | (with_reducible apply jn) | (with_reducible apply both) | (with_reducible refine And.intro ?_ ?_) | ((with_reducible apply fin_eq); (try (simp (disch := omega) only [go_sem, hE, hH, ↓reduceIte])); first | done | rfl) | (simp (disch := omega) only [go_sem, hE, hH, ↓reduceIte]) | (exact (noMLL_set (by simp only [go_sem, hE, hH, ↓reduceIte]) (by simp only [go_sem, hE, hH, ↓reduceIte])).2 trivial) | (exact (pk_set (by simp only [go_sem, hE, hH, ↓reduceIte]) (by simp only [go_sem, hE, hH, ↓reduceIte])).2 trivial) | (simp only [go_sem, hE, hH, ↓reduceIte]) | fail)
    · refine ⟨(), ?_⟩
      simp only [hs, stepW, h, if_false]
      rfl
    · refine ⟨(), ?_⟩
      simp only [hs, stepW, h, if_true]
      rfl
  · try simp (disch := omega) only [go_sem, hE, hH, ↓reduceIte, h1]
    simp only [decide_eq_true_eq, decide_eq_false_iff_not, Int.not_lt, Int.not_le, ge_iff_le, gt_iff_lt, Bool.not_eq_true', Bool.not_eq_false', beq_iff_eq, bne_iff_ne, beq_eq_false_iff_ne, bne_eq_false_iff_eq, Int.ofNat_lt, Int.ofNat_le] at h1
    rw [show j = w.Given.length by omega]
theorem l10Free_ok (w : Watch) (i : Int) (hm : w.Given.length ≤ maxLen) : ACall Try.prog n_spec_l10Free [.agg (Watch.row false w), i64 i, i64 (lowW w i)] (fun r _ => r = bl (freeW w i)) := by
  have hmx := mx_eq
  refine fn_in h_spec_l10Free r_spec_l10Free ⟨by simp only [go_sem, ↓reduceIte], fun E hE hH => ?_⟩; simp only [go_sem, ↓reduceIte] at hE hH; simp only [go_sem, hE, hH, ↓reduceIte, c_spec_l10Free]
  refine loopN w.Given.length (fun j (_ : Unit) => ⟨[(1, i64 i), (2, i64 (lowW w i)), (3, .ptr 4000000 0 0), (7, i64 j)], [(4000000, ⟨3, [Watch.row false w]⟩)]⟩) (fun j _ => allN (fun k => decide ((nth w.Given k).Who = i) || !decide (lowW w i ≤ (nth w.Given k).Until)) j = true) () rfl ?_
  intro j _ hj hI
  try simp only [go_sem, hE, hH, ↓reduceIte, c_spec_l10Free_l1]
  first | refine gd_t (fun h1 => ?_) (fun h1 => ?_) | refine gd_f (fun h1 => ?_) (fun h1 => ?_)
  · have hb1 := h1
    simp only [decide_eq_true_eq, decide_eq_false_iff_not, Int.not_lt, Int.not_le, ge_iff_le, gt_iff_lt, Bool.not_eq_true', Bool.not_eq_false', beq_iff_eq, bne_iff_ne, beq_eq_false_iff_ne, bne_eq_false_iff_eq, Int.ofNat_lt, Int.ofNat_le] at h1
    have hlt := h1; clear h1
    try simp (disch := omega) only [go_sem, hE, hH, ↓reduceIte, hb1]
    repeat' (first | ((with_reducible (first | refine gd_t (fun h => ?_) (fun h => ?_) | refine gd_f (fun h => ?_) (fun h => ?_))) <;> (have hb := h; (try simp only [decide_eq_true_eq, decide_eq_false_iff_not, Int.not_lt, Int.not_le, ge_iff_le, gt_iff_lt, Bool.not_eq_true', Bool.not_eq_false', beq_iff_eq, bne_iff_ne, beq_eq_false_iff_ne, bne_eq_false_iff_eq, Int.ofNat_lt, Int.ofNat_le] at h); simp (disch := omega) only [go_sem, hE, hH, ↓reduceIte, hb]; (try clear hb))) | ((with_reducible refine And.intro ?_ ?_); · omega) | (with_reducible apply jn) | (with_reducible apply both) | (with_reducible refine And.intro ?_ ?_) | ((with_reducible apply fin_eq); (try (simp (disch := omega) only [go_sem, hE, hH, ↓reduceIte])); first | done | rfl) | (simp (disch := omega) only [go_sem, hE, hH, ↓reduceIte]) | (exact (noMLL_set (by simp only [go_sem, hE, hH, ↓reduceIte]) (by simp only [go_sem, hE, hH, ↓reduceIte])).2 trivial) | (exact (pk_set (by simp only [go_sem, hE, hH, ↓reduceIte]) (by simp only [go_sem, hE, hH, ↓reduceIte])).2 trivial) | (simp only [go_sem, hE, hH, ↓reduceIte]) | fail)
    all_goals (first | (rw [freeW, allN_no hlt (by simp_all)]; done) | exact ⟨(), rfl, allN_step hI (by simp_all)⟩ | exact ⟨(), rfl, allN_step hI (by simp_all; omega)⟩ | trace_state)
  · try simp (disch := omega) only [go_sem, hE, hH, ↓reduceIte, h1]
    simp only [decide_eq_true_eq, decide_eq_false_iff_not, Int.not_lt, Int.not_le, ge_iff_le, gt_iff_lt, Bool.not_eq_true', Bool.not_eq_false', beq_iff_eq, bne_iff_ne, beq_eq_false_iff_ne, bne_eq_false_iff_eq, Int.ofNat_lt, Int.ofNat_le] at h1
    rw [show j = w.Given.length by omega] at hI
    rw [freeW, hI]
def askV (w : Watch) (i n : Int) : Watch := ⟨w.True, w.Clocks, w.Given ++ [⟨i, lowW w i, highW w i + n⟩]⟩
def askW (w : Watch) (i n : Int) : Watch × Bool := if hasW w i && rng n 1 100 && freeW w i then ifW (askV w i n) else (zeroW, false)
theorem lowW_rng {w : Watch} {i : Int} (h : hasW w i = true) : -10 ≤ lowW w i ∧ lowW w i ≤ 100000 ∧ 0 ≤ highW w i ∧ highW w i ≤ 100010 := by
  obtain ⟨h0, b1, b2, ⟨a1, a2, a3, a4, a5⟩, a6⟩ := hasW_at h
  unfold lowW highW
  omega
set_option maxHeartbeats 1000000 in
theorem AskLease_ok (w : Watch) (i n : Int) (hw : watchM w) : ACall Try.prog n_impl_AskLease [.agg (Watch.row false w), i64 i, i64 n] (fun r _ => r = .tup [.agg (Watch.row true (askW w i n).1), bl (askW w i n).2]) := by
  have hmx := mx_eq
  have i1 := GoodWatch_ok w hw
  have i2 := wNode_ok w i hw.1
  have i3 := within_ok n 1 100
  cases h1 : watchOk w with
  | false =>
    rw [h1] at i1
    have e : askW w i n = (zeroW, false) := by simp [askW, hasW, h1]
    refine fn_in h_impl_AskLease r_impl_AskLease ⟨by simp only [go_sem, ↓reduceIte], fun E hE hH => ?_⟩; simp only [go_sem, ↓reduceIte] at hE hH; simp only [go_sem, hE, hH, ↓reduceIte, c_impl_AskLease]
    repeat' (first | ((with_reducible (first | refine gd_t (fun h => ?_) (fun h => ?_) | refine gd_f (fun h => ?_) (fun h => ?_))) <;> (have hb := h; (try simp only [decide_eq_true_eq, decide_eq_false_iff_not, Int.not_lt, Int.not_le, ge_iff_le, gt_iff_lt, Bool.not_eq_true', Bool.not_eq_false', beq_iff_eq, bne_iff_ne, beq_eq_false_iff_ne, bne_eq_false_iff_eq, Int.ofNat_lt, Int.ofNat_le] at h); simp (disch := omega) only [go_sem, hE, hH, ↓reduceIte, hb]; (try clear hb))) | ((with_reducible refine And.intro ?_ ?_); · omega) | (refine ok_view ?_; simp (disch := omega) only [go_sem, hE, hH, ↓reduceIte]) | (refine cvA (i1) ?_; simp (disch := omega) only [go_sem, hE, hH, ↓reduceIte]) | (with_reducible apply jn) | (with_reducible apply both) | (with_reducible refine And.intro ?_ ?_) | ((with_reducible apply fin_eq); (try (simp (disch := omega) only [go_sem, hE, hH, ↓reduceIte])); first | done | rfl) | (simp (disch := omega) only [go_sem, hE, hH, ↓reduceIte]) | (exact (noMLL_set (by simp only [go_sem, hE, hH, ↓reduceIte]) (by simp only [go_sem, hE, hH, ↓reduceIte])).2 trivial) | (exact (pk_set (by simp only [go_sem, hE, hH, ↓reduceIte]) (by simp only [go_sem, hE, hH, ↓reduceIte])).2 trivial) | (simp only [go_sem, hE, hH, ↓reduceIte]) | fail)
    all_goals (rw [e]; try rfl)
  | true =>
    rw [h1] at i1
    cases h2 : rng i 0 ((w.Clocks.length : Int) - 1) with
    | false =>
      rw [h2] at i2
      have e : askW w i n = (zeroW, false) := by simp [askW, hasW, h2]
      refine fn_in h_impl_AskLease r_impl_AskLease ⟨by simp only [go_sem, ↓reduceIte], fun E hE hH => ?_⟩; simp only [go_sem, ↓reduceIte] at hE hH; simp only [go_sem, hE, hH, ↓reduceIte, c_impl_AskLease]
      repeat' (first | ((with_reducible (first | refine gd_t (fun h => ?_) (fun h => ?_) | refine gd_f (fun h => ?_) (fun h => ?_))) <;> (have hb := h; (try simp only [decide_eq_true_eq, decide_eq_false_iff_not, Int.not_lt, Int.not_le, ge_iff_le, gt_iff_lt, Bool.not_eq_true', Bool.not_eq_false', beq_iff_eq, bne_iff_ne, beq_eq_false_iff_ne, bne_eq_false_iff_eq, Int.ofNat_lt, Int.ofNat_le] at h); simp (disch := omega) only [go_sem, hE, hH, ↓reduceIte, hb]; (try clear hb))) | ((with_reducible refine And.intro ?_ ?_); · omega) | (refine ok_view ?_; simp (disch := omega) only [go_sem, hE, hH, ↓reduceIte]) | (refine cvA (i1) ?_; simp (disch := omega) only [go_sem, hE, hH, ↓reduceIte]) | (refine cvA (i2) ?_; simp (disch := omega) only [go_sem, hE, hH, ↓reduceIte]) | (with_reducible apply jn) | (with_reducible apply both) | (with_reducible refine And.intro ?_ ?_) | ((with_reducible apply fin_eq); (try (simp (disch := omega) only [go_sem, hE, hH, ↓reduceIte])); first | done | rfl) | (simp (disch := omega) only [go_sem, hE, hH, ↓reduceIte]) | (exact (noMLL_set (by simp only [go_sem, hE, hH, ↓reduceIte]) (by simp only [go_sem, hE, hH, ↓reduceIte])).2 trivial) | (exact (pk_set (by simp only [go_sem, hE, hH, ↓reduceIte]) (by simp only [go_sem, hE, hH, ↓reduceIte])).2 trivial) | (simp only [go_sem, hE, hH, ↓reduceIte]) | fail)
      all_goals (rw [e]; try rfl)
    | true =>
      rw [h2] at i2
      have hh : hasW w i = true := by simp [hasW, h1, h2]
      cases h3 : rng n 1 100 with
      | false =>
        rw [h3] at i3
        have e : askW w i n = (zeroW, false) := by simp [askW, h3]
        refine fn_in h_impl_AskLease r_impl_AskLease ⟨by simp only [go_sem, ↓reduceIte], fun E hE hH => ?_⟩; simp only [go_sem, ↓reduceIte] at hE hH; simp only [go_sem, hE, hH, ↓reduceIte, c_impl_AskLease]
        repeat' (first | ((with_reducible (first | refine gd_t (fun h => ?_) (fun h => ?_) | refine gd_f (fun h => ?_) (fun h => ?_))) <;> (have hb := h; (try simp only [decide_eq_true_eq, decide_eq_false_iff_not, Int.not_lt, Int.not_le, ge_iff_le, gt_iff_lt, Bool.not_eq_true', Bool.not_eq_false', beq_iff_eq, bne_iff_ne, beq_eq_false_iff_ne, bne_eq_false_iff_eq, Int.ofNat_lt, Int.ofNat_le] at h); simp (disch := omega) only [go_sem, hE, hH, ↓reduceIte, hb]; (try clear hb))) | ((with_reducible refine And.intro ?_ ?_); · omega) | (refine ok_view ?_; simp (disch := omega) only [go_sem, hE, hH, ↓reduceIte]) | (refine cvA (i1) ?_; simp (disch := omega) only [go_sem, hE, hH, ↓reduceIte]) | (refine cvA (i2) ?_; simp (disch := omega) only [go_sem, hE, hH, ↓reduceIte]) | (refine cvA (i3) ?_; simp (disch := omega) only [go_sem, hE, hH, ↓reduceIte]) | (with_reducible apply jn) | (with_reducible apply both) | (with_reducible refine And.intro ?_ ?_) | ((with_reducible apply fin_eq); (try (simp (disch := omega) only [go_sem, hE, hH, ↓reduceIte])); first | done | rfl) | (simp (disch := omega) only [go_sem, hE, hH, ↓reduceIte]) | (exact (noMLL_set (by simp only [go_sem, hE, hH, ↓reduceIte]) (by simp only [go_sem, hE, hH, ↓reduceIte])).2 trivial) | (exact (pk_set (by simp only [go_sem, hE, hH, ↓reduceIte]) (by simp only [go_sem, hE, hH, ↓reduceIte])).2 trivial) | (simp only [go_sem, hE, hH, ↓reduceIte]) | fail)
        all_goals (rw [e]; try rfl)
      | true =>
        rw [h3] at i3
        have h3' := rng_iff.1 h3
        obtain ⟨h0, b1, b2, ⟨a1, a2, a3, a4, a5⟩, a6⟩ := hasW_at hh
        obtain ⟨p1, p2⟩ := waitW_pos (w := w) (i := i) (Nat.le_refl w.Given.length)
        change waitW w i w.Given.length = 0 ↔ freeW w i = true at p2
        have hlw := lowW_rng hh
        have e0 : 0 < waitW w i w.Given.length → askW w i n = (zeroW, false) := fun hp => by
          have : freeW w i = false := by
            cases hf : freeW w i with
            | false => rfl
            | true => have := p2.2 hf; omega
          simp [askW, this]
        have e1 : waitW w i w.Given.length ≤ 0 → askW w i n = ifW (askV w i n) := fun hp => by
          have : freeW w i = true := p2.1 (by omega)
          simp [askW, hh, h3, this]
        have hq : watchM (askV w i n) := ⟨by simp only [askV]; omega, by simp only [askV, List.length_append, List.length_cons, List.length_nil]; omega⟩
        have ma : w.Given.map (Lease.row true) ++ [[i64 i, i64 (lowW w i), i64 (highW w i + n)]] = (askV w i n).Given.map (Lease.row true) := by simp only [askV, List.map_append]; rfl
        have ml : (askV w i n).Given.length = w.Given.length + 1 := by simp only [askV, List.length_append, List.length_cons, List.length_nil]
        refine fn_in h_impl_AskLease r_impl_AskLease ⟨by simp only [go_sem, ↓reduceIte], fun E hE hH => ?_⟩; simp only [go_sem, ↓reduceIte] at hE hH; simp only [go_sem, hE, hH, ↓reduceIte, c_impl_AskLease]
        repeat' (first | ((with_reducible (first | refine gd_t (fun h => ?_) (fun h => ?_) | refine gd_f (fun h => ?_) (fun h => ?_))) <;> (have hb := h; (try simp only [decide_eq_true_eq, decide_eq_false_iff_not, Int.not_lt, Int.not_le, ge_iff_le, gt_iff_lt, Bool.not_eq_true', Bool.not_eq_false', beq_iff_eq, bne_iff_ne, beq_eq_false_iff_ne, bne_eq_false_iff_eq, Int.ofNat_lt, Int.ofNat_le] at h); simp (disch := omega) only [go_sem, hE, hH, ↓reduceIte, ma, ml, hb]; (try clear hb))) | ((with_reducible refine And.intro ?_ ?_); · omega) | (refine ok_lend [true] ?_; simp (disch := omega) only [go_sem, hE, hH, ↓reduceIte, ma, ml]; refine cmA (ifWatch_ok (askV w i n) hq) ?_; simp (disch := omega) only [go_sem, hE, hH, ↓reduceIte, ma, ml]) | (refine ok_view ?_; simp (disch := omega) only [go_sem, hE, hH, ↓reduceIte, ma, ml]) | (refine cvA (i1) ?_; simp (disch := omega) only [go_sem, hE, hH, ↓reduceIte, ma, ml]) | (refine cvA (i2) ?_; simp (disch := omega) only [go_sem, hE, hH, ↓reduceIte, ma, ml]) | (refine cvA (i3) ?_; simp (disch := omega) only [go_sem, hE, hH, ↓reduceIte, ma, ml]) | (refine cvA (wait_ok w i hh) ?_; simp (disch := omega) only [go_sem, hE, hH, ↓reduceIte, ma, ml]) | (refine cvA (copyWatch_ok w (by omega) (by omega)) ?_; simp (disch := omega) only [go_sem, hE, hH, ↓reduceIte, ma, ml]) | (refine cvA (wspan_ok w i hh) ?_; simp (disch := omega) only [go_sem, hE, hH, ↓reduceIte, ma, ml]) | (with_reducible apply jn) | (with_reducible apply both) | (with_reducible refine And.intro ?_ ?_) | ((with_reducible apply fin_eq); (try (simp (disch := omega) only [go_sem, hE, hH, ↓reduceIte, ma, ml])); first | done | rfl) | (simp (disch := omega) only [go_sem, hE, hH, ↓reduceIte, ma, ml]) | (exact (noMLL_set (by simp only [go_sem, hE, hH, ↓reduceIte, ma, ml]) (by simp only [go_sem, hE, hH, ↓reduceIte, ma, ml])).2 trivial) | (exact (pk_set (by simp only [go_sem, hE, hH, ↓reduceIte, ma, ml]) (by simp only [go_sem, hE, hH, ↓reduceIte, ma, ml])).2 trivial) | (simp only [go_sem, hE, hH, ↓reduceIte, ma, ml]) | fail)
        all_goals try omega
        all_goals (first | (rw [e0 h]; try rfl; done) | (rw [e1 h]; try rfl; done) | trace_state)
set_option maxHeartbeats 1000000 in
theorem sAskLease_ok (w : Watch) (i n : Int) (hw : watchM w) : ACall Try.prog n_spec_AskLease [.agg (Watch.row false w), i64 i, i64 n] (fun r _ => r = .tup [.agg (Watch.row true (askW w i n).1), bl (askW w i n).2]) := by
  have hmx := mx_eq
  have i1 := l10Has_ok w i hw
  have i3 := l1In_ok n 1 100
  have i4 := l10Free_ok w i hw.2
  cases hh : hasW w i with
  | false =>
    rw [hh] at i1
    have e : askW w i n = (zeroW, false) := by simp [askW, hh]
    refine fn_in h_spec_AskLease r_spec_AskLease ⟨by simp only [go_sem, ↓reduceIte], fun E hE hH => ?_⟩; simp only [go_sem, ↓reduceIte] at hE hH; simp only [go_sem, hE, hH, ↓reduceIte, c_spec_AskLease]
    repeat' (first | ((with_reducible (first | refine gd_t (fun h => ?_) (fun h => ?_) | refine gd_f (fun h => ?_) (fun h => ?_))) <;> (have hb := h; (try simp only [decide_eq_true_eq, decide_eq_false_iff_not, Int.not_lt, Int.not_le, ge_iff_le, gt_iff_lt, Bool.not_eq_true', Bool.not_eq_false', beq_iff_eq, bne_iff_ne, beq_eq_false_iff_ne, bne_eq_false_iff_eq, Int.ofNat_lt, Int.ofNat_le] at h); simp (disch := omega) only [go_sem, hE, hH, ↓reduceIte, hb]; (try clear hb))) | ((with_reducible refine And.intro ?_ ?_); · omega) | (refine ok_view ?_; simp (disch := omega) only [go_sem, hE, hH, ↓reduceIte]) | (refine cvA (i1) ?_; simp (disch := omega) only [go_sem, hE, hH, ↓reduceIte]) | (with_reducible apply jn) | (with_reducible apply both) | (with_reducible refine And.intro ?_ ?_) | ((with_reducible apply fin_eq); (try (simp (disch := omega) only [go_sem, hE, hH, ↓reduceIte])); first | done | rfl) | (simp (disch := omega) only [go_sem, hE, hH, ↓reduceIte]) | (exact (noMLL_set (by simp only [go_sem, hE, hH, ↓reduceIte]) (by simp only [go_sem, hE, hH, ↓reduceIte])).2 trivial) | (exact (pk_set (by simp only [go_sem, hE, hH, ↓reduceIte]) (by simp only [go_sem, hE, hH, ↓reduceIte])).2 trivial) | (simp only [go_sem, hE, hH, ↓reduceIte]) | fail)
    all_goals (rw [e]; try rfl)
  | true =>
    rw [hh] at i1
    obtain ⟨h0, b1, b2, ⟨a1, a2, a3, a4, a5⟩, a6⟩ := hasW_at hh
    cases h3 : rng n 1 100 with
    | false =>
      rw [h3] at i3
      have e : askW w i n = (zeroW, false) := by simp [askW, h3]
      refine fn_in h_spec_AskLease r_spec_AskLease ⟨by simp only [go_sem, ↓reduceIte], fun E hE hH => ?_⟩; simp only [go_sem, ↓reduceIte] at hE hH; simp only [go_sem, hE, hH, ↓reduceIte, c_spec_AskLease]
      repeat' (first | ((with_reducible (first | refine gd_t (fun h => ?_) (fun h => ?_) | refine gd_f (fun h => ?_) (fun h => ?_))) <;> (have hb := h; (try simp only [decide_eq_true_eq, decide_eq_false_iff_not, Int.not_lt, Int.not_le, ge_iff_le, gt_iff_lt, Bool.not_eq_true', Bool.not_eq_false', beq_iff_eq, bne_iff_ne, beq_eq_false_iff_ne, bne_eq_false_iff_eq, Int.ofNat_lt, Int.ofNat_le] at h); simp (disch := omega) only [go_sem, hE, hH, ↓reduceIte, hb]; (try clear hb))) | ((with_reducible refine And.intro ?_ ?_); · omega) | (refine ok_view ?_; simp (disch := omega) only [go_sem, hE, hH, ↓reduceIte]) | (refine cvA (i1) ?_; simp (disch := omega) only [go_sem, hE, hH, ↓reduceIte]) | (refine cvA (i3) ?_; simp (disch := omega) only [go_sem, hE, hH, ↓reduceIte]) | (with_reducible apply jn) | (with_reducible apply both) | (with_reducible refine And.intro ?_ ?_) | ((with_reducible apply fin_eq); (try (simp (disch := omega) only [go_sem, hE, hH, ↓reduceIte])); first | done | rfl) | (simp (disch := omega) only [go_sem, hE, hH, ↓reduceIte]) | (exact (noMLL_set (by simp only [go_sem, hE, hH, ↓reduceIte]) (by simp only [go_sem, hE, hH, ↓reduceIte])).2 trivial) | (exact (pk_set (by simp only [go_sem, hE, hH, ↓reduceIte]) (by simp only [go_sem, hE, hH, ↓reduceIte])).2 trivial) | (simp only [go_sem, hE, hH, ↓reduceIte]) | fail)
      all_goals (rw [e]; try rfl)
    | true =>
      rw [h3] at i3
      have h3' := rng_iff.1 h3
      have hlw := lowW_rng hh
      cases hf : freeW w i with
      | false =>
        rw [hf] at i4
        have e : askW w i n = (zeroW, false) := by simp [askW, hf]
        refine fn_in h_spec_AskLease r_spec_AskLease ⟨by simp only [go_sem, ↓reduceIte], fun E hE hH => ?_⟩; simp only [go_sem, ↓reduceIte] at hE hH; simp only [go_sem, hE, hH, ↓reduceIte, c_spec_AskLease]
        repeat' (first | ((with_reducible (first | refine gd_t (fun h => ?_) (fun h => ?_) | refine gd_f (fun h => ?_) (fun h => ?_))) <;> (have hb := h; (try simp only [decide_eq_true_eq, decide_eq_false_iff_not, Int.not_lt, Int.not_le, ge_iff_le, gt_iff_lt, Bool.not_eq_true', Bool.not_eq_false', beq_iff_eq, bne_iff_ne, beq_eq_false_iff_ne, bne_eq_false_iff_eq, Int.ofNat_lt, Int.ofNat_le] at h); simp (disch := omega) only [go_sem, hE, hH, ↓reduceIte, hb]; (try clear hb))) | ((with_reducible refine And.intro ?_ ?_); · omega) | (refine ok_view ?_; simp (disch := omega) only [go_sem, hE, hH, ↓reduceIte]) | (refine cvA (i1) ?_; simp (disch := omega) only [go_sem, hE, hH, ↓reduceIte]) | (refine cvA (i3) ?_; simp (disch := omega) only [go_sem, hE, hH, ↓reduceIte]) | (refine cvA (l10Span_ok w i hh) ?_; simp (disch := omega) only [go_sem, hE, hH, ↓reduceIte]) | (refine cvA (i4) ?_; simp (disch := omega) only [go_sem, hE, hH, ↓reduceIte]) | (with_reducible apply jn) | (with_reducible apply both) | (with_reducible refine And.intro ?_ ?_) | ((with_reducible apply fin_eq); (try (simp (disch := omega) only [go_sem, hE, hH, ↓reduceIte])); first | done | rfl) | (simp (disch := omega) only [go_sem, hE, hH, ↓reduceIte]) | (exact (noMLL_set (by simp only [go_sem, hE, hH, ↓reduceIte]) (by simp only [go_sem, hE, hH, ↓reduceIte])).2 trivial) | (exact (pk_set (by simp only [go_sem, hE, hH, ↓reduceIte]) (by simp only [go_sem, hE, hH, ↓reduceIte])).2 trivial) | (simp only [go_sem, hE, hH, ↓reduceIte]) | fail)
        all_goals (rw [e]; try rfl)
      | true =>
        rw [hf] at i4
        have e : askW w i n = ifW (askV w i n) := by simp [askW, hh, h3, hf]
        have hq : watchM (askV w i n) := ⟨by simp only [askV]; omega, by simp only [askV, List.length_append, List.length_cons, List.length_nil]; omega⟩
        have ma : w.Given.map (Lease.row true) ++ [[i64 i, i64 (lowW w i), i64 (highW w i + n)]] = (askV w i n).Given.map (Lease.row true) := by simp only [askV, List.map_append]; rfl
        have ml : (askV w i n).Given.length = w.Given.length + 1 := by simp only [askV, List.length_append, List.length_cons, List.length_nil]
        refine fn_in h_spec_AskLease r_spec_AskLease ⟨by simp only [go_sem, ↓reduceIte], fun E hE hH => ?_⟩; simp only [go_sem, ↓reduceIte] at hE hH; simp only [go_sem, hE, hH, ↓reduceIte, c_spec_AskLease]
        repeat' (first | ((with_reducible (first | refine gd_t (fun h => ?_) (fun h => ?_) | refine gd_f (fun h => ?_) (fun h => ?_))) <;> (have hb := h; (try simp only [decide_eq_true_eq, decide_eq_false_iff_not, Int.not_lt, Int.not_le, ge_iff_le, gt_iff_lt, Bool.not_eq_true', Bool.not_eq_false', beq_iff_eq, bne_iff_ne, beq_eq_false_iff_ne, bne_eq_false_iff_eq, Int.ofNat_lt, Int.ofNat_le] at h); simp (disch := omega) only [go_sem, hE, hH, ↓reduceIte, ma, ml, hb]; (try clear hb))) | ((with_reducible refine And.intro ?_ ?_); · omega) | (refine ok_lend [true] ?_; simp (disch := omega) only [go_sem, hE, hH, ↓reduceIte, ma, ml]; refine cmA (l10If_ok (askV w i n) hq) ?_; simp (disch := omega) only [go_sem, hE, hH, ↓reduceIte, ma, ml]) | (refine ok_view ?_; simp (disch := omega) only [go_sem, hE, hH, ↓reduceIte, ma, ml]) | (refine cvA (i1) ?_; simp (disch := omega) only [go_sem, hE, hH, ↓reduceIte, ma, ml]) | (refine cvA (i3) ?_; simp (disch := omega) only [go_sem, hE, hH, ↓reduceIte, ma, ml]) | (refine cvA (l10Span_ok w i hh) ?_; simp (disch := omega) only [go_sem, hE, hH, ↓reduceIte, ma, ml]) | (refine cvA (i4) ?_; simp (disch := omega) only [go_sem, hE, hH, ↓reduceIte, ma, ml]) | (refine cvA (l10Own_ok w (by omega) (by omega)) ?_; simp (disch := omega) only [go_sem, hE, hH, ↓reduceIte, ma, ml]) | (with_reducible apply jn) | (with_reducible apply both) | (with_reducible refine And.intro ?_ ?_) | ((with_reducible apply fin_eq); (try (simp (disch := omega) only [go_sem, hE, hH, ↓reduceIte, ma, ml])); first | done | rfl) | (simp (disch := omega) only [go_sem, hE, hH, ↓reduceIte, ma, ml]) | (exact (noMLL_set (by simp only [go_sem, hE, hH, ↓reduceIte, ma, ml]) (by simp only [go_sem, hE, hH, ↓reduceIte, ma, ml])).2 trivial) | (exact (pk_set (by simp only [go_sem, hE, hH, ↓reduceIte, ma, ml]) (by simp only [go_sem, hE, hH, ↓reduceIte, ma, ml])).2 trivial) | (simp only [go_sem, hE, hH, ↓reduceIte, ma, ml]) | fail)
        all_goals try omega
        all_goals (rw [e]; try rfl)
def holdsL (i hi : Int) (l : Lease) : Bool := decide (l.Who = i) && decide (l.From ≤ hi) && decide (hi ≤ l.Until)
def holdsW (w : Watch) (i : Int) : Bool := w.Given.any (holdsL i (highW w i))
theorem holds_1_ok (l : Lease) (i hi : Int) : ACall Try.prog n_impl_Watch_holds_1 ([.agg (Lease.row false l)] ++ [.bx false [i64 i], .bx false [i64 hi]]) (fun r _ => r = bl (holdsL i hi l)) := by
  refine fn_in h_impl_Watch_holds_1 r_impl_Watch_holds_1 ⟨by simp only [go_sem, ↓reduceIte], fun E hE hH => ?_⟩; simp only [go_sem, ↓reduceIte] at hE hH; simp only [go_sem, hE, hH, ↓reduceIte, c_impl_Watch_holds_1]
  repeat' (first | ((with_reducible (first | refine gd_t (fun h => ?_) (fun h => ?_) | refine gd_f (fun h => ?_) (fun h => ?_))) <;> (have hb := h; (try simp only [decide_eq_true_eq, decide_eq_false_iff_not, Int.not_lt, Int.not_le, ge_iff_le, gt_iff_lt, Bool.not_eq_true', Bool.not_eq_false', beq_iff_eq, bne_iff_ne, beq_eq_false_iff_ne, bne_eq_false_iff_eq, Int.ofNat_lt, Int.ofNat_le] at h); simp (disch := omega) only [go_sem, hE, hH, ↓reduceIte, hb]; (try clear hb))) | ((with_reducible refine And.intro ?_ ?_); · omega) | (with_reducible apply jn) | (with_reducible apply both) | (with_reducible refine And.intro ?_ ?_) | ((with_reducible apply fin_eq); (try (simp (disch := omega) only [go_sem, hE, hH, ↓reduceIte])); first | done | rfl) | (simp (disch := omega) only [go_sem, hE, hH, ↓reduceIte]) | (exact (noMLL_set (by simp only [go_sem, hE, hH, ↓reduceIte]) (by simp only [go_sem, hE, hH, ↓reduceIte])).2 trivial) | (exact (pk_set (by simp only [go_sem, hE, hH, ↓reduceIte]) (by simp only [go_sem, hE, hH, ↓reduceIte])).2 trivial) | (simp only [go_sem, hE, hH, ↓reduceIte]) | fail)
  all_goals (first | (simp_all [holdsL]; done) | (simp_all [holdsL] <;> first | omega | (intros; omega)))
theorem holds_ok (w : Watch) (i : Int) (hh : hasW w i = true) : ACall Try.prog n_impl_Watch_holds [.agg (Watch.row false w), i64 i] (fun r _ => r = bl (holdsW w i)) := by
  have hmx := mx_eq
  obtain ⟨h0, b1, b2, ⟨a1, a2, a3, a4, a5⟩, a6⟩ := hasW_at hh
  refine fn_in h_impl_Watch_holds r_impl_Watch_holds ⟨by simp only [go_sem, ↓reduceIte], fun E hE hH => ?_⟩; simp only [go_sem, ↓reduceIte] at hE hH; simp only [go_sem, hE, hH, ↓reduceIte, c_impl_Watch_holds]
  repeat' (first | ((with_reducible (first | refine gd_t (fun h => ?_) (fun h => ?_) | refine gd_f (fun h => ?_) (fun h => ?_))) <;> (have hb := h; (try simp only [decide_eq_true_eq, decide_eq_false_iff_not, Int.not_lt, Int.not_le, ge_iff_le, gt_iff_lt, Bool.not_eq_true', Bool.not_eq_false', beq_iff_eq, bne_iff_ne, beq_eq_false_iff_ne, bne_eq_false_iff_eq, Int.ofNat_lt, Int.ofNat_le] at h); simp (disch := omega) only [go_sem, hE, hH, ↓reduceIte, hb]; (try clear hb))) | ((with_reducible refine And.intro ?_ ?_); · omega) | (refine ok_view ?_; simp (disch := omega) only [go_sem, hE, hH, ↓reduceIte]) | (refine cvA (wspan_ok w i hh) ?_; simp (disch := omega) only [go_sem, hE, hH, ↓reduceIte]) | (refine cvA (ContainsFunc_Lease_ok w.Given _ [.bx false [i64 i], .bx false [i64 (highW w i)]] (holdsL i (highW w i)) (by kernel_rfl) rfl (by omega) (fun l _ => holds_1_ok l i (highW w i))) ?_; simp (disch := omega) only [go_sem, hE, hH, ↓reduceIte]) | (with_reducible apply jn) | (with_reducible apply both) | (with_reducible refine And.intro ?_ ?_) | ((with_reducible apply fin_eq); (try (simp (disch := omega) only [go_sem, hE, hH, ↓reduceIte])); first | done | rfl) | (simp (disch := omega) only [go_sem, hE, hH, ↓reduceIte]) | (exact (noMLL_set (by simp only [go_sem, hE, hH, ↓reduceIte]) (by simp only [go_sem, hE, hH, ↓reduceIte])).2 trivial) | (exact (pk_set (by simp only [go_sem, hE, hH, ↓reduceIte]) (by simp only [go_sem, hE, hH, ↓reduceIte])).2 trivial) | (simp only [go_sem, hE, hH, ↓reduceIte]) | fail)
  all_goals rfl
theorem HoldsLease_ok (w : Watch) (i : Int) (hw : watchM w) : ACall Try.prog n_impl_HoldsLease [.agg (Watch.row false w), i64 i] (fun r _ => r = .tup [bl (hasW w i && holdsW w i), bl (hasW w i)]) := by
  have hmx := mx_eq
  have i1 := GoodWatch_ok w hw
  have i2 := wNode_ok w i hw.1
  cases h1 : watchOk w with
  | false =>
    rw [h1] at i1
    have e : hasW w i = false := by simp [hasW, h1]
    refine fn_in h_impl_HoldsLease r_impl_HoldsLease ⟨by simp only [go_sem, ↓reduceIte], fun E hE hH => ?_⟩; simp only [go_sem, ↓reduceIte] at hE hH; simp only [go_sem, hE, hH, ↓reduceIte, c_impl_HoldsLease]
    repeat' (first | ((with_reducible (first | refine gd_t (fun h => ?_) (fun h => ?_) | refine gd_f (fun h => ?_) (fun h => ?_))) <;> (have hb := h; (try simp only [decide_eq_true_eq, decide_eq_false_iff_not, Int.not_lt, Int.not_le, ge_iff_le, gt_iff_lt, Bool.not_eq_true', Bool.not_eq_false', beq_iff_eq, bne_iff_ne, beq_eq_false_iff_ne, bne_eq_false_iff_eq, Int.ofNat_lt, Int.ofNat_le] at h); simp (disch := omega) only [go_sem, hE, hH, ↓reduceIte, hb]; (try clear hb))) | ((with_reducible refine And.intro ?_ ?_); · omega) | (refine ok_view ?_; simp (disch := omega) only [go_sem, hE, hH, ↓reduceIte]) | (refine cvA (i1) ?_; simp (disch := omega) only [go_sem, hE, hH, ↓reduceIte]) | (with_reducible apply jn) | (with_reducible apply both) | (with_reducible refine And.intro ?_ ?_) | ((with_reducible apply fin_eq); (try (simp (disch := omega) only [go_sem, hE, hH, ↓reduceIte])); first | done | rfl) | (simp (disch := omega) only [go_sem, hE, hH, ↓reduceIte]) | (exact (noMLL_set (by simp only [go_sem, hE, hH, ↓reduceIte]) (by simp only [go_sem, hE, hH, ↓reduceIte])).2 trivial) | (exact (pk_set (by simp only [go_sem, hE, hH, ↓reduceIte]) (by simp only [go_sem, hE, hH, ↓reduceIte])).2 trivial) | (simp only [go_sem, hE, hH, ↓reduceIte]) | fail)
    all_goals (rw [e]; try rfl)
  | true =>
    rw [h1] at i1
    cases h2 : rng i 0 ((w.Clocks.length : Int) - 1) with
    | false =>
      rw [h2] at i2
      have e : hasW w i = false := by simp [hasW, h2]
      refine fn_in h_impl_HoldsLease r_impl_HoldsLease ⟨by simp only [go_sem, ↓reduceIte], fun E hE hH => ?_⟩; simp only [go_sem, ↓reduceIte] at hE hH; simp only [go_sem, hE, hH, ↓reduceIte, c_impl_HoldsLease]
      repeat' (first | ((with_reducible (first | refine gd_t (fun h => ?_) (fun h => ?_) | refine gd_f (fun h => ?_) (fun h => ?_))) <;> (have hb := h; (try simp only [decide_eq_true_eq, decide_eq_false_iff_not, Int.not_lt, Int.not_le, ge_iff_le, gt_iff_lt, Bool.not_eq_true', Bool.not_eq_false', beq_iff_eq, bne_iff_ne, beq_eq_false_iff_ne, bne_eq_false_iff_eq, Int.ofNat_lt, Int.ofNat_le] at h); simp (disch := omega) only [go_sem, hE, hH, ↓reduceIte, hb]; (try clear hb))) | ((with_reducible refine And.intro ?_ ?_); · omega) | (refine ok_view ?_; simp (disch := omega) only [go_sem, hE, hH, ↓reduceIte]) | (refine cvA (i1) ?_; simp (disch := omega) only [go_sem, hE, hH, ↓reduceIte]) | (refine cvA (i2) ?_; simp (disch := omega) only [go_sem, hE, hH, ↓reduceIte]) | (with_reducible apply jn) | (with_reducible apply both) | (with_reducible refine And.intro ?_ ?_) | ((with_reducible apply fin_eq); (try (simp (disch := omega) only [go_sem, hE, hH, ↓reduceIte])); first | done | rfl) | (simp (disch := omega) only [go_sem, hE, hH, ↓reduceIte]) | (exact (noMLL_set (by simp only [go_sem, hE, hH, ↓reduceIte]) (by simp only [go_sem, hE, hH, ↓reduceIte])).2 trivial) | (exact (pk_set (by simp only [go_sem, hE, hH, ↓reduceIte]) (by simp only [go_sem, hE, hH, ↓reduceIte])).2 trivial) | (simp only [go_sem, hE, hH, ↓reduceIte]) | fail)
      all_goals (rw [e]; try rfl)
    | true =>
      rw [h2] at i2
      have hh : hasW w i = true := by simp [hasW, h1, h2]
      refine fn_in h_impl_HoldsLease r_impl_HoldsLease ⟨by simp only [go_sem, ↓reduceIte], fun E hE hH => ?_⟩; simp only [go_sem, ↓reduceIte] at hE hH; simp only [go_sem, hE, hH, ↓reduceIte, c_impl_HoldsLease]
      repeat' (first | ((with_reducible (first | refine gd_t (fun h => ?_) (fun h => ?_) | refine gd_f (fun h => ?_) (fun h => ?_))) <;> (have hb := h; (try simp only [decide_eq_true_eq, decide_eq_false_iff_not, Int.not_lt, Int.not_le, ge_iff_le, gt_iff_lt, Bool.not_eq_true', Bool.not_eq_false', beq_iff_eq, bne_iff_ne, beq_eq_false_iff_ne, bne_eq_false_iff_eq, Int.ofNat_lt, Int.ofNat_le] at h); simp (disch := omega) only [go_sem, hE, hH, ↓reduceIte, hb]; (try clear hb))) | ((with_reducible refine And.intro ?_ ?_); · omega) | (refine ok_view ?_; simp (disch := omega) only [go_sem, hE, hH, ↓reduceIte]) | (refine cvA (i1) ?_; simp (disch := omega) only [go_sem, hE, hH, ↓reduceIte]) | (refine cvA (i2) ?_; simp (disch := omega) only [go_sem, hE, hH, ↓reduceIte]) | (refine cvA (holds_ok w i hh) ?_; simp (disch := omega) only [go_sem, hE, hH, ↓reduceIte]) | (with_reducible apply jn) | (with_reducible apply both) | (with_reducible refine And.intro ?_ ?_) | ((with_reducible apply fin_eq); (try (simp (disch := omega) only [go_sem, hE, hH, ↓reduceIte])); first | done | rfl) | (simp (disch := omega) only [go_sem, hE, hH, ↓reduceIte]) | (exact (noMLL_set (by simp only [go_sem, hE, hH, ↓reduceIte]) (by simp only [go_sem, hE, hH, ↓reduceIte])).2 trivial) | (exact (pk_set (by simp only [go_sem, hE, hH, ↓reduceIte]) (by simp only [go_sem, hE, hH, ↓reduceIte])).2 trivial) | (simp only [go_sem, hE, hH, ↓reduceIte]) | fail)
      all_goals (rw [hh]; try rfl)
theorem l10Holds_ok (w : Watch) (i : Int) (hh : hasW w i = true) : ACall Try.prog n_spec_l10Holds [.agg (Watch.row false w), i64 i] (fun r _ => r = bl (holdsW w i)) := by
  have hmx := mx_eq
  obtain ⟨h0, b1, b2, ⟨a1, a2, a3, a4, a5⟩, a6⟩ := hasW_at hh
  have hany : holdsW w i = !(allN (fun k => !holdsL i (highW w i) (nth w.Given k)) w.Given.length) := by
    rw [allN_all (p := fun l => !holdsL i (highW w i) l), holdsW, ← any_not]; simp
  refine fn_in h_spec_l10Holds r_spec_l10Holds ⟨by simp only [go_sem, ↓reduceIte], fun E hE hH => ?_⟩; simp only [go_sem, ↓reduceIte] at hE hH; simp only [go_sem, hE, hH, ↓reduceIte, c_spec_l10Holds]
  repeat' (first | ((with_reducible (first | refine gd_t (fun h => ?_) (fun h => ?_) | refine gd_f (fun h => ?_) (fun h => ?_))) <;> (have hb := h; (try simp only [decide_eq_true_eq, decide_eq_false_iff_not, Int.not_lt, Int.not_le, ge_iff_le, gt_iff_lt, Bool.not_eq_true', Bool.not_eq_false', beq_iff_eq, bne_iff_ne, beq_eq_false_iff_ne, bne_eq_false_iff_eq, Int.ofNat_lt, Int.ofNat_le] at h); simp (disch := omega) only [go_sem, hE, hH, ↓reduceIte, hb]; (try clear hb))) | ((with_reducible refine And.intro ?_ ?_); · omega) | (refine ok_view ?_; simp (disch := omega) only [go_sem, hE, hH, ↓reduceIte]) | (refine cvA (l10Span_ok w i hh) ?_; simp (disch := omega) only [go_sem, hE, hH, ↓reduceIte]) | (with_reducible apply jn) | (with_reducible apply both) | (with_reducible refine And.intro ?_ ?_) | ((with_reducible apply fin_eq); (try (simp (disch := omega) only [go_sem, hE, hH, ↓reduceIte])); first | done | rfl) | (simp (disch := omega) only [go_sem, hE, hH, ↓reduceIte]) | (exact (noMLL_set (by simp only [go_sem, hE, hH, ↓reduceIte]) (by simp only [go_sem, hE, hH, ↓reduceIte])).2 trivial) | (exact (pk_set (by simp only [go_sem, hE, hH, ↓reduceIte]) (by simp only [go_sem, hE, hH, ↓reduceIte])).2 trivial) | (simp only [go_sem, hE, hH, ↓reduceIte]) | fail)
  refine loopN w.Given.length (fun j (_ : Unit) => ⟨[(1, i64 i), (2, .ptr 3000000 0 0), (5, i64 (highW w i)), (6, i64 j)], [(3000000, ⟨3, [Watch.row false w]⟩)]⟩) (fun j _ => allN (fun k => !holdsL i (highW w i) (nth w.Given k)) j = true) () rfl ?_
  intro j _ hj hI
  try simp only [go_sem, hE, hH, ↓reduceIte, c_spec_l10Holds_l1]
  first | refine gd_t (fun h1 => ?_) (fun h1 => ?_) | refine gd_f (fun h1 => ?_) (fun h1 => ?_)
  · have hb1 := h1
    simp only [decide_eq_true_eq, decide_eq_false_iff_not, Int.not_lt, Int.not_le, ge_iff_le, gt_iff_lt, Bool.not_eq_true', Bool.not_eq_false', beq_iff_eq, bne_iff_ne, beq_eq_false_iff_ne, bne_eq_false_iff_eq, Int.ofNat_lt, Int.ofNat_le] at h1
    have hlt := h1; clear h1
    try simp (disch := omega) only [go_sem, hE, hH, ↓reduceIte, hb1]
    repeat' (first | ((with_reducible (first | refine gd_t (fun h => ?_) (fun h => ?_) | refine gd_f (fun h => ?_) (fun h => ?_))) <;> (have hb := h; (try simp only [decide_eq_true_eq, decide_eq_false_iff_not, Int.not_lt, Int.not_le, ge_iff_le, gt_iff_lt, Bool.not_eq_true', Bool.not_eq_false', beq_iff_eq, bne_iff_ne, beq_eq_false_iff_ne, bne_eq_false_iff_eq, Int.ofNat_lt, Int.ofNat_le] at h); simp (disch := omega) only [go_sem, hE, hH, ↓reduceIte, hb]; (try clear hb))) | ((with_reducible refine And.intro ?_ ?_); · omega) | (with_reducible apply jn) | (with_reducible apply both) | (with_reducible refine And.intro ?_ ?_) | ((with_reducible apply fin_eq); (try (simp (disch := omega) only [go_sem, hE, hH, ↓reduceIte])); first | done | rfl) | (simp (disch := omega) only [go_sem, hE, hH, ↓reduceIte]) | (exact (noMLL_set (by simp only [go_sem, hE, hH, ↓reduceIte]) (by simp only [go_sem, hE, hH, ↓reduceIte])).2 trivial) | (exact (pk_set (by simp only [go_sem, hE, hH, ↓reduceIte]) (by simp only [go_sem, hE, hH, ↓reduceIte])).2 trivial) | (simp only [go_sem, hE, hH, ↓reduceIte]) | fail)
    all_goals (first | (rw [hany, allN_no hlt (by simp_all [holdsL])]; rfl) | exact ⟨(), rfl, allN_step hI (by simp_all [holdsL])⟩ | exact ⟨(), rfl, allN_step hI (by simp_all [holdsL]; omega)⟩ | trace_state)
  · try simp (disch := omega) only [go_sem, hE, hH, ↓reduceIte, h1]
    simp only [decide_eq_true_eq, decide_eq_false_iff_not, Int.not_lt, Int.not_le, ge_iff_le, gt_iff_lt, Bool.not_eq_true', Bool.not_eq_false', beq_iff_eq, bne_iff_ne, beq_eq_false_iff_ne, bne_eq_false_iff_eq, Int.ofNat_lt, Int.ofNat_le] at h1
    rw [show j = w.Given.length by omega] at hI
    rw [hany, hI]; try rfl
def cutL (i lo : Int) (l : Lease) : Lease := if l.Who = i ∧ lo ≤ l.Until then ⟨l.Who, l.From, lo - 1⟩ else l
def giveV (w : Watch) (i : Int) : Watch := ⟨w.True, w.Clocks, w.Given.map (cutL i (lowW w i))⟩
def giveW (w : Watch) (i : Int) : Watch × Bool := if hasW w i && holdsW w i then (giveV w i, true) else (zeroW, false)
theorem giveV_ok {w : Watch} {i : Int} (hh : hasW w i = true) : watchOk (giveV w i) = true := by
  obtain ⟨h0, _⟩ := hasW_at hh
  have hlw := lowW_rng hh
  have g := h0
  simp only [watchOk, Bool.and_eq_true] at g
  obtain ⟨⟨⟨g1, g2⟩, g4⟩, g5⟩ := g
  have : (w.Given.map (cutL i (lowW w i))).all (leaseOk w.Clocks.length) = true := by
    rw [List.all_eq_true]
    intro x hx
    obtain ⟨y, hy, rfl⟩ := List.mem_map.1 hx
    have hg := (List.all_eq_true.1 g5) y hy
    unfold cutL
    split
    · simp only [leaseOk, Bool.and_eq_true, rng_iff] at hg ⊢
      exact ⟨hg.1, by omega, by omega⟩
    · exact hg
  simp only [watchOk, giveV, List.length_map, g1, g2, g4, this, Bool.true_and, Bool.and_true]
theorem cutL_yes {i lo : Int} {l : Lease} (h1 : l.Who = i) (h2 : lo ≤ l.Until) : cutL i lo l = ⟨l.Who, l.From, lo - 1⟩ := if_pos ⟨h1, h2⟩
theorem cutL_no {i lo : Int} {l : Lease} (h : ¬ (l.Who = i ∧ lo ≤ l.Until)) : cutL i lo l = l := if_neg h
def cutR (w : Watch) (i : Int) (l : Lease) : List T := Lease.row true (cutL i (lowW w i) l)
theorem cutR_eq (w : Watch) (i : Int) (l : Lease) : cutR w i l = [i64 (cutL i (lowW w i) l).Who, i64 (cutL i (lowW w i) l).From, i64 (cutL i (lowW w i) l).Until] := rfl
theorem cutR_map (w : Watch) (i : Int) : w.Given.map (cutR w i) = (giveV w i).Given.map (Lease.row true) := by
  simp only [giveV, List.map_map]; rfl
theorem cutR_noM (w : Watch) (i : Int) {j d : Nat} : noMLL d (cp2 (cutR w i) (Lease.row true) w.Given j) := cp2_noM (fun x => by simp only [cutR_eq, go_sem]) (fun x => by simp only [go_sem])
set_option maxHeartbeats 2000000 in
theorem GiveBack_ok (w : Watch) (i : Int) (hw : watchM w) : ACall Try.prog n_impl_GiveBack [.agg (Watch.row false w), i64 i] (fun r _ => r = .tup [.agg (Watch.row true (giveW w i).1), bl (giveW w i).2]) := by
  have hmx := mx_eq
  have i1 := HoldsLease_ok w i hw
  cases hb : (hasW w i && holdsW w i) with
  | false =>
    rw [hb] at i1
    have e : giveW w i = (zeroW, false) := by simp only [giveW, hb]; rfl
    refine fn_in h_impl_GiveBack r_impl_GiveBack ⟨by simp only [go_sem, ↓reduceIte], fun E hE hH => ?_⟩; simp only [go_sem, ↓reduceIte] at hE hH; simp only [go_sem, hE, hH, ↓reduceIte, c_impl_GiveBack]
    repeat' (first | ((with_reducible (first | refine gd_t (fun h => ?_) (fun h => ?_) | refine gd_f (fun h => ?_) (fun h => ?_))) <;> (have hb := h; (try simp only [decide_eq_true_eq, decide_eq_false_iff_not, Int.not_lt, Int.not_le, ge_iff_le, gt_iff_lt, Bool.not_eq_true', Bool.not_eq_false', beq_iff_eq, bne_iff_ne, beq_eq_false_iff_ne, bne_eq_false_iff_eq, Int.ofNat_lt, Int.ofNat_le] at h); simp (disch := omega) only [go_sem, hE, hH, ↓reduceIte, hb]; (try clear hb))) | ((with_reducible refine And.intro ?_ ?_); · omega) | (refine ok_view ?_; simp (disch := omega) only [go_sem, hE, hH, ↓reduceIte]) | (refine cvA (i1) ?_; simp (disch := omega) only [go_sem, hE, hH, ↓reduceIte]) | (with_reducible apply jn) | (with_reducible apply both) | (with_reducible refine And.intro ?_ ?_) | ((with_reducible apply fin_eq); (try (simp (disch := omega) only [go_sem, hE, hH, ↓reduceIte])); first | done | rfl) | (simp (disch := omega) only [go_sem, hE, hH, ↓reduceIte]) | (exact (noMLL_set (by simp only [go_sem, hE, hH, ↓reduceIte]) (by simp only [go_sem, hE, hH, ↓reduceIte])).2 trivial) | (exact (pk_set (by simp only [go_sem, hE, hH, ↓reduceIte]) (by simp only [go_sem, hE, hH, ↓reduceIte])).2 trivial) | (simp only [go_sem, hE, hH, ↓reduceIte]) | fail)
    all_goals (rw [e]; try rfl)
  | true =>
    rw [hb] at i1
    have hh : hasW w i = true := by simp only [Bool.and_eq_true] at hb; exact hb.1
    obtain ⟨h0, b1, b2, ⟨a1, a2, a3, a4, a5⟩, a6⟩ := hasW_at hh
    have hlw := lowW_rng hh
    have hv := giveV_ok hh
    have e : giveW w i = ifW (giveV w i) := by simp only [giveW, hb, ifW, hv]; try rfl
    have hq : watchM (giveV w i) := ⟨by simp only [giveV]; omega, by simp only [giveV, List.length_map]; omega⟩
    refine fn_in h_impl_GiveBack r_impl_GiveBack ⟨by simp only [go_sem, ↓reduceIte], fun E hE hH => ?_⟩; simp only [go_sem, ↓reduceIte] at hE hH; simp only [go_sem, hE, hH, ↓reduceIte, c_impl_GiveBack]
    repeat' (first | ((with_reducible (first | refine gd_t (fun h => ?_) (fun h => ?_) | refine gd_f (fun h => ?_) (fun h => ?_))) <;> (have hb := h; (try simp only [decide_eq_true_eq, decide_eq_false_iff_not, Int.not_lt, Int.not_le, ge_iff_le, gt_iff_lt, Bool.not_eq_true', Bool.not_eq_false', beq_iff_eq, bne_iff_ne, beq_eq_false_iff_ne, bne_eq_false_iff_eq, Int.ofNat_lt, Int.ofNat_le] at h); simp (disch := omega) only [go_sem, hE, hH, ↓reduceIte, hb]; (try clear hb))) | ((with_reducible refine And.intro ?_ ?_); · omega) | (refine ok_view ?_; simp (disch := omega) only [go_sem, hE, hH, ↓reduceIte]) | (refine cvA (i1) ?_; simp (disch := omega) only [go_sem, hE, hH, ↓reduceIte]) | (refine cvA (copyWatch_ok w (by omega) (by omega)) ?_; simp (disch := omega) only [go_sem, hE, hH, ↓reduceIte]) | (refine cvA (wspan_ok w i hh) ?_; simp (disch := omega) only [go_sem, hE, hH, ↓reduceIte]) | (with_reducible apply jn) | (with_reducible apply both) | (with_reducible refine And.intro ?_ ?_) | ((with_reducible apply fin_eq); (try (simp (disch := omega) only [go_sem, hE, hH, ↓reduceIte])); first | done | rfl) | (simp (disch := omega) only [go_sem, hE, hH, ↓reduceIte]) | (exact (noMLL_set (by simp only [go_sem, hE, hH, ↓reduceIte]) (by simp only [go_sem, hE, hH, ↓reduceIte])).2 trivial) | (exact (pk_set (by simp only [go_sem, hE, hH, ↓reduceIte]) (by simp only [go_sem, hE, hH, ↓reduceIte])).2 trivial) | (simp only [go_sem, hE, hH, ↓reduceIte]) | fail)
    refine loopNe w.Given.length (fun j (_ : Unit) => ⟨[(1, i64 i), (4, .ptr 5000000 0 0), (8, .ptr 9000000 0 0), (9, i64 (lowW w i)), (28, .ref 9000003 0 w.Given.length), (29, i64 w.Given.length), (30, i64 j)], [(5000000, ⟨3, [[i64 0, nils, nils]]⟩), (9000000, ⟨3, [[i64 w.True, .ref 9000002 0 w.Clocks.length, .ref 9000003 0 w.Given.length]]⟩), (9000002, ⟨1, w.Clocks.map (Clock.row true)⟩), (9000003, ⟨3, cp2 (cutR w i) (Lease.row true) w.Given j⟩)]⟩) (fun _ _ => True) () (by rw [cp2_zero]; try rfl) trivial ?_
    intro j _ hj _
    try simp only [go_sem, hE, hH, ↓reduceIte, c_impl_GiveBack_l1]
    first | refine gd_t (fun h1 => ?_) (fun h1 => ?_) | refine gd_f (fun h1 => ?_) (fun h1 => ?_)
    · have hb1 := h1
      simp only [decide_eq_true_eq, decide_eq_false_iff_not, Int.not_lt, Int.not_le, ge_iff_le, gt_iff_lt, Bool.not_eq_true', Bool.not_eq_false', beq_iff_eq, bne_iff_ne, beq_eq_false_iff_ne, bne_eq_false_iff_eq, Int.ofNat_lt, Int.ofNat_le] at h1
      have hlt := h1; clear h1
      have hg := cp2_get (f := cutR w i) (g := Lease.row true) hlt
      have hn := cp2_len (f := cutR w i) (g := Lease.row true) (l := w.Given) (j := j)
      have hs := fun r => cp2_gs (f := cutR w i) (g := Lease.row true) (k := j) hlt (r := r)
      simp only [Lease.row_eq] at hg
      have hyes : (nth w.Given j).Who = i → lowW w i ≤ (nth w.Given j).Until → cutR w i (nth w.Given j) = [i64 (nth w.Given j).Who, i64 (nth w.Given j).From, i64 (lowW w i - 1)] := fun p q => by rw [cutR_eq, cutL_yes p q]
      have hno : ¬ ((nth w.Given j).Who = i ∧ lowW w i ≤ (nth w.Given j).Until) → cutR w i (nth w.Given j) = Lease.row true (nth w.Given j) := fun p => by rw [cutR, cutL_no p]
      try simp (disch := omega) only [go_sem, hE, hH, ↓reduceIte, hg, hn, hs, hb1]
      repeat' (first | ((with_reducible (first | refine gd_t (fun h => ?_) (fun h => ?_) | refine gd_f (fun h => ?_) (fun h => ?_))) <;> (have hb := h; (try simp only [decide_eq_true_eq, decide_eq_false_iff_not, Int.not_lt, Int.not_le, ge_iff_le, gt_iff_lt, Bool.not_eq_true', Bool.not_eq_false', beq_iff_eq, bne_iff_ne, beq_eq_false_iff_ne, bne_eq_false_iff_eq, Int.ofNat_lt, Int.ofNat_le] at h); simp (disch := omega) only [go_sem, hE, hH, ↓reduceIte, hg, hn, hs, hb]; (try clear hb))) | ((with_reducible refine And.intro ?_ ?_); · omega) | (with_reducible apply jn) | (with_reducible apply both) | (with_reducible refine And.intro ?_ ?_) | ((with_reducible apply fin_eq); (try (simp (disch := omega) only [go_sem, hE, hH, ↓reduceIte, hg, hn, hs])); first | done | rfl) | (simp (disch := omega) only [go_sem, hE, hH, ↓reduceIte, hg, hn, hs]) | (exact (noMLL_set (by simp only [go_sem, hE, hH, ↓reduceIte, hg, hn, hs]) (by simp only [go_sem, hE, hH, ↓reduceIte, hg, hn, hs])).2 trivial) | (exact (pk_set (by simp only [go_sem, hE, hH, ↓reduceIte, hg, hn, hs]) (by simp only [go_sem, hE, hH, ↓reduceIte, hg, hn, hs])).2 trivial) | (simp only [go_sem, hE, hH, ↓reduceIte, hg, hn, hs]) | fail)
      all_goals try (rw [cp2_len]; omega)
      all_goals try exact cutR_noM w i
      · refine ⟨(), ?_⟩
        rw [← cp2_set (f := cutR w i) (g := Lease.row true) hlt rfl, hyes (by assumption) h]
        rfl
      · refine ⟨(), ?_⟩
        rw [cp2_same hlt (hno (fun p => by omega))]
        rfl
      · refine ⟨(), ?_⟩
        rw [cp2_same hlt (hno (fun p => h p.1))]
        rfl
    · try simp (disch := omega) only [go_sem, hE, hH, ↓reduceIte, h1]
      simp only [decide_eq_true_eq, decide_eq_false_iff_not, Int.not_lt, Int.not_le, ge_iff_le, gt_iff_lt, Bool.not_eq_true', Bool.not_eq_false', beq_iff_eq, bne_iff_ne, beq_eq_false_iff_ne, bne_eq_false_iff_eq, Int.ofNat_lt, Int.ofNat_le] at h1
      rw [cp2_end (show j = w.Given.length by omega), cutR_map]
      have ml : (giveV w i).Given.length = w.Given.length := by simp only [giveV, List.length_map]
      try simp (disch := omega) only [go_sem, hE, hH, ↓reduceIte]
      repeat' (first | ((with_reducible (first | refine gd_t (fun h => ?_) (fun h => ?_) | refine gd_f (fun h => ?_) (fun h => ?_))) <;> (have hb := h; (try simp only [decide_eq_true_eq, decide_eq_false_iff_not, Int.not_lt, Int.not_le, ge_iff_le, gt_iff_lt, Bool.not_eq_true', Bool.not_eq_false', beq_iff_eq, bne_iff_ne, beq_eq_false_iff_ne, bne_eq_false_iff_eq, Int.ofNat_lt, Int.ofNat_le] at h); simp (disch := omega) only [go_sem, hE, hH, ↓reduceIte, ml, hb]; (try clear hb))) | ((with_reducible refine And.intro ?_ ?_); · omega) | (refine ok_lend [true] ?_; simp (disch := omega) only [go_sem, hE, hH, ↓reduceIte, ml]; refine cmA (ifWatch_ok (giveV w i) hq) ?_; simp (disch := omega) only [go_sem, hE, hH, ↓reduceIte, ml]) | (with_reducible apply jn) | (with_reducible apply both) | (with_reducible refine And.intro ?_ ?_) | ((with_reducible apply fin_eq); (try (simp (disch := omega) only [go_sem, hE, hH, ↓reduceIte, ml])); first | done | rfl) | (simp (disch := omega) only [go_sem, hE, hH, ↓reduceIte, ml]) | (exact (noMLL_set (by simp only [go_sem, hE, hH, ↓reduceIte, ml]) (by simp only [go_sem, hE, hH, ↓reduceIte, ml])).2 trivial) | (exact (pk_set (by simp only [go_sem, hE, hH, ↓reduceIte, ml]) (by simp only [go_sem, hE, hH, ↓reduceIte, ml])).2 trivial) | (simp only [go_sem, hE, hH, ↓reduceIte, ml]) | fail)
      all_goals try omega
      all_goals (rw [e]; try rfl)
set_option maxHeartbeats 2000000 in
theorem sGiveBack_ok (w : Watch) (i : Int) (hw : watchM w) : ACall Try.prog n_spec_GiveBack [.agg (Watch.row false w), i64 i] (fun r _ => r = .tup [.agg (Watch.row true (giveW w i).1), bl (giveW w i).2]) := by
  have hmx := mx_eq
  have i1 := l10Has_ok w i hw
  cases hh : hasW w i with
  | false =>
    rw [hh] at i1
    have e : giveW w i = (zeroW, false) := by simp only [giveW, hh]; rfl
    refine fn_in h_spec_GiveBack r_spec_GiveBack ⟨by simp only [go_sem, ↓reduceIte], fun E hE hH => ?_⟩; simp only [go_sem, ↓reduceIte] at hE hH; simp only [go_sem, hE, hH, ↓reduceIte, c_spec_GiveBack]
    repeat' (first | ((with_reducible (first | refine gd_t (fun h => ?_) (fun h => ?_) | refine gd_f (fun h => ?_) (fun h => ?_))) <;> (have hb := h; (try simp only [decide_eq_true_eq, decide_eq_false_iff_not, Int.not_lt, Int.not_le, ge_iff_le, gt_iff_lt, Bool.not_eq_true', Bool.not_eq_false', beq_iff_eq, bne_iff_ne, beq_eq_false_iff_ne, bne_eq_false_iff_eq, Int.ofNat_lt, Int.ofNat_le] at h); simp (disch := omega) only [go_sem, hE, hH, ↓reduceIte, hb]; (try clear hb))) | ((with_reducible refine And.intro ?_ ?_); · omega) | (refine ok_view ?_; simp (disch := omega) only [go_sem, hE, hH, ↓reduceIte]) | (refine cvA (i1) ?_; simp (disch := omega) only [go_sem, hE, hH, ↓reduceIte]) | (with_reducible apply jn) | (with_reducible apply both) | (with_reducible refine And.intro ?_ ?_) | ((with_reducible apply fin_eq); (try (simp (disch := omega) only [go_sem, hE, hH, ↓reduceIte])); first | done | rfl) | (simp (disch := omega) only [go_sem, hE, hH, ↓reduceIte]) | (exact (noMLL_set (by simp only [go_sem, hE, hH, ↓reduceIte]) (by simp only [go_sem, hE, hH, ↓reduceIte])).2 trivial) | (exact (pk_set (by simp only [go_sem, hE, hH, ↓reduceIte]) (by simp only [go_sem, hE, hH, ↓reduceIte])).2 trivial) | (simp only [go_sem, hE, hH, ↓reduceIte]) | fail)
    all_goals (rw [e]; try rfl)
  | true =>
    rw [hh] at i1
    have i2 := l10Holds_ok w i hh
    obtain ⟨h0, b1, b2, ⟨a1, a2, a3, a4, a5⟩, a6⟩ := hasW_at hh
    have hlw := lowW_rng hh
    cases hb : holdsW w i with
    | false =>
      rw [hb] at i2
      have e : giveW w i = (zeroW, false) := by simp only [giveW, hb, Bool.and_false]; rfl
      refine fn_in h_spec_GiveBack r_spec_GiveBack ⟨by simp only [go_sem, ↓reduceIte], fun E hE hH => ?_⟩; simp only [go_sem, ↓reduceIte] at hE hH; simp only [go_sem, hE, hH, ↓reduceIte, c_spec_GiveBack]
      repeat' (first | ((with_reducible (first | refine gd_t (fun h => ?_) (fun h => ?_) | refine gd_f (fun h => ?_) (fun h => ?_))) <;> (have hb := h; (try simp only [decide_eq_true_eq, decide_eq_false_iff_not, Int.not_lt, Int.not_le, ge_iff_le, gt_iff_lt, Bool.not_eq_true', Bool.not_eq_false', beq_iff_eq, bne_iff_ne, beq_eq_false_iff_ne, bne_eq_false_iff_eq, Int.ofNat_lt, Int.ofNat_le] at h); simp (disch := omega) only [go_sem, hE, hH, ↓reduceIte, hb]; (try clear hb))) | ((with_reducible refine And.intro ?_ ?_); · omega) | (refine ok_view ?_; simp (disch := omega) only [go_sem, hE, hH, ↓reduceIte]) | (refine cvA (i1) ?_; simp (disch := omega) only [go_sem, hE, hH, ↓reduceIte]) | (refine cvA (i2) ?_; simp (disch := omega) only [go_sem, hE, hH, ↓reduceIte]) | (with_reducible apply jn) | (with_reducible apply both) | (with_reducible refine And.intro ?_ ?_) | ((with_reducible apply fin_eq); (try (simp (disch := omega) only [go_sem, hE, hH, ↓reduceIte])); first | done | rfl) | (simp (disch := omega) only [go_sem, hE, hH, ↓reduceIte]) | (exact (noMLL_set (by simp only [go_sem, hE, hH, ↓reduceIte]) (by simp only [go_sem, hE, hH, ↓reduceIte])).2 trivial) | (exact (pk_set (by simp only [go_sem, hE, hH, ↓reduceIte]) (by simp only [go_sem, hE, hH, ↓reduceIte])).2 trivial) | (simp only [go_sem, hE, hH, ↓reduceIte]) | fail)
      all_goals (rw [e]; try rfl)
    | true =>
      rw [hb] at i2
      have e : giveW w i = (giveV w i, true) := by simp only [giveW, hb, hh]; rfl
      refine fn_in h_spec_GiveBack r_spec_GiveBack ⟨by simp only [go_sem, ↓reduceIte], fun E hE hH => ?_⟩; simp only [go_sem, ↓reduceIte] at hE hH; simp only [go_sem, hE, hH, ↓reduceIte, c_spec_GiveBack]
      repeat' (first | ((with_reducible (first | refine gd_t (fun h => ?_) (fun h => ?_) | refine gd_f (fun h => ?_) (fun h => ?_))) <;> (have hb := h; (try simp only [decide_eq_true_eq, decide_eq_false_iff_not, Int.not_lt, Int.not_le, ge_iff_le, gt_iff_lt, Bool.not_eq_true', Bool.not_eq_false', beq_iff_eq, bne_iff_ne, beq_eq_false_iff_ne, bne_eq_false_iff_eq, Int.ofNat_lt, Int.ofNat_le] at h); simp (disch := omega) only [go_sem, hE, hH, ↓reduceIte, hb]; (try clear hb))) | ((with_reducible refine And.intro ?_ ?_); · omega) | (refine ok_view ?_; simp (disch := omega) only [go_sem, hE, hH, ↓reduceIte]) | (refine cvA (i1) ?_; simp (disch := omega) only [go_sem, hE, hH, ↓reduceIte]) | (refine cvA (i2) ?_; simp (disch := omega) only [go_sem, hE, hH, ↓reduceIte]) | (refine cvA (l10Own_ok w (by omega) (by omega)) ?_; simp (disch := omega) only [go_sem, hE, hH, ↓reduceIte]) | (refine cvA (l10Span_ok w i hh) ?_; simp (disch := omega) only [go_sem, hE, hH, ↓reduceIte]) | (with_reducible apply jn) | (with_reducible apply both) | (with_reducible refine And.intro ?_ ?_) | ((with_reducible apply fin_eq); (try (simp (disch := omega) only [go_sem, hE, hH, ↓reduceIte])); first | done | rfl) | (simp (disch := omega) only [go_sem, hE, hH, ↓reduceIte]) | (exact (noMLL_set (by simp only [go_sem, hE, hH, ↓reduceIte]) (by simp only [go_sem, hE, hH, ↓reduceIte])).2 trivial) | (exact (pk_set (by simp only [go_sem, hE, hH, ↓reduceIte]) (by simp only [go_sem, hE, hH, ↓reduceIte])).2 trivial) | (simp only [go_sem, hE, hH, ↓reduceIte]) | fail)
      refine loopNe w.Given.length (fun j (_ : Unit) => ⟨[(1, i64 i), (4, .ptr 5000000 0 0), (6, .ptr 7000000 0 0), (7, i64 (lowW w i)), (8, i64 j)], [(5000000, ⟨3, [[i64 0, nils, nils]]⟩), (7000000, ⟨3, [[i64 w.True, .ref 7000002 0 w.Clocks.length, .ref 7000003 0 w.Given.length]]⟩), (7000002, ⟨1, w.Clocks.map (Clock.row true)⟩), (7000003, ⟨3, cp2 (cutR w i) (Lease.row true) w.Given j⟩)]⟩) (fun _ _ => True) () (by rw [cp2_zero]; try rfl) trivial ?_
      intro j _ hj _
      try simp only [go_sem, hE, hH, ↓reduceIte, c_spec_GiveBack_l1]
      first | refine gd_t (fun h1 => ?_) (fun h1 => ?_) | refine gd_f (fun h1 => ?_) (fun h1 => ?_)
      · have hb1 := h1
        simp only [decide_eq_true_eq, decide_eq_false_iff_not, Int.not_lt, Int.not_le, ge_iff_le, gt_iff_lt, Bool.not_eq_true', Bool.not_eq_false', beq_iff_eq, bne_iff_ne, beq_eq_false_iff_ne, bne_eq_false_iff_eq, Int.ofNat_lt, Int.ofNat_le] at h1
        have hlt := h1; clear h1
        have hg := cp2_get (f := cutR w i) (g := Lease.row true) hlt
        have hn := cp2_len (f := cutR w i) (g := Lease.row true) (l := w.Given) (j := j)
        have hs := fun r => cp2_gs (f := cutR w i) (g := Lease.row true) (k := j) hlt (r := r)
        simp only [Lease.row_eq] at hg
        have hyes : (nth w.Given j).Who = i → lowW w i ≤ (nth w.Given j).Until → cutR w i (nth w.Given j) = [i64 (nth w.Given j).Who, i64 (nth w.Given j).From, i64 (lowW w i - 1)] := fun p q => by rw [cutR_eq, cutL_yes p q]
        have hno : ¬ ((nth w.Given j).Who = i ∧ lowW w i ≤ (nth w.Given j).Until) → cutR w i (nth w.Given j) = Lease.row true (nth w.Given j) := fun p => by rw [cutR, cutL_no p]
        try simp (disch := omega) only [go_sem, hE, hH, ↓reduceIte, hg, hn, hs, hb1]
        repeat' (first | ((with_reducible (first | refine gd_t (fun h => ?_) (fun h => ?_) | refine gd_f (fun h => ?_) (fun h => ?_))) <;> (have hb := h; (try simp only [decide_eq_true_eq, decide_eq_false_iff_not, Int.not_lt, Int.not_le, ge_iff_le, gt_iff_lt, Bool.not_eq_true', Bool.not_eq_false', beq_iff_eq, bne_iff_ne, beq_eq_false_iff_ne, bne_eq_false_iff_eq, Int.ofNat_lt, Int.ofNat_le] at h); simp (disch := omega) only [go_sem, hE, hH, ↓reduceIte, hg, hn, hs, hb]; (try clear hb))) | ((with_reducible refine And.intro ?_ ?_); · omega) | (with_reducible apply jn) | (with_reducible apply both) | (with_reducible refine And.intro ?_ ?_) | ((with_reducible apply fin_eq); (try (simp (disch := omega) only [go_sem, hE, hH, ↓reduceIte, hg, hn, hs])); first | done | rfl) | (simp (disch := omega) only [go_sem, hE, hH, ↓reduceIte, hg, hn, hs]) | (exact (noMLL_set (by simp only [go_sem, hE, hH, ↓reduceIte, hg, hn, hs]) (by simp only [go_sem, hE, hH, ↓reduceIte, hg, hn, hs])).2 trivial) | (exact (pk_set (by simp only [go_sem, hE, hH, ↓reduceIte, hg, hn, hs]) (by simp only [go_sem, hE, hH, ↓reduceIte, hg, hn, hs])).2 trivial) | (simp only [go_sem, hE, hH, ↓reduceIte, hg, hn, hs]) | fail)
        all_goals try (rw [cp2_len]; omega)
        all_goals try exact cutR_noM w i
        · refine ⟨(), ?_⟩
          rw [← cp2_set (f := cutR w i) (g := Lease.row true) hlt rfl, hyes (by assumption) h]
          rfl
        · refine ⟨(), ?_⟩
          rw [cp2_same hlt (hno (fun p => by omega))]
          rfl
        · refine ⟨(), ?_⟩
          rw [cp2_same hlt (hno (fun p => h p.1))]
          rfl
      · try simp (disch := omega) only [go_sem, hE, hH, ↓reduceIte, h1]
        simp only [decide_eq_true_eq, decide_eq_false_iff_not, Int.not_lt, Int.not_le, ge_iff_le, gt_iff_lt, Bool.not_eq_true', Bool.not_eq_false', beq_iff_eq, bne_iff_ne, beq_eq_false_iff_ne, bne_eq_false_iff_eq, Int.ofNat_lt, Int.ofNat_le] at h1
        rw [cp2_end (show j = w.Given.length by omega), cutR_map]
        have ml : (giveV w i).Given.length = w.Given.length := by simp only [giveV, List.length_map]
        try simp (disch := omega) only [go_sem, hE, hH, ↓reduceIte]
        repeat' (first | ((with_reducible (first | refine gd_t (fun h => ?_) (fun h => ?_) | refine gd_f (fun h => ?_) (fun h => ?_))) <;> (have hb := h; (try simp only [decide_eq_true_eq, decide_eq_false_iff_not, Int.not_lt, Int.not_le, ge_iff_le, gt_iff_lt, Bool.not_eq_true', Bool.not_eq_false', beq_iff_eq, bne_iff_ne, beq_eq_false_iff_ne, bne_eq_false_iff_eq, Int.ofNat_lt, Int.ofNat_le] at h); simp (disch := omega) only [go_sem, hE, hH, ↓reduceIte, ml, hb]; (try clear hb))) | ((with_reducible refine And.intro ?_ ?_); · omega) | (with_reducible apply jn) | (with_reducible apply both) | (with_reducible refine And.intro ?_ ?_) | ((with_reducible apply fin_eq); (try (simp (disch := omega) only [go_sem, hE, hH, ↓reduceIte, ml])); first | done | rfl) | (simp (disch := omega) only [go_sem, hE, hH, ↓reduceIte, ml]) | (exact (noMLL_set (by simp only [go_sem, hE, hH, ↓reduceIte, ml]) (by simp only [go_sem, hE, hH, ↓reduceIte, ml])).2 trivial) | (exact (pk_set (by simp only [go_sem, hE, hH, ↓reduceIte, ml]) (by simp only [go_sem, hE, hH, ↓reduceIte, ml])).2 trivial) | (simp only [go_sem, hE, hH, ↓reduceIte, ml]) | fail)
        all_goals try omega
        all_goals (rw [e]; try rfl)

end Go.Proofs.Wb

/- Contracts of functions. -/
import Derived.Test.YtfnbfkgbflfkdaaGreatFnExactGoodWorldC1
import Derived.Laws.Externs
set_option linter.unusedSimpArgs false
set_option linter.unusedVariables false
set_option linter.unusedSectionVars false
namespace Go.Proofs.Wb
open Go Go.Am
theorem isTime_ok (n : Int) : ACall Tryz.prog n_impl_isTime [i64 n] (fun r _ => r = bl (rng n 1 100000)) := by
  refine fn_in h_impl_isTime r_impl_isTime ⟨by simp only [go_sem], fun E hE hH => ?_⟩; simp only [go_sem] at hE hH; simp only [go_sem, hE, hH, c_impl_isTime]
  repeat' (first | ((with_reducible first | refine gd_t ?_ ?_ | refine gd_f ?_ ?_) <;> (intro h; have hb := h; (try simp only [nf, beq_iff_eq, bne_iff_ne, beq_eq_false_iff_ne, bne_eq_false_iff_eq] at h); simp (disch := omega) only [go_sem, hE, hH, hb]; (try clear hb))) | ((with_reducible refine And.intro ?_ ?_); · omega) | ((first | refine ok_view ?_ | refine cvA (within_ok _ _ _) ?_); simp (disch := omega) only [go_sem, hE, hH]) | (refine jn _ ?_ ?_) | (with_reducible refine both ?_ ?_) | (with_reducible refine And.intro ?_ ?_) | (refine fin_eq ?_; (try (simp (disch := omega) only [go_sem, hE, hH])); first | done | rfl) | (simp (disch := omega) only [go_sem, hE, hH]) | ((first | apply noMLL_sE | apply pk_sE) <;> (simp only [go_sem, hE, hH]; done)) | (simp only [go_sem, hE, hH]) | fail)
theorem l3Time_ok (n : Int) : ACall Tryz.prog n_spec_l3Time [i64 n] (fun r _ => r = bl (rng n 1 100000)) := by
  refine fn_in h_spec_l3Time r_spec_l3Time ⟨by simp only [go_sem], fun E hE hH => ?_⟩; simp only [go_sem] at hE hH; simp only [go_sem, hE, hH, c_spec_l3Time]
  repeat' (first | ((with_reducible first | refine gd_t ?_ ?_ | refine gd_f ?_ ?_) <;> (intro h; have hb := h; (try simp only [nf, beq_iff_eq, bne_iff_ne, beq_eq_false_iff_ne, bne_eq_false_iff_eq] at h); simp (disch := omega) only [go_sem, hE, hH, hb]; (try clear hb))) | ((with_reducible refine And.intro ?_ ?_); · omega) | ((first | refine ok_view ?_ | refine cvA (l1In_ok _ _ _) ?_); simp (disch := omega) only [go_sem, hE, hH]) | (refine jn _ ?_ ?_) | (with_reducible refine both ?_ ?_) | (with_reducible refine And.intro ?_ ?_) | (refine fin_eq ?_; (try (simp (disch := omega) only [go_sem, hE, hH])); first | done | rfl) | (simp (disch := omega) only [go_sem, hE, hH]) | ((first | apply noMLL_sE | apply pk_sE) <;> (simp only [go_sem, hE, hH]; done)) | (simp only [go_sem, hE, hH]) | fail)
theorem l4Keys_ok (l : List ByteArray) (hl : limL (fun s => s.size ≤ maxLen) l) : ACall Tryz.prog n_spec_l4Keys [.sl false 1 (strs l)] (fun r _ => r = bl (risB l && decide ((l.length : Int) ≤ 8))) := by
  obtain ⟨hl, hx⟩ := hl
  have hmx := mx_eq
  refine fn_in h_spec_l4Keys r_spec_l4Keys ⟨by simp only [go_sem], fun E hE hH => ?_⟩; simp only [go_sem] at hE hH; simp only [go_sem, hE, hH, c_spec_l4Keys]
  refine loopN l.length (fun j (_ : Unit) => ⟨[(0, .sl false 1 (strs l)), (5, .sl false 1 (strs l)), (6, i64 l.length), (7, i64 j)], []⟩) (fun j _ => allN (fun i => goodKey (nth l i) && (decide (i = 0) || strLt (nth l (i - 1)) (nth l i))) j = true) () rfl ?_
  intro j _ hj hI
  try simp only [go_sem, hE, hH, c_spec_l4Keys_l1]
  first | refine gd_t (fun h => ?_) (fun h => ?_) | refine gd_f (fun h => ?_) (fun h => ?_)
  · have hb := h
    simp only [nf, beq_iff_eq, bne_iff_ne, beq_eq_false_iff_ne, bne_eq_false_iff_eq] at h
    have hlt := h; clear h
    have hs := hx _ (nth_mem hlt)
    try simp (disch := omega) only [go_sem, hE, hH, hb]
    repeat' (first | ((with_reducible first | refine gd_t ?_ ?_ | refine gd_f ?_ ?_) <;> (intro h; have hb := h; (try simp only [nf, beq_iff_eq, bne_iff_ne, beq_eq_false_iff_ne, bne_eq_false_iff_eq] at h); simp (disch := omega) only [go_sem, hE, hH, hb]; (try clear hb))) | ((with_reducible refine And.intro ?_ ?_); · omega) | ((first | refine ok_view ?_ | refine cvA (l3Key_ok _ (by assumption)) ?_); simp (disch := omega) only [go_sem, hE, hH]) | (refine jn _ ?_ ?_) | (with_reducible refine both ?_ ?_) | (with_reducible refine And.intro ?_ ?_) | (refine fin_eq ?_; (try (simp (disch := omega) only [go_sem, hE, hH])); first | done | rfl) | (simp (disch := omega) only [go_sem, hE, hH]) | ((first | apply noMLL_sE | apply pk_sE) <;> (simp only [go_sem, hE, hH]; done)) | (simp only [go_sem, hE, hH]) | fail)
    · rw [risB, allN_no hlt (by simp_all)]; rfl
    · rw [risB, allN_no hlt (by simp_all <;> omega)]; rfl
    · exact ⟨(), rfl, allN_step hI (by simp_all)⟩
    · exact ⟨(), rfl, allN_step hI (by simp_all <;> omega)⟩
  · try simp (disch := omega) only [go_sem, hE, hH, h]
    simp only [nf, beq_iff_eq, bne_iff_ne, beq_eq_false_iff_ne, bne_eq_false_iff_eq] at h
    rw [show j = l.length by omega] at hI
    rw [risB, hI]
    simp
def bareR (r : Rec) : Bool := decide (r.Lead = 0) && decide (r.Reads.length = 0) && decide (r.Writes.length = 0)
def recOk (r : Rec) : Bool :=
  if r.Kind = 1 then rng r.Txn 1 60 && rng r.Time 1 100000 && rng r.Lead 0 3 && (risB r.Reads && decide ((r.Reads.length : Int) ≤ 8)) && decide ((r.Writes.length : Int) ≤ 8) && goodWrites r.Writes && decide (0 < r.Reads.length + r.Writes.length) && !r.Yes
  else if r.Kind = 2 ∨ r.Kind = 3 then bareR r && rng r.Txn 1 60 && ((r.Yes && rng r.Time 1 100000) || (!r.Yes && decide (r.Time = 0)))
  else if r.Kind = 4 then bareR r && decide (r.Txn = 0) && rng r.Time 1 100000 && !r.Yes
  else false
theorem GoodRec_ok (r : Rec) (hw : r.wf) : ACall Tryz.prog n_impl_GoodRec [.agg (Rec.row false r)] (fun x _ => x = bl (recOk r)) := by
  have hmx := mx_eq
  obtain ⟨w1, w2, w3, w4, w5, w6⟩ := hw
  refine fn_in h_impl_GoodRec r_impl_GoodRec ⟨by simp only [go_sem], fun E hE hH => ?_⟩; simp only [go_sem] at hE hH; simp only [go_sem, hE, hH, c_impl_GoodRec]
  repeat' (first | ((with_reducible first | refine gd_t ?_ ?_ | refine gd_f ?_ ?_) <;> (intro h; have hb := h; (try simp only [nf, beq_iff_eq, bne_iff_ne, beq_eq_false_iff_ne, bne_eq_false_iff_eq] at h); simp (disch := omega) only [go_sem, hE, hH, hb]; (try clear hb))) | ((with_reducible refine And.intro ?_ ?_); · omega) | ((first | refine ok_view ?_ | refine cvA (isTxn_ok _) ?_ | refine cvA (isTime_ok _) ?_ | refine cvA (within_ok _ _ _) ?_ | refine cvA (areRising_ok _ w5) ?_ | refine cvA (GoodWrites_ok _ w6) ?_); simp (disch := omega) only [go_sem, hE, hH]) | (with_reducible apply jn) | (with_reducible apply both) | (with_reducible refine And.intro ?_ ?_) | ((with_reducible apply fin_eq); (try (simp (disch := omega) only [go_sem, hE, hH])); first | done | rfl) | (simp (disch := omega) only [go_sem, hE, hH]) | ((first | apply noMLL_sE | apply pk_sE) <;> (simp only [go_sem, hE, hH]; done)) | (simp only [go_sem, hE, hH]) | fail)
  all_goals (first | (simp_all [recOk, bareR]; done) | (simp_all [recOk, bareR] <;> first | omega | (intros; omega)))
def recW (r : Rec) : Prop := r.wf ∧ r.Reads.length ≤ 2 ^ 60 ∧ r.Writes.length ≤ 2 ^ 60
theorem l4Good_ok (r : Rec) (hw : recW r) : ACall Tryz.prog n_spec_l4Good [.agg (Rec.row false r)] (fun x _ => x = bl (recOk r)) := by
  have hmx := mx_eq
  obtain ⟨⟨w1, w2, w3, w4, w5, w6⟩, z1, z2⟩ := hw
  have hrl : rng (r.Writes.length : Int) 0 8 = decide ((r.Writes.length : Int) ≤ 8) := by simp [rng]
  by_cases hb : r.Reads.length + r.Writes.length = 0
  · have hR : r.Reads = [] := List.length_eq_zero_iff.1 (by omega)
    have hW : r.Writes = [] := List.length_eq_zero_iff.1 (by omega)
    refine fn_in h_spec_l4Good r_spec_l4Good ⟨by simp only [go_sem], fun E hE hH => ?_⟩; simp only [go_sem] at hE hH; simp only [go_sem, hE, hH, c_spec_l4Good]
    repeat' (first | ((with_reducible first | refine gd_t ?_ ?_ | refine gd_f ?_ ?_) <;> (intro h; have hb := h; (try simp only [nf, beq_iff_eq, bne_iff_ne, beq_eq_false_iff_ne, bne_eq_false_iff_eq] at h); simp (disch := omega) only [go_sem, hE, hH, hb]; (try clear hb))) | ((with_reducible refine And.intro ?_ ?_); · omega) | ((first | refine ok_view ?_ | refine cvA (l1In_ok _ _ _) ?_ | refine cvA (l3Time_ok _) ?_ | refine cvA (l4Keys_ok _ w5) ?_ | refine cvA (l3Writes_ok _ w6) ?_); simp (disch := omega) only [go_sem, hE, hH]) | (with_reducible apply jn) | (with_reducible apply both) | (with_reducible refine And.intro ?_ ?_) | ((with_reducible apply fin_eq); (try (simp (disch := omega) only [go_sem, hE, hH])); first | done | rfl) | (simp (disch := omega) only [go_sem, hE, hH]) | ((first | apply noMLL_sE | apply pk_sE) <;> (simp only [go_sem, hE, hH]; done)) | (simp only [go_sem, hE, hH]) | fail)
    all_goals (first | (simp_all [recOk, bareR]; done) | (simp_all [recOk, bareR]; omega))
  · have hn : bareR r = false := by
      have : (decide (r.Reads.length = 0) && decide (r.Writes.length = 0)) = false := by
        rw [Bool.and_eq_false_iff, decide_eq_false_iff_not, decide_eq_false_iff_not]; omega
      rw [bareR, Bool.and_assoc, this, Bool.and_false]
    have hp : 0 < r.Reads.length + r.Writes.length := by omega
    have hp2 : (0 : Int) < (r.Reads.length : Int) + r.Writes.length := by omega
    refine fn_in h_spec_l4Good r_spec_l4Good ⟨by simp only [go_sem], fun E hE hH => ?_⟩; simp only [go_sem] at hE hH; simp only [go_sem, hE, hH, c_spec_l4Good]
    repeat' (first | ((with_reducible first | refine gd_t ?_ ?_ | refine gd_f ?_ ?_) <;> (intro h; have hb := h; (try simp only [nf, beq_iff_eq, bne_iff_ne, beq_eq_false_iff_ne, bne_eq_false_iff_eq] at h); simp (disch := omega) only [go_sem, hE, hH, hb]; (try clear hb))) | ((with_reducible refine And.intro ?_ ?_); · omega) | ((first | refine ok_view ?_ | refine cvA (l1In_ok _ _ _) ?_ | refine cvA (l3Time_ok _) ?_ | refine cvA (l4Keys_ok _ w5) ?_ | refine cvA (l3Writes_ok _ w6) ?_); simp (disch := omega) only [go_sem, hE, hH]) | (with_reducible apply jn) | (with_reducible apply both) | (with_reducible refine And.intro ?_ ?_) | ((with_reducible apply fin_eq); (try (simp (disch := omega) only [go_sem, hE, hH])); first | done | rfl) | (simp (disch := omega) only [go_sem, hE, hH]) | ((first | apply noMLL_sE | apply pk_sE) <;> (simp only [go_sem, hE, hH]; done)) | (simp only [go_sem, hE, hH]) | fail)
    all_goals (clear hb)
    all_goals (first | omega | (simp [recOk, *]; done) | (simp_all [recOk]; done) | (simp_all [recOk] <;> omega) | trace_state)
theorem sGoodRec_ok (r : Rec) (hw : recW r) : ACall Tryz.prog n_spec_GoodRec [.agg (Rec.row false r)] (fun x _ => x = bl (recOk r)) := by
  refine fn_in h_spec_GoodRec r_spec_GoodRec ⟨by simp only [go_sem], fun E hE hH => ?_⟩; simp only [go_sem] at hE hH; simp only [go_sem, hE, hH, c_spec_GoodRec]
  repeat' (first | ((with_reducible first | refine gd_t ?_ ?_ | refine gd_f ?_ ?_) <;> (intro h; have hb := h; (try simp only [nf, beq_iff_eq, bne_iff_ne, beq_eq_false_iff_ne, bne_eq_false_iff_eq] at h); simp (disch := omega) only [go_sem, hE, hH, hb]; (try clear hb))) | ((with_reducible refine And.intro ?_ ?_); · omega) | ((first | refine ok_view ?_ | refine cvA (l4Good_ok r hw) ?_); simp (disch := omega) only [go_sem, hE, hH]) | (refine jn _ ?_ ?_) | (with_reducible refine both ?_ ?_) | (with_reducible refine And.intro ?_ ?_) | (refine fin_eq ?_; (try (simp (disch := omega) only [go_sem, hE, hH])); first | done | rfl) | (simp (disch := omega) only [go_sem, hE, hH]) | ((first | apply noMLL_sE | apply pk_sE) <;> (simp only [go_sem, hE, hH]; done)) | (simp only [go_sem, hE, hH]) | fail)
def entOk (t : Int) (l : List Entry) (i : Nat) : Bool := rng (nth l i).Term 1 t && recOk (nth l i).Rec && (decide (i = 0) || !decide ((nth l i).Term < (nth l (i - 1)).Term))
def logOk (t : Int) (l : List Entry) : Bool := allN (entOk t l) l.length && decide ((l.length : Int) ≤ 60)
theorem logOk_no {t : Int} {l : List Entry} {j : Nat} (hlt : j < l.length) (h : entOk t l j = false) : logOk t l = false := by
  rw [logOk, allN_no hlt h]; rfl
def lastE (l : List Entry) (j : Nat) : Int := if j = 0 then 1 else (nth l (j - 1)).Term
theorem lastE_eq {t : Int} {l : List Entry} {j : Nat} (h : 1 ≤ lastE l j) : (rng (nth l j).Term (lastE l j) t && recOk (nth l j).Rec) = entOk t l j := by
  unfold lastE at h ⊢
  unfold entOk
  by_cases hj : j = 0
  · simp [hj]
  · simp only [hj, if_false] at h ⊢
    rw [Bool.eq_iff_iff]
    simp only [Bool.and_eq_true, rng_iff, Bool.or_eq_true, decide_eq_true_eq, Bool.not_eq_true', decide_eq_false_iff_not, hj, false_or]
    constructor
    · rintro ⟨⟨h1, h2⟩, h3⟩; exact ⟨⟨⟨by omega, h2⟩, h3⟩, by omega⟩
    · rintro ⟨⟨⟨h1, h2⟩, h3⟩, h4⟩; exact ⟨⟨by omega, h2⟩, h3⟩
theorem isLog_ok (l : List Entry) (t : Int) (hl : l.length ≤ maxLen) (hx : ∀ e ∈ l, recW e.Rec) : ACall Tryz.prog n_impl_isLog [.sl false 8 (l.map (Entry.row false)), i64 t] (fun r _ => r = bl (logOk t l)) := by
  have hmx := mx_eq
  refine fn_in h_impl_isLog r_impl_isLog ⟨by simp only [go_sem], fun E hE hH => ?_⟩; simp only [go_sem] at hE hH; simp only [go_sem, hE, hH, c_impl_isLog]
  refine loopN l.length (fun j (_ : Unit) => ⟨[(0, .sl false 8 (l.map (Entry.row false))), (1, i64 t), (7, .sl false 8 (l.map (Entry.row false))), (8, i64 l.length), (9, i64 j)], []⟩) (fun j _ => allN (entOk t l) j = true) () rfl ?_
  intro j _ hj hI
  try simp only [go_sem, hE, hH, c_impl_isLog_l1]
  first | refine gd_t (fun h => ?_) (fun h => ?_) | refine gd_f (fun h => ?_) (fun h => ?_)
  · have hb := h
    simp only [nf, beq_iff_eq, bne_iff_ne, beq_eq_false_iff_ne, bne_eq_false_iff_eq] at h
    have hlt := h; clear h
    have hs := (hx _ (nth_mem hlt)).1
    try simp (disch := omega) only [go_sem, hE, hH, hb]
    repeat' (first | ((with_reducible first | refine gd_t ?_ ?_ | refine gd_f ?_ ?_) <;> (intro h; have hb := h; (try simp only [nf, beq_iff_eq, bne_iff_ne, beq_eq_false_iff_ne, bne_eq_false_iff_eq] at h); simp (disch := omega) only [go_sem, hE, hH, hb]; (try clear hb))) | ((with_reducible refine And.intro ?_ ?_); · omega) | ((first | refine ok_view ?_ | refine cvA (within_ok _ _ _) ?_ | refine cvA (GoodRec_ok (nth l j).Rec hs) ?_); simp (disch := omega) only [go_sem, hE, hH]) | (with_reducible apply jn) | (with_reducible apply both) | (with_reducible refine And.intro ?_ ?_) | ((with_reducible apply fin_eq); (try (simp (disch := omega) only [go_sem, hE, hH])); first | done | rfl) | (simp (disch := omega) only [go_sem, hE, hH]) | ((first | apply noMLL_sE | apply pk_sE) <;> (simp only [go_sem, hE, hH]; done)) | (simp only [go_sem, hE, hH]) | fail)
    · rw [logOk_no hlt (by simp [entOk, h])]
    · rw [logOk_no hlt (by simp [entOk, h])]
    · rw [logOk_no hlt (by first | (simp_all [entOk]; done) | (simp_all [entOk]; omega))]
    · exact ⟨(), rfl, allN_step hI (by simp_all [entOk])⟩
    · exact ⟨(), rfl, allN_step hI (by first | (simp_all [entOk]; done) | (simp_all [entOk]; omega))⟩
  · try simp (disch := omega) only [go_sem, hE, hH, h]
    simp only [nf, beq_iff_eq, bne_iff_ne, beq_eq_false_iff_ne, bne_eq_false_iff_eq] at h
    rw [show j = l.length by omega] at hI
    rw [logOk, hI]
    simp
def repOk (t : Int) (r : Replica) : Bool := logOk t r.Log && rng r.Sure 0 r.Log.length
def repW (r : Replica) : Prop := r.Log.length ≤ maxLen ∧ ∀ e ∈ r.Log, recW e.Rec
theorem l9GoodRep_ok (x : Replica) (t : Int) (hw : repW x) : ACall Tryz.prog n_spec_l9GoodRep [.agg (Replica.row false x), i64 t] (fun r _ => r = bl (repOk t x)) := by
  obtain ⟨hl, hx⟩ := hw
  have hmx := mx_eq
  refine fn_in h_spec_l9GoodRep r_spec_l9GoodRep ⟨by simp only [go_sem], fun E hE hH => ?_⟩; simp only [go_sem] at hE hH; simp only [go_sem, hE, hH, c_spec_l9GoodRep]
  repeat' (first | ((with_reducible first | refine gd_t ?_ ?_ | refine gd_f ?_ ?_) <;> (intro h; have hb := h; (try simp only [nf, beq_iff_eq, bne_iff_ne, beq_eq_false_iff_ne, bne_eq_false_iff_eq] at h); simp (disch := omega) only [go_sem, hE, hH, hb]; (try clear hb))) | ((with_reducible refine And.intro ?_ ?_); · omega) | ((first | refine ok_view ?_ | refine cvA (l1In_ok _ _ _) ?_); simp (disch := omega) only [go_sem, hE, hH]) | (with_reducible apply jn) | (with_reducible apply both) | (with_reducible refine And.intro ?_ ?_) | ((with_reducible apply fin_eq); (try (simp (disch := omega) only [go_sem, hE, hH])); first | done | rfl) | (simp (disch := omega) only [go_sem, hE, hH]) | ((first | apply noMLL_sE | apply pk_sE) <;> (simp only [go_sem, hE, hH]; done)) | (simp only [go_sem, hE, hH]) | fail)
  · rw [repOk, logOk, decide_eq_false (by omega)]; simp
  · rw [repOk, h]; simp
  refine loopN x.Log.length (fun j (v : Int) => ⟨[(1, i64 t), (2, .ptr 3000000 0 0), (5, i64 v), (6, i64 j)], [(3000000, ⟨3, [Replica.row false x]⟩)]⟩) (fun j v => allN (entOk t x.Log) j = true ∧ v = lastE x.Log j ∧ 1 ≤ v) 1 ⟨rfl, rfl, by omega⟩ ?_
  rintro j v hj ⟨hI, rfl, h0⟩
  have he := lastE_eq (t := t) h0
  try simp only [go_sem, hE, hH, c_spec_l9GoodRep_l1]
  first | refine gd_t (fun h1 => ?_) (fun h1 => ?_) | refine gd_f (fun h1 => ?_) (fun h1 => ?_)
  · have hb1 := h1
    simp only [nf, beq_iff_eq, bne_iff_ne, beq_eq_false_iff_ne, bne_eq_false_iff_eq] at h1
    have hlt := h1; clear h1
    have hs := hx _ (nth_mem hlt)
    try simp (disch := omega) only [go_sem, hE, hH, hb1]
    repeat' (first | ((with_reducible first | refine gd_t ?_ ?_ | refine gd_f ?_ ?_) <;> (intro h; have hb := h; (try simp only [nf, beq_iff_eq, bne_iff_ne, beq_eq_false_iff_ne, bne_eq_false_iff_eq] at h); simp (disch := omega) only [go_sem, hE, hH, hb]; (try clear hb))) | ((with_reducible refine And.intro ?_ ?_); · omega) | ((first | refine ok_view ?_ | refine cvA (l1In_ok _ _ _) ?_ | refine cvA (sGoodRec_ok (nth x.Log j).Rec hs) ?_); simp (disch := omega) only [go_sem, hE, hH]) | (with_reducible apply jn) | (with_reducible apply both) | (with_reducible refine And.intro ?_ ?_) | ((with_reducible apply fin_eq); (try (simp (disch := omega) only [go_sem, hE, hH])); first | done | rfl) | (simp (disch := omega) only [go_sem, hE, hH]) | ((first | apply noMLL_sE | apply pk_sE) <;> (simp only [go_sem, hE, hH]; done)) | (simp only [go_sem, hE, hH]) | fail)
    · rw [repOk, logOk_no hlt (by rw [← he, h]; simp)]; rfl
    · rw [repOk, logOk_no hlt (by rw [← he, h]; simp)]; rfl
    · rename_i hD
      have hD' := rng_iff.1 hD
      exact ⟨(nth x.Log j).Term, rfl, allN_step hI (by rw [← he, hD, h]; rfl), by simp [lastE], by omega⟩
  · try simp (disch := omega) only [go_sem, hE, hH, h1]
    simp only [nf, beq_iff_eq, bne_iff_ne, beq_eq_false_iff_ne, bne_eq_false_iff_eq] at h1
    rw [show j = x.Log.length by omega] at hI
    rw [repOk, logOk, hI]
    have : decide ((x.Log.length : Int) ≤ 60) = true := decide_eq_true (by omega)
    simp_all
def grpW (g : Group) : Prop := g.Reps.length ≤ maxLen ∧ ∀ r ∈ g.Reps, repW r
theorem grpW_of {g : Group} (hw : g.wf) (hs : g.sz ≤ 2 ^ 20) : grpW g := by
  refine ⟨hw.1.1, fun r hr => ⟨(hw.1.2 r hr).1.1, fun e he => ?_⟩⟩
  have h1 := szL_mem (f := Replica.sz) hr
  have h2 := szL_mem (f := Entry.sz) he
  have h3 : Group.sz g = szL Replica.sz g.Reps := rfl
  have h4 : Replica.sz r = szL Entry.sz r.Log := rfl
  have h5 : Entry.sz e = szL ByteArray.size e.Rec.Reads + szL Write.sz e.Rec.Writes := rfl
  have h6 := szL_len (f := ByteArray.size) (l := e.Rec.Reads)
  have h7 := szL_len (f := Write.sz) (l := e.Rec.Writes)
  exact ⟨((hw.1.2 r hr).1.2 e he).2, by omega, by omega⟩
def leadOk (g : Group) : Bool := decide (g.Lead = -1) || (rng g.Lead 0 ((g.Reps.length : Int) - 1) && (nth g.Reps g.Lead.toNat).Up)
def grpOk (g : Group) : Bool := (decide ((g.Reps.length : Int) = 3) || decide ((g.Reps.length : Int) = 5)) && rng g.Term 0 200 && leadOk g && g.Reps.all (repOk g.Term)
theorem isRep_ok (g : Group) (r : Int) (hl : g.Reps.length ≤ maxLen) : ACall Tryz.prog n_impl_Group_isRep [.agg (Group.row false g), i64 r] (fun x _ => x = bl (rng r 0 ((g.Reps.length : Int) - 1))) := by
  have hmx := mx_eq
  refine fn_in h_impl_Group_isRep r_impl_Group_isRep ⟨by simp only [go_sem], fun E hE hH => ?_⟩; simp only [go_sem] at hE hH; simp only [go_sem, hE, hH, c_impl_Group_isRep]
  repeat' (first | ((with_reducible first | refine gd_t ?_ ?_ | refine gd_f ?_ ?_) <;> (intro h; have hb := h; (try simp only [nf, beq_iff_eq, bne_iff_ne, beq_eq_false_iff_ne, bne_eq_false_iff_eq] at h); simp (disch := omega) only [go_sem, hE, hH, hb]; (try clear hb))) | ((with_reducible refine And.intro ?_ ?_); · omega) | ((first | refine ok_view ?_ | refine cvA (within_ok _ _ _) ?_); simp (disch := omega) only [go_sem, hE, hH]) | (refine jn _ ?_ ?_) | (with_reducible refine both ?_ ?_) | (with_reducible refine And.intro ?_ ?_) | (refine fin_eq ?_; (try (simp (disch := omega) only [go_sem, hE, hH])); first | done | rfl) | (simp (disch := omega) only [go_sem, hE, hH]) | ((first | apply noMLL_sE | apply pk_sE) <;> (simp only [go_sem, hE, hH]; done)) | (simp only [go_sem, hE, hH]) | fail)
theorem GoodGroup_1_ok (x : Replica) (g : Group) (hw : repW x) : ACall Tryz.prog n_impl_GoodGroup_1 ([.agg (Replica.row false x)] ++ [.bx false (Group.row false g)]) (fun r _ => r = bl (!repOk g.Term x)) := by
  obtain ⟨hl, hx⟩ := hw
  have hmx := mx_eq
  refine fn_in h_impl_GoodGroup_1 r_impl_GoodGroup_1 ⟨by simp only [go_sem], fun E hE hH => ?_⟩; simp only [go_sem] at hE hH; simp only [go_sem, hE, hH, c_impl_GoodGroup_1]
  repeat' (first | ((with_reducible first | refine gd_t ?_ ?_ | refine gd_f ?_ ?_) <;> (intro h; have hb := h; (try simp only [nf, beq_iff_eq, bne_iff_ne, beq_eq_false_iff_ne, bne_eq_false_iff_eq] at h); simp (disch := omega) only [go_sem, hE, hH, hb]; (try clear hb))) | ((with_reducible refine And.intro ?_ ?_); · omega) | ((first | refine ok_view ?_ | refine cvA (isLog_ok x.Log g.Term hl hx) ?_ | refine cvA (within_ok _ _ _) ?_); simp (disch := omega) only [go_sem, hE, hH]) | (with_reducible apply jn) | (with_reducible apply both) | (with_reducible refine And.intro ?_ ?_) | ((with_reducible apply fin_eq); (try (simp (disch := omega) only [go_sem, hE, hH])); first | done | rfl) | (simp (disch := omega) only [go_sem, hE, hH]) | ((first | apply noMLL_sE | apply pk_sE) <;> (simp only [go_sem, hE, hH]; done)) | (simp only [go_sem, hE, hH]) | fail)
  all_goals (first | (simp_all [repOk]; done) | (simp_all [repOk] <;> first | omega | (intros; omega)))
theorem GoodGroup_ok (g : Group) (hw : grpW g) : ACall Tryz.prog n_impl_GoodGroup [.agg (Group.row false g)] (fun r _ => r = bl (grpOk g)) := by
  have hmx := mx_eq
  obtain ⟨hl, hx⟩ := hw
  have hany : (g.Reps.any fun x => !repOk g.Term x) = !(g.Reps.all (repOk g.Term)) := by
    rw [List.all_eq_not_any_not]; simp
  refine fn_in h_impl_GoodGroup r_impl_GoodGroup ⟨by simp only [go_sem], fun E hE hH => ?_⟩; simp only [go_sem] at hE hH; simp only [go_sem, hE, hH, c_impl_GoodGroup]
  repeat' (first | ((with_reducible first | refine gd_t ?_ ?_ | refine gd_f ?_ ?_) <;> (intro h; have hb := h; (try simp only [nf, beq_iff_eq, bne_iff_ne, beq_eq_false_iff_ne, bne_eq_false_iff_eq] at h); simp (disch := omega) only [go_sem, hE, hH, hb]; (try clear hb))) | ((with_reducible refine And.intro ?_ ?_); · omega) | ((first | refine ok_view ?_ | refine cvA (isMany_ok _) ?_ | refine cvA (within_ok _ _ _) ?_ | refine cvA (isRep_ok g g.Lead hl) ?_); simp (disch := omega) only [go_sem, hE, hH]) | (with_reducible apply jn) | (with_reducible apply both) | (with_reducible refine And.intro ?_ ?_) | ((with_reducible apply fin_eq); (try (simp (disch := omega) only [go_sem, hE, hH])); first | done | rfl) | (simp (disch := omega) only [go_sem, hE, hH]) | ((first | apply noMLL_sE | apply pk_sE) <;> (simp only [go_sem, hE, hH]; done)) | (simp only [go_sem, hE, hH]) | fail)
  all_goals try simp only [rng_iff] at h
  all_goals try omega
  all_goals try (have hk : g.Lead.toNat < g.Reps.length := by omega)
  repeat' (first | ((with_reducible first | refine gd_t ?_ ?_ | refine gd_f ?_ ?_) <;> (intro h; have hb := h; (try simp only [nf, beq_iff_eq, bne_iff_ne, beq_eq_false_iff_ne, bne_eq_false_iff_eq] at h); simp (disch := omega) only [go_sem, hE, hH, hb]; (try clear hb))) | ((with_reducible refine And.intro ?_ ?_); · omega) | ((first | refine ok_view ?_ | refine cvA (ContainsFunc_Replica_ok g.Reps _ [.bx false (Group.row false g)] (fun x => !repOk g.Term x) (by kernel_rfl) rfl hl (fun x hx' => GoodGroup_1_ok x g (hx x hx'))) ?_); simp (disch := omega) only [go_sem, hE, hH]) | (with_reducible apply jn) | (with_reducible apply both) | (with_reducible refine And.intro ?_ ?_) | ((with_reducible apply fin_eq); (try (simp (disch := omega) only [go_sem, hE, hH])); first | done | rfl) | (simp (disch := omega) only [go_sem, hE, hH]) | ((first | apply noMLL_sE | apply pk_sE) <;> (simp only [go_sem, hE, hH]; done)) | (simp only [go_sem, hE, hH]) | fail)
  all_goals try simp only [hany, Bool.not_not]
  all_goals clear hany
  all_goals (first | (simp_all [grpOk, leadOk]; done) | (simp_all [grpOk, leadOk, rng]; done) | (simp_all [grpOk, leadOk, rng] <;> omega) | trace_state)
theorem sGoodGroup_ok (g : Group) (hw : grpW g) : ACall Tryz.prog n_spec_GoodGroup [.agg (Group.row false g)] (fun r _ => r = bl (grpOk g)) := by
  have hmx := mx_eq
  obtain ⟨hl, hx⟩ := hw
  refine fn_in h_spec_GoodGroup r_spec_GoodGroup ⟨by simp only [go_sem], fun E hE hH => ?_⟩; simp only [go_sem] at hE hH; simp only [go_sem, hE, hH, c_spec_GoodGroup]
  repeat' (first | ((with_reducible first | refine gd_t ?_ ?_ | refine gd_f ?_ ?_) <;> (intro h; have hb := h; (try simp only [nf, beq_iff_eq, bne_iff_ne, beq_eq_false_iff_ne, bne_eq_false_iff_eq] at h); simp (disch := omega) only [go_sem, hE, hH, hb]; (try clear hb))) | ((with_reducible refine And.intro ?_ ?_); · omega) | ((first | refine ok_view ?_ | refine cvA (l1In_ok _ _ _) ?_); simp (disch := omega) only [go_sem, hE, hH]) | (with_reducible apply jn) | (with_reducible apply both) | (with_reducible refine And.intro ?_ ?_) | ((with_reducible apply fin_eq); (try (simp (disch := omega) only [go_sem, hE, hH])); first | done | rfl) | (simp (disch := omega) only [go_sem, hE, hH]) | ((first | apply noMLL_sE | apply pk_sE) <;> (simp only [go_sem, hE, hH]; done)) | (simp only [go_sem, hE, hH]) | fail)
  · simp [grpOk, *]
  · simp [grpOk, *]
  · have : leadOk g = false := by
      rw [rng_no] at h
      simp only [leadOk, rng, Bool.or_eq_false_iff, Bool.and_eq_false_iff, decide_eq_false_iff_not]
      omega
    simp [grpOk, this]
  · refine loopN g.Reps.length (fun j (_ : Unit) => ⟨[(1, .ptr 2000000 0 0), (3, i64 j)], [(2000000, ⟨3, [Group.row false g]⟩)]⟩) (fun j _ => allN (fun i => repOk g.Term (nth g.Reps i)) j = true) () rfl ?_
    intro j _ hj hI
    try simp only [go_sem, hE, hH, c_spec_GoodGroup_l1]
    first | refine gd_t (fun h1 => ?_) (fun h1 => ?_) | refine gd_f (fun h1 => ?_) (fun h1 => ?_)
    · have hb1 := h1
      simp only [nf, beq_iff_eq, bne_iff_ne, beq_eq_false_iff_ne, bne_eq_false_iff_eq] at h1
      have hlt := h1; clear h1
      try simp (disch := omega) only [go_sem, hE, hH, hb1]
      repeat' (first | ((with_reducible first | refine gd_t ?_ ?_ | refine gd_f ?_ ?_) <;> (intro h; have hb := h; (try simp only [nf, beq_iff_eq, bne_iff_ne, beq_eq_false_iff_ne, bne_eq_false_iff_eq] at h); simp (disch := omega) only [go_sem, hE, hH, hb]; (try clear hb))) | ((with_reducible refine And.intro ?_ ?_); · omega) | ((first | refine ok_view ?_ | refine cvA (l9GoodRep_ok (nth g.Reps j) g.Term (hx _ (nth_mem hlt))) ?_); simp (disch := omega) only [go_sem, hE, hH]) | (with_reducible apply jn) | (with_reducible apply both) | (with_reducible refine And.intro ?_ ?_) | ((with_reducible apply fin_eq); (try (simp (disch := omega) only [go_sem, hE, hH])); first | done | rfl) | (simp (disch := omega) only [go_sem, hE, hH]) | ((first | apply noMLL_sE | apply pk_sE) <;> (simp only [go_sem, hE, hH]; done)) | (simp only [go_sem, hE, hH]) | fail)
      · have : g.Reps.all (repOk g.Term) = false := by rw [← allN_all]; exact allN_no hlt h
        simp [grpOk, this]
      · first | exact ⟨(), rfl, allN_step hI (by simp [h])⟩ | exact ⟨by omega, (), rfl, allN_step hI (by simp [h])⟩ | exact ⟨by omega, by omega, (), rfl, allN_step hI (by simp [h])⟩
    · try simp (disch := omega) only [go_sem, hE, hH, h1]
      simp only [nf, beq_iff_eq, bne_iff_ne, beq_eq_false_iff_ne, bne_eq_false_iff_eq] at h1
      rw [show j = g.Reps.length by omega, allN_all] at hI
      repeat' (first | ((with_reducible first | refine gd_t ?_ ?_ | refine gd_f ?_ ?_) <;> (intro h; have hb := h; (try simp only [nf, beq_iff_eq, bne_iff_ne, beq_eq_false_iff_ne, bne_eq_false_iff_eq] at h); simp (disch := omega) only [go_sem, hE, hH, hb]; (try clear hb))) | ((with_reducible refine And.intro ?_ ?_); · omega) | (with_reducible apply jn) | (with_reducible apply both) | (with_reducible refine And.intro ?_ ?_) | ((with_reducible apply fin_eq); (try (simp (disch := omega) only [go_sem, hE, hH])); first | done | rfl) | (simp (disch := omega) only [go_sem, hE, hH]) | ((first | apply noMLL_sE | apply pk_sE) <;> (simp only [go_sem, hE, hH]; done)) | (simp only [go_sem, hE, hH]) | fail)
      all_goals try simp only [rng_iff] at *
      all_goals try omega
      all_goals try (have hk : g.Lead.toNat < g.Reps.length := by omega)
      repeat' (first | ((with_reducible first | refine gd_t ?_ ?_ | refine gd_f ?_ ?_) <;> (intro h; have hb := h; (try simp only [nf, beq_iff_eq, bne_iff_ne, beq_eq_false_iff_ne, bne_eq_false_iff_eq] at h); simp (disch := omega) only [go_sem, hE, hH, hb]; (try clear hb))) | ((with_reducible refine And.intro ?_ ?_); · omega) | (with_reducible apply jn) | (with_reducible apply both) | (with_reducible refine And.intro ?_ ?_) | ((with_reducible apply fin_eq); (try (simp (disch := omega) only [go_sem, hE, hH])); first | done | rfl) | (simp (disch := omega) only [go_sem, hE, hH]) | ((first | apply noMLL_sE | apply pk_sE) <;> (simp only [go_sem, hE, hH]; done)) | (simp only [go_sem, hE, hH]) | fail)
      all_goals (first | (have hL : g.Lead = -1 := by omega) | (have hL : g.Lead ≠ -1 := by omega))
      all_goals (first | (simp_all [grpOk, leadOk, rng]; done) | (simp_all [grpOk, leadOk, rng]; omega))
  · simp [grpOk, *]
  · have : leadOk g = false := by
      rw [rng_no] at h
      simp only [leadOk, rng, Bool.or_eq_false_iff, Bool.and_eq_false_iff, decide_eq_false_iff_not]
      omega
    simp [grpOk, this]
  · refine loopN g.Reps.length (fun j (_ : Unit) => ⟨[(1, .ptr 2000000 0 0), (3, i64 j)], [(2000000, ⟨3, [Group.row false g]⟩)]⟩) (fun j _ => allN (fun i => repOk g.Term (nth g.Reps i)) j = true) () rfl ?_
    intro j _ hj hI
    try simp only [go_sem, hE, hH, c_spec_GoodGroup_l1]
    first | refine gd_t (fun h1 => ?_) (fun h1 => ?_) | refine gd_f (fun h1 => ?_) (fun h1 => ?_)
    · have hb1 := h1
      simp only [nf, beq_iff_eq, bne_iff_ne, beq_eq_false_iff_ne, bne_eq_false_iff_eq] at h1
      have hlt := h1; clear h1
      try simp (disch := omega) only [go_sem, hE, hH, hb1]
      repeat' (first | ((with_reducible first | refine gd_t ?_ ?_ | refine gd_f ?_ ?_) <;> (intro h; have hb := h; (try simp only [nf, beq_iff_eq, bne_iff_ne, beq_eq_false_iff_ne, bne_eq_false_iff_eq] at h); simp (disch := omega) only [go_sem, hE, hH, hb]; (try clear hb))) | ((with_reducible refine And.intro ?_ ?_); · omega) | ((first | refine ok_view ?_ | refine cvA (l9GoodRep_ok (nth g.Reps j) g.Term (hx _ (nth_mem hlt))) ?_); simp (disch := omega) only [go_sem, hE, hH]) | (with_reducible apply jn) | (with_reducible apply both) | (with_reducible refine And.intro ?_ ?_) | ((with_reducible apply fin_eq); (try (simp (disch := omega) only [go_sem, hE, hH])); first | done | rfl) | (simp (disch := omega) only [go_sem, hE, hH]) | ((first | apply noMLL_sE | apply pk_sE) <;> (simp only [go_sem, hE, hH]; done)) | (simp only [go_sem, hE, hH]) | fail)
      · have : g.Reps.all (repOk g.Term) = false := by rw [← allN_all]; exact allN_no hlt h
        simp [grpOk, this]
      · first | exact ⟨(), rfl, allN_step hI (by simp [h])⟩ | exact ⟨by omega, (), rfl, allN_step hI (by simp [h])⟩ | exact ⟨by omega, by omega, (), rfl, allN_step hI (by simp [h])⟩
    · try simp (disch := omega) only [go_sem, hE, hH, h1]
      simp only [nf, beq_iff_eq, bne_iff_ne, beq_eq_false_iff_ne, bne_eq_false_iff_eq] at h1
      rw [show j = g.Reps.length by omega, allN_all] at hI
      repeat' (first | ((with_reducible first | refine gd_t ?_ ?_ | refine gd_f ?_ ?_) <;> (intro h; have hb := h; (try simp only [nf, beq_iff_eq, bne_iff_ne, beq_eq_false_iff_ne, bne_eq_false_iff_eq] at h); simp (disch := omega) only [go_sem, hE, hH, hb]; (try clear hb))) | ((with_reducible refine And.intro ?_ ?_); · omega) | (with_reducible apply jn) | (with_reducible apply both) | (with_reducible refine And.intro ?_ ?_) | ((with_reducible apply fin_eq); (try (simp (disch := omega) only [go_sem, hE, hH])); first | done | rfl) | (simp (disch := omega) only [go_sem, hE, hH]) | ((first | apply noMLL_sE | apply pk_sE) <;> (simp only [go_sem, hE, hH]; done)) | (simp only [go_sem, hE, hH]) | fail)
      all_goals try simp only [rng_iff] at *
      all_goals try omega
      all_goals try (have hk : g.Lead.toNat < g.Reps.length := by omega)
      repeat' (first | ((with_reducible first | refine gd_t ?_ ?_ | refine gd_f ?_ ?_) <;> (intro h; have hb := h; (try simp only [nf, beq_iff_eq, bne_iff_ne, beq_eq_false_iff_ne, bne_eq_false_iff_eq] at h); simp (disch := omega) only [go_sem, hE, hH, hb]; (try clear hb))) | ((with_reducible refine And.intro ?_ ?_); · omega) | (with_reducible apply jn) | (with_reducible apply both) | (with_reducible refine And.intro ?_ ?_) | ((with_reducible apply fin_eq); (try (simp (disch := omega) only [go_sem, hE, hH])); first | done | rfl) | (simp (disch := omega) only [go_sem, hE, hH]) | ((first | apply noMLL_sE | apply pk_sE) <;> (simp only [go_sem, hE, hH]; done)) | (simp only [go_sem, hE, hH]) | fail)
      all_goals (first | (have hL : g.Lead = -1 := by omega) | (have hL : g.Lead ≠ -1 := by omega))
      all_goals (first | (simp_all [grpOk, leadOk, rng]; done) | (simp_all [grpOk, leadOk, rng]; omega))
end Go.Proofs.Wb

/- Contracts of functions. -/
import Derived.Test.YtpfgmidkclompaaFnExactOrderByTimeB2
import Derived.Laws.Externs
set_option linter.unusedSimpArgs false
set_option linter.unusedVariables false
set_option linter.unusedSectionVars false
namespace Go.Proofs.Wb
open Go Go.Am
/-! orders -/
def isOrd (l : List Deed) (o : List Int) : Bool := allN (fun i => rng (nth o i) 0 ((l.length : Int) - 1) && !(o.take i).any fun x => decide (nth o i = x)) o.length && goodHist l
theorem isOrd_at {l : List Deed} {o : List Int} (h : isOrd l o = true) {i : Nat} (hi : i < o.length) : 0 ≤ nth o i ∧ nth o i < l.length := by
  simp only [isOrd, Bool.and_eq_true] at h
  have := allN_iff.1 h.1 i hi
  simp only [Bool.and_eq_true, rng_iff] at this
  omega
theorem isOrd_hist {l : List Deed} {o : List Int} (h : isOrd l o = true) : goodHist l = true := by
  simp only [isOrd, Bool.and_eq_true] at h
  exact h.2
/-- Each deed of an order comes behind all that are ahead of it. -/
def keepsO (l : List Deed) (o : List Int) : Bool := allN (fun i => (o.drop (i + 1)).all fun m => !ahead (nth l m.toNat) (nth l (nth o i).toNat)) o.length
theorem all_drop {α : Type} [Inhabited α] {p : α → Bool} {l : List α} {i : Nat} : (l.drop i).all p = allN (fun k => p (nth l (i + k))) (l.drop i).length := by
  rw [← allN_all]
  refine allN_congr fun k hk => ?_
  have hk' : i + k < l.length := by simp at hk; omega
  rw [nth_lt hk, nth_lt hk', List.getElem_drop]
theorem nth_drop {α : Type} [Inhabited α] {l : List α} {i k : Nat} : nth (l.drop i) k = nth l (i + k) := by
  simp [nth, List.getD, List.getElem?_drop]
def cmpS (a b : ByteArray) : Int := if strLt a b then -1 else if strLt b a then 1 else 0
def srtW (l : List Write) : Prop := ∀ i j, i < j → j < l.length → strLt (nth l i).Key (nth l j).Key = true
theorem goodWrites_srt {l : List Write} (h : goodWrites l = true) : srtW l := by
  simp only [goodWrites, Bool.and_eq_true] at h
  have key : ∀ d i, i + d + 1 < l.length → strLt (nth l i).Key (nth l (i + d + 1)).Key = true := by
    intro d
    induction d with
    | zero =>
      intro i hi
      have := allN_iff.1 h.2 (i + 1) (by omega)
      simp only [Bool.and_eq_true, Bool.or_eq_true, decide_eq_true_eq] at this
      exact this.2.resolve_left (by omega)
    | succ d ih =>
      intro i hi
      have h1 := ih i (by omega)
      have := allN_iff.1 h.2 (i + d + 2) (by omega)
      simp only [Bool.and_eq_true, Bool.or_eq_true, decide_eq_true_eq] at this
      exact strLt_trans h1 (this.2.resolve_left (by omega))
  intro i j h1 h2
  have := key (j - i - 1) i (by omega)
  rwa [show i + (j - i - 1) + 1 = j by omega] at this
/-- Where the write of a key lies, and whether there is one. -/
def fwI (l : List Write) (k : ByteArray) : Nat := cntN (fun i => strLt (nth l i).Key k) l.length
def fwF (l : List Write) (k : ByteArray) : Bool := l.any fun w => decide (w.Key = k)
theorem cmpS_neg {a b : ByteArray} : cmpS a b < 0 ↔ strLt a b = true := by
  unfold cmpS
  split
  · simp_all
  · split <;> simp_all
theorem cmpS_zero {a b : ByteArray} : cmpS a b = 0 ↔ a = b := by
  unfold cmpS
  rcases strLt_total a b with h | h | h
  · rw [if_pos h]; simp [strLt_ne h]
  · subst h; simp [strLt_irr]
  · rw [strLt_asymm h, if_neg (by simp), if_pos h]; simp [(strLt_ne h).symm]
theorem fw_eq {l : List Write} (hs : srtW l) (k : ByteArray) : bsI (fun w : Write => cmpS w.Key k) l = fwI l k ∧ bsF (fun w : Write => cmpS w.Key k) l = fwF l k := by
  have e1 : bsI (fun w : Write => cmpS w.Key k) l = fwI l k := by
    unfold bsI fwI
    congr 1; funext i
    rw [Bool.eq_iff_iff, decide_eq_true_iff, cmpS_neg]
  refine ⟨e1, ?_⟩
  rw [Bool.eq_iff_iff]
  unfold bsF fwF
  rw [e1, Bool.and_eq_true, decide_eq_true_iff, decide_eq_true_iff, cmpS_zero, List.any_eq_true]
  constructor
  · rintro ⟨h1, h2⟩; exact ⟨_, nth_mem h1, by simp [h2]⟩
  · rintro ⟨w, hw, h1⟩
    obtain ⟨i, hi, rfl⟩ := List.getElem_of_mem hw
    simp only [decide_eq_true_eq] at h1
    rw [← nth_lt hi] at h1
    have e2 : fwI l k = i := by
      unfold fwI
      rw [cntN_none (Nat.le_of_lt hi) (fun j a b => ?_), cntN_all (allN_iff.2 fun j hj => ?_)]
      · rw [← h1]; exact hs j i hj hi
      · by_cases e : j = i
        · rw [e, h1]; exact strLt_irr _
        · rw [← h1]; exact strLt_asymm (hs i j (by omega) b)
    rw [e2]; exact ⟨hi, h1⟩
end Go.Proofs.Wb

/- Contracts of functions. -/
import Derived.Test.YtnegienpomoodaaGreatFnExactStrictByTimeB2
import Derived.Laws.Externs
set_option linter.unusedSimpArgs false
set_option linter.unusedVariables false
set_option linter.unusedSectionVars false
namespace Go.Proofs.Wb
open Go Go.Am
theorem l1Has_ok (l : List Int) (v : Int) (hl : l.length ≤ maxLen) : ACall Tryz.prog n_spec_l1Has [.sl false 1 (ints l), i64 v] (fun r _ => r = bl (l.any fun x => decide (v = x))) := by
  have hmx := mx_eq
  refine fn_in h_spec_l1Has r_spec_l1Has ⟨by simp only [go_sem, ↓reduceIte], fun E hE hH => ?_⟩; simp only [go_sem, ↓reduceIte] at hE hH; simp only [go_sem, hE, hH, ↓reduceIte, c_spec_l1Has]
  refine loopN l.length (fun j (_ : Unit) => ⟨[(1, i64 v), (7, .sl false 1 (ints l)), (8, i64 l.length), (9, i64 j)], []⟩) (fun j _ => allN (fun i => !decide (v = nth l i)) j = true) () rfl ?_
  intro j _ hj hI
  try simp only [go_sem, hE, hH, ↓reduceIte, c_spec_l1Has_l1]
  first | refine gd_t (fun h => ?_) (fun h => ?_) | refine gd_f (fun h => ?_) (fun h => ?_)
  · have hb := h
    simp only [decide_eq_true_eq, decide_eq_false_iff_not, Int.not_lt, Int.not_le, ge_iff_le, gt_iff_lt, Bool.not_eq_true', Bool.not_eq_false', beq_iff_eq, bne_iff_ne, beq_eq_false_iff_ne, bne_eq_false_iff_eq, Int.ofNat_lt, Int.ofNat_le] at h
    have hlt := h; clear h
    try simp (disch := omega) only [go_sem, hE, hH, ↓reduceIte, hb]
    repeat' (first | ((with_reducible (first | refine gd_t (fun h => ?_) (fun h => ?_) | refine gd_f (fun h => ?_) (fun h => ?_))) <;> (have hb := h; (try simp only [decide_eq_true_eq, decide_eq_false_iff_not, Int.not_lt, Int.not_le, ge_iff_le, gt_iff_lt, Bool.not_eq_true', Bool.not_eq_false', beq_iff_eq, bne_iff_ne, beq_eq_false_iff_ne, bne_eq_false_iff_eq, Int.ofNat_lt, Int.ofNat_le] at h); simp (disch := omega) only [go_sem, hE, hH, ↓reduceIte, hb]; (try clear hb))) | ((with_reducible refine And.intro ?_ ?_); · omega) | (refine jn _ ?_ ?_) | (with_reducible refine both ?_ ?_) | (with_reducible refine And.intro ?_ ?_) | (refine fin_eq ?_; (try (simp (disch := omega) only [go_sem, hE, hH, ↓reduceIte])); first | done | rfl) | (simp (disch := omega) only [go_sem, hE, hH, ↓reduceIte]) | (exact (noMLL_set (by simp only [go_sem, hE, hH, ↓reduceIte]) (by simp only [go_sem, hE, hH, ↓reduceIte])).2 trivial) | (exact (pk_set (by simp only [go_sem, hE, hH, ↓reduceIte]) (by simp only [go_sem, hE, hH, ↓reduceIte])).2 trivial) | (simp only [go_sem, hE, hH, ↓reduceIte]) | fail)
    · have : (l.any fun x => decide (v = x)) = true := List.any_eq_true.2 ⟨_, nth_mem hlt, by simp [h]⟩
      rw [this]
    · first | exact ⟨(), rfl, allN_step hI (by simp only [Bool.not_eq_true', decide_eq_false_iff_not]; exact fun e => h e.symm)⟩ | exact ⟨by omega, (), rfl, allN_step hI (by simp only [Bool.not_eq_true', decide_eq_false_iff_not]; exact fun e => h e.symm)⟩ | exact ⟨by omega, by omega, (), rfl, allN_step hI (by simp only [Bool.not_eq_true', decide_eq_false_iff_not]; exact fun e => h e.symm)⟩
  · try simp (disch := omega) only [go_sem, hE, hH, ↓reduceIte, h]
    simp only [decide_eq_true_eq, decide_eq_false_iff_not, Int.not_lt, Int.not_le, ge_iff_le, gt_iff_lt, Bool.not_eq_true', Bool.not_eq_false', beq_iff_eq, bne_iff_ne, beq_eq_false_iff_ne, bne_eq_false_iff_eq, Int.ofNat_lt, Int.ofNat_le] at h
    rw [show j = l.length by omega, allN_all (p := fun x => !decide (v = x))] at hI
    have : (l.any fun x => decide (v = x)) = false := by
      rw [List.any_eq_false]; intro x hx; simpa using List.all_eq_true.1 hI x hx
    rw [this]
/-! orders -/
def isOrd (l : List Deed) (o : List Int) : Bool := allN (fun i => rng (nth o i) 0 ((l.length : Int) - 1) && !(o.take i).any fun x => decide (nth o i = x)) o.length && goodHist l
theorem isOrd_at {l : List Deed} {o : List Int} (h : isOrd l o = true) {i : Nat} (hi : i < o.length) : 0 ≤ nth o i ∧ nth o i < l.length := by
  simp only [isOrd, Bool.and_eq_true] at h
  have := allN_iff.1 h.1 i hi
  simp only [Bool.and_eq_true, rng_iff] at this
  omega
theorem isOrd_hist {l : List Deed} {o : List Int} (h : isOrd l o = true) : goodHist l = true := by
  simp only [isOrd, Bool.and_eq_true] at h
  exact h.2
theorem isOrderOf_ok (l : List Deed) (o : List Int) (hl : wfL Deed.wf l) (ho : o.length ≤ maxLen) : ACall Tryz.prog n_impl_isOrderOf [.sl false 8 (l.map (Deed.row false)), .sl false 1 (ints o)] (fun r _ => r = bl (isOrd l o)) := by
  have hll := hl.1
  have hmx := mx_eq
  refine fn_in h_impl_isOrderOf r_impl_isOrderOf ⟨by simp only [go_sem, ↓reduceIte], fun E hE hH => ?_⟩; simp only [go_sem, ↓reduceIte] at hE hH; simp only [go_sem, hE, hH, ↓reduceIte, c_impl_isOrderOf]
  refine loopN o.length (fun j (_ : Unit) => ⟨[(0, .sl false 8 (l.map (Deed.row false))), (1, .sl false 1 (ints o)), (7, .sl false 1 (ints o)), (8, i64 o.length), (9, i64 j)], []⟩) (fun j _ => allN (fun i => rng (nth o i) 0 ((l.length : Int) - 1) && !(o.take i).any fun x => decide (nth o i = x)) j = true) () rfl ?_
  intro j _ hj hI
  try simp only [go_sem, hE, hH, ↓reduceIte, c_impl_isOrderOf_l1]
  first | refine gd_t (fun h => ?_) (fun h => ?_) | refine gd_f (fun h => ?_) (fun h => ?_)
  · have hb := h
    simp only [decide_eq_true_eq, decide_eq_false_iff_not, Int.not_lt, Int.not_le, ge_iff_le, gt_iff_lt, Bool.not_eq_true', Bool.not_eq_false', beq_iff_eq, bne_iff_ne, beq_eq_false_iff_ne, bne_eq_false_iff_eq, Int.ofNat_lt, Int.ofNat_le] at h
    have hlt := h; clear h
    try simp (disch := omega) only [go_sem, hE, hH, ↓reduceIte, hb]
    repeat' (first | ((with_reducible (first | refine gd_t (fun h => ?_) (fun h => ?_) | refine gd_f (fun h => ?_) (fun h => ?_))) <;> (have hb := h; (try simp only [decide_eq_true_eq, decide_eq_false_iff_not, Int.not_lt, Int.not_le, ge_iff_le, gt_iff_lt, Bool.not_eq_true', Bool.not_eq_false', beq_iff_eq, bne_iff_ne, beq_eq_false_iff_ne, bne_eq_false_iff_eq, Int.ofNat_lt, Int.ofNat_le] at h); simp (disch := omega) only [go_sem, hE, hH, ↓reduceIte, hb]; (try clear hb))) | ((with_reducible refine And.intro ?_ ?_); · omega) | (refine ok_view ?_; simp (disch := omega) only [go_sem, hE, hH, ↓reduceIte]) | (refine cvA (within_ok _ _ _) ?_; simp (disch := omega) only [go_sem, hE, hH, ↓reduceIte]) | (refine cvA (Contains_Int_ok (o.take j) _ (by rw [List.length_take]; omega)) ?_; simp (disch := omega) only [go_sem, hE, hH, ↓reduceIte]) | (refine jn _ ?_ ?_) | (with_reducible refine both ?_ ?_) | (with_reducible refine And.intro ?_ ?_) | (refine fin_eq ?_; (try (simp (disch := omega) only [go_sem, hE, hH, ↓reduceIte])); first | done | rfl) | (simp (disch := omega) only [go_sem, hE, hH, ↓reduceIte]) | (exact (noMLL_set (by simp only [go_sem, hE, hH, ↓reduceIte]) (by simp only [go_sem, hE, hH, ↓reduceIte])).2 trivial) | (exact (pk_set (by simp only [go_sem, hE, hH, ↓reduceIte]) (by simp only [go_sem, hE, hH, ↓reduceIte])).2 trivial) | (simp only [go_sem, hE, hH, ↓reduceIte]) | fail)
    · rw [isOrd, allN_no hlt (by simp_all)]; simp
    · rw [isOrd, allN_no hlt (by simp_all)]; simp
    · first | exact ⟨(), rfl, allN_step hI (by simp_all)⟩ | exact ⟨by omega, (), rfl, allN_step hI (by simp_all)⟩ | exact ⟨by omega, by omega, (), rfl, allN_step hI (by simp_all)⟩
  · try simp (disch := omega) only [go_sem, hE, hH, ↓reduceIte, h]
    simp only [decide_eq_true_eq, decide_eq_false_iff_not, Int.not_lt, Int.not_le, ge_iff_le, gt_iff_lt, Bool.not_eq_true', Bool.not_eq_false', beq_iff_eq, bne_iff_ne, beq_eq_false_iff_ne, bne_eq_false_iff_eq, Int.ofNat_lt, Int.ofNat_le] at h
    rw [show j = o.length by omega] at hI
    repeat' (first | ((with_reducible (first | refine gd_t (fun h => ?_) (fun h => ?_) | refine gd_f (fun h => ?_) (fun h => ?_))) <;> (have hb := h; (try simp only [decide_eq_true_eq, decide_eq_false_iff_not, Int.not_lt, Int.not_le, ge_iff_le, gt_iff_lt, Bool.not_eq_true', Bool.not_eq_false', beq_iff_eq, bne_iff_ne, beq_eq_false_iff_ne, bne_eq_false_iff_eq, Int.ofNat_lt, Int.ofNat_le] at h); simp (disch := omega) only [go_sem, hE, hH, ↓reduceIte, hb]; (try clear hb))) | ((with_reducible refine And.intro ?_ ?_); · omega) | (refine ok_view ?_; simp (disch := omega) only [go_sem, hE, hH, ↓reduceIte]) | (refine cvA (GoodHistory_ok l hl) ?_; simp (disch := omega) only [go_sem, hE, hH, ↓reduceIte]) | (refine jn _ ?_ ?_) | (with_reducible refine both ?_ ?_) | (with_reducible refine And.intro ?_ ?_) | (refine fin_eq ?_; (try (simp (disch := omega) only [go_sem, hE, hH, ↓reduceIte])); first | done | rfl) | (simp (disch := omega) only [go_sem, hE, hH, ↓reduceIte]) | (exact (noMLL_set (by simp only [go_sem, hE, hH, ↓reduceIte]) (by simp only [go_sem, hE, hH, ↓reduceIte])).2 trivial) | (exact (pk_set (by simp only [go_sem, hE, hH, ↓reduceIte]) (by simp only [go_sem, hE, hH, ↓reduceIte])).2 trivial) | (simp only [go_sem, hE, hH, ↓reduceIte]) | fail)
    rw [isOrd, hI]; simp
theorem l18Order_ok (l : List Deed) (o : List Int) (hl : wfL Deed.wf l) (ho : o.length ≤ maxLen) : ACall Tryz.prog n_spec_l18Order [.sl false 8 (l.map (Deed.row false)), .sl false 1 (ints o)] (fun r _ => r = bl (isOrd l o)) := by
  have hll := hl.1
  have hmx := mx_eq
  refine fn_in h_spec_l18Order r_spec_l18Order ⟨by simp only [go_sem, ↓reduceIte], fun E hE hH => ?_⟩; simp only [go_sem, ↓reduceIte] at hE hH; simp only [go_sem, hE, hH, ↓reduceIte, c_spec_l18Order]
  refine loopN o.length (fun j (_ : Unit) => ⟨[(0, .sl false 8 (l.map (Deed.row false))), (1, .sl false 1 (ints o)), (7, .sl false 1 (ints o)), (8, i64 o.length), (9, i64 j)], []⟩) (fun j _ => allN (fun i => rng (nth o i) 0 ((l.length : Int) - 1) && !(o.take i).any fun x => decide (nth o i = x)) j = true) () rfl ?_
  intro j _ hj hI
  try simp only [go_sem, hE, hH, ↓reduceIte, c_spec_l18Order_l1]
  first | refine gd_t (fun h => ?_) (fun h => ?_) | refine gd_f (fun h => ?_) (fun h => ?_)
  · have hb := h
    simp only [decide_eq_true_eq, decide_eq_false_iff_not, Int.not_lt, Int.not_le, ge_iff_le, gt_iff_lt, Bool.not_eq_true', Bool.not_eq_false', beq_iff_eq, bne_iff_ne, beq_eq_false_iff_ne, bne_eq_false_iff_eq, Int.ofNat_lt, Int.ofNat_le] at h
    have hlt := h; clear h
    try simp (disch := omega) only [go_sem, hE, hH, ↓reduceIte, hb]
    repeat' (first | ((with_reducible (first | refine gd_t (fun h => ?_) (fun h => ?_) | refine gd_f (fun h => ?_) (fun h => ?_))) <;> (have hb := h; (try simp only [decide_eq_true_eq, decide_eq_false_iff_not, Int.not_lt, Int.not_le, ge_iff_le, gt_iff_lt, Bool.not_eq_true', Bool.not_eq_false', beq_iff_eq, bne_iff_ne, beq_eq_false_iff_ne, bne_eq_false_iff_eq, Int.ofNat_lt, Int.ofNat_le] at h); simp (disch := omega) only [go_sem, hE, hH, ↓reduceIte, hb]; (try clear hb))) | ((with_reducible refine And.intro ?_ ?_); · omega) | (refine ok_view ?_; simp (disch := omega) only [go_sem, hE, hH, ↓reduceIte]) | (refine cvA (l1In_ok _ _ _) ?_; simp (disch := omega) only [go_sem, hE, hH, ↓reduceIte]) | (refine cvA (l1Has_ok (o.take j) _ (by rw [List.length_take]; omega)) ?_; simp (disch := omega) only [go_sem, hE, hH, ↓reduceIte]) | (refine jn _ ?_ ?_) | (with_reducible refine both ?_ ?_) | (with_reducible refine And.intro ?_ ?_) | (refine fin_eq ?_; (try (simp (disch := omega) only [go_sem, hE, hH, ↓reduceIte])); first | done | rfl) | (simp (disch := omega) only [go_sem, hE, hH, ↓reduceIte]) | (exact (noMLL_set (by simp only [go_sem, hE, hH, ↓reduceIte]) (by simp only [go_sem, hE, hH, ↓reduceIte])).2 trivial) | (exact (pk_set (by simp only [go_sem, hE, hH, ↓reduceIte]) (by simp only [go_sem, hE, hH, ↓reduceIte])).2 trivial) | (simp only [go_sem, hE, hH, ↓reduceIte]) | fail)
    · rw [isOrd, allN_no hlt (by simp_all)]; simp
    · rw [isOrd, allN_no hlt (by simp_all)]; simp
    · first | exact ⟨(), rfl, allN_step hI (by simp_all)⟩ | exact ⟨by omega, (), rfl, allN_step hI (by simp_all)⟩ | exact ⟨by omega, by omega, (), rfl, allN_step hI (by simp_all)⟩
  · try simp (disch := omega) only [go_sem, hE, hH, ↓reduceIte, h]
    simp only [decide_eq_true_eq, decide_eq_false_iff_not, Int.not_lt, Int.not_le, ge_iff_le, gt_iff_lt, Bool.not_eq_true', Bool.not_eq_false', beq_iff_eq, bne_iff_ne, beq_eq_false_iff_ne, bne_eq_false_iff_eq, Int.ofNat_lt, Int.ofNat_le] at h
    rw [show j = o.length by omega] at hI
    repeat' (first | ((with_reducible (first | refine gd_t (fun h => ?_) (fun h => ?_) | refine gd_f (fun h => ?_) (fun h => ?_))) <;> (have hb := h; (try simp only [decide_eq_true_eq, decide_eq_false_iff_not, Int.not_lt, Int.not_le, ge_iff_le, gt_iff_lt, Bool.not_eq_true', Bool.not_eq_false', beq_iff_eq, bne_iff_ne, beq_eq_false_iff_ne, bne_eq_false_iff_eq, Int.ofNat_lt, Int.ofNat_le] at h); simp (disch := omega) only [go_sem, hE, hH, ↓reduceIte, hb]; (try clear hb))) | ((with_reducible refine And.intro ?_ ?_); · omega) | (refine ok_view ?_; simp (disch := omega) only [go_sem, hE, hH, ↓reduceIte]) | (refine cvA (l18Good_ok l hl) ?_; simp (disch := omega) only [go_sem, hE, hH, ↓reduceIte]) | (refine jn _ ?_ ?_) | (with_reducible refine both ?_ ?_) | (with_reducible refine And.intro ?_ ?_) | (refine fin_eq ?_; (try (simp (disch := omega) only [go_sem, hE, hH, ↓reduceIte])); first | done | rfl) | (simp (disch := omega) only [go_sem, hE, hH, ↓reduceIte]) | (exact (noMLL_set (by simp only [go_sem, hE, hH, ↓reduceIte]) (by simp only [go_sem, hE, hH, ↓reduceIte])).2 trivial) | (exact (pk_set (by simp only [go_sem, hE, hH, ↓reduceIte]) (by simp only [go_sem, hE, hH, ↓reduceIte])).2 trivial) | (simp only [go_sem, hE, hH, ↓reduceIte]) | fail)
    rw [isOrd, hI]; simp
/-- Each deed of an order comes behind all that are ahead of it. -/
def keepsO (l : List Deed) (o : List Int) : Bool := allN (fun i => (o.drop (i + 1)).all fun m => !ahead (nth l m.toNat) (nth l (nth o i).toNat)) o.length
theorem all_drop {α : Type} [Inhabited α] {p : α → Bool} {l : List α} {i : Nat} : (l.drop i).all p = allN (fun k => p (nth l (i + k))) (l.drop i).length := by
  rw [← allN_all]
  refine allN_congr fun k hk => ?_
  have hk' : i + k < l.length := by simp at hk; omega
  rw [nth_lt hk, nth_lt hk', List.getElem_drop]
theorem nth_drop {α : Type} [Inhabited α] {l : List α} {i k : Nat} : nth (l.drop i) k = nth l (i + k) := by
  simp [nth, List.getD, List.getElem?_drop]
theorem keeps_ok (l : List Deed) (o : List Int) (ho : o.length ≤ maxLen) (hl : l.length ≤ maxLen) (hO : ∀ i, i < o.length → 0 ≤ nth o i ∧ nth o i < l.length) : ACall Tryz.prog n_impl_keeps [.sl false 8 (l.map (Deed.row false)), .sl false 1 (ints o)] (fun r _ => r = bl (keepsO l o)) := by
  have hmx := mx_eq
  refine fn_in h_impl_keeps r_impl_keeps ⟨by simp only [go_sem, ↓reduceIte], fun E hE hH => ?_⟩; simp only [go_sem, ↓reduceIte] at hE hH; simp only [go_sem, hE, hH, ↓reduceIte, c_impl_keeps]
  refine loopN o.length (fun j (_ : Unit) => ⟨[(0, .sl false 8 (l.map (Deed.row false))), (1, .sl false 1 (ints o)), (9, .sl false 1 (ints o)), (10, i64 o.length), (11, i64 j)], []⟩) (fun j _ => allN (fun i => (o.drop (i + 1)).all fun m => !ahead (nth l m.toNat) (nth l (nth o i).toNat)) j = true) () rfl ?_
  intro j _ hj hI
  try simp only [go_sem, hE, hH, ↓reduceIte, c_impl_keeps_l2]
  first | refine gd_t (fun h => ?_) (fun h => ?_) | refine gd_f (fun h => ?_) (fun h => ?_)
  · have hb := h
    simp only [decide_eq_true_eq, decide_eq_false_iff_not, Int.not_lt, Int.not_le, ge_iff_le, gt_iff_lt, Bool.not_eq_true', Bool.not_eq_false', beq_iff_eq, bne_iff_ne, beq_eq_false_iff_ne, bne_eq_false_iff_eq, Int.ofNat_lt, Int.ofNat_le] at h
    have hlt := h; clear h
    have hd : (o.drop (j + 1)).length = o.length - (j + 1) := List.length_drop
    try simp (disch := omega) only [go_sem, hE, hH, ↓reduceIte, hb]
    refine And.intro (by omega) ?_
    have e1 : ((j : Int) + 1).toNat = j + 1 := by omega
    have e2 : (o.drop (j + 1)).take (o.length - (j + 1)) = o.drop (j + 1) := List.take_of_length_le (by simp)
    try simp (disch := omega) only [go_sem, hE, hH, ↓reduceIte, e1, e2]
    refine And.intro (by omega) ?_
    refine loopN (o.drop (j + 1)).length (fun k (_ : Unit) => ⟨[(0, .sl false 8 (l.map (Deed.row false))), (1, .sl false 1 (ints o)), (6, i64 (nth o j)), (9, .sl false 1 (ints o)), (10, i64 o.length), (11, i64 j), (19, .sl false 1 (ints (o.drop (j + 1)))), (20, i64 (o.drop (j + 1)).length), (21, i64 k)], []⟩) (fun k _ => allN (fun i => !ahead (nth l (nth (o.drop (j + 1)) i).toNat) (nth l (nth o j).toNat)) k = true) () rfl ?_
    intro k _ hk hK
    try simp only [go_sem, hE, hH, ↓reduceIte, c_impl_keeps_l1]
    first | refine gd_t (fun h2 => ?_) (fun h2 => ?_) | refine gd_f (fun h2 => ?_) (fun h2 => ?_)
    · have hb2 := h2
      simp only [decide_eq_true_eq, decide_eq_false_iff_not, Int.not_lt, Int.not_le, ge_iff_le, gt_iff_lt, Bool.not_eq_true', Bool.not_eq_false', beq_iff_eq, bne_iff_ne, beq_eq_false_iff_ne, bne_eq_false_iff_eq, Int.ofNat_lt, Int.ofNat_le] at h2
      have hlt2 : k < (o.drop (j + 1)).length := by omega
      have q1 := hO j hlt
      have q2 := hO (j + 1 + k) (by omega)
      rw [← nth_drop] at q2
      try simp (disch := omega) only [go_sem, hE, hH, ↓reduceIte, hb2]
      repeat refine And.intro (by omega) ?_
      repeat' (first | ((with_reducible (first | refine gd_t (fun h => ?_) (fun h => ?_) | refine gd_f (fun h => ?_) (fun h => ?_))) <;> (have hb := h; (try simp only [decide_eq_true_eq, decide_eq_false_iff_not, Int.not_lt, Int.not_le, ge_iff_le, gt_iff_lt, Bool.not_eq_true', Bool.not_eq_false', beq_iff_eq, bne_iff_ne, beq_eq_false_iff_ne, bne_eq_false_iff_eq, Int.ofNat_lt, Int.ofNat_le] at h); simp (disch := omega) only [go_sem, hE, hH, ↓reduceIte, hb]; (try clear hb))) | ((with_reducible refine And.intro ?_ ?_); · omega) | (refine ok_view ?_; simp (disch := omega) only [go_sem, hE, hH, ↓reduceIte]) | (refine cvA (ahead_ok _ _) ?_; simp (disch := omega) only [go_sem, hE, hH, ↓reduceIte]) | (refine jn _ ?_ ?_) | (with_reducible refine both ?_ ?_) | (with_reducible refine And.intro ?_ ?_) | (refine fin_eq ?_; (try (simp (disch := omega) only [go_sem, hE, hH, ↓reduceIte])); first | done | rfl) | (simp (disch := omega) only [go_sem, hE, hH, ↓reduceIte]) | (exact (noMLL_set (by simp only [go_sem, hE, hH, ↓reduceIte]) (by simp only [go_sem, hE, hH, ↓reduceIte])).2 trivial) | (exact (pk_set (by simp only [go_sem, hE, hH, ↓reduceIte]) (by simp only [go_sem, hE, hH, ↓reduceIte])).2 trivial) | (simp only [go_sem, hE, hH, ↓reduceIte]) | fail)
      · rw [keepsO, allN_no hlt (by
          rw [List.all_eq_false]
          exact ⟨_, nth_mem hlt2, by simp [h]⟩)]
      · first | exact ⟨(), rfl, allN_step hK (by simp [h])⟩ | exact ⟨by omega, (), rfl, allN_step hK (by simp [h])⟩ | exact ⟨by omega, by omega, (), rfl, allN_step hK (by simp [h])⟩
    · try simp (disch := omega) only [go_sem, hE, hH, ↓reduceIte, h2]
      simp only [decide_eq_true_eq, decide_eq_false_iff_not, Int.not_lt, Int.not_le, ge_iff_le, gt_iff_lt, Bool.not_eq_true', Bool.not_eq_false', beq_iff_eq, bne_iff_ne, beq_eq_false_iff_ne, bne_eq_false_iff_eq, Int.ofNat_lt, Int.ofNat_le] at h2
      rw [show k = (o.drop (j + 1)).length by omega, allN_all (p := fun m : Int => !ahead (nth l m.toNat) (nth l (nth o j).toNat))] at hK
      first | exact ⟨(), rfl, allN_step hI hK⟩ | exact ⟨by omega, (), rfl, allN_step hI hK⟩ | exact ⟨by omega, by omega, (), rfl, allN_step hI hK⟩
  · try simp (disch := omega) only [go_sem, hE, hH, ↓reduceIte, h]
    simp only [decide_eq_true_eq, decide_eq_false_iff_not, Int.not_lt, Int.not_le, ge_iff_le, gt_iff_lt, Bool.not_eq_true', Bool.not_eq_false', beq_iff_eq, bne_iff_ne, beq_eq_false_iff_ne, bne_eq_false_iff_eq, Int.ofNat_lt, Int.ofNat_le] at h
    rw [show j = o.length by omega] at hI
    rw [keepsO, hI]
theorem l18Keeps_ok (l : List Deed) (o : List Int) (ho : o.length ≤ maxLen) (hl : l.length ≤ maxLen) (hg : goodHist l = true) (hO : ∀ i, i < o.length → 0 ≤ nth o i ∧ nth o i < l.length) : ACall Tryz.prog n_spec_l18Keeps [.sl false 8 (l.map (Deed.row false)), .sl false 1 (ints o)] (fun r _ => r = bl (keepsO l o)) := by
  have hmx := mx_eq
  refine fn_in h_spec_l18Keeps r_spec_l18Keeps ⟨by simp only [go_sem, ↓reduceIte], fun E hE hH => ?_⟩; simp only [go_sem, ↓reduceIte] at hE hH; simp only [go_sem, hE, hH, ↓reduceIte, c_spec_l18Keeps]
  refine loopN o.length (fun j (_ : Unit) => ⟨[(0, .sl false 8 (l.map (Deed.row false))), (1, .sl false 1 (ints o)), (9, .sl false 1 (ints o)), (10, i64 o.length), (11, i64 j)], []⟩) (fun j _ => allN (fun i => (o.drop (i + 1)).all fun m => !ahead (nth l m.toNat) (nth l (nth o i).toNat)) j = true) () rfl ?_
  intro j _ hj hI
  try simp only [go_sem, hE, hH, ↓reduceIte, c_spec_l18Keeps_l2]
  first | refine gd_t (fun h => ?_) (fun h => ?_) | refine gd_f (fun h => ?_) (fun h => ?_)
  · have hb := h
    simp only [decide_eq_true_eq, decide_eq_false_iff_not, Int.not_lt, Int.not_le, ge_iff_le, gt_iff_lt, Bool.not_eq_true', Bool.not_eq_false', beq_iff_eq, bne_iff_ne, beq_eq_false_iff_ne, bne_eq_false_iff_eq, Int.ofNat_lt, Int.ofNat_le] at h
    have hlt := h; clear h
    have hd : (o.drop (j + 1)).length = o.length - (j + 1) := List.length_drop
    try simp (disch := omega) only [go_sem, hE, hH, ↓reduceIte, hb]
    refine And.intro (by omega) ?_
    have e1 : ((j : Int) + 1).toNat = j + 1 := by omega
    have e2 : (o.drop (j + 1)).take (o.length - (j + 1)) = o.drop (j + 1) := List.take_of_length_le (by simp)
    try simp (disch := omega) only [go_sem, hE, hH, ↓reduceIte, e1, e2]
    refine And.intro (by omega) ?_
    refine loopN (o.drop (j + 1)).length (fun k (_ : Unit) => ⟨[(0, .sl false 8 (l.map (Deed.row false))), (1, .sl false 1 (ints o)), (6, i64 (nth o j)), (9, .sl false 1 (ints o)), (10, i64 o.length), (11, i64 j), (19, .sl false 1 (ints (o.drop (j + 1)))), (20, i64 (o.drop (j + 1)).length), (21, i64 k)], []⟩) (fun k _ => allN (fun i => !ahead (nth l (nth (o.drop (j + 1)) i).toNat) (nth l (nth o j).toNat)) k = true) () rfl ?_
    intro k _ hk hK
    try simp only [go_sem, hE, hH, ↓reduceIte, c_spec_l18Keeps_l1]
    first | refine gd_t (fun h2 => ?_) (fun h2 => ?_) | refine gd_f (fun h2 => ?_) (fun h2 => ?_)
    · have hb2 := h2
      simp only [decide_eq_true_eq, decide_eq_false_iff_not, Int.not_lt, Int.not_le, ge_iff_le, gt_iff_lt, Bool.not_eq_true', Bool.not_eq_false', beq_iff_eq, bne_iff_ne, beq_eq_false_iff_ne, bne_eq_false_iff_eq, Int.ofNat_lt, Int.ofNat_le] at h2
      have hlt2 : k < (o.drop (j + 1)).length := by omega
      have q1 := hO j hlt
      have q2 := hO (j + 1 + k) (by omega)
      rw [← nth_drop] at q2
      try simp (disch := omega) only [go_sem, hE, hH, ↓reduceIte, hb2]
      repeat refine And.intro (by omega) ?_
      have hA := ahead_eq (b := nth l (nth o j).toNat) (goodHist_mem hg (show (nth (o.drop (j + 1)) k).toNat < l.length by omega))
      repeat' (first | ((with_reducible (first | refine gd_t (fun h => ?_) (fun h => ?_) | refine gd_f (fun h => ?_) (fun h => ?_))) <;> (have hb := h; (try simp only [decide_eq_true_eq, decide_eq_false_iff_not, Int.not_lt, Int.not_le, ge_iff_le, gt_iff_lt, Bool.not_eq_true', Bool.not_eq_false', beq_iff_eq, bne_iff_ne, beq_eq_false_iff_ne, bne_eq_false_iff_eq, Int.ofNat_lt, Int.ofNat_le] at h); simp (disch := omega) only [go_sem, hE, hH, ↓reduceIte, hb]; (try clear hb))) | ((with_reducible refine And.intro ?_ ?_); · omega) | (refine ok_view ?_; simp (disch := omega) only [go_sem, hE, hH, ↓reduceIte]) | (refine cvA (l18Ahead_ok _ _) ?_; simp (disch := omega) only [go_sem, hE, hH, ↓reduceIte]) | (refine jn _ ?_ ?_) | (with_reducible refine both ?_ ?_) | (with_reducible refine And.intro ?_ ?_) | (refine fin_eq ?_; (try (simp (disch := omega) only [go_sem, hE, hH, ↓reduceIte])); first | done | rfl) | (simp (disch := omega) only [go_sem, hE, hH, ↓reduceIte]) | (exact (noMLL_set (by simp only [go_sem, hE, hH, ↓reduceIte]) (by simp only [go_sem, hE, hH, ↓reduceIte])).2 trivial) | (exact (pk_set (by simp only [go_sem, hE, hH, ↓reduceIte]) (by simp only [go_sem, hE, hH, ↓reduceIte])).2 trivial) | (simp only [go_sem, hE, hH, ↓reduceIte]) | fail)
      · rw [keepsO, allN_no hlt (by
          rw [List.all_eq_false]
          exact ⟨_, nth_mem hlt2, by simp [h, hA]⟩)]
      · first | exact ⟨(), rfl, allN_step hK (by simp [h, hA])⟩ | exact ⟨by omega, (), rfl, allN_step hK (by simp [h, hA])⟩ | exact ⟨by omega, by omega, (), rfl, allN_step hK (by simp [h, hA])⟩
    · try simp (disch := omega) only [go_sem, hE, hH, ↓reduceIte, h2]
      simp only [decide_eq_true_eq, decide_eq_false_iff_not, Int.not_lt, Int.not_le, ge_iff_le, gt_iff_lt, Bool.not_eq_true', Bool.not_eq_false', beq_iff_eq, bne_iff_ne, beq_eq_false_iff_ne, bne_eq_false_iff_eq, Int.ofNat_lt, Int.ofNat_le] at h2
      rw [show k = (o.drop (j + 1)).length by omega, allN_all (p := fun m : Int => !ahead (nth l m.toNat) (nth l (nth o j).toNat))] at hK
      first | exact ⟨(), rfl, allN_step hI hK⟩ | exact ⟨by omega, (), rfl, allN_step hI hK⟩ | exact ⟨by omega, by omega, (), rfl, allN_step hI hK⟩
  · try simp (disch := omega) only [go_sem, hE, hH, ↓reduceIte, h]
    simp only [decide_eq_true_eq, decide_eq_false_iff_not, Int.not_lt, Int.not_le, ge_iff_le, gt_iff_lt, Bool.not_eq_true', Bool.not_eq_false', beq_iff_eq, bne_iff_ne, beq_eq_false_iff_ne, bne_eq_false_iff_eq, Int.ofNat_lt, Int.ofNat_le] at h
    rw [show j = o.length by omega] at hI
    rw [keepsO, hI]
theorem isNaN_string_ok (x : ByteArray) : ACall Tryz.prog n_cmp_isNaN_string_ [str x] (fun r _ => r = bl false) := by
  refine fn_in h_cmp_isNaN_string_ r_cmp_isNaN_string_ ⟨by simp only [go_sem, ↓reduceIte], fun E hE hH => ?_⟩; simp only [go_sem, ↓reduceIte] at hE hH; simp only [go_sem, hE, hH, ↓reduceIte, c_cmp_isNaN_string_]
  try simp (disch := omega) only [go_sem, hE, hH, ↓reduceIte]
def cmpS (a b : ByteArray) : Int := if strLt a b then -1 else if strLt b a then 1 else 0
theorem Compare_string_ok (a b : ByteArray) : ACall Tryz.prog n_cmp_Compare_string_ [str a, str b] (fun r _ => r = i64 (cmpS a b)) := by
  refine fn_in h_cmp_Compare_string_ r_cmp_Compare_string_ ⟨by simp only [go_sem, ↓reduceIte], fun E hE hH => ?_⟩; simp only [go_sem, ↓reduceIte] at hE hH; simp only [go_sem, hE, hH, ↓reduceIte, c_cmp_Compare_string_]
  repeat' (first | ((with_reducible (first | refine gd_t (fun h => ?_) (fun h => ?_) | refine gd_f (fun h => ?_) (fun h => ?_))) <;> (have hb := h; (try simp only [decide_eq_true_eq, decide_eq_false_iff_not, Int.not_lt, Int.not_le, ge_iff_le, gt_iff_lt, Bool.not_eq_true', Bool.not_eq_false', beq_iff_eq, bne_iff_ne, beq_eq_false_iff_ne, bne_eq_false_iff_eq, Int.ofNat_lt, Int.ofNat_le] at h); simp (disch := omega) only [go_sem, hE, hH, ↓reduceIte, hb]; (try clear hb))) | ((with_reducible refine And.intro ?_ ?_); · omega) | (refine ok_view ?_; simp (disch := omega) only [go_sem, hE, hH, ↓reduceIte]) | (refine cvA (isNaN_string_ok _) ?_; simp (disch := omega) only [go_sem, hE, hH, ↓reduceIte]) | (refine jn _ ?_ ?_) | (with_reducible refine both ?_ ?_) | (with_reducible refine And.intro ?_ ?_) | (refine fin_eq ?_; (try (simp (disch := omega) only [go_sem, hE, hH, ↓reduceIte])); first | done | rfl) | (simp (disch := omega) only [go_sem, hE, hH, ↓reduceIte]) | (exact (noMLL_set (by simp only [go_sem, hE, hH, ↓reduceIte]) (by simp only [go_sem, hE, hH, ↓reduceIte])).2 trivial) | (exact (pk_set (by simp only [go_sem, hE, hH, ↓reduceIte]) (by simp only [go_sem, hE, hH, ↓reduceIte])).2 trivial) | (simp only [go_sem, hE, hH, ↓reduceIte]) | fail)
  all_goals (rcases strLt_total a b with q | q | q <;> simp_all [cmpS, strLt_irr, strLt_asymm])
theorem findWrite_1_ok (w : Write) (key : ByteArray) : ACall Tryz.prog n_impl_findWrite_1 ([.agg (Write.row false w), str key] ++ []) (fun r _ => r = i64 (cmpS w.Key key)) := by
  refine fn_in h_impl_findWrite_1 r_impl_findWrite_1 ⟨by simp only [go_sem, ↓reduceIte], fun E hE hH => ?_⟩; simp only [go_sem, ↓reduceIte] at hE hH; simp only [go_sem, hE, hH, ↓reduceIte, c_impl_findWrite_1]
  repeat' (first | ((with_reducible (first | refine gd_t (fun h => ?_) (fun h => ?_) | refine gd_f (fun h => ?_) (fun h => ?_))) <;> (have hb := h; (try simp only [decide_eq_true_eq, decide_eq_false_iff_not, Int.not_lt, Int.not_le, ge_iff_le, gt_iff_lt, Bool.not_eq_true', Bool.not_eq_false', beq_iff_eq, bne_iff_ne, beq_eq_false_iff_ne, bne_eq_false_iff_eq, Int.ofNat_lt, Int.ofNat_le] at h); simp (disch := omega) only [go_sem, hE, hH, ↓reduceIte, hb]; (try clear hb))) | ((with_reducible refine And.intro ?_ ?_); · omega) | (refine ok_view ?_; simp (disch := omega) only [go_sem, hE, hH, ↓reduceIte]) | (refine cvA (Compare_string_ok _ _) ?_; simp (disch := omega) only [go_sem, hE, hH, ↓reduceIte]) | (refine jn _ ?_ ?_) | (with_reducible refine both ?_ ?_) | (with_reducible refine And.intro ?_ ?_) | (refine fin_eq ?_; (try (simp (disch := omega) only [go_sem, hE, hH, ↓reduceIte])); first | done | rfl) | (simp (disch := omega) only [go_sem, hE, hH, ↓reduceIte]) | (exact (noMLL_set (by simp only [go_sem, hE, hH, ↓reduceIte]) (by simp only [go_sem, hE, hH, ↓reduceIte])).2 trivial) | (exact (pk_set (by simp only [go_sem, hE, hH, ↓reduceIte]) (by simp only [go_sem, hE, hH, ↓reduceIte])).2 trivial) | (simp only [go_sem, hE, hH, ↓reduceIte]) | fail)
def srtW (l : List Write) : Prop := ∀ i j, i < j → j < l.length → strLt (nth l i).Key (nth l j).Key = true
theorem goodWrites_srt {l : List Write} (h : goodWrites l = true) : srtW l := by
  simp only [goodWrites, Bool.and_eq_true] at h
  have key : ∀ d i, i + d + 1 < l.length → strLt (nth l i).Key (nth l (i + d + 1)).Key = true := by
    intro d
    induction d with
    | zero =>
      intro i hi
      have := allN_iff.1 h.2 (i + 1) (by omega)
      simp only [Bool.and_eq_true, Bool.or_eq_true, decide_eq_true_eq] at this
      exact this.2.resolve_left (by omega)
    | succ d ih =>
      intro i hi
      have h1 := ih i (by omega)
      have := allN_iff.1 h.2 (i + d + 2) (by omega)
      simp only [Bool.and_eq_true, Bool.or_eq_true, decide_eq_true_eq] at this
      exact strLt_trans h1 (this.2.resolve_left (by omega))
  intro i j h1 h2
  have := key (j - i - 1) i (by omega)
  rwa [show i + (j - i - 1) + 1 = j by omega] at this
/-- Where the write of a key lies, and whether there is one. -/
def fwI (l : List Write) (k : ByteArray) : Nat := cntN (fun i => strLt (nth l i).Key k) l.length
def fwF (l : List Write) (k : ByteArray) : Bool := l.any fun w => decide (w.Key = k)
theorem cmpS_neg {a b : ByteArray} : cmpS a b < 0 ↔ strLt a b = true := by
  unfold cmpS
  split
  · simp_all
  · split <;> simp_all
theorem cmpS_zero {a b : ByteArray} : cmpS a b = 0 ↔ a = b := by
  unfold cmpS
  rcases strLt_total a b with h | h | h
  · rw [if_pos h]; simp [strLt_ne h]
  · subst h; simp [strLt_irr]
  · rw [strLt_asymm h, if_neg (by simp), if_pos h]; simp [(strLt_ne h).symm]
theorem fw_eq {l : List Write} (hs : srtW l) (k : ByteArray) : bsI (fun w : Write => cmpS w.Key k) l = fwI l k ∧ bsF (fun w : Write => cmpS w.Key k) l = fwF l k := by
  have e1 : bsI (fun w : Write => cmpS w.Key k) l = fwI l k := by
    unfold bsI fwI
    congr 1; funext i
    rw [Bool.eq_iff_iff, decide_eq_true_iff, cmpS_neg]
  refine ⟨e1, ?_⟩
  rw [Bool.eq_iff_iff]
  unfold bsF fwF
  rw [e1, Bool.and_eq_true, decide_eq_true_iff, decide_eq_true_iff, cmpS_zero, List.any_eq_true]
  constructor
  · rintro ⟨h1, h2⟩; exact ⟨_, nth_mem h1, by simp [h2]⟩
  · rintro ⟨w, hw, h1⟩
    obtain ⟨i, hi, rfl⟩ := List.getElem_of_mem hw
    simp only [decide_eq_true_eq] at h1
    rw [← nth_lt hi] at h1
    have e2 : fwI l k = i := by
      unfold fwI
      rw [cntN_none (Nat.le_of_lt hi) (fun j a b => ?_), cntN_all (allN_iff.2 fun j hj => ?_)]
      · rw [← h1]; exact hs j i hj hi
      · by_cases e : j = i
        · rw [e, h1]; exact strLt_irr _
        · rw [← h1]; exact strLt_asymm (hs i j (by omega) b)
    rw [e2]; exact ⟨hi, h1⟩
theorem findWrite_ok (l : List Write) (key : ByteArray) (hl : l.length ≤ 2 ^ 60) (hs : srtW l) : ACall Tryz.prog n_impl_findWrite [.sl false 3 (l.map (Write.row false)), str key] (fun r _ => r = .tup [i64 (fwI l key), bl (fwF l key)]) := by
  obtain ⟨e1, e2⟩ := fw_eq hs key
  refine fn_in h_impl_findWrite r_impl_findWrite ⟨by simp only [go_sem, ↓reduceIte], fun E hE hH => ?_⟩; simp only [go_sem, ↓reduceIte] at hE hH; simp only [go_sem, hE, hH, ↓reduceIte, c_impl_findWrite]
  repeat' (first | ((with_reducible (first | refine gd_t (fun h => ?_) (fun h => ?_) | refine gd_f (fun h => ?_) (fun h => ?_))) <;> (have hb := h; (try simp only [decide_eq_true_eq, decide_eq_false_iff_not, Int.not_lt, Int.not_le, ge_iff_le, gt_iff_lt, Bool.not_eq_true', Bool.not_eq_false', beq_iff_eq, bne_iff_ne, beq_eq_false_iff_ne, bne_eq_false_iff_eq, Int.ofNat_lt, Int.ofNat_le] at h); simp (disch := omega) only [go_sem, hE, hH, ↓reduceIte, hb]; (try clear hb))) | ((with_reducible refine And.intro ?_ ?_); · omega) | (refine ok_view ?_; simp (disch := omega) only [go_sem, hE, hH, ↓reduceIte]) | (refine cvA (BinarySearchFunc_Write_ok l key _ [] (fun w => cmpS w.Key key) (by kernel_rfl) rfl hl (fun i j h1 h2 h3 => by have := hs i j h1 h2; rw [← Int.not_lt, cmpS_neg] at h3 ⊢; exact fun h => h3 (strLt_trans this h)) (fun w _ => findWrite_1_ok w key)) ?_; simp (disch := omega) only [go_sem, hE, hH, ↓reduceIte]) | (refine jn _ ?_ ?_) | (with_reducible refine both ?_ ?_) | (with_reducible refine And.intro ?_ ?_) | (refine fin_eq ?_; (try (simp (disch := omega) only [go_sem, hE, hH, ↓reduceIte])); first | done | rfl) | (simp (disch := omega) only [go_sem, hE, hH, ↓reduceIte]) | (exact (noMLL_set (by simp only [go_sem, hE, hH, ↓reduceIte]) (by simp only [go_sem, hE, hH, ↓reduceIte])).2 trivial) | (exact (pk_set (by simp only [go_sem, hE, hH, ↓reduceIte]) (by simp only [go_sem, hE, hH, ↓reduceIte])).2 trivial) | (simp only [go_sem, hE, hH, ↓reduceIte]) | fail)
  all_goals simp only [e1, e2]
end Go.Proofs.Wb

/- Contracts of functions. -/
import Derived.Test.YtnegienpomoodaaGreatFnExactStrictByTimeG1
import Derived.Laws.Externs
set_option linter.unusedSimpArgs false
set_option linter.unusedVariables false
set_option linter.unusedSectionVars false
namespace Go.Proofs.Wb
open Go Go.Am
/-! insertion from the back -/
def insK (lt : Int → Int → Bool) (x : Int) (p : List Int) : Nat → Nat
  | 0 => 0
  | k + 1 => if lt x (nth p k) then insK lt x p k else k + 1
def ins1 (lt : Int → Int → Bool) (p : List Int) (x : Int) : List Int := p.take (insK lt x p p.length) ++ [x] ++ p.drop (insK lt x p p.length)
def insS (lt : Int → Int → Bool) (l : List Int) : List Int := l.foldl (ins1 lt) []
theorem insK_le {lt : Int → Int → Bool} {x : Int} {p : List Int} : ∀ {n : Nat}, insK lt x p n ≤ n
  | 0 => Nat.le_refl _
  | n + 1 => by
    have := insK_le (lt := lt) (x := x) (p := p) (n := n)
    simp only [insK]; split <;> omega
theorem insK_at {lt : Int → Int → Bool} {x : Int} {p : List Int} {j : Nat} : ∀ {n : Nat}, j ≤ n → (∀ k, j ≤ k → k < n → lt x (nth p k) = true) → (j = 0 ∨ lt x (nth p (j - 1)) = false) → insK lt x p n = j
  | 0, h, _, _ => by simp only [insK]; omega
  | n + 1, h, h1, h2 => by
    simp only [insK]
    by_cases e : j = n + 1
    · rcases h2 with h2 | h2
      · omega
      · rw [e, Nat.add_sub_cancel] at h2
        rw [h2, e]; rfl
    · rw [if_pos (h1 n (by omega) (by omega))]
      exact insK_at (by omega) (fun k a b => h1 k a (by omega)) h2
theorem ins1_len {lt : Int → Int → Bool} {p : List Int} {x : Int} : (ins1 lt p x).length = p.length + 1 := by
  have := insK_le (lt := lt) (x := x) (p := p) (n := p.length)
  rw [ins1, List.length_append, List.length_append, List.length_take, List.length_drop]; simp; omega
theorem ins1_mem {lt : Int → Int → Bool} {p : List Int} {x y : Int} (h : y ∈ ins1 lt p x) : y = x ∨ y ∈ p := by
  simp only [ins1, List.mem_append, List.mem_singleton] at h
  rcases h with (h | h) | h
  · exact .inr (List.mem_of_mem_take h)
  · exact .inl h
  · exact .inr (List.mem_of_mem_drop h)
theorem insS_snoc {lt : Int → Int → Bool} {l : List Int} {x : Int} : insS lt (l ++ [x]) = ins1 lt (insS lt l) x := by
  simp [insS, List.foldl_append]
theorem insS_succ {lt : Int → Int → Bool} {l : List Int} {i : Nat} (h : i < l.length) : insS lt (l.take (i + 1)) = ins1 lt (insS lt (l.take i)) (nth l i) := by
  rw [take_nth h, insS_snoc]
theorem foldl_ins_len {lt : Int → Int → Bool} : ∀ {l p : List Int}, (l.foldl (ins1 lt) p).length = p.length + l.length
  | [], p => rfl
  | x :: t, p => by rw [List.foldl_cons, foldl_ins_len, ins1_len, List.length_cons]; omega
theorem insS_len {lt : Int → Int → Bool} {l : List Int} : (insS lt l).length = l.length := by rw [insS, foldl_ins_len]; simp
theorem foldl_ins_mem {lt : Int → Int → Bool} : ∀ {l p : List Int} {y : Int}, y ∈ l.foldl (ins1 lt) p → y ∈ l ∨ y ∈ p
  | [], p, y, h => .inr h
  | x :: t, p, y, h => by
    rcases foldl_ins_mem (l := t) h with h | h
    · exact .inl (List.mem_cons_of_mem _ h)
    · rcases ins1_mem h with h | h
      · exact .inl (h ▸ List.mem_cons_self)
      · exact .inr h
theorem insS_mem {lt : Int → Int → Bool} {l : List Int} {y : Int} (h : y ∈ insS lt l) : y ∈ l := (foldl_ins_mem h).resolve_right (by simp)
/-- The list while x moves down. -/
def mvD (p : List Int) (x : Int) (r : List Int) (j : Nat) : List Int := p.take j ++ x :: (p.drop j ++ r)
theorem mvD_len {p r : List Int} {x : Int} {j : Nat} (h : j ≤ p.length) : (mvD p x r j).length = p.length + 1 + r.length := by
  rw [mvD, List.length_append, List.length_cons, List.length_append, List.length_take, List.length_drop]; omega
theorem mvD_at {p r : List Int} {x : Int} {j : Nat} (h : j ≤ p.length) : nth (mvD p x r j) j = x := by
  have e : (p.take j).length = j := by rw [List.length_take]; omega
  rw [mvD, nth_app2 (by omega), e, Nat.sub_self]; rfl
theorem mvD_lo {p r : List Int} {x : Int} {j : Nat} (h : j ≤ p.length) (h0 : 0 < j) : nth (mvD p x r j) (j - 1) = nth p (j - 1) := by
  have e : (p.take j).length = j := by rw [List.length_take]; omega
  rw [mvD, nth_app1 (by omega), nth_take2 (by omega)]
theorem mvD_step {p r : List Int} {x : Int} {j : Nat} (h : j ≤ p.length) (h0 : 0 < j) : ((mvD p x r j).set j (nth p (j - 1))).set (j - 1) x = mvD p x r (j - 1) := by
  obtain ⟨i, rfl⟩ : ∃ i, j = i + 1 := ⟨j - 1, by omega⟩
  have hi : i < p.length := by omega
  have e : (p.take (i + 1)).length = i + 1 := by rw [List.length_take]; omega
  have e0 : (p.take i).length = i := by rw [List.length_take]; omega
  rw [Nat.add_sub_cancel, mvD, mvD, List.set_append_right _ _ (by omega), e, Nat.sub_self, List.set_cons_zero, take_nth hi, List.append_assoc, List.set_append_right _ _ (by omega), e0, Nat.sub_self]
  congr 1
  rw [show p.drop i = nth p i :: p.drop (i + 1) by rw [nth_lt hi]; exact List.drop_eq_getElem_cons hi]
  rfl
theorem mvD_start {p r : List Int} {x : Int} : mvD p x r p.length = p ++ x :: r := by
  rw [mvD, List.take_length, List.drop_length]; rfl
theorem mvD_end {lt : Int → Int → Bool} {p r : List Int} {x : Int} : mvD p x r (insK lt x p p.length) = ins1 lt p x ++ r := by
  rw [mvD, ins1]; simp
theorem drop1_ints {l : List Int} {i : Nat} : List.drop 1 ((ints l).getD i []) = [] := by
  rw [ints, List.getD_eq_getElem?_getD, List.getElem?_map]
  cases l[i]? <;> rfl

set_option maxHeartbeats 1000000 in
theorem insertionSort_ok (l : List Int) (f : Nat) (caps : List T) (c : Int → Int → Int) (hent : entB Tryz.prog f = true) (hcap : caps.all T.cap = true) (hl : l.length ≤ 2 ^ 20) (hp : ∀ x y, x ∈ l → y ∈ l → ACall Tryz.prog f ([i64 x, i64 y] ++ caps) (fun r _ => r = i64 (c x y))) :
    ACall Tryz.prog n_slices_insertionSortCmpFunc_int_ [.sl true 1 (ints l), i64 0, i64 l.length, .fn f caps] (fun r a => r = .tup [] ∧ a = [.sl true 1 (ints (insS (fun x y => decide (c x y < 0)) l)), i64 0, i64 l.length, .fn f caps]) := by
  have hmx := mx_eq
  generalize hlt : (fun x y => decide (c x y < 0)) = lt
  have hltd : ∀ x y, lt x y = decide (c x y < 0) := fun x y => by rw [← hlt]
  have st : insS lt (l.take (0 + 1)) ++ l.drop (0 + 1) = l := by
    cases l with
    | nil => rfl
    | cons x t => rfl
  refine fn_in h_slices_insertionSortCmpFunc_int_ r_slices_insertionSortCmpFunc_int_ ⟨by simp only [go_sem, ↓reduceIte, caps_bare hcap, caps_pk hcap, caps_noM hcap, caps_lt hcap, caps_ids hcap, caps_nob hcap], fun E hE hH => ?_⟩; simp only [go_sem, ↓reduceIte, caps_bare hcap, caps_pk hcap, caps_noM hcap, caps_lt hcap, caps_ids hcap, caps_nob hcap] at hE hH; simp only [go_sem, hE, hH, ↓reduceIte, caps_bare hcap, caps_pk hcap, caps_noM hcap, caps_lt hcap, caps_ids hcap, caps_nob hcap, c_slices_insertionSortCmpFunc_int_]
  try simp (disch := omega) only [go_sem, hE, hH, ↓reduceIte, caps_bare hcap, caps_pk hcap, caps_noM hcap, caps_lt hcap, caps_ids hcap, caps_nob hcap]
  refine loopNe (l.length - 1) (fun k (_ : Unit) => ⟨[(0, .ref 0 0 l.length), (1, i64 0), (2, i64 l.length), (3, .fn f caps), (8, i64 (k + 1 : Nat))], [(0, ⟨1, ints (insS lt (l.take (k + 1)) ++ l.drop (k + 1))⟩)]⟩) (fun _ _ => True) () (by rw [st]; rfl) trivial ?_
  intro k _ hk _
  generalize hi : k + 1 = i
  have hi1 : k + 1 + 1 = i + 1 := by omega
  try simp only [go_sem, hE, hH, ↓reduceIte, caps_bare hcap, caps_pk hcap, caps_noM hcap, caps_lt hcap, caps_ids hcap, caps_nob hcap, c_slices_insertionSortCmpFunc_int__l2]
  first | refine gd_t (fun h3 => ?_) (fun h3 => ?_) | refine gd_f (fun h3 => ?_) (fun h3 => ?_)
  · have hb3 := h3
    simp only [decide_eq_true_eq, decide_eq_false_iff_not, Int.not_lt, Int.not_le, ge_iff_le, gt_iff_lt, Bool.not_eq_true', Bool.not_eq_false', beq_iff_eq, bne_iff_ne, beq_eq_false_iff_ne, bne_eq_false_iff_eq, Int.ofNat_lt, Int.ofNat_le] at h3
    have hpl : (insS lt (l.take i)).length = i := by rw [insS_len, List.length_take]; omega
    try simp (disch := omega) only [go_sem, hE, hH, ↓reduceIte, caps_bare hcap, caps_pk hcap, caps_noM hcap, caps_lt hcap, caps_ids hcap, caps_nob hcap, hb3]
    generalize hP : insS lt (l.take i) = p at hpl
    have hsuc : insS lt (l.take (i + 1)) = ins1 lt p (nth l i) := by rw [insS_succ h3, hP]
    have hdr : l.drop i = nth l i :: l.drop (i + 1) := by rw [nth_lt h3]; exact List.drop_eq_getElem_cons h3
    rw [hdr]
    generalize hx : nth l i = x
    generalize hr : l.drop (i + 1) = r
    have hrl : r.length = l.length - (i + 1) := by rw [← hr, List.length_drop]
    rw [show p ++ x :: r = mvD p x r i by rw [← mvD_start, hpl]]
    refine loopM (fun (j : Nat) => ⟨[(0, .ref 0 0 l.length), (1, i64 0), (2, i64 l.length), (3, .fn f caps), (8, i64 i), (9, i64 j)], [(0, ⟨1, ints (mvD p x r j)⟩)]⟩) (fun j => j ≤ i ∧ ∀ k, j ≤ k → k < i → lt x (nth p k) = true) (fun j => j) i ⟨Nat.le_refl _, fun k a b => by omega⟩ ?_
    rintro j ⟨hj, hI⟩
    have d1 := mvD_len (x := x) (r := r) (show j ≤ p.length by omega)
    have d2 := mvD_at (x := x) (r := r) (show j ≤ p.length by omega)
    have d3 : (mvD p x r j).length = l.length := by rw [d1]; omega
    have m1 : x ∈ l := by rw [← hx]; exact nth_mem h3
    have m2 : ∀ y, y ∈ p → y ∈ l := fun y hy => by rw [← hP] at hy; exact List.mem_of_mem_take (insS_mem hy)
    by_cases hj0 : j = 0
    · subst hj0
      have en : insK lt x p p.length = 0 := insK_at (Nat.zero_le _) (fun k a b => hI k a (by omega)) (.inl rfl)
      have e9 : mvD p x r 0 = ins1 lt p x ++ r := by rw [← mvD_end (lt := lt), en]
      try simp only [go_sem, hE, hH, ↓reduceIte, caps_bare hcap, caps_pk hcap, caps_noM hcap, caps_lt hcap, caps_ids hcap, caps_nob hcap, c_slices_insertionSortCmpFunc_int__l1]
      try simp (disch := omega) only [go_sem, hE, hH, ↓reduceIte, caps_bare hcap, caps_pk hcap, caps_noM hcap, caps_lt hcap, caps_ids hcap, caps_nob hcap]
      first | refine gd_t (fun h4 => ?_) (fun h4 => ?_) | refine gd_f (fun h4 => ?_) (fun h4 => ?_)
      · have : ¬ decide ((0 : Int) > 0) = true := by decide
        exact absurd h4 this
      · try simp (disch := omega) only [go_sem, hE, hH, ↓reduceIte, caps_bare hcap, caps_pk hcap, caps_noM hcap, caps_lt hcap, caps_ids hcap, caps_nob hcap, h4]
        refine ⟨by omega, (), ?_⟩
        rw [hi1, hsuc, hr, hx, ← e9]; rfl
    · have d4 := mvD_lo (x := x) (r := r) (show j ≤ p.length by omega) (show 0 < j by omega)
      have m3 := m2 _ (nth_mem (show j - 1 < p.length by omega))
      try simp only [go_sem, hE, hH, ↓reduceIte, caps_bare hcap, caps_pk hcap, caps_noM hcap, caps_lt hcap, caps_ids hcap, caps_nob hcap, c_slices_insertionSortCmpFunc_int__l1]
      try simp (disch := omega) only [go_sem, hE, hH, ↓reduceIte, caps_bare hcap, caps_pk hcap, caps_noM hcap, caps_lt hcap, caps_ids hcap, caps_nob hcap]
      first | refine gd_t (fun h4 => ?_) (fun h4 => ?_) | refine gd_f (fun h4 => ?_) (fun h4 => ?_)
      · have hb4 := h4
        try simp (disch := omega) only [go_sem, hE, hH, ↓reduceIte, caps_bare hcap, caps_pk hcap, caps_noM hcap, caps_lt hcap, caps_ids hcap, caps_nob hcap, hb4]
        repeat' (first | ((with_reducible (first | refine gd_t (fun h => ?_) (fun h => ?_) | refine gd_f (fun h => ?_) (fun h => ?_))) <;> (have hb := h; (try simp only [decide_eq_true_eq, decide_eq_false_iff_not, Int.not_lt, Int.not_le, ge_iff_le, gt_iff_lt, Bool.not_eq_true', Bool.not_eq_false', beq_iff_eq, bne_iff_ne, beq_eq_false_iff_ne, bne_eq_false_iff_eq, Int.ofNat_lt, Int.ofNat_le] at h); simp (disch := omega) only [go_sem, hE, hH, ↓reduceIte, caps_bare hcap, caps_pk hcap, caps_noM hcap, caps_lt hcap, caps_ids hcap, caps_nob hcap, d2, d3, d4, hb]; (try clear hb))) | ((with_reducible refine And.intro ?_ ?_); · omega) | (refine ok_cfv rfl rfl rfl (hent) (hcap) (hp x (nth p (j - 1)) m1 m3) ?_; simp (disch := omega) only [go_sem, hE, hH, ↓reduceIte, caps_bare hcap, caps_pk hcap, caps_noM hcap, caps_lt hcap, caps_ids hcap, caps_nob hcap, d2, d3, d4]) | (refine jn _ ?_ ?_) | (with_reducible refine both ?_ ?_) | (with_reducible refine And.intro ?_ ?_) | (refine fin_eq ?_; (try (simp (disch := omega) only [go_sem, hE, hH, ↓reduceIte, caps_bare hcap, caps_pk hcap, caps_noM hcap, caps_lt hcap, caps_ids hcap, caps_nob hcap, d2, d3, d4])); first | done | rfl) | (simp (disch := omega) only [go_sem, hE, hH, ↓reduceIte, caps_bare hcap, caps_pk hcap, caps_noM hcap, caps_lt hcap, caps_ids hcap, caps_nob hcap, d2, d3, d4]) | (exact (noMLL_set (by simp only [go_sem, hE, hH, ↓reduceIte, caps_bare hcap, caps_pk hcap, caps_noM hcap, caps_lt hcap, caps_ids hcap, caps_nob hcap, d2, d3, d4]) (by simp only [go_sem, hE, hH, ↓reduceIte, caps_bare hcap, caps_pk hcap, caps_noM hcap, caps_lt hcap, caps_ids hcap, caps_nob hcap, d2, d3, d4])).2 trivial) | (exact (pk_set (by simp only [go_sem, hE, hH, ↓reduceIte, caps_bare hcap, caps_pk hcap, caps_noM hcap, caps_lt hcap, caps_ids hcap, caps_nob hcap, d2, d3, d4]) (by simp only [go_sem, hE, hH, ↓reduceIte, caps_bare hcap, caps_pk hcap, caps_noM hcap, caps_lt hcap, caps_ids hcap, caps_nob hcap, d2, d3, d4])).2 trivial) | (simp only [go_sem, hE, hH, ↓reduceIte, caps_bare hcap, caps_pk hcap, caps_noM hcap, caps_lt hcap, caps_ids hcap, caps_nob hcap, d2, d3, d4]) | fail)
        · refine ⟨j - 1, ?_, ⟨by omega, fun q a b => ?_⟩, by omega⟩
          · rw [drop1_ints, show ((j : Int) - 1) = ((j - 1 : Nat) : Int) by omega]
            rw [show (ints ((mvD p x r j).set j (nth p (j - 1)))).set (j - 1) [i64 x] = ints (((mvD p x r j).set j (nth p (j - 1))).set (j - 1) x) from (List.map_set).symm, mvD_step (by omega) (by omega)]
          · by_cases e : q = j - 1
            · rw [e, hltd]; simpa using h
            · exact hI q (by omega) b
        · have en : insK lt x p p.length = j := insK_at (by omega) (fun q a b => hI q a (by omega)) (.inr (by rw [hltd]; simpa using h))
          refine ⟨(), ?_⟩
          rw [hi1, hsuc, hr, hx, ← mvD_end, en]; rfl
      · simp only [decide_eq_true_eq, decide_eq_false_iff_not, Int.not_lt, Int.not_le, ge_iff_le, gt_iff_lt, Bool.not_eq_true', Bool.not_eq_false', beq_iff_eq, bne_iff_ne, beq_eq_false_iff_ne, bne_eq_false_iff_eq, Int.ofNat_lt, Int.ofNat_le] at h4
        omega
  · have e9 : insS lt (l.take i) ++ l.drop i = insS lt l := by
      simp only [decide_eq_true_eq, decide_eq_false_iff_not, Int.not_lt, Int.not_le, ge_iff_le, gt_iff_lt, Bool.not_eq_true', Bool.not_eq_false', beq_iff_eq, bne_iff_ne, beq_eq_false_iff_ne, bne_eq_false_iff_eq, Int.ofNat_lt, Int.ofNat_le] at h3
      rw [List.take_of_length_le (by omega), List.drop_eq_nil_of_le (by omega), List.append_nil]
    have e8 : (insS lt l).length = l.length := insS_len
    rw [e9]
    try simp (disch := omega) only [go_sem, hE, hH, ↓reduceIte, caps_bare hcap, caps_pk hcap, caps_noM hcap, caps_lt hcap, caps_ids hcap, caps_nob hcap, e8, h3]


theorem stableCmp_ok (l : List Int) (f : Nat) (caps : List T) (c : Int → Int → Int) (hent : entB Tryz.prog f = true) (hcap : caps.all T.cap = true) (hl : l.length < 20) (hp : ∀ x y, x ∈ l → y ∈ l → ACall Tryz.prog f ([i64 x, i64 y] ++ caps) (fun r _ => r = i64 (c x y))) :
    ACall Tryz.prog n_slices_stableCmpFunc_int_ [.sl true 1 (ints l), i64 l.length, .fn f caps] (fun r a => r = .tup [] ∧ a = [.sl true 1 (ints (insS (fun x y => decide (c x y < 0)) l)), i64 l.length, .fn f caps]) := by
  have hmx := mx_eq
  have i1 := insertionSort_ok l f caps c hent hcap (by omega) hp
  generalize hlt : (fun x y => decide (c x y < 0)) = lt at *
  have e8 : (insS lt l).length = l.length := insS_len
  refine fn_in h_slices_stableCmpFunc_int_ r_slices_stableCmpFunc_int_ ⟨by simp only [go_sem, ↓reduceIte, caps_bare hcap, caps_pk hcap, caps_noM hcap, caps_lt hcap, caps_ids hcap, caps_nob hcap, vwRow_caps hcap, vwC_ok hcap], fun E hE hH => ?_⟩; simp only [go_sem, ↓reduceIte, caps_bare hcap, caps_pk hcap, caps_noM hcap, caps_lt hcap, caps_ids hcap, caps_nob hcap, vwRow_caps hcap, vwC_ok hcap] at hE hH; simp only [go_sem, hE, hH, ↓reduceIte, caps_bare hcap, caps_pk hcap, caps_noM hcap, caps_lt hcap, caps_ids hcap, caps_nob hcap, vwRow_caps hcap, vwC_ok hcap, c_slices_stableCmpFunc_int_]
  try simp (disch := omega) only [go_sem, hE, hH, ↓reduceIte, caps_bare hcap, caps_pk hcap, caps_noM hcap, caps_lt hcap, caps_ids hcap, caps_nob hcap, vwRow_caps hcap, vwC_ok hcap]
  refine loopNe 0 (fun _ (_ : Unit) => ⟨[(0, .ref 0 0 l.length), (1, i64 l.length), (2, .fn f caps), (6, i64 20), (7, i64 0), (8, i64 20)], [(0, ⟨1, ints l⟩)]⟩) (fun _ _ => True) () rfl trivial ?_
  intro _ _ _ _
  try simp only [go_sem, hE, hH, ↓reduceIte, caps_bare hcap, caps_pk hcap, caps_noM hcap, caps_lt hcap, caps_ids hcap, caps_nob hcap, vwRow_caps hcap, vwC_ok hcap, c_slices_stableCmpFunc_int__l1]
  try simp (disch := omega) only [go_sem, hE, hH, ↓reduceIte, caps_bare hcap, caps_pk hcap, caps_noM hcap, caps_lt hcap, caps_ids hcap, caps_nob hcap, vwRow_caps hcap, vwC_ok hcap]
  first | refine gd_t (fun h1 => ?_) (fun h1 => ?_) | refine gd_f (fun h1 => ?_) (fun h1 => ?_)
  · simp only [decide_eq_true_eq, decide_eq_false_iff_not, Int.not_lt, Int.not_le, ge_iff_le, gt_iff_lt, Bool.not_eq_true', Bool.not_eq_false', beq_iff_eq, bne_iff_ne, beq_eq_false_iff_ne, bne_eq_false_iff_eq, Int.ofNat_lt, Int.ofNat_le] at h1
    omega
  try simp (disch := omega) only [go_sem, hE, hH, ↓reduceIte, caps_bare hcap, caps_pk hcap, caps_noM hcap, caps_lt hcap, caps_ids hcap, caps_nob hcap, vwRow_caps hcap, vwC_ok hcap, h1]
  repeat' (first | ((with_reducible (first | refine gd_t (fun h => ?_) (fun h => ?_) | refine gd_f (fun h => ?_) (fun h => ?_))) <;> (have hb := h; (try simp only [decide_eq_true_eq, decide_eq_false_iff_not, Int.not_lt, Int.not_le, ge_iff_le, gt_iff_lt, Bool.not_eq_true', Bool.not_eq_false', beq_iff_eq, bne_iff_ne, beq_eq_false_iff_ne, bne_eq_false_iff_eq, Int.ofNat_lt, Int.ofNat_le] at h); simp (disch := omega) only [go_sem, hE, hH, ↓reduceIte, caps_bare hcap, caps_pk hcap, caps_noM hcap, caps_lt hcap, caps_ids hcap, caps_nob hcap, vwRow_caps hcap, vwC_ok hcap, hb]; (try clear hb))) | ((with_reducible refine And.intro ?_ ?_); · omega) | (refine ok_lend [true, false, false, false] ?_; simp (disch := omega) only [go_sem, hE, hH, ↓reduceIte, caps_bare hcap, caps_pk hcap, caps_noM hcap, caps_lt hcap, caps_ids hcap, caps_nob hcap, vwRow_caps hcap, vwC_ok hcap]; refine cmA (i1) ?_; simp (disch := omega) only [go_sem, hE, hH, ↓reduceIte, caps_bare hcap, caps_pk hcap, caps_noM hcap, caps_lt hcap, caps_ids hcap, caps_nob hcap, vwRow_caps hcap, vwC_ok hcap]) | (refine jn _ ?_ ?_) | (with_reducible refine both ?_ ?_) | (with_reducible refine And.intro ?_ ?_) | (refine fin_eq ?_; (try (simp (disch := omega) only [go_sem, hE, hH, ↓reduceIte, caps_bare hcap, caps_pk hcap, caps_noM hcap, caps_lt hcap, caps_ids hcap, caps_nob hcap, vwRow_caps hcap, vwC_ok hcap])); first | done | rfl) | (simp (disch := omega) only [go_sem, hE, hH, ↓reduceIte, caps_bare hcap, caps_pk hcap, caps_noM hcap, caps_lt hcap, caps_ids hcap, caps_nob hcap, vwRow_caps hcap, vwC_ok hcap]) | (exact (noMLL_set (by simp only [go_sem, hE, hH, ↓reduceIte, caps_bare hcap, caps_pk hcap, caps_noM hcap, caps_lt hcap, caps_ids hcap, caps_nob hcap, vwRow_caps hcap, vwC_ok hcap]) (by simp only [go_sem, hE, hH, ↓reduceIte, caps_bare hcap, caps_pk hcap, caps_noM hcap, caps_lt hcap, caps_ids hcap, caps_nob hcap, vwRow_caps hcap, vwC_ok hcap])).2 trivial) | (exact (pk_set (by simp only [go_sem, hE, hH, ↓reduceIte, caps_bare hcap, caps_pk hcap, caps_noM hcap, caps_lt hcap, caps_ids hcap, caps_nob hcap, vwRow_caps hcap, vwC_ok hcap]) (by simp only [go_sem, hE, hH, ↓reduceIte, caps_bare hcap, caps_pk hcap, caps_noM hcap, caps_lt hcap, caps_ids hcap, caps_nob hcap, vwRow_caps hcap, vwC_ok hcap])).2 trivial) | (simp only [go_sem, hE, hH, ↓reduceIte, caps_bare hcap, caps_pk hcap, caps_noM hcap, caps_lt hcap, caps_ids hcap, caps_nob hcap, vwRow_caps hcap, vwC_ok hcap]) | fail)
  refine loopNe 0 (fun _ (_ : Unit) => ⟨[(0, .ref 0 0 l.length), (1, i64 l.length), (2, .fn f caps), (6, i64 20)], [(0, ⟨1, ints (insS lt l)⟩)]⟩) (fun _ _ => True) () rfl trivial ?_
  intro _ _ _ _
  try simp only [go_sem, hE, hH, ↓reduceIte, caps_bare hcap, caps_pk hcap, caps_noM hcap, caps_lt hcap, caps_ids hcap, caps_nob hcap, vwRow_caps hcap, vwC_ok hcap, c_slices_stableCmpFunc_int__l3]
  try simp (disch := omega) only [go_sem, hE, hH, ↓reduceIte, caps_bare hcap, caps_pk hcap, caps_noM hcap, caps_lt hcap, caps_ids hcap, caps_nob hcap, vwRow_caps hcap, vwC_ok hcap]
  first | refine gd_t (fun h2 => ?_) (fun h2 => ?_) | refine gd_f (fun h2 => ?_) (fun h2 => ?_)
  · simp only [decide_eq_true_eq, decide_eq_false_iff_not, Int.not_lt, Int.not_le, ge_iff_le, gt_iff_lt, Bool.not_eq_true', Bool.not_eq_false', beq_iff_eq, bne_iff_ne, beq_eq_false_iff_ne, bne_eq_false_iff_eq, Int.ofNat_lt, Int.ofNat_le] at h2
    omega
  try simp (disch := omega) only [go_sem, hE, hH, ↓reduceIte, caps_bare hcap, caps_pk hcap, caps_noM hcap, caps_lt hcap, caps_ids hcap, caps_nob hcap, vwRow_caps hcap, vwC_ok hcap, h2]
  exact e8.symm


theorem SortStableFunc_ok (l : List Int) (f : Nat) (caps : List T) (c : Int → Int → Int) (hent : entB Tryz.prog f = true) (hcap : caps.all T.cap = true) (hl : l.length < 20) (hp : ∀ x y, x ∈ l → y ∈ l → ACall Tryz.prog f ([i64 x, i64 y] ++ caps) (fun r _ => r = i64 (c x y))) :
    ACall Tryz.prog n_slices_SortStableFunc___int_int_ [.sl true 1 (ints l), .fn f caps] (fun r a => r = .tup [] ∧ a = [.sl true 1 (ints (insS (fun x y => decide (c x y < 0)) l)), .fn f caps]) := by
  have hmx := mx_eq
  have i1 := stableCmp_ok l f caps c hent hcap hl hp
  generalize hlt : (fun x y => decide (c x y < 0)) = lt at *
  have e8 : (insS lt l).length = l.length := insS_len
  refine fn_in h_slices_SortStableFunc___int_int_ r_slices_SortStableFunc___int_int_ ⟨by simp only [go_sem, ↓reduceIte, caps_bare hcap, caps_pk hcap, caps_noM hcap, caps_lt hcap, caps_ids hcap, caps_nob hcap, vwRow_caps hcap, vwC_ok hcap], fun E hE hH => ?_⟩; simp only [go_sem, ↓reduceIte, caps_bare hcap, caps_pk hcap, caps_noM hcap, caps_lt hcap, caps_ids hcap, caps_nob hcap, vwRow_caps hcap, vwC_ok hcap] at hE hH; simp only [go_sem, hE, hH, ↓reduceIte, caps_bare hcap, caps_pk hcap, caps_noM hcap, caps_lt hcap, caps_ids hcap, caps_nob hcap, vwRow_caps hcap, vwC_ok hcap, c_slices_SortStableFunc___int_int_]
  try simp (disch := omega) only [go_sem, hE, hH, ↓reduceIte, caps_bare hcap, caps_pk hcap, caps_noM hcap, caps_lt hcap, caps_ids hcap, caps_nob hcap, vwRow_caps hcap, vwC_ok hcap]
  repeat' (first | ((with_reducible (first | refine gd_t (fun h => ?_) (fun h => ?_) | refine gd_f (fun h => ?_) (fun h => ?_))) <;> (have hb := h; (try simp only [decide_eq_true_eq, decide_eq_false_iff_not, Int.not_lt, Int.not_le, ge_iff_le, gt_iff_lt, Bool.not_eq_true', Bool.not_eq_false', beq_iff_eq, bne_iff_ne, beq_eq_false_iff_ne, bne_eq_false_iff_eq, Int.ofNat_lt, Int.ofNat_le] at h); simp (disch := omega) only [go_sem, hE, hH, ↓reduceIte, caps_bare hcap, caps_pk hcap, caps_noM hcap, caps_lt hcap, caps_ids hcap, caps_nob hcap, vwRow_caps hcap, vwC_ok hcap, hb]; (try clear hb))) | ((with_reducible refine And.intro ?_ ?_); · omega) | (refine ok_lend [true, false, false] ?_; simp (disch := omega) only [go_sem, hE, hH, ↓reduceIte, caps_bare hcap, caps_pk hcap, caps_noM hcap, caps_lt hcap, caps_ids hcap, caps_nob hcap, vwRow_caps hcap, vwC_ok hcap]; refine cmA (i1) ?_; simp (disch := omega) only [go_sem, hE, hH, ↓reduceIte, caps_bare hcap, caps_pk hcap, caps_noM hcap, caps_lt hcap, caps_ids hcap, caps_nob hcap, vwRow_caps hcap, vwC_ok hcap]) | (refine jn _ ?_ ?_) | (with_reducible refine both ?_ ?_) | (with_reducible refine And.intro ?_ ?_) | (refine fin_eq ?_; (try (simp (disch := omega) only [go_sem, hE, hH, ↓reduceIte, caps_bare hcap, caps_pk hcap, caps_noM hcap, caps_lt hcap, caps_ids hcap, caps_nob hcap, vwRow_caps hcap, vwC_ok hcap])); first | done | rfl) | (simp (disch := omega) only [go_sem, hE, hH, ↓reduceIte, caps_bare hcap, caps_pk hcap, caps_noM hcap, caps_lt hcap, caps_ids hcap, caps_nob hcap, vwRow_caps hcap, vwC_ok hcap]) | (exact (noMLL_set (by simp only [go_sem, hE, hH, ↓reduceIte, caps_bare hcap, caps_pk hcap, caps_noM hcap, caps_lt hcap, caps_ids hcap, caps_nob hcap, vwRow_caps hcap, vwC_ok hcap]) (by simp only [go_sem, hE, hH, ↓reduceIte, caps_bare hcap, caps_pk hcap, caps_noM hcap, caps_lt hcap, caps_ids hcap, caps_nob hcap, vwRow_caps hcap, vwC_ok hcap])).2 trivial) | (exact (pk_set (by simp only [go_sem, hE, hH, ↓reduceIte, caps_bare hcap, caps_pk hcap, caps_noM hcap, caps_lt hcap, caps_ids hcap, caps_nob hcap, vwRow_caps hcap, vwC_ok hcap]) (by simp only [go_sem, hE, hH, ↓reduceIte, caps_bare hcap, caps_pk hcap, caps_noM hcap, caps_lt hcap, caps_ids hcap, caps_nob hcap, vwRow_caps hcap, vwC_ok hcap])).2 trivial) | (simp only [go_sem, hE, hH, ↓reduceIte, caps_bare hcap, caps_pk hcap, caps_noM hcap, caps_lt hcap, caps_ids hcap, caps_nob hcap, vwRow_caps hcap, vwC_ok hcap]) | fail)
  exact e8.symm

def cmpI (a b : Int) : Int := if a < b then -1 else if b < a then 1 else 0
def orI : List Int → Int
  | [] => 0
  | x :: t => if x = 0 then orI t else x
theorem isNaN_int_ok (x : Int) : ACall Tryz.prog n_cmp_isNaN_int_ [i64 x] (fun r _ => r = bl false) := by
  refine fn_in h_cmp_isNaN_int_ r_cmp_isNaN_int_ ⟨by simp only [go_sem, ↓reduceIte], fun E hE hH => ?_⟩; simp only [go_sem, ↓reduceIte] at hE hH; simp only [go_sem, hE, hH, ↓reduceIte, c_cmp_isNaN_int_]
  try simp (disch := omega) only [go_sem, hE, hH, ↓reduceIte]
theorem Compare_int_ok (a b : Int) : ACall Tryz.prog n_cmp_Compare_int_ [i64 a, i64 b] (fun r _ => r = i64 (cmpI a b)) := by
  refine fn_in h_cmp_Compare_int_ r_cmp_Compare_int_ ⟨by simp only [go_sem, ↓reduceIte], fun E hE hH => ?_⟩; simp only [go_sem, ↓reduceIte] at hE hH; simp only [go_sem, hE, hH, ↓reduceIte, c_cmp_Compare_int_]
  repeat' (first | ((with_reducible (first | refine gd_t (fun h => ?_) (fun h => ?_) | refine gd_f (fun h => ?_) (fun h => ?_))) <;> (have hb := h; (try simp only [decide_eq_true_eq, decide_eq_false_iff_not, Int.not_lt, Int.not_le, ge_iff_le, gt_iff_lt, Bool.not_eq_true', Bool.not_eq_false', beq_iff_eq, bne_iff_ne, beq_eq_false_iff_ne, bne_eq_false_iff_eq, Int.ofNat_lt, Int.ofNat_le] at h); simp (disch := omega) only [go_sem, hE, hH, ↓reduceIte, hb]; (try clear hb))) | ((with_reducible refine And.intro ?_ ?_); · omega) | (refine ok_view ?_; simp (disch := omega) only [go_sem, hE, hH, ↓reduceIte]) | (refine cvA (isNaN_int_ok _) ?_; simp (disch := omega) only [go_sem, hE, hH, ↓reduceIte]) | (refine jn _ ?_ ?_) | (with_reducible refine both ?_ ?_) | (with_reducible refine And.intro ?_ ?_) | (refine fin_eq ?_; (try (simp (disch := omega) only [go_sem, hE, hH, ↓reduceIte])); first | done | rfl) | (simp (disch := omega) only [go_sem, hE, hH, ↓reduceIte]) | (exact (noMLL_set (by simp only [go_sem, hE, hH, ↓reduceIte]) (by simp only [go_sem, hE, hH, ↓reduceIte])).2 trivial) | (exact (pk_set (by simp only [go_sem, hE, hH, ↓reduceIte]) (by simp only [go_sem, hE, hH, ↓reduceIte])).2 trivial) | (simp only [go_sem, hE, hH, ↓reduceIte]) | fail)
  all_goals (unfold cmpI)
  · rw [if_pos h]
  · rw [if_neg (by omega), if_pos h]
  · rw [if_neg (by omega), if_neg (by omega)]
theorem Or_int_ok (l : List Int) (hl : l.length ≤ maxLen) : ACall Tryz.prog n_cmp_Or_int_ [.sl false 1 (ints l)] (fun r _ => r = i64 (orI l)) := by
  have hmx := mx_eq
  have key : ∀ {j : Nat}, j < l.length → allN (fun i => decide (nth l i = 0)) j = true → ¬ nth l j = 0 → orI l = nth l j := by
    clear hl hmx
    induction l with
    | nil => intro j h; simp at h
    | cons x t ih =>
      intro j h1 h2 h3
      cases j with
      | zero => simp only [nth_cons_zero] at h3 ⊢; rw [orI, if_neg h3]
      | succ j =>
        have h4 := allN_iff.1 h2
        have h0 := h4 0 (by omega)
        replace h0 : x = 0 := of_decide_eq_true h0
        rw [orI, if_pos h0]
        simp only [nth_cons_succ] at h3 ⊢
        refine ih (by simpa using h1) (allN_iff.2 fun i hi => ?_) h3
        exact decide_eq_true (of_decide_eq_true (h4 (i + 1) (by omega)))
  have key0 : allN (fun i => decide (nth l i = 0)) l.length = true → orI l = 0 := by
    clear hl hmx key
    induction l with
    | nil => intro _; rfl
    | cons x t ih =>
      intro h2
      have h4 := allN_iff.1 h2
      have h0 := h4 0 (by simp)
      replace h0 : x = 0 := of_decide_eq_true h0
      rw [orI, if_pos h0]
      refine ih (allN_iff.2 fun i hi => ?_)
      exact decide_eq_true (of_decide_eq_true (h4 (i + 1) (by simpa using hi)))
  refine fn_in h_cmp_Or_int_ r_cmp_Or_int_ ⟨by simp only [go_sem, ↓reduceIte], fun E hE hH => ?_⟩; simp only [go_sem, ↓reduceIte] at hE hH; simp only [go_sem, hE, hH, ↓reduceIte, c_cmp_Or_int_]
  try simp (disch := omega) only [go_sem, hE, hH, ↓reduceIte]
  refine loopN l.length (fun j (_ : Unit) => ⟨[(3, i64 0), (6, .sl false 1 (ints l)), (7, i64 l.length), (8, i64 j)], []⟩) (fun j _ => allN (fun i => decide (nth l i = 0)) j = true) () rfl ?_
  intro j _ hj hI
  try simp only [go_sem, hE, hH, ↓reduceIte, c_cmp_Or_int__l1]
  first | refine gd_t (fun h1 => ?_) (fun h1 => ?_) | refine gd_f (fun h1 => ?_) (fun h1 => ?_)
  · have hb1 := h1
    simp only [decide_eq_true_eq, decide_eq_false_iff_not, Int.not_lt, Int.not_le, ge_iff_le, gt_iff_lt, Bool.not_eq_true', Bool.not_eq_false', beq_iff_eq, bne_iff_ne, beq_eq_false_iff_ne, bne_eq_false_iff_eq, Int.ofNat_lt, Int.ofNat_le] at h1
    have hlt := h1; clear h1
    try simp (disch := omega) only [go_sem, hE, hH, ↓reduceIte, hb1]
    repeat' (first | ((with_reducible (first | refine gd_t (fun h => ?_) (fun h => ?_) | refine gd_f (fun h => ?_) (fun h => ?_))) <;> (have hb := h; (try simp only [decide_eq_true_eq, decide_eq_false_iff_not, Int.not_lt, Int.not_le, ge_iff_le, gt_iff_lt, Bool.not_eq_true', Bool.not_eq_false', beq_iff_eq, bne_iff_ne, beq_eq_false_iff_ne, bne_eq_false_iff_eq, Int.ofNat_lt, Int.ofNat_le] at h); simp (disch := omega) only [go_sem, hE, hH, ↓reduceIte, hb]; (try clear hb))) | ((with_reducible refine And.intro ?_ ?_); · omega) | (refine jn _ ?_ ?_) | (with_reducible refine both ?_ ?_) | (with_reducible refine And.intro ?_ ?_) | (refine fin_eq ?_; (try (simp (disch := omega) only [go_sem, hE, hH, ↓reduceIte])); first | done | rfl) | (simp (disch := omega) only [go_sem, hE, hH, ↓reduceIte]) | (exact (noMLL_set (by simp only [go_sem, hE, hH, ↓reduceIte]) (by simp only [go_sem, hE, hH, ↓reduceIte])).2 trivial) | (exact (pk_set (by simp only [go_sem, hE, hH, ↓reduceIte]) (by simp only [go_sem, hE, hH, ↓reduceIte])).2 trivial) | (simp only [go_sem, hE, hH, ↓reduceIte]) | fail)
    · rw [key hlt hI h]
    · first | exact ⟨(), rfl, allN_step hI (by simp [h])⟩ | exact ⟨by omega, (), rfl, allN_step hI (by simp [h])⟩ | exact ⟨by omega, by omega, (), rfl, allN_step hI (by simp [h])⟩
  · try simp (disch := omega) only [go_sem, hE, hH, ↓reduceIte, h1]
    simp only [decide_eq_true_eq, decide_eq_false_iff_not, Int.not_lt, Int.not_le, ge_iff_le, gt_iff_lt, Bool.not_eq_true', Bool.not_eq_false', beq_iff_eq, bne_iff_ne, beq_eq_false_iff_ne, bne_eq_false_iff_eq, Int.ofNat_lt, Int.ofNat_le] at h1
    rw [show j = l.length by omega] at hI
    repeat' (first | ((with_reducible (first | refine gd_t (fun h => ?_) (fun h => ?_) | refine gd_f (fun h => ?_) (fun h => ?_))) <;> (have hb := h; (try simp only [decide_eq_true_eq, decide_eq_false_iff_not, Int.not_lt, Int.not_le, ge_iff_le, gt_iff_lt, Bool.not_eq_true', Bool.not_eq_false', beq_iff_eq, bne_iff_ne, beq_eq_false_iff_ne, bne_eq_false_iff_eq, Int.ofNat_lt, Int.ofNat_le] at h); simp (disch := omega) only [go_sem, hE, hH, ↓reduceIte, hb]; (try clear hb))) | ((with_reducible refine And.intro ?_ ?_); · omega) | (refine jn _ ?_ ?_) | (with_reducible refine both ?_ ?_) | (with_reducible refine And.intro ?_ ?_) | (refine fin_eq ?_; (try (simp (disch := omega) only [go_sem, hE, hH, ↓reduceIte])); first | done | rfl) | (simp (disch := omega) only [go_sem, hE, hH, ↓reduceIte]) | (exact (noMLL_set (by simp only [go_sem, hE, hH, ↓reduceIte]) (by simp only [go_sem, hE, hH, ↓reduceIte])).2 trivial) | (exact (pk_set (by simp only [go_sem, hE, hH, ↓reduceIte]) (by simp only [go_sem, hE, hH, ↓reduceIte])).2 trivial) | (simp only [go_sem, hE, hH, ↓reduceIte]) | fail)
    rw [key0 hI]
/-! deeds by their times -/
def lookI (d : Deed) : Int := if d.Look then 1 else 0
def cmpD (l : List Deed) (m n : Int) : Int := orI [cmpI (nth l m.toNat).Time (nth l n.toNat).Time, cmpI (lookI (nth l m.toNat)) (lookI (nth l n.toNat))]
def ordT (l : List Deed) : List Int := insS (fun m n => decide (cmpD l m n < 0)) (commD l)
def lessD (l : List Deed) (m n : Int) : Bool :=
  let x := nth l m.toNat
  let y := nth l n.toNat
  if ¬ x.Time = y.Time then decide (x.Time < y.Time) else if ¬ x.Look = y.Look then y.Look else decide (m < n)
theorem orI_two (a b : Int) : orI [a, b] = if a = 0 then b else a := by
  unfold orI
  split
  · unfold orI
    split
    · rename_i h; rw [h]; rfl
    · rfl
  · rfl
theorem cmpI_neg (a b : Int) : cmpI a b < 0 ↔ a < b := by
  unfold cmpI; split <;> (try split) <;> omega
theorem cmpI_zero (a b : Int) : cmpI a b = 0 ↔ a = b := by
  unfold cmpI; split <;> (try split) <;> omega
theorem lessD_eq {l : List Deed} {m n : Int} (h : n < m) : decide (cmpD l m n < 0) = lessD l m n := by
  rw [cmpD, orI_two, Bool.eq_iff_iff, decide_eq_true_iff]
  simp only [lessD, lookI]
  by_cases q : (nth l m.toNat).Time = (nth l n.toNat).Time
  · rw [if_pos ((cmpI_zero _ _).2 q), cmpI_neg]
    simp only [q, not_true_eq_false, if_false]
    generalize (nth l m.toNat).Look = a
    generalize (nth l n.toNat).Look = b
    cases a <;> cases b <;> simp
    all_goals try omega
  · rw [if_neg (fun e => q ((cmpI_zero _ _).1 e)), cmpI_neg]
    simp [q]
theorem insK_congr {a b : Int → Int → Bool} {x : Int} {p : List Int} (h : ∀ y, y ∈ p → a x y = b x y) : ∀ {n : Nat}, n ≤ p.length → insK a x p n = insK b x p n
  | 0, _ => rfl
  | n + 1, hn => by
    simp only [insK]
    rw [h _ (nth_mem (by omega)), insK_congr h (by omega)]
theorem ins1_congr {a b : Int → Int → Bool} {x : Int} {p : List Int} (h : ∀ y, y ∈ p → a x y = b x y) : ins1 a p x = ins1 b p x := by
  rw [ins1, ins1, insK_congr h (Nat.le_refl _)]
theorem commJ_mem {l : List Deed} {j : Nat} {y : Int} (h : y ∈ commJ l j) : 0 ≤ y ∧ y < j := by
  simp only [commJ, List.mem_map, List.mem_filter, List.mem_range] at h
  obtain ⟨i, ⟨h1, _⟩, rfl⟩ := h
  omega
theorem insS_less {l : List Deed} : ∀ j, insS (fun m n => decide (cmpD l m n < 0)) (commJ l j) = insS (lessD l) (commJ l j)
  | 0 => rfl
  | j + 1 => by
    cases q : (nth l j).Yes with
    | true =>
      rw [commJ_in q, insS_snoc, insS_snoc, insS_less j]
      exact ins1_congr fun y hy => lessD_eq (by have := commJ_mem (insS_mem hy); omega)
    | false => rw [commJ_out q, insS_less j]
theorem ordT_mem {l : List Deed} {y : Int} (h : y ∈ ordT l) : 0 ≤ y ∧ y < l.length := commJ_mem (insS_mem h)
theorem ordT_len {l : List Deed} : (ordT l).length ≤ l.length := by
  rw [ordT, insS_len]; exact commJ_len
theorem orderByTime_1_ok (l : List Deed) (n : Int) (h0 : 0 ≤ n) (h1 : n < l.length) : ACall Tryz.prog n_impl_orderByTime_1 ([i64 n] ++ [.bx false [.sl false 8 (l.map (Deed.row false))]]) (fun r _ => r = i64 (lookI (nth l n.toNat))) := by
  refine fn_in h_impl_orderByTime_1 r_impl_orderByTime_1 ⟨by simp only [go_sem, ↓reduceIte], fun E hE hH => ?_⟩; simp only [go_sem, ↓reduceIte] at hE hH; simp only [go_sem, hE, hH, ↓reduceIte, c_impl_orderByTime_1]
  repeat' (first | ((with_reducible (first | refine gd_t (fun h => ?_) (fun h => ?_) | refine gd_f (fun h => ?_) (fun h => ?_))) <;> (have hb := h; (try simp only [decide_eq_true_eq, decide_eq_false_iff_not, Int.not_lt, Int.not_le, ge_iff_le, gt_iff_lt, Bool.not_eq_true', Bool.not_eq_false', beq_iff_eq, bne_iff_ne, beq_eq_false_iff_ne, bne_eq_false_iff_eq, Int.ofNat_lt, Int.ofNat_le] at h); simp (disch := omega) only [go_sem, hE, hH, ↓reduceIte, hb]; (try clear hb))) | ((with_reducible refine And.intro ?_ ?_); · omega) | (refine jn _ ?_ ?_) | (with_reducible refine both ?_ ?_) | (with_reducible refine And.intro ?_ ?_) | (refine fin_eq ?_; (try (simp (disch := omega) only [go_sem, hE, hH, ↓reduceIte])); first | done | rfl) | (simp (disch := omega) only [go_sem, hE, hH, ↓reduceIte]) | (exact (noMLL_set (by simp only [go_sem, hE, hH, ↓reduceIte]) (by simp only [go_sem, hE, hH, ↓reduceIte])).2 trivial) | (exact (pk_set (by simp only [go_sem, hE, hH, ↓reduceIte]) (by simp only [go_sem, hE, hH, ↓reduceIte])).2 trivial) | (simp only [go_sem, hE, hH, ↓reduceIte]) | fail)
  all_goals (first | omega | (simp [lookI, h]; done))
theorem orderByTime_2_ok (l : List Deed) (m n : Int) (h0 : 0 ≤ m) (h1 : m < l.length) (h2 : 0 ≤ n) (h3 : n < l.length) : ACall Tryz.prog n_impl_orderByTime_2 ([i64 m, i64 n] ++ [.bx false [.sl false 8 (l.map (Deed.row false))], .bx false [.fn n_impl_orderByTime_1 [.bx false [.sl false 8 (l.map (Deed.row false))]]]]) (fun r _ => r = i64 (cmpD l m n)) := by
  have i1 := orderByTime_1_ok l m h0 h1
  have i2 := orderByTime_1_ok l n h2 h3
  refine fn_in h_impl_orderByTime_2 r_impl_orderByTime_2 ⟨by simp only [go_sem, ↓reduceIte], fun E hE hH => ?_⟩; simp only [go_sem, ↓reduceIte] at hE hH; simp only [go_sem, hE, hH, ↓reduceIte, c_impl_orderByTime_2]
  repeat' (first | ((with_reducible (first | refine gd_t (fun h => ?_) (fun h => ?_) | refine gd_f (fun h => ?_) (fun h => ?_))) <;> (have hb := h; (try simp only [decide_eq_true_eq, decide_eq_false_iff_not, Int.not_lt, Int.not_le, ge_iff_le, gt_iff_lt, Bool.not_eq_true', Bool.not_eq_false', beq_iff_eq, bne_iff_ne, beq_eq_false_iff_ne, bne_eq_false_iff_eq, Int.ofNat_lt, Int.ofNat_le] at h); simp (disch := omega) only [go_sem, hE, hH, ↓reduceIte, hb]; (try clear hb))) | ((with_reducible refine And.intro ?_ ?_); · omega) | (refine ok_cfv rfl rfl rfl ((by kernel_rfl)) (rfl) (i1) ?_; simp (disch := omega) only [go_sem, hE, hH, ↓reduceIte]) | (refine ok_cfv rfl rfl rfl ((by kernel_rfl)) (rfl) (i2) ?_; simp (disch := omega) only [go_sem, hE, hH, ↓reduceIte]) | (refine ok_view ?_; simp (disch := omega) only [go_sem, hE, hH, ↓reduceIte]) | (refine cvA (Compare_int_ok _ _) ?_; simp (disch := omega) only [go_sem, hE, hH, ↓reduceIte]) | (refine cvA (Or_int_ok [cmpI (nth l m.toNat).Time (nth l n.toNat).Time, cmpI (lookI (nth l m.toNat)) (lookI (nth l n.toNat))] (by have := mx_eq; simp only [List.length_cons, List.length_nil]; omega)) ?_; simp (disch := omega) only [go_sem, hE, hH, ↓reduceIte]) | (refine jn _ ?_ ?_) | (with_reducible refine both ?_ ?_) | (with_reducible refine And.intro ?_ ?_) | (refine fin_eq ?_; (try (simp (disch := omega) only [go_sem, hE, hH, ↓reduceIte])); first | done | rfl) | (simp (disch := omega) only [go_sem, hE, hH, ↓reduceIte]) | (exact (noMLL_set (by simp only [go_sem, hE, hH, ↓reduceIte]) (by simp only [go_sem, hE, hH, ↓reduceIte])).2 trivial) | (exact (pk_set (by simp only [go_sem, hE, hH, ↓reduceIte]) (by simp only [go_sem, hE, hH, ↓reduceIte])).2 trivial) | (simp only [go_sem, hE, hH, ↓reduceIte]) | fail)
  all_goals rw [cmpD]
theorem orderByTime_ok (l : List Deed) (hl : l.length ≤ 10) : ACall Tryz.prog n_impl_orderByTime [.sl false 8 (l.map (Deed.row false))] (fun r _ => r = .sl true 1 (ints (ordT l))) := by
  have hc : (commD l).length ≤ 10 := Nat.le_trans commJ_len hl
  have i2 := SortStableFunc_ok (commD l) n_impl_orderByTime_2 [.bx false [.sl false 8 (l.map (Deed.row false))], .bx false [.fn n_impl_orderByTime_1 [.bx false [.sl false 8 (l.map (Deed.row false))]]]] (cmpD l) (by kernel_rfl) rfl (by omega) (fun x y hx hy => orderByTime_2_ok l x y (commJ_mem hx).1 (commJ_mem hx).2 (commJ_mem hy).1 (commJ_mem hy).2)
  refine fn_in h_impl_orderByTime r_impl_orderByTime ⟨by simp only [go_sem, ↓reduceIte], fun E hE hH => ?_⟩; simp only [go_sem, ↓reduceIte] at hE hH; simp only [go_sem, hE, hH, ↓reduceIte, c_impl_orderByTime]
  repeat' (first | ((with_reducible (first | refine gd_t (fun h => ?_) (fun h => ?_) | refine gd_f (fun h => ?_) (fun h => ?_))) <;> (have hb := h; (try simp only [decide_eq_true_eq, decide_eq_false_iff_not, Int.not_lt, Int.not_le, ge_iff_le, gt_iff_lt, Bool.not_eq_true', Bool.not_eq_false', beq_iff_eq, bne_iff_ne, beq_eq_false_iff_ne, bne_eq_false_iff_eq, Int.ofNat_lt, Int.ofNat_le] at h); simp (disch := omega) only [go_sem, hE, hH, ↓reduceIte, hb]; (try clear hb))) | ((with_reducible refine And.intro ?_ ?_); · omega) | (refine ok_lend [true, false] ?_; simp (disch := omega) only [go_sem, hE, hH, ↓reduceIte]; refine cmA (i2) ?_; simp (disch := omega) only [go_sem, hE, hH, ↓reduceIte]) | (refine ok_view ?_; simp (disch := omega) only [go_sem, hE, hH, ↓reduceIte]) | (refine cvA (committed_ok l (by omega)) ?_; simp (disch := omega) only [go_sem, hE, hH, ↓reduceIte]) | (refine jn _ ?_ ?_) | (with_reducible refine both ?_ ?_) | (with_reducible refine And.intro ?_ ?_) | (refine fin_eq ?_; (try (simp (disch := omega) only [go_sem, hE, hH, ↓reduceIte])); first | done | rfl) | (simp (disch := omega) only [go_sem, hE, hH, ↓reduceIte]) | (exact (noMLL_set (by simp only [go_sem, hE, hH, ↓reduceIte]) (by simp only [go_sem, hE, hH, ↓reduceIte])).2 trivial) | (exact (pk_set (by simp only [go_sem, hE, hH, ↓reduceIte]) (by simp only [go_sem, hE, hH, ↓reduceIte])).2 trivial) | (simp only [go_sem, hE, hH, ↓reduceIte]) | fail)
  · exact insS_len.symm
  · rfl
theorem l19Less_ok (l : List Deed) (m n : Int) (h0 : 0 ≤ m) (h1 : m < l.length) (h2 : 0 ≤ n) (h3 : n < l.length) : ACall Tryz.prog n_spec_l19Less [.sl false 8 (l.map (Deed.row false)), i64 m, i64 n] (fun r _ => r = bl (lessD l m n)) := by
  refine fn_in h_spec_l19Less r_spec_l19Less ⟨by simp only [go_sem, ↓reduceIte], fun E hE hH => ?_⟩; simp only [go_sem, ↓reduceIte] at hE hH; simp only [go_sem, hE, hH, ↓reduceIte, c_spec_l19Less]
  repeat' (first | ((with_reducible (first | refine gd_t (fun h => ?_) (fun h => ?_) | refine gd_f (fun h => ?_) (fun h => ?_))) <;> (have hb := h; (try simp only [decide_eq_true_eq, decide_eq_false_iff_not, Int.not_lt, Int.not_le, ge_iff_le, gt_iff_lt, Bool.not_eq_true', Bool.not_eq_false', beq_iff_eq, bne_iff_ne, beq_eq_false_iff_ne, bne_eq_false_iff_eq, Int.ofNat_lt, Int.ofNat_le] at h); simp (disch := omega) only [go_sem, hE, hH, ↓reduceIte, hb]; (try clear hb))) | ((with_reducible refine And.intro ?_ ?_); · omega) | (with_reducible apply jn) | (with_reducible apply both) | (with_reducible refine And.intro ?_ ?_) | ((with_reducible apply fin_eq); (try (simp (disch := omega) only [go_sem, hE, hH, ↓reduceIte])); first | done | rfl) | (simp (disch := omega) only [go_sem, hE, hH, ↓reduceIte]) | (exact (noMLL_set (by simp only [go_sem, hE, hH, ↓reduceIte]) (by simp only [go_sem, hE, hH, ↓reduceIte])).2 trivial) | (exact (pk_set (by simp only [go_sem, hE, hH, ↓reduceIte]) (by simp only [go_sem, hE, hH, ↓reduceIte])).2 trivial) | (simp only [go_sem, hE, hH, ↓reduceIte]) | fail)
  all_goals try omega
  all_goals (simp only [lessD]; simp_all)
set_option maxHeartbeats 1000000 in
theorem l19Order_ok (l : List Deed) (hl : l.length ≤ 2 ^ 18) : ACall Tryz.prog n_spec_l19Order [.sl false 8 (l.map (Deed.row false))] (fun r _ => r = .sl true 1 (ints (ordT l))) := by
  have hmx := mx_eq
  have e0 : ordT l = insS (lessD l) (commD l) := insS_less _
  rw [e0]
  refine fn_in h_spec_l19Order r_spec_l19Order ⟨by simp only [go_sem, ↓reduceIte], fun E hE hH => ?_⟩; simp only [go_sem, ↓reduceIte] at hE hH; simp only [go_sem, hE, hH, ↓reduceIte, c_spec_l19Order]
  try simp (disch := omega) only [go_sem, hE, hH, ↓reduceIte]
  refine loopNe l.length (fun j (x : List Int) => ⟨[(0, .sl false 8 (l.map (Deed.row false))), (3, .ref 4000000 0 x.length), (8, .sl false 8 (l.map (Deed.row false))), (9, i64 l.length), (10, i64 j)], [(4000000, ⟨1, ints x⟩)]⟩) (fun j x => x = insS (lessD l) (commJ l j)) [] rfl rfl ?_
  intro j x hj hI
  have hxl : x.length ≤ j := by rw [hI, insS_len]; exact commJ_len
  have hxm : ∀ y, y ∈ x → 0 ≤ y ∧ y < l.length := fun y hy => by
    rw [hI] at hy
    have := commJ_mem (insS_mem hy); omega
  try simp only [go_sem, hE, hH, ↓reduceIte, c_spec_l19Order_l2]
  first | refine gd_t (fun h1 => ?_) (fun h1 => ?_) | refine gd_f (fun h1 => ?_) (fun h1 => ?_)
  · have hb1 := h1
    simp only [decide_eq_true_eq, decide_eq_false_iff_not, Int.not_lt, Int.not_le, ge_iff_le, gt_iff_lt, Bool.not_eq_true', Bool.not_eq_false', beq_iff_eq, bne_iff_ne, beq_eq_false_iff_ne, bne_eq_false_iff_eq, Int.ofNat_lt, Int.ofNat_le] at h1
    have hlt := h1; clear h1
    try simp (disch := omega) only [go_sem, hE, hH, ↓reduceIte, hb1]
    refine And.intro (by omega) ?_
    cases q : (nth l j).Yes with
    | false =>
      have e : x = insS (lessD l) (commJ l (j + 1)) := by rw [commJ_out q]; exact hI
      try simp (disch := omega) only [go_sem, hE, hH, ↓reduceIte, q]
      repeat' (first | ((with_reducible (first | refine gd_t (fun h => ?_) (fun h => ?_) | refine gd_f (fun h => ?_) (fun h => ?_))) <;> (have hb := h; (try simp only [decide_eq_true_eq, decide_eq_false_iff_not, Int.not_lt, Int.not_le, ge_iff_le, gt_iff_lt, Bool.not_eq_true', Bool.not_eq_false', beq_iff_eq, bne_iff_ne, beq_eq_false_iff_ne, bne_eq_false_iff_eq, Int.ofNat_lt, Int.ofNat_le] at h); simp (disch := omega) only [go_sem, hE, hH, ↓reduceIte, hb]; (try clear hb))) | ((with_reducible refine And.intro ?_ ?_); · omega) | (refine jn _ ?_ ?_) | (with_reducible refine both ?_ ?_) | (with_reducible refine And.intro ?_ ?_) | (refine fin_eq ?_; (try (simp (disch := omega) only [go_sem, hE, hH, ↓reduceIte])); first | done | rfl) | (simp (disch := omega) only [go_sem, hE, hH, ↓reduceIte]) | (exact (noMLL_set (by simp only [go_sem, hE, hH, ↓reduceIte]) (by simp only [go_sem, hE, hH, ↓reduceIte])).2 trivial) | (exact (pk_set (by simp only [go_sem, hE, hH, ↓reduceIte]) (by simp only [go_sem, hE, hH, ↓reduceIte])).2 trivial) | (simp only [go_sem, hE, hH, ↓reduceIte]) | fail)
      all_goals (rw [← e]; rfl)
    | true =>
      try simp (disch := omega) only [go_sem, hE, hH, ↓reduceIte, q]
      repeat' (first | ((with_reducible (first | refine gd_t (fun h => ?_) (fun h => ?_) | refine gd_f (fun h => ?_) (fun h => ?_))) <;> (have hb := h; (try simp only [decide_eq_true_eq, decide_eq_false_iff_not, Int.not_lt, Int.not_le, ge_iff_le, gt_iff_lt, Bool.not_eq_true', Bool.not_eq_false', beq_iff_eq, bne_iff_ne, beq_eq_false_iff_ne, bne_eq_false_iff_eq, Int.ofNat_lt, Int.ofNat_le] at h); simp (disch := omega) only [go_sem, hE, hH, ↓reduceIte, hb]; (try clear hb))) | ((with_reducible refine And.intro ?_ ?_); · omega) | (refine jn _ ?_ ?_) | (with_reducible refine both ?_ ?_) | (with_reducible refine And.intro ?_ ?_) | (refine fin_eq ?_; (try (simp (disch := omega) only [go_sem, hE, hH, ↓reduceIte])); first | done | rfl) | (simp (disch := omega) only [go_sem, hE, hH, ↓reduceIte]) | (exact (noMLL_set (by simp only [go_sem, hE, hH, ↓reduceIte]) (by simp only [go_sem, hE, hH, ↓reduceIte])).2 trivial) | (exact (pk_set (by simp only [go_sem, hE, hH, ↓reduceIte]) (by simp only [go_sem, hE, hH, ↓reduceIte])).2 trivial) | (simp only [go_sem, hE, hH, ↓reduceIte]) | fail)
      refine loopM (fun (k : Nat) => ⟨[(0, .sl false 8 (l.map (Deed.row false))), (3, .ref 4000000 0 x.length), (4, i64 j), (6, i64 k), (8, .sl false 8 (l.map (Deed.row false))), (9, i64 l.length), (10, i64 j)], [(4000000, ⟨1, ints x⟩)]⟩) (fun k => k ≤ x.length ∧ ∀ i, k ≤ i → i < x.length → lessD l j (nth x i) = true) (fun k => k) x.length ⟨Nat.le_refl _, fun i a b => by omega⟩ ?_
      rintro k ⟨hk, hK⟩
      have t1 : (x.take k).length = k := by rw [List.length_take]; omega
      have t2 : (x.drop k).length = x.length - k := List.length_drop
      have t3 : (x.drop k).take (x.length - k) = x.drop k := List.take_of_length_le (by omega)
      have t4 : (x.take k).take k = x.take k := by rw [List.take_take, Nat.min_self]
      by_cases hk0 : k = 0
      · subst hk0
        have en : insK (lessD l) j x x.length = 0 := insK_at (Nat.zero_le _) hK (.inl rfl)
        have e : insS (lessD l) (commJ l (j + 1)) = ins1 (lessD l) x j := by rw [commJ_in q, insS_snoc, ← hI]
        rw [ins1, en] at e
        try simp only [go_sem, hE, hH, ↓reduceIte, c_spec_l19Order_l1]
        try simp (disch := omega) only [go_sem, hE, hH, ↓reduceIte]
        first | refine gd_t (fun h4 => ?_) (fun h4 => ?_) | refine gd_f (fun h4 => ?_) (fun h4 => ?_)
        · have : ¬ decide ((0 : Int) > 0) = true := by decide
          exact absurd h4 this
        · try simp (disch := omega) only [go_sem, hE, hH, ↓reduceIte, h4]
          repeat' (first | ((with_reducible (first | refine gd_t (fun h => ?_) (fun h => ?_) | refine gd_f (fun h => ?_) (fun h => ?_))) <;> (have hb := h; (try simp only [decide_eq_true_eq, decide_eq_false_iff_not, Int.not_lt, Int.not_le, ge_iff_le, gt_iff_lt, Bool.not_eq_true', Bool.not_eq_false', beq_iff_eq, bne_iff_ne, beq_eq_false_iff_ne, bne_eq_false_iff_eq, Int.ofNat_lt, Int.ofNat_le] at h); simp (disch := omega) only [go_sem, hE, hH, ↓reduceIte, t1, t2, t3, t4, hb]; (try clear hb))) | ((with_reducible refine And.intro ?_ ?_); · omega) | (refine ok_view ?_; simp (disch := omega) only [go_sem, hE, hH, ↓reduceIte, t1, t2, t3, t4]) | (refine cvA (l1Own_ok (x.drop 0) (by omega)) ?_; simp (disch := omega) only [go_sem, hE, hH, ↓reduceIte, t1, t2, t3, t4]) | (refine cvA (l1Own_ok (x.take 0) (by omega)) ?_; simp (disch := omega) only [go_sem, hE, hH, ↓reduceIte, t1, t2, t3, t4]) | (refine jn _ ?_ ?_) | (with_reducible refine both ?_ ?_) | (with_reducible refine And.intro ?_ ?_) | (refine fin_eq ?_; (try (simp (disch := omega) only [go_sem, hE, hH, ↓reduceIte, t1, t2, t3, t4])); first | done | rfl) | (simp (disch := omega) only [go_sem, hE, hH, ↓reduceIte, t1, t2, t3, t4]) | (exact (noMLL_set (by simp only [go_sem, hE, hH, ↓reduceIte, t1, t2, t3, t4]) (by simp only [go_sem, hE, hH, ↓reduceIte, t1, t2, t3, t4])).2 trivial) | (exact (pk_set (by simp only [go_sem, hE, hH, ↓reduceIte, t1, t2, t3, t4]) (by simp only [go_sem, hE, hH, ↓reduceIte, t1, t2, t3, t4])).2 trivial) | (simp only [go_sem, hE, hH, ↓reduceIte, t1, t2, t3, t4]) | fail)
          all_goals try omega
          rw [e, List.length_append, ints, List.map_append]
          simp only [List.take_zero, List.drop_zero, List.nil_append, List.length_cons, List.length_nil, Nat.zero_add, Nat.add_comm, List.map_cons, List.map_nil, List.cons_append]
          rfl
      · have m1 := hxm _ (nth_mem (show k - 1 < x.length by omega))
        try simp only [go_sem, hE, hH, ↓reduceIte, c_spec_l19Order_l1]
        try simp (disch := omega) only [go_sem, hE, hH, ↓reduceIte]
        first | refine gd_t (fun h4 => ?_) (fun h4 => ?_) | refine gd_f (fun h4 => ?_) (fun h4 => ?_)
        · have hb4 := h4
          try simp (disch := omega) only [go_sem, hE, hH, ↓reduceIte, hb4]
          have t5 : ∀ r : List T, (List.map (fun x : Int => [i64 x]) (x.take k) ++ [r]).take (k + 1) = List.map (fun x : Int => [i64 x]) (x.take k) ++ [r] := fun r => List.take_of_length_le (by rw [List.length_append, List.length_map, t1]; exact Nat.le_refl _)
          have t6 : ∀ r : List T, (List.map (fun x : Int => [i64 x]) (x.take k) ++ [r]).length = k + 1 := fun r => by rw [List.length_append, List.length_map, t1]; rfl
          repeat' (first | ((with_reducible (first | refine gd_t (fun h => ?_) (fun h => ?_) | refine gd_f (fun h => ?_) (fun h => ?_))) <;> (have hb := h; (try simp only [decide_eq_true_eq, decide_eq_false_iff_not, Int.not_lt, Int.not_le, ge_iff_le, gt_iff_lt, Bool.not_eq_true', Bool.not_eq_false', beq_iff_eq, bne_iff_ne, beq_eq_false_iff_ne, bne_eq_false_iff_eq, Int.ofNat_lt, Int.ofNat_le] at h); simp (disch := omega) only [go_sem, hE, hH, ↓reduceIte, t1, t2, t3, t4, t5, t6, hb]; (try clear hb))) | ((with_reducible refine And.intro ?_ ?_); · omega) | (refine ok_view ?_; simp (disch := omega) only [go_sem, hE, hH, ↓reduceIte, t1, t2, t3, t4, t5, t6]) | (refine cvA (l19Less_ok l j (nth x (k - 1)) (by omega) (by omega) m1.1 m1.2) ?_; simp (disch := omega) only [go_sem, hE, hH, ↓reduceIte, t1, t2, t3, t4, t5, t6]) | (refine cvA (l1Own_ok (x.drop k) (by omega)) ?_; simp (disch := omega) only [go_sem, hE, hH, ↓reduceIte, t1, t2, t3, t4, t5, t6]) | (refine cvA (l1Own_ok (x.take k) (by omega)) ?_; simp (disch := omega) only [go_sem, hE, hH, ↓reduceIte, t1, t2, t3, t4, t5, t6]) | (refine jn _ ?_ ?_) | (with_reducible refine both ?_ ?_) | (with_reducible refine And.intro ?_ ?_) | (refine fin_eq ?_; (try (simp (disch := omega) only [go_sem, hE, hH, ↓reduceIte, t1, t2, t3, t4, t5, t6])); first | done | rfl) | (simp (disch := omega) only [go_sem, hE, hH, ↓reduceIte, t1, t2, t3, t4, t5, t6]) | (exact (noMLL_set (by simp only [go_sem, hE, hH, ↓reduceIte, t1, t2, t3, t4, t5, t6]) (by simp only [go_sem, hE, hH, ↓reduceIte, t1, t2, t3, t4, t5, t6])).2 trivial) | (exact (pk_set (by simp only [go_sem, hE, hH, ↓reduceIte, t1, t2, t3, t4, t5, t6]) (by simp only [go_sem, hE, hH, ↓reduceIte, t1, t2, t3, t4, t5, t6])).2 trivial) | (simp only [go_sem, hE, hH, ↓reduceIte, t1, t2, t3, t4, t5, t6]) | fail)
          all_goals try omega
          · refine ⟨k - 1, by rw [show ((k : Int) - 1) = ((k - 1 : Nat) : Int) by omega], ⟨by omega, fun i a b => ?_⟩, by omega⟩
            by_cases e : i = k - 1
            · rw [e]; exact h
            · exact hK i (by omega) b
          · have en : insK (lessD l) j x x.length = k := insK_at (by omega) hK (.inr h)
            have e : insS (lessD l) (commJ l (j + 1)) = ins1 (lessD l) x j := by rw [commJ_in q, insS_snoc, ← hI]
            rw [ins1, en] at e
            have e2 : (x.take k ++ [(j : Int)] ++ x.drop k).length = k + 1 + (x.length - k) := by rw [List.length_append, List.length_append, t1, t2]; rfl
            rw [e, e2, ints, List.map_append, List.map_append]
            rfl
        · simp only [decide_eq_true_eq, decide_eq_false_iff_not, Int.not_lt, Int.not_le, ge_iff_le, gt_iff_lt, Bool.not_eq_true', Bool.not_eq_false', beq_iff_eq, bne_iff_ne, beq_eq_false_iff_ne, bne_eq_false_iff_eq, Int.ofNat_lt, Int.ofNat_le] at h4
          omega
  · try simp (disch := omega) only [go_sem, hE, hH, ↓reduceIte, h1]
    simp only [decide_eq_true_eq, decide_eq_false_iff_not, Int.not_lt, Int.not_le, ge_iff_le, gt_iff_lt, Bool.not_eq_true', Bool.not_eq_false', beq_iff_eq, bne_iff_ne, beq_eq_false_iff_ne, bne_eq_false_iff_eq, Int.ofNat_lt, Int.ofNat_le] at h1
    rw [show j = l.length by omega] at hI
    repeat' (first | ((with_reducible (first | refine gd_t (fun h => ?_) (fun h => ?_) | refine gd_f (fun h => ?_) (fun h => ?_))) <;> (have hb := h; (try simp only [decide_eq_true_eq, decide_eq_false_iff_not, Int.not_lt, Int.not_le, ge_iff_le, gt_iff_lt, Bool.not_eq_true', Bool.not_eq_false', beq_iff_eq, bne_iff_ne, beq_eq_false_iff_ne, bne_eq_false_iff_eq, Int.ofNat_lt, Int.ofNat_le] at h); simp (disch := omega) only [go_sem, hE, hH, ↓reduceIte, hb]; (try clear hb))) | ((with_reducible refine And.intro ?_ ?_); · omega) | (refine jn _ ?_ ?_) | (with_reducible refine both ?_ ?_) | (with_reducible refine And.intro ?_ ?_) | (refine fin_eq ?_; (try (simp (disch := omega) only [go_sem, hE, hH, ↓reduceIte])); first | done | rfl) | (simp (disch := omega) only [go_sem, hE, hH, ↓reduceIte]) | (exact (noMLL_set (by simp only [go_sem, hE, hH, ↓reduceIte]) (by simp only [go_sem, hE, hH, ↓reduceIte])).2 trivial) | (exact (pk_set (by simp only [go_sem, hE, hH, ↓reduceIte]) (by simp only [go_sem, hE, hH, ↓reduceIte])).2 trivial) | (simp only [go_sem, hE, hH, ↓reduceIte]) | fail)
    all_goals (rw [hI]; try rfl)
def strictO (l : List Deed) : Bool × Bool := if goodHist l then (witO l (ordT l), isOrd l (ordT l)) else (false, false)
theorem StrictByTime_ok (l : List Deed) (hl : wfL Deed.wf l) : ACall Tryz.prog n_impl_StrictByTime [.sl false 8 (l.map (Deed.row false))] (fun r _ => r = .tup [bl (strictO l).1, bl (strictO l).2]) := by
  have hmx := mx_eq
  have i1 := GoodHistory_ok l hl
  cases q : goodHist l with
  | false =>
    rw [q] at i1
    have e : strictO l = (false, false) := by simp [strictO, q]
    refine fn_in h_impl_StrictByTime r_impl_StrictByTime ⟨by simp only [go_sem, ↓reduceIte], fun E hE hH => ?_⟩; simp only [go_sem, ↓reduceIte] at hE hH; simp only [go_sem, hE, hH, ↓reduceIte, c_impl_StrictByTime]
    repeat' (first | ((with_reducible (first | refine gd_t (fun h => ?_) (fun h => ?_) | refine gd_f (fun h => ?_) (fun h => ?_))) <;> (have hb := h; (try simp only [decide_eq_true_eq, decide_eq_false_iff_not, Int.not_lt, Int.not_le, ge_iff_le, gt_iff_lt, Bool.not_eq_true', Bool.not_eq_false', beq_iff_eq, bne_iff_ne, beq_eq_false_iff_ne, bne_eq_false_iff_eq, Int.ofNat_lt, Int.ofNat_le] at h); simp (disch := omega) only [go_sem, hE, hH, ↓reduceIte, hb]; (try clear hb))) | ((with_reducible refine And.intro ?_ ?_); · omega) | (refine ok_view ?_; simp (disch := omega) only [go_sem, hE, hH, ↓reduceIte]) | (refine cvA (i1) ?_; simp (disch := omega) only [go_sem, hE, hH, ↓reduceIte]) | (refine jn _ ?_ ?_) | (with_reducible refine both ?_ ?_) | (with_reducible refine And.intro ?_ ?_) | (refine fin_eq ?_; (try (simp (disch := omega) only [go_sem, hE, hH, ↓reduceIte])); first | done | rfl) | (simp (disch := omega) only [go_sem, hE, hH, ↓reduceIte]) | (exact (noMLL_set (by simp only [go_sem, hE, hH, ↓reduceIte]) (by simp only [go_sem, hE, hH, ↓reduceIte])).2 trivial) | (exact (pk_set (by simp only [go_sem, hE, hH, ↓reduceIte]) (by simp only [go_sem, hE, hH, ↓reduceIte])).2 trivial) | (simp only [go_sem, hE, hH, ↓reduceIte]) | fail)
    all_goals (rw [e]; try rfl)
  | true =>
    rw [q] at i1
    have e : strictO l = (witO l (ordT l), isOrd l (ordT l)) := by simp [strictO, q]
    have h10 := goodHist_len q
    have ho := ordT_len (l := l)
    refine fn_in h_impl_StrictByTime r_impl_StrictByTime ⟨by simp only [go_sem, ↓reduceIte], fun E hE hH => ?_⟩; simp only [go_sem, ↓reduceIte] at hE hH; simp only [go_sem, hE, hH, ↓reduceIte, c_impl_StrictByTime]
    repeat' (first | ((with_reducible (first | refine gd_t (fun h => ?_) (fun h => ?_) | refine gd_f (fun h => ?_) (fun h => ?_))) <;> (have hb := h; (try simp only [decide_eq_true_eq, decide_eq_false_iff_not, Int.not_lt, Int.not_le, ge_iff_le, gt_iff_lt, Bool.not_eq_true', Bool.not_eq_false', beq_iff_eq, bne_iff_ne, beq_eq_false_iff_ne, bne_eq_false_iff_eq, Int.ofNat_lt, Int.ofNat_le] at h); simp (disch := omega) only [go_sem, hE, hH, ↓reduceIte, hb]; (try clear hb))) | ((with_reducible refine And.intro ?_ ?_); · omega) | (refine ok_view ?_; simp (disch := omega) only [go_sem, hE, hH, ↓reduceIte]) | (refine cvA (i1) ?_; simp (disch := omega) only [go_sem, hE, hH, ↓reduceIte]) | (refine cvA (orderByTime_ok l h10) ?_; simp (disch := omega) only [go_sem, hE, hH, ↓reduceIte]) | (refine cvA (IsWitness_ok l (ordT l) hl (by omega)) ?_; simp (disch := omega) only [go_sem, hE, hH, ↓reduceIte]) | (refine jn _ ?_ ?_) | (with_reducible refine both ?_ ?_) | (with_reducible refine And.intro ?_ ?_) | (refine fin_eq ?_; (try (simp (disch := omega) only [go_sem, hE, hH, ↓reduceIte])); first | done | rfl) | (simp (disch := omega) only [go_sem, hE, hH, ↓reduceIte]) | (exact (noMLL_set (by simp only [go_sem, hE, hH, ↓reduceIte]) (by simp only [go_sem, hE, hH, ↓reduceIte])).2 trivial) | (exact (pk_set (by simp only [go_sem, hE, hH, ↓reduceIte]) (by simp only [go_sem, hE, hH, ↓reduceIte])).2 trivial) | (simp only [go_sem, hE, hH, ↓reduceIte]) | fail)
    all_goals (rw [e])
theorem sStrictByTime_ok (l : List Deed) (hl : wfL Deed.wf l) : ACall Tryz.prog n_spec_StrictByTime [.sl false 8 (l.map (Deed.row false))] (fun r _ => r = .tup [bl (strictO l).1, bl (strictO l).2]) := by
  have hmx := mx_eq
  have i1 := l18Good_ok l hl
  cases q : goodHist l with
  | false =>
    rw [q] at i1
    have e : strictO l = (false, false) := by simp [strictO, q]
    refine fn_in h_spec_StrictByTime r_spec_StrictByTime ⟨by simp only [go_sem, ↓reduceIte], fun E hE hH => ?_⟩; simp only [go_sem, ↓reduceIte] at hE hH; simp only [go_sem, hE, hH, ↓reduceIte, c_spec_StrictByTime]
    repeat' (first | ((with_reducible (first | refine gd_t (fun h => ?_) (fun h => ?_) | refine gd_f (fun h => ?_) (fun h => ?_))) <;> (have hb := h; (try simp only [decide_eq_true_eq, decide_eq_false_iff_not, Int.not_lt, Int.not_le, ge_iff_le, gt_iff_lt, Bool.not_eq_true', Bool.not_eq_false', beq_iff_eq, bne_iff_ne, beq_eq_false_iff_ne, bne_eq_false_iff_eq, Int.ofNat_lt, Int.ofNat_le] at h); simp (disch := omega) only [go_sem, hE, hH, ↓reduceIte, hb]; (try clear hb))) | ((with_reducible refine And.intro ?_ ?_); · omega) | (refine ok_view ?_; simp (disch := omega) only [go_sem, hE, hH, ↓reduceIte]) | (refine cvA (i1) ?_; simp (disch := omega) only [go_sem, hE, hH, ↓reduceIte]) | (refine jn _ ?_ ?_) | (with_reducible refine both ?_ ?_) | (with_reducible refine And.intro ?_ ?_) | (refine fin_eq ?_; (try (simp (disch := omega) only [go_sem, hE, hH, ↓reduceIte])); first | done | rfl) | (simp (disch := omega) only [go_sem, hE, hH, ↓reduceIte]) | (exact (noMLL_set (by simp only [go_sem, hE, hH, ↓reduceIte]) (by simp only [go_sem, hE, hH, ↓reduceIte])).2 trivial) | (exact (pk_set (by simp only [go_sem, hE, hH, ↓reduceIte]) (by simp only [go_sem, hE, hH, ↓reduceIte])).2 trivial) | (simp only [go_sem, hE, hH, ↓reduceIte]) | fail)
    all_goals (rw [e]; try rfl)
  | true =>
    rw [q] at i1
    have e : strictO l = (witO l (ordT l), isOrd l (ordT l)) := by simp [strictO, q]
    have h10 := goodHist_len q
    have ho := ordT_len (l := l)
    refine fn_in h_spec_StrictByTime r_spec_StrictByTime ⟨by simp only [go_sem, ↓reduceIte], fun E hE hH => ?_⟩; simp only [go_sem, ↓reduceIte] at hE hH; simp only [go_sem, hE, hH, ↓reduceIte, c_spec_StrictByTime]
    repeat' (first | ((with_reducible (first | refine gd_t (fun h => ?_) (fun h => ?_) | refine gd_f (fun h => ?_) (fun h => ?_))) <;> (have hb := h; (try simp only [decide_eq_true_eq, decide_eq_false_iff_not, Int.not_lt, Int.not_le, ge_iff_le, gt_iff_lt, Bool.not_eq_true', Bool.not_eq_false', beq_iff_eq, bne_iff_ne, beq_eq_false_iff_ne, bne_eq_false_iff_eq, Int.ofNat_lt, Int.ofNat_le] at h); simp (disch := omega) only [go_sem, hE, hH, ↓reduceIte, hb]; (try clear hb))) | ((with_reducible refine And.intro ?_ ?_); · omega) | (refine ok_view ?_; simp (disch := omega) only [go_sem, hE, hH, ↓reduceIte]) | (refine cvA (i1) ?_; simp (disch := omega) only [go_sem, hE, hH, ↓reduceIte]) | (refine cvA (l19Order_ok l (by omega)) ?_; simp (disch := omega) only [go_sem, hE, hH, ↓reduceIte]) | (refine cvA (sIsWitness_ok l (ordT l) hl (by omega)) ?_; simp (disch := omega) only [go_sem, hE, hH, ↓reduceIte]) | (refine jn _ ?_ ?_) | (with_reducible refine both ?_ ?_) | (with_reducible refine And.intro ?_ ?_) | (refine fin_eq ?_; (try (simp (disch := omega) only [go_sem, hE, hH, ↓reduceIte])); first | done | rfl) | (simp (disch := omega) only [go_sem, hE, hH, ↓reduceIte]) | (exact (noMLL_set (by simp only [go_sem, hE, hH, ↓reduceIte]) (by simp only [go_sem, hE, hH, ↓reduceIte])).2 trivial) | (exact (pk_set (by simp only [go_sem, hE, hH, ↓reduceIte]) (by simp only [go_sem, hE, hH, ↓reduceIte])).2 trivial) | (simp only [go_sem, hE, hH, ↓reduceIte]) | fail)
    all_goals (rw [e])
theorem FnExactStrictByTime_ok (vH : List Deed) (wH : vH.length ≤ maxLen ∧ ∀ y ∈ vH, y.wf) : ACall Tryz.prog n_laws_FnExactStrictByTime [.sl false 8 (vH.map (Deed.row false))] (fun r _ => r = bl true) := by
  have hmx := mx_eq
  have wlH : wfL (Deed.wf) vH := wH
  have lH : limL (Deed.lim) vH := ⟨wH.1, fun y hy => Deed.lim_of (wH.2 y hy)⟩
  refine fn_in h_laws_FnExactStrictByTime r_laws_FnExactStrictByTime ⟨by simp only [go_sem, ↓reduceIte], fun E hE hH => ?_⟩; simp only [go_sem, ↓reduceIte] at hE hH; simp only [go_sem, hE, hH, ↓reduceIte, c_laws_FnExactStrictByTime]
  refine ok_view ?_; simp (disch := omega) only [go_sem, hE, hH, ↓reduceIte]; refine cvA (szDeedS_ok vH _ (by decide) (by decide) wlH) ?_
  refine aftV_intro ?_
  rintro r l ⟨n1, rfl, hn1, hsz1⟩
  try simp (disch := omega) only [go_sem, hE, hH, ↓reduceIte]
  first | refine gd_t (fun h1 => ?_) (fun h1 => ?_) | refine gd_f (fun h1 => ?_) (fun h1 => ?_)
  · try simp (disch := omega) only [go_sem, hE, hH, ↓reduceIte, h1]
  have hb1 := h1
  simp only [decide_eq_true_eq, decide_eq_false_iff_not, Int.not_lt, Int.not_le, ge_iff_le, gt_iff_lt, Bool.not_eq_true', Bool.not_eq_false', beq_iff_eq, bne_iff_ne, beq_eq_false_iff_ne, bne_eq_false_iff_eq, Int.ofNat_lt, Int.ofNat_le] at h1
  try simp (disch := omega) only [go_sem, hE, hH, ↓reduceIte, hb1]
  have sH : szL (Deed.sz) vH ≤ 2 ^ 20 := by have := hsz1 h1; omega
  repeat' (first | ((with_reducible (first | refine gd_t (fun h => ?_) (fun h => ?_) | refine gd_f (fun h => ?_) (fun h => ?_))) <;> (have hb := h; (try simp only [decide_eq_true_eq, decide_eq_false_iff_not, Int.not_lt, Int.not_le, ge_iff_le, gt_iff_lt, Bool.not_eq_true', Bool.not_eq_false', beq_iff_eq, bne_iff_ne, beq_eq_false_iff_ne, bne_eq_false_iff_eq, Int.ofNat_lt, Int.ofNat_le] at h); simp (disch := omega) only [go_sem, hE, hH, ↓reduceIte, hb]; (try clear hb))) | ((with_reducible refine And.intro ?_ ?_); · omega) | (refine ok_view ?_; simp (disch := omega) only [go_sem, hE, hH, ↓reduceIte]) | (refine cvA (toDeedS_ok vH sH) ?_; simp (disch := omega) only [go_sem, hE, hH, ↓reduceIte]) | (refine cvA (sStrictByTime_ok vH wlH) ?_; simp (disch := omega) only [go_sem, hE, hH, ↓reduceIte]) | (refine cvA (StrictByTime_ok vH wlH) ?_; simp (disch := omega) only [go_sem, hE, hH, ↓reduceIte]) | (refine cvA (eqDeedS_ok vH vH lH) ?_; simp (disch := omega) only [go_sem, hE, hH, ↓reduceIte]) | (refine jn _ ?_ ?_) | (with_reducible refine both ?_ ?_) | (with_reducible refine And.intro ?_ ?_) | (refine fin_eq ?_; (try (simp (disch := omega) only [go_sem, hE, hH, ↓reduceIte])); first | done | rfl) | (simp (disch := omega) only [go_sem, hE, hH, ↓reduceIte]) | (exact (noMLL_set (by simp only [go_sem, hE, hH, ↓reduceIte]) (by simp only [go_sem, hE, hH, ↓reduceIte])).2 trivial) | (exact (pk_set (by simp only [go_sem, hE, hH, ↓reduceIte]) (by simp only [go_sem, hE, hH, ↓reduceIte])).2 trivial) | (simp only [go_sem, hE, hH, ↓reduceIte]) | fail)

end Go.Proofs.Wb

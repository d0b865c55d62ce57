/- Contracts of functions. -/
import Derived.Test.YtjdnnijmpnokaaaFnSentC2
import Derived.Laws.Externs
set_option linter.unusedSimpArgs false
set_option linter.unusedVariables false
set_option linter.unusedSectionVars false
namespace Go.Proofs.Wb
open Go Go.Am
def goodU (m : Nat) (u : List Letter) : Bool := allN (fun i => letOk m (nth u i) && dueOk u i) u.length
theorem goodU_iff {m : Nat} {u : List Letter} : goodU m u = true ↔ (∀ x ∈ u, letOk m x = true) ∧ u.Pairwise (fun a b => a.Due ≤ b.Due) := by
  simp only [goodU, allN_iff, Bool.and_eq_true]
  constructor
  · intro h
    refine ⟨fun x hx => ?_, ?_⟩
    · obtain ⟨i, hi, rfl⟩ := List.getElem_of_mem hx
      rw [← nth_lt hi]; exact (h i hi).1
    · rw [List.pairwise_iff_getElem]
      intro i j hi hj hij
      rw [← nth_lt hi, ← nth_lt hj]
      have key : ∀ d, i + d < u.length → (nth u i).Due ≤ (nth u (i + d)).Due := by
        intro d
        induction d with
        | zero => intro _; exact Int.le_refl _
        | succ d ih =>
          intro hd
          have h1 := ih (by omega)
          have h2 := (h (i + (d + 1)) hd).2
          simp only [dueOk, Bool.or_eq_true, decide_eq_true_eq, Bool.not_eq_true', decide_eq_false_iff_not] at h2
          rw [show i + (d + 1) - 1 = i + d from by omega] at h2
          omega
      have := key (j - i) (by omega)
      rwa [show i + (j - i) = j from by omega] at this
  · rintro ⟨h1, h2⟩ i hi
    refine ⟨by rw [nth_lt hi]; exact h1 _ (List.getElem_mem hi), ?_⟩
    simp only [dueOk, Bool.or_eq_true, decide_eq_true_eq, Bool.not_eq_true', decide_eq_false_iff_not]
    by_cases h0 : i = 0
    · exact .inl h0
    · right
      rw [List.pairwise_iff_getElem] at h2
      have := h2 (i - 1) i (by omega) hi (by omega)
      rw [nth_lt hi, nth_lt (show i - 1 < u.length by omega)]
      omega
def withN (n : Net) (u : List Letter) : Net := ⟨n.Now, n.Homes, n.Far, u⟩
def zeroN : Net := ⟨0, [], 0, []⟩
def ifN (n : Net) : Net × Bool := if goodNet n then (n, true) else (zeroN, false)
/-- Where a letter is laid. -/
def posL (u : List Letter) (d : Int) : Nat := if ixf (fun x : Letter => decide (d < x.Due)) u < 0 then u.length else (ixf (fun x : Letter => decide (d < x.Due)) u).toNat
def laidL (u : List Letter) (x : Letter) : List Letter := u.take (posL u x.Due) ++ [x] ++ u.drop (posL u x.Due)
theorem posL_le (u : List Letter) (d : Int) : posL u d ≤ u.length := by
  have := ixf_hi (p := fun x : Letter => decide (d < x.Due)) (l := u)
  unfold posL; split <;> omega
theorem posL_at {u : List Letter} {d : Int} {j : Nat} (hlt : j < u.length) (hI : allN (fun i => !decide (d < (nth u i).Due)) j = true) (h : d < (nth u j).Due) : posL u d = j := by
  have e := ixf_at (p := fun x : Letter => decide (d < x.Due)) hlt hI (by simpa using h)
  rw [posL, e, if_neg (by omega)]; rfl
theorem posL_end {u : List Letter} {d : Int} (hI : allN (fun i => !decide (d < (nth u i).Due)) u.length = true) : posL u d = u.length := by
  have e := ixf_none (p := fun x : Letter => decide (d < x.Due)) hI
  rw [posL, e, if_pos (by omega)]
theorem laidL_len (u : List Letter) (x : Letter) : (laidL u x).length = u.length + 1 := by
  have := posL_le u x.Due
  simp [laidL]; omega
def outL (u : List Letter) (i : Nat) : List Letter := u.take i ++ u.drop (i + 1)
theorem outL_sub (u : List Letter) (i : Nat) : (outL u i).Sublist u := by
  conv => rhs; rw [← List.take_append_drop i u]
  refine List.Sublist.append (List.Sublist.refl _) ?_
  rw [← List.drop_drop]
  exact List.drop_sublist _ _
theorem goodNet_u {n : Net} : goodNet n = (rng n.Now 0 100000 && goodHomes n.Homes n.Far && decide ((n.Under.length : Int) ≤ 60) && goodU n.Homes.length n.Under) := rfl
theorem goodNet_out {n : Net} (h : goodNet n = true) (i : Nat) : goodNet (withN n (outL n.Under i)) = true := by
  have hs := outL_sub n.Under i
  have hl := hs.length_le
  rw [goodNet_u] at h ⊢
  simp only [Bool.and_eq_true, decide_eq_true_eq, goodU_iff, withN] at h ⊢
  obtain ⟨⟨h1, h2⟩, h3, h4⟩ := h
  refine ⟨⟨h1, ?_⟩, fun x hx => h3 x (hs.subset hx), h4.sublist hs⟩
  exact decide_eq_true (by omega)
theorem laid_1_ok (x l : Letter) : ACall Try.prog n_impl_laid_1 ([.agg (Letter.row false x)] ++ [.bx false (Letter.row false l)]) (fun r _ => r = bl (decide (l.Due < x.Due))) := by
  refine fn_in h_impl_laid_1 r_impl_laid_1 ⟨by simp only [go_sem, ↓reduceIte], fun E hE hH => ?_⟩; simp only [go_sem, ↓reduceIte] at hE hH; simp only [go_sem, hE, hH, ↓reduceIte, c_impl_laid_1]
  try simp (disch := omega) only [go_sem, hE, hH, ↓reduceIte]
  try rfl
theorem laid_ok (u : List Letter) (x : Letter) (hu : u.length ≤ 2 ^ 19) : ACall Try.prog n_impl_laid [.sl false 4 (u.map (Letter.row false)), .agg (Letter.row false x)] (fun r _ => r = .sl true 4 ((laidL u x).map (Letter.row true))) := by
  have hmx := mx_eq
  have hi := ixf_hi (p := fun y : Letter => decide (x.Due < y.Due)) (l := u)
  have hI := fun (i : Int) (h0 : 0 ≤ i) (h1 : i ≤ u.length) => Insert_Letter_ok u [x] i h0 h1 (by omega) (by simp)
  simp only [List.map_cons, List.map_nil] at hI
  refine fn_in h_impl_laid r_impl_laid ⟨by simp only [go_sem, ↓reduceIte], fun E hE hH => ?_⟩; simp only [go_sem, ↓reduceIte] at hE hH; simp only [go_sem, hE, hH, ↓reduceIte, c_impl_laid]
  repeat' (first | ((with_reducible (first | refine gd_t (fun h => ?_) (fun h => ?_) | refine gd_f (fun h => ?_) (fun h => ?_))) <;> (have hb := h; (try simp only [decide_eq_true_eq, decide_eq_false_iff_not, Int.not_lt, Int.not_le, ge_iff_le, gt_iff_lt, Bool.not_eq_true', Bool.not_eq_false', beq_iff_eq, bne_iff_ne, beq_eq_false_iff_ne, bne_eq_false_iff_eq, Int.ofNat_lt, Int.ofNat_le] at h); simp (disch := omega) only [go_sem, hE, hH, ↓reduceIte, hb]; (try clear hb))) | ((with_reducible refine And.intro ?_ ?_); · omega) | (refine ok_lend [true, false, false] ?_; simp (disch := omega) only [go_sem, hE, hH, ↓reduceIte]; refine cmA (hI _ (by omega) (by omega)) ?_; simp (disch := omega) only [go_sem, hE, hH, ↓reduceIte]) | (refine ok_view ?_; simp (disch := omega) only [go_sem, hE, hH, ↓reduceIte]) | (refine cvA (IndexFunc_Letter_ok u _ [.bx false (Letter.row false x)] (fun y => decide (x.Due < y.Due)) (by kernel_rfl) rfl (by omega) (fun y _ => laid_1_ok y x)) ?_; simp (disch := omega) only [go_sem, hE, hH, ↓reduceIte]) | (refine cvA (Clone_Letter_ok _ (by omega)) ?_; simp (disch := omega) only [go_sem, hE, hH, ↓reduceIte]) | (with_reducible apply jn) | (with_reducible apply both) | (with_reducible refine And.intro ?_ ?_) | ((with_reducible apply fin_eq); (try (simp (disch := omega) only [go_sem, hE, hH, ↓reduceIte])); first | done | rfl) | (simp (disch := omega) only [go_sem, hE, hH, ↓reduceIte]) | (exact (noMLL_set (by simp only [go_sem, hE, hH, ↓reduceIte]) (by simp only [go_sem, hE, hH, ↓reduceIte])).2 trivial) | (exact (pk_set (by simp only [go_sem, hE, hH, ↓reduceIte]) (by simp only [go_sem, hE, hH, ↓reduceIte])).2 trivial) | (simp only [go_sem, hE, hH, ↓reduceIte]) | fail)
  all_goals try omega
  · rw [laidL, posL, if_pos h, List.take_length]
  · rw [laidL, posL, if_neg (by omega)]
theorem ins_one {α : Type} {f : α → List T} {u : List α} {x : α} {j : Nat} (h : j ≤ u.length) : ((u.take j).map f ++ [f x]).take (j + 1) = (u.take j).map f ++ [f x] := List.take_of_length_le (by simp; omega)
theorem ins_one_len {α : Type} {f : α → List T} {u : List α} {x : α} {j : Nat} (h : j ≤ u.length) : ((u.take j).map f ++ [f x]).length = j + 1 := by simp; omega
theorem l7In_ok (u : List Letter) (x : Letter) (hu : u.length ≤ 2 ^ 19) : ACall Try.prog n_spec_l7In [.sl false 4 (u.map (Letter.row false)), .agg (Letter.row false x)] (fun r _ => r = .sl true 4 ((laidL u x).map (Letter.row true))) := by
  have hmx := mx_eq
  refine fn_in h_spec_l7In r_spec_l7In ⟨by simp only [go_sem, ↓reduceIte], fun E hE hH => ?_⟩; simp only [go_sem, ↓reduceIte] at hE hH; simp only [go_sem, hE, hH, ↓reduceIte, c_spec_l7In]
  refine loopN u.length (fun j (_ : Unit) => ⟨[(0, .sl false 4 (u.map (Letter.row false))), (3, .ptr 4000000 0 0), (5, i64 j)], [(4000000, ⟨4, [Letter.row false x]⟩)]⟩) (fun j _ => allN (fun i => !decide (x.Due < (nth u i).Due)) j = true) () rfl ?_
  intro j _ hj hI
  have t1 : (u.drop j).take (u.length - j) = u.drop j := take_drop_all
  have t2 : (u.take j).length = j := by rw [List.length_take]; omega
  have t3 := ins_one (f := Letter.row true) (u := u) (x := x) hj
  have t4 := ins_one_len (f := Letter.row true) (u := u) (x := x) hj
  simp only [go_sem] at t3 t4
  have t5 : (u.take j).take j = u.take j := by rw [List.take_take, Nat.min_self]
  try simp only [go_sem, hE, hH, ↓reduceIte, t1, t2, t3, t4, t5, List.length_drop, c_spec_l7In_l1]
  repeat' (first | ((with_reducible (first | refine gd_t (fun h => ?_) (fun h => ?_) | refine gd_f (fun h => ?_) (fun h => ?_))) <;> (have hb := h; (try simp only [decide_eq_true_eq, decide_eq_false_iff_not, Int.not_lt, Int.not_le, ge_iff_le, gt_iff_lt, Bool.not_eq_true', Bool.not_eq_false', beq_iff_eq, bne_iff_ne, beq_eq_false_iff_ne, bne_eq_false_iff_eq, Int.ofNat_lt, Int.ofNat_le] at h); simp (disch := omega) only [go_sem, hE, hH, ↓reduceIte, t1, t2, t3, t4, t5, List.length_drop, hb]; (try clear hb))) | ((with_reducible refine And.intro ?_ ?_); · omega) | (refine ok_view ?_; simp (disch := omega) only [go_sem, hE, hH, ↓reduceIte, t1, t2, t3, t4, t5, List.length_drop]) | (refine cvA (l7OwnL_ok _ (by simp <;> omega)) ?_; simp (disch := omega) only [go_sem, hE, hH, ↓reduceIte, t1, t2, t3, t4, t5, List.length_drop]) | (with_reducible apply jn) | (with_reducible apply both) | (with_reducible refine And.intro ?_ ?_) | ((with_reducible apply fin_eq); (try (simp (disch := omega) only [go_sem, hE, hH, ↓reduceIte, t1, t2, t3, t4, t5, List.length_drop])); first | done | rfl) | (simp (disch := omega) only [go_sem, hE, hH, ↓reduceIte, t1, t2, t3, t4, t5, List.length_drop]) | (exact (noMLL_set (by simp only [go_sem, hE, hH, ↓reduceIte, t1, t2, t3, t4, t5, List.length_drop]) (by simp only [go_sem, hE, hH, ↓reduceIte, t1, t2, t3, t4, t5, List.length_drop])).2 trivial) | (exact (pk_set (by simp only [go_sem, hE, hH, ↓reduceIte, t1, t2, t3, t4, t5, List.length_drop]) (by simp only [go_sem, hE, hH, ↓reduceIte, t1, t2, t3, t4, t5, List.length_drop])).2 trivial) | (simp only [go_sem, hE, hH, ↓reduceIte, t1, t2, t3, t4, t5, List.length_drop]) | fail)
  all_goals try omega
  · first | exact ⟨(), rfl, allN_step hI (by simp; omega)⟩ | exact ⟨by omega, (), rfl, allN_step hI (by simp; omega)⟩ | exact ⟨by omega, by omega, (), rfl, allN_step hI (by simp; omega)⟩
  · rw [laidL, posL_at (by assumption) hI h, List.map_append, List.map_append]
    rfl
  · have e : u.length = j := by omega
    rw [laidL, posL_end (by rw [e]; exact hI), e, List.map_append, List.map_append]
    rfl
theorem l7If_ok (n : Net) (hm : n.Homes.length ≤ maxLen) : ACall Try.prog n_spec_l7If [.agg (Net.row true n)] (fun r a => r = .tup [.agg (Net.row true (ifN n).1), bl (ifN n).2] ∧ a = [.any]) := by
  have hmx := mx_eq
  refine fn_inD [true] h_spec_l7If r_spec_l7If ⟨by simp only [go_sem, ↓reduceIte], fun E hE hH => ?_⟩; simp only [go_sem, ↓reduceIte] at hE hH; simp only [go_sem, hE, hH, ↓reduceIte, c_spec_l7If]
  repeat' (first | ((with_reducible (first | refine gd_t (fun h => ?_) (fun h => ?_) | refine gd_f (fun h => ?_) (fun h => ?_))) <;> (have hb := h; (try simp only [decide_eq_true_eq, decide_eq_false_iff_not, Int.not_lt, Int.not_le, ge_iff_le, gt_iff_lt, Bool.not_eq_true', Bool.not_eq_false', beq_iff_eq, bne_iff_ne, beq_eq_false_iff_ne, bne_eq_false_iff_eq, Int.ofNat_lt, Int.ofNat_le] at h); simp (disch := omega) only [go_sem, hE, hH, ↓reduceIte, hb]; (try clear hb))) | ((with_reducible refine And.intro ?_ ?_); · omega) | (refine ok_view ?_; simp (disch := omega) only [go_sem, hE, hH, ↓reduceIte]) | (refine cvA (l7Good_ok n hm) ?_; simp (disch := omega) only [go_sem, hE, hH, ↓reduceIte]) | (refine jn _ ?_ ?_) | (with_reducible refine both ?_ ?_) | (with_reducible refine And.intro ?_ ?_) | (refine fin_eq ?_; (try (simp (disch := omega) only [go_sem, hE, hH, ↓reduceIte])); first | done | rfl) | (simp (disch := omega) only [go_sem, hE, hH, ↓reduceIte]) | (exact (noMLL_set (by simp only [go_sem, hE, hH, ↓reduceIte]) (by simp only [go_sem, hE, hH, ↓reduceIte])).2 trivial) | (exact (pk_set (by simp only [go_sem, hE, hH, ↓reduceIte]) (by simp only [go_sem, hE, hH, ↓reduceIte])).2 trivial) | (simp only [go_sem, hE, hH, ↓reduceIte]) | fail)
  all_goals (simp only [ifN, h]; rfl)
end Go.Proofs.Wb

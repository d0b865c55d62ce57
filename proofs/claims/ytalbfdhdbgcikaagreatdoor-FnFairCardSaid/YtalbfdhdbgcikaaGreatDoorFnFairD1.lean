import Derived.Test.YtalbfdhdbgcikaaGreatDoorFnFairN0
import Derived.Laws.Externs
set_option linter.unusedSimpArgs false
set_option linter.unusedVariables false
set_option linter.unusedSectionVars false
namespace Go.Proofs.Wb
open Go Go.Am
def goodU (m : Nat) (u : List Letter) : Bool := allN (fun i => letOk m (nth u i) && dueOk u i) u.length
theorem goodU_iff {m : Nat} {u : List Letter} : goodU m u = true ↔ (∀ x ∈ u, letOk m x = true) ∧ u.Pairwise (fun a b => a.Due ≤ b.Due) := by
  simp only [goodU, allN_iff, Bool.and_eq_true]
  constructor
  · intro h
    refine ⟨fun x hx => ?_, ?_⟩
    · obtain ⟨i, hi, rfl⟩ := List.getElem_of_mem hx
      rw [← nth_lt hi]; exact (h i hi).1
    · rw [List.pairwise_iff_getElem]
      intro i j hi hj hij
      rw [← nth_lt hi, ← nth_lt hj]
      have key : ∀ d, i + d < u.length → (nth u i).Due ≤ (nth u (i + d)).Due := by
        intro d
        induction d with
        | zero => intro _; exact Int.le_refl _
        | succ d ih =>
          intro hd
          have h1 := ih (by omega)
          have h2 := (h (i + (d + 1)) hd).2
          simp only [dueOk, Bool.or_eq_true, decide_eq_true_eq, Bool.not_eq_true', decide_eq_false_iff_not] at h2
          rw [show i + (d + 1) - 1 = i + d from by omega] at h2
          omega
      have := key (j - i) (by omega)
      rwa [show i + (j - i) = j from by omega] at this
  · rintro ⟨h1, h2⟩ i hi
    refine ⟨by rw [nth_lt hi]; exact h1 _ (List.getElem_mem hi), ?_⟩
    simp only [dueOk, Bool.or_eq_true, decide_eq_true_eq, Bool.not_eq_true', decide_eq_false_iff_not]
    by_cases h0 : i = 0
    · exact .inl h0
    · right
      rw [List.pairwise_iff_getElem] at h2
      have := h2 (i - 1) i (by omega) hi (by omega)
      rw [nth_lt hi, nth_lt (show i - 1 < u.length by omega)]
      omega
def withN (n : Net) (u : List Letter) : Net := ⟨n.Now, n.Homes, n.Far, u⟩
def zeroN : Net := ⟨0, [], 0, []⟩
def ifN (n : Net) : Net × Bool := if goodNet n then (n, true) else (zeroN, false)
def posL (u : List Letter) (d : Int) : Nat := if ixf (fun x : Letter => decide (d < x.Due)) u < 0 then u.length else (ixf (fun x : Letter => decide (d < x.Due)) u).toNat
def laidL (u : List Letter) (x : Letter) : List Letter := u.take (posL u x.Due) ++ [x] ++ u.drop (posL u x.Due)
theorem posL_le (u : List Letter) (d : Int) : posL u d ≤ u.length := by
  have := ixf_hi (p := fun x : Letter => decide (d < x.Due)) (l := u)
  unfold posL; split <;> omega
theorem posL_at {u : List Letter} {d : Int} {j : Nat} (hlt : j < u.length) (hI : allN (fun i => !decide (d < (nth u i).Due)) j = true) (h : d < (nth u j).Due) : posL u d = j := by
  have e := ixf_at (p := fun x : Letter => decide (d < x.Due)) hlt hI (by simpa using h)
  rw [posL, e, if_neg (by omega)]; rfl
theorem posL_end {u : List Letter} {d : Int} (hI : allN (fun i => !decide (d < (nth u i).Due)) u.length = true) : posL u d = u.length := by
  have e := ixf_none (p := fun x : Letter => decide (d < x.Due)) hI
  rw [posL, e, if_pos (by omega)]
theorem laidL_len (u : List Letter) (x : Letter) : (laidL u x).length = u.length + 1 := by
  have := posL_le u x.Due
  simp [laidL]; omega
def outL (u : List Letter) (i : Nat) : List Letter := u.take i ++ u.drop (i + 1)
theorem outL_sub (u : List Letter) (i : Nat) : (outL u i).Sublist u := by
  conv => rhs; rw [← List.take_append_drop i u]
  refine List.Sublist.append (List.Sublist.refl _) ?_
  rw [← List.drop_drop]
  exact List.drop_sublist _ _
theorem goodNet_u {n : Net} : goodNet n = (rng n.Now 0 100000 && goodHomes n.Homes n.Far && decide ((n.Under.length : Int) ≤ 60) && goodU n.Homes.length n.Under) := rfl
theorem goodNet_out {n : Net} (h : goodNet n = true) (i : Nat) : goodNet (withN n (outL n.Under i)) = true := by
  have hs := outL_sub n.Under i
  have hl := hs.length_le
  rw [goodNet_u] at h ⊢
  simp only [Bool.and_eq_true, decide_eq_true_eq, goodU_iff, withN] at h ⊢
  obtain ⟨⟨h1, h2⟩, h3, h4⟩ := h
  refine ⟨⟨h1, ?_⟩, fun x hx => h3 x (hs.subset hx), h4.sublist hs⟩
  exact decide_eq_true (by omega)
theorem isUnder_ok (n : Net) (i : Int) (hm : n.Homes.length ≤ maxLen) : ACall Tryz.prog n_impl_isUnder [.agg (Net.row false n), i64 i] (fun r _ => r = bl (goodNet n && rng i 0 ((n.Under.length : Int) - 1))) := by
  have hmx := mx_eq
  refine fn_in h_impl_isUnder r_impl_isUnder ⟨by simp only [go_sem], fun E hE hH => ?_⟩; simp only [go_sem] at hE hH; simp only [go_sem, hE, hH, c_impl_isUnder]
  repeat' (first | ((with_reducible first | refine gd_t ?_ ?_ | refine gd_f ?_ ?_) <;> (intro h; have hb := h; (try simp only [nf] at h); simp (disch := omega) only [go_sem, hE, hH, hb]; (try clear hb))) | ((with_reducible refine And.intro ?_ ?_); · omega) | ((first | refine ok_view ?_ | refine cvA (GoodNet_ok n hm) ?_ | refine cvA (within_ok _ _ _) ?_); simp (disch := omega) only [go_sem, hE, hH]) | (refine jn _ ?_ ?_) | (with_reducible refine both ?_ ?_) | (with_reducible refine And.intro ?_ ?_) | (refine fin_eq ?_; (try (simp (disch := omega) only [go_sem, hE, hH])); first | done | rfl) | (simp (disch := omega) only [go_sem, hE, hH]) | ((first | apply noMLL_sE | apply pk_sE) <;> (simp only [go_sem, hE, hH]; done)) | (simp only [go_sem, hE, hH]) | fail)
  all_goals first | (simp [h]; done) | (have hu := goodNet_len h; simp (disch := omega) only [wrap_id, h, Bool.true_and]; done) | (have hu := goodNet_len h; simp (disch := omega) only [wrap_id]; simp [h]; done)
theorem l7Has_ok (n : Net) (i : Int) (hm : n.Homes.length ≤ maxLen) : ACall Tryz.prog n_spec_l7Has [.agg (Net.row false n), i64 i] (fun r _ => r = bl (goodNet n && rng i 0 ((n.Under.length : Int) - 1))) := by
  have hmx := mx_eq
  refine fn_in h_spec_l7Has r_spec_l7Has ⟨by simp only [go_sem], fun E hE hH => ?_⟩; simp only [go_sem] at hE hH; simp only [go_sem, hE, hH, c_spec_l7Has]
  repeat' (first | ((with_reducible first | refine gd_t ?_ ?_ | refine gd_f ?_ ?_) <;> (intro h; have hb := h; (try simp only [nf] at h); simp (disch := omega) only [go_sem, hE, hH, hb]; (try clear hb))) | ((with_reducible refine And.intro ?_ ?_); · omega) | ((first | refine ok_view ?_ | refine cvA (l7Good_ok n hm) ?_ | refine cvA (l1In_ok _ _ _) ?_); simp (disch := omega) only [go_sem, hE, hH]) | (refine jn _ ?_ ?_) | (with_reducible refine both ?_ ?_) | (with_reducible refine And.intro ?_ ?_) | (refine fin_eq ?_; (try (simp (disch := omega) only [go_sem, hE, hH])); first | done | rfl) | (simp (disch := omega) only [go_sem, hE, hH]) | ((first | apply noMLL_sE | apply pk_sE) <;> (simp only [go_sem, hE, hH]; done)) | (simp only [go_sem, hE, hH]) | fail)
  all_goals first | (simp [h]; done) | (have hu := goodNet_len h; simp (disch := omega) only [wrap_id, h, Bool.true_and]; done) | (have hu := goodNet_len h; simp (disch := omega) only [wrap_id]; simp [h]; done)
theorem withUnder_ok (n : Net) (u : List Letter) (h1 : n.Homes.length ≤ 2 ^ 20) (h2 : n.Under.length ≤ 2 ^ 20) (hu : u.length ≤ 2 ^ 20) : ACall Tryz.prog n_impl_Net_withUnder [.agg (Net.row false n), .sl true 4 (u.map (Letter.row true))] (fun r a => r = .tup [.agg (Net.row true (ifN (withN n u)).1), bl (ifN (withN n u)).2] ∧ a = [.agg (Net.row false n), .any]) := by
  have hmx := mx_eq
  refine fn_inD [false, true] h_impl_Net_withUnder r_impl_Net_withUnder ⟨by simp only [go_sem], fun E hE hH => ?_⟩; simp only [go_sem] at hE hH; simp only [go_sem, hE, hH, c_impl_Net_withUnder]
  repeat' (first | ((with_reducible first | refine gd_t ?_ ?_ | refine gd_f ?_ ?_) <;> (intro h; have hb := h; (try simp only [nf] at h); simp (disch := omega) only [go_sem, hE, hH, hb]; (try clear hb))) | ((with_reducible refine And.intro ?_ ?_); · omega) | ((first | refine ok_view ?_ | refine cvA (copyNet_ok n h1 h2) ?_ | refine cvA (GoodNet_ok (withN n u) (by simp only [withN]; omega)) ?_); simp (disch := omega) only [go_sem, hE, hH]) | (refine jn _ ?_ ?_) | (with_reducible refine both ?_ ?_) | (with_reducible refine And.intro ?_ ?_) | (refine fin_eq ?_; (try (simp (disch := omega) only [go_sem, hE, hH])); first | done | rfl) | (simp (disch := omega) only [go_sem, hE, hH]) | ((first | apply noMLL_sE | apply pk_sE) <;> (simp only [go_sem, hE, hH]; done)) | (simp only [go_sem, hE, hH]) | fail)
  all_goals (simp only [ifN, h]; rfl)
theorem laid_1_ok (x l : Letter) : ACall Tryz.prog n_impl_laid_1 ([.agg (Letter.row false x)] ++ [.bx false (Letter.row false l)]) (fun r _ => r = bl (decide (l.Due < x.Due))) := by
  refine fn_in h_impl_laid_1 r_impl_laid_1 ⟨by simp only [go_sem], fun E hE hH => ?_⟩; simp only [go_sem] at hE hH; simp only [go_sem, hE, hH, c_impl_laid_1]
  try simp (disch := omega) only [go_sem, hE, hH]
  try rfl
theorem laid_ok (u : List Letter) (x : Letter) (hu : u.length ≤ 2 ^ 19) : ACall Tryz.prog n_impl_laid [.sl false 4 (u.map (Letter.row false)), .agg (Letter.row false x)] (fun r _ => r = .sl true 4 ((laidL u x).map (Letter.row true))) := by
  have hmx := mx_eq
  have hi := ixf_hi (p := fun y : Letter => decide (x.Due < y.Due)) (l := u)
  have hI := fun (i : Int) (h0 : 0 ≤ i) (h1 : i ≤ u.length) => Insert_Letter_ok u [x] i h0 h1 (by omega) (by simp)
  simp only [List.map_cons, List.map_nil] at hI
  refine fn_in h_impl_laid r_impl_laid ⟨by simp only [go_sem], fun E hE hH => ?_⟩; simp only [go_sem] at hE hH; simp only [go_sem, hE, hH, c_impl_laid]
  repeat' (first | ((with_reducible first | refine gd_t ?_ ?_ | refine gd_f ?_ ?_) <;> (intro h; have hb := h; (try simp only [nf] at h); simp (disch := omega) only [go_sem, hE, hH, hb]; (try clear hb))) | ((with_reducible refine And.intro ?_ ?_); · omega) | (refine ok_lend [true, false, false] ?_; simp (disch := omega) only [go_sem, hE, hH]; refine cmA (hI _ (by omega) (by omega)) ?_; simp (disch := omega) only [go_sem, hE, hH]) | ((first | refine ok_view ?_ | refine cvA (IndexFunc_Letter_ok u _ [.bx false (Letter.row false x)] (fun y => decide (x.Due < y.Due)) (by kernel_rfl) rfl (by omega) (fun y _ => laid_1_ok y x)) ?_ | refine cvA (Clone_Letter_ok _ (by omega)) ?_); simp (disch := omega) only [go_sem, hE, hH]) | (with_reducible apply jn) | (with_reducible apply both) | (with_reducible refine And.intro ?_ ?_) | ((with_reducible apply fin_eq); (try (simp (disch := omega) only [go_sem, hE, hH])); first | done | rfl) | (simp (disch := omega) only [go_sem, hE, hH]) | ((first | apply noMLL_sE | apply pk_sE) <;> (simp only [go_sem, hE, hH]; done)) | (simp only [go_sem, hE, hH]) | fail)
  all_goals try omega
  · rw [laidL, posL, if_pos h, List.take_length]
  · rw [laidL, posL, if_neg (by omega)]
theorem l7Out_ok (u : List Letter) (i : Int) (h0 : 0 ≤ i) (hi : i < u.length) (hu : u.length ≤ 2 ^ 19) : ACall Tryz.prog n_spec_l7Out [.sl false 4 (u.map (Letter.row false)), i64 i] (fun r _ => r = .sl true 4 ((outL u i.toNat).map (Letter.row true))) := by
  have hmx := mx_eq
  refine fn_in h_spec_l7Out r_spec_l7Out ⟨by simp only [go_sem], fun E hE hH => ?_⟩; simp only [go_sem] at hE hH; simp only [go_sem, hE, hH, c_spec_l7Out]
  have t1 : (i + 1).toNat = i.toNat + 1 := by omega
  have t2 : (u.drop (i.toNat + 1)).take (u.length - (i.toNat + 1)) = u.drop (i.toNat + 1) := take_drop_all
  have hk : i.toNat < u.length := by omega
  have t3 : min i.toNat u.length = i.toNat := by omega
  have t4 : (u.take i.toNat).take i.toNat = u.take i.toNat := by rw [List.take_take, Nat.min_self]
  repeat' (first | ((with_reducible first | refine gd_t ?_ ?_ | refine gd_f ?_ ?_) <;> (intro h; have hb := h; (try simp only [nf] at h); simp (disch := omega) only [go_sem, hE, hH, t1, t2, t3, t4, List.length_take, List.length_drop, hb]; (try clear hb))) | ((with_reducible refine And.intro ?_ ?_); · omega) | ((first | refine ok_view ?_ | refine cvA (l7OwnL_ok _ (by simp <;> omega)) ?_); simp (disch := omega) only [go_sem, hE, hH, t1, t2, t3, t4, List.length_take, List.length_drop]) | (with_reducible apply jn) | (with_reducible apply both) | (with_reducible refine And.intro ?_ ?_) | ((with_reducible apply fin_eq); (try (simp (disch := omega) only [go_sem, hE, hH, t1, t2, t3, t4, List.length_take, List.length_drop])); first | done | rfl) | (simp (disch := omega) only [go_sem, hE, hH, t1, t2, t3, t4, List.length_take, List.length_drop]) | ((first | apply noMLL_sE | apply pk_sE) <;> (simp only [go_sem, hE, hH, t1, t2, t3, t4, List.length_take, List.length_drop]; done)) | (simp only [go_sem, hE, hH, t1, t2, t3, t4, List.length_take, List.length_drop]) | fail)
  all_goals try omega
  rw [outL, List.map_append]
  rfl
theorem ins_one {α : Type} {f : α → List T} {u : List α} {x : α} {j : Nat} (h : j ≤ u.length) : ((u.take j).map f ++ [f x]).take (j + 1) = (u.take j).map f ++ [f x] := List.take_of_length_le (by simp; omega)
theorem ins_one_len {α : Type} {f : α → List T} {u : List α} {x : α} {j : Nat} (h : j ≤ u.length) : ((u.take j).map f ++ [f x]).length = j + 1 := by simp; omega
theorem l7In_ok (u : List Letter) (x : Letter) (hu : u.length ≤ 2 ^ 19) : ACall Tryz.prog n_spec_l7In [.sl false 4 (u.map (Letter.row false)), .agg (Letter.row false x)] (fun r _ => r = .sl true 4 ((laidL u x).map (Letter.row true))) := by
  have hmx := mx_eq
  refine fn_in h_spec_l7In r_spec_l7In ⟨by simp only [go_sem], fun E hE hH => ?_⟩; simp only [go_sem] at hE hH; simp only [go_sem, hE, hH, c_spec_l7In]
  refine loopN u.length (fun j (_ : Unit) => ⟨[(0, .sl false 4 (u.map (Letter.row false))), (3, .ptr 4000000 0 0), (5, i64 j)], [(4000000, ⟨4, [Letter.row false x]⟩)]⟩) (fun j _ => allN (fun i => !decide (x.Due < (nth u i).Due)) j = true) () rfl ?_
  intro j _ hj hI
  have t1 : (u.drop j).take (u.length - j) = u.drop j := take_drop_all
  have t2 : (u.take j).length = j := by rw [List.length_take]; omega
  have t3 := ins_one (f := Letter.row true) (u := u) (x := x) hj
  have t4 := ins_one_len (f := Letter.row true) (u := u) (x := x) hj
  simp only [go_sem] at t3 t4
  have t5 : (u.take j).take j = u.take j := by rw [List.take_take, Nat.min_self]
  try simp only [go_sem, hE, hH, t1, t2, t3, t4, t5, List.length_drop, c_spec_l7In_l1]
  repeat' (first | ((with_reducible first | refine gd_t ?_ ?_ | refine gd_f ?_ ?_) <;> (intro h; have hb := h; (try simp only [nf] at h); simp (disch := omega) only [go_sem, hE, hH, t1, t2, t3, t4, t5, List.length_drop, hb]; (try clear hb))) | ((with_reducible refine And.intro ?_ ?_); · omega) | ((first | refine ok_view ?_ | refine cvA (l7OwnL_ok _ (by simp <;> omega)) ?_); simp (disch := omega) only [go_sem, hE, hH, t1, t2, t3, t4, t5, List.length_drop]) | (with_reducible apply jn) | (with_reducible apply both) | (with_reducible refine And.intro ?_ ?_) | ((with_reducible apply fin_eq); (try (simp (disch := omega) only [go_sem, hE, hH, t1, t2, t3, t4, t5, List.length_drop])); first | done | rfl) | (simp (disch := omega) only [go_sem, hE, hH, t1, t2, t3, t4, t5, List.length_drop]) | ((first | apply noMLL_sE | apply pk_sE) <;> (simp only [go_sem, hE, hH, t1, t2, t3, t4, t5, List.length_drop]; done)) | (simp only [go_sem, hE, hH, t1, t2, t3, t4, t5, List.length_drop]) | fail)
  all_goals try omega
  · first | exact ⟨(), rfl, allN_step hI (by simp; omega)⟩ | exact ⟨by omega, (), rfl, allN_step hI (by simp; omega)⟩ | exact ⟨by omega, by omega, (), rfl, allN_step hI (by simp; omega)⟩
  · rw [laidL, posL_at (by assumption) hI h, List.map_append, List.map_append]
    rfl
  · have e : u.length = j := by omega
    rw [laidL, posL_end (by rw [e]; exact hI), e, List.map_append, List.map_append]
    rfl
theorem l7If_ok (n : Net) (hm : n.Homes.length ≤ maxLen) : ACall Tryz.prog n_spec_l7If [.agg (Net.row true n)] (fun r a => r = .tup [.agg (Net.row true (ifN n).1), bl (ifN n).2] ∧ a = [.any]) := by
  have hmx := mx_eq
  refine fn_inD [true] h_spec_l7If r_spec_l7If ⟨by simp only [go_sem], fun E hE hH => ?_⟩; simp only [go_sem] at hE hH; simp only [go_sem, hE, hH, c_spec_l7If]
  repeat' (first | ((with_reducible first | refine gd_t ?_ ?_ | refine gd_f ?_ ?_) <;> (intro h; have hb := h; (try simp only [nf] at h); simp (disch := omega) only [go_sem, hE, hH, hb]; (try clear hb))) | ((with_reducible refine And.intro ?_ ?_); · omega) | ((first | refine ok_view ?_ | refine cvA (l7Good_ok n hm) ?_); simp (disch := omega) only [go_sem, hE, hH]) | (refine jn _ ?_ ?_) | (with_reducible refine both ?_ ?_) | (with_reducible refine And.intro ?_ ?_) | (refine fin_eq ?_; (try (simp (disch := omega) only [go_sem, hE, hH])); first | done | rfl) | (simp (disch := omega) only [go_sem, hE, hH]) | ((first | apply noMLL_sE | apply pk_sE) <;> (simp only [go_sem, hE, hH]; done)) | (simp only [go_sem, hE, hH]) | fail)
  all_goals (simp only [ifN, h]; rfl)
def hasN (n : Net) (i : Int) : Bool := goodNet n && rng i 0 ((n.Under.length : Int) - 1)
theorem hasN_at {n : Net} {i : Int} (h : hasN n i = true) : goodNet n = true ∧ 0 ≤ i ∧ i < n.Under.length ∧ n.Homes.length ≤ 5 ∧ n.Under.length ≤ 60 := by
  simp only [hasN, Bool.and_eq_true, rng_iff] at h
  obtain ⟨h1, h2⟩ := h
  have := goodNet_len h1
  exact ⟨h1, by omega, by omega, this.1, this.2⟩
def loseN (n : Net) (i : Int) : Net × Bool := if hasN n i then (withN n (outL n.Under i.toNat), true) else (zeroN, false)
def dblN (n : Net) (i : Int) : Net × Bool := if hasN n i then ifN (withN n (laidL n.Under (nth n.Under i.toNat))) else (zeroN, false)
def lateL (x : Letter) (b : Int) : Letter := ⟨x.From, x.To, x.Due + b, x.Body⟩
def delN (n : Net) (i b : Int) : Net × Bool := if hasN n i && rng b 1 50 then ifN (withN n (laidL (outL n.Under i.toNat) (lateL (nth n.Under i.toNat) b))) else (zeroN, false)
theorem due_of {n : Net} (h : goodNet n = true) {i : Nat} (hi : i < n.Under.length) : 0 ≤ (nth n.Under i).Due ∧ (nth n.Under i).Due ≤ 100200 := by
  rw [goodNet_u] at h
  simp only [Bool.and_eq_true, goodU_iff] at h
  have := h.2.1 _ (nth_mem hi)
  simp only [letOk, Bool.and_eq_true, rng_iff] at this
  omega
theorem outL_len {u : List Letter} {i : Nat} (h : i < u.length) : (outL u i).length = u.length - 1 := by simp [outL]; omega
theorem loseN_eq {n : Net} {i : Int} (h : hasN n i = true) : ifN (withN n (outL n.Under i.toNat)) = (withN n (outL n.Under i.toNat), true) := by
  rw [ifN, if_pos (goodNet_out (hasN_at h).1 _)]
set_option maxHeartbeats 1000000 in
theorem LoseOne_ok (n : Net) (i : Int) (hm : n.Homes.length ≤ maxLen) : ACall Tryz.prog n_impl_LoseOne [.agg (Net.row false n), i64 i] (fun r _ => r = .tup [.agg (Net.row true (loseN n i).1), bl (loseN n i).2]) := by
  have hmx := mx_eq
  have hi := isUnder_ok n i hm
  change ACall Tryz.prog _ _ (fun r _ => r = bl (hasN n i)) at hi
  cases hc : hasN n i with
  | false =>
    rw [hc] at hi
    have e : loseN n i = (zeroN, false) := by simp [loseN, hc]
    refine fn_in h_impl_LoseOne r_impl_LoseOne ⟨by simp only [go_sem], fun E hE hH => ?_⟩; simp only [go_sem] at hE hH; simp only [go_sem, hE, hH, c_impl_LoseOne]
    repeat' (first | ((with_reducible first | refine gd_t ?_ ?_ | refine gd_f ?_ ?_) <;> (intro h; have hb := h; (try simp only [nf] at h); simp (disch := omega) only [go_sem, hE, hH, hb]; (try clear hb))) | ((with_reducible refine And.intro ?_ ?_); · omega) | ((first | refine ok_view ?_ | refine cvA (hi) ?_); simp (disch := omega) only [go_sem, hE, hH]) | (refine jn _ ?_ ?_) | (with_reducible refine both ?_ ?_) | (with_reducible refine And.intro ?_ ?_) | (refine fin_eq ?_; (try (simp (disch := omega) only [go_sem, hE, hH])); first | done | rfl) | (simp (disch := omega) only [go_sem, hE, hH]) | ((first | apply noMLL_sE | apply pk_sE) <;> (simp only [go_sem, hE, hH]; done)) | (simp only [go_sem, hE, hH]) | fail)
    all_goals (rw [e]; try rfl)
  | true =>
    rw [hc] at hi
    obtain ⟨g0, g1, g2, g3, g4⟩ := hasN_at hc
    have hk : i.toNat < n.Under.length := by omega
    have e : loseN n i = ifN (withN n (outL n.Under i.toNat)) := by rw [loseN, if_pos hc, loseN_eq hc]
    have hw := withUnder_ok n (outL n.Under i.toNat) (by omega) (by omega) (by rw [outL_len (by omega)]; omega)
    have hD := Delete_Letter_ok n.Under i (i + 1) g1 (by omega) (by omega) (by omega)
    rw [show (i + 1).toNat = i.toNat + 1 by omega] at hD
    change ACall Tryz.prog _ _ (fun r a => r = .sl true 4 ((outL n.Under i.toNat).map (Letter.row true)) ∧ a = _) at hD
    refine fn_in h_impl_LoseOne r_impl_LoseOne ⟨by simp only [go_sem], fun E hE hH => ?_⟩; simp only [go_sem] at hE hH; simp only [go_sem, hE, hH, c_impl_LoseOne]
    repeat' (first | ((with_reducible first | refine gd_t ?_ ?_ | refine gd_f ?_ ?_) <;> (intro h; have hb := h; (try simp only [nf] at h); simp (disch := omega) only [go_sem, hE, hH, hb]; (try clear hb))) | ((with_reducible refine And.intro ?_ ?_); · omega) | (refine ok_lend [true, false, false] ?_; simp (disch := omega) only [go_sem, hE, hH]; refine cmA (hD) ?_; simp (disch := omega) only [go_sem, hE, hH]) | (refine ok_lend [false, true] ?_; simp (disch := omega) only [go_sem, hE, hH]; refine cmA (hw) ?_; simp (disch := omega) only [go_sem, hE, hH]) | ((first | refine ok_view ?_ | refine cvA (hi) ?_ | refine cvA (Clone_Letter_ok _ (by omega)) ?_); simp (disch := omega) only [go_sem, hE, hH]) | (with_reducible apply jn) | (with_reducible apply both) | (with_reducible refine And.intro ?_ ?_) | ((with_reducible apply fin_eq); (try (simp (disch := omega) only [go_sem, hE, hH])); first | done | rfl) | (simp (disch := omega) only [go_sem, hE, hH]) | ((first | apply noMLL_sE | apply pk_sE) <;> (simp only [go_sem, hE, hH]; done)) | (simp only [go_sem, hE, hH]) | fail)
    all_goals try omega
    all_goals rw [e]
set_option maxHeartbeats 1000000 in
theorem sLoseOne_ok (n : Net) (i : Int) (hm : n.Homes.length ≤ maxLen) : ACall Tryz.prog n_spec_LoseOne [.agg (Net.row false n), i64 i] (fun r _ => r = .tup [.agg (Net.row true (loseN n i).1), bl (loseN n i).2]) := by
  have hmx := mx_eq
  have hi := l7Has_ok n i hm
  change ACall Tryz.prog _ _ (fun r _ => r = bl (hasN n i)) at hi
  cases hc : hasN n i with
  | false =>
    rw [hc] at hi
    have e : loseN n i = (zeroN, false) := by simp [loseN, hc]
    refine fn_in h_spec_LoseOne r_spec_LoseOne ⟨by simp only [go_sem], fun E hE hH => ?_⟩; simp only [go_sem] at hE hH; simp only [go_sem, hE, hH, c_spec_LoseOne]
    repeat' (first | ((with_reducible first | refine gd_t ?_ ?_ | refine gd_f ?_ ?_) <;> (intro h; have hb := h; (try simp only [nf] at h); simp (disch := omega) only [go_sem, hE, hH, hb]; (try clear hb))) | ((with_reducible refine And.intro ?_ ?_); · omega) | ((first | refine ok_view ?_ | refine cvA (hi) ?_); simp (disch := omega) only [go_sem, hE, hH]) | (refine jn _ ?_ ?_) | (with_reducible refine both ?_ ?_) | (with_reducible refine And.intro ?_ ?_) | (refine fin_eq ?_; (try (simp (disch := omega) only [go_sem, hE, hH])); first | done | rfl) | (simp (disch := omega) only [go_sem, hE, hH]) | ((first | apply noMLL_sE | apply pk_sE) <;> (simp only [go_sem, hE, hH]; done)) | (simp only [go_sem, hE, hH]) | fail)
    all_goals (rw [e]; try rfl)
  | true =>
    rw [hc] at hi
    obtain ⟨g0, g1, g2, g3, g4⟩ := hasN_at hc
    have hk : i.toNat < n.Under.length := by omega
    have e : loseN n i = (withN n (outL n.Under i.toNat), true) := if_pos hc
    refine fn_in h_spec_LoseOne r_spec_LoseOne ⟨by simp only [go_sem], fun E hE hH => ?_⟩; simp only [go_sem] at hE hH; simp only [go_sem, hE, hH, c_spec_LoseOne]
    repeat' (first | ((with_reducible first | refine gd_t ?_ ?_ | refine gd_f ?_ ?_) <;> (intro h; have hb := h; (try simp only [nf] at h); simp (disch := omega) only [go_sem, hE, hH, hb]; (try clear hb))) | ((with_reducible refine And.intro ?_ ?_); · omega) | ((first | refine ok_view ?_ | refine cvA (hi) ?_ | refine cvA (l7Out_ok n.Under i g1 (by omega) (by omega)) ?_ | refine cvA (l7Own_ok n _ (by omega) (by rw [outL_len (by omega)]; omega)) ?_); simp (disch := omega) only [go_sem, hE, hH]) | (with_reducible apply jn) | (with_reducible apply both) | (with_reducible refine And.intro ?_ ?_) | ((with_reducible apply fin_eq); (try (simp (disch := omega) only [go_sem, hE, hH])); first | done | rfl) | (simp (disch := omega) only [go_sem, hE, hH]) | ((first | apply noMLL_sE | apply pk_sE) <;> (simp only [go_sem, hE, hH]; done)) | (simp only [go_sem, hE, hH]) | fail)
    all_goals try omega
    all_goals (rw [e]; try rfl)
set_option maxHeartbeats 1000000 in
theorem DoubleOne_ok (n : Net) (i : Int) (hm : n.Homes.length ≤ maxLen) : ACall Tryz.prog n_impl_DoubleOne [.agg (Net.row false n), i64 i] (fun r _ => r = .tup [.agg (Net.row true (dblN n i).1), bl (dblN n i).2]) := by
  have hmx := mx_eq
  have hi := isUnder_ok n i hm
  change ACall Tryz.prog _ _ (fun r _ => r = bl (hasN n i)) at hi
  cases hc : hasN n i with
  | false =>
    rw [hc] at hi
    have e : dblN n i = (zeroN, false) := by simp [dblN, hc]
    refine fn_in h_impl_DoubleOne r_impl_DoubleOne ⟨by simp only [go_sem], fun E hE hH => ?_⟩; simp only [go_sem] at hE hH; simp only [go_sem, hE, hH, c_impl_DoubleOne]
    repeat' (first | ((with_reducible first | refine gd_t ?_ ?_ | refine gd_f ?_ ?_) <;> (intro h; have hb := h; (try simp only [nf] at h); simp (disch := omega) only [go_sem, hE, hH, hb]; (try clear hb))) | ((with_reducible refine And.intro ?_ ?_); · omega) | ((first | refine ok_view ?_ | refine cvA (hi) ?_); simp (disch := omega) only [go_sem, hE, hH]) | (refine jn _ ?_ ?_) | (with_reducible refine both ?_ ?_) | (with_reducible refine And.intro ?_ ?_) | (refine fin_eq ?_; (try (simp (disch := omega) only [go_sem, hE, hH])); first | done | rfl) | (simp (disch := omega) only [go_sem, hE, hH]) | ((first | apply noMLL_sE | apply pk_sE) <;> (simp only [go_sem, hE, hH]; done)) | (simp only [go_sem, hE, hH]) | fail)
    all_goals (rw [e]; try rfl)
  | true =>
    rw [hc] at hi
    obtain ⟨g0, g1, g2, g3, g4⟩ := hasN_at hc
    have hk : i.toNat < n.Under.length := by omega
    have e : dblN n i = ifN (withN n (laidL n.Under (nth n.Under i.toNat))) := if_pos hc
    have hw := withUnder_ok n (laidL n.Under (nth n.Under i.toNat)) (by omega) (by omega) (by rw [laidL_len]; omega)
    refine fn_in h_impl_DoubleOne r_impl_DoubleOne ⟨by simp only [go_sem], fun E hE hH => ?_⟩; simp only [go_sem] at hE hH; simp only [go_sem, hE, hH, c_impl_DoubleOne]
    repeat' (first | ((with_reducible first | refine gd_t ?_ ?_ | refine gd_f ?_ ?_) <;> (intro h; have hb := h; (try simp only [nf] at h); simp (disch := omega) only [go_sem, hE, hH, hb]; (try clear hb))) | ((with_reducible refine And.intro ?_ ?_); · omega) | (refine ok_lend [false, true] ?_; simp (disch := omega) only [go_sem, hE, hH]; refine cmA (hw) ?_; simp (disch := omega) only [go_sem, hE, hH]) | ((first | refine ok_view ?_ | refine cvA (hi) ?_ | refine cvA (laid_ok n.Under (nth n.Under i.toNat) (by omega)) ?_); simp (disch := omega) only [go_sem, hE, hH]) | (with_reducible apply jn) | (with_reducible apply both) | (with_reducible refine And.intro ?_ ?_) | ((with_reducible apply fin_eq); (try (simp (disch := omega) only [go_sem, hE, hH])); first | done | rfl) | (simp (disch := omega) only [go_sem, hE, hH]) | ((first | apply noMLL_sE | apply pk_sE) <;> (simp only [go_sem, hE, hH]; done)) | (simp only [go_sem, hE, hH]) | fail)
    all_goals try omega
    all_goals rw [e]
set_option maxHeartbeats 1000000 in
theorem sDoubleOne_ok (n : Net) (i : Int) (hm : n.Homes.length ≤ maxLen) : ACall Tryz.prog n_spec_DoubleOne [.agg (Net.row false n), i64 i] (fun r _ => r = .tup [.agg (Net.row true (dblN n i).1), bl (dblN n i).2]) := by
  have hmx := mx_eq
  have hi := l7Has_ok n i hm
  change ACall Tryz.prog _ _ (fun r _ => r = bl (hasN n i)) at hi
  cases hc : hasN n i with
  | false =>
    rw [hc] at hi
    have e : dblN n i = (zeroN, false) := by simp [dblN, hc]
    refine fn_in h_spec_DoubleOne r_spec_DoubleOne ⟨by simp only [go_sem], fun E hE hH => ?_⟩; simp only [go_sem] at hE hH; simp only [go_sem, hE, hH, c_spec_DoubleOne]
    repeat' (first | ((with_reducible first | refine gd_t ?_ ?_ | refine gd_f ?_ ?_) <;> (intro h; have hb := h; (try simp only [nf] at h); simp (disch := omega) only [go_sem, hE, hH, hb]; (try clear hb))) | ((with_reducible refine And.intro ?_ ?_); · omega) | ((first | refine ok_view ?_ | refine cvA (hi) ?_); simp (disch := omega) only [go_sem, hE, hH]) | (refine jn _ ?_ ?_) | (with_reducible refine both ?_ ?_) | (with_reducible refine And.intro ?_ ?_) | (refine fin_eq ?_; (try (simp (disch := omega) only [go_sem, hE, hH])); first | done | rfl) | (simp (disch := omega) only [go_sem, hE, hH]) | ((first | apply noMLL_sE | apply pk_sE) <;> (simp only [go_sem, hE, hH]; done)) | (simp only [go_sem, hE, hH]) | fail)
    all_goals (rw [e]; try rfl)
  | true =>
    rw [hc] at hi
    obtain ⟨g0, g1, g2, g3, g4⟩ := hasN_at hc
    have hk : i.toNat < n.Under.length := by omega
    have e : dblN n i = ifN (withN n (laidL n.Under (nth n.Under i.toNat))) := if_pos hc
    refine fn_in h_spec_DoubleOne r_spec_DoubleOne ⟨by simp only [go_sem], fun E hE hH => ?_⟩; simp only [go_sem] at hE hH; simp only [go_sem, hE, hH, c_spec_DoubleOne]
    repeat' (first | ((with_reducible first | refine gd_t ?_ ?_ | refine gd_f ?_ ?_) <;> (intro h; have hb := h; (try simp only [nf] at h); simp (disch := omega) only [go_sem, hE, hH, hb]; (try clear hb))) | ((with_reducible refine And.intro ?_ ?_); · omega) | (refine ok_lend [true] ?_; simp (disch := omega) only [go_sem, hE, hH]; refine cmA (l7If_ok (withN n (laidL n.Under (nth n.Under i.toNat))) hm) ?_; simp (disch := omega) only [go_sem, hE, hH]) | ((first | refine ok_view ?_ | refine cvA (hi) ?_ | refine cvA (l7In_ok n.Under (nth n.Under i.toNat) (by omega)) ?_ | refine cvA (l7Own_ok n _ (by omega) (by rw [laidL_len]; omega)) ?_); simp (disch := omega) only [go_sem, hE, hH]) | (with_reducible apply jn) | (with_reducible apply both) | (with_reducible refine And.intro ?_ ?_) | ((with_reducible apply fin_eq); (try (simp (disch := omega) only [go_sem, hE, hH])); first | done | rfl) | (simp (disch := omega) only [go_sem, hE, hH]) | ((first | apply noMLL_sE | apply pk_sE) <;> (simp only [go_sem, hE, hH]; done)) | (simp only [go_sem, hE, hH]) | fail)
    all_goals try omega
    all_goals rw [e]
set_option maxHeartbeats 1000000 in
theorem DelayOne_ok (n : Net) (i b : Int) (hm : n.Homes.length ≤ maxLen) : ACall Tryz.prog n_impl_DelayOne [.agg (Net.row false n), i64 i, i64 b] (fun r _ => r = .tup [.agg (Net.row true (delN n i b).1), bl (delN n i b).2]) := by
  have hmx := mx_eq
  have hi := isUnder_ok n i hm
  change ACall Tryz.prog _ _ (fun r _ => r = bl (hasN n i)) at hi
  cases hc : hasN n i with
  | false =>
    rw [hc] at hi
    have e : delN n i b = (zeroN, false) := by simp [delN, hc]
    refine fn_in h_impl_DelayOne r_impl_DelayOne ⟨by simp only [go_sem], fun E hE hH => ?_⟩; simp only [go_sem] at hE hH; simp only [go_sem, hE, hH, c_impl_DelayOne]
    repeat' (first | ((with_reducible first | refine gd_t ?_ ?_ | refine gd_f ?_ ?_) <;> (intro h; have hb := h; (try simp only [nf] at h); simp (disch := omega) only [go_sem, hE, hH, hb]; (try clear hb))) | ((with_reducible refine And.intro ?_ ?_); · omega) | ((first | refine ok_view ?_ | refine cvA (hi) ?_); simp (disch := omega) only [go_sem, hE, hH]) | (refine jn _ ?_ ?_) | (with_reducible refine both ?_ ?_) | (with_reducible refine And.intro ?_ ?_) | (refine fin_eq ?_; (try (simp (disch := omega) only [go_sem, hE, hH])); first | done | rfl) | (simp (disch := omega) only [go_sem, hE, hH]) | ((first | apply noMLL_sE | apply pk_sE) <;> (simp only [go_sem, hE, hH]; done)) | (simp only [go_sem, hE, hH]) | fail)
    all_goals (rw [e]; try rfl)
  | true =>
    rw [hc] at hi
    obtain ⟨g0, g1, g2, g3, g4⟩ := hasN_at hc
    have hk : i.toNat < n.Under.length := by omega
    have hb := within_ok b 1 50
    have hx := due_of g0 hk
    cases hr : rng b 1 50 with
    | false =>
      rw [hr] at hb
      have e : delN n i b = (zeroN, false) := by simp [delN, hr]
      refine fn_in h_impl_DelayOne r_impl_DelayOne ⟨by simp only [go_sem], fun E hE hH => ?_⟩; simp only [go_sem] at hE hH; simp only [go_sem, hE, hH, c_impl_DelayOne]
      repeat' (first | ((with_reducible first | refine gd_t ?_ ?_ | refine gd_f ?_ ?_) <;> (intro h; have hb := h; (try simp only [nf] at h); simp (disch := omega) only [go_sem, hE, hH, hb]; (try clear hb))) | ((with_reducible refine And.intro ?_ ?_); · omega) | ((first | refine ok_view ?_ | refine cvA (hi) ?_ | refine cvA (hb) ?_); simp (disch := omega) only [go_sem, hE, hH]) | (refine jn _ ?_ ?_) | (with_reducible refine both ?_ ?_) | (with_reducible refine And.intro ?_ ?_) | (refine fin_eq ?_; (try (simp (disch := omega) only [go_sem, hE, hH])); first | done | rfl) | (simp (disch := omega) only [go_sem, hE, hH]) | ((first | apply noMLL_sE | apply pk_sE) <;> (simp only [go_sem, hE, hH]; done)) | (simp only [go_sem, hE, hH]) | fail)
      all_goals (rw [e]; try rfl)
    | true =>
      rw [hr] at hb
      have hr' := rng_iff.1 hr
      have e : delN n i b = ifN (withN n (laidL (outL n.Under i.toNat) (lateL (nth n.Under i.toNat) b))) := by simp [delN, hc, hr]
      have hol := outL_len hk
      have hw := withUnder_ok n (laidL (outL n.Under i.toNat) (lateL (nth n.Under i.toNat) b)) (by omega) (by omega) (by rw [laidL_len]; omega)
      have hD := Delete_Letter_ok n.Under i (i + 1) g1 (by omega) (by omega) (by omega)
      rw [show (i + 1).toNat = i.toNat + 1 by omega] at hD
      change ACall Tryz.prog _ _ (fun r a => r = .sl true 4 ((outL n.Under i.toNat).map (Letter.row true)) ∧ a = _) at hD
      have hL := laid_ok (outL n.Under i.toNat) (lateL (nth n.Under i.toNat) b) (by omega)
      simp only [lateL, Letter.row_eq] at hL
      refine fn_in h_impl_DelayOne r_impl_DelayOne ⟨by simp only [go_sem], fun E hE hH => ?_⟩; simp only [go_sem] at hE hH; simp only [go_sem, hE, hH, c_impl_DelayOne]
      repeat' (first | ((with_reducible first | refine gd_t ?_ ?_ | refine gd_f ?_ ?_) <;> (intro h; have hb := h; (try simp only [nf] at h); simp (disch := omega) only [go_sem, hE, hH, hb]; (try clear hb))) | ((with_reducible refine And.intro ?_ ?_); · omega) | (refine ok_lend [true, false, false] ?_; simp (disch := omega) only [go_sem, hE, hH]; refine cmA (hD) ?_; simp (disch := omega) only [go_sem, hE, hH]) | (refine ok_lend [false, true] ?_; simp (disch := omega) only [go_sem, hE, hH]; refine cmA (hw) ?_; simp (disch := omega) only [go_sem, hE, hH]) | ((first | refine ok_view ?_ | refine cvA (hi) ?_ | refine cvA (hb) ?_ | refine cvA (Clone_Letter_ok _ (by omega)) ?_ | refine cvA (hL) ?_); simp (disch := omega) only [go_sem, hE, hH]) | (with_reducible apply jn) | (with_reducible apply both) | (with_reducible refine And.intro ?_ ?_) | ((with_reducible apply fin_eq); (try (simp (disch := omega) only [go_sem, hE, hH])); first | done | rfl) | (simp (disch := omega) only [go_sem, hE, hH]) | ((first | apply noMLL_sE | apply pk_sE) <;> (simp only [go_sem, hE, hH]; done)) | (simp only [go_sem, hE, hH]) | fail)
      all_goals try omega
      all_goals first | rw [e] | trace_state
set_option maxHeartbeats 1000000 in
theorem sDelayOne_ok (n : Net) (i b : Int) (hm : n.Homes.length ≤ maxLen) : ACall Tryz.prog n_spec_DelayOne [.agg (Net.row false n), i64 i, i64 b] (fun r _ => r = .tup [.agg (Net.row true (delN n i b).1), bl (delN n i b).2]) := by
  have hmx := mx_eq
  have hi := l7Has_ok n i hm
  change ACall Tryz.prog _ _ (fun r _ => r = bl (hasN n i)) at hi
  cases hc : hasN n i with
  | false =>
    rw [hc] at hi
    have e : delN n i b = (zeroN, false) := by simp [delN, hc]
    refine fn_in h_spec_DelayOne r_spec_DelayOne ⟨by simp only [go_sem], fun E hE hH => ?_⟩; simp only [go_sem] at hE hH; simp only [go_sem, hE, hH, c_spec_DelayOne]
    repeat' (first | ((with_reducible first | refine gd_t ?_ ?_ | refine gd_f ?_ ?_) <;> (intro h; have hb := h; (try simp only [nf] at h); simp (disch := omega) only [go_sem, hE, hH, hb]; (try clear hb))) | ((with_reducible refine And.intro ?_ ?_); · omega) | ((first | refine ok_view ?_ | refine cvA (hi) ?_); simp (disch := omega) only [go_sem, hE, hH]) | (refine jn _ ?_ ?_) | (with_reducible refine both ?_ ?_) | (with_reducible refine And.intro ?_ ?_) | (refine fin_eq ?_; (try (simp (disch := omega) only [go_sem, hE, hH])); first | done | rfl) | (simp (disch := omega) only [go_sem, hE, hH]) | ((first | apply noMLL_sE | apply pk_sE) <;> (simp only [go_sem, hE, hH]; done)) | (simp only [go_sem, hE, hH]) | fail)
    all_goals (rw [e]; try rfl)
  | true =>
    rw [hc] at hi
    obtain ⟨g0, g1, g2, g3, g4⟩ := hasN_at hc
    have hk : i.toNat < n.Under.length := by omega
    have hb := l1In_ok b 1 50
    have hx := due_of g0 hk
    cases hr : rng b 1 50 with
    | false =>
      rw [hr] at hb
      have e : delN n i b = (zeroN, false) := by simp [delN, hr]
      refine fn_in h_spec_DelayOne r_spec_DelayOne ⟨by simp only [go_sem], fun E hE hH => ?_⟩; simp only [go_sem] at hE hH; simp only [go_sem, hE, hH, c_spec_DelayOne]
      repeat' (first | ((with_reducible first | refine gd_t ?_ ?_ | refine gd_f ?_ ?_) <;> (intro h; have hb := h; (try simp only [nf] at h); simp (disch := omega) only [go_sem, hE, hH, hb]; (try clear hb))) | ((with_reducible refine And.intro ?_ ?_); · omega) | ((first | refine ok_view ?_ | refine cvA (hi) ?_ | refine cvA (hb) ?_); simp (disch := omega) only [go_sem, hE, hH]) | (refine jn _ ?_ ?_) | (with_reducible refine both ?_ ?_) | (with_reducible refine And.intro ?_ ?_) | (refine fin_eq ?_; (try (simp (disch := omega) only [go_sem, hE, hH])); first | done | rfl) | (simp (disch := omega) only [go_sem, hE, hH]) | ((first | apply noMLL_sE | apply pk_sE) <;> (simp only [go_sem, hE, hH]; done)) | (simp only [go_sem, hE, hH]) | fail)
      all_goals (rw [e]; try rfl)
    | true =>
      rw [hr] at hb
      have hr' := rng_iff.1 hr
      have e : delN n i b = ifN (withN n (laidL (outL n.Under i.toNat) (lateL (nth n.Under i.toNat) b))) := by simp [delN, hc, hr]
      have hol := outL_len hk
      have hL := l7In_ok (outL n.Under i.toNat) (lateL (nth n.Under i.toNat) b) (by omega)
      simp only [lateL, Letter.row_eq] at hL
      refine fn_in h_spec_DelayOne r_spec_DelayOne ⟨by simp only [go_sem], fun E hE hH => ?_⟩; simp only [go_sem] at hE hH; simp only [go_sem, hE, hH, c_spec_DelayOne]
      repeat' (first | ((with_reducible first | refine gd_t ?_ ?_ | refine gd_f ?_ ?_) <;> (intro h; have hb := h; (try simp only [nf] at h); simp (disch := omega) only [go_sem, hE, hH, hb]; (try clear hb))) | ((with_reducible refine And.intro ?_ ?_); · omega) | (refine ok_lend [true] ?_; simp (disch := omega) only [go_sem, hE, hH]; refine cmA (l7If_ok (withN n (laidL (outL n.Under i.toNat) (lateL (nth n.Under i.toNat) b))) hm) ?_; simp (disch := omega) only [go_sem, hE, hH]) | ((first | refine ok_view ?_ | refine cvA (hi) ?_ | refine cvA (hb) ?_ | refine cvA (l7Out_ok n.Under i g1 (by omega) (by omega)) ?_ | refine cvA (hL) ?_ | refine cvA (l7Own_ok n _ (by omega) (by rw [laidL_len]; omega)) ?_); simp (disch := omega) only [go_sem, hE, hH]) | (with_reducible apply jn) | (with_reducible apply both) | (with_reducible refine And.intro ?_ ?_) | ((with_reducible apply fin_eq); (try (simp (disch := omega) only [go_sem, hE, hH])); first | done | rfl) | (simp (disch := omega) only [go_sem, hE, hH]) | ((first | apply noMLL_sE | apply pk_sE) <;> (simp only [go_sem, hE, hH]; done)) | (simp only [go_sem, hE, hH]) | fail)
      all_goals try omega
      all_goals first | rw [e] | trace_state
def mostI (a b : Int) : Int := if a > b then a else b
def tripN (n : Net) (f t : Int) : Int := 1 + n.Far * mostI (nth n.Homes f.toNat - nth n.Homes t.toNat) (0 - (nth n.Homes f.toNat - nth n.Homes t.toNat))
theorem tripN_rng {n : Net} (h : goodNet n = true) {f t : Int} (hf0 : 0 ≤ f) (hf : f < n.Homes.length) (ht0 : 0 ≤ t) (ht : t < n.Homes.length) :
    (0 ≤ nth n.Homes f.toNat ∧ nth n.Homes f.toNat ≤ 2) ∧ (0 ≤ nth n.Homes t.toNat ∧ nth n.Homes t.toNat ≤ 2) ∧ (0 ≤ n.Far ∧ n.Far ≤ 20) ∧ (0 ≤ n.Now ∧ n.Now ≤ 100000) ∧
      (0 ≤ n.Far * mostI (nth n.Homes f.toNat - nth n.Homes t.toNat) (0 - (nth n.Homes f.toNat - nth n.Homes t.toNat)) ∧ n.Far * mostI (nth n.Homes f.toNat - nth n.Homes t.toNat) (0 - (nth n.Homes f.toNat - nth n.Homes t.toNat)) ≤ 40) := by
  simp only [goodNet, goodHomes, Bool.and_eq_true, rng_iff, allR, allN_iff] at h
  obtain ⟨⟨⟨h1, ⟨h2, h3⟩, h4⟩, h5⟩, h6⟩ := h
  have a1 := h3 f.toNat (by omega)
  have a2 := h3 t.toNat (by omega)
  refine ⟨a1, a2, h4, h1, ?_⟩
  have hm : mostI (nth n.Homes f.toNat - nth n.Homes t.toNat) (0 - (nth n.Homes f.toNat - nth n.Homes t.toNat)) = 0 ∨ mostI (nth n.Homes f.toNat - nth n.Homes t.toNat) (0 - (nth n.Homes f.toNat - nth n.Homes t.toNat)) = 1 ∨ mostI (nth n.Homes f.toNat - nth n.Homes t.toNat) (0 - (nth n.Homes f.toNat - nth n.Homes t.toNat)) = 2 := by
    unfold mostI; split <;> omega
  rcases hm with hm | hm | hm <;> rw [hm] <;> omega
def sentL (n : Net) (f t : Int) (b : ByteArray) : Letter := ⟨f, t, n.Now + tripN n f t, b⟩
def sendC (n : Net) (f t : Int) : Bool := goodNet n && rng f 0 ((n.Homes.length : Int) - 1) && rng t 0 ((n.Homes.length : Int) - 1) && !decide (f = t)
def sendN (n : Net) (f t : Int) (b : ByteArray) : Net × Bool := if sendC n f t then ifN (withN n (laidL n.Under (sentL n f t b))) else (zeroN, false)
theorem posL_spec {u : List Letter} (d : Int) : (∀ i, i < posL u d → (nth u i).Due ≤ d) ∧ (posL u d < u.length → d < (nth u (posL u d)).Due) := by
  have key : ∀ n, n ≤ u.length → (allN (fun i => !decide (d < (nth u i).Due)) n = true ∨ ∃ j, j < n ∧ d < (nth u j).Due ∧ allN (fun i => !decide (d < (nth u i).Due)) j = true) := by
    intro n
    induction n with
    | zero => intro _; exact .inl rfl
    | succ n ih =>
      intro hn
      rcases ih (by omega) with h | ⟨j, h1, h2, h3⟩
      · by_cases hp : d < (nth u n).Due
        · exact .inr ⟨n, by omega, hp, h⟩
        · exact .inl (allN_step h (by simpa using hp))
      · exact .inr ⟨j, by omega, h2, h3⟩
  rcases key u.length (Nat.le_refl _) with h | ⟨j, h1, h2, h3⟩
  · have e := posL_end h
    refine ⟨fun i hi => ?_, fun hlt => by omega⟩
    have := allN_iff.1 h i (by omega)
    simpa using this
  · have e := posL_at h1 h3 h2
    refine ⟨fun i hi => ?_, fun _ => by rw [e]; exact h2⟩
    have := allN_iff.1 h3 i (by omega)
    simpa using this
theorem goodNet_laid {n : Net} (h : goodNet n = true) (x : Letter) : goodNet (withN n (laidL n.Under x)) = (letOk n.Homes.length x && !decide (60 ≤ n.Under.length)) := by
  have h0 := h
  rw [goodNet_u] at h ⊢
  simp only [Bool.and_eq_true, decide_eq_true_eq, goodU_iff] at h
  obtain ⟨⟨h1, h2⟩, h3, h4⟩ := h
  have e1 : (withN n (laidL n.Under x)).Homes = n.Homes := rfl
  have e2 : (withN n (laidL n.Under x)).Far = n.Far := rfl
  have e3 : (withN n (laidL n.Under x)).Now = n.Now := rfl
  have e4 : (withN n (laidL n.Under x)).Under = laidL n.Under x := rfl
  rw [e1, e2, e3, e4, h1.1, h1.2, laidL_len]
  simp only [Bool.true_and]
  obtain ⟨p1, p2⟩ := posL_spec (u := n.Under) x.Due
  have pl := posL_le n.Under x.Due
  have hU : goodU n.Homes.length (laidL n.Under x) = letOk n.Homes.length x := by
    rw [Bool.eq_iff_iff, goodU_iff]
    constructor
    · intro hh
      exact hh.1 x (by simp [laidL])
    · intro hx
      refine ⟨fun y hy => ?_, ?_⟩
      · simp only [laidL, List.mem_append, List.mem_singleton] at hy
        rcases hy with (hy | hy) | hy
        · exact h3 y (List.mem_of_mem_take hy)
        · rw [hy]; exact hx
        · exact h3 y (List.mem_of_mem_drop hy)
      · have hpw := h4
        rw [List.pairwise_iff_getElem] at hpw
        rw [laidL, List.append_assoc, List.pairwise_append]
        refine ⟨h4.sublist (List.take_sublist _ _), ?_, ?_⟩
        · rw [List.singleton_append, List.pairwise_cons]
          refine ⟨fun y hy => ?_, h4.sublist (List.drop_sublist _ _)⟩
          obtain ⟨i, hi, rfl⟩ := List.getElem_of_mem hy
          simp only [List.length_drop] at hi
          have q := p2 (by omega)
          rw [nth_lt (show posL n.Under x.Due < n.Under.length by omega)] at q
          rw [List.getElem_drop]
          by_cases hz : i = 0
          · subst hz; simp only [Nat.add_zero]; omega
          · have := hpw (posL n.Under x.Due) (posL n.Under x.Due + i) (by omega) (by omega) (by omega)
            omega
        · intro y hy z hz
          obtain ⟨i, hi, rfl⟩ := List.getElem_of_mem hy
          simp only [List.length_take] at hi
          have q := p1 i (by omega)
          rw [nth_lt (show i < n.Under.length by omega)] at q
          rw [List.getElem_take]
          simp only [List.singleton_append, List.mem_cons] at hz
          rcases hz with rfl | hz
          · exact q
          · obtain ⟨j, hj, rfl⟩ := List.getElem_of_mem hz
            simp only [List.length_drop] at hj
            rw [List.getElem_drop]
            have := hpw i (posL n.Under x.Due + j) (by omega) (by omega) (by omega)
            exact this
  rw [hU]
  have : decide (((n.Under.length + 1 : Nat) : Int) ≤ 60) = !decide (60 ≤ n.Under.length) := by
    by_cases hc : 60 ≤ n.Under.length
    · simp [hc]; omega
    · simp [hc]; omega
  rw [this, Bool.and_comm]
theorem l1Most_ok (a b : Int) : ACall Tryz.prog n_spec_l1Most [i64 a, i64 b] (fun r _ => r = i64 (mostI a b)) := by
  refine fn_in h_spec_l1Most r_spec_l1Most ⟨by simp only [go_sem], fun E hE hH => ?_⟩; simp only [go_sem] at hE hH; simp only [go_sem, hE, hH, c_spec_l1Most]
  repeat' (first | ((with_reducible first | refine gd_t ?_ ?_ | refine gd_f ?_ ?_) <;> (intro h; have hb := h; (try simp only [nf] at h); simp (disch := omega) only [go_sem, hE, hH, hb]; (try clear hb))) | ((with_reducible refine And.intro ?_ ?_); · omega) | (refine jn _ ?_ ?_) | (with_reducible refine both ?_ ?_) | (with_reducible refine And.intro ?_ ?_) | (refine fin_eq ?_; (try (simp (disch := omega) only [go_sem, hE, hH])); first | done | rfl) | (simp (disch := omega) only [go_sem, hE, hH]) | ((first | apply noMLL_sE | apply pk_sE) <;> (simp only [go_sem, hE, hH]; done)) | (simp only [go_sem, hE, hH]) | fail)
  all_goals (simp only [mostI]; first | rw [if_pos (by omega)] | rw [if_neg (by omega)])
theorem trip_ok (n : Net) (f t : Int) (h : goodNet n = true) (hf0 : 0 ≤ f) (hf : f < n.Homes.length) (ht0 : 0 ≤ t) (ht : t < n.Homes.length) : ACall Tryz.prog n_impl_Net_trip [.agg (Net.row false n), i64 f, i64 t] (fun r _ => r = i64 (tripN n f t)) := by
  have hmx := mx_eq
  obtain ⟨b1, b2, b3, b4, b5⟩ := tripN_rng h hf0 hf ht0 ht
  have k1 : f.toNat < n.Homes.length := by omega
  have k2 : t.toNat < n.Homes.length := by omega
  have hm : (if 0 - (nth n.Homes f.toNat - nth n.Homes t.toNat) > nth n.Homes f.toNat - nth n.Homes t.toNat then 0 - (nth n.Homes f.toNat - nth n.Homes t.toNat) else nth n.Homes f.toNat - nth n.Homes t.toNat) = mostI (nth n.Homes f.toNat - nth n.Homes t.toNat) (0 - (nth n.Homes f.toNat - nth n.Homes t.toNat)) := by
    unfold mostI; split <;> split <;> omega
  refine fn_in h_impl_Net_trip r_impl_Net_trip ⟨by simp only [go_sem], fun E hE hH => ?_⟩; simp only [go_sem] at hE hH; simp only [go_sem, hE, hH, c_impl_Net_trip]
  repeat' (first | ((with_reducible first | refine gd_t ?_ ?_ | refine gd_f ?_ ?_) <;> (intro h; have hb := h; (try simp only [nf] at h); simp (disch := omega) only [go_sem, hE, hH, hm, hb]; (try clear hb))) | ((with_reducible refine And.intro ?_ ?_); · omega) | (with_reducible apply jn) | (with_reducible apply both) | (with_reducible refine And.intro ?_ ?_) | ((with_reducible apply fin_eq); (try (simp (disch := omega) only [go_sem, hE, hH, hm])); first | done | rfl) | (simp (disch := omega) only [go_sem, hE, hH, hm]) | ((first | apply noMLL_sE | apply pk_sE) <;> (simp only [go_sem, hE, hH, hm]; done)) | (simp only [go_sem, hE, hH, hm]) | fail)
  all_goals rfl
theorem l7Trip_ok (n : Net) (f t : Int) (h : goodNet n = true) (hf0 : 0 ≤ f) (hf : f < n.Homes.length) (ht0 : 0 ≤ t) (ht : t < n.Homes.length) : ACall Tryz.prog n_spec_l7Trip [.agg (Net.row false n), i64 f, i64 t] (fun r _ => r = i64 (tripN n f t)) := by
  have hmx := mx_eq
  obtain ⟨b1, b2, b3, b4, b5⟩ := tripN_rng h hf0 hf ht0 ht
  have k1 : f.toNat < n.Homes.length := by omega
  have k2 : t.toNat < n.Homes.length := by omega
  refine fn_in h_spec_l7Trip r_spec_l7Trip ⟨by simp only [go_sem], fun E hE hH => ?_⟩; simp only [go_sem] at hE hH; simp only [go_sem, hE, hH, c_spec_l7Trip]
  repeat' (first | ((with_reducible first | refine gd_t ?_ ?_ | refine gd_f ?_ ?_) <;> (intro h; have hb := h; (try simp only [nf] at h); simp (disch := omega) only [go_sem, hE, hH, hb]; (try clear hb))) | ((with_reducible refine And.intro ?_ ?_); · omega) | ((first | refine ok_view ?_ | refine cvA (l1Most_ok _ _) ?_); simp (disch := omega) only [go_sem, hE, hH]) | (with_reducible apply jn) | (with_reducible apply both) | (with_reducible refine And.intro ?_ ?_) | ((with_reducible apply fin_eq); (try (simp (disch := omega) only [go_sem, hE, hH])); first | done | rfl) | (simp (disch := omega) only [go_sem, hE, hH]) | ((first | apply noMLL_sE | apply pk_sE) <;> (simp only [go_sem, hE, hH]; done)) | (simp only [go_sem, hE, hH]) | fail)
  all_goals rfl
set_option maxHeartbeats 2000000 in
theorem sent_ok (n : Net) (f t : Int) (b : ByteArray) (hg : goodNet n = true) (hm : n.Homes.length ≤ maxLen) : ACall Tryz.prog n_impl_Net_sent [.agg (Net.row false n), i64 f, i64 t, str b] (fun r _ => r = .tup [.agg (Net.row true (sendN n f t b).1), bl (sendN n f t b).2]) := by
  have hmx := mx_eq
  have i1 := isNode_ok n f hm
  have i2 := isNode_ok n t hm
  cases h1 : rng f 0 ((n.Homes.length : Int) - 1) with
  | false =>
    rw [h1] at i1
    have e : sendN n f t b = (zeroN, false) := by simp [sendN, sendC, h1]
    refine fn_in h_impl_Net_sent r_impl_Net_sent ⟨by simp only [go_sem], fun E hE hH => ?_⟩; simp only [go_sem] at hE hH; simp only [go_sem, hE, hH, c_impl_Net_sent]
    repeat' (first | ((with_reducible first | refine gd_t ?_ ?_ | refine gd_f ?_ ?_) <;> (intro h; have hb := h; (try simp only [nf] at h); simp (disch := omega) only [go_sem, hE, hH, hb]; (try clear hb))) | ((with_reducible refine And.intro ?_ ?_); · omega) | ((first | refine ok_view ?_ | refine cvA (i1) ?_); simp (disch := omega) only [go_sem, hE, hH]) | (refine jn _ ?_ ?_) | (with_reducible refine both ?_ ?_) | (with_reducible refine And.intro ?_ ?_) | (refine fin_eq ?_; (try (simp (disch := omega) only [go_sem, hE, hH])); first | done | rfl) | (simp (disch := omega) only [go_sem, hE, hH]) | ((first | apply noMLL_sE | apply pk_sE) <;> (simp only [go_sem, hE, hH]; done)) | (simp only [go_sem, hE, hH]) | fail)
    all_goals (rw [e]; try rfl)
  | true =>
    rw [h1] at i1
    have h1' := rng_iff.1 h1
    cases h2 : rng t 0 ((n.Homes.length : Int) - 1) with
    | false =>
      rw [h2] at i2
      have e : sendN n f t b = (zeroN, false) := by simp [sendN, sendC, h2]
      refine fn_in h_impl_Net_sent r_impl_Net_sent ⟨by simp only [go_sem], fun E hE hH => ?_⟩; simp only [go_sem] at hE hH; simp only [go_sem, hE, hH, c_impl_Net_sent]
      repeat' (first | ((with_reducible first | refine gd_t ?_ ?_ | refine gd_f ?_ ?_) <;> (intro h; have hb := h; (try simp only [nf] at h); simp (disch := omega) only [go_sem, hE, hH, hb]; (try clear hb))) | ((with_reducible refine And.intro ?_ ?_); · omega) | ((first | refine ok_view ?_ | refine cvA (i1) ?_ | refine cvA (i2) ?_); simp (disch := omega) only [go_sem, hE, hH]) | (refine jn _ ?_ ?_) | (with_reducible refine both ?_ ?_) | (with_reducible refine And.intro ?_ ?_) | (refine fin_eq ?_; (try (simp (disch := omega) only [go_sem, hE, hH])); first | done | rfl) | (simp (disch := omega) only [go_sem, hE, hH]) | ((first | apply noMLL_sE | apply pk_sE) <;> (simp only [go_sem, hE, hH]; done)) | (simp only [go_sem, hE, hH]) | fail)
      all_goals (rw [e]; try rfl)
    | true =>
      rw [h2] at i2
      have h2' := rng_iff.1 h2
      by_cases hft : f = t
      · have e : sendN n f t b = (zeroN, false) := by simp [sendN, sendC, hft]
        subst hft
        refine fn_in h_impl_Net_sent r_impl_Net_sent ⟨by simp only [go_sem], fun E hE hH => ?_⟩; simp only [go_sem] at hE hH; simp only [go_sem, hE, hH, c_impl_Net_sent]
        repeat' (first | ((with_reducible first | refine gd_t ?_ ?_ | refine gd_f ?_ ?_) <;> (intro h; have hb := h; (try simp only [nf] at h); simp (disch := omega) only [go_sem, hE, hH, hb]; (try clear hb))) | ((with_reducible refine And.intro ?_ ?_); · omega) | ((first | refine ok_view ?_ | refine cvA (i1) ?_ | refine cvA (i2) ?_); simp (disch := omega) only [go_sem, hE, hH]) | (with_reducible apply jn) | (with_reducible apply both) | (with_reducible refine And.intro ?_ ?_) | ((with_reducible apply fin_eq); (try (simp (disch := omega) only [go_sem, hE, hH])); first | done | rfl) | (simp (disch := omega) only [go_sem, hE, hH]) | ((first | apply noMLL_sE | apply pk_sE) <;> (simp only [go_sem, hE, hH]; done)) | (simp only [go_sem, hE, hH]) | fail)
        all_goals (rw [e]; try rfl)
      · have hC : sendC n f t = true := by simp [sendC, hg, h1, h2, hft]
        have e : sendN n f t b = ifN (withN n (laidL n.Under (sentL n f t b))) := if_pos hC
        have gl := goodNet_len hg
        obtain ⟨b1, b2, b3, b4, b5⟩ := tripN_rng hg h1'.1 (by omega) h2'.1 (by omega)
        have bt : 1 ≤ tripN n f t ∧ tripN n f t ≤ 41 := by unfold tripN; omega
        have hgl := goodNet_laid hg (sentL n f t b)
        have hl := isLetter_ok n (sentL n f t b) hm
        have hy := laid_ok n.Under (sentL n f t b) (by omega)
        simp only [sentL, Letter.row_eq] at hl hy
        have ez : goodNet (withN n (laidL n.Under (sentL n f t b))) = false → sendN n f t b = (zeroN, false) := fun hh => by rw [e, ifN, hh]; rfl
        have et : goodNet (withN n (laidL n.Under (sentL n f t b))) = true → sendN n f t b = (withN n (laidL n.Under (sentL n f t b)), true) := fun hh => by rw [e, ifN, hh]; rfl
        refine fn_in h_impl_Net_sent r_impl_Net_sent ⟨by simp only [go_sem], fun E hE hH => ?_⟩; simp only [go_sem] at hE hH; simp only [go_sem, hE, hH, c_impl_Net_sent]
        repeat' (first | ((with_reducible first | refine gd_t ?_ ?_ | refine gd_f ?_ ?_) <;> (intro h; have hb := h; (try simp only [nf] at h); simp (disch := omega) only [go_sem, hE, hH, hft, hb]; (try clear hb))) | ((with_reducible refine And.intro ?_ ?_); · omega) | ((first | refine ok_view ?_ | refine cvA (i1) ?_ | refine cvA (i2) ?_ | refine cvA (trip_ok n f t hg h1'.1 (by omega) h2'.1 (by omega)) ?_ | refine cvA (hl) ?_ | refine cvA (hy) ?_ | refine cvA (Clone_Int_ok _ (by omega)) ?_); simp (disch := omega) only [go_sem, hE, hH, hft]) | (with_reducible apply jn) | (with_reducible apply both) | (with_reducible refine And.intro ?_ ?_) | ((with_reducible apply fin_eq); (try (simp (disch := omega) only [go_sem, hE, hH, hft])); first | done | rfl) | (simp (disch := omega) only [go_sem, hE, hH, hft]) | ((first | apply noMLL_sE | apply pk_sE) <;> (simp only [go_sem, hE, hH, hft]; done)) | (simp only [go_sem, hE, hH, hft]) | fail)
        all_goals try omega
        all_goals first | (rw [ez (by rw [hgl, (show letOk n.Homes.length (sentL n f t b) = false from h)]; rfl)]; try rfl; done) | (rw [ez (by rw [hgl, decide_eq_true (by omega)]; simp)]; try rfl; done) | (rw [et (by rw [hgl, (show letOk n.Homes.length (sentL n f t b) = true by (show letOk n.Homes.length ⟨f, t, n.Now + tripN n f t, b⟩ = true); assumption), decide_eq_false (by omega)]; rfl)]; try rfl; done)
set_option maxHeartbeats 2000000 in
theorem sSendTo_ok (n : Net) (f t : Int) (b : ByteArray) (hm : n.Homes.length ≤ maxLen) : ACall Tryz.prog n_spec_SendTo [.agg (Net.row false n), i64 f, i64 t, str b] (fun r _ => r = .tup [.agg (Net.row true (sendN n f t b).1), bl (sendN n f t b).2]) := by
  have hmx := mx_eq
  have hi := l7Good_ok n hm
  cases hg : goodNet n with
  | false =>
    rw [hg] at hi
    have e : sendN n f t b = (zeroN, false) := by simp [sendN, sendC, hg]
    refine fn_in h_spec_SendTo r_spec_SendTo ⟨by simp only [go_sem], fun E hE hH => ?_⟩; simp only [go_sem] at hE hH; simp only [go_sem, hE, hH, c_spec_SendTo]
    repeat' (first | ((with_reducible first | refine gd_t ?_ ?_ | refine gd_f ?_ ?_) <;> (intro h; have hb := h; (try simp only [nf] at h); simp (disch := omega) only [go_sem, hE, hH, hb]; (try clear hb))) | ((with_reducible refine And.intro ?_ ?_); · omega) | ((first | refine ok_view ?_ | refine cvA (hi) ?_); simp (disch := omega) only [go_sem, hE, hH]) | (refine jn _ ?_ ?_) | (with_reducible refine both ?_ ?_) | (with_reducible refine And.intro ?_ ?_) | (refine fin_eq ?_; (try (simp (disch := omega) only [go_sem, hE, hH])); first | done | rfl) | (simp (disch := omega) only [go_sem, hE, hH]) | ((first | apply noMLL_sE | apply pk_sE) <;> (simp only [go_sem, hE, hH]; done)) | (simp only [go_sem, hE, hH]) | fail)
    all_goals (rw [e]; try rfl)
  | true =>
    rw [hg] at hi
    have i1 := l7Node_ok n f hm
    have i2 := l7Node_ok n t hm
    cases h1 : rng f 0 ((n.Homes.length : Int) - 1) with
    | false =>
      rw [h1] at i1
      have e : sendN n f t b = (zeroN, false) := by simp [sendN, sendC, h1]
      refine fn_in h_spec_SendTo r_spec_SendTo ⟨by simp only [go_sem], fun E hE hH => ?_⟩; simp only [go_sem] at hE hH; simp only [go_sem, hE, hH, c_spec_SendTo]
      repeat' (first | ((with_reducible first | refine gd_t ?_ ?_ | refine gd_f ?_ ?_) <;> (intro h; have hb := h; (try simp only [nf] at h); simp (disch := omega) only [go_sem, hE, hH, hb]; (try clear hb))) | ((with_reducible refine And.intro ?_ ?_); · omega) | ((first | refine ok_view ?_ | refine cvA (hi) ?_ | refine cvA (i1) ?_); simp (disch := omega) only [go_sem, hE, hH]) | (refine jn _ ?_ ?_) | (with_reducible refine both ?_ ?_) | (with_reducible refine And.intro ?_ ?_) | (refine fin_eq ?_; (try (simp (disch := omega) only [go_sem, hE, hH])); first | done | rfl) | (simp (disch := omega) only [go_sem, hE, hH]) | ((first | apply noMLL_sE | apply pk_sE) <;> (simp only [go_sem, hE, hH]; done)) | (simp only [go_sem, hE, hH]) | fail)
      all_goals (rw [e]; try rfl)
    | true =>
      rw [h1] at i1
      have h1' := rng_iff.1 h1
      cases h2 : rng t 0 ((n.Homes.length : Int) - 1) with
      | false =>
        rw [h2] at i2
        have e : sendN n f t b = (zeroN, false) := by simp [sendN, sendC, h2]
        refine fn_in h_spec_SendTo r_spec_SendTo ⟨by simp only [go_sem], fun E hE hH => ?_⟩; simp only [go_sem] at hE hH; simp only [go_sem, hE, hH, c_spec_SendTo]
        repeat' (first | ((with_reducible first | refine gd_t ?_ ?_ | refine gd_f ?_ ?_) <;> (intro h; have hb := h; (try simp only [nf] at h); simp (disch := omega) only [go_sem, hE, hH, hb]; (try clear hb))) | ((with_reducible refine And.intro ?_ ?_); · omega) | ((first | refine ok_view ?_ | refine cvA (hi) ?_ | refine cvA (i1) ?_ | refine cvA (i2) ?_); simp (disch := omega) only [go_sem, hE, hH]) | (refine jn _ ?_ ?_) | (with_reducible refine both ?_ ?_) | (with_reducible refine And.intro ?_ ?_) | (refine fin_eq ?_; (try (simp (disch := omega) only [go_sem, hE, hH])); first | done | rfl) | (simp (disch := omega) only [go_sem, hE, hH]) | ((first | apply noMLL_sE | apply pk_sE) <;> (simp only [go_sem, hE, hH]; done)) | (simp only [go_sem, hE, hH]) | fail)
        all_goals (rw [e]; try rfl)
      | true =>
        rw [h2] at i2
        have h2' := rng_iff.1 h2
        by_cases hft : f = t
        · have e : sendN n f t b = (zeroN, false) := by simp [sendN, sendC, hft]
          subst hft
          refine fn_in h_spec_SendTo r_spec_SendTo ⟨by simp only [go_sem], fun E hE hH => ?_⟩; simp only [go_sem] at hE hH; simp only [go_sem, hE, hH, c_spec_SendTo]
          repeat' (first | ((with_reducible first | refine gd_t ?_ ?_ | refine gd_f ?_ ?_) <;> (intro h; have hb := h; (try simp only [nf] at h); simp (disch := omega) only [go_sem, hE, hH, hb]; (try clear hb))) | ((with_reducible refine And.intro ?_ ?_); · omega) | ((first | refine ok_view ?_ | refine cvA (hi) ?_ | refine cvA (i1) ?_ | refine cvA (i2) ?_); simp (disch := omega) only [go_sem, hE, hH]) | (with_reducible apply jn) | (with_reducible apply both) | (with_reducible refine And.intro ?_ ?_) | ((with_reducible apply fin_eq); (try (simp (disch := omega) only [go_sem, hE, hH])); first | done | rfl) | (simp (disch := omega) only [go_sem, hE, hH]) | ((first | apply noMLL_sE | apply pk_sE) <;> (simp only [go_sem, hE, hH]; done)) | (simp only [go_sem, hE, hH]) | fail)
          all_goals (rw [e]; try rfl)
        · have hC : sendC n f t = true := by simp [sendC, hg, h1, h2, hft]
          have e : sendN n f t b = ifN (withN n (laidL n.Under (sentL n f t b))) := if_pos hC
          have gl := goodNet_len hg
          obtain ⟨b1, b2, b3, b4, b5⟩ := tripN_rng hg h1'.1 (by omega) h2'.1 (by omega)
          have bt : 1 ≤ tripN n f t ∧ tripN n f t ≤ 41 := by unfold tripN; omega
          have hy := l7In_ok n.Under (sentL n f t b) (by omega)
          simp only [sentL, Letter.row_eq] at hy
          refine fn_in h_spec_SendTo r_spec_SendTo ⟨by simp only [go_sem], fun E hE hH => ?_⟩; simp only [go_sem] at hE hH; simp only [go_sem, hE, hH, c_spec_SendTo]
          repeat' (first | ((with_reducible first | refine gd_t ?_ ?_ | refine gd_f ?_ ?_) <;> (intro h; have hb := h; (try simp only [nf] at h); simp (disch := omega) only [go_sem, hE, hH, hft, hb]; (try clear hb))) | ((with_reducible refine And.intro ?_ ?_); · omega) | (refine ok_lend [true] ?_; simp (disch := omega) only [go_sem, hE, hH, hft]; refine cmA (l7If_ok (withN n (laidL n.Under (sentL n f t b))) hm) ?_; simp (disch := omega) only [go_sem, hE, hH, hft]) | ((first | refine ok_view ?_ | refine cvA (hi) ?_ | refine cvA (i1) ?_ | refine cvA (i2) ?_ | refine cvA (l7Trip_ok n f t hg h1'.1 (by omega) h2'.1 (by omega)) ?_ | refine cvA (hy) ?_ | refine cvA (l7Own_ok n _ (by omega) (by rw [laidL_len]; omega)) ?_); simp (disch := omega) only [go_sem, hE, hH, hft]) | (with_reducible apply jn) | (with_reducible apply both) | (with_reducible refine And.intro ?_ ?_) | ((with_reducible apply fin_eq); (try (simp (disch := omega) only [go_sem, hE, hH, hft])); first | done | rfl) | (simp (disch := omega) only [go_sem, hE, hH, hft]) | ((first | apply noMLL_sE | apply pk_sE) <;> (simp only [go_sem, hE, hH, hft]; done)) | (simp only [go_sem, hE, hH, hft]) | fail)
          all_goals try omega
          all_goals (rw [e]; try rfl)
def vBigB (a : List Int) : Bool := decide ((a.length : Int) > 65536)
theorem vBig_ok (a : List Int) (ha : a.length ≤ maxLen) : ACall Tryz.prog n_laws_vBig [.sl false 1 (bys a)] (fun r _ => r = bl (vBigB a)) := by
  have hmx := mx_eq
  refine fn_in h_laws_vBig r_laws_vBig ⟨by simp only [go_sem], fun E hE hH => ?_⟩; simp only [go_sem] at hE hH; simp only [go_sem, hE, hH, c_laws_vBig]
  repeat' (first | ((with_reducible first | refine gd_t ?_ ?_ | refine gd_f ?_ ?_) <;> (intro h; have hb := h; (try simp only [nf] at h); simp (disch := omega) only [go_sem, hE, hH, hb]; (try clear hb))) | ((with_reducible refine And.intro ?_ ?_); · omega) | (with_reducible apply jn) | (with_reducible apply both) | (with_reducible refine And.intro ?_ ?_) | ((with_reducible apply fin_eq); (try (simp (disch := omega) only [go_sem, hE, hH])); first | done | rfl) | (simp (disch := omega) only [go_sem, hE, hH]) | ((first | apply noMLL_sE | apply pk_sE) <;> (simp only [go_sem, hE, hH]; done)) | (simp only [go_sem, hE, hH]) | fail)
  all_goals (simp_all [vBigB]; try omega)
theorem isB_ofv {a : List Int} (h : vBigB a = false) (ha : ∀ y ∈ a, 0 ≤ y ∧ y ≤ 255) : isB a := by
  simp only [vBigB, decide_eq_false_iff_not] at h
  refine ⟨by omega, fun y hy => ?_⟩
  have := ha y hy; omega
def vatF (c : List Int) (i : Int) : Int := if i < c.length then nth c i.toNat else (i * 7 + c.length).tmod 256
theorem vatF_rng {c : List Int} (hc : isB c) {i : Int} (h0 : 0 ≤ i) (h1 : i ≤ 1000) : 0 ≤ vatF c i ∧ vatF c i < 256 := by
  unfold vatF
  split
  · exact hc.2 _ (nth_mem (by omega))
  · exact ⟨Int.tmod_nonneg _ (by omega), Int.tmod_lt_of_pos _ (by omega)⟩
theorem vAt_ok (c : List Int) (hc : isB c) (i : Int) (h0 : 0 ≤ i) (h1 : i ≤ 1000) : ACall Tryz.prog n_laws_vAt [.sl false 1 (bys c), i64 i] (fun r _ => r = i64 (vatF c i)) := by
  have hmx := mx_eq
  have hcl := hc.1
  by_cases h : i < c.length
  · have hb := hc.2 _ (nth_mem (show i.toNat < c.length by omega))
    have e : vatF c i = nth c i.toNat := if_pos h
    refine fn_in h_laws_vAt r_laws_vAt ⟨by simp only [go_sem], fun E hE hH => ?_⟩; simp only [go_sem] at hE hH; simp only [go_sem, hE, hH, c_laws_vAt]
    repeat' (first | ((with_reducible first | refine gd_t ?_ ?_ | refine gd_f ?_ ?_) <;> (intro h; have hb := h; (try simp only [nf] at h); simp (disch := omega) only [go_sem, hE, hH, e, hb]; (try clear hb))) | ((with_reducible refine And.intro ?_ ?_); · omega) | (with_reducible apply jn) | (with_reducible apply both) | (with_reducible refine And.intro ?_ ?_) | ((with_reducible apply fin_eq); (try (simp (disch := omega) only [go_sem, hE, hH, e])); first | done | rfl) | (simp (disch := omega) only [go_sem, hE, hH, e]) | ((first | apply noMLL_sE | apply pk_sE) <;> (simp only [go_sem, hE, hH, e]; done)) | (simp only [go_sem, hE, hH, e]) | fail)
    all_goals first | omega | (exfalso; omega) | decide
  · have e : vatF c i = (i * 7 + c.length).tmod 256 := if_neg h
    refine fn_in h_laws_vAt r_laws_vAt ⟨by simp only [go_sem], fun E hE hH => ?_⟩; simp only [go_sem] at hE hH; simp only [go_sem, hE, hH, c_laws_vAt]
    repeat' (first | ((with_reducible first | refine gd_t ?_ ?_ | refine gd_f ?_ ?_) <;> (intro h; have hb := h; (try simp only [nf] at h); simp (disch := omega) only [go_sem, hE, hH, e, hb]; (try clear hb))) | ((with_reducible refine And.intro ?_ ?_); · omega) | (with_reducible apply jn) | (with_reducible apply both) | (with_reducible refine And.intro ?_ ?_) | ((with_reducible apply fin_eq); (try (simp (disch := omega) only [go_sem, hE, hH, e])); first | done | rfl) | (simp (disch := omega) only [go_sem, hE, hH, e]) | ((first | apply noMLL_sE | apply pk_sE) <;> (simp only [go_sem, hE, hH, e]; done)) | (simp only [go_sem, hE, hH, e]) | fail)
    all_goals first | omega | (exfalso; omega) | decide
theorem vInts_ok (a : List Int) (hl : a.length ≤ maxLen) : ACall Tryz.prog n_laws_vInts [.sl false 1 (ints a), .sl false 1 (ints a)] (fun r _ => r = bl true) := by
  have hmx := mx_eq
  refine fn_in h_laws_vInts r_laws_vInts ⟨by simp only [go_sem], fun E hE hH => ?_⟩; simp only [go_sem] at hE hH; simp only [go_sem, hE, hH, c_laws_vInts]
  repeat' (first | ((with_reducible first | refine gd_t ?_ ?_ | refine gd_f ?_ ?_) <;> (intro h; have hb := h; (try simp only [nf] at h); simp (disch := omega) only [go_sem, hE, hH, hb]; (try clear hb))) | ((with_reducible refine And.intro ?_ ?_); · omega) | (refine jn _ ?_ ?_) | (with_reducible refine both ?_ ?_) | (with_reducible refine And.intro ?_ ?_) | (refine fin_eq ?_; (try (simp (disch := omega) only [go_sem, hE, hH])); first | done | rfl) | (simp (disch := omega) only [go_sem, hE, hH]) | ((first | apply noMLL_sE | apply pk_sE) <;> (simp only [go_sem, hE, hH]; done)) | (simp only [go_sem, hE, hH]) | fail)
  refine loopNe a.length (fun j (_ : Unit) => ⟨[(0, .sl false 1 (ints a)), (1, .sl false 1 (ints a)), (5, i64 j)], []⟩) (fun j _ => True) () rfl trivial ?_
  intro j _ hj _
  try simp only [go_sem, hE, hH, c_laws_vInts_l1]
  first | refine gd_t (fun q1 => ?_) (fun q1 => ?_) | refine gd_f (fun q1 => ?_) (fun q1 => ?_)
  · have hb1 := q1
    simp only [nf] at q1
    try simp (disch := omega) only [go_sem, hE, hH, hb1]
    repeat' (first | ((with_reducible first | refine gd_t ?_ ?_ | refine gd_f ?_ ?_) <;> (intro h; have hb := h; (try simp only [nf] at h); simp (disch := omega) only [go_sem, hE, hH, hb]; (try clear hb))) | ((with_reducible refine And.intro ?_ ?_); · omega) | (refine jn _ ?_ ?_) | (with_reducible refine both ?_ ?_) | (with_reducible refine And.intro ?_ ?_) | (refine fin_eq ?_; (try (simp (disch := omega) only [go_sem, hE, hH])); first | done | rfl) | (simp (disch := omega) only [go_sem, hE, hH]) | ((first | apply noMLL_sE | apply pk_sE) <;> (simp only [go_sem, hE, hH]; done)) | (simp only [go_sem, hE, hH]) | fail)
    all_goals exact ⟨(), rfl⟩
  · try simp (disch := omega) only [go_sem, hE, hH, q1]
    repeat' (first | ((with_reducible first | refine gd_t ?_ ?_ | refine gd_f ?_ ?_) <;> (intro h; have hb := h; (try simp only [nf] at h); simp (disch := omega) only [go_sem, hE, hH, hb]; (try clear hb))) | ((with_reducible refine And.intro ?_ ?_); · omega) | (refine jn _ ?_ ?_) | (with_reducible refine both ?_ ?_) | (with_reducible refine And.intro ?_ ?_) | (refine fin_eq ?_; (try (simp (disch := omega) only [go_sem, hE, hH])); first | done | rfl) | (simp (disch := omega) only [go_sem, hE, hH]) | ((first | apply noMLL_sE | apply pk_sE) <;> (simp only [go_sem, hE, hH]; done)) | (simp only [go_sem, hE, hH]) | fail)
theorem vLetters_ok (a : List Letter) (hl : a.length ≤ maxLen) : ACall Tryz.prog n_laws_vLetters [.sl false 4 (a.map (Letter.row false)), .sl false 4 (a.map (Letter.row false))] (fun r _ => r = bl true) := by
  have hmx := mx_eq
  refine fn_in h_laws_vLetters r_laws_vLetters ⟨by simp only [go_sem], fun E hE hH => ?_⟩; simp only [go_sem] at hE hH; simp only [go_sem, hE, hH, c_laws_vLetters]
  repeat' (first | ((with_reducible first | refine gd_t ?_ ?_ | refine gd_f ?_ ?_) <;> (intro h; have hb := h; (try simp only [nf] at h); simp (disch := omega) only [go_sem, hE, hH, hb]; (try clear hb))) | ((with_reducible refine And.intro ?_ ?_); · omega) | (refine jn _ ?_ ?_) | (with_reducible refine both ?_ ?_) | (with_reducible refine And.intro ?_ ?_) | (refine fin_eq ?_; (try (simp (disch := omega) only [go_sem, hE, hH])); first | done | rfl) | (simp (disch := omega) only [go_sem, hE, hH]) | ((first | apply noMLL_sE | apply pk_sE) <;> (simp only [go_sem, hE, hH]; done)) | (simp only [go_sem, hE, hH]) | fail)
  refine loopNe a.length (fun j (_ : Unit) => ⟨[(0, .sl false 4 (a.map (Letter.row false))), (1, .sl false 4 (a.map (Letter.row false))), (5, i64 j)], []⟩) (fun j _ => True) () rfl trivial ?_
  intro j _ hj _
  try simp only [go_sem, hE, hH, c_laws_vLetters_l1]
  first | refine gd_t (fun q1 => ?_) (fun q1 => ?_) | refine gd_f (fun q1 => ?_) (fun q1 => ?_)
  · have hb1 := q1
    simp only [nf] at q1
    try simp (disch := omega) only [go_sem, hE, hH, hb1]
    repeat' (first | ((with_reducible first | refine gd_t ?_ ?_ | refine gd_f ?_ ?_) <;> (intro h; have hb := h; (try simp only [nf] at h); simp (disch := omega) only [go_sem, hE, hH, hb]; (try clear hb))) | ((with_reducible refine And.intro ?_ ?_); · omega) | (refine jn _ ?_ ?_) | (with_reducible refine both ?_ ?_) | (with_reducible refine And.intro ?_ ?_) | (refine fin_eq ?_; (try (simp (disch := omega) only [go_sem, hE, hH])); first | done | rfl) | (simp (disch := omega) only [go_sem, hE, hH]) | ((first | apply noMLL_sE | apply pk_sE) <;> (simp only [go_sem, hE, hH]; done)) | (simp only [go_sem, hE, hH]) | fail)
    all_goals exact ⟨(), rfl⟩
  · try simp (disch := omega) only [go_sem, hE, hH, q1]
    repeat' (first | ((with_reducible first | refine gd_t ?_ ?_ | refine gd_f ?_ ?_) <;> (intro h; have hb := h; (try simp only [nf] at h); simp (disch := omega) only [go_sem, hE, hH, hb]; (try clear hb))) | ((with_reducible refine And.intro ?_ ?_); · omega) | (refine jn _ ?_ ?_) | (with_reducible refine both ?_ ?_) | (with_reducible refine And.intro ?_ ?_) | (refine fin_eq ?_; (try (simp (disch := omega) only [go_sem, hE, hH])); first | done | rfl) | (simp (disch := omega) only [go_sem, hE, hH]) | ((first | apply noMLL_sE | apply pk_sE) <;> (simp only [go_sem, hE, hH]; done)) | (simp only [go_sem, hE, hH]) | fail)
theorem vNet_ok (n : Net) (h1 : n.Homes.length ≤ maxLen) (h2 : n.Under.length ≤ maxLen) : ACall Tryz.prog n_laws_vNet [.agg (Net.row false n), .agg (Net.row false n)] (fun r _ => r = bl true) := by
  have hmx := mx_eq
  refine fn_in h_laws_vNet r_laws_vNet ⟨by simp only [go_sem], fun E hE hH => ?_⟩; simp only [go_sem] at hE hH; simp only [go_sem, hE, hH, c_laws_vNet]
  repeat' (first | ((with_reducible first | refine gd_t ?_ ?_ | refine gd_f ?_ ?_) <;> (intro h; have hb := h; (try simp only [nf] at h); simp (disch := omega) only [go_sem, hE, hH, hb]; (try clear hb))) | ((with_reducible refine And.intro ?_ ?_); · omega) | ((first | refine ok_view ?_ | refine cvA (vInts_ok _ h1) ?_ | refine cvA (vLetters_ok _ h2) ?_); simp (disch := omega) only [go_sem, hE, hH]) | (with_reducible apply jn) | (with_reducible apply both) | (with_reducible refine And.intro ?_ ?_) | ((with_reducible apply fin_eq); (try (simp (disch := omega) only [go_sem, hE, hH])); first | done | rfl) | (simp (disch := omega) only [go_sem, hE, hH]) | ((first | apply noMLL_sE | apply pk_sE) <;> (simp only [go_sem, hE, hH]; done)) | (simp only [go_sem, hE, hH]) | fail)
def tickN (n : Net) : Net × Bool := if goodNet n && !decide (n.Now = 100000) then (⟨n.Now + 1, n.Homes, n.Far, n.Under⟩, true) else (zeroN, false)
theorem TickNet_ok (n : Net) (hm : n.Homes.length ≤ maxLen) : ACall Tryz.prog n_impl_TickNet [.agg (Net.row false n)] (fun r _ => r = .tup [.agg (Net.row true (tickN n).1), bl (tickN n).2]) := by
  have hmx := mx_eq
  cases h1 : goodNet n
  · have e : tickN n = (zeroN, false) := by simp [tickN, h1]
    refine fn_in h_impl_TickNet r_impl_TickNet ⟨by simp only [go_sem], fun E hE hH => ?_⟩; simp only [go_sem] at hE hH; simp only [go_sem, hE, hH, c_impl_TickNet]
    repeat' (first | ((with_reducible first | refine gd_t ?_ ?_ | refine gd_f ?_ ?_) <;> (intro h; have hb := h; (try simp only [nf] at h); simp (disch := omega) only [go_sem, hE, hH, h1, e, hb]; (try clear hb))) | ((with_reducible refine And.intro ?_ ?_); · omega) | ((first | refine ok_view ?_ | refine cvA (GoodNet_ok n hm) ?_); simp (disch := omega) only [go_sem, hE, hH, h1, e]) | (with_reducible apply jn) | (with_reducible apply both) | (with_reducible refine And.intro ?_ ?_) | ((with_reducible apply fin_eq); (try (simp (disch := omega) only [go_sem, hE, hH, h1, e])); first | done | rfl) | (simp (disch := omega) only [go_sem, hE, hH, h1, e]) | ((first | apply noMLL_sE | apply pk_sE) <;> (simp only [go_sem, hE, hH, h1, e]; done)) | (simp only [go_sem, hE, hH, h1, e]) | fail)
    all_goals rfl
  · have hl := goodNet_len h1
    have hw := h1
    simp only [goodNet, Bool.and_eq_true, rng_iff] at hw
    by_cases h2 : n.Now = 100000
    · have e : tickN n = (zeroN, false) := by simp [tickN, h2]
      refine fn_in h_impl_TickNet r_impl_TickNet ⟨by simp only [go_sem], fun E hE hH => ?_⟩; simp only [go_sem] at hE hH; simp only [go_sem, hE, hH, c_impl_TickNet]
      repeat' (first | ((with_reducible first | refine gd_t ?_ ?_ | refine gd_f ?_ ?_) <;> (intro h; have hb := h; (try simp only [nf] at h); simp (disch := omega) only [go_sem, hE, hH, h1, e, hb]; (try clear hb))) | ((with_reducible refine And.intro ?_ ?_); · omega) | ((first | refine ok_view ?_ | refine cvA (GoodNet_ok n hm) ?_ | refine cvA (copyNet_ok n (by omega) (by omega)) ?_); simp (disch := omega) only [go_sem, hE, hH, h1, e]) | (with_reducible apply jn) | (with_reducible apply both) | (with_reducible refine And.intro ?_ ?_) | ((with_reducible apply fin_eq); (try (simp (disch := omega) only [go_sem, hE, hH, h1, e])); first | done | rfl) | (simp (disch := omega) only [go_sem, hE, hH, h1, e]) | ((first | apply noMLL_sE | apply pk_sE) <;> (simp only [go_sem, hE, hH, h1, e]; done)) | (simp only [go_sem, hE, hH, h1, e]) | fail)
      all_goals first | rfl | (exfalso; omega)
    · have e : tickN n = (⟨n.Now + 1, n.Homes, n.Far, n.Under⟩, true) := by simp [tickN, h1, h2]
      refine fn_in h_impl_TickNet r_impl_TickNet ⟨by simp only [go_sem], fun E hE hH => ?_⟩; simp only [go_sem] at hE hH; simp only [go_sem, hE, hH, c_impl_TickNet]
      repeat' (first | ((with_reducible first | refine gd_t ?_ ?_ | refine gd_f ?_ ?_) <;> (intro h; have hb := h; (try simp only [nf] at h); simp (disch := omega) only [go_sem, hE, hH, h1, e, hb]; (try clear hb))) | ((with_reducible refine And.intro ?_ ?_); · omega) | ((first | refine ok_view ?_ | refine cvA (GoodNet_ok n hm) ?_ | refine cvA (copyNet_ok n (by omega) (by omega)) ?_); simp (disch := omega) only [go_sem, hE, hH, h1, e]) | (with_reducible apply jn) | (with_reducible apply both) | (with_reducible refine And.intro ?_ ?_) | ((with_reducible apply fin_eq); (try (simp (disch := omega) only [go_sem, hE, hH, h1, e])); first | done | rfl) | (simp (disch := omega) only [go_sem, hE, hH, h1, e]) | ((first | apply noMLL_sE | apply pk_sE) <;> (simp only [go_sem, hE, hH, h1, e]; done)) | (simp only [go_sem, hE, hH, h1, e]) | fail)
      all_goals (exfalso; omega)
def newN (h : List Int) (f : Int) : Net × Bool := if goodHomes h f then (⟨0, h, f, []⟩, true) else (zeroN, false)
theorem NewNet_ok (h : List Int) (f : Int) (hl : h.length ≤ 2 ^ 20) : ACall Tryz.prog n_impl_NewNet [.sl false 1 (ints h), i64 f] (fun r _ => r = .tup [.agg (Net.row true (newN h f).1), bl (newN h f).2]) := by
  have hmx := mx_eq
  cases h1 : goodHomes h f
  · have e : newN h f = (zeroN, false) := by simp [newN, h1]
    refine fn_in h_impl_NewNet r_impl_NewNet ⟨by simp only [go_sem], fun E hE hH => ?_⟩; simp only [go_sem] at hE hH; simp only [go_sem, hE, hH, c_impl_NewNet]
    repeat' (first | ((with_reducible first | refine gd_t ?_ ?_ | refine gd_f ?_ ?_) <;> (intro h; have hb := h; (try simp only [nf] at h); simp (disch := omega) only [go_sem, hE, hH, h1, e, hb]; (try clear hb))) | ((with_reducible refine And.intro ?_ ?_); · omega) | ((first | refine ok_view ?_ | refine cvA (areHomes_ok h f (by omega)) ?_); simp (disch := omega) only [go_sem, hE, hH, h1, e]) | (with_reducible apply jn) | (with_reducible apply both) | (with_reducible refine And.intro ?_ ?_) | ((with_reducible apply fin_eq); (try (simp (disch := omega) only [go_sem, hE, hH, h1, e])); first | done | rfl) | (simp (disch := omega) only [go_sem, hE, hH, h1, e]) | ((first | apply noMLL_sE | apply pk_sE) <;> (simp only [go_sem, hE, hH, h1, e]; done)) | (simp only [go_sem, hE, hH, h1, e]) | fail)
    all_goals rfl
  · have e : newN h f = (⟨0, h, f, []⟩, true) := by simp [newN, h1]
    refine fn_in h_impl_NewNet r_impl_NewNet ⟨by simp only [go_sem], fun E hE hH => ?_⟩; simp only [go_sem] at hE hH; simp only [go_sem, hE, hH, c_impl_NewNet]
    repeat' (first | ((with_reducible first | refine gd_t ?_ ?_ | refine gd_f ?_ ?_) <;> (intro h; have hb := h; (try simp only [nf] at h); simp (disch := omega) only [go_sem, hE, hH, h1, e, hb]; (try clear hb))) | ((with_reducible refine And.intro ?_ ?_); · omega) | ((first | refine ok_view ?_ | refine cvA (areHomes_ok h f (by omega)) ?_ | refine cvA (Clone_Int_ok h hl) ?_); simp (disch := omega) only [go_sem, hE, hH, h1, e]) | (with_reducible apply jn) | (with_reducible apply both) | (with_reducible refine And.intro ?_ ?_) | ((with_reducible apply fin_eq); (try (simp (disch := omega) only [go_sem, hE, hH, h1, e])); first | done | rfl) | (simp (disch := omega) only [go_sem, hE, hH, h1, e]) | ((first | apply noMLL_sE | apply pk_sE) <;> (simp only [go_sem, hE, hH, h1, e]; done)) | (simp only [go_sem, hE, hH, h1, e]) | fail)
theorem sNewNet_ok (h : List Int) (f : Int) (hl : h.length ≤ 2 ^ 20) : ACall Tryz.prog n_spec_NewNet [.sl false 1 (ints h), i64 f] (fun r _ => r = .tup [.agg (Net.row true (newN h f).1), bl (newN h f).2]) := by
  have hmx := mx_eq
  have hg : goodNet ⟨0, h, f, []⟩ = goodHomes h f := by simp [goodNet, rng, allN]
  cases h1 : goodHomes h f
  · have e : newN h f = (zeroN, false) := by simp [newN, h1]
    refine fn_in h_spec_NewNet r_spec_NewNet ⟨by simp only [go_sem], fun E hE hH => ?_⟩; simp only [go_sem] at hE hH; simp only [go_sem, hE, hH, c_spec_NewNet]
    repeat' (first | ((with_reducible first | refine gd_t ?_ ?_ | refine gd_f ?_ ?_) <;> (intro h; have hb := h; (try simp only [nf] at h); simp (disch := omega) only [go_sem, hE, hH, h1, e, hg, hb]; (try clear hb))) | ((with_reducible refine And.intro ?_ ?_); · omega) | ((first | refine ok_view ?_ | refine cvA (l1Own_ok h hl) ?_ | refine cvAn (l7Good_ok ⟨0, h, f, []⟩ (by simp only; omega)) ?_); simp (disch := omega) only [go_sem, hE, hH, h1, e, hg]) | (with_reducible apply jn) | (with_reducible apply both) | (with_reducible refine And.intro ?_ ?_) | ((with_reducible apply fin_eq); (try (simp (disch := omega) only [go_sem, hE, hH, h1, e, hg])); first | done | rfl) | (simp (disch := omega) only [go_sem, hE, hH, h1, e, hg]) | ((first | apply noMLL_sE | apply pk_sE) <;> (simp only [go_sem, hE, hH, h1, e, hg]; done)) | (simp only [go_sem, hE, hH, h1, e, hg]) | fail)
    all_goals rfl
  · have e : newN h f = (⟨0, h, f, []⟩, true) := by simp [newN, h1]
    refine fn_in h_spec_NewNet r_spec_NewNet ⟨by simp only [go_sem], fun E hE hH => ?_⟩; simp only [go_sem] at hE hH; simp only [go_sem, hE, hH, c_spec_NewNet]
    repeat' (first | ((with_reducible first | refine gd_t ?_ ?_ | refine gd_f ?_ ?_) <;> (intro h; have hb := h; (try simp only [nf] at h); simp (disch := omega) only [go_sem, hE, hH, h1, e, hg, hb]; (try clear hb))) | ((with_reducible refine And.intro ?_ ?_); · omega) | ((first | refine ok_view ?_ | refine cvA (l1Own_ok h hl) ?_ | refine cvAn (l7Good_ok ⟨0, h, f, []⟩ (by simp only; omega)) ?_); simp (disch := omega) only [go_sem, hE, hH, h1, e, hg]) | (with_reducible apply jn) | (with_reducible apply both) | (with_reducible refine And.intro ?_ ?_) | ((with_reducible apply fin_eq); (try (simp (disch := omega) only [go_sem, hE, hH, h1, e, hg])); first | done | rfl) | (simp (disch := omega) only [go_sem, hE, hH, h1, e, hg]) | ((first | apply noMLL_sE | apply pk_sE) <;> (simp only [go_sem, hE, hH, h1, e, hg]; done)) | (simp only [go_sem, hE, hH, h1, e, hg]) | fail)
abbrev sD (l : List UInt8) : T := .v (.string ⟨⟨l⟩⟩)
def numF : Nat → Nat → List UInt8
  | 0, _ => []
  | k + 1, u => if u < 10 then [UInt8.ofNat (48 + u)] else numF k (u / 10) ++ [UInt8.ofNat (48 + u % 10)]
def dgt (u : Nat) : List UInt8 := numF 20 u
theorem numF_eq : ∀ (k m u : Nat), u < 10 ^ k → k ≤ m → 1 ≤ k → numF m u = numF k u
  | 0, _, _, _, _, h => absurd h (by omega)
  | k + 1, m, u, hu, hm, _ => by
    obtain ⟨m, rfl⟩ : ∃ n, m = n + 1 := ⟨m - 1, by omega⟩
    simp only [numF]
    by_cases h : u < 10
    · rw [if_pos h, if_pos h]
    · rw [if_neg h, if_neg h, numF_eq k m (u / 10) (by rw [Nat.pow_succ] at hu; omega) (by omega) (by
        rcases Nat.eq_zero_or_pos k with rfl | h1
        · simp at hu; omega
        · exact h1)]
theorem numF_len : ∀ (k u : Nat), 1 ≤ k → 1 ≤ (numF k u).length ∧ (numF k u).length ≤ k
  | 0, _, h => absurd h (by omega)
  | k + 1, u, _ => by
    simp only [numF]
    split
    · simp
    · rcases Nat.eq_zero_or_pos k with rfl | h1
      · simp [numF]
      · have := numF_len k (u / 10) h1
        simp; omega
@[go_sem] theorem ba_app2 (a b : List UInt8) : (⟨⟨a⟩⟩ : ByteArray) ++ ⟨⟨b⟩⟩ = ⟨⟨a ++ b⟩⟩ := by
  apply ByteArray.ext
  rw [ByteArray.data_append]
  simp
@[go_sem] theorem ba_size2 (a : List UInt8) : (⟨⟨a⟩⟩ : ByteArray).size = a.length := rfl
theorem u8_wrap {u : Nat} (h : u < 256) : IntKind.u8.wrap (u : Int) = u := by
  simp [IntKind.wrap, IntKind.bits, IntKind.signed]; omega
@[go_sem] theorem isByteRow_u82 (n : Int) : isByteRow [.v (.int .u8 n)] = true := rfl
theorem byteOf_u82 (n : Int) : Am.byteOf [.v (.int .u8 n)] = UInt8.ofNat n.toNat := rfl
theorem dig_row {u : Nat} (h : u < 10) : bytesOf [[.v (.int .u8 (IntKind.u8.wrap (48 + (u : Int))))]] = ⟨⟨[UInt8.ofNat (48 + u)]⟩⟩ := by
  have e : (48 : Int) + u = ((48 + u : Nat) : Int) := by omega
  rw [e, u8_wrap (by omega)]
  simp only [bytesOf, List.map_cons, List.map_nil, byteOf_u82]
  rfl
theorem l1Num_okF : ∀ (k u : Nat), u < 10 ^ k → 1 ≤ k → k ≤ 18 → ACall Tryz.prog n_spec_l1Num [i64 u] (fun r _ => r = sD (numF k u))
  | 0, _, _, h, _ => absurd h (by omega)
  | k + 1, u, hu, _, hk => by
    have hmx := mx_eq
    have hp : 10 ^ (k + 1) ≤ 10 ^ 18 := Nat.pow_le_pow_right (by omega) hk
    by_cases h : u < 10
    · have e := dig_row h
      have e2 : numF (k + 1) u = [UInt8.ofNat (48 + u)] := by simp only [numF]; rw [if_pos h]
      refine fn_in h_spec_l1Num r_spec_l1Num ⟨by simp only [go_sem], fun E hE hH => ?_⟩; simp only [go_sem] at hE hH; simp only [go_sem, hE, hH, c_spec_l1Num]
      repeat' (first | ((with_reducible first | refine gd_t ?_ ?_ | refine gd_f ?_ ?_) <;> (intro h; have hb := h; (try simp only [nf] at h); simp (disch := omega) only [go_sem, hE, hH, e, e2, hb]; (try clear hb))) | ((with_reducible refine And.intro ?_ ?_); · omega) | (with_reducible apply jn) | (with_reducible apply both) | (with_reducible refine And.intro ?_ ?_) | ((with_reducible apply fin_eq); (try (simp (disch := omega) only [go_sem, hE, hH, e, e2])); first | done | rfl) | (simp (disch := omega) only [go_sem, hE, hH, e, e2]) | ((first | apply noMLL_sE | apply pk_sE) <;> (simp only [go_sem, hE, hH, e, e2]; done)) | (simp only [go_sem, hE, hH, e, e2]) | fail)
      all_goals first | omega | (exfalso; omega) | rfl | trace_state
    · have hk1 : 1 ≤ k := by
        rcases Nat.eq_zero_or_pos k with rfl | h1
        · simp at hu; omega
        · exact h1
      have e := dig_row (show u % 10 < 10 by omega)
      have e2 : numF (k + 1) u = numF k (u / 10) ++ [UInt8.ofNat (48 + u % 10)] := by simp only [numF]; rw [if_neg h]
      have ih := l1Num_okF k (u / 10) (by rw [Nat.pow_succ] at hu; omega) hk1 (by omega)
      have e3 : ((u : Nat) : Int).tdiv 10 = ((u / 10 : Nat) : Int) := by rw [show (10 : Int) = ((10 : Nat) : Int) from rfl, Int.ofNat_tdiv]
      have e4 : ((u : Nat) : Int).tmod 10 = ((u % 10 : Nat) : Int) := by rw [show (10 : Int) = ((10 : Nat) : Int) from rfl, Int.ofNat_tmod]
      have hl := numF_len k (u / 10) hk1
      refine fn_in h_spec_l1Num r_spec_l1Num ⟨by simp only [go_sem], fun E hE hH => ?_⟩; simp only [go_sem] at hE hH; simp only [go_sem, hE, hH, c_spec_l1Num]
      repeat' (first | ((with_reducible first | refine gd_t ?_ ?_ | refine gd_f ?_ ?_) <;> (intro h; have hb := h; (try simp only [nf] at h); simp (disch := omega) only [go_sem, hE, hH, e, e2, e3, e4, hb]; (try clear hb))) | ((with_reducible refine And.intro ?_ ?_); · omega) | ((first | refine ok_view ?_ | refine cvA (ih) ?_); simp (disch := omega) only [go_sem, hE, hH, e, e2, e3, e4]) | (with_reducible apply jn) | (with_reducible apply both) | (with_reducible refine And.intro ?_ ?_) | ((with_reducible apply fin_eq); (try (simp (disch := omega) only [go_sem, hE, hH, e, e2, e3, e4])); first | done | rfl) | (simp (disch := omega) only [go_sem, hE, hH, e, e2, e3, e4]) | ((first | apply noMLL_sE | apply pk_sE) <;> (simp only [go_sem, hE, hH, e, e2, e3, e4]; done)) | (simp only [go_sem, hE, hH, e, e2, e3, e4]) | fail)
      all_goals first | omega | (exfalso; omega) | rfl | trace_state
theorem l1Num_ok (u : Nat) (hu : u < 10 ^ 18) : ACall Tryz.prog n_spec_l1Num [i64 u] (fun r _ => r = sD (dgt u)) := by
  rw [dgt, numF_eq 18 20 u hu (by omega) (by omega)]
  exact l1Num_okF 18 u hu (by omega) (by omega)
abbrev ItoaH : Prop := ∀ u : Nat, u < 10 ^ 18 → ACall Tryz.prog n_strconv_Itoa [i64 u] (fun r _ => r = sD (dgt u))
def rdT (s : List UInt8) : Option Nat := ((List.range 200).find? fun k => dgt (k + 1) == s).map (· + 1)
theorem dgt_inj200 : ∀ u, u < 200 → ∀ v, v < 200 → dgt (u + 1) = dgt (v + 1) → u = v := by decide +kernel
theorem rdT_some {s : List UInt8} {t : Nat} : rdT s = some t ↔ 1 ≤ t ∧ t ≤ 200 ∧ s = dgt t := by
  unfold rdT
  constructor
  · intro h
    obtain ⟨k, h1, rfl⟩ := Option.map_eq_some_iff.1 h
    have h2 := List.find?_some h1
    have h3 := List.mem_range.1 (List.mem_of_find?_eq_some h1)
    simp only [beq_iff_eq] at h2
    exact ⟨by omega, by omega, h2.symm⟩
  · rintro ⟨h1, h2, rfl⟩
    obtain ⟨k, rfl⟩ : ∃ k, t = k + 1 := ⟨t - 1, by omega⟩
    cases h : (List.range 200).find? fun j => dgt (j + 1) == dgt (k + 1) with
    | none =>
      have := List.find?_eq_none.1 h k (List.mem_range.2 (by omega))
      simp at this
    | some j =>
      have h3 := List.find?_some h
      have h4 := List.mem_range.1 (List.mem_of_find?_eq_some h)
      simp only [beq_iff_eq] at h3
      rw [dgt_inj200 j h4 k (by omega) h3]; rfl
def isDg (s : List UInt8) (i : Nat) : Bool := decide (48 ≤ (s.getD i 0).toNat) && decide ((s.getD i 0).toNat ≤ 57)
def valD (s : List UInt8) : Nat := s.foldl (fun n c => 10 * n + (c.toNat - 48)) 0
def shpD (s : List UInt8) : Bool := decide (1 ≤ s.length) && decide (s.length ≤ 6) && !(decide ((s.getD 0 0).toNat = 48) && decide (1 < s.length))
def rdI (s : List UInt8) : Int := if shpD s && allN (isDg s) s.length then (valD s : Int) else -1
theorem rdI_dgt : ∀ u, u < 200 → rdI (dgt (u + 1)) = ((u + 1 : Nat) : Int) := by decide +kernel
theorem dgt_1 : ∀ a, a < 10 → dgt a = [UInt8.ofNat (48 + a)] := by decide +kernel
theorem dgt_2 : ∀ a, a < 10 → ∀ b, b < 10 → 1 ≤ a → dgt (10 * a + b) = [UInt8.ofNat (48 + a), UInt8.ofNat (48 + b)] := by decide +kernel
theorem dgt_3 : ∀ a, a < 10 → ∀ b, b < 10 → ∀ c, c < 10 → 1 ≤ a → dgt (10 * (10 * a + b) + c) = [UInt8.ofNat (48 + a), UInt8.ofNat (48 + b), UInt8.ofNat (48 + c)] := by decide +kernel
theorem u8_back {a : UInt8} (h : 48 ≤ a.toNat) : UInt8.ofNat (48 + (a.toNat - 48)) = a := by
  rw [show 48 + (a.toNat - 48) = a.toNat by omega]; simp
theorem rdI_in {s : List UInt8} (h1 : 1 ≤ rdI s) (h2 : rdI s ≤ 200) : s = dgt (rdI s).toNat := by
  have hc : (shpD s && allN (isDg s) s.length) = true := by
    cases h : (shpD s && allN (isDg s) s.length) with
    | true => rfl
    | false => rw [rdI, h] at h1; simp at h1
  rw [rdI, if_pos hc] at h1 h2 ⊢
  simp only [Bool.and_eq_true] at hc
  obtain ⟨hs, hd⟩ := hc
  rw [allN_iff] at hd
  simp only [isDg, Bool.and_eq_true, decide_eq_true_eq] at hd
  simp only [shpD, Bool.and_eq_true, decide_eq_true_eq, Bool.not_eq_true', Bool.and_eq_false_iff, decide_eq_false_iff_not] at hs
  rcases s with _ | ⟨a, _ | ⟨b, _ | ⟨c, _ | ⟨d, r⟩⟩⟩⟩
  · simp at hs
  · have ha := hd 0 (by simp)
    simp only [List.getD_cons_zero] at ha
    simp only [valD, List.foldl_cons, List.foldl_nil, Nat.mul_zero, Nat.zero_add, Int.toNat_natCast]
    rw [dgt_1 _ (by omega), u8_back ha.1]
  · have ha := hd 0 (by simp)
    have hb := hd 1 (by simp)
    simp only [List.getD_cons_zero, List.getD_cons_succ] at ha hb hs
    simp only [List.length_cons, List.length_nil] at hs
    simp only [valD, List.foldl_cons, List.foldl_nil, Nat.mul_zero, Nat.zero_add, Int.toNat_natCast]
    rw [dgt_2 _ (by omega) _ (by omega) (by omega), u8_back ha.1, u8_back hb.1]
  · have ha := hd 0 (by simp)
    have hb := hd 1 (by simp)
    have hcc := hd 2 (by simp)
    simp only [List.getD_cons_zero, List.getD_cons_succ] at ha hb hcc hs
    simp only [List.length_cons, List.length_nil] at hs
    simp only [valD, List.foldl_cons, List.foldl_nil, Nat.mul_zero, Nat.zero_add, Int.toNat_natCast]
    rw [dgt_3 _ (by omega) _ (by omega) _ (by omega) (by omega), u8_back ha.1, u8_back hb.1, u8_back hcc.1]
  · exfalso
    have ha := hd 0 (by simp)
    simp only [List.getD_cons_zero, List.getD_cons_succ] at ha hs
    simp only [List.length_cons] at hs
    have grow : ∀ (l : List UInt8) (n : Nat), n ≤ l.foldl (fun n c => 10 * n + (c.toNat - 48)) n := by
      intro l
      induction l with
      | nil => intro n; exact Nat.le_refl _
      | cons x l ih => intro n; exact Nat.le_trans (show n ≤ 10 * n + (x.toNat - 48) by omega) (ih _)
    have := grow r (10 * (10 * (10 * (10 * 0 + (a.toNat - 48)) + (b.toNat - 48)) + (c.toNat - 48)) + (d.toNat - 48))
    simp only [valD, List.foldl_cons] at h2
    omega
theorem rdI_rdT (s : List UInt8) : (rdT s = none ∧ ¬ (1 ≤ rdI s ∧ rdI s ≤ 200)) ∨ ∃ t : Nat, rdT s = some t ∧ rdI s = t ∧ 1 ≤ t ∧ t ≤ 200 := by
  by_cases h : 1 ≤ rdI s ∧ rdI s ≤ 200
  · exact .inr ⟨(rdI s).toNat, rdT_some.2 ⟨by omega, by omega, rdI_in h.1 h.2⟩, by omega, by omega, by omega⟩
  · refine .inl ⟨?_, h⟩
    cases hr : rdT s with
    | none => rfl
    | some t =>
      obtain ⟨h1, h2, rfl⟩ := rdT_some.1 hr
      obtain ⟨k, rfl⟩ : ∃ k, t = k + 1 := ⟨t - 1, by omega⟩
      rw [rdI_dgt k (by omega)] at h
      omega
theorem valD_take {s : List UInt8} {j : Nat} (h : j < s.length) : valD (s.take (j + 1)) = 10 * valD (s.take j) + ((s.getD j 0).toNat - 48) := by
  have e : s.take (j + 1) = s.take j ++ [s.getD j 0] := by
    rw [List.take_succ_eq_append_getElem h]; simp [List.getD, h]
  rw [e, valD, List.foldl_append]; rfl
theorem valD_le (s : List UInt8) : valD s ≤ 210 * 10 ^ s.length := by
  have h : ∀ (l : List UInt8) (n m : Nat), n ≤ 210 * m → l.foldl (fun n c => 10 * n + (c.toNat - 48)) n + 210 ≤ 210 * ((m + 1) * 10 ^ l.length) := by
    intro l
    induction l with
    | nil => intro n m h; simp; omega
    | cons a l ih =>
      intro n m h
      have ha : a.toNat < 256 := UInt8.toNat_lt _
      have := ih (10 * n + (a.toNat - 48)) (10 * m + 9) (by omega)
      simp only [List.foldl_cons, List.length_cons, Nat.pow_succ]
      refine Nat.le_trans this (Nat.mul_le_mul_left _ ?_)
      rw [show 10 * m + 9 + 1 = 10 * (m + 1) by omega, Nat.mul_comm (10 ^ l.length) 10, ← Nat.mul_assoc, Nat.mul_comm (m + 1) 10]
      exact Nat.le_refl _
  have := h s 0 0 (by omega)
  simp only [valD]
  omega
theorem rdI_no {s : List UInt8} {j : Nat} (hj : j < s.length) (h : ¬ (48 ≤ (s.getD j 0).toNat ∧ (s.getD j 0).toNat ≤ 57)) : rdI s = -1 := by
  have : allN (isDg s) s.length = false := allN_no hj (by
    simp only [isDg, Bool.and_eq_false_iff, decide_eq_false_iff_not]; omega)
  rw [rdI, this]; simp
theorem valD_step {s : List UInt8} {j : Nat} (hj : j < s.length) (h1 : 48 ≤ (s.getD j 0).toNat) (h2 : (s.getD j 0).toNat ≤ 57) (hv : valD (s.take j) ≤ 210000000) : IntKind.i64.wrap (10 * (valD (s.take j) : Int) + IntKind.i64.wrap (IntKind.u8.wrap (((s.getD j 0).toNat : Int) - 48))) = (valD (s.take (j + 1)) : Int) := by
  have e : (((s.getD j 0).toNat : Int) - 48) = (((s.getD j 0).toNat - 48 : Nat) : Int) := by omega
  have e2 : IntKind.i64.wrap (((s.getD j 0).toNat - 48 : Nat) : Int) = (((s.getD j 0).toNat - 48 : Nat) : Int) := Go.IntWalk.i64_in _ (by omega)
  rw [e, u8_wrap (by omega), e2, Go.IntWalk.i64_in _ (by omega), valD_take hj]
  omega
theorem l1Read_ok (s : List UInt8) (hl : s.length ≤ 2 ^ 20) : ACall Tryz.prog n_spec_l1Read [sD s] (fun r _ => r = i64 (rdI s)) := by
  have hmx := mx_eq
  cases hs : shpD s with
  | false =>
    have e : rdI s = -1 := by rw [rdI, hs]; rfl
    simp only [shpD, Bool.and_eq_false_iff, decide_eq_false_iff_not, Bool.not_eq_false', Bool.and_eq_true, decide_eq_true_eq] at hs
    refine fn_in h_spec_l1Read r_spec_l1Read ⟨by simp only [go_sem], fun E hE hH => ?_⟩; simp only [go_sem] at hE hH; simp only [go_sem, hE, hH, c_spec_l1Read]
    repeat' (first | ((with_reducible first | refine gd_t ?_ ?_ | refine gd_f ?_ ?_) <;> (intro h; have hb := h; (try simp only [nf, rng_iff, rng_no] at h); simp (disch := omega) only [go_sem, hE, hH, e, hb]; (try clear hb))) | ((with_reducible refine And.intro ?_ ?_); · omega) | ((first | refine ok_view ?_ | refine cvA (l1In_ok _ _ _) ?_); simp (disch := omega) only [go_sem, hE, hH, e]) | (refine jn _ ?_ ?_) | (with_reducible refine both ?_ ?_) | (with_reducible refine And.intro ?_ ?_) | (refine fin_eq ?_; (try (simp (disch := omega) only [go_sem, hE, hH, e])); first | done | rfl) | (simp (disch := omega) only [go_sem, hE, hH, e]) | ((first | apply noMLL_sE | apply pk_sE) <;> (simp only [go_sem, hE, hH, e]; done)) | (simp only [go_sem, hE, hH, e]) | fail)
    all_goals first | omega | (exfalso; omega) | rfl | trace_state
  | true =>
    have hs' := hs
    simp only [shpD, Bool.and_eq_true, decide_eq_true_eq, Bool.not_eq_true', Bool.and_eq_false_iff, decide_eq_false_iff_not] at hs
    obtain ⟨⟨h1, h2⟩, h3⟩ := hs
    refine fn_in h_spec_l1Read r_spec_l1Read ⟨by simp only [go_sem], fun E hE hH => ?_⟩; simp only [go_sem] at hE hH; simp only [go_sem, hE, hH, c_spec_l1Read]
    repeat' (first | ((with_reducible first | refine gd_t ?_ ?_ | refine gd_f ?_ ?_) <;> (intro h; have hb := h; (try simp only [nf, rng_iff, rng_no] at h); simp (disch := omega) only [go_sem, hE, hH, hb]; (try clear hb))) | ((with_reducible refine And.intro ?_ ?_); · omega) | ((first | refine ok_view ?_ | refine cvA (l1In_ok _ _ _) ?_); simp (disch := omega) only [go_sem, hE, hH]) | (refine jn _ ?_ ?_) | (with_reducible refine both ?_ ?_) | (with_reducible refine And.intro ?_ ?_) | (refine fin_eq ?_; (try (simp (disch := omega) only [go_sem, hE, hH])); first | done | rfl) | (simp (disch := omega) only [go_sem, hE, hH]) | ((first | apply noMLL_sE | apply pk_sE) <;> (simp only [go_sem, hE, hH]; done)) | (simp only [go_sem, hE, hH]) | fail)
    all_goals try (exfalso; omega)
    all_goals try omega
    all_goals (
      refine loopN s.length (fun j (_ : Unit) => ⟨[(0, sD s), (3, i64 (valD (s.take j))), (4, i64 j)], []⟩) (fun j _ => allN (isDg s) j = true) () rfl ?_
      intro j _ hj hI
      have hb : (s.getD j 0).toNat < 256 := UInt8.toNat_lt _
      have hv := valD_le (s.take j)
      have hpow : 10 ^ (s.take j).length ≤ 10 ^ 6 := Nat.pow_le_pow_right (by omega) (by simp; omega)
      have hvb : valD (s.take j) ≤ 210000000 := by omega
      try simp only [go_sem, hE, hH, c_spec_l1Read_l1]
      first | refine gd_t (fun q1 => ?_) (fun q1 => ?_) | refine gd_f (fun q1 => ?_) (fun q1 => ?_)
      · have hb1 := q1
        simp only [nf] at q1
        try simp (disch := omega) only [go_sem, hE, hH, hb1]
        repeat' (first | ((with_reducible first | refine gd_t ?_ ?_ | refine gd_f ?_ ?_) <;> (intro h; have hb := h; (try simp only [nf, rng_iff, rng_no] at h); simp (disch := omega) only [go_sem, hE, hH, hb]; (try clear hb))) | ((with_reducible refine And.intro ?_ ?_); · omega) | (refine jn _ ?_ ?_) | (with_reducible refine both ?_ ?_) | (with_reducible refine And.intro ?_ ?_) | (refine fin_eq ?_; (try (simp (disch := omega) only [go_sem, hE, hH])); first | done | rfl) | (simp (disch := omega) only [go_sem, hE, hH]) | ((first | apply noMLL_sE | apply pk_sE) <;> (simp only [go_sem, hE, hH]; done)) | (simp only [go_sem, hE, hH]) | fail)
        all_goals first | (rw [rdI_no (show j < s.length by omega) (by omega)]; done) | exact ⟨(), by rw [valD_step q1 (by omega) (by omega) hvb]; rfl, allN_step hI (by simp only [isDg, Bool.and_eq_true, decide_eq_true_eq]; omega)⟩ | trace_state
      · try simp (disch := omega) only [go_sem, hE, hH, q1]
        simp only [nf] at q1
        have ej : j = s.length := by omega
        subst ej
        have e : rdI s = (valD s : Int) := by rw [rdI, hs', hI]; rfl
        rw [List.take_length, e])
abbrev rdR : Option Nat → T
  | some t => .tup [i64 t, bl true]
  | none => .tup [i64 0, bl false]
abbrev ReadIntH : Prop := ∀ s : List UInt8, s.length ≤ 100 → ACall Tryz.prog n_impl_readInt [sD s, i64 1, i64 200] (fun r _ => r = rdR (rdT s))
def sendP (n : Net) (f t : Int) (b : ByteArray) : Net := if (sendN n f t b).2 = true then (sendN n f t b).1 else n
theorem sendN_good {n : Net} {f t : Int} {b : ByteArray} (h : (sendN n f t b).2 = true) : goodNet (sendN n f t b).1 = true ∧ (sendN n f t b).1 = withN n (laidL n.Under (sentL n f t b)) := by
  unfold sendN at h ⊢
  split at h
  · rename_i hc
    rw [if_pos hc]
    unfold ifN at h ⊢
    split at h
    · rename_i hg
      rw [if_pos hg]; exact ⟨hg, rfl⟩
    · cases h
  · cases h
theorem sendP_good {n : Net} {f t : Int} {b : ByteArray} (h : goodNet n = true) : goodNet (sendP n f t b) = true := by
  unfold sendP
  split
  · rename_i hc; exact (sendN_good hc).1
  · exact h
theorem sendP_homes {n : Net} {f t : Int} {b : ByteArray} : (sendP n f t b).Homes = n.Homes := by
  unfold sendP
  split
  · rename_i hc; rw [(sendN_good hc).2]; rfl
  · rfl
def netP (p : Poll) (n : Net) : Poll := ⟨p.Voters, n, p.Won⟩
def spread (n : Net) (v : Int) (b : ByteArray) : Nat → Net
  | 0 => n
  | j + 1 => sendP (spread n v b j) v j b
theorem spread_good {n : Net} {v : Int} {b : ByteArray} (h : goodNet n = true) : ∀ j, goodNet (spread n v b j) = true
  | 0 => h
  | j + 1 => sendP_good (spread_good h j)
theorem spread_homes {n : Net} {v : Int} {b : ByteArray} : ∀ j, (spread n v b j).Homes = n.Homes
  | 0 => rfl
  | j + 1 => by rw [spread, sendP_homes, spread_homes j]
theorem sendP_self {n : Net} {v : Int} {b : ByteArray} : sendP n v v b = n := by
  unfold sendP sendN sendC
  simp
def askB (c : Nat) (t : Int) : ByteArray := ⟨⟨UInt8.ofNat c :: dgt t.toNat⟩⟩
def standC (p : Poll) (v : Int) : Bool := fallC p v && (nth p.Voters v.toNat).Up && !decide ((nth p.Voters v.toNat).Term = 200)
def standX (p : Poll) (v : Int) : Poll := ⟨p.Voters.set v.toNat ⟨true, (nth p.Voters v.toNat).Term + 1, v, [v], false⟩, spread p.Net v (askB 97 ((nth p.Voters v.toNat).Term + 1)) p.Voters.length, p.Won⟩
def zeroP : Poll := ⟨[], ⟨0, [], 0, []⟩, []⟩
def standV (p : Poll) (v : Int) : Poll × Bool := if standC p v then (standX p v, true) else (zeroP, false)
set_option maxHeartbeats 4000000 in
theorem send_ok (p : Poll) (f t : Int) (b : ByteArray) (hg : goodNet p.Net = true) : ACall Tryz.prog n_pimpl_Net_send [.bo true (Poll.row true p) 1, i64 f, i64 t, str b] (fun r l => r = .tup [] ∧ l = [.bo true (Poll.row true (netP p (sendP p.Net f t b))) 1, i64 f, i64 t, str b]) := by
  have hmx := mx_eq
  have gl := goodNet_len hg
  cases hc : (sendN p.Net f t b).2 with
  | false =>
    have e : sendP p.Net f t b = p.Net := by simp [sendP, hc]
    rw [e]
    refine fn_in h_pimpl_Net_send r_pimpl_Net_send ⟨by simp only [go_sem], fun E hE hH => ?_⟩; simp only [go_sem] at hE hH; simp only [go_sem, hE, hH, c_pimpl_Net_send]
    repeat' (first | ((with_reducible first | refine gd_t ?_ ?_ | refine gd_f ?_ ?_) <;> (intro h; have hb := h; (try simp only [nf] at h); simp (disch := omega) only [go_sem, hE, hH, hc, hb]; (try clear hb))) | ((with_reducible refine And.intro ?_ ?_); · omega) | ((first | refine ok_view ?_ | refine cvA (sent_ok p.Net f t b hg (by omega)) ?_); simp (disch := omega) only [go_sem, hE, hH, hc]) | (with_reducible apply jn) | (with_reducible apply both) | (with_reducible refine And.intro ?_ ?_) | ((with_reducible apply fin_eq); (try (simp (disch := omega) only [go_sem, hE, hH, hc])); first | done | rfl) | (simp (disch := omega) only [go_sem, hE, hH, hc]) | ((first | apply noMLL_sE | apply pk_sE) <;> (simp only [go_sem, hE, hH, hc]; done)) | (simp only [go_sem, hE, hH, hc]) | fail)
    all_goals first | rfl | trace_state
  | true =>
    have e : sendP p.Net f t b = (sendN p.Net f t b).1 := by simp [sendP, hc]
    rw [e]
    refine fn_in h_pimpl_Net_send r_pimpl_Net_send ⟨by simp only [go_sem], fun E hE hH => ?_⟩; simp only [go_sem] at hE hH; simp only [go_sem, hE, hH, c_pimpl_Net_send]
    repeat' (first | ((with_reducible first | refine gd_t ?_ ?_ | refine gd_f ?_ ?_) <;> (intro h; have hb := h; (try simp only [nf] at h); simp (disch := omega) only [go_sem, hE, hH, hc, hb]; (try clear hb))) | ((with_reducible refine And.intro ?_ ?_); · omega) | ((first | refine ok_view ?_ | refine cvA (sent_ok p.Net f t b hg (by omega)) ?_); simp (disch := omega) only [go_sem, hE, hH, hc]) | (with_reducible apply jn) | (with_reducible apply both) | (with_reducible refine And.intro ?_ ?_) | ((with_reducible apply fin_eq); (try (simp (disch := omega) only [go_sem, hE, hH, hc])); first | done | rfl) | (simp (disch := omega) only [go_sem, hE, hH, hc]) | ((first | apply noMLL_sE | apply pk_sE) <;> (simp only [go_sem, hE, hH, hc]; done)) | (simp only [go_sem, hE, hH, hc]) | fail)
    all_goals first | rfl | trace_state
def cmpK (a b : Int) : Int := if a < b then -1 else if b < a then 1 else 0
theorem ordK : Ord ltI cmpK := ⟨fun a b => by unfold cmpK ltI; split <;> (try split) <;> simp_all, fun a b => by unfold cmpK; split <;> (try split) <;> omega, fun a => by simp [ltI], fun a b c => by simp only [ltI, decide_eq_true_eq]; omega, fun a b => by simp only [ltI, decide_eq_true_eq]; omega⟩
abbrev srtK (l : List Int) : Prop := srtX ltI (fun x : Int => x) l
abbrev iK (l : List Int) (x : Int) : Nat := fxI ltI (fun x : Int => x) l x
abbrev fK (l : List Int) (x : Int) : Bool := fxF (fun x : Int => x) l x
def yesPut (l : List Int) (x : Int) : List Int := if fK l x = true then l else putAt l (iK l x) x
theorem risR_iff {l : List Int} {lo hi : Int} : risR l lo hi = true ↔ (∀ x ∈ l, lo ≤ x ∧ x ≤ hi) ∧ srtK l := by
  unfold risR
  rw [allN_iff]
  simp only [Bool.and_eq_true, rng_iff, Bool.or_eq_true, decide_eq_true_eq]
  constructor
  · intro h
    refine ⟨fun x hx => ?_, fun i j hij hj => ?_⟩
    · obtain ⟨i, hi, rfl⟩ := List.getElem_of_mem hx
      have := (h i hi).1
      rwa [nth_lt hi] at this
    · simp only [ltI, decide_eq_true_eq]
      have key : ∀ d, i + d + 1 < l.length → nth l i < nth l (i + d + 1) := by
        intro d
        induction d with
        | zero =>
          intro h1
          rcases (h (i + 0 + 1) h1).2 with h2 | h2
          · omega
          · simpa using h2
        | succ d ih =>
          intro h1
          have h0 := ih (by omega)
          rcases (h (i + (d + 1) + 1) h1).2 with h2 | h2
          · omega
          · rw [show i + (d + 1) + 1 - 1 = i + d + 1 by omega] at h2
            omega
      have := key (j - i - 1) (by omega)
      rwa [show i + (j - i - 1) + 1 = j by omega] at this
  · rintro ⟨h1, h2⟩ i hi
    refine ⟨h1 _ (nth_mem hi), ?_⟩
    by_cases h : i = 0
    · exact .inl h
    · have := h2 (i - 1) i (by omega) hi
      simp only [ltI, decide_eq_true_eq] at this
      exact .inr this
theorem mem_yesPut {l : List Int} {x y : Int} (h : y ∈ yesPut l x) : y = x ∨ y ∈ l := by
  unfold yesPut at h
  split at h
  · exact .inr h
  · exact mem_putAt.1 h
theorem yesPut_srt {l : List Int} {x : Int} (h : srtK l) : srtK (yesPut l x) := by
  unfold yesPut
  split
  · exact h
  · rename_i hf
    exact putAt_srt (x := x) ordK h (by simpa using hf)
theorem yesPut_len {l : List Int} {x : Int} : l.length ≤ (yesPut l x).length ∧ (yesPut l x).length ≤ l.length + 1 := by
  unfold yesPut
  split
  · omega
  · rw [putAt_len fxI_le]; omega
def askX (x : Voter) (t : Int) : Voter := if x.Term < t then ⟨true, t, -1, [], false⟩ else x
def askC (y : Voter) (t f : Int) : Bool := decide (y.Term = t) && (decide (y.For = -1) || decide (y.For = f))
def forV (y : Voter) (f : Int) : Voter := ⟨y.Up, y.Term, f, y.Yes, y.Leads⟩
def askP (p : Poll) (l : Letter) (t : Nat) : Poll :=
  if askC (askX (nth p.Voters l.To.toNat) t) t l.From = true then ⟨p.Voters.set l.To.toNat (forV (askX (nth p.Voters l.To.toNat) t) l.From), sendP p.Net l.To l.From (askB 121 t), p.Won⟩
  else ⟨p.Voters.set l.To.toNat (askX (nth p.Voters l.To.toNat) t), p.Net, p.Won⟩
def yesV (x : Voter) (ys : List Int) (b : Bool) : Voter := ⟨x.Up, x.Term, x.For, ys, b⟩
def cntC (x : Voter) (l : Letter) (t : Nat) : Bool := decide (x.Term = t) && decide (x.For = l.To)
def winC (p : Poll) (x : Voter) (ys : List Int) : Bool := decide (p.Voters.length < 2 * ys.length) && !x.Leads
def wonP (p : Poll) (l : Letter) (t : Nat) : List Won := if p.Won.length < 60 then p.Won ++ [⟨t, l.To⟩] else p.Won
def cntP (p : Poll) (l : Letter) (t : Nat) : Poll :=
  if cntC (nth p.Voters l.To.toNat) l t = true then
    if winC p (nth p.Voters l.To.toNat) (yesPut (nth p.Voters l.To.toNat).Yes l.From) = true then ⟨p.Voters.set l.To.toNat (yesV (nth p.Voters l.To.toNat) (yesPut (nth p.Voters l.To.toNat).Yes l.From) true), p.Net, wonP p l t⟩
    else ⟨p.Voters.set l.To.toNat (yesV (nth p.Voters l.To.toNat) (yesPut (nth p.Voters l.To.toNat).Yes l.From) (nth p.Voters l.To.toNat).Leads), p.Net, p.Won⟩
  else p
def tailB (b : ByteArray) : List UInt8 := b.data.toList.drop 1
def hearP (p : Poll) (l : Letter) : Poll :=
  match rdT (tailB l.Body) with
  | none => p
  | some t => if (nth p.Voters l.To.toNat).Up = true then (if byt l.Body 0 = 97 then askP p l t else if byt l.Body 0 = 121 then cntP p l t else p) else p
def tickC (p : Poll) : Bool := goodPoll p && (tickN p.Net).2
def tickN1 (p : Poll) : Net := (tickN p.Net).1
def tick0 (p : Poll) : Poll := ⟨p.Voters, leftN (tickN1 p) (cutD (tickN1 p)), p.Won⟩
def tickL (p : Poll) : List Letter := (tickN1 p).Under.take (cutD (tickN1 p))
def tickP (p : Poll) : Poll × Bool := if tickC p = true then ((tickL p).foldl hearP (tick0 p), true) else (zeroP, false)
structure VOk (x : Voter) (v : Int) (n : Nat) : Prop where
  t : 0 ≤ x.Term ∧ x.Term ≤ 200
  f : -1 ≤ x.For ∧ x.For ≤ (n : Int) - 1
  y : (∀ a ∈ x.Yes, 0 ≤ a ∧ a ≤ (n : Int) - 1) ∧ srtK x.Yes
  o : x.Yes = [] ∨ (x.Up = true ∧ x.For = v)
  l : x.Leads = true → x.Up = true ∧ x.For = v ∧ (n : Int) < 2 * (x.Yes.length : Int)
theorem voterOk_iff {x : Voter} {v : Int} {n : Nat} : voterOk x v n = true ↔ VOk x v n := by
  simp only [voterOk, ownV, Bool.and_eq_true, rng_iff, risR_iff, Bool.or_eq_true, decide_eq_true_eq, Bool.not_eq_true']
  constructor
  · rintro ⟨⟨⟨⟨h1, h2⟩, h3⟩, h4⟩, h5⟩
    refine ⟨h1, h2, h3, ?_, fun h => ?_⟩
    · rcases h4 with h4 | h4
      · exact .inr h4
      · exact .inl (List.length_eq_zero_iff.1 (by omega))
    · rcases h5 with h5 | h5
      · rw [h] at h5; cases h5
      · exact ⟨h5.1.1, h5.1.2, h5.2⟩
  · rintro ⟨h1, h2, h3, h4, h5⟩
    refine ⟨⟨⟨⟨h1, h2⟩, h3⟩, ?_⟩, ?_⟩
    · rcases h4 with h4 | h4
      · right; rw [h4]; rfl
      · exact .inl h4
    · cases h : x.Leads
      · exact .inl rfl
      · obtain ⟨a, b, c⟩ := h5 h; exact .inr ⟨⟨a, b⟩, c⟩
structure Good (p : Poll) : Prop where
  net : goodNet p.Net = true
  n : p.Net.Homes.length = 3 ∨ p.Net.Homes.length = 5
  v : p.Voters.length = p.Net.Homes.length
  w : p.Won.length ≤ 60
  vs : ∀ i, i < p.Voters.length → VOk (nth p.Voters i) i p.Net.Homes.length
  ws : ∀ x ∈ p.Won, (1 ≤ x.Term ∧ x.Term ≤ 200) ∧ 0 ≤ x.Who ∧ x.Who ≤ (p.Net.Homes.length : Int) - 1
theorem good_iff {p : Poll} : goodPoll p = true ↔ Good p := by
  simp only [goodPoll, wonOk, Bool.and_eq_true, Bool.or_eq_true, decide_eq_true_eq, allN_iff, voterOk_iff, List.all_eq_true, rng_iff]
  constructor
  · rintro ⟨⟨⟨⟨⟨h1, h2⟩, h3⟩, h4⟩, h5⟩, h6⟩
    exact ⟨h1, by omega, by omega, by omega, h5, h6⟩
  · rintro ⟨h1, h2, h3, h4, h5, h6⟩
    exact ⟨⟨⟨⟨⟨h1, by omega⟩, by omega⟩, by omega⟩, h5⟩, h6⟩
theorem nthSet {α : Type} [Inhabited α] {l : List α} {i j : Nat} {y : α} (hi : i < l.length) : nth (l.set i y) j = if j = i then y else nth l j := by
  unfold nth
  simp only [List.getD, List.getElem?_set]
  by_cases h : i = j
  · subst h; simp [hi]
  · rw [if_neg h, if_neg (Ne.symm h)]
theorem Good.set {p : Poll} (h : Good p) {i : Nat} {y : Voter} {n : Net} {W : List Won} (hi : i < p.Voters.length) (hy : VOk y i p.Net.Homes.length) (hn : goodNet n = true) (hh : n.Homes = p.Net.Homes) (hw : W.length ≤ 60) (hW : ∀ x ∈ W, (1 ≤ x.Term ∧ x.Term ≤ 200) ∧ 0 ≤ x.Who ∧ x.Who ≤ (p.Net.Homes.length : Int) - 1) : Good ⟨p.Voters.set i y, n, W⟩ where
  net := hn
  n := by simp only [hh]; exact h.n
  v := by simp only [hh, List.length_set]; exact h.v
  w := hw
  vs := fun j hj => by
    simp only [List.length_set] at hj
    simp only [hh]
    rw [nthSet hi]
    split
    · rename_i e; rw [e]; exact hy
    · exact h.vs j hj
  ws := by simp only [hh]; exact hW
theorem Good.netP {p : Poll} (h : Good p) {n : Net} (hn : goodNet n = true) (hh : n.Homes = p.Net.Homes) : Good (netP p n) := ⟨hn, by simp only [Wb.netP, hh]; exact h.n, by simp only [Wb.netP, hh]; exact h.v, h.w, by simp only [Wb.netP, hh]; exact h.vs, by simp only [Wb.netP, hh]; exact h.ws⟩
theorem vok_new {t f : Int} {v : Int} {n : Nat} (h1 : 0 ≤ t ∧ t ≤ 200) (h2 : -1 ≤ f ∧ f ≤ (n : Int) - 1) (b : Bool) : VOk ⟨b, t, f, [], false⟩ v n := ⟨h1, h2, ⟨by simp, fun i j _ h => by simp at h⟩, .inl rfl, by simp⟩
structure LOk (n : Nat) (l : Letter) : Prop where
  f : 0 ≤ l.From ∧ l.From ≤ (n : Int) - 1
  t : 0 ≤ l.To ∧ l.To ≤ (n : Int) - 1
  ne : l.From ≠ l.To
  b : 1 ≤ l.Body.size ∧ l.Body.size ≤ 40
theorem lok_of {n : Nat} {l : Letter} (h : letOk n l = true) : LOk n l := by
  simp only [letOk, Bool.and_eq_true, rng_iff, Bool.not_eq_true', decide_eq_false_iff_not] at h
  obtain ⟨⟨⟨⟨h1, h2⟩, h3⟩, h4⟩, h5⟩ := h
  exact ⟨h1, h2, h3, by omega⟩
theorem vok_ask {x : Voter} {v : Int} {n : Nat} (h : VOk x v n) {t : Nat} (ht : t ≤ 200) : VOk (askX x t) v n := by
  unfold askX
  split
  · exact vok_new (by omega) ⟨by omega, by have := h.f; omega⟩ _
  · exact h
theorem ask_good {p : Poll} (h : Good p) {l : Letter} (hl : LOk p.Net.Homes.length l) {t : Nat} (ht : 1 ≤ t ∧ t ≤ 200) : Good (askP p l t) ∧ (askP p l t).Net.Homes = p.Net.Homes := by
  have hv := h.v
  have h1 := hl.t
  have hi : l.To.toNat < p.Voters.length := by omega
  have hx := vok_ask (h.vs _ hi) ht.2
  have hc : ((l.To.toNat : Nat) : Int) = l.To := by omega
  rw [hc] at hx
  unfold askP
  split
  · rename_i hA
    refine ⟨h.set hi ?_ (sendP_good h.net) sendP_homes h.w h.ws, sendP_homes⟩
    rw [hc]
    simp only [askC, Bool.and_eq_true, Bool.or_eq_true, decide_eq_true_eq] at hA
    have h2 := hl.f; have h3 := hl.ne
    have ho : (askX (nth p.Voters l.To.toNat) t).Yes = [] ∧ (askX (nth p.Voters l.To.toNat) t).Leads = false := by
      have hne : (askX (nth p.Voters l.To.toNat) t).For ≠ l.To := by rcases hA.2 with e | e <;> rw [e] <;> omega
      refine ⟨?_, ?_⟩
      · rcases hx.o with e | e
        · exact e
        · exact absurd e.2 hne
      · cases hL : (askX (nth p.Voters l.To.toNat) t).Leads
        · rfl
        · exact absurd (hx.l hL).2.1 hne
    exact ⟨hx.t, by simp only [forV]; omega, hx.y, .inl ho.1, fun e => by simp only [forV] at e; rw [ho.2] at e; cases e⟩
  · refine ⟨h.set hi ?_ h.net rfl h.w h.ws, rfl⟩
    rw [hc]; exact hx
theorem cnt_good {p : Poll} (h : Good p) {l : Letter} (hl : LOk p.Net.Homes.length l) {t : Nat} (ht : 1 ≤ t ∧ t ≤ 200) (hu : (nth p.Voters l.To.toNat).Up = true) : Good (cntP p l t) ∧ (cntP p l t).Net.Homes = p.Net.Homes := by
  have hv := h.v
  have h1 := hl.t
  have hi : l.To.toNat < p.Voters.length := by omega
  have hx := h.vs _ hi
  have hc : ((l.To.toNat : Nat) : Int) = l.To := by omega
  have h2 := hl.f
  have hy : (∀ a ∈ yesPut (nth p.Voters l.To.toNat).Yes l.From, 0 ≤ a ∧ a ≤ (p.Net.Homes.length : Int) - 1) ∧ srtK (yesPut (nth p.Voters l.To.toNat).Yes l.From) := by
    refine ⟨fun a ha => ?_, yesPut_srt hx.y.2⟩
    rcases mem_yesPut ha with rfl | ha
    · exact h2
    · exact hx.y.1 a ha
  have hlen := yesPut_len (l := (nth p.Voters l.To.toNat).Yes) (x := l.From)
  unfold cntP
  split
  · rename_i hC
    simp only [cntC, Bool.and_eq_true, decide_eq_true_eq] at hC
    split
    · rename_i hW
      simp only [winC, Bool.and_eq_true, decide_eq_true_eq] at hW
      refine ⟨h.set hi ⟨hx.t, hx.f, hy, .inr ⟨hu, by rw [hc]; exact hC.2⟩, fun _ => ⟨hu, by rw [hc]; exact hC.2, by simp only [yesV]; omega⟩⟩ h.net rfl ?_ ?_, rfl⟩
      · have hw := h.w
        unfold wonP
        split
        · rw [List.length_append]; simp only [List.length_cons, List.length_nil]; omega
        · exact hw
      · intro x hxx
        unfold wonP at hxx
        split at hxx
        · rcases List.mem_append.1 hxx with hxx | hxx
          · exact h.ws x hxx
          · simp only [List.mem_singleton] at hxx
            subst hxx
            exact ⟨by simp only; omega, h1⟩
        · exact h.ws x hxx
    · refine ⟨h.set hi ⟨hx.t, hx.f, hy, .inr ⟨hu, by rw [hc]; exact hC.2⟩, fun e => ?_⟩ h.net rfl h.w h.ws, rfl⟩
      obtain ⟨a, b, c⟩ := hx.l e
      exact ⟨a, b, by simp only [yesV]; omega⟩
  · exact ⟨h, rfl⟩
theorem hear_good {p : Poll} (h : Good p) {l : Letter} (hl : LOk p.Net.Homes.length l) : Good (hearP p l) ∧ (hearP p l).Net.Homes = p.Net.Homes := by
  unfold hearP
  split
  · exact ⟨h, rfl⟩
  · rename_i t ht
    obtain ⟨a, b, _⟩ := rdT_some.1 ht
    split
    · rename_i hu
      split
      · exact ask_good h hl ⟨a, b⟩
      · split
        · exact cnt_good h hl ⟨a, b⟩ hu
        · exact ⟨h, rfl⟩
    · exact ⟨h, rfl⟩
theorem hears_good {p : Poll} (h : Good p) : ∀ {L : List Letter}, (∀ l ∈ L, LOk p.Net.Homes.length l) → Good (L.foldl hearP p) ∧ (L.foldl hearP p).Net.Homes = p.Net.Homes
  | [], _ => ⟨h, rfl⟩
  | l :: L, hL => by
    obtain ⟨h1, h2⟩ := hear_good h (hL l (List.mem_cons_self ..))
    obtain ⟨h3, h4⟩ := hears_good h1 (L := L) (fun x hx => by rw [h2]; exact hL x (List.mem_cons_of_mem _ hx))
    exact ⟨h3, h4.trans h2⟩
theorem good_u {n : Net} (h : goodNet n = true) : ∀ x ∈ n.Under, LOk n.Homes.length x := by
  rw [goodNet_u] at h
  simp only [Bool.and_eq_true, goodU_iff] at h
  exact fun x hx => lok_of (h.2.1 x hx)
theorem good_drop {n : Net} (h : goodNet n = true) (k : Nat) : goodNet (leftN n k) = true := by
  rw [goodNet_u] at h ⊢
  simp only [Bool.and_eq_true, goodU_iff, decide_eq_true_eq] at h ⊢
  obtain ⟨⟨h1, h2⟩, h3, h4⟩ := h
  refine ⟨⟨h1, ?_⟩, fun x hx => h3 x (List.mem_of_mem_drop hx), h4.sublist (List.drop_sublist _ _)⟩
  simp only [leftN, List.length_drop]; omega
theorem tickN_good {n : Net} (h : (tickN n).2 = true) : goodNet n = true ∧ goodNet (tickN n).1 = true ∧ (tickN n).1 = ⟨n.Now + 1, n.Homes, n.Far, n.Under⟩ := by
  unfold tickN at h ⊢
  split at h
  · rename_i hc
    rw [if_pos hc]
    simp only [Bool.and_eq_true, Bool.not_eq_true', decide_eq_false_iff_not] at hc
    refine ⟨hc.1, ?_, rfl⟩
    have h1 := hc.1
    rw [goodNet_u] at h1 ⊢
    simp only [Bool.and_eq_true, rng_iff] at h1 ⊢
    refine ⟨⟨⟨by omega, h1.1.1.2⟩, h1.1.2⟩, h1.2⟩
  · cases h
theorem tick_good {p : Poll} (h : (tickP p).2 = true) : Good p ∧ Good (tickP p).1 ∧ (tickP p).1.Net.Homes = p.Net.Homes := by
  unfold tickP at h ⊢
  split at h
  · rename_i hc
    rw [if_pos hc]
    simp only [tickC, Bool.and_eq_true] at hc
    have hp := good_iff.1 hc.1
    obtain ⟨h1, h2, h3⟩ := tickN_good hc.2
    have hh : (tickN1 p).Homes = p.Net.Homes := by unfold tickN1; rw [h3]
    have h0 : Good (tick0 p) := hp.netP (good_drop h2 _) hh
    have hL : ∀ l ∈ tickL p, LOk (tick0 p).Net.Homes.length l := fun l hl => good_u h2 l (List.mem_of_mem_take hl)
    obtain ⟨h4, h5⟩ := hears_good h0 hL
    exact ⟨hp, h4, h5.trans hh⟩
  · cases h
theorem stand_good {p : Poll} {v : Int} (h : (standV p v).2 = true) : Good p ∧ Good (standV p v).1 ∧ (standV p v).1.Net.Homes = p.Net.Homes := by
  unfold standV at h ⊢
  split at h
  · rename_i hc
    rw [if_pos hc]
    simp only [standC, fallC, Bool.and_eq_true, rng_iff, Bool.not_eq_true', decide_eq_false_iff_not] at hc
    obtain ⟨⟨⟨h1, h2⟩, h3⟩, h4⟩ := hc
    have hp := good_iff.1 h1
    have hv := hp.v
    have hi : v.toNat < p.Voters.length := by omega
    have hx := hp.vs _ hi
    have hc : ((v.toNat : Nat) : Int) = v := by omega
    have ht := hx.t
    refine ⟨hp, hp.set hi ⟨by simp only; omega, by simp only; omega, ⟨by simp; omega, fun i j a b => by simp at b; omega⟩, .inr ⟨rfl, hc.symm⟩, by simp⟩ (spread_good hp.net _) (spread_homes _) hp.w hp.ws, spread_homes _⟩
  · cases h
theorem fall_good {p : Poll} {v : Int} (h : (fallV p v).2 = true) : Good p ∧ Good (fallV p v).1 ∧ (fallV p v).1.Net.Homes = p.Net.Homes := by
  unfold fallV at h ⊢
  split at h
  · rename_i hc
    rw [if_pos hc]
    obtain ⟨h1, h2⟩ := fallC_at hc
    simp only [fallC, Bool.and_eq_true] at hc
    have hp := good_iff.1 hc.1
    have hi : v.toNat < p.Voters.length := by omega
    have hx := hp.vs _ hi
    exact ⟨hp, hp.set hi (vok_new hx.t hx.f _) hp.net rfl hp.w hp.ws, rfl⟩
  · cases h
def netV (p : Poll) (n : Net × Bool) : Poll × Bool := if n.2 = true then (netP p n.1, true) else (zeroP, false)
theorem netV_good {p : Poll} (hp : Good p) {n : Net × Bool} (hn : n.2 = true → goodNet n.1 = true ∧ n.1.Homes = p.Net.Homes) (h : (netV p n).2 = true) : Good (netV p n).1 ∧ (netV p n).1.Net.Homes = p.Net.Homes := by
  unfold netV at h ⊢
  split at h
  · rename_i hc
    rw [if_pos hc]
    obtain ⟨h1, h2⟩ := hn hc
    exact ⟨hp.netP h1 h2, h2⟩
  · cases h
theorem ifN_good {n : Net} (h : (ifN n).2 = true) : goodNet (ifN n).1 = true ∧ (ifN n).1 = n := by
  unfold ifN at h ⊢
  split at h
  · rename_i hc; rw [if_pos hc]; exact ⟨hc, rfl⟩
  · cases h
theorem out_good {n : Net} (h : goodNet n = true) (i : Nat) : goodNet (withN n (outL n.Under i)) = true := by
  rw [goodNet_u] at h ⊢
  simp only [Bool.and_eq_true, goodU_iff, decide_eq_true_eq] at h ⊢
  obtain ⟨⟨h1, h2⟩, h3, h4⟩ := h
  have hs : (outL n.Under i).Sublist n.Under := by
    unfold outL
    conv => rhs; rw [← List.take_append_drop i n.Under]
    exact List.Sublist.append (List.Sublist.refl _) (by rw [← List.drop_drop]; exact List.drop_sublist _ _)
  refine ⟨⟨h1, ?_⟩, fun x hx => h3 x (hs.subset hx), h4.sublist hs⟩
  have := hs.length_le
  simp only [withN]; omega
theorem lose_good {n : Net} {i : Int} (h : (loseN n i).2 = true) : goodNet (loseN n i).1 = true ∧ (loseN n i).1.Homes = n.Homes := by
  unfold loseN at h ⊢
  split at h
  · rename_i hc
    rw [if_pos hc]
    simp only [hasN, Bool.and_eq_true] at hc
    exact ⟨out_good hc.1 _, rfl⟩
  · cases h
theorem dbl_good {n : Net} {i : Int} (h : (dblN n i).2 = true) : goodNet (dblN n i).1 = true ∧ (dblN n i).1.Homes = n.Homes := by
  unfold dblN at h ⊢
  split at h
  · rename_i hc
    rw [if_pos hc]
    obtain ⟨h1, h2⟩ := ifN_good h
    exact ⟨h1, by rw [h2]; rfl⟩
  · cases h
theorem del_good {n : Net} {i b : Int} (h : (delN n i b).2 = true) : goodNet (delN n i b).1 = true ∧ (delN n i b).1.Homes = n.Homes := by
  unfold delN at h ⊢
  split at h
  · rename_i hc
    rw [if_pos hc]
    obtain ⟨h1, h2⟩ := ifN_good h
    exact ⟨h1, by rw [h2]; rfl⟩
  · cases h
theorem srtK_nodup {L : List Int} (h : srtK L) : L.Nodup := by
  rw [List.nodup_iff_pairwise_ne, List.pairwise_iff_getElem]
  intro i j hi hj hij e
  have := h i j hij hj
  rw [nth_lt hi, nth_lt hj, e] at this
  simp [ltI] at this
theorem nodup_len : ∀ (n : Nat) (L : List Int), L.Nodup → (∀ x ∈ L, 0 ≤ x ∧ x < (n : Int)) → L.length ≤ n
  | 0, [], _, _ => Nat.le_refl _
  | 0, x :: L, _, h => by have := h x (List.mem_cons_self ..); omega
  | n + 1, L, hd, h => by
    have h1 : (L.filter (fun x => decide (x ≠ (n : Int)))).length ≤ n := nodup_len n _ (hd.filter _) fun x hx => by
      rw [List.mem_filter] at hx
      have := h x hx.1
      have h2 := hx.2
      simp at h2
      omega
    have h2 : (L.filter (fun x => !decide (x ≠ (n : Int)))).length ≤ 1 := by
      have hn := hd.filter (fun x => !decide (x ≠ (n : Int)))
      have ha : ∀ x ∈ L.filter (fun x => !decide (x ≠ (n : Int))), x = n := fun x hx => by
        rw [List.mem_filter] at hx
        simpa using hx.2
      revert hn ha
      generalize L.filter (fun x => !decide (x ≠ (n : Int))) = M
      intro hn ha
      rcases M with _ | ⟨a, _ | ⟨b, M⟩⟩
      · simp
      · simp
      · exfalso
        have e1 := ha a (by simp)
        have e2 := ha b (by simp)
        rw [e1, e2] at hn
        simp at hn
    have h3 : L.length = (L.filter (fun x => decide (x ≠ (n : Int)))).length + (L.filter (fun x => !decide (x ≠ (n : Int)))).length := by
      clear h1 h2 h hd
      induction L with
      | nil => rfl
      | cons a L ih =>
        simp only [List.filter_cons]
        cases decide (a ≠ (n : Int)) <;> simp only [Bool.not_true, Bool.not_false, Bool.false_eq_true, if_true, if_false, List.length_cons] <;> omega
    omega
theorem szL_le {α : Type} {f : α → Nat} {A : Nat} : ∀ {l : List α}, (∀ x ∈ l, f x ≤ A) → szL f l ≤ l.length * (A + 1)
  | [], _ => by simp [szL]
  | x :: l, h => by
    have h1 := szL_le (l := l) (fun y hy => h y (List.mem_cons_of_mem _ hy))
    have h2 := h x (List.mem_cons_self ..)
    simp only [szL, List.map_cons, List.sum_cons, List.length_cons, Nat.succ_mul] at h1 ⊢
    omega
theorem vok_len {x : Voter} {v : Int} {n : Nat} (h : VOk x v n) : x.Yes.length ≤ n :=
  nodup_len n _ (srtK_nodup h.y.2) fun a ha => by have := h.y.1 a ha; omega
theorem good_sz {p : Poll} (h : Good p) : p.sz ≤ 3000 := by
  have h1 : szL Voter.sz p.Voters ≤ p.Voters.length * 6 := szL_le (A := 5) fun x hx => by
    obtain ⟨i, hi, rfl⟩ := List.getElem_of_mem hx
    have := vok_len (h.vs i hi)
    rw [nth_lt hi] at this
    have hn := h.n
    have e : Voter.sz p.Voters[i] = p.Voters[i].Yes.length := rfl
    omega
  have h2 : szL Letter.sz p.Net.Under ≤ p.Net.Under.length * 41 := szL_le (A := 40) fun x hx => (good_u h.net x hx).b.2
  have h3 := goodNet_len h.net
  have hv := h.v; have hn := h.n; have hw := h.w
  have h4 : p.Voters.length * 6 ≤ 5 * 6 := Nat.mul_le_mul_right _ (by omega)
  have h5 : p.Net.Under.length * 41 ≤ 60 * 41 := Nat.mul_le_mul_right _ (by omega)
  simp only [Poll.sz, Net.sz]
  omega
def doP (p : Poll) (a : PollAct) : Poll × Bool :=
  if a.Kind = 1 then standV p a.Who else if a.Kind = 2 then fallV p a.Who else if a.Kind = 3 then tickP p
  else if a.Kind = 4 then netV p (loseN p.Net a.Who) else if a.Kind = 5 then netV p (dblN p.Net a.Who) else if a.Kind = 6 then netV p (delN p.Net a.Who a.By) else (zeroP, false)
def stepP (p : Poll) (a : PollAct) : Poll := if (doP p a).2 = true then (doP p a).1 else p
def playC (p : Poll) (l : List PollAct) : Bool := goodPoll p && decide (l.length ≤ 200)
def playP (p : Poll) (l : List PollAct) : Poll × Bool := if playC p l = true then (l.foldl stepP p, true) else (zeroP, false)
theorem do_good {p : Poll} (hp : Good p) {a : PollAct} (h : (doP p a).2 = true) : Good (doP p a).1 ∧ (doP p a).1.Net.Homes = p.Net.Homes := by
  unfold doP at h ⊢
  repeat' (split at h)
  · rename_i e; rw [if_pos e]; exact (stand_good h).2
  · rename_i e1 e; rw [if_neg e1, if_pos e]; exact (fall_good h).2
  · rename_i e1 e2 e; rw [if_neg e1, if_neg e2, if_pos e]; exact (tick_good h).2
  · rename_i e1 e2 e3 e; rw [if_neg e1, if_neg e2, if_neg e3, if_pos e]; exact netV_good hp lose_good h
  · rename_i e1 e2 e3 e4 e; rw [if_neg e1, if_neg e2, if_neg e3, if_neg e4, if_pos e]; exact netV_good hp dbl_good h
  · rename_i e1 e2 e3 e4 e5 e; rw [if_neg e1, if_neg e2, if_neg e3, if_neg e4, if_neg e5, if_pos e]; exact netV_good hp del_good h
  · cases h
theorem step_good {p : Poll} (hp : Good p) (a : PollAct) : Good (stepP p a) ∧ (stepP p a).Net.Homes = p.Net.Homes := by
  unfold stepP
  split
  · rename_i h; exact do_good hp h
  · exact ⟨hp, rfl⟩
set_option maxHeartbeats 4000000 in
theorem l8Send_ok (n : Net) (f t : Int) (b : ByteArray) (hm : n.Homes.length ≤ maxLen) : ACall Tryz.prog n_spec_l8Send [.agg (Net.row true n), i64 f, i64 t, str b] (fun r l => r = .agg (Net.row true (sendP n f t b)) ∧ l = [.any, i64 f, i64 t, str b]) := by
  have hmx := mx_eq
  cases hc : (sendN n f t b).2 with
  | false =>
    have e : sendP n f t b = n := by simp [sendP, hc]
    refine fn_inD [true, false, false, false] h_spec_l8Send r_spec_l8Send ⟨by simp only [go_sem], fun E hE hH => ?_⟩; simp only [go_sem] at hE hH; simp only [go_sem, hE, hH, c_spec_l8Send]
    repeat' (first | ((with_reducible first | refine gd_t ?_ ?_ | refine gd_f ?_ ?_) <;> (intro h; have hb := h; (try simp only [nf] at h); simp (disch := omega) only [go_sem, hE, hH, hc, e, hb]; (try clear hb))) | ((with_reducible refine And.intro ?_ ?_); · omega) | ((first | refine ok_view ?_ | refine cvA (sSendTo_ok n f t b hm) ?_); simp (disch := omega) only [go_sem, hE, hH, hc, e]) | (with_reducible apply jn) | (with_reducible apply both) | (with_reducible refine And.intro ?_ ?_) | ((with_reducible apply fin_eq); (try (simp (disch := omega) only [go_sem, hE, hH, hc, e])); first | done | rfl) | (simp (disch := omega) only [go_sem, hE, hH, hc, e]) | ((first | apply noMLL_sE | apply pk_sE) <;> (simp only [go_sem, hE, hH, hc, e]; done)) | (simp only [go_sem, hE, hH, hc, e]) | fail)
    all_goals first | rfl | trace_state
  | true =>
    have e : sendP n f t b = (sendN n f t b).1 := by simp [sendP, hc]
    refine fn_inD [true, false, false, false] h_spec_l8Send r_spec_l8Send ⟨by simp only [go_sem], fun E hE hH => ?_⟩; simp only [go_sem] at hE hH; simp only [go_sem, hE, hH, c_spec_l8Send]
    repeat' (first | ((with_reducible first | refine gd_t ?_ ?_ | refine gd_f ?_ ?_) <;> (intro h; have hb := h; (try simp only [nf] at h); simp (disch := omega) only [go_sem, hE, hH, hc, e, hb]; (try clear hb))) | ((with_reducible refine And.intro ?_ ?_); · omega) | ((first | refine ok_view ?_ | refine cvA (sSendTo_ok n f t b hm) ?_); simp (disch := omega) only [go_sem, hE, hH, hc, e]) | (with_reducible apply jn) | (with_reducible apply both) | (with_reducible refine And.intro ?_ ?_) | ((with_reducible apply fin_eq); (try (simp (disch := omega) only [go_sem, hE, hH, hc, e])); first | done | rfl) | (simp (disch := omega) only [go_sem, hE, hH, hc, e]) | ((first | apply noMLL_sE | apply pk_sE) <;> (simp only [go_sem, hE, hH, hc, e]; done)) | (simp only [go_sem, hE, hH, hc, e]) | fail)
    all_goals first | rfl | trace_state
theorem standV_no {p : Poll} {v : Int} (h : standC p v = false) : standV p v = (zeroP, false) := by simp [standV, h]
theorem standV_yes {p : Poll} {v : Int} (h : standC p v = true) : standV p v = (standX p v, true) := by simp [standV, h]
theorem stand_at {p : Poll} {v : Int} (h : standC p v = true) : Good p ∧ fallC p v = true ∧ 0 ≤ v ∧ v < p.Voters.length ∧ (nth p.Voters v.toNat).Up = true ∧ (nth p.Voters v.toNat).Term ≠ 200 ∧ ∃ t : Nat, (nth p.Voters v.toNat).Term + 1 = t ∧ 1 ≤ t ∧ t ≤ 200 := by
  simp only [standC, Bool.and_eq_true, Bool.not_eq_true', decide_eq_false_iff_not] at h
  obtain ⟨⟨h1, h2⟩, h3⟩ := h
  obtain ⟨k1, k2⟩ := fallC_at h1
  have h4 := h1
  simp only [fallC, Bool.and_eq_true] at h4
  have hp := good_iff.1 h4.1
  have ht := (hp.vs v.toNat (by omega)).t
  exact ⟨hp, h1, k1, k2, h2, h3, ((nth p.Voters v.toNat).Term + 1).toNat, by omega, by omega, by omega⟩
theorem dgt_len (t : Nat) : (dgt t).length ≤ 20 := (numF_len 20 t (by omega)).2
def upTo (p : Poll) (v : Int) (t : Nat) (j : Nat) : Poll := ⟨p.Voters.set v.toNat ⟨true, t, v, [v], false⟩, spread p.Net v (askB 97 t) j, p.Won⟩
set_option maxHeartbeats 4000000 in
theorem StandUp_ok (hI : ItoaH) (p : Poll) (v : Int) (hp : pollOk p) (hq : pollSm p) : ACall Tryz.prog n_impl_StandUp [.agg (Poll.row false p), i64 v] (fun r _ => r = .tup [.agg (Poll.row true (standV p v).1), bl (standV p v).2]) := by
  have hmx := mx_eq
  obtain ⟨h1, h2, h3, h4, h5⟩ := hq
  have hi := isVoterOf_ok p v hp
  rw [fallC_eq] at hi
  cases hc : standC p v with
  | false =>
    have e := standV_no hc
    cases hf : fallC p v with
    | false =>
      rw [hf] at hi
      refine fn_in h_impl_StandUp r_impl_StandUp ⟨by simp only [go_sem], fun E hE hH => ?_⟩; simp only [go_sem] at hE hH; simp only [go_sem, hE, hH, c_impl_StandUp]
      repeat' (first | ((with_reducible first | refine gd_t ?_ ?_ | refine gd_f ?_ ?_) <;> (intro h; have hb := h; (try simp only [nf] at h); simp (disch := omega) only [go_sem, hE, hH, e, hb]; (try clear hb))) | ((with_reducible refine And.intro ?_ ?_); · omega) | ((first | refine ok_view ?_ | refine cvA (hi) ?_); simp (disch := omega) only [go_sem, hE, hH, e]) | (refine jn _ ?_ ?_) | (with_reducible refine both ?_ ?_) | (with_reducible refine And.intro ?_ ?_) | (refine fin_eq ?_; (try (simp (disch := omega) only [go_sem, hE, hH, e])); first | done | rfl) | (simp (disch := omega) only [go_sem, hE, hH, e]) | ((first | apply noMLL_sE | apply pk_sE) <;> (simp only [go_sem, hE, hH, e]; done)) | (simp only [go_sem, hE, hH, e]) | fail)
      all_goals first | rfl | trace_state
    | true =>
      rw [hf] at hi
      obtain ⟨k1, k2⟩ := fallC_at hf
      refine fn_in h_impl_StandUp r_impl_StandUp ⟨by simp only [go_sem], fun E hE hH => ?_⟩; simp only [go_sem] at hE hH; simp only [go_sem, hE, hH, c_impl_StandUp]
      repeat' (first | ((with_reducible first | refine gd_t ?_ ?_ | refine gd_f ?_ ?_) <;> (intro h; have hb := h; (try simp only [nf] at h); simp (disch := omega) only [go_sem, hE, hH, e, hb]; (try clear hb))) | ((with_reducible refine And.intro ?_ ?_); · omega) | ((first | refine ok_view ?_ | refine cvA (hi) ?_); simp (disch := omega) only [go_sem, hE, hH, e]) | (refine jn _ ?_ ?_) | (with_reducible refine both ?_ ?_) | (with_reducible refine And.intro ?_ ?_) | (refine fin_eq ?_; (try (simp (disch := omega) only [go_sem, hE, hH, e])); first | done | rfl) | (simp (disch := omega) only [go_sem, hE, hH, e]) | ((first | apply noMLL_sE | apply pk_sE) <;> (simp only [go_sem, hE, hH, e]; done)) | (simp only [go_sem, hE, hH, e]) | fail)
      all_goals first | rfl | (exfalso; simp_all [standC]; done) | omega | trace_state
  | true =>
    obtain ⟨hg, hf, k1, k2, hu, hn, t, ht, t1, t2⟩ := stand_at hc
    rw [hf] at hi
    rw [standV_yes hc]
    have hk : v.toNat < p.Voters.length := by omega
    have hs := fun r => getD_set_map (f := Voter.row true) (r := r) hk
    refine fn_in h_impl_StandUp r_impl_StandUp ⟨by simp only [go_sem], fun E hE hH => ?_⟩; simp only [go_sem] at hE hH; simp only [go_sem, hE, hH, c_impl_StandUp]
    repeat' (first | ((with_reducible first | refine gd_t ?_ ?_ | refine gd_f ?_ ?_) <;> (intro h; have hb := h; (try simp only [nf] at h); simp (disch := omega) only [go_sem, hE, hH, hs, hu, hn, ht, hb]; (try clear hb))) | ((with_reducible refine And.intro ?_ ?_); · omega) | ((first | refine ok_view ?_ | refine cvA (hi) ?_ | refine cvA (copyPoll_ok p h1 h2 h3 h4 h5) ?_); simp (disch := omega) only [go_sem, hE, hH, hs, hu, hn, ht]) | (with_reducible apply jn) | (with_reducible apply both) | (with_reducible refine And.intro ?_ ?_) | ((with_reducible apply fin_eq); (try (simp (disch := omega) only [go_sem, hE, hH, hs, hu, hn, ht])); first | done | rfl) | (simp (disch := omega) only [go_sem, hE, hH, hs, hu, hn, ht]) | ((first | apply noMLL_sE | apply pk_sE) <;> (simp only [go_sem, hE, hH, hs, hu, hn, ht]; done)) | (simp only [go_sem, hE, hH, hs, hu, hn, ht]) | fail)
    have q9 : 10 ^ 18 = 1000000000000000000 := by decide
    have hsend : ∀ j, ACall Tryz.prog n_pimpl_Net_send [.bo true (Poll.row true (upTo p v t j)) 1, i64 v, i64 j, str ⟨⟨[97] ++ dgt t⟩⟩] (fun r l => r = .tup [] ∧ l = [.bo true (Poll.row true (upTo p v t (j + 1))) 1, i64 v, i64 j, str ⟨⟨[97] ++ dgt t⟩⟩]) := fun j => send_ok (upTo p v t j) v j (askB 97 t) (spread_good hg.net j)
    refine loopNe p.Voters.length (fun j (_ : Unit) => ⟨[(1, i64 v), (4, .ptr 5000000 0 0), (6, .ptr 7000000 0 0), (7, i64 t), (52, i64 p.Voters.length), (53, i64 j)], [(5000000, ⟨6, [[nils, i64 0, nils, i64 0, nils, nils]]⟩), (7000000, ⟨6, [Poll.row true (upTo p v t j)]⟩)]⟩) (fun _ _ => True) () (by simp only [upTo, spread, Poll.row_eq, List.map_set]; rfl) trivial ?_
    intro j _ hj _
    have hdl := dgt_len t
    try simp only [go_sem, hE, hH, c_impl_StandUp_l1]
    first | refine gd_t (fun h => ?_) (fun h => ?_) | refine gd_f (fun h => ?_) (fun h => ?_)
    · have hb := h
      simp only [nf] at h
      have hlt := h; clear h
      try simp (disch := omega) only [go_sem, hE, hH, hb]
      repeat' (first | ((with_reducible first | refine gd_t ?_ ?_ | refine gd_f ?_ ?_) <;> (intro h; have hb := h; (try simp only [nf] at h); simp (disch := omega) only [go_sem, hE, hH, hb]; (try clear hb))) | ((with_reducible refine And.intro ?_ ?_); · omega) | (refine ok_lend [true, false, false, false] ?_; simp (disch := omega) only [go_sem, hE, hH]; refine cmA (hsend j) ?_; simp (disch := omega) only [go_sem, hE, hH]) | ((first | refine ok_view ?_ | refine cvA (hI t (by omega)) ?_); simp (disch := omega) only [go_sem, hE, hH]) | (with_reducible apply jn) | (with_reducible apply both) | (with_reducible refine And.intro ?_ ?_) | ((with_reducible apply fin_eq); (try (simp (disch := omega) only [go_sem, hE, hH])); first | done | rfl) | (simp (disch := omega) only [go_sem, hE, hH]) | ((first | apply noMLL_sE | apply pk_sE) <;> (simp only [go_sem, hE, hH]; done)) | (simp only [go_sem, hE, hH]) | fail)
      all_goals first | omega | exact ⟨(), rfl⟩ | exact ⟨by omega, (), rfl⟩ | trace_state
    · try simp (disch := omega) only [go_sem, hE, hH, h]
      simp only [nf] at h
      have ej : j = p.Voters.length := by omega
      subst ej
      have eX : standX p v = upTo p v t p.Voters.length := by simp only [standX, upTo, ht]
      rw [eX]
      all_goals first | rfl | (refine ⟨?_, ?_⟩ <;> simp; done) | (simp; done) | trace_state
set_option maxHeartbeats 4000000 in
theorem sStandUp_ok (p : Poll) (v : Int) (hp : pollOk p) (hq : pollSm p) : ACall Tryz.prog n_spec_StandUp [.agg (Poll.row false p), i64 v] (fun r _ => r = .tup [.agg (Poll.row true (standV p v).1), bl (standV p v).2]) := by
  have hmx := mx_eq
  obtain ⟨h1, h2, h3, h4, h5⟩ := hq
  have hi := l8Has_ok p v hp
  change ACall Tryz.prog _ _ (fun r _ => r = bl (fallC p v)) at hi
  cases hc : standC p v with
  | false =>
    have e := standV_no hc
    cases hf : fallC p v with
    | false =>
      rw [hf] at hi
      refine fn_in h_spec_StandUp r_spec_StandUp ⟨by simp only [go_sem], fun E hE hH => ?_⟩; simp only [go_sem] at hE hH; simp only [go_sem, hE, hH, c_spec_StandUp]
      repeat' (first | ((with_reducible first | refine gd_t ?_ ?_ | refine gd_f ?_ ?_) <;> (intro h; have hb := h; (try simp only [nf] at h); simp (disch := omega) only [go_sem, hE, hH, e, hb]; (try clear hb))) | ((with_reducible refine And.intro ?_ ?_); · omega) | ((first | refine ok_view ?_ | refine cvA (hi) ?_); simp (disch := omega) only [go_sem, hE, hH, e]) | (refine jn _ ?_ ?_) | (with_reducible refine both ?_ ?_) | (with_reducible refine And.intro ?_ ?_) | (refine fin_eq ?_; (try (simp (disch := omega) only [go_sem, hE, hH, e])); first | done | rfl) | (simp (disch := omega) only [go_sem, hE, hH, e]) | ((first | apply noMLL_sE | apply pk_sE) <;> (simp only [go_sem, hE, hH, e]; done)) | (simp only [go_sem, hE, hH, e]) | fail)
      all_goals first | rfl | trace_state
    | true =>
      rw [hf] at hi
      obtain ⟨k1, k2⟩ := fallC_at hf
      refine fn_in h_spec_StandUp r_spec_StandUp ⟨by simp only [go_sem], fun E hE hH => ?_⟩; simp only [go_sem] at hE hH; simp only [go_sem, hE, hH, c_spec_StandUp]
      repeat' (first | ((with_reducible first | refine gd_t ?_ ?_ | refine gd_f ?_ ?_) <;> (intro h; have hb := h; (try simp only [nf] at h); simp (disch := omega) only [go_sem, hE, hH, e, hb]; (try clear hb))) | ((with_reducible refine And.intro ?_ ?_); · omega) | ((first | refine ok_view ?_ | refine cvA (hi) ?_); simp (disch := omega) only [go_sem, hE, hH, e]) | (refine jn _ ?_ ?_) | (with_reducible refine both ?_ ?_) | (with_reducible refine And.intro ?_ ?_) | (refine fin_eq ?_; (try (simp (disch := omega) only [go_sem, hE, hH, e])); first | done | rfl) | (simp (disch := omega) only [go_sem, hE, hH, e]) | ((first | apply noMLL_sE | apply pk_sE) <;> (simp only [go_sem, hE, hH, e]; done)) | (simp only [go_sem, hE, hH, e]) | fail)
      all_goals first | rfl | (exfalso; simp_all [standC]; done) | omega | trace_state
  | true =>
    obtain ⟨hg, hf, k1, k2, hu, hn, t, ht, t1, t2⟩ := stand_at hc
    rw [hf] at hi
    rw [standV_yes hc]
    have hk : v.toNat < p.Voters.length := by omega
    have hs := fun r => getD_set_map (f := Voter.row true) (r := r) hk
    refine fn_in h_spec_StandUp r_spec_StandUp ⟨by simp only [go_sem], fun E hE hH => ?_⟩; simp only [go_sem] at hE hH; simp only [go_sem, hE, hH, c_spec_StandUp]
    repeat' (first | ((with_reducible first | refine gd_t ?_ ?_ | refine gd_f ?_ ?_) <;> (intro h; have hb := h; (try simp only [nf] at h); simp (disch := omega) only [go_sem, hE, hH, hs, hu, hn, ht, hb]; (try clear hb))) | ((with_reducible refine And.intro ?_ ?_); · omega) | ((first | refine ok_view ?_ | refine cvA (hi) ?_ | refine cvA (l8Own_ok p h1 h2 h3 h4 h5) ?_); simp (disch := omega) only [go_sem, hE, hH, hs, hu, hn, ht]) | (with_reducible apply jn) | (with_reducible apply both) | (with_reducible refine And.intro ?_ ?_) | ((with_reducible apply fin_eq); (try (simp (disch := omega) only [go_sem, hE, hH, hs, hu, hn, ht])); first | done | rfl) | (simp (disch := omega) only [go_sem, hE, hH, hs, hu, hn, ht]) | ((first | apply noMLL_sE | apply pk_sE) <;> (simp only [go_sem, hE, hH, hs, hu, hn, ht]; done)) | (simp only [go_sem, hE, hH, hs, hu, hn, ht]) | fail)
    have q9 : 10 ^ 18 = 1000000000000000000 := by decide
    have hh : ∀ j, (spread p.Net v (askB 97 t) j).Homes.length ≤ maxLen := fun j => by rw [spread_homes]; omega
    have hsend : ∀ j, ACall Tryz.prog n_spec_l8Send [.agg (Net.row true (spread p.Net v (askB 97 t) j)), i64 v, i64 j, str ⟨⟨[97] ++ dgt t⟩⟩] (fun r l => r = .agg (Net.row true (spread p.Net v (askB 97 t) (j + 1))) ∧ l = [.any, i64 v, i64 j, str ⟨⟨[97] ++ dgt t⟩⟩]) := fun j => l8Send_ok (spread p.Net v (askB 97 t) j) v j (askB 97 t) (hh j)
    refine loopNe p.Voters.length (fun j (_ : Unit) => ⟨[(1, i64 v), (2, .ptr 3000000 0 0), (4, .ptr 5000000 0 0), (6, .ptr 7000000 0 0), (7, i64 t), (8, i64 j)], [(3000000, ⟨6, [Poll.row false p]⟩), (5000000, ⟨6, [[nils, i64 0, nils, i64 0, nils, nils]]⟩), (7000000, ⟨6, [[.ref 7000001 0 p.Voters.length, i64 (spread p.Net v (askB 97 t) j).Now, .ref 7000003 0 (spread p.Net v (askB 97 t) j).Homes.length, i64 (spread p.Net v (askB 97 t) j).Far, .ref 7000005 0 (spread p.Net v (askB 97 t) j).Under.length, .ref 7000006 0 p.Won.length]]⟩), (7000001, ⟨5, (p.Voters.set v.toNat ⟨true, t, v, [v], false⟩).map (Voter.row true)⟩), (7000003, ⟨1, ints (spread p.Net v (askB 97 t) j).Homes⟩), (7000005, ⟨4, (spread p.Net v (askB 97 t) j).Under.map (Letter.row true)⟩), (7000006, ⟨2, p.Won.map (Won.row true)⟩)]⟩) (fun _ _ => True) () (by simp only [spread, List.map_set]; rfl) trivial ?_
    intro j _ hj _
    have hdl := dgt_len t
    have hsl : (p.Voters.set v.toNat ⟨true, t, v, [v], false⟩).length = p.Voters.length := List.length_set ..
    have hsn := hsend j
    have esj : (j : Int) = v → spread p.Net v (askB 97 t) (j + 1) = spread p.Net v (askB 97 t) j := fun e => by rw [spread, e, sendP_self]
    try simp only [go_sem, hE, hH, c_spec_StandUp_l1]
    first | refine gd_t (fun h => ?_) (fun h => ?_) | refine gd_f (fun h => ?_) (fun h => ?_)
    · have hb := h
      simp only [nf] at h
      have hlt := h; clear h
      try simp (disch := omega) only [go_sem, hE, hH, hb]
      repeat' (first | ((with_reducible first | refine gd_t ?_ ?_ | refine gd_f ?_ ?_) <;> (intro h; have hb := h; (try simp only [nf] at h); simp (disch := omega) only [go_sem, hE, hH, hb]; (try clear hb))) | ((with_reducible refine And.intro ?_ ?_); · omega) | (refine ok_lend [true, false, false, false] ?_; simp (disch := omega) only [go_sem, hE, hH]; refine cmA (hsn) ?_; simp (disch := omega) only [go_sem, hE, hH]) | ((first | refine ok_view ?_ | refine cvA (l1Num_ok t (by omega)) ?_); simp (disch := omega) only [go_sem, hE, hH]) | (with_reducible apply jn) | (with_reducible apply both) | (with_reducible refine And.intro ?_ ?_) | ((with_reducible apply fin_eq); (try (simp (disch := omega) only [go_sem, hE, hH])); first | done | rfl) | (simp (disch := omega) only [go_sem, hE, hH]) | ((first | apply noMLL_sE | apply pk_sE) <;> (simp only [go_sem, hE, hH]; done)) | (simp only [go_sem, hE, hH]) | fail)
      all_goals first | omega | exact ⟨(), rfl⟩ | (rw [esj (by omega)]; exact ⟨(), rfl⟩) | exact ⟨by omega, (), rfl⟩ | trace_state
    · try simp (disch := omega) only [go_sem, hE, hH, h]
      simp only [nf] at h
      have ej : j = p.Voters.length := by omega
      subst ej
      have eX : standX p v = upTo p v t p.Voters.length := by simp only [standX, upTo, ht]
      rw [eX]
      exact ⟨rfl, rfl, rfl, rfl, rfl, rfl⟩
end Go.Proofs.Wb

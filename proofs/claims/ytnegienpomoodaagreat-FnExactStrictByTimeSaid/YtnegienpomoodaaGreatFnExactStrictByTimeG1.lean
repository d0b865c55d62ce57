/- Contracts of functions. -/
import Derived.Test.YtnegienpomoodaaGreatFnExactStrictByTimeB3
import Derived.Laws.Externs
set_option linter.unusedSimpArgs false
set_option linter.unusedVariables false
set_option linter.unusedSectionVars false
namespace Go.Proofs.Wb
open Go Go.Am
/-! a write put into rows -/
def putW (l : List Write) (w : Write) : List Write := if fwF l w.Key then l.set (fwI l w.Key) w else l.take (fwI l w.Key) ++ [w] ++ l.drop (fwI l w.Key)
theorem fwI_le {l : List Write} {k : ByteArray} : fwI l k ≤ l.length := cntN_le
/-- The boundary of a rising list. -/
theorem fwI_at {l : List Write} (hs : srtW l) {n : Nat} {k : ByteArray} (hn : n ≤ l.length) (h1 : ∀ i, i < n → strLt (nth l i).Key k = true) (h2 : ∀ i, n ≤ i → i < l.length → strLt (nth l i).Key k = false) : fwI l k = n := by
  unfold fwI
  rw [cntN_none hn h2, cntN_all (allN_iff.2 h1)]
theorem fwI_split {l : List Write} (hs : srtW l) (k : ByteArray) : (∀ i, i < fwI l k → strLt (nth l i).Key k = true) ∧ (∀ i, fwI l k ≤ i → i < l.length → strLt (nth l i).Key k = false) := by
  have key : ∀ n, n ≤ l.length → (∃ m, m ≤ n ∧ (∀ i, i < m → strLt (nth l i).Key k = true) ∧ ∀ i, m ≤ i → i < n → strLt (nth l i).Key k = false) := by
    intro n
    induction n with
    | zero => exact fun _ => ⟨0, Nat.le_refl _, fun i h => by omega, fun i _ h => by omega⟩
    | succ n ih =>
      intro hn
      obtain ⟨m, h1, h2, h3⟩ := ih (by omega)
      cases hk : strLt (nth l n).Key k with
      | true =>
        by_cases e : m = n
        · subst e
          exact ⟨m + 1, Nat.le_refl _, fun i hi => by
            by_cases e : i = m
            · rw [e]; exact hk
            · exact h2 i (by omega), fun i _ _ => by omega⟩
        · have := h3 m (Nat.le_refl _) (by omega)
          rw [strLt_trans (hs m n (by omega) hn) hk] at this
          cases this
      | false =>
        exact ⟨m, by omega, h2, fun i hi hi2 => by
          by_cases e : i = n
          · rw [e]; exact hk
          · exact h3 i hi (by omega)⟩
  obtain ⟨m, h1, h2, h3⟩ := key l.length (Nat.le_refl _)
  rw [fwI_at hs h1 h2 h3]
  exact ⟨h2, h3⟩
theorem fwF_iff {l : List Write} {k : ByteArray} (hs : srtW l) : fwF l k = true ↔ fwI l k < l.length ∧ (nth l (fwI l k)).Key = k := by
  obtain ⟨e1, e2⟩ := fw_eq hs k
  rw [← e2, bsF, e1, Bool.and_eq_true, decide_eq_true_iff, decide_eq_true_iff, cmpS_zero]
theorem fw_gt {l : List Write} {k : ByteArray} (hs : srtW l) (hf : fwF l k = false) {i : Nat} (h1 : fwI l k ≤ i) (h2 : i < l.length) : strLt k (nth l i).Key = true := by
  have a := (fwI_split hs k).2 i h1 h2
  rcases strLt_total (nth l i).Key k with h | h | h
  · rw [h] at a; cases a
  · have : fwF l k = true := List.any_eq_true.2 ⟨_, nth_mem h2, by simp [h]⟩
    rw [this] at hf; cases hf
  · exact h
/-- Behind the place of a key all are greater. -/
theorem fw_gt2 {l : List Write} {k : ByteArray} (hs : srtW l) {i : Nat} (hf : fwF l k = true) (h1 : fwI l k < i) (h2 : i < l.length) : strLt k (nth l i).Key = true := by
  obtain ⟨a, b⟩ := (fwF_iff hs).1 hf
  have := hs _ i h1 h2
  rwa [b] at this
theorem putW_yes {l : List Write} {w : Write} (h : fwF l w.Key = true) : putW l w = l.set (fwI l w.Key) w := by rw [putW, if_pos h]
theorem putW_no {l : List Write} {w : Write} (h : fwF l w.Key = false) : putW l w = l.take (fwI l w.Key) ++ [w] ++ l.drop (fwI l w.Key) := by rw [putW, h]; rfl
theorem putW_len (l : List Write) (w : Write) : (putW l w).length ≤ l.length + 1 := by
  unfold putW
  split
  · rw [List.length_set]; omega
  · rw [List.length_append, List.length_append, List.length_take, List.length_drop]; simp; omega
theorem nth_set {α : Type} [Inhabited α] {l : List α} {i j : Nat} {x : α} (h : j < l.length) : nth (l.set i x) j = if i = j then x else nth l j := by
  rw [nth_lt (by simpa using h), List.getElem_set, nth_lt h]
theorem nth_app1 {α : Type} [Inhabited α] {a b : List α} {j : Nat} (h : j < a.length) : nth (a ++ b) j = nth a j := by
  rw [nth_lt (by rw [List.length_append]; omega), List.getElem_append_left h, nth_lt h]
theorem nth_app2 {α : Type} [Inhabited α] {a b : List α} {j : Nat} (h : a.length ≤ j) : nth (a ++ b) j = nth b (j - a.length) := by
  rw [nth, nth, List.getD_eq_getElem?_getD, List.getD_eq_getElem?_getD, List.getElem?_append_right h]
theorem nth_take2 {α : Type} [Inhabited α] {l : List α} {i j : Nat} (h : j < i) : nth (l.take i) j = nth l j := by
  rw [nth, nth, List.getD_eq_getElem?_getD, List.getD_eq_getElem?_getD, List.getElem?_take, if_pos h]
theorem srtW_put {l : List Write} {w : Write} (hs : srtW l) : srtW (putW l w) := by
  cases hf : fwF l w.Key with
  | true =>
    obtain ⟨a, b⟩ := (fwF_iff hs).1 hf
    rw [putW_yes hf]
    intro i j h1 h2
    rw [List.length_set] at h2
    rw [nth_set (by omega), nth_set h2]
    have := hs i j h1 h2
    split <;> split
    · omega
    · rename_i e _; rw [← e, b] at this; exact this
    · rename_i _ e; rw [← e, b] at this; exact this
    · exact this
  | false =>
    obtain ⟨q1, q2⟩ := fwI_split hs w.Key
    have hle := fwI_le (l := l) (k := w.Key)
    have hl1 : (l.take (fwI l w.Key)).length = fwI l w.Key := by rw [List.length_take]; omega
    have hl2 : (l.take (fwI l w.Key) ++ [w]).length = fwI l w.Key + 1 := by rw [List.length_append, hl1]; rfl
    have key : ∀ i, i < l.length + 1 → nth (putW l w) i = if i < fwI l w.Key then nth l i else if i = fwI l w.Key then w else nth l (i - 1) := by
      intro i hi
      rw [putW_no hf]
      split
      · rename_i h; rw [nth_app1 (by omega), nth_app1 (by omega), nth_take2 h]
      · rename_i h
        split
        · rename_i e; rw [nth_app1 (by omega), nth_app2 (by omega), hl1, e, Nat.sub_self]; rfl
        · rename_i e
          rw [nth_app2 (by omega), hl2, nth_drop]
          congr 1; omega
    have hlen : (putW l w).length = l.length + 1 := by
      rw [putW_no hf, List.length_append, hl2, List.length_drop]; omega
    intro i j h1 h2
    rw [hlen] at h2
    rw [key i (by omega), key j h2]
    by_cases a1 : i < fwI l w.Key <;> by_cases a2 : i = fwI l w.Key <;> by_cases b1 : j < fwI l w.Key <;> by_cases b2 : j = fwI l w.Key <;>
      simp only [a1, a2, b1, b2, ↓reduceIte, Nat.lt_irrefl]
    all_goals first
      | omega
      | exact hs _ _ (by omega) (by omega)
      | exact q1 _ (by omega)
      | exact fw_gt hs hf (by omega) (by omega)
theorem putW_mem {l : List Write} {w x : Write} (h : x ∈ putW l w) : x = w ∨ x ∈ l := by
  unfold putW at h
  split at h
  · exact (List.mem_or_eq_of_mem_set h).symm
  · simp only [List.mem_append, List.mem_singleton] at h
    rcases h with (h | h) | h
    · exact .inr (List.mem_of_mem_take h)
    · exact .inl h
    · exact .inr (List.mem_of_mem_drop h)
theorem putWrite_ok (l : List Write) (w : Write) (hl : l.length ≤ 2 ^ 20) (hs : srtW l) : ACall Tryz.prog n_impl_putWrite [.sl true 3 (l.map (Write.row true)), .agg (Write.row false w)] (fun r a => r = .sl true 3 ((putW l w).map (Write.row true)) ∧ a = [.any, .agg (Write.row false w)]) := by
  have hmx := mx_eq
  have hle := fwI_le (l := l) (k := w.Key)
  have e1 : (fwI l w.Key : Int).toNat = fwI l w.Key := by omega
  cases h1 : fwF l w.Key with
  | true =>
    obtain ⟨a, b⟩ := (fwF_iff hs).1 h1
    have i1 := findWrite_ok l w.Key (by omega) hs
    rw [h1] at i1
    have e := putW_yes h1
    refine fn_inD [true, false] h_impl_putWrite r_impl_putWrite ⟨by simp only [go_sem, ↓reduceIte], fun E hE hH => ?_⟩; simp only [go_sem, ↓reduceIte] at hE hH; simp only [go_sem, hE, hH, ↓reduceIte, c_impl_putWrite]
    repeat' (first | ((with_reducible (first | refine gd_t (fun h => ?_) (fun h => ?_) | refine gd_f (fun h => ?_) (fun h => ?_))) <;> (have hb := h; (try simp only [decide_eq_true_eq, decide_eq_false_iff_not, Int.not_lt, Int.not_le, ge_iff_le, gt_iff_lt, Bool.not_eq_true', Bool.not_eq_false', beq_iff_eq, bne_iff_ne, beq_eq_false_iff_ne, bne_eq_false_iff_eq, Int.ofNat_lt, Int.ofNat_le] at h); simp (disch := omega) only [go_sem, hE, hH, ↓reduceIte, e1, hb]; (try clear hb))) | ((with_reducible refine And.intro ?_ ?_); · omega) | (refine ok_view ?_; simp (disch := omega) only [go_sem, hE, hH, ↓reduceIte, e1]) | (refine cvA (i1) ?_; simp (disch := omega) only [go_sem, hE, hH, ↓reduceIte, e1]) | (refine jn _ ?_ ?_) | (with_reducible refine both ?_ ?_) | (with_reducible refine And.intro ?_ ?_) | (refine fin_eq ?_; (try (simp (disch := omega) only [go_sem, hE, hH, ↓reduceIte, e1])); first | done | rfl) | (simp (disch := omega) only [go_sem, hE, hH, ↓reduceIte, e1]) | (exact (noMLL_set (by simp only [go_sem, hE, hH, ↓reduceIte, e1]) (by simp only [go_sem, hE, hH, ↓reduceIte, e1])).2 trivial) | (exact (pk_set (by simp only [go_sem, hE, hH, ↓reduceIte, e1]) (by simp only [go_sem, hE, hH, ↓reduceIte, e1])).2 trivial) | (simp only [go_sem, hE, hH, ↓reduceIte, e1]) | fail)
    all_goals (rw [e, List.map_set]; rfl)
  | false =>
    have i1 := findWrite_ok l w.Key (by omega) hs
    rw [h1] at i1
    have e := putW_no h1
    refine fn_inD [true, false] h_impl_putWrite r_impl_putWrite ⟨by simp only [go_sem, ↓reduceIte], fun E hE hH => ?_⟩; simp only [go_sem, ↓reduceIte] at hE hH; simp only [go_sem, hE, hH, ↓reduceIte, c_impl_putWrite]
    repeat' (first | ((with_reducible (first | refine gd_t (fun h => ?_) (fun h => ?_) | refine gd_f (fun h => ?_) (fun h => ?_))) <;> (have hb := h; (try simp only [decide_eq_true_eq, decide_eq_false_iff_not, Int.not_lt, Int.not_le, ge_iff_le, gt_iff_lt, Bool.not_eq_true', Bool.not_eq_false', beq_iff_eq, bne_iff_ne, beq_eq_false_iff_ne, bne_eq_false_iff_eq, Int.ofNat_lt, Int.ofNat_le] at h); simp (disch := omega) only [go_sem, hE, hH, ↓reduceIte, e1, hb]; (try clear hb))) | ((with_reducible refine And.intro ?_ ?_); · omega) | (refine ok_lend [true, false, false] ?_; simp (disch := omega) only [go_sem, hE, hH, ↓reduceIte, e1]; refine cmA (Insert_Write_ok l [w] (fwI l w.Key) (by omega) (by omega) (by omega) (by simp)) ?_; simp (disch := omega) only [go_sem, hE, hH, ↓reduceIte, e1]) | (refine ok_view ?_; simp (disch := omega) only [go_sem, hE, hH, ↓reduceIte, e1]) | (refine cvA (i1) ?_; simp (disch := omega) only [go_sem, hE, hH, ↓reduceIte, e1]) | (refine jn _ ?_ ?_) | (with_reducible refine both ?_ ?_) | (with_reducible refine And.intro ?_ ?_) | (refine fin_eq ?_; (try (simp (disch := omega) only [go_sem, hE, hH, ↓reduceIte, e1])); first | done | rfl) | (simp (disch := omega) only [go_sem, hE, hH, ↓reduceIte, e1]) | (exact (noMLL_set (by simp only [go_sem, hE, hH, ↓reduceIte, e1]) (by simp only [go_sem, hE, hH, ↓reduceIte, e1])).2 trivial) | (exact (pk_set (by simp only [go_sem, hE, hH, ↓reduceIte, e1]) (by simp only [go_sem, hE, hH, ↓reduceIte, e1])).2 trivial) | (simp only [go_sem, hE, hH, ↓reduceIte, e1]) | fail)
    all_goals rw [e]
def putR (l ws : List Write) : List Write := (ws.foldl putW l).filter fun w => !w.Gone
theorem foldl_take {α β : Type} [Inhabited α] {f : β → α → β} {b : β} {l : List α} {j : Nat} (h : j < l.length) : (l.take (j + 1)).foldl f b = f ((l.take j).foldl f b) (nth l j) := by
  simp only [take_nth h, List.foldl_append, List.foldl_cons, List.foldl_nil]
theorem flt_in {α : Type} [Inhabited α] {p : α → Bool} {l : List α} {j : Nat} (hj : j < l.length) (h : p (nth l j) = true) : (l.take (j + 1)).filter p = (l.take j).filter p ++ [nth l j] := by
  simp [take_nth hj, List.filter_append, h]
theorem flt_out {α : Type} [Inhabited α] {p : α → Bool} {l : List α} {j : Nat} (hj : j < l.length) (h : p (nth l j) = false) : (l.take (j + 1)).filter p = (l.take j).filter p := by
  simp [take_nth hj, List.filter_append, h]
theorem putWs_srt {ws : List Write} : ∀ {l : List Write}, srtW l → srtW (ws.foldl putW l) := by
  induction ws with
  | nil => exact fun h => h
  | cons w t ih => exact fun h => ih (srtW_put h)
theorem putWs_len {ws : List Write} : ∀ {l : List Write}, (ws.foldl putW l).length ≤ l.length + ws.length := by
  induction ws with
  | nil => intro l; simp
  | cons w t ih =>
    intro l
    have := ih (l := putW l w)
    have := putW_len l w
    simp only [List.foldl_cons, List.length_cons]; omega
theorem putWs_mem {ws : List Write} : ∀ {l : List Write} {x : Write}, x ∈ ws.foldl putW l → x ∈ ws ∨ x ∈ l := by
  induction ws with
  | nil => exact fun h => .inr h
  | cons w t ih =>
    intro l x h
    rcases ih h with h | h
    · exact .inl (List.mem_cons_of_mem _ h)
    · rcases putW_mem h with h | h
      · exact .inl (h ▸ List.mem_cons_self)
      · exact .inr h
theorem putRows_1_ok (w : Write) : ACall Tryz.prog n_impl_putRows_1 ([.agg (Write.row false w)] ++ []) (fun r _ => r = bl w.Gone) := by
  refine fn_in h_impl_putRows_1 r_impl_putRows_1 ⟨by simp only [go_sem, ↓reduceIte], fun E hE hH => ?_⟩; simp only [go_sem, ↓reduceIte] at hE hH; simp only [go_sem, hE, hH, ↓reduceIte, c_impl_putRows_1]
  repeat' (first | ((with_reducible (first | refine gd_t (fun h => ?_) (fun h => ?_) | refine gd_f (fun h => ?_) (fun h => ?_))) <;> (have hb := h; (try simp only [decide_eq_true_eq, decide_eq_false_iff_not, Int.not_lt, Int.not_le, ge_iff_le, gt_iff_lt, Bool.not_eq_true', Bool.not_eq_false', beq_iff_eq, bne_iff_ne, beq_eq_false_iff_ne, bne_eq_false_iff_eq, Int.ofNat_lt, Int.ofNat_le] at h); simp (disch := omega) only [go_sem, hE, hH, ↓reduceIte, hb]; (try clear hb))) | ((with_reducible refine And.intro ?_ ?_); · omega) | (refine jn _ ?_ ?_) | (with_reducible refine both ?_ ?_) | (with_reducible refine And.intro ?_ ?_) | (refine fin_eq ?_; (try (simp (disch := omega) only [go_sem, hE, hH, ↓reduceIte])); first | done | rfl) | (simp (disch := omega) only [go_sem, hE, hH, ↓reduceIte]) | (exact (noMLL_set (by simp only [go_sem, hE, hH, ↓reduceIte]) (by simp only [go_sem, hE, hH, ↓reduceIte])).2 trivial) | (exact (pk_set (by simp only [go_sem, hE, hH, ↓reduceIte]) (by simp only [go_sem, hE, hH, ↓reduceIte])).2 trivial) | (simp only [go_sem, hE, hH, ↓reduceIte]) | fail)
theorem putRows_ok (l ws : List Write) (hl : l.length ≤ 2 ^ 18) (hw : ws.length ≤ 2 ^ 18) (hs : srtW l) : ACall Tryz.prog n_impl_putRows [.sl false 3 (l.map (Write.row false)), .sl false 3 (ws.map (Write.row false))] (fun r _ => r = if (putR l ws).length ≤ 24 then .tup [.sl true 3 ((putR l ws).map (Write.row true)), bl true] else .tup [.sl true 3 [], bl false]) := by
  have hmx := mx_eq
  refine fn_in h_impl_putRows r_impl_putRows ⟨by simp only [go_sem, ↓reduceIte], fun E hE hH => ?_⟩; simp only [go_sem, ↓reduceIte] at hE hH; simp only [go_sem, hE, hH, ↓reduceIte, c_impl_putRows]
  repeat' (first | ((with_reducible (first | refine gd_t (fun h => ?_) (fun h => ?_) | refine gd_f (fun h => ?_) (fun h => ?_))) <;> (have hb := h; (try simp only [decide_eq_true_eq, decide_eq_false_iff_not, Int.not_lt, Int.not_le, ge_iff_le, gt_iff_lt, Bool.not_eq_true', Bool.not_eq_false', beq_iff_eq, bne_iff_ne, beq_eq_false_iff_ne, bne_eq_false_iff_eq, Int.ofNat_lt, Int.ofNat_le] at h); simp (disch := omega) only [go_sem, hE, hH, ↓reduceIte, hb]; (try clear hb))) | ((with_reducible refine And.intro ?_ ?_); · omega) | (refine ok_view ?_; simp (disch := omega) only [go_sem, hE, hH, ↓reduceIte]) | (refine cvA (Clone_Write_ok l (by omega)) ?_; simp (disch := omega) only [go_sem, hE, hH, ↓reduceIte]) | (refine jn _ ?_ ?_) | (with_reducible refine both ?_ ?_) | (with_reducible refine And.intro ?_ ?_) | (refine fin_eq ?_; (try (simp (disch := omega) only [go_sem, hE, hH, ↓reduceIte])); first | done | rfl) | (simp (disch := omega) only [go_sem, hE, hH, ↓reduceIte]) | (exact (noMLL_set (by simp only [go_sem, hE, hH, ↓reduceIte]) (by simp only [go_sem, hE, hH, ↓reduceIte])).2 trivial) | (exact (pk_set (by simp only [go_sem, hE, hH, ↓reduceIte]) (by simp only [go_sem, hE, hH, ↓reduceIte])).2 trivial) | (simp only [go_sem, hE, hH, ↓reduceIte]) | fail)
  refine loopNe ws.length (fun j (x : List Write) => ⟨[(6, .ref 7000000 0 x.length), (11, .sl false 3 (ws.map (Write.row false))), (12, i64 ws.length), (13, i64 j)], [(7000000, ⟨3, x.map (Write.row true)⟩)]⟩) (fun j x => x = (ws.take j).foldl putW l) l rfl rfl ?_
  intro j x hj hI
  try simp only [go_sem, hE, hH, ↓reduceIte, c_impl_putRows_l1]
  have hx : x.length ≤ 2 ^ 19 := by
    have := putWs_len (ws := ws.take j) (l := l)
    rw [← hI, List.length_take] at this; omega
  have hxs : srtW x := by rw [hI]; exact putWs_srt hs
  first | refine gd_t (fun h1 => ?_) (fun h1 => ?_) | refine gd_f (fun h1 => ?_) (fun h1 => ?_)
  · have hb1 := h1
    simp only [decide_eq_true_eq, decide_eq_false_iff_not, Int.not_lt, Int.not_le, ge_iff_le, gt_iff_lt, Bool.not_eq_true', Bool.not_eq_false', beq_iff_eq, bne_iff_ne, beq_eq_false_iff_ne, bne_eq_false_iff_eq, Int.ofNat_lt, Int.ofNat_le] at h1
    have hlt := h1; clear h1
    try simp (disch := omega) only [go_sem, hE, hH, ↓reduceIte, hb1]
    repeat' (first | ((with_reducible (first | refine gd_t (fun h => ?_) (fun h => ?_) | refine gd_f (fun h => ?_) (fun h => ?_))) <;> (have hb := h; (try simp only [decide_eq_true_eq, decide_eq_false_iff_not, Int.not_lt, Int.not_le, ge_iff_le, gt_iff_lt, Bool.not_eq_true', Bool.not_eq_false', beq_iff_eq, bne_iff_ne, beq_eq_false_iff_ne, bne_eq_false_iff_eq, Int.ofNat_lt, Int.ofNat_le] at h); simp (disch := omega) only [go_sem, hE, hH, ↓reduceIte, hb]; (try clear hb))) | ((with_reducible refine And.intro ?_ ?_); · omega) | (refine ok_lend [true, false] ?_; simp (disch := omega) only [go_sem, hE, hH, ↓reduceIte]; refine cmA (putWrite_ok x (nth ws j) (by omega) hxs) ?_; simp (disch := omega) only [go_sem, hE, hH, ↓reduceIte]) | (refine jn _ ?_ ?_) | (with_reducible refine both ?_ ?_) | (with_reducible refine And.intro ?_ ?_) | (refine fin_eq ?_; (try (simp (disch := omega) only [go_sem, hE, hH, ↓reduceIte])); first | done | rfl) | (simp (disch := omega) only [go_sem, hE, hH, ↓reduceIte]) | (exact (noMLL_set (by simp only [go_sem, hE, hH, ↓reduceIte]) (by simp only [go_sem, hE, hH, ↓reduceIte])).2 trivial) | (exact (pk_set (by simp only [go_sem, hE, hH, ↓reduceIte]) (by simp only [go_sem, hE, hH, ↓reduceIte])).2 trivial) | (simp only [go_sem, hE, hH, ↓reduceIte]) | fail)
    all_goals (rw [foldl_take hlt, ← hI]; rfl)
  · try simp (disch := omega) only [go_sem, hE, hH, ↓reduceIte, h1]
    simp only [decide_eq_true_eq, decide_eq_false_iff_not, Int.not_lt, Int.not_le, ge_iff_le, gt_iff_lt, Bool.not_eq_true', Bool.not_eq_false', beq_iff_eq, bne_iff_ne, beq_eq_false_iff_ne, bne_eq_false_iff_eq, Int.ofNat_lt, Int.ofNat_le] at h1
    rw [show j = ws.length by omega, List.take_length] at hI
    have e : (x.filter fun w => !w.Gone) = putR l ws := by rw [hI]; rfl
    repeat' (first | ((with_reducible (first | refine gd_t (fun h => ?_) (fun h => ?_) | refine gd_f (fun h => ?_) (fun h => ?_))) <;> (have hb := h; (try simp only [decide_eq_true_eq, decide_eq_false_iff_not, Int.not_lt, Int.not_le, ge_iff_le, gt_iff_lt, Bool.not_eq_true', Bool.not_eq_false', beq_iff_eq, bne_iff_ne, beq_eq_false_iff_ne, bne_eq_false_iff_eq, Int.ofNat_lt, Int.ofNat_le] at h); simp (disch := omega) only [go_sem, hE, hH, ↓reduceIte, hb]; (try clear hb))) | ((with_reducible refine And.intro ?_ ?_); · omega) | (refine ok_lend [true, false] ?_; simp (disch := omega) only [go_sem, hE, hH, ↓reduceIte]; refine cmA (DeleteFunc_Write_ok x _ [] (fun w => w.Gone) (by kernel_rfl) rfl (by omega) (fun w _ => putRows_1_ok w)) ?_; simp (disch := omega) only [go_sem, hE, hH, ↓reduceIte]) | (refine jn _ ?_ ?_) | (with_reducible refine both ?_ ?_) | (with_reducible refine And.intro ?_ ?_) | (refine fin_eq ?_; (try (simp (disch := omega) only [go_sem, hE, hH, ↓reduceIte])); first | done | rfl) | (simp (disch := omega) only [go_sem, hE, hH, ↓reduceIte]) | (exact (noMLL_set (by simp only [go_sem, hE, hH, ↓reduceIte]) (by simp only [go_sem, hE, hH, ↓reduceIte])).2 trivial) | (exact (pk_set (by simp only [go_sem, hE, hH, ↓reduceIte]) (by simp only [go_sem, hE, hH, ↓reduceIte])).2 trivial) | (simp only [go_sem, hE, hH, ↓reduceIte]) | fail)
    · rw [e] at h
      rw [if_neg (by omega)]
      try simp (disch := omega) only [go_sem, hE, hH, ↓reduceIte]
    · rw [e] at h ⊢
      rw [if_pos (by omega)]
      try simp (disch := omega) only [go_sem, hE, hH, ↓reduceIte]
/-- What rows tell of a key. -/
def gotW (l : List Write) (k : ByteArray) : Got := if ixf (fun w => decide (w.Key = k)) l < 0 then ⟨k, ⟨⟨[]⟩⟩, false⟩ else ⟨k, (nth l (ixf (fun w => decide (w.Key = k)) l).toNat).Val, true⟩
theorem gotW_no {l : List Write} {k : ByteArray} (h : fwF l k = false) : gotW l k = ⟨k, ⟨⟨[]⟩⟩, false⟩ := by
  have e := ixf_any (p := fun w : Write => decide (w.Key = k)) (l := l)
  rw [show (l.any fun w => decide (w.Key = k)) = fwF l k from rfl, h, decide_eq_false_iff_not] at e
  rw [gotW, if_pos (by omega)]
theorem gotW_yes {l : List Write} {k : ByteArray} (hs : srtW l) (h : fwF l k = true) : gotW l k = ⟨k, (nth l (fwI l k)).Val, true⟩ := by
  obtain ⟨a, b⟩ := (fwF_iff hs).1 h
  have e : ixf (fun w : Write => decide (w.Key = k)) l = fwI l k := ixf_at (p := fun w : Write => decide (w.Key = k)) a (allN_iff.2 fun i hi => by
    have := hs i _ hi a
    rw [b] at this
    simp [strLt_ne this]) (by simp [b])
  rw [gotW, e, if_neg (by omega)]; rfl
theorem got_eq {a b : Got} : (decide (a.Key = b.Key) && (decide (a.Val = b.Val) && a.There == b.There)) = decide (a = b) := by
  rcases a with ⟨a1, a2, a3⟩
  rcases b with ⟨b1, b2, b3⟩
  rw [Bool.eq_iff_iff]
  simp
def confD (l : List Write) (d : Deed) : Bool := d.Got.all fun g => decide (gotW l g.Key = g)
theorem gotOf_ok (l : List Write) (k : ByteArray) (hl : l.length ≤ 2 ^ 20) (hs : srtW l) : ACall Tryz.prog n_impl_gotOf [.sl false 3 (l.map (Write.row false)), str k] (fun r _ => r = .agg (Got.row true (gotW l k))) := by
  have hmx := mx_eq
  have i1 := findWrite_ok l k (by omega) hs
  cases h1 : fwF l k with
  | false =>
    rw [h1] at i1
    have e := gotW_no h1
    refine fn_in h_impl_gotOf r_impl_gotOf ⟨by simp only [go_sem, ↓reduceIte], fun E hE hH => ?_⟩; simp only [go_sem, ↓reduceIte] at hE hH; simp only [go_sem, hE, hH, ↓reduceIte, c_impl_gotOf]
    repeat' (first | ((with_reducible (first | refine gd_t (fun h => ?_) (fun h => ?_) | refine gd_f (fun h => ?_) (fun h => ?_))) <;> (have hb := h; (try simp only [decide_eq_true_eq, decide_eq_false_iff_not, Int.not_lt, Int.not_le, ge_iff_le, gt_iff_lt, Bool.not_eq_true', Bool.not_eq_false', beq_iff_eq, bne_iff_ne, beq_eq_false_iff_ne, bne_eq_false_iff_eq, Int.ofNat_lt, Int.ofNat_le] at h); simp (disch := omega) only [go_sem, hE, hH, ↓reduceIte, hb]; (try clear hb))) | ((with_reducible refine And.intro ?_ ?_); · omega) | (refine ok_view ?_; simp (disch := omega) only [go_sem, hE, hH, ↓reduceIte]) | (refine cvA (i1) ?_; simp (disch := omega) only [go_sem, hE, hH, ↓reduceIte]) | (refine jn _ ?_ ?_) | (with_reducible refine both ?_ ?_) | (with_reducible refine And.intro ?_ ?_) | (refine fin_eq ?_; (try (simp (disch := omega) only [go_sem, hE, hH, ↓reduceIte])); first | done | rfl) | (simp (disch := omega) only [go_sem, hE, hH, ↓reduceIte]) | (exact (noMLL_set (by simp only [go_sem, hE, hH, ↓reduceIte]) (by simp only [go_sem, hE, hH, ↓reduceIte])).2 trivial) | (exact (pk_set (by simp only [go_sem, hE, hH, ↓reduceIte]) (by simp only [go_sem, hE, hH, ↓reduceIte])).2 trivial) | (simp only [go_sem, hE, hH, ↓reduceIte]) | fail)
    all_goals (rw [e]; try rfl)
  | true =>
    obtain ⟨a, b⟩ := (fwF_iff hs).1 h1
    rw [h1] at i1
    have e := gotW_yes hs h1
    refine fn_in h_impl_gotOf r_impl_gotOf ⟨by simp only [go_sem, ↓reduceIte], fun E hE hH => ?_⟩; simp only [go_sem, ↓reduceIte] at hE hH; simp only [go_sem, hE, hH, ↓reduceIte, c_impl_gotOf]
    repeat' (first | ((with_reducible (first | refine gd_t (fun h => ?_) (fun h => ?_) | refine gd_f (fun h => ?_) (fun h => ?_))) <;> (have hb := h; (try simp only [decide_eq_true_eq, decide_eq_false_iff_not, Int.not_lt, Int.not_le, ge_iff_le, gt_iff_lt, Bool.not_eq_true', Bool.not_eq_false', beq_iff_eq, bne_iff_ne, beq_eq_false_iff_ne, bne_eq_false_iff_eq, Int.ofNat_lt, Int.ofNat_le] at h); simp (disch := omega) only [go_sem, hE, hH, ↓reduceIte, hb]; (try clear hb))) | ((with_reducible refine And.intro ?_ ?_); · omega) | (refine ok_view ?_; simp (disch := omega) only [go_sem, hE, hH, ↓reduceIte]) | (refine cvA (i1) ?_; simp (disch := omega) only [go_sem, hE, hH, ↓reduceIte]) | (refine jn _ ?_ ?_) | (with_reducible refine both ?_ ?_) | (with_reducible refine And.intro ?_ ?_) | (refine fin_eq ?_; (try (simp (disch := omega) only [go_sem, hE, hH, ↓reduceIte])); first | done | rfl) | (simp (disch := omega) only [go_sem, hE, hH, ↓reduceIte]) | (exact (noMLL_set (by simp only [go_sem, hE, hH, ↓reduceIte]) (by simp only [go_sem, hE, hH, ↓reduceIte])).2 trivial) | (exact (pk_set (by simp only [go_sem, hE, hH, ↓reduceIte]) (by simp only [go_sem, hE, hH, ↓reduceIte])).2 trivial) | (simp only [go_sem, hE, hH, ↓reduceIte]) | fail)
    all_goals (rw [e]; try rfl)
theorem confirms_1_ok (l : List Write) (g : Got) (hl : l.length ≤ 2 ^ 20) (hs : srtW l) : ACall Tryz.prog n_impl_Deed_confirms_1 ([.agg (Got.row false g)] ++ [.bx false [.sl false 3 (l.map (Write.row false))]]) (fun r _ => r = bl (!decide (gotW l g.Key = g))) := by
  refine fn_in h_impl_Deed_confirms_1 r_impl_Deed_confirms_1 ⟨by simp only [go_sem, ↓reduceIte], fun E hE hH => ?_⟩; simp only [go_sem, ↓reduceIte] at hE hH; simp only [go_sem, hE, hH, ↓reduceIte, c_impl_Deed_confirms_1]
  repeat' (first | ((with_reducible (first | refine gd_t (fun h => ?_) (fun h => ?_) | refine gd_f (fun h => ?_) (fun h => ?_))) <;> (have hb := h; (try simp only [decide_eq_true_eq, decide_eq_false_iff_not, Int.not_lt, Int.not_le, ge_iff_le, gt_iff_lt, Bool.not_eq_true', Bool.not_eq_false', beq_iff_eq, bne_iff_ne, beq_eq_false_iff_ne, bne_eq_false_iff_eq, Int.ofNat_lt, Int.ofNat_le] at h); simp (disch := omega) only [go_sem, hE, hH, ↓reduceIte, hb]; (try clear hb))) | ((with_reducible refine And.intro ?_ ?_); · omega) | (refine ok_view ?_; simp (disch := omega) only [go_sem, hE, hH, ↓reduceIte]) | (refine cvA (gotOf_ok l g.Key hl hs) ?_; simp (disch := omega) only [go_sem, hE, hH, ↓reduceIte]) | (refine jn _ ?_ ?_) | (with_reducible refine both ?_ ?_) | (with_reducible refine And.intro ?_ ?_) | (refine fin_eq ?_; (try (simp (disch := omega) only [go_sem, hE, hH, ↓reduceIte])); first | done | rfl) | (simp (disch := omega) only [go_sem, hE, hH, ↓reduceIte]) | (exact (noMLL_set (by simp only [go_sem, hE, hH, ↓reduceIte]) (by simp only [go_sem, hE, hH, ↓reduceIte])).2 trivial) | (exact (pk_set (by simp only [go_sem, hE, hH, ↓reduceIte]) (by simp only [go_sem, hE, hH, ↓reduceIte])).2 trivial) | (simp only [go_sem, hE, hH, ↓reduceIte]) | fail)
  all_goals rw [got_eq]
theorem confirms_ok (l : List Write) (d : Deed) (hg : d.Got.length ≤ maxLen) (hl : l.length ≤ 2 ^ 20) (hs : srtW l) : ACall Tryz.prog n_impl_Deed_confirms [.agg (Deed.row false d), .sl false 3 (l.map (Write.row false))] (fun r _ => r = bl (confD l d)) := by
  have e : (!d.Got.any fun g => !decide (gotW l g.Key = g)) = confD l d := any_not_all
  refine fn_in h_impl_Deed_confirms r_impl_Deed_confirms ⟨by simp only [go_sem, ↓reduceIte], fun E hE hH => ?_⟩; simp only [go_sem, ↓reduceIte] at hE hH; simp only [go_sem, hE, hH, ↓reduceIte, c_impl_Deed_confirms]
  repeat' (first | ((with_reducible (first | refine gd_t (fun h => ?_) (fun h => ?_) | refine gd_f (fun h => ?_) (fun h => ?_))) <;> (have hb := h; (try simp only [decide_eq_true_eq, decide_eq_false_iff_not, Int.not_lt, Int.not_le, ge_iff_le, gt_iff_lt, Bool.not_eq_true', Bool.not_eq_false', beq_iff_eq, bne_iff_ne, beq_eq_false_iff_ne, bne_eq_false_iff_eq, Int.ofNat_lt, Int.ofNat_le] at h); simp (disch := omega) only [go_sem, hE, hH, ↓reduceIte, hb]; (try clear hb))) | ((with_reducible refine And.intro ?_ ?_); · omega) | (refine ok_view ?_; simp (disch := omega) only [go_sem, hE, hH, ↓reduceIte]) | (refine cvA (ContainsFunc_Got_ok d.Got _ [.bx false [.sl false 3 (l.map (Write.row false))]] (fun g => !decide (gotW l g.Key = g)) (by kernel_rfl) rfl hg (fun g _ => confirms_1_ok l g hl hs)) ?_; simp (disch := omega) only [go_sem, hE, hH, ↓reduceIte]) | (refine jn _ ?_ ?_) | (with_reducible refine both ?_ ?_) | (with_reducible refine And.intro ?_ ?_) | (refine fin_eq ?_; (try (simp (disch := omega) only [go_sem, hE, hH, ↓reduceIte])); first | done | rfl) | (simp (disch := omega) only [go_sem, hE, hH, ↓reduceIte]) | (exact (noMLL_set (by simp only [go_sem, hE, hH, ↓reduceIte]) (by simp only [go_sem, hE, hH, ↓reduceIte])).2 trivial) | (exact (pk_set (by simp only [go_sem, hE, hH, ↓reduceIte]) (by simp only [go_sem, hE, hH, ↓reduceIte])).2 trivial) | (simp only [go_sem, hE, hH, ↓reduceIte]) | fail)
  all_goals rw [e]
theorem l5Tell_ok (l : List Write) (k : ByteArray) (hl : l.length ≤ maxLen) : ACall Tryz.prog n_spec_l5Tell [.sl false 3 (l.map (Write.row false)), str k] (fun r _ => r = .agg (Got.row true (gotW l k))) := by
  have hmx := mx_eq
  have hall : ∀ {j : Nat}, j < l.length → allN (fun i => !decide ((nth l i).Key = k)) j = true → (nth l j).Key = k → gotW l k = ⟨k, (nth l j).Val, true⟩ := by
    intro j h1 h2 h3
    have e : ixf (fun w : Write => decide (w.Key = k)) l = j := ixf_at (p := fun w : Write => decide (w.Key = k)) h1 h2 (by simp [h3])
    rw [gotW, e, if_neg (by omega)]; rfl
  refine fn_in h_spec_l5Tell r_spec_l5Tell ⟨by simp only [go_sem, ↓reduceIte], fun E hE hH => ?_⟩; simp only [go_sem, ↓reduceIte] at hE hH; simp only [go_sem, hE, hH, ↓reduceIte, c_spec_l5Tell]
  try simp (disch := omega) only [go_sem, hE, hH, ↓reduceIte]
  refine loopN l.length (fun j (_ : Unit) => ⟨[(1, str k), (4, .ptr 5000000 0 0), (7, .sl false 3 (l.map (Write.row false))), (8, i64 l.length), (9, i64 j)], [(5000000, ⟨3, [[str ⟨⟨[]⟩⟩, str ⟨⟨[]⟩⟩, bl false]]⟩)]⟩) (fun j _ => allN (fun i => !decide ((nth l i).Key = k)) j = true) () rfl ?_
  intro j _ hj hI
  try simp only [go_sem, hE, hH, ↓reduceIte, c_spec_l5Tell_l1]
  first | refine gd_t (fun h1 => ?_) (fun h1 => ?_) | refine gd_f (fun h1 => ?_) (fun h1 => ?_)
  · have hb1 := h1
    simp only [decide_eq_true_eq, decide_eq_false_iff_not, Int.not_lt, Int.not_le, ge_iff_le, gt_iff_lt, Bool.not_eq_true', Bool.not_eq_false', beq_iff_eq, bne_iff_ne, beq_eq_false_iff_ne, bne_eq_false_iff_eq, Int.ofNat_lt, Int.ofNat_le] at h1
    have hlt := h1; clear h1
    try simp (disch := omega) only [go_sem, hE, hH, ↓reduceIte, hb1]
    repeat' (first | ((with_reducible (first | refine gd_t (fun h => ?_) (fun h => ?_) | refine gd_f (fun h => ?_) (fun h => ?_))) <;> (have hb := h; (try simp only [decide_eq_true_eq, decide_eq_false_iff_not, Int.not_lt, Int.not_le, ge_iff_le, gt_iff_lt, Bool.not_eq_true', Bool.not_eq_false', beq_iff_eq, bne_iff_ne, beq_eq_false_iff_ne, bne_eq_false_iff_eq, Int.ofNat_lt, Int.ofNat_le] at h); simp (disch := omega) only [go_sem, hE, hH, ↓reduceIte, hb]; (try clear hb))) | ((with_reducible refine And.intro ?_ ?_); · omega) | (refine jn _ ?_ ?_) | (with_reducible refine both ?_ ?_) | (with_reducible refine And.intro ?_ ?_) | (refine fin_eq ?_; (try (simp (disch := omega) only [go_sem, hE, hH, ↓reduceIte])); first | done | rfl) | (simp (disch := omega) only [go_sem, hE, hH, ↓reduceIte]) | (exact (noMLL_set (by simp only [go_sem, hE, hH, ↓reduceIte]) (by simp only [go_sem, hE, hH, ↓reduceIte])).2 trivial) | (exact (pk_set (by simp only [go_sem, hE, hH, ↓reduceIte]) (by simp only [go_sem, hE, hH, ↓reduceIte])).2 trivial) | (simp only [go_sem, hE, hH, ↓reduceIte]) | fail)
    all_goals try (rw [hall hlt hI (by assumption)]; done)
    · first | exact ⟨(), rfl, allN_step hI (by simp [h])⟩ | exact ⟨by omega, (), rfl, allN_step hI (by simp [h])⟩ | exact ⟨by omega, by omega, (), rfl, allN_step hI (by simp [h])⟩
  · try simp (disch := omega) only [go_sem, hE, hH, ↓reduceIte, h1]
    simp only [decide_eq_true_eq, decide_eq_false_iff_not, Int.not_lt, Int.not_le, ge_iff_le, gt_iff_lt, Bool.not_eq_true', Bool.not_eq_false', beq_iff_eq, bne_iff_ne, beq_eq_false_iff_ne, bne_eq_false_iff_eq, Int.ofNat_lt, Int.ofNat_le] at h1
    rw [show j = l.length by omega] at hI
    have e : ixf (fun w : Write => decide (w.Key = k)) l = -1 := ixf_none (p := fun w : Write => decide (w.Key = k)) hI
    have e2 : gotW l k = ⟨k, ⟨⟨[]⟩⟩, false⟩ := by rw [gotW, e]; rfl
    repeat' (first | ((with_reducible (first | refine gd_t (fun h => ?_) (fun h => ?_) | refine gd_f (fun h => ?_) (fun h => ?_))) <;> (have hb := h; (try simp only [decide_eq_true_eq, decide_eq_false_iff_not, Int.not_lt, Int.not_le, ge_iff_le, gt_iff_lt, Bool.not_eq_true', Bool.not_eq_false', beq_iff_eq, bne_iff_ne, beq_eq_false_iff_ne, bne_eq_false_iff_eq, Int.ofNat_lt, Int.ofNat_le] at h); simp (disch := omega) only [go_sem, hE, hH, ↓reduceIte, hb]; (try clear hb))) | ((with_reducible refine And.intro ?_ ?_); · omega) | (refine jn _ ?_ ?_) | (with_reducible refine both ?_ ?_) | (with_reducible refine And.intro ?_ ?_) | (refine fin_eq ?_; (try (simp (disch := omega) only [go_sem, hE, hH, ↓reduceIte])); first | done | rfl) | (simp (disch := omega) only [go_sem, hE, hH, ↓reduceIte]) | (exact (noMLL_set (by simp only [go_sem, hE, hH, ↓reduceIte]) (by simp only [go_sem, hE, hH, ↓reduceIte])).2 trivial) | (exact (pk_set (by simp only [go_sem, hE, hH, ↓reduceIte]) (by simp only [go_sem, hE, hH, ↓reduceIte])).2 trivial) | (simp only [go_sem, hE, hH, ↓reduceIte]) | fail)
    all_goals (rw [e2]; try rfl)
theorem l18Fits_ok (l : List Write) (d : Deed) (hg : d.Got.length ≤ maxLen) (hl : l.length ≤ maxLen) : ACall Tryz.prog n_spec_l18Fits [.sl false 3 (l.map (Write.row false)), .agg (Deed.row false d)] (fun r _ => r = bl (confD l d)) := by
  have hmx := mx_eq
  refine fn_in h_spec_l18Fits r_spec_l18Fits ⟨by simp only [go_sem, ↓reduceIte], fun E hE hH => ?_⟩; simp only [go_sem, ↓reduceIte] at hE hH; simp only [go_sem, hE, hH, ↓reduceIte, c_spec_l18Fits]
  try simp (disch := omega) only [go_sem, hE, hH, ↓reduceIte]
  refine loopN d.Got.length (fun j (_ : Unit) => ⟨[(0, .sl false 3 (l.map (Write.row false))), (8, .sl false 3 (d.Got.map (Got.row false))), (9, i64 d.Got.length), (10, i64 j)], []⟩) (fun j _ => allN (fun i => decide (gotW l (nth d.Got i).Key = nth d.Got i)) j = true) () rfl ?_
  intro j _ hj hI
  try simp only [go_sem, hE, hH, ↓reduceIte, c_spec_l18Fits_l1]
  first | refine gd_t (fun h1 => ?_) (fun h1 => ?_) | refine gd_f (fun h1 => ?_) (fun h1 => ?_)
  · have hb1 := h1
    simp only [decide_eq_true_eq, decide_eq_false_iff_not, Int.not_lt, Int.not_le, ge_iff_le, gt_iff_lt, Bool.not_eq_true', Bool.not_eq_false', beq_iff_eq, bne_iff_ne, beq_eq_false_iff_ne, bne_eq_false_iff_eq, Int.ofNat_lt, Int.ofNat_le] at h1
    have hlt := h1; clear h1
    try simp (disch := omega) only [go_sem, hE, hH, ↓reduceIte, hb1]
    repeat' (first | ((with_reducible (first | refine gd_t (fun h => ?_) (fun h => ?_) | refine gd_f (fun h => ?_) (fun h => ?_))) <;> (have hb := h; (try simp only [decide_eq_true_eq, decide_eq_false_iff_not, Int.not_lt, Int.not_le, ge_iff_le, gt_iff_lt, Bool.not_eq_true', Bool.not_eq_false', beq_iff_eq, bne_iff_ne, beq_eq_false_iff_ne, bne_eq_false_iff_eq, Int.ofNat_lt, Int.ofNat_le] at h); simp (disch := omega) only [go_sem, hE, hH, ↓reduceIte, hb]; (try clear hb))) | ((with_reducible refine And.intro ?_ ?_); · omega) | (refine ok_view ?_; simp (disch := omega) only [go_sem, hE, hH, ↓reduceIte]) | (refine cvA (l5Tell_ok l (nth d.Got j).Key hl) ?_; simp (disch := omega) only [go_sem, hE, hH, ↓reduceIte]) | (refine jn _ ?_ ?_) | (with_reducible refine both ?_ ?_) | (with_reducible refine And.intro ?_ ?_) | (refine fin_eq ?_; (try (simp (disch := omega) only [go_sem, hE, hH, ↓reduceIte])); first | done | rfl) | (simp (disch := omega) only [go_sem, hE, hH, ↓reduceIte]) | (exact (noMLL_set (by simp only [go_sem, hE, hH, ↓reduceIte]) (by simp only [go_sem, hE, hH, ↓reduceIte])).2 trivial) | (exact (pk_set (by simp only [go_sem, hE, hH, ↓reduceIte]) (by simp only [go_sem, hE, hH, ↓reduceIte])).2 trivial) | (simp only [go_sem, hE, hH, ↓reduceIte]) | fail)
    · rw [got_eq] at h
      have : confD l d = false := by
        rw [confD, List.all_eq_false]
        exact ⟨_, nth_mem hlt, by simp only [h]; decide⟩
      rw [this]
    · rw [got_eq] at h
      first | exact ⟨(), rfl, allN_step hI h⟩ | exact ⟨by omega, (), rfl, allN_step hI h⟩ | exact ⟨by omega, by omega, (), rfl, allN_step hI h⟩
  · try simp (disch := omega) only [go_sem, hE, hH, ↓reduceIte, h1]
    simp only [decide_eq_true_eq, decide_eq_false_iff_not, Int.not_lt, Int.not_le, ge_iff_le, gt_iff_lt, Bool.not_eq_true', Bool.not_eq_false', beq_iff_eq, bne_iff_ne, beq_eq_false_iff_ne, bne_eq_false_iff_eq, Int.ofNat_lt, Int.ofNat_le] at h1
    rw [show j = d.Got.length by omega, allN_all (p := fun g : Got => decide (gotW l g.Key = g))] at hI
    rw [confD, hI]
theorem pw_found {l : List Write} {k : ByteArray} {x : Nat} (hs : srtW l) (hx : x < l.length) (h2 : (nth l x).Key = k) : fwF l k = true ∧ fwI l k = x := by
  refine ⟨List.any_eq_true.2 ⟨_, nth_mem hx, by simp [h2]⟩, fwI_at hs (by omega) (fun i hi => by have := hs i x hi hx; rwa [h2] at this) fun i h1 h3 => ?_⟩
  by_cases e : i = x
  · rw [e, h2]; exact strLt_irr _
  · have := hs x i (by omega) h3
    rw [h2] at this
    exact strLt_asymm this
theorem pw_not {l : List Write} {k : ByteArray} {x : Nat} (hs : srtW l) (hx : x ≤ l.length) (h1 : ∀ i, x ≤ i → i < l.length → strLt k (nth l i).Key = true) (h2 : x = 0 ∨ strLt (nth l (x - 1)).Key k = true) : fwF l k = false ∧ fwI l k = x := by
  have hlo : ∀ i, i < x → strLt (nth l i).Key k = true := by
    intro i hi
    rcases h2 with h2 | h2
    · omega
    · by_cases e : i = x - 1
      · rw [e]; exact h2
      · exact strLt_trans (hs i (x - 1) (by omega) (by omega)) h2
  refine ⟨?_, fwI_at hs hx hlo fun i a b => strLt_asymm (h1 i a b)⟩
  rw [fwF, List.any_eq_false]
  intro w hw
  obtain ⟨i, hi, rfl⟩ := List.getElem_of_mem hw
  rw [← nth_lt hi, decide_eq_true_iff]
  intro e
  by_cases a : i < x
  · have := hlo i a; rw [e, strLt_irr] at this; cases this
  · have := h1 i (by omega) hi; rw [e, strLt_irr] at this; cases this
theorem l5PutW_ok (l : List Write) (w : Write) (hl : l.length ≤ 2 ^ 20) (hs : srtW l) : ACall Tryz.prog n_spec_l5PutW [.sl false 3 (l.map (Write.row false)), .agg (Write.row false w)] (fun r _ => r = .sl true 3 ((putW l w).map (Write.row true))) := by
  have hmx := mx_eq
  refine fn_in h_spec_l5PutW r_spec_l5PutW ⟨by simp only [go_sem, ↓reduceIte], fun E hE hH => ?_⟩; simp only [go_sem, ↓reduceIte] at hE hH; simp only [go_sem, hE, hH, ↓reduceIte, c_spec_l5PutW]
  try simp only [go_sem, hE, hH, ↓reduceIte]
  refine loopM (fun (x : Nat) => ⟨[(0, .sl false 3 (l.map (Write.row false))), (3, .ptr 4000000 0 0), (5, i64 x)], [(4000000, ⟨3, [Write.row false w]⟩)]⟩) (fun x => x ≤ l.length ∧ ∀ i, x ≤ i → i < l.length → strLt w.Key (nth l i).Key = true) (fun x => x) l.length ⟨Nat.le_refl _, fun i a b => by omega⟩ ?_
  rintro x ⟨hx, hgt⟩
  have e1 : ((x : Int) - 1).toNat = x - 1 := by omega
  have e2 : (l.take x).length = x := by rw [List.length_take]; omega
  have e3 : (l.drop x).take (l.length - x) = l.drop x := List.take_of_length_le (by rw [List.length_drop]; exact Nat.le_refl _)
  have e4 : ∀ r : List T, (List.map (fun x : Write => [str x.Key, str x.Val, bl x.Gone]) (l.take x) ++ [r]).take (x + 1) = List.map (fun x : Write => [str x.Key, str x.Val, bl x.Gone]) (l.take x) ++ [r] := fun r => List.take_of_length_le (by rw [List.length_append, List.length_map, e2]; exact Nat.le_refl _)
  have e5 : (l.drop x).length = l.length - x := List.length_drop
  have e6 : (l.take x).take x = l.take x := by rw [List.take_take, Nat.min_self]
  have e7 : ∀ r : List T, (List.map (fun x : Write => [str x.Key, str x.Val, bl x.Gone]) (l.take x) ++ [r]).length = x + 1 := fun r => by rw [List.length_append, List.length_map, e2]; rfl
  have end1 : ∀ {h0 : 0 < x}, (nth l (x - 1)).Key = w.Key → (l.map (Write.row true)).set (x - 1) (Write.row true w) = (putW l w).map (Write.row true) := by
    intro h0 h
    obtain ⟨a, b⟩ := pw_found hs (x := x - 1) (by omega) h
    rw [putW_yes a, b, List.map_set]
  have end2 : x = 0 ∨ strLt (nth l (x - 1)).Key w.Key = true → (l.take x).map (Write.row true) ++ [Write.row true w] ++ (l.drop x).map (Write.row true) = (putW l w).map (Write.row true) := by
    intro h
    obtain ⟨a, b⟩ := pw_not hs hx hgt h
    rw [putW_no a, b, List.map_append, List.map_append]; rfl
  try simp only [go_sem, hE, hH, ↓reduceIte, c_spec_l5PutW_l1]
  repeat' (first | ((with_reducible (first | refine gd_t (fun h => ?_) (fun h => ?_) | refine gd_f (fun h => ?_) (fun h => ?_))) <;> (have hb := h; (try simp only [decide_eq_true_eq, decide_eq_false_iff_not, Int.not_lt, Int.not_le, ge_iff_le, gt_iff_lt, Bool.not_eq_true', Bool.not_eq_false', beq_iff_eq, bne_iff_ne, beq_eq_false_iff_ne, bne_eq_false_iff_eq, Int.ofNat_lt, Int.ofNat_le] at h); simp (disch := omega) only [go_sem, hE, hH, ↓reduceIte, e1, e2, e3, e4, e5, e6, e7, hb]; (try clear hb))) | ((with_reducible refine And.intro ?_ ?_); · omega) | (with_reducible apply jn) | (with_reducible apply both) | (with_reducible refine And.intro ?_ ?_) | ((with_reducible apply fin_eq); (try (simp (disch := omega) only [go_sem, hE, hH, ↓reduceIte, e1, e2, e3, e4, e5, e6, e7])); first | done | rfl) | (simp (disch := omega) only [go_sem, hE, hH, ↓reduceIte, e1, e2, e3, e4, e5, e6, e7]) | (exact (noMLL_set (by simp only [go_sem, hE, hH, ↓reduceIte, e1, e2, e3, e4, e5, e6, e7]) (by simp only [go_sem, hE, hH, ↓reduceIte, e1, e2, e3, e4, e5, e6, e7])).2 trivial) | (exact (pk_set (by simp only [go_sem, hE, hH, ↓reduceIte, e1, e2, e3, e4, e5, e6, e7]) (by simp only [go_sem, hE, hH, ↓reduceIte, e1, e2, e3, e4, e5, e6, e7])).2 trivial) | (simp only [go_sem, hE, hH, ↓reduceIte, e1, e2, e3, e4, e5, e6, e7]) | fail)
  all_goals try omega
  · refine ⟨x - 1, by rw [show ((x : Int) - 1) = ((x - 1 : Nat) : Int) by omega], ⟨by omega, fun i h1 h2 => ?_⟩, by omega⟩
    by_cases e : i = x - 1
    · rw [e]; assumption
    · exact hgt i (by omega) h2
  · exact congrArg (T.sl true 3) (end1 (h0 := by omega) (by assumption))
  · exact congrArg (T.sl true 3) (end2 (.inr (by
      rcases strLt_total (nth l (x - 1)).Key w.Key with q | q | q
      · exact q
      · contradiction
      · simp_all)))
  · exact congrArg (T.sl true 3) (end2 (.inl (by omega)))
theorem l5PutRows_ok (l ws : List Write) (hl : l.length ≤ 2 ^ 18) (hw : ws.length ≤ 2 ^ 18) (hs : srtW l) : ACall Tryz.prog n_spec_l5PutRows [.sl false 3 (l.map (Write.row false)), .sl false 3 (ws.map (Write.row false))] (fun r _ => r = .sl true 3 ((putR l ws).map (Write.row true))) := by
  have hmx := mx_eq
  refine fn_in h_spec_l5PutRows r_spec_l5PutRows ⟨by simp only [go_sem, ↓reduceIte], fun E hE hH => ?_⟩; simp only [go_sem, ↓reduceIte] at hE hH; simp only [go_sem, hE, hH, ↓reduceIte, c_spec_l5PutRows]
  repeat' (first | ((with_reducible (first | refine gd_t (fun h => ?_) (fun h => ?_) | refine gd_f (fun h => ?_) (fun h => ?_))) <;> (have hb := h; (try simp only [decide_eq_true_eq, decide_eq_false_iff_not, Int.not_lt, Int.not_le, ge_iff_le, gt_iff_lt, Bool.not_eq_true', Bool.not_eq_false', beq_iff_eq, bne_iff_ne, beq_eq_false_iff_ne, bne_eq_false_iff_eq, Int.ofNat_lt, Int.ofNat_le] at h); simp (disch := omega) only [go_sem, hE, hH, ↓reduceIte, hb]; (try clear hb))) | ((with_reducible refine And.intro ?_ ?_); · omega) | (refine jn _ ?_ ?_) | (with_reducible refine both ?_ ?_) | (with_reducible refine And.intro ?_ ?_) | (refine fin_eq ?_; (try (simp (disch := omega) only [go_sem, hE, hH, ↓reduceIte])); first | done | rfl) | (simp (disch := omega) only [go_sem, hE, hH, ↓reduceIte]) | (exact (noMLL_set (by simp only [go_sem, hE, hH, ↓reduceIte]) (by simp only [go_sem, hE, hH, ↓reduceIte])).2 trivial) | (exact (pk_set (by simp only [go_sem, hE, hH, ↓reduceIte]) (by simp only [go_sem, hE, hH, ↓reduceIte])).2 trivial) | (simp only [go_sem, hE, hH, ↓reduceIte]) | fail)
  refine loopNe ws.length (fun j (x : List Write) => ⟨[(5, .ref 6000000 0 x.length), (14, .sl false 3 (ws.map (Write.row false))), (15, i64 ws.length), (16, i64 j)], [(6000000, ⟨3, x.map (Write.row true)⟩)]⟩) (fun j x => x = (ws.take j).foldl putW l) l rfl rfl ?_
  intro j x hj hI
  try simp only [go_sem, hE, hH, ↓reduceIte, c_spec_l5PutRows_l1]
  have hx : x.length ≤ 2 ^ 19 := by
    have := putWs_len (ws := ws.take j) (l := l)
    rw [← hI, List.length_take] at this; omega
  have hxs : srtW x := by rw [hI]; exact putWs_srt hs
  first | refine gd_t (fun h1 => ?_) (fun h1 => ?_) | refine gd_f (fun h1 => ?_) (fun h1 => ?_)
  · have hb1 := h1
    simp only [decide_eq_true_eq, decide_eq_false_iff_not, Int.not_lt, Int.not_le, ge_iff_le, gt_iff_lt, Bool.not_eq_true', Bool.not_eq_false', beq_iff_eq, bne_iff_ne, beq_eq_false_iff_ne, bne_eq_false_iff_eq, Int.ofNat_lt, Int.ofNat_le] at h1
    have hlt := h1; clear h1
    try simp (disch := omega) only [go_sem, hE, hH, ↓reduceIte, hb1]
    repeat' (first | ((with_reducible (first | refine gd_t (fun h => ?_) (fun h => ?_) | refine gd_f (fun h => ?_) (fun h => ?_))) <;> (have hb := h; (try simp only [decide_eq_true_eq, decide_eq_false_iff_not, Int.not_lt, Int.not_le, ge_iff_le, gt_iff_lt, Bool.not_eq_true', Bool.not_eq_false', beq_iff_eq, bne_iff_ne, beq_eq_false_iff_ne, bne_eq_false_iff_eq, Int.ofNat_lt, Int.ofNat_le] at h); simp (disch := omega) only [go_sem, hE, hH, ↓reduceIte, hb]; (try clear hb))) | ((with_reducible refine And.intro ?_ ?_); · omega) | (refine ok_view ?_; simp (disch := omega) only [go_sem, hE, hH, ↓reduceIte]) | (refine cvA (l5PutW_ok x (nth ws j) (by omega) hxs) ?_; simp (disch := omega) only [go_sem, hE, hH, ↓reduceIte]) | (refine jn _ ?_ ?_) | (with_reducible refine both ?_ ?_) | (with_reducible refine And.intro ?_ ?_) | (refine fin_eq ?_; (try (simp (disch := omega) only [go_sem, hE, hH, ↓reduceIte])); first | done | rfl) | (simp (disch := omega) only [go_sem, hE, hH, ↓reduceIte]) | (exact (noMLL_set (by simp only [go_sem, hE, hH, ↓reduceIte]) (by simp only [go_sem, hE, hH, ↓reduceIte])).2 trivial) | (exact (pk_set (by simp only [go_sem, hE, hH, ↓reduceIte]) (by simp only [go_sem, hE, hH, ↓reduceIte])).2 trivial) | (simp only [go_sem, hE, hH, ↓reduceIte]) | fail)
    all_goals (rw [foldl_take hlt, ← hI]; rfl)
  · try simp (disch := omega) only [go_sem, hE, hH, ↓reduceIte, h1]
    simp only [decide_eq_true_eq, decide_eq_false_iff_not, Int.not_lt, Int.not_le, ge_iff_le, gt_iff_lt, Bool.not_eq_true', Bool.not_eq_false', beq_iff_eq, bne_iff_ne, beq_eq_false_iff_ne, bne_eq_false_iff_eq, Int.ofNat_lt, Int.ofNat_le] at h1
    rw [show j = ws.length by omega, List.take_length] at hI
    refine loopNe x.length (fun j (y : List Write) => ⟨[(8, .ref 9000000 0 y.length), (24, .ref 6000000 0 x.length), (25, i64 x.length), (26, i64 j)], [(9000000, ⟨3, y.map (Write.row true)⟩), (6000000, ⟨3, x.map (Write.row true)⟩)]⟩) (fun j y => y = (x.take j).filter fun w => !w.Gone) [] rfl rfl ?_
    intro j y hj hy
    have hyl : y.length ≤ x.length := by
      have := List.length_filter_le (fun w : Write => !w.Gone) (x.take j)
      rw [← hy, List.length_take] at this; omega
    try simp only [go_sem, hE, hH, ↓reduceIte, c_spec_l5PutRows_l2]
    first | refine gd_t (fun h2 => ?_) (fun h2 => ?_) | refine gd_f (fun h2 => ?_) (fun h2 => ?_)
    · have hb2 := h2
      simp only [decide_eq_true_eq, decide_eq_false_iff_not, Int.not_lt, Int.not_le, ge_iff_le, gt_iff_lt, Bool.not_eq_true', Bool.not_eq_false', beq_iff_eq, bne_iff_ne, beq_eq_false_iff_ne, bne_eq_false_iff_eq, Int.ofNat_lt, Int.ofNat_le] at h2
      have hlt := h2; clear h2
      try simp (disch := omega) only [go_sem, hE, hH, ↓reduceIte, hb2]
      repeat' (first | ((with_reducible (first | refine gd_t (fun h => ?_) (fun h => ?_) | refine gd_f (fun h => ?_) (fun h => ?_))) <;> (have hb := h; (try simp only [decide_eq_true_eq, decide_eq_false_iff_not, Int.not_lt, Int.not_le, ge_iff_le, gt_iff_lt, Bool.not_eq_true', Bool.not_eq_false', beq_iff_eq, bne_iff_ne, beq_eq_false_iff_ne, bne_eq_false_iff_eq, Int.ofNat_lt, Int.ofNat_le] at h); simp (disch := omega) only [go_sem, hE, hH, ↓reduceIte, hb]; (try clear hb))) | ((with_reducible refine And.intro ?_ ?_); · omega) | (refine jn _ ?_ ?_) | (with_reducible refine both ?_ ?_) | (with_reducible refine And.intro ?_ ?_) | (refine fin_eq ?_; (try (simp (disch := omega) only [go_sem, hE, hH, ↓reduceIte])); first | done | rfl) | (simp (disch := omega) only [go_sem, hE, hH, ↓reduceIte]) | (exact (noMLL_set (by simp only [go_sem, hE, hH, ↓reduceIte]) (by simp only [go_sem, hE, hH, ↓reduceIte])).2 trivial) | (exact (pk_set (by simp only [go_sem, hE, hH, ↓reduceIte]) (by simp only [go_sem, hE, hH, ↓reduceIte])).2 trivial) | (simp only [go_sem, hE, hH, ↓reduceIte]) | fail)
      all_goals try omega
      · rw [flt_in hlt (by simp [h]), ← hy, List.length_append, List.map_append]; rfl
      · rw [flt_out hlt (by simp [h]), ← hy]; rfl
    · try simp (disch := omega) only [go_sem, hE, hH, ↓reduceIte, h2]
      simp only [decide_eq_true_eq, decide_eq_false_iff_not, Int.not_lt, Int.not_le, ge_iff_le, gt_iff_lt, Bool.not_eq_true', Bool.not_eq_false', beq_iff_eq, bne_iff_ne, beq_eq_false_iff_ne, bne_eq_false_iff_eq, Int.ofNat_lt, Int.ofNat_le] at h2
      rw [show j = x.length by omega, List.take_length] at hy
      have e : putR l ws = y := by rw [putR, ← hI, hy]
      repeat' (first | ((with_reducible (first | refine gd_t (fun h => ?_) (fun h => ?_) | refine gd_f (fun h => ?_) (fun h => ?_))) <;> (have hb := h; (try simp only [decide_eq_true_eq, decide_eq_false_iff_not, Int.not_lt, Int.not_le, ge_iff_le, gt_iff_lt, Bool.not_eq_true', Bool.not_eq_false', beq_iff_eq, bne_iff_ne, beq_eq_false_iff_ne, bne_eq_false_iff_eq, Int.ofNat_lt, Int.ofNat_le] at h); simp (disch := omega) only [go_sem, hE, hH, ↓reduceIte, hb]; (try clear hb))) | ((with_reducible refine And.intro ?_ ?_); · omega) | (refine jn _ ?_ ?_) | (with_reducible refine both ?_ ?_) | (with_reducible refine And.intro ?_ ?_) | (refine fin_eq ?_; (try (simp (disch := omega) only [go_sem, hE, hH, ↓reduceIte])); first | done | rfl) | (simp (disch := omega) only [go_sem, hE, hH, ↓reduceIte]) | (exact (noMLL_set (by simp only [go_sem, hE, hH, ↓reduceIte]) (by simp only [go_sem, hE, hH, ↓reduceIte])).2 trivial) | (exact (pk_set (by simp only [go_sem, hE, hH, ↓reduceIte]) (by simp only [go_sem, hE, hH, ↓reduceIte])).2 trivial) | (simp only [go_sem, hE, hH, ↓reduceIte]) | fail)
      all_goals (rw [e])
def rowsOk (l : List Write) : Bool := (l.all fun w => !w.Gone) && goodWrites l
theorem l5Rows_ok (l : List Write) (hl : wfL Write.wf l) : ACall Tryz.prog n_spec_l5Rows [.sl false 3 (l.map (Write.row false))] (fun r _ => r = bl (rowsOk l)) := by
  have hmx := mx_eq
  have hll := hl.1
  refine fn_in h_spec_l5Rows r_spec_l5Rows ⟨by simp only [go_sem, ↓reduceIte], fun E hE hH => ?_⟩; simp only [go_sem, ↓reduceIte] at hE hH; simp only [go_sem, hE, hH, ↓reduceIte, c_spec_l5Rows]
  try simp (disch := omega) only [go_sem, hE, hH, ↓reduceIte]
  refine loopN l.length (fun j (_ : Unit) => ⟨[(0, .sl false 3 (l.map (Write.row false))), (5, .sl false 3 (l.map (Write.row false))), (6, i64 l.length), (7, i64 j)], []⟩) (fun j _ => allN (fun i => !(nth l i).Gone) j = true) () rfl ?_
  intro j _ hj hI
  try simp only [go_sem, hE, hH, ↓reduceIte, c_spec_l5Rows_l1]
  first | refine gd_t (fun h1 => ?_) (fun h1 => ?_) | refine gd_f (fun h1 => ?_) (fun h1 => ?_)
  · have hb1 := h1
    simp only [decide_eq_true_eq, decide_eq_false_iff_not, Int.not_lt, Int.not_le, ge_iff_le, gt_iff_lt, Bool.not_eq_true', Bool.not_eq_false', beq_iff_eq, bne_iff_ne, beq_eq_false_iff_ne, bne_eq_false_iff_eq, Int.ofNat_lt, Int.ofNat_le] at h1
    have hlt := h1; clear h1
    try simp (disch := omega) only [go_sem, hE, hH, ↓reduceIte, hb1]
    repeat' (first | ((with_reducible (first | refine gd_t (fun h => ?_) (fun h => ?_) | refine gd_f (fun h => ?_) (fun h => ?_))) <;> (have hb := h; (try simp only [decide_eq_true_eq, decide_eq_false_iff_not, Int.not_lt, Int.not_le, ge_iff_le, gt_iff_lt, Bool.not_eq_true', Bool.not_eq_false', beq_iff_eq, bne_iff_ne, beq_eq_false_iff_ne, bne_eq_false_iff_eq, Int.ofNat_lt, Int.ofNat_le] at h); simp (disch := omega) only [go_sem, hE, hH, ↓reduceIte, hb]; (try clear hb))) | ((with_reducible refine And.intro ?_ ?_); · omega) | (refine jn _ ?_ ?_) | (with_reducible refine both ?_ ?_) | (with_reducible refine And.intro ?_ ?_) | (refine fin_eq ?_; (try (simp (disch := omega) only [go_sem, hE, hH, ↓reduceIte])); first | done | rfl) | (simp (disch := omega) only [go_sem, hE, hH, ↓reduceIte]) | (exact (noMLL_set (by simp only [go_sem, hE, hH, ↓reduceIte]) (by simp only [go_sem, hE, hH, ↓reduceIte])).2 trivial) | (exact (pk_set (by simp only [go_sem, hE, hH, ↓reduceIte]) (by simp only [go_sem, hE, hH, ↓reduceIte])).2 trivial) | (simp only [go_sem, hE, hH, ↓reduceIte]) | fail)
    · have : rowsOk l = false := by
        rw [rowsOk, Bool.and_eq_false_iff]; left
        rw [List.all_eq_false]
        exact ⟨_, nth_mem hlt, by simp [h]⟩
      rw [this]
    · first | exact ⟨(), rfl, allN_step hI (by simp [h])⟩ | exact ⟨by omega, (), rfl, allN_step hI (by simp [h])⟩ | exact ⟨by omega, by omega, (), rfl, allN_step hI (by simp [h])⟩
  · try simp (disch := omega) only [go_sem, hE, hH, ↓reduceIte, h1]
    simp only [decide_eq_true_eq, decide_eq_false_iff_not, Int.not_lt, Int.not_le, ge_iff_le, gt_iff_lt, Bool.not_eq_true', Bool.not_eq_false', beq_iff_eq, bne_iff_ne, beq_eq_false_iff_ne, bne_eq_false_iff_eq, Int.ofNat_lt, Int.ofNat_le] at h1
    rw [show j = l.length by omega, allN_all (p := fun w : Write => !w.Gone)] at hI
    repeat' (first | ((with_reducible (first | refine gd_t (fun h => ?_) (fun h => ?_) | refine gd_f (fun h => ?_) (fun h => ?_))) <;> (have hb := h; (try simp only [decide_eq_true_eq, decide_eq_false_iff_not, Int.not_lt, Int.not_le, ge_iff_le, gt_iff_lt, Bool.not_eq_true', Bool.not_eq_false', beq_iff_eq, bne_iff_ne, beq_eq_false_iff_ne, bne_eq_false_iff_eq, Int.ofNat_lt, Int.ofNat_le] at h); simp (disch := omega) only [go_sem, hE, hH, ↓reduceIte, hb]; (try clear hb))) | ((with_reducible refine And.intro ?_ ?_); · omega) | (refine ok_view ?_; simp (disch := omega) only [go_sem, hE, hH, ↓reduceIte]) | (refine cvA (l3Writes_ok l hl) ?_; simp (disch := omega) only [go_sem, hE, hH, ↓reduceIte]) | (refine jn _ ?_ ?_) | (with_reducible refine both ?_ ?_) | (with_reducible refine And.intro ?_ ?_) | (refine fin_eq ?_; (try (simp (disch := omega) only [go_sem, hE, hH, ↓reduceIte])); first | done | rfl) | (simp (disch := omega) only [go_sem, hE, hH, ↓reduceIte]) | (exact (noMLL_set (by simp only [go_sem, hE, hH, ↓reduceIte]) (by simp only [go_sem, hE, hH, ↓reduceIte])).2 trivial) | (exact (pk_set (by simp only [go_sem, hE, hH, ↓reduceIte]) (by simp only [go_sem, hE, hH, ↓reduceIte])).2 trivial) | (simp only [go_sem, hE, hH, ↓reduceIte]) | fail)
    all_goals (rw [rowsOk, hI]; rfl)
def okW (w : Write) : Bool := goodKey w.Key && stored w.Val w.Gone
theorem goodWrites_iff {l : List Write} : goodWrites l = true ↔ l.length ≤ 24 ∧ srtW l ∧ ∀ w ∈ l, okW w = true := by
  constructor
  · intro h
    have hs := goodWrites_srt h
    simp only [goodWrites, Bool.and_eq_true, decide_eq_true_eq] at h
    refine ⟨by omega, hs, fun w hw => ?_⟩
    obtain ⟨i, hi, rfl⟩ := List.getElem_of_mem hw
    have := allN_iff.1 h.2 i hi
    simp only [Bool.and_eq_true] at this
    rw [← nth_lt hi, okW, Bool.and_eq_true]; exact this.1
  · rintro ⟨h1, h2, h3⟩
    simp only [goodWrites, Bool.and_eq_true, decide_eq_true_eq]
    refine ⟨by omega, allN_iff.2 fun i hi => ?_⟩
    have := h3 _ (nth_mem hi)
    rw [okW] at this
    simp only [Bool.and_eq_true, Bool.or_eq_true, decide_eq_true_eq] at this ⊢
    refine ⟨this, ?_⟩
    by_cases e : i = 0
    · exact .inl e
    · exact .inr (h2 _ _ (by omega) hi)
theorem rowsOk_iff {l : List Write} : rowsOk l = true ↔ l.length ≤ 24 ∧ srtW l ∧ ∀ w ∈ l, okW w = true ∧ w.Gone = false := by
  rw [rowsOk, Bool.and_eq_true, goodWrites_iff, List.all_eq_true]
  simp only [Bool.not_eq_true']
  constructor
  · rintro ⟨a, b, c, d⟩; exact ⟨b, c, fun w hw => ⟨d w hw, a w hw⟩⟩
  · rintro ⟨b, c, d⟩; exact ⟨fun w hw => (d w hw).2, b, c, fun w hw => (d w hw).1⟩
theorem srtW_pw {l : List Write} : srtW l ↔ l.Pairwise fun a b => strLt a.Key b.Key = true := by
  rw [List.pairwise_iff_getElem]
  constructor
  · intro h i j hi hj hij
    have := h i j hij hj
    rwa [nth_lt hi, nth_lt hj] at this
  · intro h i j hij hj
    rw [nth_lt (by omega), nth_lt hj]; exact h i j (by omega) hj hij
theorem srtW_filter {l : List Write} {p : Write → Bool} (h : srtW l) : srtW (l.filter p) := srtW_pw.2 ((srtW_pw.1 h).filter p)
theorem putR_ok {l ws : List Write} (hl : rowsOk l = true) (hw : goodWrites ws = true) : rowsOk (putR l ws) = decide ((putR l ws).length ≤ 24) := by
  obtain ⟨a, b, c⟩ := rowsOk_iff.1 hl
  obtain ⟨d, e, f⟩ := goodWrites_iff.1 hw
  rw [Bool.eq_iff_iff, rowsOk_iff, decide_eq_true_iff]
  refine ⟨fun h => h.1, fun h => ⟨h, srtW_filter (putWs_srt b), fun w hw => ?_⟩⟩
  rw [putR, List.mem_filter] at hw
  refine ⟨?_, by simpa using hw.2⟩
  rcases putWs_mem hw.1 with h | h
  · exact f w h
  · exact (c w h).1
theorem okW_sz {w : Write} (h : okW w = true) : w.Key.size ≤ 12 ∧ w.Val.size ≤ 24 := by
  simp only [okW, goodKey, stored, goodVal, Bool.and_eq_true, rng_iff, decide_eq_true_eq] at h
  omega
theorem rowsOk_nil : rowsOk [] = true := rfl
theorem putR_len {l ws : List Write} : (putR l ws).length ≤ l.length + ws.length := Nat.le_trans (List.length_filter_le _ _) putWs_len
theorem rows_wf {l : List Write} (h : ∀ w ∈ l, okW w = true) (hl : l.length ≤ 2 ^ 20) : wfL Write.wf l := by
  have hmx := mx_eq
  refine ⟨by omega, fun w hw => ?_⟩
  have := okW_sz (h w hw)
  exact ⟨by omega, by omega⟩
/-! the deeds of an order, one after the other -/
def playS (h : List Deed) (s : Option (List Write × Bool)) (n : Int) : Option (List Write × Bool) :=
  match s with
  | none => none
  | some x => if (nth h n.toNat).Yes then (if (putR x.1 (nth h n.toNat).Writes).length ≤ 24 then some (putR x.1 (nth h n.toNat).Writes, x.2 && confD x.1 (nth h n.toNat)) else none) else some x
def playL (h : List Deed) (o : List Int) : Option (List Write × Bool) := o.foldl (playS h) (some ([], true))
def playO (h : List Deed) (o : List Int) : List Write × Bool × Bool := if isOrd h o then (match playL h o with | some x => (x.1, x.2, true) | none => ([], false, false)) else ([], false, false)
theorem playS_none {h : List Deed} {o : List Int} : o.foldl (playS h) none = none := by
  induction o with
  | nil => rfl
  | cons n t ih => exact ih
theorem playL_none {h : List Deed} {o : List Int} {j : Nat} {x : List Write × Bool} (hj : j < o.length) (hI : playL h (o.take j) = some x) (hn : playS h (some x) (nth o j) = none) : playL h o = none := by
  have e : o = o.take j ++ nth o j :: o.drop (j + 1) := by
    rw [nth_lt hj, ← List.drop_eq_getElem_cons hj, List.take_append_drop]
  rw [playL] at hI ⊢
  rw [e, List.foldl_append, hI, List.foldl_cons, hn, playS_none]
theorem playL_succ {h : List Deed} {o : List Int} {j : Nat} {x : List Write × Bool} (hj : j < o.length) (hI : playL h (o.take j) = some x) : playL h (o.take (j + 1)) = playS h (some x) (nth o j) := by
  rw [playL] at hI ⊢
  rw [foldl_take hj, hI]
theorem playS_no {h : List Deed} {n : Int} {x : List Write × Bool} (h1 : (nth h n.toNat).Yes = false) : playS h (some x) n = some x := by simp [playS, h1]
theorem playS_ok {h : List Deed} {n : Int} {x : List Write × Bool} (h1 : (nth h n.toNat).Yes = true) (h2 : (putR x.1 (nth h n.toNat).Writes).length ≤ 24) : playS h (some x) n = some (putR x.1 (nth h n.toNat).Writes, x.2 && confD x.1 (nth h n.toNat)) := by simp [playS, h1, h2]
theorem playS_bad {h : List Deed} {n : Int} {x : List Write × Bool} (h1 : (nth h n.toNat).Yes = true) (h2 : ¬ (putR x.1 (nth h n.toNat).Writes).length ≤ 24) : playS h (some x) n = none := by simp [playS, h1, h2]
theorem goodDeed_writes {d : Deed} (h : goodDeed d = true) : goodWrites d.Writes = true ∧ d.Got.length ≤ 8 ∧ d.Writes.length ≤ 24 := by
  simp only [goodDeed, goodGots, Bool.and_eq_true, decide_eq_true_eq] at h
  have := goodWrites_iff.1 h.2.2
  refine ⟨h.2.2, ?_, this.1⟩
  have := h.2.1.2.2
  omega
set_option maxHeartbeats 1000000 in
theorem PlayOrder_ok (l : List Deed) (o : List Int) (hw : wfL Deed.wf l) (ho : o.length ≤ maxLen) : ACall Tryz.prog n_impl_PlayOrder [.sl false 8 (l.map (Deed.row false)), .sl false 1 (ints o)] (fun r _ => r = .tup [.sl true 3 ((playO l o).1.map (Write.row true)), bl (playO l o).2.1, bl (playO l o).2.2]) := by
  have hmx := mx_eq
  have i1 := isOrderOf_ok l o hw ho
  cases q : isOrd l o with
  | false =>
    rw [q] at i1
    have e : playO l o = ([], false, false) := by simp [playO, q]
    refine fn_in h_impl_PlayOrder r_impl_PlayOrder ⟨by simp only [go_sem, ↓reduceIte], fun E hE hH => ?_⟩; simp only [go_sem, ↓reduceIte] at hE hH; simp only [go_sem, hE, hH, ↓reduceIte, c_impl_PlayOrder]
    repeat' (first | ((with_reducible (first | refine gd_t (fun h => ?_) (fun h => ?_) | refine gd_f (fun h => ?_) (fun h => ?_))) <;> (have hb := h; (try simp only [decide_eq_true_eq, decide_eq_false_iff_not, Int.not_lt, Int.not_le, ge_iff_le, gt_iff_lt, Bool.not_eq_true', Bool.not_eq_false', beq_iff_eq, bne_iff_ne, beq_eq_false_iff_ne, bne_eq_false_iff_eq, Int.ofNat_lt, Int.ofNat_le] at h); simp (disch := omega) only [go_sem, hE, hH, ↓reduceIte, hb]; (try clear hb))) | ((with_reducible refine And.intro ?_ ?_); · omega) | (refine ok_view ?_; simp (disch := omega) only [go_sem, hE, hH, ↓reduceIte]) | (refine cvA (i1) ?_; simp (disch := omega) only [go_sem, hE, hH, ↓reduceIte]) | (refine jn _ ?_ ?_) | (with_reducible refine both ?_ ?_) | (with_reducible refine And.intro ?_ ?_) | (refine fin_eq ?_; (try (simp (disch := omega) only [go_sem, hE, hH, ↓reduceIte])); first | done | rfl) | (simp (disch := omega) only [go_sem, hE, hH, ↓reduceIte]) | (exact (noMLL_set (by simp only [go_sem, hE, hH, ↓reduceIte]) (by simp only [go_sem, hE, hH, ↓reduceIte])).2 trivial) | (exact (pk_set (by simp only [go_sem, hE, hH, ↓reduceIte]) (by simp only [go_sem, hE, hH, ↓reduceIte])).2 trivial) | (simp only [go_sem, hE, hH, ↓reduceIte]) | fail)
    all_goals (rw [e]; try rfl)
  | true =>
    rw [q] at i1
    have e : playO l o = match playL l o with | some x => (x.1, x.2, true) | none => ([], false, false) := by simp [playO, q]
    refine fn_in h_impl_PlayOrder r_impl_PlayOrder ⟨by simp only [go_sem, ↓reduceIte], fun E hE hH => ?_⟩; simp only [go_sem, ↓reduceIte] at hE hH; simp only [go_sem, hE, hH, ↓reduceIte, c_impl_PlayOrder]
    repeat' (first | ((with_reducible (first | refine gd_t (fun h => ?_) (fun h => ?_) | refine gd_f (fun h => ?_) (fun h => ?_))) <;> (have hb := h; (try simp only [decide_eq_true_eq, decide_eq_false_iff_not, Int.not_lt, Int.not_le, ge_iff_le, gt_iff_lt, Bool.not_eq_true', Bool.not_eq_false', beq_iff_eq, bne_iff_ne, beq_eq_false_iff_ne, bne_eq_false_iff_eq, Int.ofNat_lt, Int.ofNat_le] at h); simp (disch := omega) only [go_sem, hE, hH, ↓reduceIte, hb]; (try clear hb))) | ((with_reducible refine And.intro ?_ ?_); · omega) | (refine ok_view ?_; simp (disch := omega) only [go_sem, hE, hH, ↓reduceIte]) | (refine cvA (i1) ?_; simp (disch := omega) only [go_sem, hE, hH, ↓reduceIte]) | (refine jn _ ?_ ?_) | (with_reducible refine both ?_ ?_) | (with_reducible refine And.intro ?_ ?_) | (refine fin_eq ?_; (try (simp (disch := omega) only [go_sem, hE, hH, ↓reduceIte])); first | done | rfl) | (simp (disch := omega) only [go_sem, hE, hH, ↓reduceIte]) | (exact (noMLL_set (by simp only [go_sem, hE, hH, ↓reduceIte]) (by simp only [go_sem, hE, hH, ↓reduceIte])).2 trivial) | (exact (pk_set (by simp only [go_sem, hE, hH, ↓reduceIte]) (by simp only [go_sem, hE, hH, ↓reduceIte])).2 trivial) | (simp only [go_sem, hE, hH, ↓reduceIte]) | fail)
    refine loopNe o.length (fun j (x : List Write × Bool) => ⟨[(0, .sl false 8 (l.map (Deed.row false))), (7, .ref 8000000 0 x.1.length), (8, bl x.2), (18, .sl false 1 (ints o)), (19, i64 o.length), (20, i64 j)], [(8000000, ⟨3, x.1.map (Write.row true)⟩)]⟩) (fun j x => playL l (o.take j) = some x ∧ rowsOk x.1 = true) ([], true) rfl ⟨rfl, rowsOk_nil⟩ ?_
    rintro j ⟨x, b⟩ hj ⟨hI, hok⟩
    simp only at hok
    obtain ⟨k1, k2, k3⟩ := rowsOk_iff.1 hok
    try simp only [go_sem, hE, hH, ↓reduceIte, c_impl_PlayOrder_l1]
    first | refine gd_t (fun h1 => ?_) (fun h1 => ?_) | refine gd_f (fun h1 => ?_) (fun h1 => ?_)
    · have hb1 := h1
      simp only [decide_eq_true_eq, decide_eq_false_iff_not, Int.not_lt, Int.not_le, ge_iff_le, gt_iff_lt, Bool.not_eq_true', Bool.not_eq_false', beq_iff_eq, bne_iff_ne, beq_eq_false_iff_ne, bne_eq_false_iff_eq, Int.ofNat_lt, Int.ofNat_le] at h1
      have hlt := h1; clear h1
      obtain ⟨p1, p2⟩ := isOrd_at q hlt
      have hD := goodHist_mem (isOrd_hist q) (i := (nth o j).toNat) (by omega)
      obtain ⟨g1, g2, g3⟩ := goodDeed_writes hD
      have hS := playL_succ hlt hI
      have i2 := putRows_ok x (nth l (nth o j).toNat).Writes (by omega) (by omega) k2
      have i3 := confirms_ok x (nth l (nth o j).toNat) (by omega) (by omega) k2
      try simp (disch := omega) only [go_sem, hE, hH, ↓reduceIte, hb1]
      refine And.intro (by omega) ?_
      refine And.intro (by omega) ?_
      by_cases h2 : (putR x (nth l (nth o j).toNat).Writes).length ≤ 24
      · rw [if_pos h2] at i2
        have hok2 : rowsOk (putR x (nth l (nth o j).toNat).Writes) = true := by rw [putR_ok hok g1]; simpa using h2
        cases b <;> cases q3 : confD x (nth l (nth o j).toNat) <;> rw [q3] at i3
        all_goals repeat' (first | ((with_reducible (first | refine gd_t (fun h => ?_) (fun h => ?_) | refine gd_f (fun h => ?_) (fun h => ?_))) <;> (have hb := h; (try simp only [decide_eq_true_eq, decide_eq_false_iff_not, Int.not_lt, Int.not_le, ge_iff_le, gt_iff_lt, Bool.not_eq_true', Bool.not_eq_false', beq_iff_eq, bne_iff_ne, beq_eq_false_iff_ne, bne_eq_false_iff_eq, Int.ofNat_lt, Int.ofNat_le] at h); simp (disch := omega) only [go_sem, hE, hH, ↓reduceIte, hb]; (try clear hb))) | ((with_reducible refine And.intro ?_ ?_); · omega) | (refine ok_view ?_; simp (disch := omega) only [go_sem, hE, hH, ↓reduceIte]) | (refine cvA (i2) ?_; simp (disch := omega) only [go_sem, hE, hH, ↓reduceIte]) | (refine cvA (i3) ?_; simp (disch := omega) only [go_sem, hE, hH, ↓reduceIte]) | (refine jn _ ?_ ?_) | (with_reducible refine both ?_ ?_) | (with_reducible refine And.intro ?_ ?_) | (refine fin_eq ?_; (try (simp (disch := omega) only [go_sem, hE, hH, ↓reduceIte])); first | done | rfl) | (simp (disch := omega) only [go_sem, hE, hH, ↓reduceIte]) | (exact (noMLL_set (by simp only [go_sem, hE, hH, ↓reduceIte]) (by simp only [go_sem, hE, hH, ↓reduceIte])).2 trivial) | (exact (pk_set (by simp only [go_sem, hE, hH, ↓reduceIte]) (by simp only [go_sem, hE, hH, ↓reduceIte])).2 trivial) | (simp only [go_sem, hE, hH, ↓reduceIte]) | fail)
        all_goals (first
          | exact ⟨(x, false), rfl, by rw [hS, playS_no (by assumption)], hok⟩
          | exact ⟨(x, true), rfl, by rw [hS, playS_no (by assumption)], hok⟩
          | exact ⟨(putR x (nth l (nth o j).toNat).Writes, false), rfl, by rw [hS, playS_ok (by assumption) h2]; simp [q3], hok2⟩
          | exact ⟨(putR x (nth l (nth o j).toNat).Writes, true), rfl, by rw [hS, playS_ok (by assumption) h2]; simp [q3], hok2⟩)
      · rw [if_neg h2] at i2
        cases b <;> cases q3 : confD x (nth l (nth o j).toNat) <;> rw [q3] at i3
        all_goals repeat' (first | ((with_reducible (first | refine gd_t (fun h => ?_) (fun h => ?_) | refine gd_f (fun h => ?_) (fun h => ?_))) <;> (have hb := h; (try simp only [decide_eq_true_eq, decide_eq_false_iff_not, Int.not_lt, Int.not_le, ge_iff_le, gt_iff_lt, Bool.not_eq_true', Bool.not_eq_false', beq_iff_eq, bne_iff_ne, beq_eq_false_iff_ne, bne_eq_false_iff_eq, Int.ofNat_lt, Int.ofNat_le] at h); simp (disch := omega) only [go_sem, hE, hH, ↓reduceIte, hb]; (try clear hb))) | ((with_reducible refine And.intro ?_ ?_); · omega) | (refine ok_view ?_; simp (disch := omega) only [go_sem, hE, hH, ↓reduceIte]) | (refine cvA (i2) ?_; simp (disch := omega) only [go_sem, hE, hH, ↓reduceIte]) | (refine cvA (i3) ?_; simp (disch := omega) only [go_sem, hE, hH, ↓reduceIte]) | (refine jn _ ?_ ?_) | (with_reducible refine both ?_ ?_) | (with_reducible refine And.intro ?_ ?_) | (refine fin_eq ?_; (try (simp (disch := omega) only [go_sem, hE, hH, ↓reduceIte])); first | done | rfl) | (simp (disch := omega) only [go_sem, hE, hH, ↓reduceIte]) | (exact (noMLL_set (by simp only [go_sem, hE, hH, ↓reduceIte]) (by simp only [go_sem, hE, hH, ↓reduceIte])).2 trivial) | (exact (pk_set (by simp only [go_sem, hE, hH, ↓reduceIte]) (by simp only [go_sem, hE, hH, ↓reduceIte])).2 trivial) | (simp only [go_sem, hE, hH, ↓reduceIte]) | fail)
        all_goals (first
          | exact ⟨(x, false), rfl, by rw [hS, playS_no (by assumption)], hok⟩
          | exact ⟨(x, true), rfl, by rw [hS, playS_no (by assumption)], hok⟩
          | (rw [playL_none hlt hI (playS_bad (by assumption) h2)] at e; rw [e]; done)
          | (rw [playL_none hlt hI (playS_bad (by assumption) h2)] at e; rw [e]; rfl))
    · try simp (disch := omega) only [go_sem, hE, hH, ↓reduceIte, h1]
      simp only [decide_eq_true_eq, decide_eq_false_iff_not, Int.not_lt, Int.not_le, ge_iff_le, gt_iff_lt, Bool.not_eq_true', Bool.not_eq_false', beq_iff_eq, bne_iff_ne, beq_eq_false_iff_ne, bne_eq_false_iff_eq, Int.ofNat_lt, Int.ofNat_le] at h1
      rw [show j = o.length by omega, List.take_length] at hI
      rw [hI] at e
      repeat' (first | ((with_reducible (first | refine gd_t (fun h => ?_) (fun h => ?_) | refine gd_f (fun h => ?_) (fun h => ?_))) <;> (have hb := h; (try simp only [decide_eq_true_eq, decide_eq_false_iff_not, Int.not_lt, Int.not_le, ge_iff_le, gt_iff_lt, Bool.not_eq_true', Bool.not_eq_false', beq_iff_eq, bne_iff_ne, beq_eq_false_iff_ne, bne_eq_false_iff_eq, Int.ofNat_lt, Int.ofNat_le] at h); simp (disch := omega) only [go_sem, hE, hH, ↓reduceIte, hb]; (try clear hb))) | ((with_reducible refine And.intro ?_ ?_); · omega) | (refine jn _ ?_ ?_) | (with_reducible refine both ?_ ?_) | (with_reducible refine And.intro ?_ ?_) | (refine fin_eq ?_; (try (simp (disch := omega) only [go_sem, hE, hH, ↓reduceIte])); first | done | rfl) | (simp (disch := omega) only [go_sem, hE, hH, ↓reduceIte]) | (exact (noMLL_set (by simp only [go_sem, hE, hH, ↓reduceIte]) (by simp only [go_sem, hE, hH, ↓reduceIte])).2 trivial) | (exact (pk_set (by simp only [go_sem, hE, hH, ↓reduceIte]) (by simp only [go_sem, hE, hH, ↓reduceIte])).2 trivial) | (simp only [go_sem, hE, hH, ↓reduceIte]) | fail)
      all_goals (rw [e])
set_option maxHeartbeats 1000000 in
theorem sPlayOrder_ok (l : List Deed) (o : List Int) (hw : wfL Deed.wf l) (ho : o.length ≤ maxLen) : ACall Tryz.prog n_spec_PlayOrder [.sl false 8 (l.map (Deed.row false)), .sl false 1 (ints o)] (fun r _ => r = .tup [.sl true 3 ((playO l o).1.map (Write.row true)), bl (playO l o).2.1, bl (playO l o).2.2]) := by
  have hmx := mx_eq
  have i1 := l18Order_ok l o hw ho
  cases q : isOrd l o with
  | false =>
    rw [q] at i1
    have e : playO l o = ([], false, false) := by simp [playO, q]
    refine fn_in h_spec_PlayOrder r_spec_PlayOrder ⟨by simp only [go_sem, ↓reduceIte], fun E hE hH => ?_⟩; simp only [go_sem, ↓reduceIte] at hE hH; simp only [go_sem, hE, hH, ↓reduceIte, c_spec_PlayOrder]
    repeat' (first | ((with_reducible (first | refine gd_t (fun h => ?_) (fun h => ?_) | refine gd_f (fun h => ?_) (fun h => ?_))) <;> (have hb := h; (try simp only [decide_eq_true_eq, decide_eq_false_iff_not, Int.not_lt, Int.not_le, ge_iff_le, gt_iff_lt, Bool.not_eq_true', Bool.not_eq_false', beq_iff_eq, bne_iff_ne, beq_eq_false_iff_ne, bne_eq_false_iff_eq, Int.ofNat_lt, Int.ofNat_le] at h); simp (disch := omega) only [go_sem, hE, hH, ↓reduceIte, hb]; (try clear hb))) | ((with_reducible refine And.intro ?_ ?_); · omega) | (refine ok_view ?_; simp (disch := omega) only [go_sem, hE, hH, ↓reduceIte]) | (refine cvA (i1) ?_; simp (disch := omega) only [go_sem, hE, hH, ↓reduceIte]) | (refine jn _ ?_ ?_) | (with_reducible refine both ?_ ?_) | (with_reducible refine And.intro ?_ ?_) | (refine fin_eq ?_; (try (simp (disch := omega) only [go_sem, hE, hH, ↓reduceIte])); first | done | rfl) | (simp (disch := omega) only [go_sem, hE, hH, ↓reduceIte]) | (exact (noMLL_set (by simp only [go_sem, hE, hH, ↓reduceIte]) (by simp only [go_sem, hE, hH, ↓reduceIte])).2 trivial) | (exact (pk_set (by simp only [go_sem, hE, hH, ↓reduceIte]) (by simp only [go_sem, hE, hH, ↓reduceIte])).2 trivial) | (simp only [go_sem, hE, hH, ↓reduceIte]) | fail)
    all_goals (rw [e]; try rfl)
  | true =>
    rw [q] at i1
    have e : playO l o = match playL l o with | some x => (x.1, x.2, true) | none => ([], false, false) := by simp [playO, q]
    refine fn_in h_spec_PlayOrder r_spec_PlayOrder ⟨by simp only [go_sem, ↓reduceIte], fun E hE hH => ?_⟩; simp only [go_sem, ↓reduceIte] at hE hH; simp only [go_sem, hE, hH, ↓reduceIte, c_spec_PlayOrder]
    repeat' (first | ((with_reducible (first | refine gd_t (fun h => ?_) (fun h => ?_) | refine gd_f (fun h => ?_) (fun h => ?_))) <;> (have hb := h; (try simp only [decide_eq_true_eq, decide_eq_false_iff_not, Int.not_lt, Int.not_le, ge_iff_le, gt_iff_lt, Bool.not_eq_true', Bool.not_eq_false', beq_iff_eq, bne_iff_ne, beq_eq_false_iff_ne, bne_eq_false_iff_eq, Int.ofNat_lt, Int.ofNat_le] at h); simp (disch := omega) only [go_sem, hE, hH, ↓reduceIte, hb]; (try clear hb))) | ((with_reducible refine And.intro ?_ ?_); · omega) | (refine ok_view ?_; simp (disch := omega) only [go_sem, hE, hH, ↓reduceIte]) | (refine cvA (i1) ?_; simp (disch := omega) only [go_sem, hE, hH, ↓reduceIte]) | (refine jn _ ?_ ?_) | (with_reducible refine both ?_ ?_) | (with_reducible refine And.intro ?_ ?_) | (refine fin_eq ?_; (try (simp (disch := omega) only [go_sem, hE, hH, ↓reduceIte])); first | done | rfl) | (simp (disch := omega) only [go_sem, hE, hH, ↓reduceIte]) | (exact (noMLL_set (by simp only [go_sem, hE, hH, ↓reduceIte]) (by simp only [go_sem, hE, hH, ↓reduceIte])).2 trivial) | (exact (pk_set (by simp only [go_sem, hE, hH, ↓reduceIte]) (by simp only [go_sem, hE, hH, ↓reduceIte])).2 trivial) | (simp only [go_sem, hE, hH, ↓reduceIte]) | fail)
    refine loopNe o.length (fun j (x : List Write × Bool) => ⟨[(0, .sl false 8 (l.map (Deed.row false))), (7, .ref 8000000 0 x.1.length), (8, bl x.2), (15, .sl false 1 (ints o)), (16, i64 o.length), (17, i64 j)], [(8000000, ⟨3, x.1.map (Write.row true)⟩)]⟩) (fun j x => playL l (o.take j) = some x ∧ rowsOk x.1 = true) ([], true) rfl ⟨rfl, rowsOk_nil⟩ ?_
    rintro j ⟨x, b⟩ hj ⟨hI, hok⟩
    simp only at hok
    obtain ⟨k1, k2, k3⟩ := rowsOk_iff.1 hok
    try simp only [go_sem, hE, hH, ↓reduceIte, c_spec_PlayOrder_l1]
    first | refine gd_t (fun h1 => ?_) (fun h1 => ?_) | refine gd_f (fun h1 => ?_) (fun h1 => ?_)
    · have hb1 := h1
      simp only [decide_eq_true_eq, decide_eq_false_iff_not, Int.not_lt, Int.not_le, ge_iff_le, gt_iff_lt, Bool.not_eq_true', Bool.not_eq_false', beq_iff_eq, bne_iff_ne, beq_eq_false_iff_ne, bne_eq_false_iff_eq, Int.ofNat_lt, Int.ofNat_le] at h1
      have hlt := h1; clear h1
      obtain ⟨p1, p2⟩ := isOrd_at q hlt
      have hD := goodHist_mem (isOrd_hist q) (i := (nth o j).toNat) (by omega)
      obtain ⟨g1, g2, g3⟩ := goodDeed_writes hD
      have hS := playL_succ hlt hI
      have i2 := l5PutRows_ok x (nth l (nth o j).toNat).Writes (by omega) (by omega) k2
      have i3 := l18Fits_ok x (nth l (nth o j).toNat) (by omega) (by omega)
      have hwf : wfL Write.wf (putR x (nth l (nth o j).toNat).Writes) := rows_wf (fun w hw => by
        rw [putR, List.mem_filter] at hw
        rcases putWs_mem hw.1 with q4 | q4
        · exact (goodWrites_iff.1 g1).2.2 w q4
        · exact (k3 w q4).1) (by have := putR_len (l := x) (ws := (nth l (nth o j).toNat).Writes); omega)
      have i4 := l5Rows_ok (putR x (nth l (nth o j).toNat).Writes) hwf
      rw [putR_ok hok g1] at i4
      try simp (disch := omega) only [go_sem, hE, hH, ↓reduceIte, hb1]
      refine And.intro (by omega) ?_
      refine And.intro (by omega) ?_
      by_cases h2 : (putR x (nth l (nth o j).toNat).Writes).length ≤ 24
      · rw [decide_eq_true h2] at i4
        have hok2 : rowsOk (putR x (nth l (nth o j).toNat).Writes) = true := by rw [putR_ok hok g1]; simpa using h2
        cases b <;> cases q3 : confD x (nth l (nth o j).toNat) <;> rw [q3] at i3
        all_goals repeat' (first | ((with_reducible (first | refine gd_t (fun h => ?_) (fun h => ?_) | refine gd_f (fun h => ?_) (fun h => ?_))) <;> (have hb := h; (try simp only [decide_eq_true_eq, decide_eq_false_iff_not, Int.not_lt, Int.not_le, ge_iff_le, gt_iff_lt, Bool.not_eq_true', Bool.not_eq_false', beq_iff_eq, bne_iff_ne, beq_eq_false_iff_ne, bne_eq_false_iff_eq, Int.ofNat_lt, Int.ofNat_le] at h); simp (disch := omega) only [go_sem, hE, hH, ↓reduceIte, hb]; (try clear hb))) | ((with_reducible refine And.intro ?_ ?_); · omega) | (refine ok_view ?_; simp (disch := omega) only [go_sem, hE, hH, ↓reduceIte]) | (refine cvA (i2) ?_; simp (disch := omega) only [go_sem, hE, hH, ↓reduceIte]) | (refine cvA (i3) ?_; simp (disch := omega) only [go_sem, hE, hH, ↓reduceIte]) | (refine cvA (i4) ?_; simp (disch := omega) only [go_sem, hE, hH, ↓reduceIte]) | (refine jn _ ?_ ?_) | (with_reducible refine both ?_ ?_) | (with_reducible refine And.intro ?_ ?_) | (refine fin_eq ?_; (try (simp (disch := omega) only [go_sem, hE, hH, ↓reduceIte])); first | done | rfl) | (simp (disch := omega) only [go_sem, hE, hH, ↓reduceIte]) | (exact (noMLL_set (by simp only [go_sem, hE, hH, ↓reduceIte]) (by simp only [go_sem, hE, hH, ↓reduceIte])).2 trivial) | (exact (pk_set (by simp only [go_sem, hE, hH, ↓reduceIte]) (by simp only [go_sem, hE, hH, ↓reduceIte])).2 trivial) | (simp only [go_sem, hE, hH, ↓reduceIte]) | fail)
        all_goals (first
          | exact ⟨(x, false), rfl, by rw [hS, playS_no (by assumption)], hok⟩
          | exact ⟨(x, true), rfl, by rw [hS, playS_no (by assumption)], hok⟩
          | exact ⟨(putR x (nth l (nth o j).toNat).Writes, false), rfl, by rw [hS, playS_ok (by assumption) h2]; simp [q3], hok2⟩
          | exact ⟨(putR x (nth l (nth o j).toNat).Writes, true), rfl, by rw [hS, playS_ok (by assumption) h2]; simp [q3], hok2⟩)
      · rw [decide_eq_false h2] at i4
        cases b <;> cases q3 : confD x (nth l (nth o j).toNat) <;> rw [q3] at i3
        all_goals repeat' (first | ((with_reducible (first | refine gd_t (fun h => ?_) (fun h => ?_) | refine gd_f (fun h => ?_) (fun h => ?_))) <;> (have hb := h; (try simp only [decide_eq_true_eq, decide_eq_false_iff_not, Int.not_lt, Int.not_le, ge_iff_le, gt_iff_lt, Bool.not_eq_true', Bool.not_eq_false', beq_iff_eq, bne_iff_ne, beq_eq_false_iff_ne, bne_eq_false_iff_eq, Int.ofNat_lt, Int.ofNat_le] at h); simp (disch := omega) only [go_sem, hE, hH, ↓reduceIte, hb]; (try clear hb))) | ((with_reducible refine And.intro ?_ ?_); · omega) | (refine ok_view ?_; simp (disch := omega) only [go_sem, hE, hH, ↓reduceIte]) | (refine cvA (i2) ?_; simp (disch := omega) only [go_sem, hE, hH, ↓reduceIte]) | (refine cvA (i3) ?_; simp (disch := omega) only [go_sem, hE, hH, ↓reduceIte]) | (refine cvA (i4) ?_; simp (disch := omega) only [go_sem, hE, hH, ↓reduceIte]) | (refine jn _ ?_ ?_) | (with_reducible refine both ?_ ?_) | (with_reducible refine And.intro ?_ ?_) | (refine fin_eq ?_; (try (simp (disch := omega) only [go_sem, hE, hH, ↓reduceIte])); first | done | rfl) | (simp (disch := omega) only [go_sem, hE, hH, ↓reduceIte]) | (exact (noMLL_set (by simp only [go_sem, hE, hH, ↓reduceIte]) (by simp only [go_sem, hE, hH, ↓reduceIte])).2 trivial) | (exact (pk_set (by simp only [go_sem, hE, hH, ↓reduceIte]) (by simp only [go_sem, hE, hH, ↓reduceIte])).2 trivial) | (simp only [go_sem, hE, hH, ↓reduceIte]) | fail)
        all_goals (first
          | exact ⟨(x, false), rfl, by rw [hS, playS_no (by assumption)], hok⟩
          | exact ⟨(x, true), rfl, by rw [hS, playS_no (by assumption)], hok⟩
          | (rw [playL_none hlt hI (playS_bad (by assumption) h2)] at e; rw [e]; done)
          | (rw [playL_none hlt hI (playS_bad (by assumption) h2)] at e; rw [e]; rfl))
    · try simp (disch := omega) only [go_sem, hE, hH, ↓reduceIte, h1]
      simp only [decide_eq_true_eq, decide_eq_false_iff_not, Int.not_lt, Int.not_le, ge_iff_le, gt_iff_lt, Bool.not_eq_true', Bool.not_eq_false', beq_iff_eq, bne_iff_ne, beq_eq_false_iff_ne, bne_eq_false_iff_eq, Int.ofNat_lt, Int.ofNat_le] at h1
      rw [show j = o.length by omega, List.take_length] at hI
      rw [hI] at e
      repeat' (first | ((with_reducible (first | refine gd_t (fun h => ?_) (fun h => ?_) | refine gd_f (fun h => ?_) (fun h => ?_))) <;> (have hb := h; (try simp only [decide_eq_true_eq, decide_eq_false_iff_not, Int.not_lt, Int.not_le, ge_iff_le, gt_iff_lt, Bool.not_eq_true', Bool.not_eq_false', beq_iff_eq, bne_iff_ne, beq_eq_false_iff_ne, bne_eq_false_iff_eq, Int.ofNat_lt, Int.ofNat_le] at h); simp (disch := omega) only [go_sem, hE, hH, ↓reduceIte, hb]; (try clear hb))) | ((with_reducible refine And.intro ?_ ?_); · omega) | (refine jn _ ?_ ?_) | (with_reducible refine both ?_ ?_) | (with_reducible refine And.intro ?_ ?_) | (refine fin_eq ?_; (try (simp (disch := omega) only [go_sem, hE, hH, ↓reduceIte])); first | done | rfl) | (simp (disch := omega) only [go_sem, hE, hH, ↓reduceIte]) | (exact (noMLL_set (by simp only [go_sem, hE, hH, ↓reduceIte]) (by simp only [go_sem, hE, hH, ↓reduceIte])).2 trivial) | (exact (pk_set (by simp only [go_sem, hE, hH, ↓reduceIte]) (by simp only [go_sem, hE, hH, ↓reduceIte])).2 trivial) | (simp only [go_sem, hE, hH, ↓reduceIte]) | fail)
      all_goals (rw [e])
/-! all committed deeds stand in an order -/
def commJ (l : List Deed) (j : Nat) : List Int := ((List.range j).filter fun i => (nth l i).Yes).map fun i : Nat => (i : Int)
def commD (l : List Deed) : List Int := commJ l l.length
theorem commJ_len {l : List Deed} {j : Nat} : (commJ l j).length ≤ j := by
  have := List.length_filter_le (fun i => (nth l i).Yes) (List.range j)
  rw [List.length_range] at this
  rw [commJ, List.length_map]; exact this
def allIn (l : List Deed) (o : List Int) : Bool := allN (fun i => !(nth l i).Yes || o.any fun x => decide ((i : Int) = x)) l.length
def witO (l : List Deed) (o : List Int) : Bool := isOrd l o && (allIn l o && keepsO l o && (playO l o).2.2 && (playO l o).2.1)
theorem allIn_comm (l : List Deed) (o : List Int) : (!(commD l).any fun n => !o.any fun x => decide (n = x)) = allIn l o := by
  rw [Bool.eq_iff_iff, Bool.not_eq_true', List.any_eq_false, allIn, allN_iff]
  simp only [commD, commJ, List.mem_map, List.mem_filter, List.mem_range, Bool.not_eq_true', Bool.not_eq_false', Bool.or_eq_true]
  constructor
  · intro h i hi
    cases q : (nth l i).Yes with
    | false => exact .inl rfl
    | true =>
      right
      have := h i ⟨i, ⟨hi, q⟩, rfl⟩
      simpa using this
  · rintro h n ⟨i, ⟨hi, q⟩, rfl⟩
    rcases h i hi with a | a
    · rw [q] at a; cases a
    · simpa using a
theorem commJ_in {l : List Deed} {j : Nat} (h : (nth l j).Yes = true) : commJ l (j + 1) = commJ l j ++ [(j : Int)] := by
  simp [commJ, List.range_succ, List.filter_append, h]
theorem commJ_out {l : List Deed} {j : Nat} (h : (nth l j).Yes = false) : commJ l (j + 1) = commJ l j := by
  simp [commJ, List.range_succ, List.filter_append, h]
theorem committed_ok (l : List Deed) (hl : l.length ≤ 2 ^ 20) : ACall Tryz.prog n_impl_committed [.sl false 8 (l.map (Deed.row false))] (fun r _ => r = .sl true 1 (ints (commD l))) := by
  have hmx := mx_eq
  refine fn_in h_impl_committed r_impl_committed ⟨by simp only [go_sem, ↓reduceIte], fun E hE hH => ?_⟩; simp only [go_sem, ↓reduceIte] at hE hH; simp only [go_sem, hE, hH, ↓reduceIte, c_impl_committed]
  repeat' (first | ((with_reducible (first | refine gd_t (fun h => ?_) (fun h => ?_) | refine gd_f (fun h => ?_) (fun h => ?_))) <;> (have hb := h; (try simp only [decide_eq_true_eq, decide_eq_false_iff_not, Int.not_lt, Int.not_le, ge_iff_le, gt_iff_lt, Bool.not_eq_true', Bool.not_eq_false', beq_iff_eq, bne_iff_ne, beq_eq_false_iff_ne, bne_eq_false_iff_eq, Int.ofNat_lt, Int.ofNat_le] at h); simp (disch := omega) only [go_sem, hE, hH, ↓reduceIte, hb]; (try clear hb))) | ((with_reducible refine And.intro ?_ ?_); · omega) | (refine jn _ ?_ ?_) | (with_reducible refine both ?_ ?_) | (with_reducible refine And.intro ?_ ?_) | (refine fin_eq ?_; (try (simp (disch := omega) only [go_sem, hE, hH, ↓reduceIte])); first | done | rfl) | (simp (disch := omega) only [go_sem, hE, hH, ↓reduceIte]) | (exact (noMLL_set (by simp only [go_sem, hE, hH, ↓reduceIte]) (by simp only [go_sem, hE, hH, ↓reduceIte])).2 trivial) | (exact (pk_set (by simp only [go_sem, hE, hH, ↓reduceIte]) (by simp only [go_sem, hE, hH, ↓reduceIte])).2 trivial) | (simp only [go_sem, hE, hH, ↓reduceIte]) | fail)
  refine loopN l.length (fun j (x : List Int) => ⟨[(3, .ref 4000000 0 x.length), (7, .sl false 8 (l.map (Deed.row false))), (8, i64 l.length), (9, i64 j)], [(4000000, ⟨1, ints x⟩)]⟩) (fun j x => x = commJ l j) [] rfl ?_
  intro j x hj hI
  have hxl : x.length ≤ j := by rw [hI]; exact commJ_len
  try simp only [go_sem, hE, hH, ↓reduceIte, c_impl_committed_l1]
  first | refine gd_t (fun h1 => ?_) (fun h1 => ?_) | refine gd_f (fun h1 => ?_) (fun h1 => ?_)
  · have hb1 := h1
    simp only [decide_eq_true_eq, decide_eq_false_iff_not, Int.not_lt, Int.not_le, ge_iff_le, gt_iff_lt, Bool.not_eq_true', Bool.not_eq_false', beq_iff_eq, bne_iff_ne, beq_eq_false_iff_ne, bne_eq_false_iff_eq, Int.ofNat_lt, Int.ofNat_le] at h1
    have hlt := h1; clear h1
    try simp (disch := omega) only [go_sem, hE, hH, ↓reduceIte, hb1]
    repeat' (first | ((with_reducible (first | refine gd_t (fun h => ?_) (fun h => ?_) | refine gd_f (fun h => ?_) (fun h => ?_))) <;> (have hb := h; (try simp only [decide_eq_true_eq, decide_eq_false_iff_not, Int.not_lt, Int.not_le, ge_iff_le, gt_iff_lt, Bool.not_eq_true', Bool.not_eq_false', beq_iff_eq, bne_iff_ne, beq_eq_false_iff_ne, bne_eq_false_iff_eq, Int.ofNat_lt, Int.ofNat_le] at h); simp (disch := omega) only [go_sem, hE, hH, ↓reduceIte, hb]; (try clear hb))) | ((with_reducible refine And.intro ?_ ?_); · omega) | (refine jn _ ?_ ?_) | (with_reducible refine both ?_ ?_) | (with_reducible refine And.intro ?_ ?_) | (refine fin_eq ?_; (try (simp (disch := omega) only [go_sem, hE, hH, ↓reduceIte])); first | done | rfl) | (simp (disch := omega) only [go_sem, hE, hH, ↓reduceIte]) | (exact (noMLL_set (by simp only [go_sem, hE, hH, ↓reduceIte]) (by simp only [go_sem, hE, hH, ↓reduceIte])).2 trivial) | (exact (pk_set (by simp only [go_sem, hE, hH, ↓reduceIte]) (by simp only [go_sem, hE, hH, ↓reduceIte])).2 trivial) | (simp only [go_sem, hE, hH, ↓reduceIte]) | fail)
    all_goals try omega
    · rw [commJ_in h, ← hI, List.length_append, ints, List.map_append]; rfl
    · rw [commJ_out h, ← hI]; rfl
  · try simp (disch := omega) only [go_sem, hE, hH, ↓reduceIte, h1]
    simp only [decide_eq_true_eq, decide_eq_false_iff_not, Int.not_lt, Int.not_le, ge_iff_le, gt_iff_lt, Bool.not_eq_true', Bool.not_eq_false', beq_iff_eq, bne_iff_ne, beq_eq_false_iff_ne, bne_eq_false_iff_eq, Int.ofNat_lt, Int.ofNat_le] at h1
    rw [show j = l.length by omega] at hI
    repeat' (first | ((with_reducible (first | refine gd_t (fun h => ?_) (fun h => ?_) | refine gd_f (fun h => ?_) (fun h => ?_))) <;> (have hb := h; (try simp only [decide_eq_true_eq, decide_eq_false_iff_not, Int.not_lt, Int.not_le, ge_iff_le, gt_iff_lt, Bool.not_eq_true', Bool.not_eq_false', beq_iff_eq, bne_iff_ne, beq_eq_false_iff_ne, bne_eq_false_iff_eq, Int.ofNat_lt, Int.ofNat_le] at h); simp (disch := omega) only [go_sem, hE, hH, ↓reduceIte, hb]; (try clear hb))) | ((with_reducible refine And.intro ?_ ?_); · omega) | (refine jn _ ?_ ?_) | (with_reducible refine both ?_ ?_) | (with_reducible refine And.intro ?_ ?_) | (refine fin_eq ?_; (try (simp (disch := omega) only [go_sem, hE, hH, ↓reduceIte])); first | done | rfl) | (simp (disch := omega) only [go_sem, hE, hH, ↓reduceIte]) | (exact (noMLL_set (by simp only [go_sem, hE, hH, ↓reduceIte]) (by simp only [go_sem, hE, hH, ↓reduceIte])).2 trivial) | (exact (pk_set (by simp only [go_sem, hE, hH, ↓reduceIte]) (by simp only [go_sem, hE, hH, ↓reduceIte])).2 trivial) | (simp only [go_sem, hE, hH, ↓reduceIte]) | fail)
    all_goals (rw [hI, commD])
theorem IsWitness_1_ok (o : List Int) (n : Int) (ho : o.length ≤ maxLen) : ACall Tryz.prog n_impl_IsWitness_1 ([i64 n] ++ [.bx false [.sl false 1 (ints o)]]) (fun r _ => r = bl (!o.any fun x => decide (n = x))) := by
  refine fn_in h_impl_IsWitness_1 r_impl_IsWitness_1 ⟨by simp only [go_sem, ↓reduceIte], fun E hE hH => ?_⟩; simp only [go_sem, ↓reduceIte] at hE hH; simp only [go_sem, hE, hH, ↓reduceIte, c_impl_IsWitness_1]
  repeat' (first | ((with_reducible (first | refine gd_t (fun h => ?_) (fun h => ?_) | refine gd_f (fun h => ?_) (fun h => ?_))) <;> (have hb := h; (try simp only [decide_eq_true_eq, decide_eq_false_iff_not, Int.not_lt, Int.not_le, ge_iff_le, gt_iff_lt, Bool.not_eq_true', Bool.not_eq_false', beq_iff_eq, bne_iff_ne, beq_eq_false_iff_ne, bne_eq_false_iff_eq, Int.ofNat_lt, Int.ofNat_le] at h); simp (disch := omega) only [go_sem, hE, hH, ↓reduceIte, hb]; (try clear hb))) | ((with_reducible refine And.intro ?_ ?_); · omega) | (refine ok_view ?_; simp (disch := omega) only [go_sem, hE, hH, ↓reduceIte]) | (refine cvA (Contains_Int_ok o n ho) ?_; simp (disch := omega) only [go_sem, hE, hH, ↓reduceIte]) | (refine jn _ ?_ ?_) | (with_reducible refine both ?_ ?_) | (with_reducible refine And.intro ?_ ?_) | (refine fin_eq ?_; (try (simp (disch := omega) only [go_sem, hE, hH, ↓reduceIte])); first | done | rfl) | (simp (disch := omega) only [go_sem, hE, hH, ↓reduceIte]) | (exact (noMLL_set (by simp only [go_sem, hE, hH, ↓reduceIte]) (by simp only [go_sem, hE, hH, ↓reduceIte])).2 trivial) | (exact (pk_set (by simp only [go_sem, hE, hH, ↓reduceIte]) (by simp only [go_sem, hE, hH, ↓reduceIte])).2 trivial) | (simp only [go_sem, hE, hH, ↓reduceIte]) | fail)
theorem IsWitness_ok (l : List Deed) (o : List Int) (hw : wfL Deed.wf l) (ho : o.length ≤ maxLen) : ACall Tryz.prog n_impl_IsWitness [.sl false 8 (l.map (Deed.row false)), .sl false 1 (ints o)] (fun r _ => r = .tup [bl (witO l o), bl (isOrd l o)]) := by
  have hmx := mx_eq
  have i1 := isOrderOf_ok l o hw ho
  cases q : isOrd l o with
  | false =>
    rw [q] at i1
    have e : witO l o = false := by simp [witO, q]
    refine fn_in h_impl_IsWitness r_impl_IsWitness ⟨by simp only [go_sem, ↓reduceIte], fun E hE hH => ?_⟩; simp only [go_sem, ↓reduceIte] at hE hH; simp only [go_sem, hE, hH, ↓reduceIte, c_impl_IsWitness]
    repeat' (first | ((with_reducible (first | refine gd_t (fun h => ?_) (fun h => ?_) | refine gd_f (fun h => ?_) (fun h => ?_))) <;> (have hb := h; (try simp only [decide_eq_true_eq, decide_eq_false_iff_not, Int.not_lt, Int.not_le, ge_iff_le, gt_iff_lt, Bool.not_eq_true', Bool.not_eq_false', beq_iff_eq, bne_iff_ne, beq_eq_false_iff_ne, bne_eq_false_iff_eq, Int.ofNat_lt, Int.ofNat_le] at h); simp (disch := omega) only [go_sem, hE, hH, ↓reduceIte, hb]; (try clear hb))) | ((with_reducible refine And.intro ?_ ?_); · omega) | (refine ok_view ?_; simp (disch := omega) only [go_sem, hE, hH, ↓reduceIte]) | (refine cvA (i1) ?_; simp (disch := omega) only [go_sem, hE, hH, ↓reduceIte]) | (refine jn _ ?_ ?_) | (with_reducible refine both ?_ ?_) | (with_reducible refine And.intro ?_ ?_) | (refine fin_eq ?_; (try (simp (disch := omega) only [go_sem, hE, hH, ↓reduceIte])); first | done | rfl) | (simp (disch := omega) only [go_sem, hE, hH, ↓reduceIte]) | (exact (noMLL_set (by simp only [go_sem, hE, hH, ↓reduceIte]) (by simp only [go_sem, hE, hH, ↓reduceIte])).2 trivial) | (exact (pk_set (by simp only [go_sem, hE, hH, ↓reduceIte]) (by simp only [go_sem, hE, hH, ↓reduceIte])).2 trivial) | (simp only [go_sem, hE, hH, ↓reduceIte]) | fail)
    all_goals (rw [e]; try rfl)
  | true =>
    rw [q] at i1
    have e : witO l o = (allIn l o && keepsO l o && (playO l o).2.2 && (playO l o).2.1) := by simp [witO, q]
    have hl10 := goodHist_len (isOrd_hist q)
    have e2 := allIn_comm l o
    have i2 := committed_ok l (by omega)
    have hcl : (commD l).length ≤ maxLen := by
      have := commJ_len (l := l) (j := l.length)
      rw [commD]; omega
    have i3 := keeps_ok l o ho hw.1 (fun i hi => isOrd_at q hi)
    have i4 := PlayOrder_ok l o hw ho
    refine fn_in h_impl_IsWitness r_impl_IsWitness ⟨by simp only [go_sem, ↓reduceIte], fun E hE hH => ?_⟩; simp only [go_sem, ↓reduceIte] at hE hH; simp only [go_sem, hE, hH, ↓reduceIte, c_impl_IsWitness]
    repeat' (first | ((with_reducible (first | refine gd_t (fun h => ?_) (fun h => ?_) | refine gd_f (fun h => ?_) (fun h => ?_))) <;> (have hb := h; (try simp only [decide_eq_true_eq, decide_eq_false_iff_not, Int.not_lt, Int.not_le, ge_iff_le, gt_iff_lt, Bool.not_eq_true', Bool.not_eq_false', beq_iff_eq, bne_iff_ne, beq_eq_false_iff_ne, bne_eq_false_iff_eq, Int.ofNat_lt, Int.ofNat_le] at h); simp (disch := omega) only [go_sem, hE, hH, ↓reduceIte, hb]; (try clear hb))) | ((with_reducible refine And.intro ?_ ?_); · omega) | (refine ok_view ?_; simp (disch := omega) only [go_sem, hE, hH, ↓reduceIte]) | (refine cvA (i1) ?_; simp (disch := omega) only [go_sem, hE, hH, ↓reduceIte]) | (refine cvA (i2) ?_; simp (disch := omega) only [go_sem, hE, hH, ↓reduceIte]) | (refine cvA (i3) ?_; simp (disch := omega) only [go_sem, hE, hH, ↓reduceIte]) | (refine cvA (i4) ?_; simp (disch := omega) only [go_sem, hE, hH, ↓reduceIte]) | (refine cvA (ContainsFunc_Int_ok (commD l) _ [.bx false [.sl false 1 (ints o)]] (fun n => !o.any fun x => decide (n = x)) (by kernel_rfl) rfl hcl (fun n _ => IsWitness_1_ok o n ho)) ?_; simp (disch := omega) only [go_sem, hE, hH, ↓reduceIte]) | (refine jn _ ?_ ?_) | (with_reducible refine both ?_ ?_) | (with_reducible refine And.intro ?_ ?_) | (refine fin_eq ?_; (try (simp (disch := omega) only [go_sem, hE, hH, ↓reduceIte])); first | done | rfl) | (simp (disch := omega) only [go_sem, hE, hH, ↓reduceIte]) | (exact (noMLL_set (by simp only [go_sem, hE, hH, ↓reduceIte]) (by simp only [go_sem, hE, hH, ↓reduceIte])).2 trivial) | (exact (pk_set (by simp only [go_sem, hE, hH, ↓reduceIte]) (by simp only [go_sem, hE, hH, ↓reduceIte])).2 trivial) | (simp only [go_sem, hE, hH, ↓reduceIte]) | fail)
    all_goals (clear i1 i2 i3 i4 hE hH; rw [e, ← e2]; clear e e2; generalize ((commD l).any fun n => !o.any fun x => decide (n = x)) = A at *; simp_all)
theorem l19All_ok (l : List Deed) (o : List Int) (hl : l.length ≤ maxLen) (ho : o.length ≤ maxLen) : ACall Tryz.prog n_spec_l19All [.sl false 8 (l.map (Deed.row false)), .sl false 1 (ints o)] (fun r _ => r = bl (allIn l o)) := by
  have hmx := mx_eq
  refine fn_in h_spec_l19All r_spec_l19All ⟨by simp only [go_sem, ↓reduceIte], fun E hE hH => ?_⟩; simp only [go_sem, ↓reduceIte] at hE hH; simp only [go_sem, hE, hH, ↓reduceIte, c_spec_l19All]
  try simp (disch := omega) only [go_sem, hE, hH, ↓reduceIte]
  refine loopN l.length (fun j (_ : Unit) => ⟨[(1, .sl false 1 (ints o)), (7, .sl false 8 (l.map (Deed.row false))), (8, i64 l.length), (9, i64 j)], []⟩) (fun j _ => allN (fun i => !(nth l i).Yes || o.any fun x => decide ((i : Int) = x)) j = true) () rfl ?_
  intro j _ hj hI
  try simp only [go_sem, hE, hH, ↓reduceIte, c_spec_l19All_l1]
  first | refine gd_t (fun h1 => ?_) (fun h1 => ?_) | refine gd_f (fun h1 => ?_) (fun h1 => ?_)
  · have hb1 := h1
    simp only [decide_eq_true_eq, decide_eq_false_iff_not, Int.not_lt, Int.not_le, ge_iff_le, gt_iff_lt, Bool.not_eq_true', Bool.not_eq_false', beq_iff_eq, bne_iff_ne, beq_eq_false_iff_ne, bne_eq_false_iff_eq, Int.ofNat_lt, Int.ofNat_le] at h1
    have hlt := h1; clear h1
    have i1 := l1Has_ok o (j : Int) ho
    cases q : o.any fun x => decide ((j : Int) = x) <;> rw [q] at i1
    all_goals try simp (disch := omega) only [go_sem, hE, hH, ↓reduceIte, hb1]
    all_goals repeat' (first | ((with_reducible (first | refine gd_t (fun h => ?_) (fun h => ?_) | refine gd_f (fun h => ?_) (fun h => ?_))) <;> (have hb := h; (try simp only [decide_eq_true_eq, decide_eq_false_iff_not, Int.not_lt, Int.not_le, ge_iff_le, gt_iff_lt, Bool.not_eq_true', Bool.not_eq_false', beq_iff_eq, bne_iff_ne, beq_eq_false_iff_ne, bne_eq_false_iff_eq, Int.ofNat_lt, Int.ofNat_le] at h); simp (disch := omega) only [go_sem, hE, hH, ↓reduceIte, hb]; (try clear hb))) | ((with_reducible refine And.intro ?_ ?_); · omega) | (refine ok_view ?_; simp (disch := omega) only [go_sem, hE, hH, ↓reduceIte]) | (refine cvA (i1) ?_; simp (disch := omega) only [go_sem, hE, hH, ↓reduceIte]) | (refine jn _ ?_ ?_) | (with_reducible refine both ?_ ?_) | (with_reducible refine And.intro ?_ ?_) | (refine fin_eq ?_; (try (simp (disch := omega) only [go_sem, hE, hH, ↓reduceIte])); first | done | rfl) | (simp (disch := omega) only [go_sem, hE, hH, ↓reduceIte]) | (exact (noMLL_set (by simp only [go_sem, hE, hH, ↓reduceIte]) (by simp only [go_sem, hE, hH, ↓reduceIte])).2 trivial) | (exact (pk_set (by simp only [go_sem, hE, hH, ↓reduceIte]) (by simp only [go_sem, hE, hH, ↓reduceIte])).2 trivial) | (simp only [go_sem, hE, hH, ↓reduceIte]) | fail)
    · rw [allIn, allN_no hlt (by simp [h, q])]
    all_goals exact ⟨(), rfl, allN_step hI (by simp [h, q])⟩
  · try simp (disch := omega) only [go_sem, hE, hH, ↓reduceIte, h1]
    simp only [decide_eq_true_eq, decide_eq_false_iff_not, Int.not_lt, Int.not_le, ge_iff_le, gt_iff_lt, Bool.not_eq_true', Bool.not_eq_false', beq_iff_eq, bne_iff_ne, beq_eq_false_iff_ne, bne_eq_false_iff_eq, Int.ofNat_lt, Int.ofNat_le] at h1
    rw [show j = l.length by omega] at hI
    rw [allIn, hI]
theorem sIsWitness_ok (l : List Deed) (o : List Int) (hw : wfL Deed.wf l) (ho : o.length ≤ maxLen) : ACall Tryz.prog n_spec_IsWitness [.sl false 8 (l.map (Deed.row false)), .sl false 1 (ints o)] (fun r _ => r = .tup [bl (witO l o), bl (isOrd l o)]) := by
  have hmx := mx_eq
  have i1 := l18Order_ok l o hw ho
  cases q : isOrd l o with
  | false =>
    rw [q] at i1
    have e : witO l o = false := by simp [witO, q]
    refine fn_in h_spec_IsWitness r_spec_IsWitness ⟨by simp only [go_sem, ↓reduceIte], fun E hE hH => ?_⟩; simp only [go_sem, ↓reduceIte] at hE hH; simp only [go_sem, hE, hH, ↓reduceIte, c_spec_IsWitness]
    repeat' (first | ((with_reducible (first | refine gd_t (fun h => ?_) (fun h => ?_) | refine gd_f (fun h => ?_) (fun h => ?_))) <;> (have hb := h; (try simp only [decide_eq_true_eq, decide_eq_false_iff_not, Int.not_lt, Int.not_le, ge_iff_le, gt_iff_lt, Bool.not_eq_true', Bool.not_eq_false', beq_iff_eq, bne_iff_ne, beq_eq_false_iff_ne, bne_eq_false_iff_eq, Int.ofNat_lt, Int.ofNat_le] at h); simp (disch := omega) only [go_sem, hE, hH, ↓reduceIte, hb]; (try clear hb))) | ((with_reducible refine And.intro ?_ ?_); · omega) | (refine ok_view ?_; simp (disch := omega) only [go_sem, hE, hH, ↓reduceIte]) | (refine cvA (i1) ?_; simp (disch := omega) only [go_sem, hE, hH, ↓reduceIte]) | (refine jn _ ?_ ?_) | (with_reducible refine both ?_ ?_) | (with_reducible refine And.intro ?_ ?_) | (refine fin_eq ?_; (try (simp (disch := omega) only [go_sem, hE, hH, ↓reduceIte])); first | done | rfl) | (simp (disch := omega) only [go_sem, hE, hH, ↓reduceIte]) | (exact (noMLL_set (by simp only [go_sem, hE, hH, ↓reduceIte]) (by simp only [go_sem, hE, hH, ↓reduceIte])).2 trivial) | (exact (pk_set (by simp only [go_sem, hE, hH, ↓reduceIte]) (by simp only [go_sem, hE, hH, ↓reduceIte])).2 trivial) | (simp only [go_sem, hE, hH, ↓reduceIte]) | fail)
    all_goals (rw [e]; try rfl)
  | true =>
    rw [q] at i1
    have e : witO l o = (allIn l o && keepsO l o && (playO l o).2.2 && (playO l o).2.1) := by simp [witO, q]
    have i2 := l19All_ok l o hw.1 ho
    have i3 := l18Keeps_ok l o ho hw.1 (isOrd_hist q) (fun i hi => isOrd_at q hi)
    have i4 := sPlayOrder_ok l o hw ho
    refine fn_in h_spec_IsWitness r_spec_IsWitness ⟨by simp only [go_sem, ↓reduceIte], fun E hE hH => ?_⟩; simp only [go_sem, ↓reduceIte] at hE hH; simp only [go_sem, hE, hH, ↓reduceIte, c_spec_IsWitness]
    repeat' (first | ((with_reducible (first | refine gd_t (fun h => ?_) (fun h => ?_) | refine gd_f (fun h => ?_) (fun h => ?_))) <;> (have hb := h; (try simp only [decide_eq_true_eq, decide_eq_false_iff_not, Int.not_lt, Int.not_le, ge_iff_le, gt_iff_lt, Bool.not_eq_true', Bool.not_eq_false', beq_iff_eq, bne_iff_ne, beq_eq_false_iff_ne, bne_eq_false_iff_eq, Int.ofNat_lt, Int.ofNat_le] at h); simp (disch := omega) only [go_sem, hE, hH, ↓reduceIte, hb]; (try clear hb))) | ((with_reducible refine And.intro ?_ ?_); · omega) | (refine ok_view ?_; simp (disch := omega) only [go_sem, hE, hH, ↓reduceIte]) | (refine cvA (i1) ?_; simp (disch := omega) only [go_sem, hE, hH, ↓reduceIte]) | (refine cvA (i2) ?_; simp (disch := omega) only [go_sem, hE, hH, ↓reduceIte]) | (refine cvA (i3) ?_; simp (disch := omega) only [go_sem, hE, hH, ↓reduceIte]) | (refine cvA (i4) ?_; simp (disch := omega) only [go_sem, hE, hH, ↓reduceIte]) | (refine jn _ ?_ ?_) | (with_reducible refine both ?_ ?_) | (with_reducible refine And.intro ?_ ?_) | (refine fin_eq ?_; (try (simp (disch := omega) only [go_sem, hE, hH, ↓reduceIte])); first | done | rfl) | (simp (disch := omega) only [go_sem, hE, hH, ↓reduceIte]) | (exact (noMLL_set (by simp only [go_sem, hE, hH, ↓reduceIte]) (by simp only [go_sem, hE, hH, ↓reduceIte])).2 trivial) | (exact (pk_set (by simp only [go_sem, hE, hH, ↓reduceIte]) (by simp only [go_sem, hE, hH, ↓reduceIte])).2 trivial) | (simp only [go_sem, hE, hH, ↓reduceIte]) | fail)
    all_goals (clear i1 i2 i3 i4 hE hH; rw [e]; clear e; simp_all)
end Go.Proofs.Wb

import Derived.Test.YtoelnhjecaellaaGreatDoorFnExactFindOrderM0
import Derived.Laws.Externs
set_option linter.unusedSimpArgs false
set_option linter.unusedVariables false
set_option linter.unusedSectionVars false
namespace Go.Proofs.Wb
open Go Go.Am
def putW (l : List Write) (w : Write) : List Write := if fwF l w.Key then l.set (fwI l w.Key) w else l.take (fwI l w.Key) ++ [w] ++ l.drop (fwI l w.Key)
theorem fwI_le {l : List Write} {k : ByteArray} : fwI l k ≤ l.length := cntN_le
theorem fwI_at {l : List Write} (hs : srtW l) {n : Nat} {k : ByteArray} (hn : n ≤ l.length) (h1 : ∀ i, i < n → strLt (nth l i).Key k = true) (h2 : ∀ i, n ≤ i → i < l.length → strLt (nth l i).Key k = false) : fwI l k = n := by
  unfold fwI
  rw [cntN_none hn h2, cntN_all (allN_iff.2 h1)]
theorem fwI_split {l : List Write} (hs : srtW l) (k : ByteArray) : (∀ i, i < fwI l k → strLt (nth l i).Key k = true) ∧ (∀ i, fwI l k ≤ i → i < l.length → strLt (nth l i).Key k = false) := by
  have key : ∀ n, n ≤ l.length → (∃ m, m ≤ n ∧ (∀ i, i < m → strLt (nth l i).Key k = true) ∧ ∀ i, m ≤ i → i < n → strLt (nth l i).Key k = false) := by
    intro n
    induction n with
    | zero => exact fun _ => ⟨0, Nat.le_refl _, fun i h => by omega, fun i _ h => by omega⟩
    | succ n ih =>
      intro hn
      obtain ⟨m, h1, h2, h3⟩ := ih (by omega)
      cases hk : strLt (nth l n).Key k with
      | true =>
        by_cases e : m = n
        · subst e
          exact ⟨m + 1, Nat.le_refl _, fun i hi => by
            by_cases e : i = m
            · rw [e]; exact hk
            · exact h2 i (by omega), fun i _ _ => by omega⟩
        · have := h3 m (Nat.le_refl _) (by omega)
          rw [strLt_trans (hs m n (by omega) hn) hk] at this
          cases this
      | false =>
        exact ⟨m, by omega, h2, fun i hi hi2 => by
          by_cases e : i = n
          · rw [e]; exact hk
          · exact h3 i hi (by omega)⟩
  obtain ⟨m, h1, h2, h3⟩ := key l.length (Nat.le_refl _)
  rw [fwI_at hs h1 h2 h3]
  exact ⟨h2, h3⟩
theorem fwF_iff {l : List Write} {k : ByteArray} (hs : srtW l) : fwF l k = true ↔ fwI l k < l.length ∧ (nth l (fwI l k)).Key = k := by
  obtain ⟨e1, e2⟩ := fw_eq hs k
  rw [← e2, bsF, e1, Bool.and_eq_true, decide_eq_true_iff, decide_eq_true_iff, cmpS_zero]
theorem fw_gt {l : List Write} {k : ByteArray} (hs : srtW l) (hf : fwF l k = false) {i : Nat} (h1 : fwI l k ≤ i) (h2 : i < l.length) : strLt k (nth l i).Key = true := by
  have a := (fwI_split hs k).2 i h1 h2
  rcases strLt_total (nth l i).Key k with h | h | h
  · rw [h] at a; cases a
  · have : fwF l k = true := List.any_eq_true.2 ⟨_, nth_mem h2, by simp [h]⟩
    rw [this] at hf; cases hf
  · exact h
theorem putW_yes {l : List Write} {w : Write} (h : fwF l w.Key = true) : putW l w = l.set (fwI l w.Key) w := by rw [putW, if_pos h]
theorem putW_no {l : List Write} {w : Write} (h : fwF l w.Key = false) : putW l w = l.take (fwI l w.Key) ++ [w] ++ l.drop (fwI l w.Key) := by rw [putW, h]; rfl
theorem putW_len (l : List Write) (w : Write) : (putW l w).length ≤ l.length + 1 := by
  unfold putW
  split
  · rw [List.length_set]; omega
  · rw [List.length_append, List.length_append, List.length_take, List.length_drop]; simp; omega
theorem nth_set {α : Type} [Inhabited α] {l : List α} {i j : Nat} {x : α} (h : j < l.length) : nth (l.set i x) j = if i = j then x else nth l j := by
  rw [nth_lt (by simpa using h), List.getElem_set, nth_lt h]
theorem nth_app1 {α : Type} [Inhabited α] {a b : List α} {j : Nat} (h : j < a.length) : nth (a ++ b) j = nth a j := by
  rw [nth_lt (by rw [List.length_append]; omega), List.getElem_append_left h, nth_lt h]
theorem nth_app2 {α : Type} [Inhabited α] {a b : List α} {j : Nat} (h : a.length ≤ j) : nth (a ++ b) j = nth b (j - a.length) := by
  rw [nth, nth, List.getD_eq_getElem?_getD, List.getD_eq_getElem?_getD, List.getElem?_append_right h]
theorem nth_take2 {α : Type} [Inhabited α] {l : List α} {i j : Nat} (h : j < i) : nth (l.take i) j = nth l j := by
  rw [nth, nth, List.getD_eq_getElem?_getD, List.getD_eq_getElem?_getD, List.getElem?_take, if_pos h]
theorem srtW_put {l : List Write} {w : Write} (hs : srtW l) : srtW (putW l w) := by
  cases hf : fwF l w.Key with
  | true =>
    obtain ⟨a, b⟩ := (fwF_iff hs).1 hf
    rw [putW_yes hf]
    intro i j h1 h2
    rw [List.length_set] at h2
    rw [nth_set (by omega), nth_set h2]
    have := hs i j h1 h2
    split <;> split
    · omega
    · rename_i e _; rw [← e, b] at this; exact this
    · rename_i _ e; rw [← e, b] at this; exact this
    · exact this
  | false =>
    obtain ⟨q1, q2⟩ := fwI_split hs w.Key
    have hle := fwI_le (l := l) (k := w.Key)
    have hl1 : (l.take (fwI l w.Key)).length = fwI l w.Key := by rw [List.length_take]; omega
    have hl2 : (l.take (fwI l w.Key) ++ [w]).length = fwI l w.Key + 1 := by rw [List.length_append, hl1]; rfl
    have key : ∀ i, i < l.length + 1 → nth (putW l w) i = if i < fwI l w.Key then nth l i else if i = fwI l w.Key then w else nth l (i - 1) := by
      intro i hi
      rw [putW_no hf]
      split
      · rename_i h; rw [nth_app1 (by omega), nth_app1 (by omega), nth_take2 h]
      · rename_i h
        split
        · rename_i e; rw [nth_app1 (by omega), nth_app2 (by omega), hl1, e, Nat.sub_self]; rfl
        · rename_i e
          rw [nth_app2 (by omega), hl2, nth_drop]
          congr 1; omega
    have hlen : (putW l w).length = l.length + 1 := by
      rw [putW_no hf, List.length_append, hl2, List.length_drop]; omega
    intro i j h1 h2
    rw [hlen] at h2
    rw [key i (by omega), key j h2]
    by_cases a1 : i < fwI l w.Key <;> by_cases a2 : i = fwI l w.Key <;> by_cases b1 : j < fwI l w.Key <;> by_cases b2 : j = fwI l w.Key <;>
      simp only [a1, a2, b1, b2, ↓reduceIte, Nat.lt_irrefl]
    all_goals first
      | omega
      | exact hs _ _ (by omega) (by omega)
      | exact q1 _ (by omega)
      | exact fw_gt hs hf (by omega) (by omega)
theorem putW_mem {l : List Write} {w x : Write} (h : x ∈ putW l w) : x = w ∨ x ∈ l := by
  unfold putW at h
  split at h
  · exact (List.mem_or_eq_of_mem_set h).symm
  · simp only [List.mem_append, List.mem_singleton] at h
    rcases h with (h | h) | h
    · exact .inr (List.mem_of_mem_take h)
    · exact .inl h
    · exact .inr (List.mem_of_mem_drop h)
theorem putWrite_ok (l : List Write) (w : Write) (hl : l.length ≤ 2 ^ 20) (hs : srtW l) : ACall Tryz.prog n_impl_putWrite [.sl true 3 (l.map (Write.row true)), .agg (Write.row false w)] (fun r a => r = .sl true 3 ((putW l w).map (Write.row true)) ∧ a = [.any, .agg (Write.row false w)]) := by
  have hmx := mx_eq
  have hle := fwI_le (l := l) (k := w.Key)
  have e1 : (fwI l w.Key : Int).toNat = fwI l w.Key := by omega
  cases h1 : fwF l w.Key with
  | true =>
    obtain ⟨a, b⟩ := (fwF_iff hs).1 h1
    have i1 := findWrite_ok l w.Key (by omega) hs
    rw [h1] at i1
    have e := putW_yes h1
    refine fn_inD [true, false] h_impl_putWrite r_impl_putWrite ⟨by simp only [go_sem], fun E hE hH => ?_⟩; simp only [go_sem] at hE hH; simp only [go_sem, hE, hH, c_impl_putWrite]
    repeat' (first | ((with_reducible first | refine gd_t ?_ ?_ | refine gd_f ?_ ?_) <;> (intro h; have hb := h; (try simp only [nf] at h); simp (disch := omega) only [go_sem, hE, hH, e1, hb]; (try clear hb))) | ((with_reducible refine And.intro ?_ ?_); · omega) | ((first | refine ok_view ?_ | refine cvA (i1) ?_); simp (disch := omega) only [go_sem, hE, hH, e1]) | (refine jn _ ?_ ?_) | (with_reducible refine both ?_ ?_) | (with_reducible refine And.intro ?_ ?_) | (refine fin_eq ?_; (try (simp (disch := omega) only [go_sem, hE, hH, e1])); first | done | rfl) | (simp (disch := omega) only [go_sem, hE, hH, e1]) | ((first | apply noMLL_sE | apply pk_sE) <;> (simp only [go_sem, hE, hH, e1]; done)) | (simp only [go_sem, hE, hH, e1]) | fail)
    all_goals (rw [e, List.map_set]; rfl)
  | false =>
    have i1 := findWrite_ok l w.Key (by omega) hs
    rw [h1] at i1
    have e := putW_no h1
    refine fn_inD [true, false] h_impl_putWrite r_impl_putWrite ⟨by simp only [go_sem], fun E hE hH => ?_⟩; simp only [go_sem] at hE hH; simp only [go_sem, hE, hH, c_impl_putWrite]
    repeat' (first | ((with_reducible first | refine gd_t ?_ ?_ | refine gd_f ?_ ?_) <;> (intro h; have hb := h; (try simp only [nf] at h); simp (disch := omega) only [go_sem, hE, hH, e1, hb]; (try clear hb))) | ((with_reducible refine And.intro ?_ ?_); · omega) | (refine ok_lend [true, false, false] ?_; simp (disch := omega) only [go_sem, hE, hH, e1]; refine cmA (Insert_Write_ok l [w] (fwI l w.Key) (by omega) (by omega) (by omega) (by simp)) ?_; simp (disch := omega) only [go_sem, hE, hH, e1]) | ((first | refine ok_view ?_ | refine cvA (i1) ?_); simp (disch := omega) only [go_sem, hE, hH, e1]) | (refine jn _ ?_ ?_) | (with_reducible refine both ?_ ?_) | (with_reducible refine And.intro ?_ ?_) | (refine fin_eq ?_; (try (simp (disch := omega) only [go_sem, hE, hH, e1])); first | done | rfl) | (simp (disch := omega) only [go_sem, hE, hH, e1]) | ((first | apply noMLL_sE | apply pk_sE) <;> (simp only [go_sem, hE, hH, e1]; done)) | (simp only [go_sem, hE, hH, e1]) | fail)
    all_goals rw [e]
def putRw (l ws : List Write) : List Write := (ws.foldl putW l).filter fun w => !w.Gone
theorem foldl_take {α β : Type} [Inhabited α] {f : β → α → β} {b : β} {l : List α} {j : Nat} (h : j < l.length) : (l.take (j + 1)).foldl f b = f ((l.take j).foldl f b) (nth l j) := by
  simp only [take_nth h, List.foldl_append, List.foldl_cons, List.foldl_nil]
theorem flt_in {α : Type} [Inhabited α] {p : α → Bool} {l : List α} {j : Nat} (hj : j < l.length) (h : p (nth l j) = true) : (l.take (j + 1)).filter p = (l.take j).filter p ++ [nth l j] := by
  simp [take_nth hj, List.filter_append, h]
theorem flt_out {α : Type} [Inhabited α] {p : α → Bool} {l : List α} {j : Nat} (hj : j < l.length) (h : p (nth l j) = false) : (l.take (j + 1)).filter p = (l.take j).filter p := by
  simp [take_nth hj, List.filter_append, h]
theorem putWs_srt {ws : List Write} : ∀ {l : List Write}, srtW l → srtW (ws.foldl putW l) := by
  induction ws with
  | nil => exact fun h => h
  | cons w t ih => exact fun h => ih (srtW_put h)
theorem putWs_len {ws : List Write} : ∀ {l : List Write}, (ws.foldl putW l).length ≤ l.length + ws.length := by
  induction ws with
  | nil => intro l; simp
  | cons w t ih =>
    intro l
    have := ih (l := putW l w)
    have := putW_len l w
    simp only [List.foldl_cons, List.length_cons]; omega
theorem putWs_mem {ws : List Write} : ∀ {l : List Write} {x : Write}, x ∈ ws.foldl putW l → x ∈ ws ∨ x ∈ l := by
  induction ws with
  | nil => exact fun h => .inr h
  | cons w t ih =>
    intro l x h
    rcases ih h with h | h
    · exact .inl (List.mem_cons_of_mem _ h)
    · rcases putW_mem h with h | h
      · exact .inl (h ▸ List.mem_cons_self)
      · exact .inr h
theorem putRows_1_ok (w : Write) : ACall Tryz.prog n_impl_putRows_1 ([.agg (Write.row false w)] ++ []) (fun r _ => r = bl w.Gone) := by
  refine fn_in h_impl_putRows_1 r_impl_putRows_1 ⟨by simp only [go_sem], fun E hE hH => ?_⟩; simp only [go_sem] at hE hH; simp only [go_sem, hE, hH, c_impl_putRows_1]
  repeat' (first | ((with_reducible first | refine gd_t ?_ ?_ | refine gd_f ?_ ?_) <;> (intro h; have hb := h; (try simp only [nf] at h); simp (disch := omega) only [go_sem, hE, hH, hb]; (try clear hb))) | ((with_reducible refine And.intro ?_ ?_); · omega) | (refine jn _ ?_ ?_) | (with_reducible refine both ?_ ?_) | (with_reducible refine And.intro ?_ ?_) | (refine fin_eq ?_; (try (simp (disch := omega) only [go_sem, hE, hH])); first | done | rfl) | (simp (disch := omega) only [go_sem, hE, hH]) | ((first | apply noMLL_sE | apply pk_sE) <;> (simp only [go_sem, hE, hH]; done)) | (simp only [go_sem, hE, hH]) | fail)
theorem putRows_ok (l ws : List Write) (hl : l.length ≤ 2 ^ 18) (hw : ws.length ≤ 2 ^ 18) (hs : srtW l) : ACall Tryz.prog n_impl_putRows [.sl false 3 (l.map (Write.row false)), .sl false 3 (ws.map (Write.row false))] (fun r _ => r = if (putRw l ws).length ≤ 24 then .tup [.sl true 3 ((putRw l ws).map (Write.row true)), bl true] else .tup [.sl true 3 [], bl false]) := by
  have hmx := mx_eq
  refine fn_in h_impl_putRows r_impl_putRows ⟨by simp only [go_sem], fun E hE hH => ?_⟩; simp only [go_sem] at hE hH; simp only [go_sem, hE, hH, c_impl_putRows]
  repeat' (first | ((with_reducible first | refine gd_t ?_ ?_ | refine gd_f ?_ ?_) <;> (intro h; have hb := h; (try simp only [nf] at h); simp (disch := omega) only [go_sem, hE, hH, hb]; (try clear hb))) | ((with_reducible refine And.intro ?_ ?_); · omega) | ((first | refine ok_view ?_ | refine cvA (Clone_Write_ok l (by omega)) ?_); simp (disch := omega) only [go_sem, hE, hH]) | (refine jn _ ?_ ?_) | (with_reducible refine both ?_ ?_) | (with_reducible refine And.intro ?_ ?_) | (refine fin_eq ?_; (try (simp (disch := omega) only [go_sem, hE, hH])); first | done | rfl) | (simp (disch := omega) only [go_sem, hE, hH]) | ((first | apply noMLL_sE | apply pk_sE) <;> (simp only [go_sem, hE, hH]; done)) | (simp only [go_sem, hE, hH]) | fail)
  refine loopNe ws.length (fun j (x : List Write) => ⟨[(6, .ref 7000000 0 x.length), (11, .sl false 3 (ws.map (Write.row false))), (12, i64 ws.length), (13, i64 j)], [(7000000, ⟨3, x.map (Write.row true)⟩)]⟩) (fun j x => x = (ws.take j).foldl putW l) l rfl rfl ?_
  intro j x hj hI
  try simp only [go_sem, hE, hH, c_impl_putRows_l1]
  have hx : x.length ≤ 2 ^ 19 := by
    have := putWs_len (ws := ws.take j) (l := l)
    rw [← hI, List.length_take] at this; omega
  have hxs : srtW x := by rw [hI]; exact putWs_srt hs
  first | refine gd_t (fun h1 => ?_) (fun h1 => ?_) | refine gd_f (fun h1 => ?_) (fun h1 => ?_)
  · have hb1 := h1
    simp only [nf] at h1
    have hlt := h1; clear h1
    try simp (disch := omega) only [go_sem, hE, hH, hb1]
    repeat' (first | ((with_reducible first | refine gd_t ?_ ?_ | refine gd_f ?_ ?_) <;> (intro h; have hb := h; (try simp only [nf] at h); simp (disch := omega) only [go_sem, hE, hH, hb]; (try clear hb))) | ((with_reducible refine And.intro ?_ ?_); · omega) | (refine ok_lend [true, false] ?_; simp (disch := omega) only [go_sem, hE, hH]; refine cmA (putWrite_ok x (nth ws j) (by omega) hxs) ?_; simp (disch := omega) only [go_sem, hE, hH]) | (refine jn _ ?_ ?_) | (with_reducible refine both ?_ ?_) | (with_reducible refine And.intro ?_ ?_) | (refine fin_eq ?_; (try (simp (disch := omega) only [go_sem, hE, hH])); first | done | rfl) | (simp (disch := omega) only [go_sem, hE, hH]) | ((first | apply noMLL_sE | apply pk_sE) <;> (simp only [go_sem, hE, hH]; done)) | (simp only [go_sem, hE, hH]) | fail)
    all_goals (rw [foldl_take hlt, ← hI]; rfl)
  · try simp (disch := omega) only [go_sem, hE, hH, h1]
    simp only [nf] at h1
    rw [show j = ws.length by omega, List.take_length] at hI
    have e : (x.filter fun w => !w.Gone) = putRw l ws := by rw [hI]; rfl
    repeat' (first | ((with_reducible first | refine gd_t ?_ ?_ | refine gd_f ?_ ?_) <;> (intro h; have hb := h; (try simp only [nf] at h); simp (disch := omega) only [go_sem, hE, hH, hb]; (try clear hb))) | ((with_reducible refine And.intro ?_ ?_); · omega) | (refine ok_lend [true, false] ?_; simp (disch := omega) only [go_sem, hE, hH]; refine cmA (DeleteFunc_Write_ok x _ [] (fun w => w.Gone) (by kernel_rfl) rfl (by omega) (fun w _ => putRows_1_ok w)) ?_; simp (disch := omega) only [go_sem, hE, hH]) | (refine jn _ ?_ ?_) | (with_reducible refine both ?_ ?_) | (with_reducible refine And.intro ?_ ?_) | (refine fin_eq ?_; (try (simp (disch := omega) only [go_sem, hE, hH])); first | done | rfl) | (simp (disch := omega) only [go_sem, hE, hH]) | ((first | apply noMLL_sE | apply pk_sE) <;> (simp only [go_sem, hE, hH]; done)) | (simp only [go_sem, hE, hH]) | fail)
    · rw [e] at h
      rw [if_neg (by omega)]
      try simp (disch := omega) only [go_sem, hE, hH]
    · rw [e] at h ⊢
      rw [if_pos (by omega)]
      try simp (disch := omega) only [go_sem, hE, hH]
def gotW (l : List Write) (k : ByteArray) : Got := if ixf (fun w => decide (w.Key = k)) l < 0 then ⟨k, ⟨⟨[]⟩⟩, false⟩ else ⟨k, (nth l (ixf (fun w => decide (w.Key = k)) l).toNat).Val, true⟩
theorem gotW_no {l : List Write} {k : ByteArray} (h : fwF l k = false) : gotW l k = ⟨k, ⟨⟨[]⟩⟩, false⟩ := by
  have e := ixf_any (p := fun w : Write => decide (w.Key = k)) (l := l)
  rw [show (l.any fun w => decide (w.Key = k)) = fwF l k from rfl, h, decide_eq_false_iff_not] at e
  rw [gotW, if_pos (by omega)]
theorem gotW_yes {l : List Write} {k : ByteArray} (hs : srtW l) (h : fwF l k = true) : gotW l k = ⟨k, (nth l (fwI l k)).Val, true⟩ := by
  obtain ⟨a, b⟩ := (fwF_iff hs).1 h
  have e : ixf (fun w : Write => decide (w.Key = k)) l = fwI l k := ixf_at (p := fun w : Write => decide (w.Key = k)) a (allN_iff.2 fun i hi => by
    have := hs i _ hi a
    rw [b] at this
    simp [strLt_ne this]) (by simp [b])
  rw [gotW, e, if_neg (by omega)]; rfl
theorem got_eq {a b : Got} : (decide (a.Key = b.Key) && (decide (a.Val = b.Val) && a.There == b.There)) = decide (a = b) := by
  rcases a with ⟨a1, a2, a3⟩
  rcases b with ⟨b1, b2, b3⟩
  rw [Bool.eq_iff_iff]
  simp
def confD (l : List Write) (d : Deed) : Bool := d.Got.all fun g => decide (gotW l g.Key = g)
theorem gotOf_ok (l : List Write) (k : ByteArray) (hl : l.length ≤ 2 ^ 20) (hs : srtW l) : ACall Tryz.prog n_impl_gotOf [.sl false 3 (l.map (Write.row false)), str k] (fun r _ => r = .agg (Got.row true (gotW l k))) := by
  have hmx := mx_eq
  have i1 := findWrite_ok l k (by omega) hs
  cases h1 : fwF l k with
  | false =>
    rw [h1] at i1
    have e := gotW_no h1
    refine fn_in h_impl_gotOf r_impl_gotOf ⟨by simp only [go_sem], fun E hE hH => ?_⟩; simp only [go_sem] at hE hH; simp only [go_sem, hE, hH, c_impl_gotOf]
    repeat' (first | ((with_reducible first | refine gd_t ?_ ?_ | refine gd_f ?_ ?_) <;> (intro h; have hb := h; (try simp only [nf] at h); simp (disch := omega) only [go_sem, hE, hH, hb]; (try clear hb))) | ((with_reducible refine And.intro ?_ ?_); · omega) | ((first | refine ok_view ?_ | refine cvA (i1) ?_); simp (disch := omega) only [go_sem, hE, hH]) | (refine jn _ ?_ ?_) | (with_reducible refine both ?_ ?_) | (with_reducible refine And.intro ?_ ?_) | (refine fin_eq ?_; (try (simp (disch := omega) only [go_sem, hE, hH])); first | done | rfl) | (simp (disch := omega) only [go_sem, hE, hH]) | ((first | apply noMLL_sE | apply pk_sE) <;> (simp only [go_sem, hE, hH]; done)) | (simp only [go_sem, hE, hH]) | fail)
    all_goals (rw [e]; try rfl)
  | true =>
    obtain ⟨a, b⟩ := (fwF_iff hs).1 h1
    rw [h1] at i1
    have e := gotW_yes hs h1
    refine fn_in h_impl_gotOf r_impl_gotOf ⟨by simp only [go_sem], fun E hE hH => ?_⟩; simp only [go_sem] at hE hH; simp only [go_sem, hE, hH, c_impl_gotOf]
    repeat' (first | ((with_reducible first | refine gd_t ?_ ?_ | refine gd_f ?_ ?_) <;> (intro h; have hb := h; (try simp only [nf] at h); simp (disch := omega) only [go_sem, hE, hH, hb]; (try clear hb))) | ((with_reducible refine And.intro ?_ ?_); · omega) | ((first | refine ok_view ?_ | refine cvA (i1) ?_); simp (disch := omega) only [go_sem, hE, hH]) | (refine jn _ ?_ ?_) | (with_reducible refine both ?_ ?_) | (with_reducible refine And.intro ?_ ?_) | (refine fin_eq ?_; (try (simp (disch := omega) only [go_sem, hE, hH])); first | done | rfl) | (simp (disch := omega) only [go_sem, hE, hH]) | ((first | apply noMLL_sE | apply pk_sE) <;> (simp only [go_sem, hE, hH]; done)) | (simp only [go_sem, hE, hH]) | fail)
    all_goals (rw [e]; try rfl)
theorem confirms_1_ok (l : List Write) (g : Got) (hl : l.length ≤ 2 ^ 20) (hs : srtW l) : ACall Tryz.prog n_impl_Deed_confirms_1 ([.agg (Got.row false g)] ++ [.bx false [.sl false 3 (l.map (Write.row false))]]) (fun r _ => r = bl (!decide (gotW l g.Key = g))) := by
  refine fn_in h_impl_Deed_confirms_1 r_impl_Deed_confirms_1 ⟨by simp only [go_sem], fun E hE hH => ?_⟩; simp only [go_sem] at hE hH; simp only [go_sem, hE, hH, c_impl_Deed_confirms_1]
  repeat' (first | ((with_reducible first | refine gd_t ?_ ?_ | refine gd_f ?_ ?_) <;> (intro h; have hb := h; (try simp only [nf] at h); simp (disch := omega) only [go_sem, hE, hH, hb]; (try clear hb))) | ((with_reducible refine And.intro ?_ ?_); · omega) | ((first | refine ok_view ?_ | refine cvA (gotOf_ok l g.Key hl hs) ?_); simp (disch := omega) only [go_sem, hE, hH]) | (refine jn _ ?_ ?_) | (with_reducible refine both ?_ ?_) | (with_reducible refine And.intro ?_ ?_) | (refine fin_eq ?_; (try (simp (disch := omega) only [go_sem, hE, hH])); first | done | rfl) | (simp (disch := omega) only [go_sem, hE, hH]) | ((first | apply noMLL_sE | apply pk_sE) <;> (simp only [go_sem, hE, hH]; done)) | (simp only [go_sem, hE, hH]) | fail)
  all_goals rw [got_eq]
theorem confirms_ok (l : List Write) (d : Deed) (hg : d.Got.length ≤ maxLen) (hl : l.length ≤ 2 ^ 20) (hs : srtW l) : ACall Tryz.prog n_impl_Deed_confirms [.agg (Deed.row false d), .sl false 3 (l.map (Write.row false))] (fun r _ => r = bl (confD l d)) := by
  have e : (!d.Got.any fun g => !decide (gotW l g.Key = g)) = confD l d := any_not_all
  refine fn_in h_impl_Deed_confirms r_impl_Deed_confirms ⟨by simp only [go_sem], fun E hE hH => ?_⟩; simp only [go_sem] at hE hH; simp only [go_sem, hE, hH, c_impl_Deed_confirms]
  repeat' (first | ((with_reducible first | refine gd_t ?_ ?_ | refine gd_f ?_ ?_) <;> (intro h; have hb := h; (try simp only [nf] at h); simp (disch := omega) only [go_sem, hE, hH, hb]; (try clear hb))) | ((with_reducible refine And.intro ?_ ?_); · omega) | ((first | refine ok_view ?_ | refine cvA (ContainsFunc_Got_ok d.Got _ [.bx false [.sl false 3 (l.map (Write.row false))]] (fun g => !decide (gotW l g.Key = g)) (by kernel_rfl) rfl hg (fun g _ => confirms_1_ok l g hl hs)) ?_); simp (disch := omega) only [go_sem, hE, hH]) | (refine jn _ ?_ ?_) | (with_reducible refine both ?_ ?_) | (with_reducible refine And.intro ?_ ?_) | (refine fin_eq ?_; (try (simp (disch := omega) only [go_sem, hE, hH])); first | done | rfl) | (simp (disch := omega) only [go_sem, hE, hH]) | ((first | apply noMLL_sE | apply pk_sE) <;> (simp only [go_sem, hE, hH]; done)) | (simp only [go_sem, hE, hH]) | fail)
  all_goals rw [e]
theorem l5Tell_ok (l : List Write) (k : ByteArray) (hl : l.length ≤ maxLen) : ACall Tryz.prog n_spec_l5Tell [.sl false 3 (l.map (Write.row false)), str k] (fun r _ => r = .agg (Got.row true (gotW l k))) := by
  have hmx := mx_eq
  have hall : ∀ {j : Nat}, j < l.length → allN (fun i => !decide ((nth l i).Key = k)) j = true → (nth l j).Key = k → gotW l k = ⟨k, (nth l j).Val, true⟩ := by
    intro j h1 h2 h3
    have e : ixf (fun w : Write => decide (w.Key = k)) l = j := ixf_at (p := fun w : Write => decide (w.Key = k)) h1 h2 (by simp [h3])
    rw [gotW, e, if_neg (by omega)]; rfl
  refine fn_in h_spec_l5Tell r_spec_l5Tell ⟨by simp only [go_sem], fun E hE hH => ?_⟩; simp only [go_sem] at hE hH; simp only [go_sem, hE, hH, c_spec_l5Tell]
  try simp (disch := omega) only [go_sem, hE, hH]
  refine loopN l.length (fun j (_ : Unit) => ⟨[(1, str k), (4, .ptr 5000000 0 0), (7, .sl false 3 (l.map (Write.row false))), (8, i64 l.length), (9, i64 j)], [(5000000, ⟨3, [[str ⟨⟨[]⟩⟩, str ⟨⟨[]⟩⟩, bl false]]⟩)]⟩) (fun j _ => allN (fun i => !decide ((nth l i).Key = k)) j = true) () rfl ?_
  intro j _ hj hI
  try simp only [go_sem, hE, hH, c_spec_l5Tell_l1]
  first | refine gd_t (fun h1 => ?_) (fun h1 => ?_) | refine gd_f (fun h1 => ?_) (fun h1 => ?_)
  · have hb1 := h1
    simp only [nf] at h1
    have hlt := h1; clear h1
    try simp (disch := omega) only [go_sem, hE, hH, hb1]
    repeat' (first | ((with_reducible first | refine gd_t ?_ ?_ | refine gd_f ?_ ?_) <;> (intro h; have hb := h; (try simp only [nf] at h); simp (disch := omega) only [go_sem, hE, hH, hb]; (try clear hb))) | ((with_reducible refine And.intro ?_ ?_); · omega) | (refine jn _ ?_ ?_) | (with_reducible refine both ?_ ?_) | (with_reducible refine And.intro ?_ ?_) | (refine fin_eq ?_; (try (simp (disch := omega) only [go_sem, hE, hH])); first | done | rfl) | (simp (disch := omega) only [go_sem, hE, hH]) | ((first | apply noMLL_sE | apply pk_sE) <;> (simp only [go_sem, hE, hH]; done)) | (simp only [go_sem, hE, hH]) | fail)
    all_goals try (rw [hall hlt hI (by assumption)]; done)
    · first | exact ⟨(), rfl, allN_step hI (by simp [h])⟩ | exact ⟨by omega, (), rfl, allN_step hI (by simp [h])⟩ | exact ⟨by omega, by omega, (), rfl, allN_step hI (by simp [h])⟩
  · try simp (disch := omega) only [go_sem, hE, hH, h1]
    simp only [nf] at h1
    rw [show j = l.length by omega] at hI
    have e : ixf (fun w : Write => decide (w.Key = k)) l = -1 := ixf_none (p := fun w : Write => decide (w.Key = k)) hI
    have e2 : gotW l k = ⟨k, ⟨⟨[]⟩⟩, false⟩ := by rw [gotW, e]; rfl
    repeat' (first | ((with_reducible first | refine gd_t ?_ ?_ | refine gd_f ?_ ?_) <;> (intro h; have hb := h; (try simp only [nf] at h); simp (disch := omega) only [go_sem, hE, hH, hb]; (try clear hb))) | ((with_reducible refine And.intro ?_ ?_); · omega) | (refine jn _ ?_ ?_) | (with_reducible refine both ?_ ?_) | (with_reducible refine And.intro ?_ ?_) | (refine fin_eq ?_; (try (simp (disch := omega) only [go_sem, hE, hH])); first | done | rfl) | (simp (disch := omega) only [go_sem, hE, hH]) | ((first | apply noMLL_sE | apply pk_sE) <;> (simp only [go_sem, hE, hH]; done)) | (simp only [go_sem, hE, hH]) | fail)
    all_goals (rw [e2]; try rfl)
theorem l18Fits_ok (l : List Write) (d : Deed) (hg : d.Got.length ≤ maxLen) (hl : l.length ≤ maxLen) : ACall Tryz.prog n_spec_l18Fits [.sl false 3 (l.map (Write.row false)), .agg (Deed.row false d)] (fun r _ => r = bl (confD l d)) := by
  have hmx := mx_eq
  refine fn_in h_spec_l18Fits r_spec_l18Fits ⟨by simp only [go_sem], fun E hE hH => ?_⟩; simp only [go_sem] at hE hH; simp only [go_sem, hE, hH, c_spec_l18Fits]
  try simp (disch := omega) only [go_sem, hE, hH]
  refine loopN d.Got.length (fun j (_ : Unit) => ⟨[(0, .sl false 3 (l.map (Write.row false))), (8, .sl false 3 (d.Got.map (Got.row false))), (9, i64 d.Got.length), (10, i64 j)], []⟩) (fun j _ => allN (fun i => decide (gotW l (nth d.Got i).Key = nth d.Got i)) j = true) () rfl ?_
  intro j _ hj hI
  try simp only [go_sem, hE, hH, c_spec_l18Fits_l1]
  first | refine gd_t (fun h1 => ?_) (fun h1 => ?_) | refine gd_f (fun h1 => ?_) (fun h1 => ?_)
  · have hb1 := h1
    simp only [nf] at h1
    have hlt := h1; clear h1
    try simp (disch := omega) only [go_sem, hE, hH, hb1]
    repeat' (first | ((with_reducible first | refine gd_t ?_ ?_ | refine gd_f ?_ ?_) <;> (intro h; have hb := h; (try simp only [nf] at h); simp (disch := omega) only [go_sem, hE, hH, hb]; (try clear hb))) | ((with_reducible refine And.intro ?_ ?_); · omega) | ((first | refine ok_view ?_ | refine cvA (l5Tell_ok l (nth d.Got j).Key hl) ?_); simp (disch := omega) only [go_sem, hE, hH]) | (refine jn _ ?_ ?_) | (with_reducible refine both ?_ ?_) | (with_reducible refine And.intro ?_ ?_) | (refine fin_eq ?_; (try (simp (disch := omega) only [go_sem, hE, hH])); first | done | rfl) | (simp (disch := omega) only [go_sem, hE, hH]) | ((first | apply noMLL_sE | apply pk_sE) <;> (simp only [go_sem, hE, hH]; done)) | (simp only [go_sem, hE, hH]) | fail)
    · rw [got_eq] at h
      have : confD l d = false := by
        rw [confD, List.all_eq_false]
        exact ⟨_, nth_mem hlt, by simp only [h]; decide⟩
      rw [this]
    · rw [got_eq] at h
      first | exact ⟨(), rfl, allN_step hI h⟩ | exact ⟨by omega, (), rfl, allN_step hI h⟩ | exact ⟨by omega, by omega, (), rfl, allN_step hI h⟩
  · try simp (disch := omega) only [go_sem, hE, hH, h1]
    simp only [nf] at h1
    rw [show j = d.Got.length by omega, allN_all (p := fun g : Got => decide (gotW l g.Key = g))] at hI
    rw [confD, hI]
theorem pw_found {l : List Write} {k : ByteArray} {x : Nat} (hs : srtW l) (hx : x < l.length) (h2 : (nth l x).Key = k) : fwF l k = true ∧ fwI l k = x := by
  refine ⟨List.any_eq_true.2 ⟨_, nth_mem hx, by simp [h2]⟩, fwI_at hs (by omega) (fun i hi => by have := hs i x hi hx; rwa [h2] at this) fun i h1 h3 => ?_⟩
  by_cases e : i = x
  · rw [e, h2]; exact strLt_irr _
  · have := hs x i (by omega) h3
    rw [h2] at this
    exact strLt_asymm this
theorem pw_not {l : List Write} {k : ByteArray} {x : Nat} (hs : srtW l) (hx : x ≤ l.length) (h1 : ∀ i, x ≤ i → i < l.length → strLt k (nth l i).Key = true) (h2 : x = 0 ∨ strLt (nth l (x - 1)).Key k = true) : fwF l k = false ∧ fwI l k = x := by
  have hlo : ∀ i, i < x → strLt (nth l i).Key k = true := by
    intro i hi
    rcases h2 with h2 | h2
    · omega
    · by_cases e : i = x - 1
      · rw [e]; exact h2
      · exact strLt_trans (hs i (x - 1) (by omega) (by omega)) h2
  refine ⟨?_, fwI_at hs hx hlo fun i a b => strLt_asymm (h1 i a b)⟩
  rw [fwF, List.any_eq_false]
  intro w hw
  obtain ⟨i, hi, rfl⟩ := List.getElem_of_mem hw
  rw [← nth_lt hi, decide_eq_true_iff]
  intro e
  by_cases a : i < x
  · have := hlo i a; rw [e, strLt_irr] at this; cases this
  · have := h1 i (by omega) hi; rw [e, strLt_irr] at this; cases this
theorem l5PutW_ok (l : List Write) (w : Write) (hl : l.length ≤ 2 ^ 20) (hs : srtW l) : ACall Tryz.prog n_spec_l5PutW [.sl false 3 (l.map (Write.row false)), .agg (Write.row false w)] (fun r _ => r = .sl true 3 ((putW l w).map (Write.row true))) := by
  have hmx := mx_eq
  refine fn_in h_spec_l5PutW r_spec_l5PutW ⟨by simp only [go_sem], fun E hE hH => ?_⟩; simp only [go_sem] at hE hH; simp only [go_sem, hE, hH, c_spec_l5PutW]
  try simp only [go_sem, hE, hH]
  refine loopM (fun (x : Nat) => ⟨[(0, .sl false 3 (l.map (Write.row false))), (3, .ptr 4000000 0 0), (5, i64 x)], [(4000000, ⟨3, [Write.row false w]⟩)]⟩) (fun x => x ≤ l.length ∧ ∀ i, x ≤ i → i < l.length → strLt w.Key (nth l i).Key = true) (fun x => x) l.length ⟨Nat.le_refl _, fun i a b => by omega⟩ ?_
  rintro x ⟨hx, hgt⟩
  have e1 : ((x : Int) - 1).toNat = x - 1 := by omega
  have e2 : (l.take x).length = x := by rw [List.length_take]; omega
  have e3 : (l.drop x).take (l.length - x) = l.drop x := List.take_of_length_le (by rw [List.length_drop]; exact Nat.le_refl _)
  have e4 : ∀ r : List T, (List.map (fun x : Write => [str x.Key, str x.Val, bl x.Gone]) (l.take x) ++ [r]).take (x + 1) = List.map (fun x : Write => [str x.Key, str x.Val, bl x.Gone]) (l.take x) ++ [r] := fun r => List.take_of_length_le (by rw [List.length_append, List.length_map, e2]; exact Nat.le_refl _)
  have e5 : (l.drop x).length = l.length - x := List.length_drop
  have e6 : (l.take x).take x = l.take x := by rw [List.take_take, Nat.min_self]
  have e7 : ∀ r : List T, (List.map (fun x : Write => [str x.Key, str x.Val, bl x.Gone]) (l.take x) ++ [r]).length = x + 1 := fun r => by rw [List.length_append, List.length_map, e2]; rfl
  have end1 : ∀ {h0 : 0 < x}, (nth l (x - 1)).Key = w.Key → (l.map (Write.row true)).set (x - 1) (Write.row true w) = (putW l w).map (Write.row true) := by
    intro h0 h
    obtain ⟨a, b⟩ := pw_found hs (x := x - 1) (by omega) h
    rw [putW_yes a, b, List.map_set]
  have end2 : x = 0 ∨ strLt (nth l (x - 1)).Key w.Key = true → (l.take x).map (Write.row true) ++ [Write.row true w] ++ (l.drop x).map (Write.row true) = (putW l w).map (Write.row true) := by
    intro h
    obtain ⟨a, b⟩ := pw_not hs hx hgt h
    rw [putW_no a, b, List.map_append, List.map_append]; rfl
  try simp only [go_sem, hE, hH, c_spec_l5PutW_l1]
  repeat' (first | ((with_reducible first | refine gd_t ?_ ?_ | refine gd_f ?_ ?_) <;> (intro h; have hb := h; (try simp only [nf] at h); simp (disch := omega) only [go_sem, hE, hH, e1, e2, e3, e4, e5, e6, e7, hb]; (try clear hb))) | ((with_reducible refine And.intro ?_ ?_); · omega) | (with_reducible apply jn) | (with_reducible apply both) | (with_reducible refine And.intro ?_ ?_) | ((with_reducible apply fin_eq); (try (simp (disch := omega) only [go_sem, hE, hH, e1, e2, e3, e4, e5, e6, e7])); first | done | rfl) | (simp (disch := omega) only [go_sem, hE, hH, e1, e2, e3, e4, e5, e6, e7]) | ((first | apply noMLL_sE | apply pk_sE) <;> (simp only [go_sem, hE, hH, e1, e2, e3, e4, e5, e6, e7]; done)) | (simp only [go_sem, hE, hH, e1, e2, e3, e4, e5, e6, e7]) | fail)
  all_goals try omega
  · refine ⟨x - 1, by rw [show ((x : Int) - 1) = ((x - 1 : Nat) : Int) by omega], ⟨by omega, fun i h1 h2 => ?_⟩, by omega⟩
    by_cases e : i = x - 1
    · rw [e]; assumption
    · exact hgt i (by omega) h2
  · exact congrArg (T.sl true 3) (end1 (h0 := by omega) (by assumption))
  · exact congrArg (T.sl true 3) (end2 (.inr (by
      rcases strLt_total (nth l (x - 1)).Key w.Key with q | q | q
      · exact q
      · contradiction
      · simp_all)))
  · exact congrArg (T.sl true 3) (end2 (.inl (by omega)))
theorem l5PutRows_ok (l ws : List Write) (hl : l.length ≤ 2 ^ 18) (hw : ws.length ≤ 2 ^ 18) (hs : srtW l) : ACall Tryz.prog n_spec_l5PutRows [.sl false 3 (l.map (Write.row false)), .sl false 3 (ws.map (Write.row false))] (fun r _ => r = .sl true 3 ((putRw l ws).map (Write.row true))) := by
  have hmx := mx_eq
  refine fn_in h_spec_l5PutRows r_spec_l5PutRows ⟨by simp only [go_sem], fun E hE hH => ?_⟩; simp only [go_sem] at hE hH; simp only [go_sem, hE, hH, c_spec_l5PutRows]
  repeat' (first | ((with_reducible first | refine gd_t ?_ ?_ | refine gd_f ?_ ?_) <;> (intro h; have hb := h; (try simp only [nf] at h); simp (disch := omega) only [go_sem, hE, hH, hb]; (try clear hb))) | ((with_reducible refine And.intro ?_ ?_); · omega) | (refine jn _ ?_ ?_) | (with_reducible refine both ?_ ?_) | (with_reducible refine And.intro ?_ ?_) | (refine fin_eq ?_; (try (simp (disch := omega) only [go_sem, hE, hH])); first | done | rfl) | (simp (disch := omega) only [go_sem, hE, hH]) | ((first | apply noMLL_sE | apply pk_sE) <;> (simp only [go_sem, hE, hH]; done)) | (simp only [go_sem, hE, hH]) | fail)
  refine loopNe ws.length (fun j (x : List Write) => ⟨[(5, .ref 6000000 0 x.length), (14, .sl false 3 (ws.map (Write.row false))), (15, i64 ws.length), (16, i64 j)], [(6000000, ⟨3, x.map (Write.row true)⟩)]⟩) (fun j x => x = (ws.take j).foldl putW l) l rfl rfl ?_
  intro j x hj hI
  try simp only [go_sem, hE, hH, c_spec_l5PutRows_l1]
  have hx : x.length ≤ 2 ^ 19 := by
    have := putWs_len (ws := ws.take j) (l := l)
    rw [← hI, List.length_take] at this; omega
  have hxs : srtW x := by rw [hI]; exact putWs_srt hs
  first | refine gd_t (fun h1 => ?_) (fun h1 => ?_) | refine gd_f (fun h1 => ?_) (fun h1 => ?_)
  · have hb1 := h1
    simp only [nf] at h1
    have hlt := h1; clear h1
    try simp (disch := omega) only [go_sem, hE, hH, hb1]
    repeat' (first | ((with_reducible first | refine gd_t ?_ ?_ | refine gd_f ?_ ?_) <;> (intro h; have hb := h; (try simp only [nf] at h); simp (disch := omega) only [go_sem, hE, hH, hb]; (try clear hb))) | ((with_reducible refine And.intro ?_ ?_); · omega) | ((first | refine ok_view ?_ | refine cvA (l5PutW_ok x (nth ws j) (by omega) hxs) ?_); simp (disch := omega) only [go_sem, hE, hH]) | (refine jn _ ?_ ?_) | (with_reducible refine both ?_ ?_) | (with_reducible refine And.intro ?_ ?_) | (refine fin_eq ?_; (try (simp (disch := omega) only [go_sem, hE, hH])); first | done | rfl) | (simp (disch := omega) only [go_sem, hE, hH]) | ((first | apply noMLL_sE | apply pk_sE) <;> (simp only [go_sem, hE, hH]; done)) | (simp only [go_sem, hE, hH]) | fail)
    all_goals (rw [foldl_take hlt, ← hI]; rfl)
  · try simp (disch := omega) only [go_sem, hE, hH, h1]
    simp only [nf] at h1
    rw [show j = ws.length by omega, List.take_length] at hI
    refine loopNe x.length (fun j (y : List Write) => ⟨[(8, .ref 9000000 0 y.length), (24, .ref 6000000 0 x.length), (25, i64 x.length), (26, i64 j)], [(9000000, ⟨3, y.map (Write.row true)⟩), (6000000, ⟨3, x.map (Write.row true)⟩)]⟩) (fun j y => y = (x.take j).filter fun w => !w.Gone) [] rfl rfl ?_
    intro j y hj hy
    have hyl : y.length ≤ x.length := by
      have := List.length_filter_le (fun w : Write => !w.Gone) (x.take j)
      rw [← hy, List.length_take] at this; omega
    try simp only [go_sem, hE, hH, c_spec_l5PutRows_l2]
    first | refine gd_t (fun h2 => ?_) (fun h2 => ?_) | refine gd_f (fun h2 => ?_) (fun h2 => ?_)
    · have hb2 := h2
      simp only [nf] at h2
      have hlt := h2; clear h2
      try simp (disch := omega) only [go_sem, hE, hH, hb2]
      repeat' (first | ((with_reducible first | refine gd_t ?_ ?_ | refine gd_f ?_ ?_) <;> (intro h; have hb := h; (try simp only [nf] at h); simp (disch := omega) only [go_sem, hE, hH, hb]; (try clear hb))) | ((with_reducible refine And.intro ?_ ?_); · omega) | (refine jn _ ?_ ?_) | (with_reducible refine both ?_ ?_) | (with_reducible refine And.intro ?_ ?_) | (refine fin_eq ?_; (try (simp (disch := omega) only [go_sem, hE, hH])); first | done | rfl) | (simp (disch := omega) only [go_sem, hE, hH]) | ((first | apply noMLL_sE | apply pk_sE) <;> (simp only [go_sem, hE, hH]; done)) | (simp only [go_sem, hE, hH]) | fail)
      all_goals try omega
      · rw [flt_in hlt (by simp [h]), ← hy, List.length_append, List.map_append]; rfl
      · rw [flt_out hlt (by simp [h]), ← hy]; rfl
    · try simp (disch := omega) only [go_sem, hE, hH, h2]
      simp only [nf] at h2
      rw [show j = x.length by omega, List.take_length] at hy
      have e : putRw l ws = y := by rw [putRw, ← hI, hy]
      repeat' (first | ((with_reducible first | refine gd_t ?_ ?_ | refine gd_f ?_ ?_) <;> (intro h; have hb := h; (try simp only [nf] at h); simp (disch := omega) only [go_sem, hE, hH, hb]; (try clear hb))) | ((with_reducible refine And.intro ?_ ?_); · omega) | (refine jn _ ?_ ?_) | (with_reducible refine both ?_ ?_) | (with_reducible refine And.intro ?_ ?_) | (refine fin_eq ?_; (try (simp (disch := omega) only [go_sem, hE, hH])); first | done | rfl) | (simp (disch := omega) only [go_sem, hE, hH]) | ((first | apply noMLL_sE | apply pk_sE) <;> (simp only [go_sem, hE, hH]; done)) | (simp only [go_sem, hE, hH]) | fail)
      all_goals (rw [e])
def rowsOk (l : List Write) : Bool := (l.all fun w => !w.Gone) && goodWrites l
theorem l5Rows_ok (l : List Write) (hl : wfL Write.wf l) : ACall Tryz.prog n_spec_l5Rows [.sl false 3 (l.map (Write.row false))] (fun r _ => r = bl (rowsOk l)) := by
  have hmx := mx_eq
  have hll := hl.1
  refine fn_in h_spec_l5Rows r_spec_l5Rows ⟨by simp only [go_sem], fun E hE hH => ?_⟩; simp only [go_sem] at hE hH; simp only [go_sem, hE, hH, c_spec_l5Rows]
  try simp (disch := omega) only [go_sem, hE, hH]
  refine loopN l.length (fun j (_ : Unit) => ⟨[(0, .sl false 3 (l.map (Write.row false))), (5, .sl false 3 (l.map (Write.row false))), (6, i64 l.length), (7, i64 j)], []⟩) (fun j _ => allN (fun i => !(nth l i).Gone) j = true) () rfl ?_
  intro j _ hj hI
  try simp only [go_sem, hE, hH, c_spec_l5Rows_l1]
  first | refine gd_t (fun h1 => ?_) (fun h1 => ?_) | refine gd_f (fun h1 => ?_) (fun h1 => ?_)
  · have hb1 := h1
    simp only [nf] at h1
    have hlt := h1; clear h1
    try simp (disch := omega) only [go_sem, hE, hH, hb1]
    repeat' (first | ((with_reducible first | refine gd_t ?_ ?_ | refine gd_f ?_ ?_) <;> (intro h; have hb := h; (try simp only [nf] at h); simp (disch := omega) only [go_sem, hE, hH, hb]; (try clear hb))) | ((with_reducible refine And.intro ?_ ?_); · omega) | (refine jn _ ?_ ?_) | (with_reducible refine both ?_ ?_) | (with_reducible refine And.intro ?_ ?_) | (refine fin_eq ?_; (try (simp (disch := omega) only [go_sem, hE, hH])); first | done | rfl) | (simp (disch := omega) only [go_sem, hE, hH]) | ((first | apply noMLL_sE | apply pk_sE) <;> (simp only [go_sem, hE, hH]; done)) | (simp only [go_sem, hE, hH]) | fail)
    · have : rowsOk l = false := by
        rw [rowsOk, Bool.and_eq_false_iff]; left
        rw [List.all_eq_false]
        exact ⟨_, nth_mem hlt, by simp [h]⟩
      rw [this]
    · first | exact ⟨(), rfl, allN_step hI (by simp [h])⟩ | exact ⟨by omega, (), rfl, allN_step hI (by simp [h])⟩ | exact ⟨by omega, by omega, (), rfl, allN_step hI (by simp [h])⟩
  · try simp (disch := omega) only [go_sem, hE, hH, h1]
    simp only [nf] at h1
    rw [show j = l.length by omega, allN_all (p := fun w : Write => !w.Gone)] at hI
    repeat' (first | ((with_reducible first | refine gd_t ?_ ?_ | refine gd_f ?_ ?_) <;> (intro h; have hb := h; (try simp only [nf] at h); simp (disch := omega) only [go_sem, hE, hH, hb]; (try clear hb))) | ((with_reducible refine And.intro ?_ ?_); · omega) | ((first | refine ok_view ?_ | refine cvA (l3Writes_ok l hl) ?_); simp (disch := omega) only [go_sem, hE, hH]) | (refine jn _ ?_ ?_) | (with_reducible refine both ?_ ?_) | (with_reducible refine And.intro ?_ ?_) | (refine fin_eq ?_; (try (simp (disch := omega) only [go_sem, hE, hH])); first | done | rfl) | (simp (disch := omega) only [go_sem, hE, hH]) | ((first | apply noMLL_sE | apply pk_sE) <;> (simp only [go_sem, hE, hH]; done)) | (simp only [go_sem, hE, hH]) | fail)
    all_goals (rw [rowsOk, hI]; rfl)
def okW (w : Write) : Bool := goodKey w.Key && stored w.Val w.Gone
theorem goodWrites_iff {l : List Write} : goodWrites l = true ↔ l.length ≤ 24 ∧ srtW l ∧ ∀ w ∈ l, okW w = true := by
  constructor
  · intro h
    have hs := goodWrites_srt h
    simp only [goodWrites, Bool.and_eq_true, decide_eq_true_eq] at h
    refine ⟨by omega, hs, fun w hw => ?_⟩
    obtain ⟨i, hi, rfl⟩ := List.getElem_of_mem hw
    have := allN_iff.1 h.2 i hi
    simp only [Bool.and_eq_true] at this
    rw [← nth_lt hi, okW, Bool.and_eq_true]; exact this.1
  · rintro ⟨h1, h2, h3⟩
    simp only [goodWrites, Bool.and_eq_true, decide_eq_true_eq]
    refine ⟨by omega, allN_iff.2 fun i hi => ?_⟩
    have := h3 _ (nth_mem hi)
    rw [okW] at this
    simp only [Bool.and_eq_true, Bool.or_eq_true, decide_eq_true_eq] at this ⊢
    refine ⟨this, ?_⟩
    by_cases e : i = 0
    · exact .inl e
    · exact .inr (h2 _ _ (by omega) hi)
theorem rowsOk_iff {l : List Write} : rowsOk l = true ↔ l.length ≤ 24 ∧ srtW l ∧ ∀ w ∈ l, okW w = true ∧ w.Gone = false := by
  rw [rowsOk, Bool.and_eq_true, goodWrites_iff, List.all_eq_true]
  simp only [Bool.not_eq_true']
  constructor
  · rintro ⟨a, b, c, d⟩; exact ⟨b, c, fun w hw => ⟨d w hw, a w hw⟩⟩
  · rintro ⟨b, c, d⟩; exact ⟨fun w hw => (d w hw).2, b, c, fun w hw => (d w hw).1⟩
theorem srtW_pw {l : List Write} : srtW l ↔ l.Pairwise fun a b => strLt a.Key b.Key = true := by
  rw [List.pairwise_iff_getElem]
  constructor
  · intro h i j hi hj hij
    have := h i j hij hj
    rwa [nth_lt hi, nth_lt hj] at this
  · intro h i j hij hj
    rw [nth_lt (by omega), nth_lt hj]; exact h i j (by omega) hj hij
theorem srtW_filter {l : List Write} {p : Write → Bool} (h : srtW l) : srtW (l.filter p) := srtW_pw.2 ((srtW_pw.1 h).filter p)
theorem putRw_ok {l ws : List Write} (hl : rowsOk l = true) (hw : goodWrites ws = true) : rowsOk (putRw l ws) = decide ((putRw l ws).length ≤ 24) := by
  obtain ⟨a, b, c⟩ := rowsOk_iff.1 hl
  obtain ⟨d, e, f⟩ := goodWrites_iff.1 hw
  rw [Bool.eq_iff_iff, rowsOk_iff, decide_eq_true_iff]
  refine ⟨fun h => h.1, fun h => ⟨h, srtW_filter (putWs_srt b), fun w hw => ?_⟩⟩
  rw [putRw, List.mem_filter] at hw
  refine ⟨?_, by simpa using hw.2⟩
  rcases putWs_mem hw.1 with h | h
  · exact f w h
  · exact (c w h).1
theorem okW_sz {w : Write} (h : okW w = true) : w.Key.size ≤ 12 ∧ w.Val.size ≤ 24 := by
  simp only [okW, goodKey, stored, goodVal, Bool.and_eq_true, rng_iff, decide_eq_true_eq] at h
  omega
theorem putRw_len {l ws : List Write} : (putRw l ws).length ≤ l.length + ws.length := Nat.le_trans (List.length_filter_le _ _) putWs_len
theorem rows_wf {l : List Write} (h : ∀ w ∈ l, okW w = true) (hl : l.length ≤ 2 ^ 20) : wfL Write.wf l := by
  have hmx := mx_eq
  refine ⟨by omega, fun w hw => ?_⟩
  have := okW_sz (h w hw)
  exact ⟨by omega, by omega⟩
theorem goodDeed_writes {d : Deed} (h : goodDeed d = true) : goodWrites d.Writes = true ∧ d.Got.length ≤ 8 ∧ d.Writes.length ≤ 24 := by
  simp only [goodDeed, goodGots, Bool.and_eq_true, decide_eq_true_eq] at h
  have := goodWrites_iff.1 h.2.2
  refine ⟨h.2.2, ?_, this.1⟩
  have := h.2.1.2.2
  omega
def commJ (l : List Deed) (j : Nat) : List Int := ((List.range j).filter fun i => (nth l i).Yes).map fun i : Nat => (i : Int)
def commD (l : List Deed) : List Int := commJ l l.length
theorem commJ_len {l : List Deed} {j : Nat} : (commJ l j).length ≤ j := by
  have := List.length_filter_le (fun i => (nth l i).Yes) (List.range j)
  rw [List.length_range] at this
  rw [commJ, List.length_map]; exact this
theorem commJ_in {l : List Deed} {j : Nat} (h : (nth l j).Yes = true) : commJ l (j + 1) = commJ l j ++ [(j : Int)] := by
  simp [commJ, List.range_succ, List.filter_append, h]
theorem commJ_out {l : List Deed} {j : Nat} (h : (nth l j).Yes = false) : commJ l (j + 1) = commJ l j := by
  simp [commJ, List.range_succ, List.filter_append, h]
theorem committed_ok (l : List Deed) (hl : l.length ≤ 2 ^ 20) : ACall Tryz.prog n_impl_committed [.sl false 8 (l.map (Deed.row false))] (fun r _ => r = .sl true 1 (ints (commD l))) := by
  have hmx := mx_eq
  refine fn_in h_impl_committed r_impl_committed ⟨by simp only [go_sem], fun E hE hH => ?_⟩; simp only [go_sem] at hE hH; simp only [go_sem, hE, hH, c_impl_committed]
  repeat' (first | ((with_reducible first | refine gd_t ?_ ?_ | refine gd_f ?_ ?_) <;> (intro h; have hb := h; (try simp only [nf] at h); simp (disch := omega) only [go_sem, hE, hH, hb]; (try clear hb))) | ((with_reducible refine And.intro ?_ ?_); · omega) | (refine jn _ ?_ ?_) | (with_reducible refine both ?_ ?_) | (with_reducible refine And.intro ?_ ?_) | (refine fin_eq ?_; (try (simp (disch := omega) only [go_sem, hE, hH])); first | done | rfl) | (simp (disch := omega) only [go_sem, hE, hH]) | ((first | apply noMLL_sE | apply pk_sE) <;> (simp only [go_sem, hE, hH]; done)) | (simp only [go_sem, hE, hH]) | fail)
  refine loopN l.length (fun j (x : List Int) => ⟨[(3, .ref 4000000 0 x.length), (7, .sl false 8 (l.map (Deed.row false))), (8, i64 l.length), (9, i64 j)], [(4000000, ⟨1, ints x⟩)]⟩) (fun j x => x = commJ l j) [] rfl ?_
  intro j x hj hI
  have hxl : x.length ≤ j := by rw [hI]; exact commJ_len
  try simp only [go_sem, hE, hH, c_impl_committed_l1]
  first | refine gd_t (fun h1 => ?_) (fun h1 => ?_) | refine gd_f (fun h1 => ?_) (fun h1 => ?_)
  · have hb1 := h1
    simp only [nf] at h1
    have hlt := h1; clear h1
    try simp (disch := omega) only [go_sem, hE, hH, hb1]
    repeat' (first | ((with_reducible first | refine gd_t ?_ ?_ | refine gd_f ?_ ?_) <;> (intro h; have hb := h; (try simp only [nf] at h); simp (disch := omega) only [go_sem, hE, hH, hb]; (try clear hb))) | ((with_reducible refine And.intro ?_ ?_); · omega) | (refine jn _ ?_ ?_) | (with_reducible refine both ?_ ?_) | (with_reducible refine And.intro ?_ ?_) | (refine fin_eq ?_; (try (simp (disch := omega) only [go_sem, hE, hH])); first | done | rfl) | (simp (disch := omega) only [go_sem, hE, hH]) | ((first | apply noMLL_sE | apply pk_sE) <;> (simp only [go_sem, hE, hH]; done)) | (simp only [go_sem, hE, hH]) | fail)
    all_goals try omega
    · rw [commJ_in h, ← hI, List.length_append, ints, List.map_append]; rfl
    · rw [commJ_out h, ← hI]; rfl
  · try simp (disch := omega) only [go_sem, hE, hH, h1]
    simp only [nf] at h1
    rw [show j = l.length by omega] at hI
    repeat' (first | ((with_reducible first | refine gd_t ?_ ?_ | refine gd_f ?_ ?_) <;> (intro h; have hb := h; (try simp only [nf] at h); simp (disch := omega) only [go_sem, hE, hH, hb]; (try clear hb))) | ((with_reducible refine And.intro ?_ ?_); · omega) | (refine jn _ ?_ ?_) | (with_reducible refine both ?_ ?_) | (with_reducible refine And.intro ?_ ?_) | (refine fin_eq ?_; (try (simp (disch := omega) only [go_sem, hE, hH])); first | done | rfl) | (simp (disch := omega) only [go_sem, hE, hH]) | ((first | apply noMLL_sE | apply pk_sE) <;> (simp only [go_sem, hE, hH]; done)) | (simp only [go_sem, hE, hH]) | fail)
    all_goals (rw [hI, commD])
abbrev sD (l : List UInt8) : T := .v (.string ⟨⟨l⟩⟩)
def numF : Nat → Nat → List UInt8
  | 0, _ => []
  | k + 1, u => if u < 10 then [UInt8.ofNat (48 + u)] else numF k (u / 10) ++ [UInt8.ofNat (48 + u % 10)]
def dgt (u : Nat) : List UInt8 := numF 20 u
theorem numF_eq : ∀ (k m u : Nat), u < 10 ^ k → k ≤ m → 1 ≤ k → numF m u = numF k u
  | 0, _, _, _, _, h => absurd h (by omega)
  | k + 1, m, u, hu, hm, _ => by
    obtain ⟨m, rfl⟩ : ∃ n, m = n + 1 := ⟨m - 1, by omega⟩
    simp only [numF]
    by_cases h : u < 10
    · rw [if_pos h, if_pos h]
    · rw [if_neg h, if_neg h, numF_eq k m (u / 10) (by rw [Nat.pow_succ] at hu; omega) (by omega) (by
        rcases Nat.eq_zero_or_pos k with rfl | h1
        · simp at hu; omega
        · exact h1)]
@[go_sem] theorem ba_app2 (a b : List UInt8) : (⟨⟨a⟩⟩ : ByteArray) ++ ⟨⟨b⟩⟩ = ⟨⟨a ++ b⟩⟩ := by
  apply ByteArray.ext
  rw [ByteArray.data_append]
  simp
@[go_sem] theorem ba_size2 (a : List UInt8) : (⟨⟨a⟩⟩ : ByteArray).size = a.length := rfl
@[go_sem] theorem isByteRow_u82 (n : Int) : isByteRow [.v (.int .u8 n)] = true := rfl
abbrev ItoaH : Prop := ∀ u : Nat, u < 10 ^ 18 → ACall Tryz.prog n_strconv_Itoa [i64 u] (fun r _ => r = sD (dgt u))
def frstB (h : List Deed) (o : List Int) (n : Nat) : Bool :=
  (nth h n).Yes && !(o.any fun x => decide ((n : Int) = x)) && allN (fun m => decide ((m : Int) = n) || !(nth h m).Yes || (o.any fun x => decide ((m : Int) = x)) || !ahead2 (nth h m) (nth h n)) h.length
def manyY (h : List Deed) : Nat := cntN (fun i => (nth h i).Yes) h.length
def mayU (h : List Deed) (u n : Nat) : Bool := !u.testBit n && allN (fun m => !(nth h m).Yes || u.testBit m || !ahead (nth h m) (nth h n)) h.length
theorem tb_or (u n m : Nat) : (u ||| 1 <<< n).testBit m = (u.testBit m || decide (m = n)) := by
  rw [Nat.testBit_or, Nat.one_shiftLeft, Nat.testBit_two_pow]
  congr 1
  rw [Bool.eq_iff_iff]; simp only [decide_eq_true_eq]; exact eq_comm
theorem frst_may {h : List Deed} (hg : goodHist h = true) {o : List Int} {u : Nat} (hu : ∀ m, m < h.length → u.testBit m = o.any fun x => decide ((m : Int) = x)) {n : Nat} (hn : n < h.length) :
    frstB h o n = ((nth h n).Yes && mayU h u n) := by
  unfold frstB mayU
  rw [Bool.and_assoc, hu n hn]
  congr 2
  refine allN_congr fun m hm => ?_
  rw [hu m hm, ← ahead_eq (goodHist_mem hg hm)]
  by_cases e : m = n
  · subst e
    have h1 := goodDeed_end (goodHist_mem hg hm)
    have h2 : ahead (nth h m) (nth h m) = false := by
      unfold ahead
      rw [Bool.eq_false_iff]
      simp
      omega
    rw [h2]; simp
  · have h2 : decide ((m : Int) = n) = false := decide_eq_false (by omega)
    rw [h2]; simp
theorem comm_succ (l : List Deed) (j : Nat) : commJ l (j + 1) = if (nth l j).Yes then commJ l j ++ [(j : Int)] else commJ l j := by
  split
  · rename_i e; exact commJ_in e
  · rename_i e; exact commJ_out (Bool.eq_false_iff.2 e)
theorem comm_len (l : List Deed) : ∀ j, (commJ l j).length = cntN (fun i => (nth l i).Yes) j
  | 0 => rfl
  | j + 1 => by
    rw [comm_succ, cntN]
    have := comm_len l j
    split <;> simp_all
theorem comm_mem {l : List Deed} {j : Nat} {x : Int} : x ∈ commJ l j ↔ ∃ i, i < j ∧ (nth l i).Yes = true ∧ x = (i : Int) := by
  simp only [commJ, List.mem_map, List.mem_filter, List.mem_range]
  constructor
  · rintro ⟨i, ⟨h1, h2⟩, rfl⟩; exact ⟨i, h1, h2, rfl⟩
  · rintro ⟨i, h1, h2, rfl⟩; exact ⟨i, ⟨h1, h2⟩, rfl⟩
def bitI (s n : Int) : Int := IntKind.i64.wrap (BitVec.ofInt 64 (s.fdiv (2 ^ (min n.toNat 64))) &&& BitVec.ofInt 64 1).toNat
def orI (s n : Int) : Int := IntKind.i64.wrap (BitVec.ofInt 64 s ||| BitVec.ofInt 64 (IntKind.i64.wrap (1 * 2 ^ (min n.toNat 64)))).toNat
theorem bitI_eq : ∀ u, u < 1024 → ∀ n, n < 10 → bitI (u : Nat) (n : Nat) = if u.testBit n then 1 else 0 := by decide +kernel
theorem orI_eq : ∀ u, u < 1024 → ∀ n, n < 10 → orI (u : Nat) (n : Nat) = ((u ||| 1 <<< n : Nat) : Int) ∧ (u ||| 1 <<< n) < 1024 := by decide +kernel
theorem l18Many_ok (l : List Deed) (hl : l.length ≤ 2 ^ 20) : ACall Tryz.prog n_spec_l18Many [.sl false 8 (l.map (Deed.row false))] (fun r _ => r = i64 (manyY l)) := by
  have hmx := mx_eq
  refine fn_in h_spec_l18Many r_spec_l18Many ⟨by simp only [go_sem], fun E hE hH => ?_⟩; simp only [go_sem] at hE hH; simp only [go_sem, hE, hH, c_spec_l18Many]
  refine loopN l.length (fun j (_ : Unit) => ⟨[(3, i64 (cntN (fun i => (nth l i).Yes) j)), (6, .sl false 8 (l.map (Deed.row false))), (7, i64 l.length), (8, i64 j)], []⟩) (fun _ _ => True) () trivial ?_
  intro j _ hj _
  have hc : cntN (fun i => (nth l i).Yes) j ≤ j := cntN_le
  try simp only [go_sem, hE, hH, c_spec_l18Many_l1]
  first | refine gd_t (fun h2 => ?_) (fun h2 => ?_) | refine gd_f (fun h2 => ?_) (fun h2 => ?_)
  · have hb := h2
    simp only [nf] at h2
    have hlt : j < l.length := by omega
    try simp (disch := omega) only [go_sem, hE, hH, hb]
    repeat' (first | ((with_reducible first | refine gd_t ?_ ?_ | refine gd_f ?_ ?_) <;> (intro h; have hb := h; (try simp only [nf] at h); simp (disch := omega) only [go_sem, hE, hH, hb]; (try clear hb))) | ((with_reducible refine And.intro ?_ ?_); · omega) | (refine jn _ ?_ ?_) | (with_reducible refine both ?_ ?_) | (with_reducible refine And.intro ?_ ?_) | (refine fin_eq ?_; (try (simp (disch := omega) only [go_sem, hE, hH])); first | done | rfl) | (simp (disch := omega) only [go_sem, hE, hH]) | ((first | apply noMLL_sE | apply pk_sE) <;> (simp only [go_sem, hE, hH]; done)) | (simp only [go_sem, hE, hH]) | fail)
    all_goals try omega
    all_goals (refine ⟨(), ?_⟩; rw [cntN]; simp [h])
  · try simp (disch := omega) only [go_sem, hE, hH, h2]
    simp only [nf] at h2
    rw [show j = l.length by omega]
    rfl
theorem l18First_ok (l : List Deed) (o : List Int) (n : Nat) (hl : l.length ≤ 2 ^ 20) (ho : o.length ≤ 2 ^ 20) (hn : n < l.length) : ACall Tryz.prog n_spec_l18First [.sl false 8 (l.map (Deed.row false)), .sl false 1 (ints o), i64 n] (fun r _ => r = bl (frstB l o n)) := by
  have hmx := mx_eq
  cases hY : (nth l n).Yes with
  | false =>
    refine fn_in h_spec_l18First r_spec_l18First ⟨by simp only [go_sem], fun E hE hH => ?_⟩; simp only [go_sem] at hE hH; simp only [go_sem, hE, hH, c_spec_l18First]
    repeat' (first | ((with_reducible first | refine gd_t ?_ ?_ | refine gd_f ?_ ?_) <;> (intro h; have hb := h; (try simp only [nf, rng_iff, rng_no] at h); simp (disch := omega) only [go_sem, hE, hH, hY, hb]; (try clear hb))) | ((with_reducible refine And.intro ?_ ?_); · omega) | (refine jn _ ?_ ?_) | (with_reducible refine both ?_ ?_) | (with_reducible refine And.intro ?_ ?_) | (refine fin_eq ?_; (try (simp (disch := omega) only [go_sem, hE, hH, hY])); first | done | rfl) | (simp (disch := omega) only [go_sem, hE, hH, hY]) | ((first | apply noMLL_sE | apply pk_sE) <;> (simp only [go_sem, hE, hH, hY]; done)) | (simp only [go_sem, hE, hH, hY]) | fail)
    all_goals simp [frstB, hY]
  | true =>
    cases hO : (o.any fun x => decide ((n : Int) = x)) with
    | true =>
      refine fn_in h_spec_l18First r_spec_l18First ⟨by simp only [go_sem], fun E hE hH => ?_⟩; simp only [go_sem] at hE hH; simp only [go_sem, hE, hH, c_spec_l18First]
      repeat' (first | ((with_reducible first | refine gd_t ?_ ?_ | refine gd_f ?_ ?_) <;> (intro h; have hb := h; (try simp only [nf, rng_iff, rng_no] at h); simp (disch := omega) only [go_sem, hE, hH, hY, hO, hb]; (try clear hb))) | ((with_reducible refine And.intro ?_ ?_); · omega) | ((first | refine ok_view ?_ | refine cvA (l1Has_ok o n (by omega)) ?_); simp (disch := omega) only [go_sem, hE, hH, hY, hO]) | (refine jn _ ?_ ?_) | (with_reducible refine both ?_ ?_) | (with_reducible refine And.intro ?_ ?_) | (refine fin_eq ?_; (try (simp (disch := omega) only [go_sem, hE, hH, hY, hO])); first | done | rfl) | (simp (disch := omega) only [go_sem, hE, hH, hY, hO]) | ((first | apply noMLL_sE | apply pk_sE) <;> (simp only [go_sem, hE, hH, hY, hO]; done)) | (simp only [go_sem, hE, hH, hY, hO]) | fail)
      all_goals simp [frstB, hY, hO]
    | false =>
      refine fn_in h_spec_l18First r_spec_l18First ⟨by simp only [go_sem], fun E hE hH => ?_⟩; simp only [go_sem] at hE hH; simp only [go_sem, hE, hH, c_spec_l18First]
      repeat' (first | ((with_reducible first | refine gd_t ?_ ?_ | refine gd_f ?_ ?_) <;> (intro h; have hb := h; (try simp only [nf, rng_iff, rng_no] at h); simp (disch := omega) only [go_sem, hE, hH, hY, hO, hb]; (try clear hb))) | ((with_reducible refine And.intro ?_ ?_); · omega) | ((first | refine ok_view ?_ | refine cvA (l1Has_ok o n (by omega)) ?_); simp (disch := omega) only [go_sem, hE, hH, hY, hO]) | (refine jn _ ?_ ?_) | (with_reducible refine both ?_ ?_) | (with_reducible refine And.intro ?_ ?_) | (refine fin_eq ?_; (try (simp (disch := omega) only [go_sem, hE, hH, hY, hO])); first | done | rfl) | (simp (disch := omega) only [go_sem, hE, hH, hY, hO]) | ((first | apply noMLL_sE | apply pk_sE) <;> (simp only [go_sem, hE, hH, hY, hO]; done)) | (simp only [go_sem, hE, hH, hY, hO]) | fail)
      refine loopN l.length (fun j (_ : Unit) => ⟨[(0, .sl false 8 (l.map (Deed.row false))), (1, .sl false 1 (ints o)), (2, i64 n), (20, .sl false 8 (l.map (Deed.row false))), (21, i64 l.length), (22, i64 j)], []⟩) (fun j _ => allN (fun m => decide ((m : Int) = n) || !(nth l m).Yes || (o.any fun x => decide ((m : Int) = x)) || !ahead2 (nth l m) (nth l n)) j = true) () rfl ?_
      intro j _ hj hI
      try simp only [go_sem, hE, hH, c_spec_l18First_l1]
      first | refine gd_t (fun h2 => ?_) (fun h2 => ?_) | refine gd_f (fun h2 => ?_) (fun h2 => ?_)
      · have hb := h2
        simp only [nf] at h2
        have hlt : j < l.length := by omega
        try simp (disch := omega) only [go_sem, hE, hH, hb]
        repeat' (first | ((with_reducible first | refine gd_t ?_ ?_ | refine gd_f ?_ ?_) <;> (intro h; have hb := h; (try simp only [nf] at h); simp (disch := omega) only [go_sem, hE, hH, hb]; (try clear hb))) | ((with_reducible refine And.intro ?_ ?_); · omega) | ((first | refine ok_view ?_ | refine cvA (l1Has_ok o j (by omega)) ?_ | refine cvA (l18Ahead_ok ⟨_, _, _, _, _, _, _, _⟩ _) ?_); simp (disch := omega) only [go_sem, hE, hH]) | (refine jn _ ?_ ?_) | (with_reducible refine both ?_ ?_) | (with_reducible refine And.intro ?_ ?_) | (refine fin_eq ?_; (try (simp (disch := omega) only [go_sem, hE, hH])); first | done | rfl) | (simp (disch := omega) only [go_sem, hE, hH]) | ((first | apply noMLL_sE | apply pk_sE) <;> (simp only [go_sem, hE, hH]; done)) | (simp only [go_sem, hE, hH]) | fail)
        all_goals try omega
        · have ha : ahead2 (nth l j) (nth l n) = true := h
          rw [frstB, allN_no hlt (by simp [*])]; simp
        · have ha : ahead2 (nth l j) (nth l n) = false := h
          exact ⟨(), rfl, allN_step hI (by simp [*])⟩
        all_goals exact ⟨(), rfl, allN_step hI (by simp [*])⟩
      · try simp (disch := omega) only [go_sem, hE, hH, h2]
        simp only [nf] at h2
        rw [show j = l.length by omega] at hI
        rw [frstB, hY, hO, hI]
        rfl
theorem bit_set {u m : Nat} (hu : u < 1024) (hm : m < 10) : IntKind.i64.wrap (BitVec.ofInt 64 (((u : Nat) : Int).fdiv (2 ^ (min m 64))) &&& BitVec.ofInt 64 1).toNat = 0 ↔ u.testBit m = false := by
  have h : IntKind.i64.wrap (BitVec.ofInt 64 (((u : Nat) : Int).fdiv (2 ^ (min m 64))) &&& BitVec.ofInt 64 1).toNat = if u.testBit m then 1 else 0 := bitI_eq u hu m hm
  rw [h]
  cases u.testBit m <;> simp
theorem mayU_comm (l : List Deed) (u n : Nat) : (!(commD l).any fun x => !u.testBit x.toNat && ahead (nth l x.toNat) (nth l n)) = allN (fun m => !(nth l m).Yes || u.testBit m || !ahead (nth l m) (nth l n)) l.length := by
  rw [Bool.eq_iff_iff, Bool.not_eq_true', List.any_eq_false, allN_iff]
  simp only [commD, comm_mem, Bool.or_eq_true, Bool.not_eq_true', Bool.and_eq_true]
  constructor
  · intro h i hi
    cases q : (nth l i).Yes with
    | false => simp
    | true =>
      have := h i ⟨i, hi, q, rfl⟩
      rw [Int.toNat_natCast] at this
      cases e1 : u.testBit i <;> cases e2 : ahead (nth l i) (nth l n) <;> simp_all
  · rintro h x ⟨i, hi, q, rfl⟩
    have := h i hi
    rw [Int.toNat_natCast]
    cases e1 : u.testBit i <;> cases e2 : ahead (nth l i) (nth l n) <;> simp_all
theorem mayCome_1_ok (l : List Deed) (u n m : Nat) (hl : l.length ≤ 10) (hu : u < 1024) (hn : n < l.length) (hm : m < l.length) : ACall Tryz.prog n_impl_mayCome_1 ([i64 m] ++ [.bx false [i64 u], .bx false [.sl false 8 (l.map (Deed.row false))], .bx false [i64 n]]) (fun r _ => r = bl (!u.testBit m && ahead (nth l m) (nth l n))) := by
  have hmx := mx_eq
  have hb := bit_set hu (show m < 10 by omega)
  cases hu1 : u.testBit m with
  | true =>
    refine fn_in h_impl_mayCome_1 r_impl_mayCome_1 ⟨by simp only [go_sem], fun E hE hH => ?_⟩; simp only [go_sem] at hE hH; simp only [go_sem, hE, hH, c_impl_mayCome_1]
    repeat' (first | ((with_reducible first | refine gd_t ?_ ?_ | refine gd_f ?_ ?_) <;> (intro h; have hb := h; (try simp only [nf] at h); simp (disch := omega) only [go_sem, hE, hH, hb]; (try clear hb))) | ((with_reducible refine And.intro ?_ ?_); · omega) | ((first | refine ok_view ?_ | refine cvA (ahead_ok _ _) ?_); simp (disch := omega) only [go_sem, hE, hH]) | (refine jn _ ?_ ?_) | (with_reducible refine both ?_ ?_) | (with_reducible refine And.intro ?_ ?_) | (refine fin_eq ?_; (try (simp (disch := omega) only [go_sem, hE, hH])); first | done | rfl) | (simp (disch := omega) only [go_sem, hE, hH]) | ((first | apply noMLL_sE | apply pk_sE) <;> (simp only [go_sem, hE, hH]; done)) | (simp only [go_sem, hE, hH]) | fail)
    all_goals try omega
    all_goals first | rfl | exact absurd (hb.1 h) (by simp [hu1]) | exact absurd (hb.2 hu1) h
  | false =>
    refine fn_in h_impl_mayCome_1 r_impl_mayCome_1 ⟨by simp only [go_sem], fun E hE hH => ?_⟩; simp only [go_sem] at hE hH; simp only [go_sem, hE, hH, c_impl_mayCome_1]
    repeat' (first | ((with_reducible first | refine gd_t ?_ ?_ | refine gd_f ?_ ?_) <;> (intro h; have hb := h; (try simp only [nf] at h); simp (disch := omega) only [go_sem, hE, hH, hb]; (try clear hb))) | ((with_reducible refine And.intro ?_ ?_); · omega) | ((first | refine ok_view ?_ | refine cvA (ahead_ok _ _) ?_); simp (disch := omega) only [go_sem, hE, hH]) | (refine jn _ ?_ ?_) | (with_reducible refine both ?_ ?_) | (with_reducible refine And.intro ?_ ?_) | (refine fin_eq ?_; (try (simp (disch := omega) only [go_sem, hE, hH])); first | done | rfl) | (simp (disch := omega) only [go_sem, hE, hH]) | ((first | apply noMLL_sE | apply pk_sE) <;> (simp only [go_sem, hE, hH]; done)) | (simp only [go_sem, hE, hH]) | fail)
    all_goals try omega
    all_goals first | rfl | exact absurd (hb.1 h) (by simp [hu1]) | exact absurd (hb.2 hu1) h
theorem mayCome_ok (l : List Deed) (u n : Nat) (hl : l.length ≤ 10) (hu : u < 1024) (hn : n < l.length) : ACall Tryz.prog n_impl_mayCome [.sl false 8 (l.map (Deed.row false)), .sl false 1 (ints (commD l)), i64 u, i64 n] (fun r _ => r = bl (mayU l u n)) := by
  have hmx := mx_eq
  have hb := bit_set hu (show n < 10 by omega)
  have hcl : (commD l).length ≤ maxLen := by have := commJ_len (l := l) (j := l.length); rw [commD]; omega
  have hC := ContainsFunc_Int_ok (commD l) _ [.bx false [i64 u], .bx false [.sl false 8 (l.map (Deed.row false))], .bx false [i64 n]] (fun x => !u.testBit x.toNat && ahead (nth l x.toNat) (nth l n)) (by kernel_rfl) rfl hcl (fun x hx => by
    obtain ⟨i, hi, _, rfl⟩ := comm_mem.1 hx
    rw [Int.toNat_natCast]
    exact mayCome_1_ok l u n i hl hu hn hi)
  have hm := mayU_comm l u n
  have e : mayU l u n = (!u.testBit n && !(commD l).any fun x => !u.testBit x.toNat && ahead (nth l x.toNat) (nth l n)) := by rw [hm, mayU]
  rw [e]
  refine fn_in h_impl_mayCome r_impl_mayCome ⟨by simp only [go_sem], fun E hE hH => ?_⟩; simp only [go_sem] at hE hH; simp only [go_sem, hE, hH, c_impl_mayCome]
  repeat' (first | ((with_reducible first | refine gd_t ?_ ?_ | refine gd_f ?_ ?_) <;> (intro h; have hb := h; (try simp only [nf] at h); simp (disch := omega) only [go_sem, hE, hH, hb]; (try clear hb))) | ((with_reducible refine And.intro ?_ ?_); · omega) | ((first | refine ok_view ?_ | refine cvA (hC) ?_); simp (disch := omega) only [go_sem, hE, hH]) | (refine jn _ ?_ ?_) | (with_reducible refine both ?_ ?_) | (with_reducible refine And.intro ?_ ?_) | (refine fin_eq ?_; (try (simp (disch := omega) only [go_sem, hE, hH])); first | done | rfl) | (simp (disch := omega) only [go_sem, hE, hH]) | ((first | apply noMLL_sE | apply pk_sE) <;> (simp only [go_sem, hE, hH]; done)) | (simp only [go_sem, hE, hH]) | fail)
  all_goals try omega
  all_goals (
    cases hu1 : u.testBit n
    all_goals first | rfl | exact absurd (hb.1 h) (by simp [hu1]) | exact absurd (hb.2 hu1) h)
def fstN {β : Type} (F : Nat → Option β) : Nat → Option β
  | 0 => none
  | n + 1 => match fstN F n with
    | some x => some x
    | none => F n
theorem fstN_none {β : Type} {F : Nat → Option β} {n : Nat} (h : fstN F n = none) (h2 : F n = none) : fstN F (n + 1) = none := by rw [fstN, h, h2]
theorem fstN_some {β : Type} {F : Nat → Option β} {x : β} : ∀ {n m : Nat}, n < m → fstN F n = none → F n = some x → fstN F m = some x
  | n, 0, h, _, _ => absurd h (by omega)
  | n, m + 1, h, h1, h2 => by
    rw [fstN]
    by_cases e : n = m
    · subst e; rw [h1, h2]
    · rw [fstN_some (show n < m by omega) h1 h2]
abbrev nxR (l : List Deed) (r : List Write) (n : Nat) : List Write := putRw r (nth l n).Writes
def fitB (l : List Deed) (r : List Write) (n : Nat) : Bool := confD r (nth l n) && decide ((nxR l r n).length ≤ 24)
def findS (l : List Deed) : Nat → List Int → List Write → Option (List Int)
  | 0, o, _ => some o
  | k + 1, o, r => fstN (fun n => if frstB l o n && fitB l r n then findS l k (o ++ [(n : Int)]) (nxR l r n) else none) l.length
def resF : Option (List Int) → T
  | some o => .tup [.sl false 1 (ints o), bl true]
  | none => .tup [.sl false 1 [], bl false]
set_option maxHeartbeats 4000000 in
theorem l18Find_ok (l : List Deed) (hwf : wfL Deed.wf l) (hg : goodHist l = true) : ∀ (k : Nat) (o : List Int) (r : List Write), o.length + k = manyY l → rowsOk r = true → ACall Tryz.prog n_spec_l18Find [.sl false 8 (l.map (Deed.row false)), .sl false 1 (ints o), .sl false 3 (r.map (Write.row false))] (fun x _ => x = resF (findS l k o r))
  | 0, o, r, ho, _ => by
    have hmx := mx_eq
    have hl := goodHist_len hg
    have hm : manyY l ≤ l.length := cntN_le
    have e : (o.length : Int) = manyY l := by omega
    refine fn_in h_spec_l18Find r_spec_l18Find ⟨by simp only [go_sem], fun E hE hH => ?_⟩; simp only [go_sem] at hE hH; simp only [go_sem, hE, hH, c_spec_l18Find]
    repeat' (first | ((with_reducible first | refine gd_t ?_ ?_ | refine gd_f ?_ ?_) <;> (intro h; have hb := h; (try simp only [nf] at h); simp (disch := omega) only [go_sem, hE, hH, e, hb]; (try clear hb))) | ((with_reducible refine And.intro ?_ ?_); · omega) | ((first | refine ok_view ?_ | refine cvA (l18Many_ok l (by omega)) ?_); simp (disch := omega) only [go_sem, hE, hH, e]) | (refine jn _ ?_ ?_) | (with_reducible refine both ?_ ?_) | (with_reducible refine And.intro ?_ ?_) | (refine fin_eq ?_; (try (simp (disch := omega) only [go_sem, hE, hH, e])); first | done | rfl) | (simp (disch := omega) only [go_sem, hE, hH, e]) | ((first | apply noMLL_sE | apply pk_sE) <;> (simp only [go_sem, hE, hH, e]; done)) | (simp only [go_sem, hE, hH, e]) | fail)
    all_goals first | omega | (exfalso; omega) | rfl | exact nilR_of ⟨rfl, rfl⟩ | (simp [findS, resF, nilLe, nilLeL]; done) | trace_state
  | k + 1, o, r, ho, hr => by
    have hmx := mx_eq
    have hl := goodHist_len hg
    have hm : manyY l ≤ l.length := cntN_le
    have e : ¬ ((o.length : Int) = manyY l) := by omega
    have e2 : decide ((o.length : Int) = manyY l) = false := decide_eq_false e
    obtain ⟨k1, k2, k3⟩ := rowsOk_iff.1 hr
    refine fn_in h_spec_l18Find r_spec_l18Find ⟨by simp only [go_sem], fun E hE hH => ?_⟩; simp only [go_sem] at hE hH; simp only [go_sem, hE, hH, c_spec_l18Find]
    repeat' (first | ((with_reducible first | refine gd_t ?_ ?_ | refine gd_f ?_ ?_) <;> (intro h; have hb := h; (try simp only [nf] at h); simp (disch := omega) only [go_sem, hE, hH, e2, hb]; (try clear hb))) | ((with_reducible refine And.intro ?_ ?_); · omega) | ((first | refine ok_view ?_ | refine cvA (l18Many_ok l (by omega)) ?_); simp (disch := omega) only [go_sem, hE, hH, e2]) | (refine jn _ ?_ ?_) | (with_reducible refine both ?_ ?_) | (with_reducible refine And.intro ?_ ?_) | (refine fin_eq ?_; (try (simp (disch := omega) only [go_sem, hE, hH, e2])); first | done | rfl) | (simp (disch := omega) only [go_sem, hE, hH, e2]) | ((first | apply noMLL_sE | apply pk_sE) <;> (simp only [go_sem, hE, hH, e2]; done)) | (simp only [go_sem, hE, hH, e2]) | fail)
    all_goals try (exfalso; omega)
    refine loopN l.length (fun j (_ : Unit) => ⟨[(0, .sl false 8 (l.map (Deed.row false))), (1, .sl false 1 (ints o)), (2, .sl false 3 (r.map (Write.row false))), (19, i64 l.length), (20, i64 j)], []⟩) (fun j _ => fstN (fun n => if frstB l o n && fitB l r n then findS l k (o ++ [(n : Int)]) (nxR l r n) else none) j = none) () rfl ?_
    intro j _ hj hI
    by_cases hlt : j < l.length
    · have hb2 : decide ((j : Int) < l.length) = true := decide_eq_true (by omega)
      obtain ⟨g1, g2, g3⟩ := goodDeed_writes (goodHist_mem hg hlt)
      have i1 := l18First_ok l o j (by omega) (by omega) hlt
      have i3 := l18Fits_ok r (nth l j) (by omega) (by omega)
      have i2 := l5PutRows_ok r (nth l j).Writes (by omega) (by omega) k2
      have hok2 : rowsOk (nxR l r j) = decide ((nxR l r j).length ≤ 24) := putRw_ok hr g1
      have hwfr : wfL Write.wf (nxR l r j) := rows_wf (fun w hw => by
        rw [nxR, putRw, List.mem_filter] at hw
        rcases putWs_mem hw.1 with q4 | q4
        · exact (goodWrites_iff.1 g1).2.2 w q4
        · exact (k3 w q4).1) (Nat.le_trans (putRw_len (l := r) (ws := (nth l j).Writes)) (by omega))
      have i4 := l5Rows_ok (nxR l r j) hwfr
      rw [hok2] at i4
      have t1 : (o.map (fun x => [T.v (Value.int IntKind.i64 x)]) ++ [[T.v (Value.int IntKind.i64 (j : Int))]]).take (o.length + 1) = ints (o ++ [(j : Int)]) := by
        rw [List.take_of_length_le (by simp)]; simp [ints]
      have hno : (if frstB l o j && fitB l r j then findS l k (o ++ [(j : Int)]) (nxR l r j) else none) = none → fstN (fun n => if frstB l o n && fitB l r n then findS l k (o ++ [(n : Int)]) (nxR l r n) else none) (j + 1) = none := fun q => fstN_none hI q
      cases q1 : frstB l o j with
      | false =>
        rw [q1] at i1
        try simp only [go_sem, hE, hH, c_spec_l18Find_l1]
        repeat' (first | ((with_reducible first | refine gd_t ?_ ?_ | refine gd_f ?_ ?_) <;> (intro h; have hb := h; (try simp only [nf] at h); simp (disch := omega) only [go_sem, hE, hH, hb2, hb]; (try clear hb))) | ((with_reducible refine And.intro ?_ ?_); · omega) | ((first | refine ok_view ?_ | refine cvA (i1) ?_); simp (disch := omega) only [go_sem, hE, hH, hb2]) | (refine jn _ ?_ ?_) | (with_reducible refine both ?_ ?_) | (with_reducible refine And.intro ?_ ?_) | (refine fin_eq ?_; (try (simp (disch := omega) only [go_sem, hE, hH, hb2])); first | done | rfl) | (simp (disch := omega) only [go_sem, hE, hH, hb2]) | ((first | apply noMLL_sE | apply pk_sE) <;> (simp only [go_sem, hE, hH, hb2]; done)) | (simp only [go_sem, hE, hH, hb2]) | fail)
        all_goals try omega
        all_goals exact ⟨(), rfl, hno (by simp [q1])⟩
      | true =>
        rw [q1] at i1
        cases q3 : confD r (nth l j) with
        | false =>
          rw [q3] at i3
          try simp only [go_sem, hE, hH, c_spec_l18Find_l1]
          repeat' (first | ((with_reducible first | refine gd_t ?_ ?_ | refine gd_f ?_ ?_) <;> (intro h; have hb := h; (try simp only [nf] at h); simp (disch := omega) only [go_sem, hE, hH, hb2, hb]; (try clear hb))) | ((with_reducible refine And.intro ?_ ?_); · omega) | ((first | refine ok_view ?_ | refine cvA (i1) ?_ | refine cvA (i3) ?_); simp (disch := omega) only [go_sem, hE, hH, hb2]) | (refine jn _ ?_ ?_) | (with_reducible refine both ?_ ?_) | (with_reducible refine And.intro ?_ ?_) | (refine fin_eq ?_; (try (simp (disch := omega) only [go_sem, hE, hH, hb2])); first | done | rfl) | (simp (disch := omega) only [go_sem, hE, hH, hb2]) | ((first | apply noMLL_sE | apply pk_sE) <;> (simp only [go_sem, hE, hH, hb2]; done)) | (simp only [go_sem, hE, hH, hb2]) | fail)
          all_goals try omega
          all_goals exact ⟨(), rfl, hno (by simp [fitB, q3])⟩
        | true =>
          rw [q3] at i3
          by_cases q4 : (nxR l r j).length ≤ 24
          · rw [decide_eq_true q4] at i4 hok2
            have ih := l18Find_ok l hwf hg k (o ++ [(j : Int)]) (nxR l r j) (by simp; omega) hok2
            have t3 : ints (o ++ [(j : Int)]) = o.map (fun x => [i64 x]) ++ [[i64 (j : Int)]] := by simp [ints]
            cases q5 : findS l k (o ++ [(j : Int)]) (nxR l r j) with
            | none =>
              rw [q5] at ih
              have cF : ACall Tryz.prog n_spec_l18Find [.sl false 8 (l.map (Deed.row false)), .sl true 1 (ints (o ++ [(j : Int)])), .sl true 3 ((nxR l r j).map (Write.row true))] (fun x a => x = .tup [.sl false 1 [], bl false] ∧ a = [.any, .any, .any]) := frz_eq ih (by simp only [go_sem]; rfl) rfl
              rw [t3] at cF
              try simp only [go_sem, hE, hH, c_spec_l18Find_l1]
              repeat' (first | ((with_reducible first | refine gd_t ?_ ?_ | refine gd_f ?_ ?_) <;> (intro h; have hb := h; (try simp only [nf] at h); simp (disch := omega) only [go_sem, hE, hH, hb2, t1, hb]; (try clear hb))) | ((with_reducible refine And.intro ?_ ?_); · omega) | (refine ok_lend [false, true, true] ?_; simp (disch := omega) only [go_sem, hE, hH, hb2, t1]; refine cmA (cF) ?_; simp (disch := omega) only [go_sem, hE, hH, hb2, t1]) | ((first | refine ok_view ?_ | refine cvA (i1) ?_ | refine cvA (i3) ?_ | refine cvA (i2) ?_ | refine cvA (i4) ?_ | refine cvA (l1Own_ok o (by omega)) ?_); simp (disch := omega) only [go_sem, hE, hH, hb2, t1]) | (refine jn _ ?_ ?_) | (with_reducible refine both ?_ ?_) | (with_reducible refine And.intro ?_ ?_) | (refine fin_eq ?_; (try (simp (disch := omega) only [go_sem, hE, hH, hb2, t1])); first | done | rfl) | (simp (disch := omega) only [go_sem, hE, hH, hb2, t1]) | ((first | apply noMLL_sE | apply pk_sE) <;> (simp only [go_sem, hE, hH, hb2, t1]; done)) | (simp only [go_sem, hE, hH, hb2, t1]) | fail)
              all_goals try omega
              all_goals exact ⟨(), rfl, hno (by simp [fitB, q1, q3, q4, q5])⟩
            | some x =>
              rw [q5] at ih
              have cF : ACall Tryz.prog n_spec_l18Find [.sl false 8 (l.map (Deed.row false)), .sl true 1 (ints (o ++ [(j : Int)])), .sl true 3 ((nxR l r j).map (Write.row true))] (fun y a => y = .tup [.sl false 1 (ints x), bl true] ∧ a = [.any, .any, .any]) := frz_eq ih (by simp only [go_sem]; rfl) rfl
              rw [t3] at cF
              have e3 : findS l (k + 1) o r = some x := fstN_some hlt hI (by simp [fitB, q1, q3, q4, q5])
              rw [e3]
              try simp only [go_sem, hE, hH, c_spec_l18Find_l1]
              repeat' (first | ((with_reducible first | refine gd_t ?_ ?_ | refine gd_f ?_ ?_) <;> (intro h; have hb := h; (try simp only [nf] at h); simp (disch := omega) only [go_sem, hE, hH, hb2, t1, hb]; (try clear hb))) | ((with_reducible refine And.intro ?_ ?_); · omega) | (refine ok_lend [false, true, true] ?_; simp (disch := omega) only [go_sem, hE, hH, hb2, t1]; refine cmA (cF) ?_; simp (disch := omega) only [go_sem, hE, hH, hb2, t1]) | ((first | refine ok_view ?_ | refine cvA (i1) ?_ | refine cvA (i3) ?_ | refine cvA (i2) ?_ | refine cvA (i4) ?_ | refine cvA (l1Own_ok o (by omega)) ?_); simp (disch := omega) only [go_sem, hE, hH, hb2, t1]) | (refine jn _ ?_ ?_) | (with_reducible refine both ?_ ?_) | (with_reducible refine And.intro ?_ ?_) | (refine fin_eq ?_; (try (simp (disch := omega) only [go_sem, hE, hH, hb2, t1])); first | done | rfl) | (simp (disch := omega) only [go_sem, hE, hH, hb2, t1]) | ((first | apply noMLL_sE | apply pk_sE) <;> (simp only [go_sem, hE, hH, hb2, t1]; done)) | (simp only [go_sem, hE, hH, hb2, t1]) | fail)
              all_goals try omega
              all_goals (simp [resF, nilLe, nilLeL]; done)
          · rw [decide_eq_false q4] at i4
            try simp only [go_sem, hE, hH, c_spec_l18Find_l1]
            repeat' (first | ((with_reducible first | refine gd_t ?_ ?_ | refine gd_f ?_ ?_) <;> (intro h; have hb := h; (try simp only [nf] at h); simp (disch := omega) only [go_sem, hE, hH, hb2, hb]; (try clear hb))) | ((with_reducible refine And.intro ?_ ?_); · omega) | ((first | refine ok_view ?_ | refine cvA (i1) ?_ | refine cvA (i3) ?_ | refine cvA (i2) ?_ | refine cvA (i4) ?_); simp (disch := omega) only [go_sem, hE, hH, hb2]) | (refine jn _ ?_ ?_) | (with_reducible refine both ?_ ?_) | (with_reducible refine And.intro ?_ ?_) | (refine fin_eq ?_; (try (simp (disch := omega) only [go_sem, hE, hH, hb2])); first | done | rfl) | (simp (disch := omega) only [go_sem, hE, hH, hb2]) | ((first | apply noMLL_sE | apply pk_sE) <;> (simp only [go_sem, hE, hH, hb2]; done)) | (simp only [go_sem, hE, hH, hb2]) | fail)
            all_goals try omega
            all_goals exact ⟨(), rfl, hno (by simp [fitB, q4])⟩
    · have hb2 : decide ((j : Int) < l.length) = false := decide_eq_false (by omega)
      rw [show j = l.length by omega] at hI
      have e3 : findS l (k + 1) o r = none := hI
      rw [e3]
      try simp only [go_sem, hE, hH, c_spec_l18Find_l1]
      repeat' (first | ((with_reducible first | refine gd_t ?_ ?_ | refine gd_f ?_ ?_) <;> (intro h; have hb := h; (try simp only [nf] at h); simp (disch := omega) only [go_sem, hE, hH, hb2, hb]; (try clear hb))) | ((with_reducible refine And.intro ?_ ?_); · omega) | (refine jn _ ?_ ?_) | (with_reducible refine both ?_ ?_) | (with_reducible refine And.intro ?_ ?_) | (refine fin_eq ?_; (try (simp (disch := omega) only [go_sem, hE, hH, hb2])); first | done | rfl) | (simp (disch := omega) only [go_sem, hE, hH, hb2]) | ((first | apply noMLL_sE | apply pk_sE) <;> (simp only [go_sem, hE, hH, hb2]; done)) | (simp only [go_sem, hE, hH, hb2]) | fail)
      all_goals try omega
      all_goals (simp [resF, nilLe, nilLeL]; done)
def okF (l : List Deed) : Option (List Int) := findS l (manyY l) [] []
def resFO (l : List Deed) : T := if goodHist l then (match okF l with
  | some o => .tup [.sl false 1 (ints o), bl true, bl true]
  | none => .tup [.sl false 1 [], bl false, bl true]) else .tup [.sl false 1 [], bl false, bl false]
theorem sFindOrder_ok (l : List Deed) (hl : wfL Deed.wf l) : ACall Tryz.prog n_spec_FindOrder [.sl false 8 (l.map (Deed.row false))] (fun r _ => r = resFO l) := by
  have hmx := mx_eq
  cases hg : goodHist l with
  | false =>
    have e : resFO l = .tup [.sl false 1 [], bl false, bl false] := by simp [resFO, hg]
    rw [e]
    refine fn_in h_spec_FindOrder r_spec_FindOrder ⟨by simp only [go_sem], fun E hE hH => ?_⟩; simp only [go_sem] at hE hH; simp only [go_sem, hE, hH, c_spec_FindOrder]
    repeat' (first | ((with_reducible first | refine gd_t ?_ ?_ | refine gd_f ?_ ?_) <;> (intro h; have hb := h; (try simp only [nf] at h); simp (disch := omega) only [go_sem, hE, hH, hg, hb]; (try clear hb))) | ((with_reducible refine And.intro ?_ ?_); · omega) | ((first | refine ok_view ?_ | refine cvA (l18Good_ok l hl) ?_); simp (disch := omega) only [go_sem, hE, hH, hg]) | (refine jn _ ?_ ?_) | (with_reducible refine both ?_ ?_) | (with_reducible refine And.intro ?_ ?_) | (refine fin_eq ?_; (try (simp (disch := omega) only [go_sem, hE, hH, hg])); first | done | rfl) | (simp (disch := omega) only [go_sem, hE, hH, hg]) | ((first | apply noMLL_sE | apply pk_sE) <;> (simp only [go_sem, hE, hH, hg]; done)) | (simp only [go_sem, hE, hH, hg]) | fail)
    all_goals first | (simp [nilLe, nilLeL]; done) | trace_state
  | true =>
    have hf := l18Find_ok l hl hg (manyY l) [] [] (by simp) (by simp [rowsOk, goodWrites, allN])
    cases q : findS l (manyY l) [] [] with
    | none =>
      have e : resFO l = .tup [.sl false 1 [], bl false, bl true] := by simp [resFO, hg, okF, q]
      rw [e]
      rw [q] at hf
      have hf2 : ACall Tryz.prog n_spec_l18Find [.sl false 8 (l.map (Deed.row false)), .sl false 1 [], .sl false 3 []] (fun r _ => r = .tup [.sl false 1 [], bl false]) := hf
      refine fn_in h_spec_FindOrder r_spec_FindOrder ⟨by simp only [go_sem], fun E hE hH => ?_⟩; simp only [go_sem] at hE hH; simp only [go_sem, hE, hH, c_spec_FindOrder]
      repeat' (first | ((with_reducible first | refine gd_t ?_ ?_ | refine gd_f ?_ ?_) <;> (intro h; have hb := h; (try simp only [nf] at h); simp (disch := omega) only [go_sem, hE, hH, hg, hb]; (try clear hb))) | ((with_reducible refine And.intro ?_ ?_); · omega) | ((first | refine ok_view ?_ | refine cvA (l18Good_ok l hl) ?_ | refine cvAn (hf2) ?_); simp (disch := omega) only [go_sem, hE, hH, hg]) | (refine jn _ ?_ ?_) | (with_reducible refine both ?_ ?_) | (with_reducible refine And.intro ?_ ?_) | (refine fin_eq ?_; (try (simp (disch := omega) only [go_sem, hE, hH, hg])); first | done | rfl) | (simp (disch := omega) only [go_sem, hE, hH, hg]) | ((first | apply noMLL_sE | apply pk_sE) <;> (simp only [go_sem, hE, hH, hg]; done)) | (simp only [go_sem, hE, hH, hg]) | fail)
      all_goals first | (simp [nilLe, nilLeL]; done) | trace_state
    | some o =>
      have e : resFO l = .tup [.sl false 1 (ints o), bl true, bl true] := by simp [resFO, hg, okF, q]
      rw [e]
      rw [q] at hf
      have hf2 : ACall Tryz.prog n_spec_l18Find [.sl false 8 (l.map (Deed.row false)), .sl false 1 [], .sl false 3 []] (fun r _ => r = .tup [.sl false 1 (ints o), bl true]) := hf
      refine fn_in h_spec_FindOrder r_spec_FindOrder ⟨by simp only [go_sem], fun E hE hH => ?_⟩; simp only [go_sem] at hE hH; simp only [go_sem, hE, hH, c_spec_FindOrder]
      repeat' (first | ((with_reducible first | refine gd_t ?_ ?_ | refine gd_f ?_ ?_) <;> (intro h; have hb := h; (try simp only [nf] at h); simp (disch := omega) only [go_sem, hE, hH, hg, hb]; (try clear hb))) | ((with_reducible refine And.intro ?_ ?_); · omega) | ((first | refine ok_view ?_ | refine cvA (l18Good_ok l hl) ?_ | refine cvAn (hf2) ?_); simp (disch := omega) only [go_sem, hE, hH, hg]) | (refine jn _ ?_ ?_) | (with_reducible refine both ?_ ?_) | (with_reducible refine And.intro ?_ ?_) | (refine fin_eq ?_; (try (simp (disch := omega) only [go_sem, hE, hH, hg])); first | done | rfl) | (simp (disch := omega) only [go_sem, hE, hH, hg]) | ((first | apply noMLL_sE | apply pk_sE) <;> (simp only [go_sem, hE, hH, hg]; done)) | (simp only [go_sem, hE, hH, hg]) | fail)
      all_goals first | (simp [nilLe, nilLeL]; done) | trace_state
def fstL {α β : Type} (F : α → Option β) : List α → Option β
  | [] => none
  | x :: xs => match F x with
    | some y => some y
    | none => fstL F xs
theorem fstL_app {α β : Type} (F : α → Option β) : ∀ (a b : List α), fstL F (a ++ b) = match fstL F a with | some y => some y | none => fstL F b
  | [], _ => rfl
  | x :: a, b => by
    simp only [List.cons_append, fstL]
    cases F x with
    | some y => rfl
    | none => exact fstL_app F a b
theorem fstN_comm {β : Type} (l : List Deed) (F : Nat → Option β) : ∀ j, fstN (fun n => if (nth l n).Yes then F n else none) j = fstL (fun x => F x.toNat) (commJ l j)
  | 0 => rfl
  | j + 1 => by
    rw [fstN, fstN_comm l F j, comm_succ]
    by_cases e : (nth l j).Yes = true
    · rw [if_pos e, if_pos e, fstL_app]
      cases fstL (fun x => F x.toNat) (commJ l j) with
      | some y => rfl
      | none => simp only [fstL, Int.toNat_natCast]; cases F j <;> rfl
    · rw [if_neg e, if_neg e]
      cases fstL (fun x => F x.toNat) (commJ l j) <;> rfl
theorem fstN_map {β γ : Type} {F : Nat → Option β} {G : Nat → Option γ} (f : γ → β) : ∀ {n : Nat}, (∀ i, i < n → F i = (G i).map f) → fstN F n = (fstN G n).map f
  | 0, _ => rfl
  | n + 1, h => by
    rw [fstN, fstN, fstN_map f fun i hi => h i (by omega), h n (by omega)]
    cases fstN G n <;> rfl
def restU (l : List Deed) : Nat → Nat → List Write → Option (List Int)
  | 0, _, _ => some []
  | k + 1, u, r => fstL (fun x => if mayU l u x.toNat && fitB l r x.toNat then (restU l k (u ||| 1 <<< x.toNat) (nxR l r x.toNat)).map (x :: ·) else none) (commD l)
theorem findS_rest {l : List Deed} (hg : goodHist l = true) : ∀ (k : Nat) (o : List Int) (u : Nat) (r : List Write), (∀ m, m < l.length → u.testBit m = o.any fun x => decide ((m : Int) = x)) → findS l k o r = (restU l k u r).map (o ++ ·)
  | 0, o, u, r, _ => by simp [findS, restU]
  | k + 1, o, u, r, hu => by
    rw [findS, restU]
    have e := fstN_comm l (fun n => if mayU l u n && fitB l r n then (restU l k (u ||| 1 <<< n) (nxR l r n)).map ((n : Int) :: ·) else none) l.length
    have e2 : fstL (fun x : Int => if mayU l u x.toNat && fitB l r x.toNat then (restU l k (u ||| 1 <<< x.toNat) (nxR l r x.toNat)).map (x :: ·) else none) (commD l) = fstL (fun x : Int => (fun n : Nat => if mayU l u n && fitB l r n then (restU l k (u ||| 1 <<< n) (nxR l r n)).map ((n : Int) :: ·) else none) x.toNat) (commJ l l.length) := by
      rw [commD]
      have : ∀ xs : List Int, (∀ x ∈ xs, 0 ≤ x) → fstL (fun x : Int => if mayU l u x.toNat && fitB l r x.toNat then (restU l k (u ||| 1 <<< x.toNat) (nxR l r x.toNat)).map (x :: ·) else none) xs = fstL (fun x : Int => (fun n : Nat => if mayU l u n && fitB l r n then (restU l k (u ||| 1 <<< n) (nxR l r n)).map ((n : Int) :: ·) else none) x.toNat) xs := by
        intro xs hx
        induction xs with
        | nil => rfl
        | cons x xs ih =>
          have h0 := hx x (by simp)
          have e : ((x.toNat : Nat) : Int) = x := by omega
          simp only [fstL, e]
          rw [ih fun y hy => hx y (by simp [hy])]
      exact this _ fun x hx => by obtain ⟨i, _, _, rfl⟩ := comm_mem.1 hx; omega
    rw [e2, ← e]
    refine fstN_map (o ++ ·) fun n hn => ?_
    rw [frst_may hg hu hn]
    by_cases hY : (nth l n).Yes = true
    · rw [hY, if_pos rfl, Bool.true_and]
      split
      · rw [findS_rest hg k _ (u ||| 1 <<< n) _ fun m hm => ?_]
        · cases restU l k (u ||| 1 <<< n) (nxR l r n) <;> simp
        · have e : decide (m = n) = decide ((m : Int) = (n : Int)) := by rw [Bool.eq_iff_iff, decide_eq_true_iff, decide_eq_true_iff]; omega
          rw [tb_or, hu m hm, List.any_append, e]
          simp only [List.any_cons, List.any_nil, Bool.or_false]
      · rfl
    · rw [if_neg hY, Bool.eq_false_iff.2 hY]; rfl
def remU (l : List Deed) (u : Nat) : Nat := cntN (fun i => (nth l i).Yes && !u.testBit i) l.length
theorem cntN_split {p q : Nat → Bool} {n : Nat} (hp : p n = true) (hq : q n = false) (h : ∀ i, i ≠ n → p i = q i) : ∀ j, n < j → cntN p j = cntN q j + 1
  | 0, hj => absurd hj (by omega)
  | j + 1, hj => by
    rw [cntN, cntN]
    by_cases e : n = j
    · subst e
      have : cntN p n = cntN q n := by
        have key : ∀ i, i ≤ n → cntN p i = cntN q i := by
          intro i
          induction i with
          | zero => intro _; rfl
          | succ i ih => intro hi; rw [cntN, cntN, ih (by omega), h i (by omega)]
        exact key n (Nat.le_refl _)
      rw [this, hp, hq]; simp
    · rw [cntN_split hp hq h j (by omega), h j (fun q => e q.symm)]
      split <;> omega
theorem remU_step {l : List Deed} {u n : Nat} (hn : n < l.length) (hY : (nth l n).Yes = true) (hb : u.testBit n = false) : remU l u = remU l (u ||| 1 <<< n) + 1 := by
  refine cntN_split (n := n) (by simp [hY, hb]) (by simp [tb_or]) (fun i hi => ?_) l.length hn
  rw [tb_or]; simp [hi]
theorem remU_zero {l : List Deed} {u : Nat} : remU l u = 0 ↔ ∀ x ∈ commD l, u.testBit x.toNat = true := by
  have key : ∀ j, cntN (fun i => (nth l i).Yes && !u.testBit i) j = 0 ↔ ∀ i, i < j → (nth l i).Yes = true → u.testBit i = true := by
    intro j
    induction j with
    | zero => simp [cntN]
    | succ j ih =>
      rw [cntN]
      constructor
      · intro h i hi hY
        by_cases e : i = j
        · subst e
          cases hb : u.testBit i with
          | true => rfl
          | false => rw [hY, hb] at h; simp at h
        · exact ih.1 (by omega) i (by omega) hY
      · intro h
        rw [ih.2 fun i hi => h i (by omega)]
        cases hY : (nth l j).Yes with
        | false => simp
        | true => rw [h j (by omega) hY]; simp
  rw [remU, key]
  constructor
  · rintro h x hx
    obtain ⟨i, hi, hY, rfl⟩ := comm_mem.1 hx
    rw [Int.toNat_natCast]; exact h i hi hY
  · intro h i hi hY
    have := h (i : Int) (comm_mem.2 ⟨i, hi, hY, rfl⟩)
    rwa [Int.toNat_natCast] at this
theorem mayU_bit {l : List Deed} {u n : Nat} (h : mayU l u n = true) : u.testBit n = false := by
  simp only [mayU, Bool.and_eq_true, Bool.not_eq_true'] at h
  exact h.1
def bsW (b : ByteArray) : List UInt8 := b.data.toList
def rowT (x : Write) : List UInt8 := [32] ++ bsW x.Key ++ [61] ++ bsW x.Val
def keyT (u : Nat) (r : List Write) : List UInt8 := dgt u ++ (r.map rowT).flatten
def noB (c : UInt8) (s : List UInt8) : Prop := ∀ b ∈ s, b ≠ c
theorem cut_at {c : UInt8} : ∀ {a b s t : List UInt8}, noB c a → noB c b → a ++ c :: s = b ++ c :: t → a = b ∧ s = t
  | [], [], s, t, _, _, h => by simpa using h
  | [], y :: b, s, t, _, hb, h => by
    simp only [List.nil_append, List.cons_append, List.cons.injEq] at h
    exact absurd h.1.symm (hb y (by simp))
  | x :: a, [], s, t, ha, _, h => by
    simp only [List.nil_append, List.cons_append, List.cons.injEq] at h
    exact absurd h.1 (ha x (by simp))
  | x :: a, y :: b, s, t, ha, hb, h => by
    simp only [List.cons_append, List.cons.injEq] at h
    obtain ⟨e1, e2⟩ := h
    obtain ⟨e3, e4⟩ := cut_at (fun q hq => ha q (by simp [hq])) (fun q hq => hb q (by simp [hq])) e2
    exact ⟨by rw [e1, e3], e4⟩
theorem noB_end {c : UInt8} {a b t : List UInt8} (ha : noB c a) (h : a = b ++ c :: t) : False := by
  refine ha c ?_ rfl
  rw [h]; simp
theorem rows_inj : ∀ {a b : List Write} {x y : List UInt8}, (∀ w ∈ a, noB 32 (bsW w.Key) ∧ noB 61 (bsW w.Key) ∧ noB 32 (bsW w.Val) ∧ w.Gone = false) → (∀ w ∈ b, noB 32 (bsW w.Key) ∧ noB 61 (bsW w.Key) ∧ noB 32 (bsW w.Val) ∧ w.Gone = false) → noB 32 x → noB 32 y → x ++ (a.map rowT).flatten = y ++ (b.map rowT).flatten → x = y ∧ a = b
  | [], [], x, y, _, _, _, _, h => by simpa using h
  | [], w :: b, x, y, _, _, hx, _, h => by
    simp only [List.map_nil, List.flatten_nil, List.append_nil, List.map_cons, List.flatten_cons, rowT, List.append_assoc, List.cons_append, List.nil_append] at h
    exact (noB_end hx h).elim
  | w :: a, [], x, y, _, _, _, hy, h => by
    simp only [List.map_nil, List.flatten_nil, List.append_nil, List.map_cons, List.flatten_cons, rowT, List.append_assoc, List.cons_append, List.nil_append] at h
    exact (noB_end hy h.symm).elim
  | w :: a, v :: b, x, y, ha, hb, hx, hy, h => by
    simp only [List.map_cons, List.flatten_cons, rowT, List.append_assoc, List.cons_append, List.nil_append] at h
    obtain ⟨e1, h⟩ := cut_at hx hy h
    obtain ⟨k1, k2, k3, k4⟩ := ha w (by simp)
    obtain ⟨m1, m2, m3, m4⟩ := hb v (by simp)
    obtain ⟨e2, h⟩ := cut_at k2 m2 h
    obtain ⟨e3, e4⟩ := rows_inj (fun q hq => ha q (by simp [hq])) (fun q hq => hb q (by simp [hq])) k3 m3 h
    have ew : w = v := by
      cases w; cases v
      simp only [bsW] at e2 e3
      simp only at k4 m4
      subst k4 m4
      congr 1
      · exact ByteArray.ext (Array.toList_inj.1 e2)
      · exact ByteArray.ext (Array.toList_inj.1 e3)
    exact ⟨e1, by rw [ew, e4]⟩
def valQ (s : List UInt8) : Nat := s.foldl (fun n c => 10 * n + (c.toNat - 48)) 0
theorem dgt_val : ∀ u, u < 1024 → valQ (dgt u) = u ∧ (dgt u).all (fun c => c != 32) = true := by decide +kernel
theorem byt_of {s : ByteArray} {c : UInt8} (h : c ∈ bsW s) : ∃ i, i < s.size ∧ byt s i = (c.toNat : Int) := by
  obtain ⟨i, hi, e⟩ := List.getElem_of_mem h
  refine ⟨i, hi, ?_⟩
  have h2 : (bsW s).getD i 0 = c := by rw [List.getD, List.getElem?_eq_getElem hi]; exact e
  have h3 : s.data.toList.getD i 0 = c := h2
  rw [byt, h3]
theorem okW_noB {w : Write} (h : okW w = true) (hgn : w.Gone = false) : noB 32 (bsW w.Key) ∧ noB 61 (bsW w.Key) ∧ noB 32 (bsW w.Val) ∧ w.Gone = false := by
  have key : ∀ (s m : ByteArray) (c : UInt8), hasB s m = true → (∀ b : Int, b = c.toNat → lowc b = false ∧ hasc m b = false) → noB c (bsW s) := by
    intro s m c hs hc b hb e
    subst e
    obtain ⟨i, hi, e⟩ := byt_of hb
    have := allN_iff.1 hs i hi
    rw [e] at this
    obtain ⟨q1, q2⟩ := hc _ rfl
    rw [q1, q2] at this; cases this
  simp only [okW, goodKey, stored, goodVal, Bool.and_eq_true] at h
  refine ⟨key _ _ 32 h.1.2 ?_, key _ _ 61 h.1.2 ?_, key _ _ 32 h.2.1.2 ?_, hgn⟩
  all_goals (rintro b rfl; decide)
theorem keyT_inj {u v : Nat} {r s : List Write} (hu : u < 1024) (hv : v < 1024) (hr : rowsOk r = true) (hs : rowsOk s = true) (h : keyT u r = keyT v s) : u = v ∧ r = s := by
  have d1 := dgt_val u hu
  have d2 := dgt_val v hv
  have n1 : noB 32 (dgt u) := fun b hb => by simpa using List.all_eq_true.1 d1.2 b hb
  have n2 : noB 32 (dgt v) := fun b hb => by simpa using List.all_eq_true.1 d2.2 b hb
  obtain ⟨e1, e2⟩ := rows_inj (fun w hw => okW_noB ((rowsOk_iff.1 hr).2.2 w hw).1 ((rowsOk_iff.1 hr).2.2 w hw).2) (fun w hw => okW_noB ((rowsOk_iff.1 hs).2.2 w hw).1 ((rowsOk_iff.1 hs).2.2 w hw).2) n1 n2 h
  exact ⟨by rw [← d1.1, e1, d2.1], e2⟩
def ordF (l : List Deed) : List Int × Bool × Bool := if goodHist l then (match okF l with
  | some o => (o, true, true)
  | none => ([], false, true)) else ([], false, false)
theorem resFO_ord (l : List Deed) : resFO l = .tup [.sl false 1 (ints (ordF l).1), bl (ordF l).2.1, bl (ordF l).2.2] := by
  unfold resFO ordF
  split
  · cases okF l <;> rfl
  · rfl
theorem fstN_from {β : Type} {F : Nat → Option β} {x : β} : ∀ {n : Nat}, fstN F n = some x → ∃ i, i < n ∧ F i = some x
  | 0, h => by cases h
  | n + 1, h => by
    rw [fstN] at h
    cases q : fstN F n with
    | some y =>
      rw [q] at h
      obtain ⟨i, hi, e⟩ := fstN_from q
      exact ⟨i, by omega, by rw [e]; exact h⟩
    | none =>
      rw [q] at h
      exact ⟨n, by omega, h⟩
theorem findS_len {l : List Deed} : ∀ (k : Nat) (o : List Int) (r : List Write) {x : List Int}, findS l k o r = some x → x.length = o.length + k
  | 0, o, r, x, h => by cases h; rfl
  | k + 1, o, r, x, h => by
    obtain ⟨i, _, e⟩ := fstN_from h
    split at e
    · have := findS_len k _ _ e
      rw [List.length_append] at this
      simp at this; omega
    · cases e
theorem ordF_len (l : List Deed) : (ordF l).1.length ≤ 10 := by
  unfold ordF
  split
  · rename_i hg
    have hl := goodHist_len hg
    have hm : manyY l ≤ l.length := cntN_le
    cases q : okF l with
    | none => simp
    | some o =>
      have := findS_len _ _ _ q
      simp at this
      show o.length ≤ 10
      omega
  · simp
theorem sFindOrder_ok2 (l : List Deed) (hl : wfL Deed.wf l) : ACall Tryz.prog n_spec_FindOrder [.sl false 8 (l.map (Deed.row false))] (fun r _ => r = .tup [.sl false 1 (ints (ordF l).1), bl (ordF l).2.1, bl (ordF l).2.2]) := by
  have := sFindOrder_ok l hl
  rwa [resFO_ord] at this
abbrev FindH : Prop := ∀ l : List Deed, wfL Deed.wf l → l.length ≤ 2 ^ 20 → ACall Tryz.prog n_impl_FindOrder [.sl false 8 (l.map (Deed.row false))] (fun r _ => r = .tup [.sl true 1 (ints (ordF l).1), bl (ordF l).2.1, bl (ordF l).2.2])
theorem FnExactFindOrder_ok (hF : FindH) (vH : List Deed) (wH : vH.length ≤ maxLen ∧ ∀ y ∈ vH, y.wf) : ACall Tryz.prog n_laws_FnExactFindOrder [.sl false 8 (vH.map (Deed.row false))] (fun r _ => r = bl true) := by
  have hmx := mx_eq
  have wlH : wfL (Deed.wf) vH := wH
  have lH : limL (Deed.lim) vH := ⟨wH.1, fun y hy => Deed.lim_of (wH.2 y hy)⟩
  refine fn_in h_laws_FnExactFindOrder r_laws_FnExactFindOrder ⟨by simp only [go_sem], fun E hE hH => ?_⟩; simp only [go_sem] at hE hH; simp only [go_sem, hE, hH, c_laws_FnExactFindOrder]
  refine ok_view ?_; simp (disch := omega) only [go_sem, hE, hH]; refine cvA (szDeedS_ok vH _ (by decide) (by decide) wlH) ?_
  refine aftV_intro ?_
  rintro r l ⟨n1, rfl, hn1, hsz1⟩
  try simp (disch := omega) only [go_sem, hE, hH]
  first | refine gd_t (fun h1 => ?_) (fun h1 => ?_) | refine gd_f (fun h1 => ?_) (fun h1 => ?_)
  · try simp (disch := omega) only [go_sem, hE, hH, h1]
  have hb1 := h1
  simp only [nf] at h1
  try simp (disch := omega) only [go_sem, hE, hH, hb1]
  have sH : szL (Deed.sz) vH ≤ 2 ^ 20 := by have := hsz1 h1; omega
  have sH2 : vH.length ≤ 2 ^ 20 := Nat.le_trans szL_len sH
  have hm := ordF_len vH
  have c_H := cntL_le (c := Deed.cnt) (s := Deed.sz) Deed.cnt_le (l := vH)
  have e_H := mkN_cnt (f := Deed.mk2) (c := Deed.cnt) Deed.mk2_cnt (l := vH) (k := 1)
  have c_G : cntL (fun _ => 1) ((ordF vH).1) ≤ 1 * ((ordF vH).1).length := cntL_le1 (fun _ => Nat.le_refl _)
  have e_G := mkN_cnt (f := mkI) (c := fun _ => 1) (fun _ _ => rfl) (l := (ordF vH).1) (k := 1)
  have cS : ACall Tryz.prog n_spec_FindOrder [.sl true 8 (vH.map (Deed.row true))] (fun x a => x = .tup [.sl false 1 (ints (ordF vH).1), bl (ordF vH).2.1, bl (ordF vH).2.2] ∧ a = [.any]) := frz_eq (sFindOrder_ok2 vH wlH) (by simp only [go_sem]; rfl) rfl
  repeat' (first | ((with_reducible first | refine gd_t ?_ ?_ | refine gd_f ?_ ?_) <;> (intro h; have hb := h; (try simp only [nf] at h); simp (disch := omega) only [go_sem, hE, hH, hb]; (try clear hb))) | ((with_reducible refine And.intro ?_ ?_); · omega) | (refine ok_lend [true] ?_; simp (disch := omega) only [go_sem, hE, hH]; refine cmA (cS) ?_; simp (disch := omega) only [go_sem, hE, hH]) | (refine ok_lend [true, false] ?_; simp (disch := omega) only [go_sem, hE, hH]; refine cmA (markDeedS_ok vH 1 (by omega) (by omega)) ?_; simp (disch := omega) only [go_sem, hE, hH]) | (refine ok_lend [true, false] ?_; simp (disch := omega) only [go_sem, hE, hH]; refine cmA (markIntS_ok (ordF vH).1 1 (by omega) (by omega)) ?_; simp (disch := omega) only [go_sem, hE, hH]) | ((first | refine ok_view ?_ | refine cvA (toDeedS_ok vH sH) ?_ | refine cvA (hF vH wlH sH2) ?_ | refine cvA (eqDeedS_ok vH vH lH) ?_ | refine cvA (eqIntS_ok (ordF vH).1 (ordF vH).1 ⟨by omega, fun _ _ => trivial⟩) ?_ | refine cvA (heldIntS_ok (ordF vH).1 1 (by omega) (by omega)) ?_); simp (disch := omega) only [go_sem, hE, hH]) | (refine jn _ ?_ ?_) | (with_reducible refine both ?_ ?_) | (with_reducible refine And.intro ?_ ?_) | (refine fin_eq ?_; (try (simp (disch := omega) only [go_sem, hE, hH])); first | done | rfl) | (simp (disch := omega) only [go_sem, hE, hH]) | ((first | apply noMLL_sE | apply pk_sE) <;> (simp only [go_sem, hE, hH]; done)) | (simp only [go_sem, hE, hH]) | fail)
  all_goals try omega
end Go.Proofs.Wb

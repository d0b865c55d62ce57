import Derived.Test.YtalbfdhdbgcikaaGreatDoorFnFairTy
import Derived.Laws.Externs
set_option linter.unusedSimpArgs false
set_option linter.unusedVariables false
set_option linter.unusedSectionVars false
namespace Go.Proofs.Wb
open Go Go.Am
section
variable {α : Type} [Inhabited α] {κ : Type} [DecidableEq κ]
theorem cntN_mono {p : Nat → Bool} {n : Nat} : ∀ {m : Nat}, n ≤ m → cntN p n ≤ cntN p m
  | 0, h => by rw [show n = 0 by omega]; exact Nat.le_refl _
  | m + 1, h => by
    by_cases e : n = m + 1
    · rw [e]; exact Nat.le_refl _
    · have := cntN_mono (p := p) (n := n) (m := m) (by omega)
      simp only [cntN]
      omega
def fxI (lt : κ → κ → Bool) (f : α → κ) (l : List α) (k : κ) : Nat := cntN (fun i => lt (f (nth l i)) k) l.length
def fxF (f : α → κ) (l : List α) (k : κ) : Bool := l.any fun x => decide (f x = k)
def srtX (lt : κ → κ → Bool) (f : α → κ) (l : List α) : Prop := ∀ i j, i < j → j < l.length → lt (f (nth l i)) (f (nth l j)) = true
structure Ord (lt : κ → κ → Bool) (cmp : κ → κ → Int) : Prop where
  neg : ∀ a b, cmp a b < 0 ↔ lt a b = true
  zero : ∀ a b, cmp a b = 0 ↔ a = b
  irr : ∀ a, lt a a = false
  trans : ∀ a b c, lt a b = true → lt b c = true → lt a c = true
  total : ∀ a b, lt a b = true ∨ a = b ∨ lt b a = true
variable {lt : κ → κ → Bool} {cmp : κ → κ → Int} {f : α → κ} {l : List α} {k : κ}
theorem Ord.ge (O : Ord lt cmp) {a b : κ} (h : lt a b = false) : a = b ∨ lt b a = true := by
  rcases O.total a b with h1 | h1 | h1
  · rw [h] at h1; cases h1
  · exact .inl h1
  · exact .inr h1
theorem fxI_le : fxI lt f l k ≤ l.length := cntN_le
theorem fxI_lo (O : Ord lt cmp) (hs : srtX lt f l) {i : Nat} (hi : i < l.length) : i < fxI lt f l k ↔ lt (f (nth l i)) k = true := by
  constructor
  · intro h
    by_cases hb : lt (f (nth l i)) k = true
    · exact hb
    · exfalso
      have : fxI lt f l k ≤ i := by
        unfold fxI
        rw [cntN_none (Nat.le_of_lt hi) (fun j a b => ?_)]
        · exact cntN_le
        · by_cases e : j = i
          · rw [e]; simpa using hb
          · cases h2 : lt (f (nth l j)) k
            · rfl
            · exact absurd (O.trans _ _ _ (hs i j (by omega) b) h2) hb
      omega
  · intro h
    unfold fxI
    have h1 := cntN_all (p := fun i => lt (f (nth l i)) k) (n := i + 1) (allN_iff.2 fun j hj => by
      by_cases e : j = i
      · rw [e]; exact h
      · exact O.trans _ _ _ (hs j i (by omega) hi) h)
    have h2 := cntN_mono (p := fun i => lt (f (nth l i)) k) (n := i + 1) (m := l.length) (by omega)
    omega
theorem fxF_at (O : Ord lt cmp) (hs : srtX lt f l) {i : Nat} (hi : i < l.length) (h : f (nth l i) = k) : fxI lt f l k = i := by
  have h1 : ¬ i < fxI lt f l k := by rw [fxI_lo O hs hi, h, O.irr]; simp
  by_cases h2 : fxI lt f l k < i
  · have h3 := (fxI_lo (k := k) O hs (show fxI lt f l k < l.length by omega)).2 (by have := hs _ _ h2 hi; rwa [h] at this)
    omega
  · omega
theorem fxF_iff : fxF f l k = true ↔ ∃ i, i < l.length ∧ f (nth l i) = k := by
  unfold fxF
  rw [List.any_eq_true]
  constructor
  · rintro ⟨x, hx, h1⟩
    obtain ⟨i, hi, rfl⟩ := List.getElem_of_mem hx
    exact ⟨i, hi, by rw [nth_lt hi]; simpa using h1⟩
  · rintro ⟨i, hi, h1⟩; exact ⟨_, nth_mem hi, by simpa using h1⟩
theorem fxF_here (O : Ord lt cmp) (hs : srtX lt f l) (h : fxF f l k = true) : fxI lt f l k < l.length ∧ f (nth l (fxI lt f l k)) = k := by
  obtain ⟨i, hi, h1⟩ := fxF_iff.1 h
  rw [fxF_at O hs hi h1]; exact ⟨hi, h1⟩
def putAt (l : List α) (i : Nat) (x : α) : List α := l.take i ++ x :: l.drop i
theorem putAt_len {i : Nat} {x : α} (hi : i ≤ l.length) : (putAt l i x).length = l.length + 1 := by
  simp [putAt]; omega
theorem putAt_nth {i j : Nat} {x : α} (hi : i ≤ l.length) : nth (putAt l i x) j = if j < i then nth l j else if j = i then x else nth l (j - 1) := by
  unfold putAt nth
  simp only [List.getD, List.getElem?_append, List.length_take, Nat.min_eq_left hi]
  split
  · rename_i h; rw [List.getElem?_take_of_lt h]
  · rename_i h
    by_cases e : j = i
    · subst e; simp
    · rw [if_neg e, List.getElem?_cons, if_neg (by omega), List.getElem?_drop]
      congr 2; omega
theorem putAt_srt (O : Ord lt cmp) (hs : srtX lt f l) {x : α} (h : fxF f l (f x) = false) : srtX lt f (putAt l (fxI lt f l (f x)) x) := by
  intro i j h1 h2
  have hle := fxI_le (lt := lt) (f := f) (l := l) (k := f x)
  rw [putAt_len hle] at h2
  rw [putAt_nth hle, putAt_nth hle]
  have lo : ∀ i, i < fxI lt f l (f x) → lt (f (nth l i)) (f x) = true := fun i hi => (fxI_lo O hs (by omega)).1 hi
  have hi : ∀ i, fxI lt f l (f x) ≤ i → i < l.length → lt (f x) (f (nth l i)) = true := by
    intro i h3 h4
    have h5 : lt (f (nth l i)) (f x) = false := by
      cases h6 : lt (f (nth l i)) (f x)
      · rfl
      · have := (fxI_lo O hs h4).2 h6; omega
    rcases O.ge h5 with h6 | h6
    · have : fxF f l (f x) = true := fxF_iff.2 ⟨i, h4, h6⟩
      rw [h] at this; cases this
    · exact h6
  by_cases a : j < fxI lt f l (f x)
  · rw [if_pos (by omega), if_pos a]; exact hs i j h1 (by omega)
  · rw [if_neg a]
    by_cases b : j = fxI lt f l (f x)
    · rw [if_pos b, if_pos (by omega)]; exact lo i (by omega)
    · rw [if_neg b]
      by_cases c : i < fxI lt f l (f x)
      · rw [if_pos c]; exact hs i (j - 1) (by omega) (by omega)
      · rw [if_neg c]
        by_cases d : i = fxI lt f l (f x)
        · rw [if_pos d]; exact hi (j - 1) (by omega) (by omega)
        · rw [if_neg d]; exact hs (i - 1) (j - 1) (by omega) (by omega)
theorem mem_putAt {i : Nat} {x y : α} : y ∈ putAt l i x ↔ y = x ∨ y ∈ l := by
  unfold putAt
  conv => rhs; rw [← List.take_append_drop i l]
  simp only [List.mem_append, List.mem_cons]
  constructor
  · rintro (h | h | h) <;> simp [h]
  · rintro (h | h | h) <;> simp [h]
end
def ltI (a b : Int) : Bool := decide (a < b)
theorem Clone_Letter_ok (l : List Letter) (hl : l.length ≤ 2 ^ 20) : ACall Tryz.prog n_slices_Clone___impl_Letter_impl_Letter_ [.sl false 4 (l.map (Letter.row false))] (fun r _ => r = .sl true 4 (l.map (Letter.row false))) := by
  refine fn_in h_slices_Clone___impl_Letter_impl_Letter_ r_slices_Clone___impl_Letter_impl_Letter_ ⟨by simp only [go_sem], fun E hE hH => ?_⟩; simp only [go_sem] at hE hH; simp only [go_sem, hE, hH, c_slices_Clone___impl_Letter_impl_Letter_]
  refine ok_isn ?_
  try simp (disch := omega) only [go_sem, hE, hH]
  intro b hb
  cases b <;> try simp (disch := omega) only [go_sem, hE, hH]
  all_goals first | omega | (simp_all; done) | (simp_all; exact ⟨by omega, fun a _ => rfl⟩)
theorem Clone_Voter_ok (l : List Voter) (hl : l.length ≤ 2 ^ 20) : ACall Tryz.prog n_slices_Clone___impl_Voter_impl_Voter_ [.sl false 5 (l.map (Voter.row false))] (fun r _ => r = .sl true 5 (l.map (Voter.row false))) := by
  refine fn_in h_slices_Clone___impl_Voter_impl_Voter_ r_slices_Clone___impl_Voter_impl_Voter_ ⟨by simp only [go_sem], fun E hE hH => ?_⟩; simp only [go_sem] at hE hH; simp only [go_sem, hE, hH, c_slices_Clone___impl_Voter_impl_Voter_]
  refine ok_isn ?_
  try simp (disch := omega) only [go_sem, hE, hH]
  intro b hb
  cases b <;> try simp (disch := omega) only [go_sem, hE, hH]
  all_goals first | omega | (simp_all; done) | (simp_all; exact ⟨by omega, fun a _ => rfl⟩)
theorem Clone_Won_ok (l : List Won) (hl : l.length ≤ 2 ^ 20) : ACall Tryz.prog n_slices_Clone___impl_Won_impl_Won_ [.sl false 2 (l.map (Won.row false))] (fun r _ => r = .sl true 2 (l.map (Won.row false))) := by
  refine fn_in h_slices_Clone___impl_Won_impl_Won_ r_slices_Clone___impl_Won_impl_Won_ ⟨by simp only [go_sem], fun E hE hH => ?_⟩; simp only [go_sem] at hE hH; simp only [go_sem, hE, hH, c_slices_Clone___impl_Won_impl_Won_]
  refine ok_isn ?_
  try simp (disch := omega) only [go_sem, hE, hH]
  intro b hb
  cases b <;> try simp (disch := omega) only [go_sem, hE, hH]
  all_goals first | omega | (simp_all; done) | (simp_all; exact ⟨by omega, fun a _ => rfl⟩)
theorem Clone_Int_ok (l : List Int) (hl : l.length ≤ 2 ^ 20) : ACall Tryz.prog n_slices_Clone___int_int_ [.sl false 1 (ints l)] (fun r _ => r = .sl true 1 (ints l)) := by
  refine fn_in h_slices_Clone___int_int_ r_slices_Clone___int_int_ ⟨by simp only [go_sem], fun E hE hH => ?_⟩; simp only [go_sem] at hE hH; simp only [go_sem, hE, hH, c_slices_Clone___int_int_]
  refine ok_isn ?_
  try simp (disch := omega) only [go_sem, hE, hH]
  intro b hb
  cases b <;> try simp (disch := omega) only [go_sem, hE, hH]
  all_goals first | omega | (simp_all; done) | (simp_all; exact ⟨by omega, fun a _ => rfl⟩)
theorem Delete_Letter_ok (l : List Letter) (i j : Int) (hi : 0 ≤ i) (hij : i ≤ j) (hj : j ≤ l.length) (hl : l.length ≤ maxLen) : ACall Tryz.prog n_slices_Delete___impl_Letter_impl_Letter_ [.sl true 4 (l.map (Letter.row true)), i64 i, i64 j] (fun r a => r = .sl true 4 ((l.take i.toNat ++ l.drop j.toNat).map (Letter.row true)) ∧ a = [.any, i64 i, i64 j]) := by
  have hmx := mx_eq
  have hij' : i.toNat ≤ j.toNat := by omega
  have hj' : j.toNat ≤ l.length := by omega
  have e1 := del_len1 (f := Letter.row true) hij' hj'
  have e2 := fun z => del_len2 (f := Letter.row true) (z := z) hij' hj'
  have e3 := fun Z => del_rows (f := Letter.row true) (Z := Z) hij' hj'
  refine fn_inD [true, false, false] h_slices_Delete___impl_Letter_impl_Letter_ r_slices_Delete___impl_Letter_impl_Letter_ ⟨by simp only [go_sem], fun E hE hH => ?_⟩; simp only [go_sem] at hE hH; simp only [go_sem, hE, hH, c_slices_Delete___impl_Letter_impl_Letter_]
  repeat' (first | ((with_reducible first | refine gd_t ?_ ?_ | refine gd_f ?_ ?_) <;> (intro h; have hb := h; (try simp only [nf] at h); simp (disch := omega) only [go_sem, hE, hH, e1, e2, e3, Option.isSome_some, hb]; (try clear hb))) | ((with_reducible refine And.intro ?_ ?_); · omega) | (refine jn _ ?_ ?_) | (with_reducible refine both ?_ ?_) | (with_reducible refine And.intro ?_ ?_) | (refine fin_eq ?_; (try (simp (disch := omega) only [go_sem, hE, hH, e1, e2, e3, Option.isSome_some])); first | done | rfl) | (simp (disch := omega) only [go_sem, hE, hH, e1, e2, e3, Option.isSome_some]) | ((first | apply noMLL_sE | apply pk_sE) <;> (simp only [go_sem, hE, hH, e1, e2, e3, Option.isSome_some]; done)) | (simp only [go_sem, hE, hH, e1, e2, e3, Option.isSome_some]) | fail)
  · subst h
    rw [List.take_append_drop]
  · rw [List.length_take, List.length_drop]; omega
theorem IndexFunc_Letter_ok (l : List Letter) (f : Nat) (caps : List T) (p : Letter → Bool) (hent : entB Tryz.prog f = true) (hcap : caps.all T.cap = true) (hl : l.length ≤ maxLen) (hp : ∀ x, x ∈ l → ACall Tryz.prog f ([.agg (Letter.row false x)] ++ caps) (fun r _ => r = bl (p x))) :
    ACall Tryz.prog n_slices_IndexFunc___impl_Letter_impl_Letter_ [.sl false 4 (l.map (Letter.row false)), .fn f caps] (fun r _ => r = i64 (ixf p l)) := by
  have hmx := mx_eq
  refine fn_in h_slices_IndexFunc___impl_Letter_impl_Letter_ r_slices_IndexFunc___impl_Letter_impl_Letter_ ⟨by simp only [go_sem, caps_bare hcap, caps_pk hcap, caps_noM hcap, caps_lt hcap, caps_ids hcap], fun E hE hH => ?_⟩; simp only [go_sem, caps_bare hcap, caps_pk hcap, caps_noM hcap, caps_lt hcap, caps_ids hcap] at hE hH; simp only [go_sem, hE, hH, caps_bare hcap, caps_pk hcap, caps_noM hcap, caps_lt hcap, caps_ids hcap, c_slices_IndexFunc___impl_Letter_impl_Letter_]
  refine loopN l.length (fun j (_ : Unit) => ⟨[(0, .sl false 4 (l.map (Letter.row false))), (1, .fn f caps), (7, i64 l.length), (8, i64 j)], []⟩) (fun j _ => allN (fun i => !p (nth l i)) j = true) () rfl ?_
  intro j _ hj hI
  try simp only [go_sem, hE, hH, caps_bare hcap, caps_pk hcap, caps_noM hcap, caps_lt hcap, caps_ids hcap, c_slices_IndexFunc___impl_Letter_impl_Letter__l1]
  first | refine gd_t (fun h => ?_) (fun h => ?_) | refine gd_f (fun h => ?_) (fun h => ?_)
  · have hb := h
    simp only [nf] at h
    have hlt := h; clear h
    try simp (disch := omega) only [go_sem, hE, hH, caps_bare hcap, caps_pk hcap, caps_noM hcap, caps_lt hcap, caps_ids hcap, hb]
    refine And.intro (by omega) ?_
    refine ok_cfv rfl rfl rfl (hent) (hcap) (hp _ (nth_mem hlt)) ?_
    try simp (disch := omega) only [go_sem, hE, hH, caps_bare hcap, caps_pk hcap, caps_noM hcap, caps_lt hcap, caps_ids hcap]
    repeat' (first | ((with_reducible first | refine gd_t ?_ ?_ | refine gd_f ?_ ?_) <;> (intro h; have hb := h; (try simp only [nf] at h); simp (disch := omega) only [go_sem, hE, hH, caps_bare hcap, caps_pk hcap, caps_noM hcap, caps_lt hcap, caps_ids hcap, hb]; (try clear hb))) | ((with_reducible refine And.intro ?_ ?_); · omega) | (refine jn _ ?_ ?_) | (with_reducible refine both ?_ ?_) | (with_reducible refine And.intro ?_ ?_) | (refine fin_eq ?_; (try (simp (disch := omega) only [go_sem, hE, hH, caps_bare hcap, caps_pk hcap, caps_noM hcap, caps_lt hcap, caps_ids hcap])); first | done | rfl) | (simp (disch := omega) only [go_sem, hE, hH, caps_bare hcap, caps_pk hcap, caps_noM hcap, caps_lt hcap, caps_ids hcap]) | ((first | apply noMLL_sE | apply pk_sE) <;> (simp only [go_sem, hE, hH, caps_bare hcap, caps_pk hcap, caps_noM hcap, caps_lt hcap, caps_ids hcap]; done)) | (simp only [go_sem, hE, hH, caps_bare hcap, caps_pk hcap, caps_noM hcap, caps_lt hcap, caps_ids hcap]) | fail)
    · rw [ixf_at hlt hI h]
    · exact ⟨(), rfl, allN_step hI (by simp [h])⟩
  · try simp (disch := omega) only [go_sem, hE, hH, caps_bare hcap, caps_pk hcap, caps_noM hcap, caps_lt hcap, caps_ids hcap, h]
    simp only [nf] at h
    rw [show j = l.length by omega] at hI
    rw [ixf_none hI]
theorem IndexFunc_Won_ok (l : List Won) (f : Nat) (caps : List T) (p : Won → Bool) (hent : entB Tryz.prog f = true) (hcap : caps.all T.cap = true) (hl : l.length ≤ maxLen) (hp : ∀ x, x ∈ l → ACall Tryz.prog f ([.agg (Won.row false x)] ++ caps) (fun r _ => r = bl (p x))) :
    ACall Tryz.prog n_slices_IndexFunc___impl_Won_impl_Won_ [.sl false 2 (l.map (Won.row false)), .fn f caps] (fun r _ => r = i64 (ixf p l)) := by
  have hmx := mx_eq
  refine fn_in h_slices_IndexFunc___impl_Won_impl_Won_ r_slices_IndexFunc___impl_Won_impl_Won_ ⟨by simp only [go_sem, caps_bare hcap, caps_pk hcap, caps_noM hcap, caps_lt hcap, caps_ids hcap], fun E hE hH => ?_⟩; simp only [go_sem, caps_bare hcap, caps_pk hcap, caps_noM hcap, caps_lt hcap, caps_ids hcap] at hE hH; simp only [go_sem, hE, hH, caps_bare hcap, caps_pk hcap, caps_noM hcap, caps_lt hcap, caps_ids hcap, c_slices_IndexFunc___impl_Won_impl_Won_]
  refine loopN l.length (fun j (_ : Unit) => ⟨[(0, .sl false 2 (l.map (Won.row false))), (1, .fn f caps), (7, i64 l.length), (8, i64 j)], []⟩) (fun j _ => allN (fun i => !p (nth l i)) j = true) () rfl ?_
  intro j _ hj hI
  try simp only [go_sem, hE, hH, caps_bare hcap, caps_pk hcap, caps_noM hcap, caps_lt hcap, caps_ids hcap, c_slices_IndexFunc___impl_Won_impl_Won__l1]
  first | refine gd_t (fun h => ?_) (fun h => ?_) | refine gd_f (fun h => ?_) (fun h => ?_)
  · have hb := h
    simp only [nf] at h
    have hlt := h; clear h
    try simp (disch := omega) only [go_sem, hE, hH, caps_bare hcap, caps_pk hcap, caps_noM hcap, caps_lt hcap, caps_ids hcap, hb]
    refine And.intro (by omega) ?_
    refine ok_cfv rfl rfl rfl (hent) (hcap) (hp _ (nth_mem hlt)) ?_
    try simp (disch := omega) only [go_sem, hE, hH, caps_bare hcap, caps_pk hcap, caps_noM hcap, caps_lt hcap, caps_ids hcap]
    repeat' (first | ((with_reducible first | refine gd_t ?_ ?_ | refine gd_f ?_ ?_) <;> (intro h; have hb := h; (try simp only [nf] at h); simp (disch := omega) only [go_sem, hE, hH, caps_bare hcap, caps_pk hcap, caps_noM hcap, caps_lt hcap, caps_ids hcap, hb]; (try clear hb))) | ((with_reducible refine And.intro ?_ ?_); · omega) | (refine jn _ ?_ ?_) | (with_reducible refine both ?_ ?_) | (with_reducible refine And.intro ?_ ?_) | (refine fin_eq ?_; (try (simp (disch := omega) only [go_sem, hE, hH, caps_bare hcap, caps_pk hcap, caps_noM hcap, caps_lt hcap, caps_ids hcap])); first | done | rfl) | (simp (disch := omega) only [go_sem, hE, hH, caps_bare hcap, caps_pk hcap, caps_noM hcap, caps_lt hcap, caps_ids hcap]) | ((first | apply noMLL_sE | apply pk_sE) <;> (simp only [go_sem, hE, hH, caps_bare hcap, caps_pk hcap, caps_noM hcap, caps_lt hcap, caps_ids hcap]; done)) | (simp only [go_sem, hE, hH, caps_bare hcap, caps_pk hcap, caps_noM hcap, caps_lt hcap, caps_ids hcap]) | fail)
    · rw [ixf_at hlt hI h]
    · exact ⟨(), rfl, allN_step hI (by simp [h])⟩
  · try simp (disch := omega) only [go_sem, hE, hH, caps_bare hcap, caps_pk hcap, caps_noM hcap, caps_lt hcap, caps_ids hcap, h]
    simp only [nf] at h
    rw [show j = l.length by omega] at hI
    rw [ixf_none hI]
theorem IndexFunc_Int_ok (l : List Int) (f : Nat) (caps : List T) (p : Int → Bool) (hent : entB Tryz.prog f = true) (hcap : caps.all T.cap = true) (hl : l.length ≤ maxLen) (hp : ∀ x, x ∈ l → ACall Tryz.prog f ([i64 x] ++ caps) (fun r _ => r = bl (p x))) :
    ACall Tryz.prog n_slices_IndexFunc___int_int_ [.sl false 1 (ints l), .fn f caps] (fun r _ => r = i64 (ixf p l)) := by
  have hmx := mx_eq
  refine fn_in h_slices_IndexFunc___int_int_ r_slices_IndexFunc___int_int_ ⟨by simp only [go_sem, caps_bare hcap, caps_pk hcap, caps_noM hcap, caps_lt hcap, caps_ids hcap], fun E hE hH => ?_⟩; simp only [go_sem, caps_bare hcap, caps_pk hcap, caps_noM hcap, caps_lt hcap, caps_ids hcap] at hE hH; simp only [go_sem, hE, hH, caps_bare hcap, caps_pk hcap, caps_noM hcap, caps_lt hcap, caps_ids hcap, c_slices_IndexFunc___int_int_]
  refine loopN l.length (fun j (_ : Unit) => ⟨[(0, .sl false 1 (ints l)), (1, .fn f caps), (7, i64 l.length), (8, i64 j)], []⟩) (fun j _ => allN (fun i => !p (nth l i)) j = true) () rfl ?_
  intro j _ hj hI
  try simp only [go_sem, hE, hH, caps_bare hcap, caps_pk hcap, caps_noM hcap, caps_lt hcap, caps_ids hcap, c_slices_IndexFunc___int_int__l1]
  first | refine gd_t (fun h => ?_) (fun h => ?_) | refine gd_f (fun h => ?_) (fun h => ?_)
  · have hb := h
    simp only [nf] at h
    have hlt := h; clear h
    try simp (disch := omega) only [go_sem, hE, hH, caps_bare hcap, caps_pk hcap, caps_noM hcap, caps_lt hcap, caps_ids hcap, hb]
    refine And.intro (by omega) ?_
    refine ok_cfv rfl rfl rfl (hent) (hcap) (hp _ (nth_mem hlt)) ?_
    try simp (disch := omega) only [go_sem, hE, hH, caps_bare hcap, caps_pk hcap, caps_noM hcap, caps_lt hcap, caps_ids hcap]
    repeat' (first | ((with_reducible first | refine gd_t ?_ ?_ | refine gd_f ?_ ?_) <;> (intro h; have hb := h; (try simp only [nf] at h); simp (disch := omega) only [go_sem, hE, hH, caps_bare hcap, caps_pk hcap, caps_noM hcap, caps_lt hcap, caps_ids hcap, hb]; (try clear hb))) | ((with_reducible refine And.intro ?_ ?_); · omega) | (refine jn _ ?_ ?_) | (with_reducible refine both ?_ ?_) | (with_reducible refine And.intro ?_ ?_) | (refine fin_eq ?_; (try (simp (disch := omega) only [go_sem, hE, hH, caps_bare hcap, caps_pk hcap, caps_noM hcap, caps_lt hcap, caps_ids hcap])); first | done | rfl) | (simp (disch := omega) only [go_sem, hE, hH, caps_bare hcap, caps_pk hcap, caps_noM hcap, caps_lt hcap, caps_ids hcap]) | ((first | apply noMLL_sE | apply pk_sE) <;> (simp only [go_sem, hE, hH, caps_bare hcap, caps_pk hcap, caps_noM hcap, caps_lt hcap, caps_ids hcap]; done)) | (simp only [go_sem, hE, hH, caps_bare hcap, caps_pk hcap, caps_noM hcap, caps_lt hcap, caps_ids hcap]) | fail)
    · rw [ixf_at hlt hI h]
    · exact ⟨(), rfl, allN_step hI (by simp [h])⟩
  · try simp (disch := omega) only [go_sem, hE, hH, caps_bare hcap, caps_pk hcap, caps_noM hcap, caps_lt hcap, caps_ids hcap, h]
    simp only [nf] at h
    rw [show j = l.length by omega] at hI
    rw [ixf_none hI]
theorem Insert_Letter_ok (l v : List Letter) (i : Int) (hi : 0 ≤ i) (hin : i ≤ l.length) (hl : l.length ≤ 2 ^ 20) (hv : v.length ≤ 2 ^ 20) : ACall Tryz.prog n_slices_Insert___impl_Letter_impl_Letter_ [.sl true 4 (l.map (Letter.row true)), i64 i, .sl false 4 (v.map (Letter.row false))] (fun r a => r = .sl true 4 ((l.take i.toNat ++ v ++ l.drop i.toNat).map (Letter.row true)) ∧ a = [.any, i64 i, .sl false 4 (v.map (Letter.row false))]) := by
  have hmx := mx_eq
  refine fn_inC [true, false, false] 0 4 (l.map (Letter.row true)) h_slices_Insert___impl_Letter_impl_Letter_ r_slices_Insert___impl_Letter_impl_Letter_ (by simp only [go_sem, List.mem_cons, true_or, or_true]) (by simp only [go_sem]) ⟨by simp only [go_sem], fun E hE hH c hc hF => ?_⟩; simp only [go_sem] at hE hH hc hF; simp only [go_sem, hE, hH, c_slices_Insert___impl_Letter_impl_Letter_]
  have e0 : l.length + (c - l.length) = c := by omega
  have hn : i.toNat ≤ l.length := by omega
  have t1 : ((l.length : Int) + v.length - i).toNat = l.length + v.length - i.toNat := by omega
  have t2 : (i + (v.length : Int)).toNat = i.toNat + v.length := by omega
  have t3 : ((l.length : Int) + v.length).toNat = l.length + v.length := by omega
  have t4 : i.toNat + (l.length + v.length - i.toNat) = l.length + v.length := by omega
  have t5 : l.length + v.length - (i.toNat + v.length) = l.length - i.toNat := by omega
  have t6 : min (l.length - i.toNat) (l.length + v.length - i.toNat) = l.length - i.toNat := by omega
  have t7 : i.toNat + (l.length - i.toNat) = l.length := by omega
  have a1 := ins_take (f := Letter.row true) (l := l) (G := List.replicate (c - l.length) (anyRow 4)) (Nat.le_refl l.length)
  have a2 := ins_take (f := Letter.row true) (l := l) (G := List.replicate (c - l.length) (anyRow 4)) hn
  have a3 := ins_mid (f := Letter.row true) (l := l) (G := List.replicate (c - l.length) (anyRow 4)) hn
  have a4 : v.take (l.length + v.length - i.toNat) = v := List.take_of_length_le (by omega)
  have b1 := fun z => ins_len1 (f := Letter.row true) (g := fun x => (Letter.row true) x) (v := v) (z := z) hn
  have b2 := fun z => ins_len2 (f := Letter.row true) (g := fun x => (Letter.row true) x) (v := v) (z := z) hn
  have b3 := fun z => ins_rows1 (f := Letter.row true) (v := v) (z := z) hn
  have b4 := ins_app (f := Letter.row true) (v := v) (l := l)
  have d1 := fun z hc => fit_len1 (f := Letter.row true) (m := v.length) (c := c) (z := z) hn hc
  have d2 := fun z hc => fit_len2 (f := Letter.row true) (g := fun x => (Letter.row true) x) (v := v) (c := c) (z := z) hn hc
  have d3 := fun z hc => fit_rows (f := Letter.row true) (v := v) (c := c) (z := z) hn hc
  have t8 : min (l.length + v.length - i.toNat) v.length = v.length := by omega
  have t9 : i.toNat + v.length + (l.length - i.toNat) = l.length + v.length := by omega
  simp only [go_sem] at a1 a2 a3 b1 b2 b3 b4 d1 d2 d3
  repeat' (first | ((with_reducible first | refine gd_t ?_ ?_ | refine gd_f ?_ ?_) <;> (intro h; have hb := h; (try simp only [nf] at h); simp (disch := omega) only [go_sem, hE, hH, e0, hF, t1, t2, t3, t4, t5, t6, t7, t8, t9, d1, d2, d3, a1, a2, a3, a4, b1, b2, b3, b4, List.take_length, List.length_drop, Nat.add_sub_cancel_left, List.length_take, Nat.min_eq_left hn, Nat.min_self, hb]; (try clear hb))) | ((with_reducible refine And.intro ?_ ?_); · omega) | (refine jn _ ?_ ?_) | (with_reducible refine both ?_ ?_) | (with_reducible refine And.intro ?_ ?_) | (refine fin_eq ?_; (try (simp (disch := omega) only [go_sem, hE, hH, e0, hF, t1, t2, t3, t4, t5, t6, t7, t8, t9, d1, d2, d3, a1, a2, a3, a4, b1, b2, b3, b4, List.take_length, List.length_drop, Nat.add_sub_cancel_left, List.length_take, Nat.min_eq_left hn, Nat.min_self])); first | done | rfl) | (simp (disch := omega) only [go_sem, hE, hH, e0, hF, t1, t2, t3, t4, t5, t6, t7, t8, t9, d1, d2, d3, a1, a2, a3, a4, b1, b2, b3, b4, List.take_length, List.length_drop, Nat.add_sub_cancel_left, List.length_take, Nat.min_eq_left hn, Nat.min_self]) | ((first | apply noMLL_sE | apply pk_sE) <;> (simp only [go_sem, hE, hH, e0, hF, t1, t2, t3, t4, t5, t6, t7, t8, t9, d1, d2, d3, a1, a2, a3, a4, b1, b2, b3, b4, List.take_length, List.length_drop, Nat.add_sub_cancel_left, List.length_take, Nat.min_eq_left hn, Nat.min_self]; done)) | (simp only [go_sem, hE, hH, e0, hF, t1, t2, t3, t4, t5, t6, t7, t8, t9, d1, d2, d3, a1, a2, a3, a4, b1, b2, b3, b4, List.take_length, List.length_drop, Nat.add_sub_cancel_left, List.length_take, Nat.min_eq_left hn, Nat.min_self]) | fail)
  all_goals try (refine ok_ovl rfl rfl rfl u_slices_overlaps_impl_Letter_ wd_slices_overlaps_impl_Letter_ x_slices_overlaps_impl_Letter_ (by decide) (by simp only [List.length_map]; omega) (by simp only [go_sem]; omega) ?_)
  repeat' (first | ((with_reducible first | refine gd_t ?_ ?_ | refine gd_f ?_ ?_) <;> (intro h; have hb := h; (try simp only [nf] at h); simp (disch := omega) only [go_sem, hE, hH, e0, hF, t1, t2, t3, t4, t5, t6, t7, t8, t9, d1, d2, d3, a1, a2, a3, a4, b1, b2, b3, b4, List.take_length, List.length_drop, Nat.add_sub_cancel_left, List.length_take, Nat.min_eq_left hn, Nat.min_self, hb]; (try clear hb))) | ((with_reducible refine And.intro ?_ ?_); · omega) | (refine jn _ ?_ ?_) | (with_reducible refine both ?_ ?_) | (with_reducible refine And.intro ?_ ?_) | (refine fin_eq ?_; (try (simp (disch := omega) only [go_sem, hE, hH, e0, hF, t1, t2, t3, t4, t5, t6, t7, t8, t9, d1, d2, d3, a1, a2, a3, a4, b1, b2, b3, b4, List.take_length, List.length_drop, Nat.add_sub_cancel_left, List.length_take, Nat.min_eq_left hn, Nat.min_self])); first | done | rfl) | (simp (disch := omega) only [go_sem, hE, hH, e0, hF, t1, t2, t3, t4, t5, t6, t7, t8, t9, d1, d2, d3, a1, a2, a3, a4, b1, b2, b3, b4, List.take_length, List.length_drop, Nat.add_sub_cancel_left, List.length_take, Nat.min_eq_left hn, Nat.min_self]) | ((first | apply noMLL_sE | apply pk_sE) <;> (simp only [go_sem, hE, hH, e0, hF, t1, t2, t3, t4, t5, t6, t7, t8, t9, d1, d2, d3, a1, a2, a3, a4, b1, b2, b3, b4, List.take_length, List.length_drop, Nat.add_sub_cancel_left, List.length_take, Nat.min_eq_left hn, Nat.min_self]; done)) | (simp only [go_sem, hE, hH, e0, hF, t1, t2, t3, t4, t5, t6, t7, t8, t9, d1, d2, d3, a1, a2, a3, a4, b1, b2, b3, b4, List.take_length, List.length_drop, Nat.add_sub_cancel_left, List.length_take, Nat.min_eq_left hn, Nat.min_self]) | fail)
  · have e : v = [] := List.length_eq_zero_iff.1 (by omega)
    subst e
    rw [List.append_nil, List.take_append_drop]
  · have e : i.toNat = l.length := by omega
    rw [e, List.take_length, List.drop_length, List.append_nil, List.map_append]
    try rfl
  all_goals omega
theorem Insert_Int_ok (l v : List Int) (i : Int) (hi : 0 ≤ i) (hin : i ≤ l.length) (hl : l.length ≤ 2 ^ 20) (hv : v.length ≤ 2 ^ 20) : ACall Tryz.prog n_slices_Insert___int_int_ [.sl true 1 (l.map (fun x : Int => [i64 x])), i64 i, .sl false 1 (v.map (fun x : Int => [i64 x]))] (fun r a => r = .sl true 1 ((l.take i.toNat ++ v ++ l.drop i.toNat).map (fun x : Int => [i64 x])) ∧ a = [.any, i64 i, .sl false 1 (v.map (fun x : Int => [i64 x]))]) := by
  have hmx := mx_eq
  refine fn_inC [true, false, false] 0 1 (l.map (fun x : Int => [i64 x])) h_slices_Insert___int_int_ r_slices_Insert___int_int_ (by simp only [go_sem, List.mem_cons, true_or, or_true]) (by simp only [go_sem]) ⟨by simp only [go_sem], fun E hE hH c hc hF => ?_⟩; simp only [go_sem] at hE hH hc hF; simp only [go_sem, hE, hH, c_slices_Insert___int_int_]
  have e0 : l.length + (c - l.length) = c := by omega
  have hn : i.toNat ≤ l.length := by omega
  have t1 : ((l.length : Int) + v.length - i).toNat = l.length + v.length - i.toNat := by omega
  have t2 : (i + (v.length : Int)).toNat = i.toNat + v.length := by omega
  have t3 : ((l.length : Int) + v.length).toNat = l.length + v.length := by omega
  have t4 : i.toNat + (l.length + v.length - i.toNat) = l.length + v.length := by omega
  have t5 : l.length + v.length - (i.toNat + v.length) = l.length - i.toNat := by omega
  have t6 : min (l.length - i.toNat) (l.length + v.length - i.toNat) = l.length - i.toNat := by omega
  have t7 : i.toNat + (l.length - i.toNat) = l.length := by omega
  have a1 := ins_take (f := fun x : Int => [i64 x]) (l := l) (G := List.replicate (c - l.length) (anyRow 1)) (Nat.le_refl l.length)
  have a2 := ins_take (f := fun x : Int => [i64 x]) (l := l) (G := List.replicate (c - l.length) (anyRow 1)) hn
  have a3 := ins_mid (f := fun x : Int => [i64 x]) (l := l) (G := List.replicate (c - l.length) (anyRow 1)) hn
  have a4 : v.take (l.length + v.length - i.toNat) = v := List.take_of_length_le (by omega)
  have b1 := fun z => ins_len1 (f := fun x : Int => [i64 x]) (g := fun x => (fun x : Int => [i64 x]) x) (v := v) (z := z) hn
  have b2 := fun z => ins_len2 (f := fun x : Int => [i64 x]) (g := fun x => (fun x : Int => [i64 x]) x) (v := v) (z := z) hn
  have b3 := fun z => ins_rows1 (f := fun x : Int => [i64 x]) (v := v) (z := z) hn
  have b4 := ins_app (f := fun x : Int => [i64 x]) (v := v) (l := l)
  have d1 := fun z hc => fit_len1 (f := fun x : Int => [i64 x]) (m := v.length) (c := c) (z := z) hn hc
  have d2 := fun z hc => fit_len2 (f := fun x : Int => [i64 x]) (g := fun x => (fun x : Int => [i64 x]) x) (v := v) (c := c) (z := z) hn hc
  have d3 := fun z hc => fit_rows (f := fun x : Int => [i64 x]) (v := v) (c := c) (z := z) hn hc
  have t8 : min (l.length + v.length - i.toNat) v.length = v.length := by omega
  have t9 : i.toNat + v.length + (l.length - i.toNat) = l.length + v.length := by omega
  simp only [go_sem] at a1 a2 a3 b1 b2 b3 b4 d1 d2 d3
  repeat' (first | ((with_reducible first | refine gd_t ?_ ?_ | refine gd_f ?_ ?_) <;> (intro h; have hb := h; (try simp only [nf] at h); simp (disch := omega) only [go_sem, hE, hH, e0, hF, t1, t2, t3, t4, t5, t6, t7, t8, t9, d1, d2, d3, a1, a2, a3, a4, b1, b2, b3, b4, List.take_length, List.length_drop, Nat.add_sub_cancel_left, List.length_take, Nat.min_eq_left hn, Nat.min_self, hb]; (try clear hb))) | ((with_reducible refine And.intro ?_ ?_); · omega) | (refine jn _ ?_ ?_) | (with_reducible refine both ?_ ?_) | (with_reducible refine And.intro ?_ ?_) | (refine fin_eq ?_; (try (simp (disch := omega) only [go_sem, hE, hH, e0, hF, t1, t2, t3, t4, t5, t6, t7, t8, t9, d1, d2, d3, a1, a2, a3, a4, b1, b2, b3, b4, List.take_length, List.length_drop, Nat.add_sub_cancel_left, List.length_take, Nat.min_eq_left hn, Nat.min_self])); first | done | rfl) | (simp (disch := omega) only [go_sem, hE, hH, e0, hF, t1, t2, t3, t4, t5, t6, t7, t8, t9, d1, d2, d3, a1, a2, a3, a4, b1, b2, b3, b4, List.take_length, List.length_drop, Nat.add_sub_cancel_left, List.length_take, Nat.min_eq_left hn, Nat.min_self]) | ((first | apply noMLL_sE | apply pk_sE) <;> (simp only [go_sem, hE, hH, e0, hF, t1, t2, t3, t4, t5, t6, t7, t8, t9, d1, d2, d3, a1, a2, a3, a4, b1, b2, b3, b4, List.take_length, List.length_drop, Nat.add_sub_cancel_left, List.length_take, Nat.min_eq_left hn, Nat.min_self]; done)) | (simp only [go_sem, hE, hH, e0, hF, t1, t2, t3, t4, t5, t6, t7, t8, t9, d1, d2, d3, a1, a2, a3, a4, b1, b2, b3, b4, List.take_length, List.length_drop, Nat.add_sub_cancel_left, List.length_take, Nat.min_eq_left hn, Nat.min_self]) | fail)
  all_goals try (refine ok_ovl rfl rfl rfl u_slices_overlaps_int_ wd_slices_overlaps_int_ x_slices_overlaps_int_ (by decide) (by simp only [List.length_map]; omega) (by simp only [go_sem]; omega) ?_)
  repeat' (first | ((with_reducible first | refine gd_t ?_ ?_ | refine gd_f ?_ ?_) <;> (intro h; have hb := h; (try simp only [nf] at h); simp (disch := omega) only [go_sem, hE, hH, e0, hF, t1, t2, t3, t4, t5, t6, t7, t8, t9, d1, d2, d3, a1, a2, a3, a4, b1, b2, b3, b4, List.take_length, List.length_drop, Nat.add_sub_cancel_left, List.length_take, Nat.min_eq_left hn, Nat.min_self, hb]; (try clear hb))) | ((with_reducible refine And.intro ?_ ?_); · omega) | (refine jn _ ?_ ?_) | (with_reducible refine both ?_ ?_) | (with_reducible refine And.intro ?_ ?_) | (refine fin_eq ?_; (try (simp (disch := omega) only [go_sem, hE, hH, e0, hF, t1, t2, t3, t4, t5, t6, t7, t8, t9, d1, d2, d3, a1, a2, a3, a4, b1, b2, b3, b4, List.take_length, List.length_drop, Nat.add_sub_cancel_left, List.length_take, Nat.min_eq_left hn, Nat.min_self])); first | done | rfl) | (simp (disch := omega) only [go_sem, hE, hH, e0, hF, t1, t2, t3, t4, t5, t6, t7, t8, t9, d1, d2, d3, a1, a2, a3, a4, b1, b2, b3, b4, List.take_length, List.length_drop, Nat.add_sub_cancel_left, List.length_take, Nat.min_eq_left hn, Nat.min_self]) | ((first | apply noMLL_sE | apply pk_sE) <;> (simp only [go_sem, hE, hH, e0, hF, t1, t2, t3, t4, t5, t6, t7, t8, t9, d1, d2, d3, a1, a2, a3, a4, b1, b2, b3, b4, List.take_length, List.length_drop, Nat.add_sub_cancel_left, List.length_take, Nat.min_eq_left hn, Nat.min_self]; done)) | (simp only [go_sem, hE, hH, e0, hF, t1, t2, t3, t4, t5, t6, t7, t8, t9, d1, d2, d3, a1, a2, a3, a4, b1, b2, b3, b4, List.take_length, List.length_drop, Nat.add_sub_cancel_left, List.length_take, Nat.min_eq_left hn, Nat.min_self]) | fail)
  · have e : v = [] := List.length_eq_zero_iff.1 (by omega)
    subst e
    rw [List.append_nil, List.take_append_drop]
  · have e : i.toNat = l.length := by omega
    rw [e, List.take_length, List.drop_length, List.append_nil, List.map_append]
    try rfl
  all_goals omega
theorem ContainsFunc_Won_ok (l : List Won) (f : Nat) (caps : List T) (p : Won → Bool) (hent : entB Tryz.prog f = true) (hcap : caps.all T.cap = true) (hl : l.length ≤ maxLen) (hp : ∀ x, x ∈ l → ACall Tryz.prog f ([.agg (Won.row false x)] ++ caps) (fun r _ => r = bl (p x))) :
    ACall Tryz.prog n_slices_ContainsFunc___impl_Won_impl_Won_ [.sl false 2 (l.map (Won.row false)), .fn f caps] (fun r _ => r = bl (l.any p)) := by
  refine fn_in h_slices_ContainsFunc___impl_Won_impl_Won_ r_slices_ContainsFunc___impl_Won_impl_Won_ ⟨by simp only [go_sem, caps_bare hcap, caps_pk hcap, caps_noM hcap, caps_lt hcap, caps_ids hcap], fun E hE hH => ?_⟩; simp only [go_sem, caps_bare hcap, caps_pk hcap, caps_noM hcap, caps_lt hcap, caps_ids hcap] at hE hH; simp only [go_sem, hE, hH, caps_bare hcap, caps_pk hcap, caps_noM hcap, caps_lt hcap, caps_ids hcap, c_slices_ContainsFunc___impl_Won_impl_Won_]
  refine ok_cv rfl (by simp only [zipF, argL, vwT, vwLeaf, vwRow_caps hcap, Bool.false_eq_true, if_false]; rfl) (IndexFunc_Won_ok l f caps p hent hcap hl hp) ?_
  try simp (disch := omega) only [go_sem, hE, hH, caps_bare hcap, caps_pk hcap, caps_noM hcap, caps_lt hcap, caps_ids hcap, ixf_any, vwC_ok hcap]
theorem ContainsFunc_Int_ok (l : List Int) (f : Nat) (caps : List T) (p : Int → Bool) (hent : entB Tryz.prog f = true) (hcap : caps.all T.cap = true) (hl : l.length ≤ maxLen) (hp : ∀ x, x ∈ l → ACall Tryz.prog f ([i64 x] ++ caps) (fun r _ => r = bl (p x))) :
    ACall Tryz.prog n_slices_ContainsFunc___int_int_ [.sl false 1 (ints l), .fn f caps] (fun r _ => r = bl (l.any p)) := by
  refine fn_in h_slices_ContainsFunc___int_int_ r_slices_ContainsFunc___int_int_ ⟨by simp only [go_sem, caps_bare hcap, caps_pk hcap, caps_noM hcap, caps_lt hcap, caps_ids hcap], fun E hE hH => ?_⟩; simp only [go_sem, caps_bare hcap, caps_pk hcap, caps_noM hcap, caps_lt hcap, caps_ids hcap] at hE hH; simp only [go_sem, hE, hH, caps_bare hcap, caps_pk hcap, caps_noM hcap, caps_lt hcap, caps_ids hcap, c_slices_ContainsFunc___int_int_]
  refine ok_cv rfl (by simp only [zipF, argL, vwT, vwLeaf, vwRow_caps hcap, Bool.false_eq_true, if_false]; rfl) (IndexFunc_Int_ok l f caps p hent hcap hl hp) ?_
  try simp (disch := omega) only [go_sem, hE, hH, caps_bare hcap, caps_pk hcap, caps_noM hcap, caps_lt hcap, caps_ids hcap, ixf_any, vwC_ok hcap]
def bys (code : List Int) : List (List T) := code.map fun b => [.v (.int .u8 b)]
@[go_sem] theorem bys_eq (code : List Int) : bys code = code.map fun b => [.v (.int .u8 b)] := rfl
def isB (code : List Int) : Prop := code.length ≤ 2 ^ 40 ∧ ∀ b, b ∈ code → 0 ≤ b ∧ b < 256
def rng (n lo hi : Int) : Bool := decide (lo ≤ n) && decide (n ≤ hi)
theorem rng_iff {n lo hi : Int} : rng n lo hi = true ↔ lo ≤ n ∧ n ≤ hi := by simp [rng]
theorem rng_no {n lo hi : Int} : rng n lo hi = false ↔ ¬ (lo ≤ n ∧ n ≤ hi) := by rw [← rng_iff]; simp
theorem within_ok (n lo hi : Int) : ACall Tryz.prog n_impl_within [i64 n, i64 lo, i64 hi] (fun r _ => r = bl (rng n lo hi)) := by
  refine fn_in h_impl_within r_impl_within ⟨by simp only [go_sem], fun E hE hH => ?_⟩; simp only [go_sem] at hE hH; simp only [go_sem, hE, hH, c_impl_within]
  repeat' (first | ((with_reducible first | refine gd_t ?_ ?_ | refine gd_f ?_ ?_) <;> (intro h; have hb := h; (try simp only [nf] at h); simp (disch := omega) only [go_sem, hE, hH, hb]; (try clear hb))) | ((with_reducible refine And.intro ?_ ?_); · omega) | (refine jn _ ?_ ?_) | (with_reducible refine both ?_ ?_) | (with_reducible refine And.intro ?_ ?_) | (refine fin_eq ?_; (try (simp (disch := omega) only [go_sem, hE, hH])); first | done | rfl) | (simp (disch := omega) only [go_sem, hE, hH]) | ((first | apply noMLL_sE | apply pk_sE) <;> (simp only [go_sem, hE, hH]; done)) | (simp only [go_sem, hE, hH]) | fail)
  all_goals (simp_all [rng]; try omega)
theorem l1In_ok (n lo hi : Int) : ACall Tryz.prog n_spec_l1In [i64 n, i64 lo, i64 hi] (fun r _ => r = bl (rng n lo hi)) := by
  refine fn_in h_spec_l1In r_spec_l1In ⟨by simp only [go_sem], fun E hE hH => ?_⟩; simp only [go_sem] at hE hH; simp only [go_sem, hE, hH, c_spec_l1In]
  repeat' (first | ((with_reducible first | refine gd_t ?_ ?_ | refine gd_f ?_ ?_) <;> (intro h; have hb := h; (try simp only [nf] at h); simp (disch := omega) only [go_sem, hE, hH, hb]; (try clear hb))) | ((with_reducible refine And.intro ?_ ?_); · omega) | (refine jn _ ?_ ?_) | (with_reducible refine both ?_ ?_) | (with_reducible refine And.intro ?_ ?_) | (refine fin_eq ?_; (try (simp (disch := omega) only [go_sem, hE, hH])); first | done | rfl) | (simp (disch := omega) only [go_sem, hE, hH]) | ((first | apply noMLL_sE | apply pk_sE) <;> (simp only [go_sem, hE, hH]; done)) | (simp only [go_sem, hE, hH]) | fail)
  all_goals (simp_all [rng]; try omega)
def allR (l : List Int) (lo hi : Int) : Bool := allN (fun i => rng (nth l i) lo hi) l.length
theorem l1All_ok (l : List Int) (lo hi : Int) (hl : l.length ≤ maxLen) : ACall Tryz.prog n_spec_l1All [.sl false 1 (ints l), i64 lo, i64 hi] (fun r _ => r = bl (allR l lo hi)) := by
  have hmx := mx_eq
  refine fn_in h_spec_l1All r_spec_l1All ⟨by simp only [go_sem], fun E hE hH => ?_⟩; simp only [go_sem] at hE hH; simp only [go_sem, hE, hH, c_spec_l1All]
  refine loopN l.length (fun j (_ : Unit) => ⟨[(1, i64 lo), (2, i64 hi), (9, .sl false 1 (ints l)), (10, i64 l.length), (11, i64 j)], []⟩) (fun j _ => allN (fun i => rng (nth l i) lo hi) j = true) () rfl ?_
  intro j _ hj hI
  try simp only [go_sem, hE, hH, c_spec_l1All_l1]
  first | refine gd_t (fun h => ?_) (fun h => ?_) | refine gd_f (fun h => ?_) (fun h => ?_)
  · have hb := h
    simp only [nf] at h
    have hlt := h; clear h
    try simp (disch := omega) only [go_sem, hE, hH, hb]
    repeat' (first | ((with_reducible first | refine gd_t ?_ ?_ | refine gd_f ?_ ?_) <;> (intro h; have hb := h; (try simp only [nf] at h); simp (disch := omega) only [go_sem, hE, hH, hb]; (try clear hb))) | ((with_reducible refine And.intro ?_ ?_); · omega) | ((first | refine ok_view ?_ | refine cvA (l1In_ok _ _ _) ?_); simp (disch := omega) only [go_sem, hE, hH]) | (refine jn _ ?_ ?_) | (with_reducible refine both ?_ ?_) | (with_reducible refine And.intro ?_ ?_) | (refine fin_eq ?_; (try (simp (disch := omega) only [go_sem, hE, hH])); first | done | rfl) | (simp (disch := omega) only [go_sem, hE, hH]) | ((first | apply noMLL_sE | apply pk_sE) <;> (simp only [go_sem, hE, hH]; done)) | (simp only [go_sem, hE, hH]) | fail)
    · rw [allR, allN_no hlt h]
    · exact ⟨(), rfl, allN_step hI h⟩
  · try simp (disch := omega) only [go_sem, hE, hH, h]
    simp only [nf] at h
    rw [show j = l.length by omega] at hI
    rw [allR, hI]
theorem allR_any (l : List Int) (lo hi : Int) : (!l.any fun n => !rng n lo hi) = allR l lo hi := by
  rw [allR, allN_all (p := fun n => rng n lo hi)]
  simp [List.any_eq_not_all_not]
theorem l1Own_ok (l : List Int) (hl : l.length ≤ 2 ^ 20) : ACall Tryz.prog n_spec_l1Own [.sl false 1 (ints l)] (fun r _ => r = .sl true 1 (ints l)) := by
  refine fn_in h_spec_l1Own r_spec_l1Own ⟨by simp only [go_sem], fun E hE hH => ?_⟩; simp only [go_sem] at hE hH; simp only [go_sem, hE, hH, c_spec_l1Own]
  try simp (disch := omega) only [go_sem, hE, hH]
  omega
theorem isTrue_ok (n : Int) : ACall Tryz.prog n_impl_isTrue [i64 n] (fun r _ => r = bl (rng n 0 100000)) := by
  refine fn_in h_impl_isTrue r_impl_isTrue ⟨by simp only [go_sem], fun E hE hH => ?_⟩; simp only [go_sem] at hE hH; simp only [go_sem, hE, hH, c_impl_isTrue]
  repeat' (first | ((with_reducible first | refine gd_t ?_ ?_ | refine gd_f ?_ ?_) <;> (intro h; have hb := h; (try simp only [nf] at h); simp (disch := omega) only [go_sem, hE, hH, hb]; (try clear hb))) | ((with_reducible refine And.intro ?_ ?_); · omega) | ((first | refine ok_view ?_ | refine cvA (within_ok _ _ _) ?_); simp (disch := omega) only [go_sem, hE, hH]) | (refine jn _ ?_ ?_) | (with_reducible refine both ?_ ?_) | (with_reducible refine And.intro ?_ ?_) | (refine fin_eq ?_; (try (simp (disch := omega) only [go_sem, hE, hH])); first | done | rfl) | (simp (disch := omega) only [go_sem, hE, hH]) | ((first | apply noMLL_sE | apply pk_sE) <;> (simp only [go_sem, hE, hH]; done)) | (simp only [go_sem, hE, hH]) | fail)
theorem areHomes_1_ok (n : Int) : ACall Tryz.prog n_impl_areHomes_1 [i64 n] (fun r _ => r = bl (!rng n 0 2)) := by
  refine fn_in h_impl_areHomes_1 r_impl_areHomes_1 ⟨by simp only [go_sem], fun E hE hH => ?_⟩; simp only [go_sem] at hE hH; simp only [go_sem, hE, hH, c_impl_areHomes_1]
  repeat' (first | ((with_reducible first | refine gd_t ?_ ?_ | refine gd_f ?_ ?_) <;> (intro h; have hb := h; (try simp only [nf] at h); simp (disch := omega) only [go_sem, hE, hH, hb]; (try clear hb))) | ((with_reducible refine And.intro ?_ ?_); · omega) | ((first | refine ok_view ?_ | refine cvA (within_ok _ _ _) ?_); simp (disch := omega) only [go_sem, hE, hH]) | (refine jn _ ?_ ?_) | (with_reducible refine both ?_ ?_) | (with_reducible refine And.intro ?_ ?_) | (refine fin_eq ?_; (try (simp (disch := omega) only [go_sem, hE, hH])); first | done | rfl) | (simp (disch := omega) only [go_sem, hE, hH]) | ((first | apply noMLL_sE | apply pk_sE) <;> (simp only [go_sem, hE, hH]; done)) | (simp only [go_sem, hE, hH]) | fail)
def goodHomes (l : List Int) (far : Int) : Bool := rng (l.length : Int) 1 5 && allR l 0 2 && rng far 0 20
theorem areHomes_ok (l : List Int) (far : Int) (hl : l.length ≤ maxLen) : ACall Tryz.prog n_impl_areHomes [.sl false 1 (ints l), i64 far] (fun r _ => r = bl (goodHomes l far)) := by
  have hmx := mx_eq
  have e := (allR_any l 0 2).symm
  refine fn_in h_impl_areHomes r_impl_areHomes ⟨by simp only [go_sem], fun E hE hH => ?_⟩; simp only [go_sem] at hE hH; simp only [go_sem, hE, hH, c_impl_areHomes]
  repeat' (first | ((with_reducible first | refine gd_t ?_ ?_ | refine gd_f ?_ ?_) <;> (intro h; have hb := h; (try simp only [nf] at h); simp (disch := omega) only [go_sem, hE, hH, hb]; (try clear hb))) | ((with_reducible refine And.intro ?_ ?_); · omega) | ((first | refine ok_view ?_ | refine cvA (within_ok _ _ _) ?_ | refine cvA (ContainsFunc_Int_ok _ _ [] (fun n => !rng n 0 2) (by kernel_rfl) rfl hl (fun n _ => areHomes_1_ok n)) ?_); simp (disch := omega) only [go_sem, hE, hH]) | (refine jn _ ?_ ?_) | (with_reducible refine both ?_ ?_) | (with_reducible refine And.intro ?_ ?_) | (refine fin_eq ?_; (try (simp (disch := omega) only [go_sem, hE, hH])); first | done | rfl) | (simp (disch := omega) only [go_sem, hE, hH]) | ((first | apply noMLL_sE | apply pk_sE) <;> (simp only [go_sem, hE, hH]; done)) | (simp only [go_sem, hE, hH]) | fail)
  all_goals simp_all [goodHomes]
theorem isNode_ok (n : Net) (v : Int) (hm : n.Homes.length ≤ maxLen) : ACall Tryz.prog n_impl_Net_isNode [.agg (Net.row false n), i64 v] (fun r _ => r = bl (rng v 0 ((n.Homes.length : Int) - 1))) := by
  have hmx := mx_eq
  refine fn_in h_impl_Net_isNode r_impl_Net_isNode ⟨by simp only [go_sem], fun E hE hH => ?_⟩; simp only [go_sem] at hE hH; simp only [go_sem, hE, hH, c_impl_Net_isNode]
  repeat' (first | ((with_reducible first | refine gd_t ?_ ?_ | refine gd_f ?_ ?_) <;> (intro h; have hb := h; (try simp only [nf] at h); simp (disch := omega) only [go_sem, hE, hH, hb]; (try clear hb))) | ((with_reducible refine And.intro ?_ ?_); · omega) | ((first | refine ok_view ?_ | refine cvA (within_ok _ _ _) ?_); simp (disch := omega) only [go_sem, hE, hH]) | (refine jn _ ?_ ?_) | (with_reducible refine both ?_ ?_) | (with_reducible refine And.intro ?_ ?_) | (refine fin_eq ?_; (try (simp (disch := omega) only [go_sem, hE, hH])); first | done | rfl) | (simp (disch := omega) only [go_sem, hE, hH]) | ((first | apply noMLL_sE | apply pk_sE) <;> (simp only [go_sem, hE, hH]; done)) | (simp only [go_sem, hE, hH]) | fail)
theorem l7Node_ok (n : Net) (v : Int) (hm : n.Homes.length ≤ maxLen) : ACall Tryz.prog n_spec_l7Node [.agg (Net.row false n), i64 v] (fun r _ => r = bl (rng v 0 ((n.Homes.length : Int) - 1))) := by
  have hmx := mx_eq
  refine fn_in h_spec_l7Node r_spec_l7Node ⟨by simp only [go_sem], fun E hE hH => ?_⟩; simp only [go_sem] at hE hH; simp only [go_sem, hE, hH, c_spec_l7Node]
  repeat' (first | ((with_reducible first | refine gd_t ?_ ?_ | refine gd_f ?_ ?_) <;> (intro h; have hb := h; (try simp only [nf] at h); simp (disch := omega) only [go_sem, hE, hH, hb]; (try clear hb))) | ((with_reducible refine And.intro ?_ ?_); · omega) | ((first | refine ok_view ?_ | refine cvA (l1In_ok _ _ _) ?_); simp (disch := omega) only [go_sem, hE, hH]) | (refine jn _ ?_ ?_) | (with_reducible refine both ?_ ?_) | (with_reducible refine And.intro ?_ ?_) | (refine fin_eq ?_; (try (simp (disch := omega) only [go_sem, hE, hH])); first | done | rfl) | (simp (disch := omega) only [go_sem, hE, hH]) | ((first | apply noMLL_sE | apply pk_sE) <;> (simp only [go_sem, hE, hH]; done)) | (simp only [go_sem, hE, hH]) | fail)
def letOk (m : Nat) (l : Letter) : Bool := rng l.From 0 ((m : Int) - 1) && rng l.To 0 ((m : Int) - 1) && !decide (l.From = l.To) && rng l.Due 0 100200 && rng (l.Body.size : Int) 1 40
def dueOk (l : List Letter) (i : Nat) : Bool := decide (i = 0) || !decide ((nth l i).Due < (nth l (i - 1)).Due)
def lastD (l : List Letter) (j : Nat) : Int := if j = 0 then 0 else (nth l (j - 1)).Due
theorem due_eq {l : List Letter} {j : Nat} (h : 0 ≤ lastD l j) : rng (nth l j).Due (lastD l j) 100200 = (rng (nth l j).Due 0 100200 && dueOk l j) := by
  unfold lastD at h ⊢
  rw [Bool.eq_iff_iff]
  by_cases hj : j = 0
  · simp [hj, dueOk]
  · simp only [if_neg hj] at h ⊢
    simp only [Bool.and_eq_true, rng_iff, dueOk, hj, Bool.or_eq_true, Bool.not_eq_true', decide_eq_false_iff_not, decide_eq_true_eq, false_or]
    omega
def goodNet (n : Net) : Bool := rng n.Now 0 100000 && goodHomes n.Homes n.Far && decide ((n.Under.length : Int) ≤ 60) && allN (fun i => letOk n.Homes.length (nth n.Under i) && dueOk n.Under i) n.Under.length
theorem goodNet_no {n : Net} {j : Nat} (hlt : j < n.Under.length) (h : (letOk n.Homes.length (nth n.Under j) && dueOk n.Under j) = false) : goodNet n = false := by
  rw [goodNet, allN_no hlt h]; simp
theorem isLetter_ok (n : Net) (l : Letter) (hm : n.Homes.length ≤ maxLen) : ACall Tryz.prog n_impl_Net_isLetter [.agg (Net.row false n), .agg (Letter.row false l)] (fun r _ => r = bl (letOk n.Homes.length l)) := by
  have hmx := mx_eq
  refine fn_in h_impl_Net_isLetter r_impl_Net_isLetter ⟨by simp only [go_sem], fun E hE hH => ?_⟩; simp only [go_sem] at hE hH; simp only [go_sem, hE, hH, c_impl_Net_isLetter]
  repeat' (first | ((with_reducible first | refine gd_t ?_ ?_ | refine gd_f ?_ ?_) <;> (intro h; have hb := h; (try simp only [nf] at h); simp (disch := omega) only [go_sem, hE, hH, hb]; (try clear hb))) | ((with_reducible refine And.intro ?_ ?_); · omega) | ((first | refine ok_view ?_ | refine cvA (isNode_ok n _ hm) ?_ | refine cvA (within_ok _ _ _) ?_); simp (disch := omega) only [go_sem, hE, hH]) | (refine jn _ ?_ ?_) | (with_reducible refine both ?_ ?_) | (with_reducible refine And.intro ?_ ?_) | (refine fin_eq ?_; (try (simp (disch := omega) only [go_sem, hE, hH])); first | done | rfl) | (simp (disch := omega) only [go_sem, hE, hH]) | ((first | apply noMLL_sE | apply pk_sE) <;> (simp only [go_sem, hE, hH]; done)) | (simp only [go_sem, hE, hH]) | fail)
  all_goals (first | (simp_all [letOk]; done) | (simp_all [letOk] <;> first | omega | (intros; omega)))
theorem GoodNet_ok (n : Net) (hm : n.Homes.length ≤ maxLen) : ACall Tryz.prog n_impl_GoodNet [.agg (Net.row false n)] (fun r _ => r = bl (goodNet n)) := by
  have hmx := mx_eq
  refine fn_in h_impl_GoodNet r_impl_GoodNet ⟨by simp only [go_sem], fun E hE hH => ?_⟩; simp only [go_sem] at hE hH; simp only [go_sem, hE, hH, c_impl_GoodNet]
  repeat' (first | ((with_reducible first | refine gd_t ?_ ?_ | refine gd_f ?_ ?_) <;> (intro h; have hb := h; (try simp only [nf] at h); simp (disch := omega) only [go_sem, hE, hH, hb]; (try clear hb))) | ((with_reducible refine And.intro ?_ ?_); · omega) | ((first | refine ok_view ?_ | refine cvA (isTrue_ok _) ?_ | refine cvA (areHomes_ok _ _ hm) ?_); simp (disch := omega) only [go_sem, hE, hH]) | (refine jn _ ?_ ?_) | (with_reducible refine both ?_ ?_) | (with_reducible refine And.intro ?_ ?_) | (refine fin_eq ?_; (try (simp (disch := omega) only [go_sem, hE, hH])); first | done | rfl) | (simp (disch := omega) only [go_sem, hE, hH]) | ((first | apply noMLL_sE | apply pk_sE) <;> (simp only [go_sem, hE, hH]; done)) | (simp only [go_sem, hE, hH]) | fail)
  · simp [goodNet, h]
  · simp [goodNet, h]
  · simp_all [goodNet]; intros; omega
  rename_i ha hb
  refine loopN n.Under.length (fun j (_ : Unit) => ⟨[(1, .ptr 2000000 0 0), (24, .sl false 4 (n.Under.map (Letter.row false))), (25, i64 n.Under.length), (26, i64 j)], [(2000000, ⟨4, [Net.row false n]⟩)]⟩) (fun j _ => allN (fun i => letOk n.Homes.length (nth n.Under i) && dueOk n.Under i) j = true) () rfl ?_
  intro j _ hj hI
  try simp only [go_sem, hE, hH, c_impl_GoodNet_l1]
  first | refine gd_t (fun h1 => ?_) (fun h1 => ?_) | refine gd_f (fun h1 => ?_) (fun h1 => ?_)
  · have hb1 := h1
    simp only [nf] at h1
    have hlt := h1; clear h1
    try simp (disch := omega) only [go_sem, hE, hH, hb1]
    repeat' (first | ((with_reducible first | refine gd_t ?_ ?_ | refine gd_f ?_ ?_) <;> (intro h; have hb := h; (try simp only [nf] at h); simp (disch := omega) only [go_sem, hE, hH, hb]; (try clear hb))) | ((with_reducible refine And.intro ?_ ?_); · omega) | ((first | refine ok_view ?_ | refine cvA (isLetter_ok n (nth n.Under j) hm) ?_); simp (disch := omega) only [go_sem, hE, hH]) | (refine jn _ ?_ ?_) | (with_reducible refine both ?_ ?_) | (with_reducible refine And.intro ?_ ?_) | (refine fin_eq ?_; (try (simp (disch := omega) only [go_sem, hE, hH])); first | done | rfl) | (simp (disch := omega) only [go_sem, hE, hH]) | ((first | apply noMLL_sE | apply pk_sE) <;> (simp only [go_sem, hE, hH]; done)) | (simp only [go_sem, hE, hH]) | fail)
    · rw [goodNet_no hlt (by simp [h])]
    · rw [goodNet_no hlt (by simp_all [dueOk]; try omega)]
    · first | exact ⟨(), rfl, allN_step hI (by simp_all [dueOk])⟩ | exact ⟨by omega, (), rfl, allN_step hI (by simp_all [dueOk])⟩ | exact ⟨by omega, by omega, (), rfl, allN_step hI (by simp_all [dueOk])⟩
    · first | exact ⟨(), rfl, allN_step hI (by simp_all [dueOk]; try omega)⟩ | exact ⟨by omega, (), rfl, allN_step hI (by simp_all [dueOk]; try omega)⟩ | exact ⟨by omega, by omega, (), rfl, allN_step hI (by simp_all [dueOk]; try omega)⟩
  · try simp (disch := omega) only [go_sem, hE, hH, h1]
    simp only [nf] at h1
    rw [show j = n.Under.length by omega] at hI
    simp_all [goodNet]
theorem l7Good_ok (n : Net) (hm : n.Homes.length ≤ maxLen) : ACall Tryz.prog n_spec_l7Good [.agg (Net.row false n)] (fun r _ => r = bl (goodNet n)) := by
  have hmx := mx_eq
  refine fn_in h_spec_l7Good r_spec_l7Good ⟨by simp only [go_sem], fun E hE hH => ?_⟩; simp only [go_sem] at hE hH; simp only [go_sem, hE, hH, c_spec_l7Good]
  repeat' (first | ((with_reducible first | refine gd_t ?_ ?_ | refine gd_f ?_ ?_) <;> (intro h; have hb := h; (try simp only [nf] at h); simp (disch := omega) only [go_sem, hE, hH, hb]; (try clear hb))) | ((with_reducible refine And.intro ?_ ?_); · omega) | ((first | refine ok_view ?_ | refine cvA (l1In_ok _ _ _) ?_ | refine cvA (l1All_ok _ _ _ hm) ?_); simp (disch := omega) only [go_sem, hE, hH]) | (refine jn _ ?_ ?_) | (with_reducible refine both ?_ ?_) | (with_reducible refine And.intro ?_ ?_) | (refine fin_eq ?_; (try (simp (disch := omega) only [go_sem, hE, hH])); first | done | rfl) | (simp (disch := omega) only [go_sem, hE, hH]) | ((first | apply noMLL_sE | apply pk_sE) <;> (simp only [go_sem, hE, hH]; done)) | (simp only [go_sem, hE, hH]) | fail)
  · simp [goodNet, h]
  · simp [goodNet, goodHomes, h]
  · simp [goodNet, goodHomes, h]
  · simp [goodNet, goodHomes, h]
  · simp_all [goodNet]; intros; omega
  rename_i ha hb hc hd
  have hg : goodHomes n.Homes n.Far = true := by simp [goodHomes, hb, hc, hd]
  refine loopN n.Under.length (fun j (x : Int) => ⟨[(1, .ptr 2000000 0 0), (3, i64 x), (4, i64 j)], [(2000000, ⟨4, [Net.row false n]⟩)]⟩) (fun j x => allN (fun i => letOk n.Homes.length (nth n.Under i) && dueOk n.Under i) j = true ∧ x = lastD n.Under j ∧ 0 ≤ x) 0 ⟨rfl, rfl, by omega⟩ ?_
  rintro j x hj ⟨hI, rfl, h0⟩
  have he := due_eq h0
  try simp only [go_sem, hE, hH, c_spec_l7Good_l1]
  first | refine gd_t (fun h1 => ?_) (fun h1 => ?_) | refine gd_f (fun h1 => ?_) (fun h1 => ?_)
  · have hb1 := h1
    simp only [nf] at h1
    have hlt := h1; clear h1
    try simp (disch := omega) only [go_sem, hE, hH, hb1]
    repeat' (first | ((with_reducible first | refine gd_t ?_ ?_ | refine gd_f ?_ ?_) <;> (intro h; have hb := h; (try simp only [nf] at h); simp (disch := omega) only [go_sem, hE, hH, hb]; (try clear hb))) | ((with_reducible refine And.intro ?_ ?_); · omega) | ((first | refine ok_view ?_ | refine cvA (l7Node_ok n _ hm) ?_ | refine cvA (l1In_ok _ _ _) ?_); simp (disch := omega) only [go_sem, hE, hH]) | (refine jn _ ?_ ?_) | (with_reducible refine both ?_ ?_) | (with_reducible refine And.intro ?_ ?_) | (refine fin_eq ?_; (try (simp (disch := omega) only [go_sem, hE, hH])); first | done | rfl) | (simp (disch := omega) only [go_sem, hE, hH]) | ((first | apply noMLL_sE | apply pk_sE) <;> (simp only [go_sem, hE, hH]; done)) | (simp only [go_sem, hE, hH]) | fail)
    · rw [goodNet_no hlt (by simp [letOk, h])]
    · rw [goodNet_no hlt (by simp [letOk, h])]
    · rw [goodNet_no hlt (by simp [letOk, h])]
    · rw [goodNet_no hlt (by rw [he] at h; simp_all [letOk])]
    · rw [goodNet_no hlt (by simp [letOk, h])]
    · rename_i hD
      have hD' := rng_iff.1 hD
      rw [he] at hD
      exact ⟨(nth n.Under j).Due, rfl, allN_step hI (by simp_all [letOk]), by simp [lastD], by omega⟩
  · try simp (disch := omega) only [go_sem, hE, hH, h1]
    simp only [nf] at h1
    rw [show j = n.Under.length by omega] at hI
    simp_all [goodNet]
def risR (l : List Int) (lo hi : Int) : Bool := allN (fun i => rng (nth l i) lo hi && (decide (i = 0) || decide (nth l (i - 1) < nth l i))) l.length
theorem areInts_ok (l : List Int) (n : Int) (hl : l.length ≤ maxLen) (h1 : 0 ≤ n) (h2 : n ≤ 2 ^ 62) : ACall Tryz.prog n_impl_areInts [.sl false 1 (ints l), i64 n] (fun r _ => r = bl (risR l 0 (n - 1))) := by
  have hmx := mx_eq
  refine fn_in h_impl_areInts r_impl_areInts ⟨by simp only [go_sem], fun E hE hH => ?_⟩; simp only [go_sem] at hE hH; simp only [go_sem, hE, hH, c_impl_areInts]
  refine loopN l.length (fun j (_ : Unit) => ⟨[(0, .sl false 1 (ints l)), (1, i64 n), (7, .sl false 1 (ints l)), (8, i64 l.length), (9, i64 j)], []⟩) (fun j _ => allN (fun i => rng (nth l i) 0 (n - 1) && (decide (i = 0) || decide (nth l (i - 1) < nth l i))) j = true) () rfl ?_
  intro j _ hj hI
  try simp only [go_sem, hE, hH, c_impl_areInts_l1]
  first | refine gd_t (fun h => ?_) (fun h => ?_) | refine gd_f (fun h => ?_) (fun h => ?_)
  · have hb := h
    simp only [nf] at h
    have hlt := h; clear h
    try simp (disch := omega) only [go_sem, hE, hH, hb]
    repeat' (first | ((with_reducible first | refine gd_t ?_ ?_ | refine gd_f ?_ ?_) <;> (intro h; have hb := h; (try simp only [nf] at h); simp (disch := omega) only [go_sem, hE, hH, hb]; (try clear hb))) | ((with_reducible refine And.intro ?_ ?_); · omega) | ((first | refine ok_view ?_ | refine cvA (within_ok _ _ _) ?_); simp (disch := omega) only [go_sem, hE, hH]) | (refine jn _ ?_ ?_) | (with_reducible refine both ?_ ?_) | (with_reducible refine And.intro ?_ ?_) | (refine fin_eq ?_; (try (simp (disch := omega) only [go_sem, hE, hH])); first | done | rfl) | (simp (disch := omega) only [go_sem, hE, hH]) | ((first | apply noMLL_sE | apply pk_sE) <;> (simp only [go_sem, hE, hH]; done)) | (simp only [go_sem, hE, hH]) | fail)
    · rw [risR, allN_no hlt (by simp [h])]
    · rw [risR, allN_no hlt (by simp_all <;> omega)]
    · first | exact ⟨(), rfl, allN_step hI (by simp_all <;> omega)⟩ | exact ⟨by omega, (), rfl, allN_step hI (by simp_all <;> omega)⟩ | exact ⟨by omega, by omega, (), rfl, allN_step hI (by simp_all <;> omega)⟩
    · first | exact ⟨(), rfl, allN_step hI (by simp_all <;> omega)⟩ | exact ⟨by omega, (), rfl, allN_step hI (by simp_all <;> omega)⟩ | exact ⟨by omega, by omega, (), rfl, allN_step hI (by simp_all <;> omega)⟩
  · try simp (disch := omega) only [go_sem, hE, hH, h]
    simp only [nf] at h
    rw [show j = l.length by omega] at hI
    rw [risR, hI]
theorem l1Rising_ok (l : List Int) (lo hi : Int) (hl : l.length ≤ maxLen) : ACall Tryz.prog n_spec_l1Rising [.sl false 1 (ints l), i64 lo, i64 hi] (fun r _ => r = bl (risR l lo hi)) := by
  have hmx := mx_eq
  refine fn_in h_spec_l1Rising r_spec_l1Rising ⟨by simp only [go_sem], fun E hE hH => ?_⟩; simp only [go_sem] at hE hH; simp only [go_sem, hE, hH, c_spec_l1Rising]
  refine loopN l.length (fun j (_ : Unit) => ⟨[(0, .sl false 1 (ints l)), (1, i64 lo), (2, i64 hi), (9, .sl false 1 (ints l)), (10, i64 l.length), (11, i64 j)], []⟩) (fun j _ => allN (fun i => rng (nth l i) lo hi && (decide (i = 0) || decide (nth l (i - 1) < nth l i))) j = true) () rfl ?_
  intro j _ hj hI
  try simp only [go_sem, hE, hH, c_spec_l1Rising_l1]
  first | refine gd_t (fun h => ?_) (fun h => ?_) | refine gd_f (fun h => ?_) (fun h => ?_)
  · have hb := h
    simp only [nf] at h
    have hlt := h; clear h
    try simp (disch := omega) only [go_sem, hE, hH, hb]
    repeat' (first | ((with_reducible first | refine gd_t ?_ ?_ | refine gd_f ?_ ?_) <;> (intro h; have hb := h; (try simp only [nf] at h); simp (disch := omega) only [go_sem, hE, hH, hb]; (try clear hb))) | ((with_reducible refine And.intro ?_ ?_); · omega) | ((first | refine ok_view ?_ | refine cvA (l1In_ok _ _ _) ?_); simp (disch := omega) only [go_sem, hE, hH]) | (refine jn _ ?_ ?_) | (with_reducible refine both ?_ ?_) | (with_reducible refine And.intro ?_ ?_) | (refine fin_eq ?_; (try (simp (disch := omega) only [go_sem, hE, hH])); first | done | rfl) | (simp (disch := omega) only [go_sem, hE, hH]) | ((first | apply noMLL_sE | apply pk_sE) <;> (simp only [go_sem, hE, hH]; done)) | (simp only [go_sem, hE, hH]) | fail)
    · rw [risR, allN_no hlt (by simp [h])]
    · rw [risR, allN_no hlt (by simp_all <;> omega)]
    · first | exact ⟨(), rfl, allN_step hI (by simp_all <;> omega)⟩ | exact ⟨by omega, (), rfl, allN_step hI (by simp_all <;> omega)⟩ | exact ⟨by omega, by omega, (), rfl, allN_step hI (by simp_all <;> omega)⟩
    · first | exact ⟨(), rfl, allN_step hI (by simp_all <;> omega)⟩ | exact ⟨by omega, (), rfl, allN_step hI (by simp_all <;> omega)⟩ | exact ⟨by omega, by omega, (), rfl, allN_step hI (by simp_all <;> omega)⟩
  · try simp (disch := omega) only [go_sem, hE, hH, h]
    simp only [nf] at h
    rw [show j = l.length by omega] at hI
    rw [risR, hI]
def ownV (x : Voter) (v : Int) : Bool := x.Up && decide (x.For = v)
def voterOk (x : Voter) (v n : Int) : Bool := rng x.Term 0 200 && rng x.For (-1) (n - 1) && risR x.Yes 0 (n - 1) && (ownV x v || decide ((x.Yes.length : Int) = 0)) && (!x.Leads || ownV x v && decide (n < 2 * x.Yes.length))
theorem isVoter_ok (x : Voter) (v n : Int) (hy : x.Yes.length ≤ 2 ^ 60) (h1 : 0 ≤ n) (h2 : n ≤ 2 ^ 62) : ACall Tryz.prog n_impl_isVoter [.agg (Voter.row false x), i64 v, i64 n] (fun r _ => r = bl (voterOk x v n)) := by
  have hmx := mx_eq
  refine fn_in h_impl_isVoter r_impl_isVoter ⟨by simp only [go_sem], fun E hE hH => ?_⟩; simp only [go_sem] at hE hH; simp only [go_sem, hE, hH, c_impl_isVoter]
  repeat' (first | ((with_reducible first | refine gd_t ?_ ?_ | refine gd_f ?_ ?_) <;> (intro h; have hb := h; (try simp only [nf] at h); simp (disch := omega) only [go_sem, hE, hH, hb]; (try clear hb))) | ((with_reducible refine And.intro ?_ ?_); · omega) | ((first | refine ok_view ?_ | refine cvA (within_ok _ _ _) ?_ | refine cvA (areInts_ok _ _ (by omega) h1 h2) ?_); simp (disch := omega) only [go_sem, hE, hH]) | (refine jn _ ?_ ?_) | (with_reducible refine both ?_ ?_) | (with_reducible refine And.intro ?_ ?_) | (refine fin_eq ?_; (try (simp (disch := omega) only [go_sem, hE, hH])); first | done | rfl) | (simp (disch := omega) only [go_sem, hE, hH]) | ((first | apply noMLL_sE | apply pk_sE) <;> (simp only [go_sem, hE, hH]; done)) | (simp only [go_sem, hE, hH]) | fail)
  all_goals (first | (simp_all [voterOk, ownV]; done) | (simp_all [voterOk, ownV] <;> first | omega | (intros; omega)))
theorem l8Voter_ok (x : Voter) (v n : Int) (hy : x.Yes.length ≤ 2 ^ 60) (h1 : 0 ≤ n) (h2 : n ≤ 2 ^ 62) : ACall Tryz.prog n_spec_l8Voter [.agg (Voter.row false x), i64 v, i64 n] (fun r _ => r = bl (voterOk x v n)) := by
  have hmx := mx_eq
  refine fn_in h_spec_l8Voter r_spec_l8Voter ⟨by simp only [go_sem], fun E hE hH => ?_⟩; simp only [go_sem] at hE hH; simp only [go_sem, hE, hH, c_spec_l8Voter]
  repeat' (first | ((with_reducible first | refine gd_t ?_ ?_ | refine gd_f ?_ ?_) <;> (intro h; have hb := h; (try simp only [nf] at h); simp (disch := omega) only [go_sem, hE, hH, hb]; (try clear hb))) | ((with_reducible refine And.intro ?_ ?_); · omega) | ((first | refine ok_view ?_ | refine cvA (l1In_ok _ _ _) ?_ | refine cvA (l1Rising_ok _ _ _ (by omega)) ?_); simp (disch := omega) only [go_sem, hE, hH]) | (refine jn _ ?_ ?_) | (with_reducible refine both ?_ ?_) | (with_reducible refine And.intro ?_ ?_) | (refine fin_eq ?_; (try (simp (disch := omega) only [go_sem, hE, hH])); first | done | rfl) | (simp (disch := omega) only [go_sem, hE, hH]) | ((first | apply noMLL_sE | apply pk_sE) <;> (simp only [go_sem, hE, hH]; done)) | (simp only [go_sem, hE, hH]) | fail)
  all_goals try (simp_all [voterOk, ownV]; done)
  all_goals (simp_all [voterOk, ownV]; intro q; simp_all)
theorem isMany_ok (n : Int) : ACall Tryz.prog n_impl_isMany [i64 n] (fun r _ => r = bl (decide (n = 3) || decide (n = 5))) := by
  refine fn_in h_impl_isMany r_impl_isMany ⟨by simp only [go_sem], fun E hE hH => ?_⟩; simp only [go_sem] at hE hH; simp only [go_sem, hE, hH, c_impl_isMany]
  repeat' (first | ((with_reducible first | refine gd_t ?_ ?_ | refine gd_f ?_ ?_) <;> (intro h; have hb := h; (try simp only [nf] at h); simp (disch := omega) only [go_sem, hE, hH, hb]; (try clear hb))) | ((with_reducible refine And.intro ?_ ?_); · omega) | (refine jn _ ?_ ?_) | (with_reducible refine both ?_ ?_) | (with_reducible refine And.intro ?_ ?_) | (refine fin_eq ?_; (try (simp (disch := omega) only [go_sem, hE, hH])); first | done | rfl) | (simp (disch := omega) only [go_sem, hE, hH]) | ((first | apply noMLL_sE | apply pk_sE) <;> (simp only [go_sem, hE, hH]; done)) | (simp only [go_sem, hE, hH]) | fail)
  all_goals (first | (simp_all []; done) | (simp_all [] <;> first | omega | (intros; omega)))
def wonOk (m : Nat) (w : Won) : Bool := rng w.Term 1 200 && rng w.Who 0 ((m : Int) - 1)
def goodPoll (p : Poll) : Bool := goodNet p.Net && (decide ((p.Net.Homes.length : Int) = 3) || decide ((p.Net.Homes.length : Int) = 5)) && decide ((p.Voters.length : Int) = p.Net.Homes.length) && decide ((p.Won.length : Int) ≤ 60) && allN (fun i => voterOk (nth p.Voters i) i p.Net.Homes.length) p.Voters.length && p.Won.all (wonOk p.Net.Homes.length)
theorem won_no {m : Nat} {l : List Won} {k : Nat} (hlt : k < l.length) (h : wonOk m (nth l k) = false) : l.all (wonOk m) = false := by
  rw [← allN_all]; exact allN_no hlt h
def pollOk (p : Poll) : Prop := p.Net.Homes.length ≤ maxLen ∧ p.Voters.length ≤ maxLen ∧ p.Won.length ≤ maxLen ∧ ∀ x ∈ p.Voters, x.Yes.length ≤ 2 ^ 60
theorem pollOk_of {p : Poll} (h : p.sz ≤ 2 ^ 20) : pollOk p := by
  have hmx := mx_eq
  unfold Poll.sz Net.sz at h
  have h1 := szL_len (f := Voter.sz) (l := p.Voters)
  refine ⟨by omega, by omega, by omega, fun x hx => ?_⟩
  have q := szL_mem (f := Voter.sz) hx
  have e : Voter.sz x = x.Yes.length := rfl
  omega
theorem GoodPoll_1_ok (w : Won) (p : Poll) (hp : pollOk p) : ACall Tryz.prog n_impl_GoodPoll_1 ([.agg (Won.row false w)] ++ [.bx false (Poll.row false p)]) (fun r _ => r = bl (!wonOk p.Net.Homes.length w)) := by
  have hmx := mx_eq
  refine fn_in h_impl_GoodPoll_1 r_impl_GoodPoll_1 ⟨by simp only [go_sem], fun E hE hH => ?_⟩; simp only [go_sem] at hE hH; simp only [go_sem, hE, hH, c_impl_GoodPoll_1]
  repeat' (first | ((with_reducible first | refine gd_t ?_ ?_ | refine gd_f ?_ ?_) <;> (intro h; have hb := h; (try simp only [nf] at h); simp (disch := omega) only [go_sem, hE, hH, hb]; (try clear hb))) | ((with_reducible refine And.intro ?_ ?_); · omega) | ((first | refine ok_view ?_ | refine cvA (within_ok _ _ _) ?_ | refine cvA (isNode_ok p.Net _ hp.1) ?_); simp (disch := omega) only [go_sem, hE, hH]) | (refine jn _ ?_ ?_) | (with_reducible refine both ?_ ?_) | (with_reducible refine And.intro ?_ ?_) | (refine fin_eq ?_; (try (simp (disch := omega) only [go_sem, hE, hH])); first | done | rfl) | (simp (disch := omega) only [go_sem, hE, hH]) | ((first | apply noMLL_sE | apply pk_sE) <;> (simp only [go_sem, hE, hH]; done)) | (simp only [go_sem, hE, hH]) | fail)
  all_goals simp_all [wonOk]
theorem GoodPoll_ok (p : Poll) (hp : pollOk p) : ACall Tryz.prog n_impl_GoodPoll [.agg (Poll.row false p)] (fun r _ => r = bl (goodPoll p)) := by
  have hmx := mx_eq
  obtain ⟨p1, p2, p3, p4⟩ := id hp
  refine fn_in h_impl_GoodPoll r_impl_GoodPoll ⟨by simp only [go_sem], fun E hE hH => ?_⟩; simp only [go_sem] at hE hH; simp only [go_sem, hE, hH, c_impl_GoodPoll]
  repeat' (first | ((with_reducible first | refine gd_t ?_ ?_ | refine gd_f ?_ ?_) <;> (intro h; have hb := h; (try simp only [nf] at h); simp (disch := omega) only [go_sem, hE, hH, hb]; (try clear hb))) | ((with_reducible refine And.intro ?_ ?_); · omega) | ((first | refine ok_view ?_ | refine cvA (GoodNet_ok p.Net p1) ?_ | refine cvA (isMany_ok _) ?_); simp (disch := omega) only [go_sem, hE, hH]) | (refine jn _ ?_ ?_) | (with_reducible refine both ?_ ?_) | (with_reducible refine And.intro ?_ ?_) | (refine fin_eq ?_; (try (simp (disch := omega) only [go_sem, hE, hH])); first | done | rfl) | (simp (disch := omega) only [go_sem, hE, hH]) | ((first | apply noMLL_sE | apply pk_sE) <;> (simp only [go_sem, hE, hH]; done)) | (simp only [go_sem, hE, hH]) | fail)
  · simp [goodPoll, h]
  · simp [goodPoll, h]
  · simp [goodPoll, h]
  · rw [show goodPoll p = false from by simp [goodPoll]; intros; omega]
  rename_i g1 g2 g3
  have g4 := h; clear h
  have e : (p.Won.any fun w => !wonOk p.Net.Homes.length w) = !p.Won.all (wonOk p.Net.Homes.length) := by simp [List.all_eq_not_any_not]
  have hd : goodPoll p = (allN (fun i => voterOk (nth p.Voters i) i p.Net.Homes.length) p.Voters.length && p.Won.all (wonOk p.Net.Homes.length)) := by
    rw [goodPoll, g1, g2, decide_eq_true g3, decide_eq_true g4]; rfl
  have hn : p.Net.Homes.length ≤ 5 := by simp at g2; omega
  rw [hd]
  refine loopN p.Voters.length (fun j (_ : Unit) => ⟨[(1, .ptr 2000000 0 0), (3, i64 p.Net.Homes.length), (33, .sl false 5 (p.Voters.map (Voter.row false))), (34, i64 p.Voters.length), (35, i64 j)], [(2000000, ⟨6, [Poll.row false p]⟩)]⟩) (fun j _ => allN (fun i => voterOk (nth p.Voters i) i p.Net.Homes.length) j = true) () rfl ?_
  intro j _ hj hI
  try simp only [go_sem, hE, hH, c_impl_GoodPoll_l1]
  first | refine gd_t (fun h1 => ?_) (fun h1 => ?_) | refine gd_f (fun h1 => ?_) (fun h1 => ?_)
  · have hb1 := h1
    simp only [nf] at h1
    have hlt := h1; clear h1
    try simp (disch := omega) only [go_sem, hE, hH, hb1]
    repeat' (first | ((with_reducible first | refine gd_t ?_ ?_ | refine gd_f ?_ ?_) <;> (intro h; have hb := h; (try simp only [nf] at h); simp (disch := omega) only [go_sem, hE, hH, hb]; (try clear hb))) | ((with_reducible refine And.intro ?_ ?_); · omega) | ((first | refine ok_view ?_ | refine cvA (isVoter_ok (nth p.Voters j) j _ (p4 _ (nth_mem hlt)) (by omega) (by omega)) ?_); simp (disch := omega) only [go_sem, hE, hH]) | (refine jn _ ?_ ?_) | (with_reducible refine both ?_ ?_) | (with_reducible refine And.intro ?_ ?_) | (refine fin_eq ?_; (try (simp (disch := omega) only [go_sem, hE, hH])); first | done | rfl) | (simp (disch := omega) only [go_sem, hE, hH]) | ((first | apply noMLL_sE | apply pk_sE) <;> (simp only [go_sem, hE, hH]; done)) | (simp only [go_sem, hE, hH]) | fail)
    · rw [allN_no hlt h]; rfl
    · first | exact ⟨(), rfl, allN_step hI h⟩ | exact ⟨by omega, (), rfl, allN_step hI h⟩ | exact ⟨by omega, by omega, (), rfl, allN_step hI h⟩
  · try simp (disch := omega) only [go_sem, hE, hH, h1]
    simp only [nf] at h1
    rw [show j = p.Voters.length by omega] at hI
    rw [hI]
    repeat' (first | ((with_reducible first | refine gd_t ?_ ?_ | refine gd_f ?_ ?_) <;> (intro h; have hb := h; (try simp only [nf] at h); simp (disch := omega) only [go_sem, hE, hH, hb]; (try clear hb))) | ((with_reducible refine And.intro ?_ ?_); · omega) | ((first | refine ok_view ?_ | refine cvA (ContainsFunc_Won_ok p.Won _ [.bx false (Poll.row false p)] (fun w => !wonOk p.Net.Homes.length w) (by kernel_rfl) rfl p3 (fun w _ => GoodPoll_1_ok w p hp)) ?_); simp (disch := omega) only [go_sem, hE, hH]) | (refine jn _ ?_ ?_) | (with_reducible refine both ?_ ?_) | (with_reducible refine And.intro ?_ ?_) | (refine fin_eq ?_; (try (simp (disch := omega) only [go_sem, hE, hH])); first | done | rfl) | (simp (disch := omega) only [go_sem, hE, hH]) | ((first | apply noMLL_sE | apply pk_sE) <;> (simp only [go_sem, hE, hH]; done)) | (simp only [go_sem, hE, hH]) | fail)
    rw [e]; simp
theorem l8Good_ok (p : Poll) (hp : pollOk p) : ACall Tryz.prog n_spec_l8Good [.agg (Poll.row false p)] (fun r _ => r = bl (goodPoll p)) := by
  have hmx := mx_eq
  obtain ⟨p1, p2, p3, p4⟩ := id hp
  refine fn_in h_spec_l8Good r_spec_l8Good ⟨by simp only [go_sem], fun E hE hH => ?_⟩; simp only [go_sem] at hE hH; simp only [go_sem, hE, hH, c_spec_l8Good]
  repeat' (first | ((with_reducible first | refine gd_t ?_ ?_ | refine gd_f ?_ ?_) <;> (intro h; have hb := h; (try simp only [nf] at h); simp (disch := omega) only [go_sem, hE, hH, hb]; (try clear hb))) | ((with_reducible refine And.intro ?_ ?_); · omega) | ((first | refine ok_view ?_ | refine cvA (l7Good_ok p.Net p1) ?_); simp (disch := omega) only [go_sem, hE, hH]) | (refine jn _ ?_ ?_) | (with_reducible refine both ?_ ?_) | (with_reducible refine And.intro ?_ ?_) | (refine fin_eq ?_; (try (simp (disch := omega) only [go_sem, hE, hH])); first | done | rfl) | (simp (disch := omega) only [go_sem, hE, hH]) | ((first | apply noMLL_sE | apply pk_sE) <;> (simp only [go_sem, hE, hH]; done)) | (simp only [go_sem, hE, hH]) | fail)
  · simp [goodPoll, h]
  · rw [show goodPoll p = false from by simp_all [goodPoll]]
  · rw [show goodPoll p = false from by simp [goodPoll, h]]
  · rw [show goodPoll p = false from by simp [goodPoll]; intros; omega]
  · rename_i g1 _ q g3
    have g2 : (decide ((p.Net.Homes.length : Int) = 3) || decide ((p.Net.Homes.length : Int) = 5)) = true := by simp [q]
    have g4 := h; clear h
    have hd : goodPoll p = (allN (fun i => voterOk (nth p.Voters i) i p.Net.Homes.length) p.Voters.length && p.Won.all (wonOk p.Net.Homes.length)) := by
      rw [goodPoll, g1, g2, decide_eq_true g3, decide_eq_true g4]; rfl
    have hn : p.Net.Homes.length ≤ 5 := by simp at g2; omega
    rw [hd]
    refine loopN p.Net.Homes.length (fun j (_ : Unit) => ⟨[(1, .ptr 2000000 0 0), (3, i64 p.Net.Homes.length), (4, i64 j)], [(2000000, ⟨6, [Poll.row false p]⟩)]⟩) (fun j _ => allN (fun i => voterOk (nth p.Voters i) i p.Net.Homes.length) j = true) () rfl ?_
    intro j _ hj hI
    try simp only [go_sem, hE, hH, c_spec_l8Good_l1]
    first | refine gd_t (fun h1 => ?_) (fun h1 => ?_) | refine gd_f (fun h1 => ?_) (fun h1 => ?_)
    · have hb1 := h1
      simp only [nf] at h1
      have hlt : j < p.Voters.length := by omega
      try simp (disch := omega) only [go_sem, hE, hH, hb1]
      repeat' (first | ((with_reducible first | refine gd_t ?_ ?_ | refine gd_f ?_ ?_) <;> (intro h; have hb := h; (try simp only [nf] at h); simp (disch := omega) only [go_sem, hE, hH, hb]; (try clear hb))) | ((with_reducible refine And.intro ?_ ?_); · omega) | ((first | refine ok_view ?_ | refine cvA (l8Voter_ok (nth p.Voters j) j _ (p4 _ (nth_mem hlt)) (by omega) (by omega)) ?_); simp (disch := omega) only [go_sem, hE, hH]) | (refine jn _ ?_ ?_) | (with_reducible refine both ?_ ?_) | (with_reducible refine And.intro ?_ ?_) | (refine fin_eq ?_; (try (simp (disch := omega) only [go_sem, hE, hH])); first | done | rfl) | (simp (disch := omega) only [go_sem, hE, hH]) | ((first | apply noMLL_sE | apply pk_sE) <;> (simp only [go_sem, hE, hH]; done)) | (simp only [go_sem, hE, hH]) | fail)
      · rw [allN_no hlt h]; rfl
      · first | exact ⟨(), rfl, allN_step hI h⟩ | exact ⟨by omega, (), rfl, allN_step hI h⟩ | exact ⟨by omega, by omega, (), rfl, allN_step hI h⟩
    · try simp (disch := omega) only [go_sem, hE, hH, h1]
      simp only [nf] at h1
      rw [show j = p.Voters.length by omega] at hI
      rw [hI]
      refine loopN p.Won.length (fun j (_ : Unit) => ⟨[(1, .ptr 2000000 0 0), (3, i64 p.Net.Homes.length), (5, i64 j)], [(2000000, ⟨6, [Poll.row false p]⟩)]⟩) (fun j _ => allN (fun i => wonOk p.Net.Homes.length (nth p.Won i)) j = true) () rfl ?_
      intro k _ hk hK
      try simp only [go_sem, hE, hH, c_spec_l8Good_l2]
      first | refine gd_t (fun h2 => ?_) (fun h2 => ?_) | refine gd_f (fun h2 => ?_) (fun h2 => ?_)
      · have hb2 := h2
        simp only [nf] at h2
        have hlt2 := h2; clear h2
        try simp (disch := omega) only [go_sem, hE, hH, hb2]
        repeat' (first | ((with_reducible first | refine gd_t ?_ ?_ | refine gd_f ?_ ?_) <;> (intro h; have hb := h; (try simp only [nf] at h); simp (disch := omega) only [go_sem, hE, hH, hb]; (try clear hb))) | ((with_reducible refine And.intro ?_ ?_); · omega) | ((first | refine ok_view ?_ | refine cvA (l1In_ok _ _ _) ?_); simp (disch := omega) only [go_sem, hE, hH]) | (refine jn _ ?_ ?_) | (with_reducible refine both ?_ ?_) | (with_reducible refine And.intro ?_ ?_) | (refine fin_eq ?_; (try (simp (disch := omega) only [go_sem, hE, hH])); first | done | rfl) | (simp (disch := omega) only [go_sem, hE, hH]) | ((first | apply noMLL_sE | apply pk_sE) <;> (simp only [go_sem, hE, hH]; done)) | (simp only [go_sem, hE, hH]) | fail)
        · rw [won_no hlt2 (by simp [wonOk, h])]
        · rw [won_no hlt2 (by simp [wonOk, h])]
        · first | exact ⟨(), rfl, allN_step hK (by simp_all [wonOk])⟩ | exact ⟨by omega, (), rfl, allN_step hK (by simp_all [wonOk])⟩ | exact ⟨by omega, by omega, (), rfl, allN_step hK (by simp_all [wonOk])⟩
      · try simp (disch := omega) only [go_sem, hE, hH, h2]
        simp only [nf] at h2
        rw [show k = p.Won.length by omega, allN_all (p := wonOk p.Net.Homes.length)] at hK
        simp [hK]
  · rw [show goodPoll p = false from by simp [goodPoll, h]]
  · rw [show goodPoll p = false from by simp [goodPoll]; intros; omega]
  · rename_i g1 q g3
    have g2 : (decide ((p.Net.Homes.length : Int) = 3) || decide ((p.Net.Homes.length : Int) = 5)) = true := by simp [q]
    have g4 := h; clear h
    have hd : goodPoll p = (allN (fun i => voterOk (nth p.Voters i) i p.Net.Homes.length) p.Voters.length && p.Won.all (wonOk p.Net.Homes.length)) := by
      rw [goodPoll, g1, g2, decide_eq_true g3, decide_eq_true g4]; rfl
    have hn : p.Net.Homes.length ≤ 5 := by simp at g2; omega
    rw [hd]
    refine loopN p.Net.Homes.length (fun j (_ : Unit) => ⟨[(1, .ptr 2000000 0 0), (3, i64 p.Net.Homes.length), (4, i64 j)], [(2000000, ⟨6, [Poll.row false p]⟩)]⟩) (fun j _ => allN (fun i => voterOk (nth p.Voters i) i p.Net.Homes.length) j = true) () rfl ?_
    intro j _ hj hI
    try simp only [go_sem, hE, hH, c_spec_l8Good_l1]
    first | refine gd_t (fun h1 => ?_) (fun h1 => ?_) | refine gd_f (fun h1 => ?_) (fun h1 => ?_)
    · have hb1 := h1
      simp only [nf] at h1
      have hlt : j < p.Voters.length := by omega
      try simp (disch := omega) only [go_sem, hE, hH, hb1]
      repeat' (first | ((with_reducible first | refine gd_t ?_ ?_ | refine gd_f ?_ ?_) <;> (intro h; have hb := h; (try simp only [nf] at h); simp (disch := omega) only [go_sem, hE, hH, hb]; (try clear hb))) | ((with_reducible refine And.intro ?_ ?_); · omega) | ((first | refine ok_view ?_ | refine cvA (l8Voter_ok (nth p.Voters j) j _ (p4 _ (nth_mem hlt)) (by omega) (by omega)) ?_); simp (disch := omega) only [go_sem, hE, hH]) | (refine jn _ ?_ ?_) | (with_reducible refine both ?_ ?_) | (with_reducible refine And.intro ?_ ?_) | (refine fin_eq ?_; (try (simp (disch := omega) only [go_sem, hE, hH])); first | done | rfl) | (simp (disch := omega) only [go_sem, hE, hH]) | ((first | apply noMLL_sE | apply pk_sE) <;> (simp only [go_sem, hE, hH]; done)) | (simp only [go_sem, hE, hH]) | fail)
      · rw [allN_no hlt h]; rfl
      · first | exact ⟨(), rfl, allN_step hI h⟩ | exact ⟨by omega, (), rfl, allN_step hI h⟩ | exact ⟨by omega, by omega, (), rfl, allN_step hI h⟩
    · try simp (disch := omega) only [go_sem, hE, hH, h1]
      simp only [nf] at h1
      rw [show j = p.Voters.length by omega] at hI
      rw [hI]
      refine loopN p.Won.length (fun j (_ : Unit) => ⟨[(1, .ptr 2000000 0 0), (3, i64 p.Net.Homes.length), (5, i64 j)], [(2000000, ⟨6, [Poll.row false p]⟩)]⟩) (fun j _ => allN (fun i => wonOk p.Net.Homes.length (nth p.Won i)) j = true) () rfl ?_
      intro k _ hk hK
      try simp only [go_sem, hE, hH, c_spec_l8Good_l2]
      first | refine gd_t (fun h2 => ?_) (fun h2 => ?_) | refine gd_f (fun h2 => ?_) (fun h2 => ?_)
      · have hb2 := h2
        simp only [nf] at h2
        have hlt2 := h2; clear h2
        try simp (disch := omega) only [go_sem, hE, hH, hb2]
        repeat' (first | ((with_reducible first | refine gd_t ?_ ?_ | refine gd_f ?_ ?_) <;> (intro h; have hb := h; (try simp only [nf] at h); simp (disch := omega) only [go_sem, hE, hH, hb]; (try clear hb))) | ((with_reducible refine And.intro ?_ ?_); · omega) | ((first | refine ok_view ?_ | refine cvA (l1In_ok _ _ _) ?_); simp (disch := omega) only [go_sem, hE, hH]) | (refine jn _ ?_ ?_) | (with_reducible refine both ?_ ?_) | (with_reducible refine And.intro ?_ ?_) | (refine fin_eq ?_; (try (simp (disch := omega) only [go_sem, hE, hH])); first | done | rfl) | (simp (disch := omega) only [go_sem, hE, hH]) | ((first | apply noMLL_sE | apply pk_sE) <;> (simp only [go_sem, hE, hH]; done)) | (simp only [go_sem, hE, hH]) | fail)
        · rw [won_no hlt2 (by simp [wonOk, h])]
        · rw [won_no hlt2 (by simp [wonOk, h])]
        · first | exact ⟨(), rfl, allN_step hK (by simp_all [wonOk])⟩ | exact ⟨by omega, (), rfl, allN_step hK (by simp_all [wonOk])⟩ | exact ⟨by omega, by omega, (), rfl, allN_step hK (by simp_all [wonOk])⟩
      · try simp (disch := omega) only [go_sem, hE, hH, h2]
        simp only [nf] at h2
        rw [show k = p.Won.length by omega, allN_all (p := wonOk p.Net.Homes.length)] at hK
        simp [hK]
theorem first_at {p : Nat → Bool} : ∀ {n : Nat}, allN (fun i => !p i) n = true ∨ ∃ j, j < n ∧ p j = true ∧ ∀ i, i < j → p i = false
  | 0 => .inl rfl
  | n + 1 => by
    rcases first_at (p := p) (n := n) with h | ⟨j, h1, h2, h3⟩
    · cases hp : p n with
      | false => exact .inl (allN_step h (by simp [hp]))
      | true => exact .inr ⟨n, by omega, hp, fun i hi => by have := allN_iff.1 h i hi; simpa using this⟩
    · exact .inr ⟨j, by omega, h2, h3⟩
def leaderOf (p : Poll) (t : Int) : Int × Bool := if goodPoll p && decide (0 ≤ ixf (fun w : Won => decide (w.Term = t)) p.Won) then ((nth p.Won (ixf (fun w : Won => decide (w.Term = t)) p.Won).toNat).Who, true) else (0, false)
theorem leaderOf_no {p : Poll} {t : Int} (h : goodPoll p = false) : leaderOf p t = (0, false) := by simp [leaderOf, h]
theorem leaderOf_neg {p : Poll} {t : Int} (h : ixf (fun w : Won => decide (w.Term = t)) p.Won < 0) : leaderOf p t = (0, false) := by
  rw [leaderOf, decide_eq_false (by omega)]; simp
theorem leaderOf_pos {p : Poll} {t : Int} (g : goodPoll p = true) (h : 0 ≤ ixf (fun w : Won => decide (w.Term = t)) p.Won) : leaderOf p t = ((nth p.Won (ixf (fun w : Won => decide (w.Term = t)) p.Won).toNat).Who, true) := by
  rw [leaderOf, decide_eq_true h, g]; rfl
theorem leaderOf_at {p : Poll} {t : Int} {j : Nat} (g : goodPoll p = true) (hlt : j < p.Won.length) (hI : allN (fun i => !decide ((nth p.Won i).Term = t)) j = true) (h : (nth p.Won j).Term = t) : leaderOf p t = ((nth p.Won j).Who, true) := by
  have e := ixf_at (p := fun w : Won => decide (w.Term = t)) hlt hI (by simp [h])
  rw [leaderOf_pos g (by omega), e]; rfl
theorem LeaderOf_1_ok (w : Won) (t : Int) : ACall Tryz.prog n_impl_LeaderOf_1 ([.agg (Won.row false w)] ++ [.bx false [i64 t]]) (fun r _ => r = bl (decide (w.Term = t))) := by
  refine fn_in h_impl_LeaderOf_1 r_impl_LeaderOf_1 ⟨by simp only [go_sem], fun E hE hH => ?_⟩; simp only [go_sem] at hE hH; simp only [go_sem, hE, hH, c_impl_LeaderOf_1]
  try simp (disch := omega) only [go_sem, hE, hH]
theorem LeaderOf_ok (p : Poll) (t : Int) (hp : pollOk p) : ACall Tryz.prog n_impl_LeaderOf [.agg (Poll.row false p), i64 t] (fun r _ => r = .tup [i64 (leaderOf p t).1, bl (leaderOf p t).2]) := by
  have hmx := mx_eq
  have h1 := ixf_hi (p := fun w : Won => decide (w.Term = t)) (l := p.Won)
  refine fn_in h_impl_LeaderOf r_impl_LeaderOf ⟨by simp only [go_sem], fun E hE hH => ?_⟩; simp only [go_sem] at hE hH; simp only [go_sem, hE, hH, c_impl_LeaderOf]
  repeat' (first | ((with_reducible first | refine gd_t ?_ ?_ | refine gd_f ?_ ?_) <;> (intro h; have hb := h; (try simp only [nf] at h); simp (disch := omega) only [go_sem, hE, hH, hb]; (try clear hb))) | ((with_reducible refine And.intro ?_ ?_); · omega) | ((first | refine ok_view ?_ | refine cvA (GoodPoll_ok p hp) ?_ | refine cvA (IndexFunc_Won_ok p.Won _ [.bx false [i64 t]] (fun w => decide (w.Term = t)) (by kernel_rfl) rfl hp.2.2.1 (fun w _ => LeaderOf_1_ok w t)) ?_); simp (disch := omega) only [go_sem, hE, hH]) | (refine jn _ ?_ ?_) | (with_reducible refine both ?_ ?_) | (with_reducible refine And.intro ?_ ?_) | (refine fin_eq ?_; (try (simp (disch := omega) only [go_sem, hE, hH])); first | done | rfl) | (simp (disch := omega) only [go_sem, hE, hH]) | ((first | apply noMLL_sE | apply pk_sE) <;> (simp only [go_sem, hE, hH]; done)) | (simp only [go_sem, hE, hH]) | fail)
  · rw [leaderOf_no h]
  · rw [leaderOf_no h]
  · rw [leaderOf_neg h]
  · rw [leaderOf_neg h]
  · rw [leaderOf_pos (by assumption) h]
  · rw [leaderOf_pos (by assumption) h]
def fairAt (l : List Won) (i k : Nat) : Bool := !(decide ((nth l i).Term = (nth l k).Term) && !decide ((nth l i).Who = (nth l k).Who))
def fairAll (l : List Won) : Bool := allN (fun i => allN (fun k => fairAt l i k) i) l.length
def fairL (p : Poll) : Bool := !(p.Won.any fun w => !decide ((leaderOf p w.Term).1 = w.Who))
theorem lead_of {p : Poll} (g : goodPoll p = true) {i : Nat} (hi : i < p.Won.length) : ∃ j, j ≤ i ∧ (nth p.Won j).Term = (nth p.Won i).Term ∧ leaderOf p (nth p.Won i).Term = ((nth p.Won j).Who, true) := by
  rcases first_at (p := fun k => decide ((nth p.Won k).Term = (nth p.Won i).Term)) (n := i + 1) with h | ⟨j, h1, h2, h3⟩
  · have := allN_iff.1 h i (by omega)
    simp at this
  · have h2' : (nth p.Won j).Term = (nth p.Won i).Term := by simpa using h2
    exact ⟨j, by omega, h2', leaderOf_at g (by omega) (allN_iff.2 fun k hk => by simpa using h3 k hk) h2'⟩
theorem fair_eq {p : Poll} (g : goodPoll p = true) : fairAll p.Won = fairL p := by
  rw [Bool.eq_iff_iff]
  unfold fairL
  rw [Bool.not_eq_true', List.any_eq_false]
  constructor
  · intro hA w hw
    obtain ⟨i, hi, rfl⟩ := List.getElem_of_mem hw
    rw [← nth_lt hi]
    obtain ⟨j, hj, ht, he⟩ := lead_of g hi
    rw [he]
    by_cases e : j = i
    · subst e; simp
    · have := allN_iff.1 (allN_iff.1 hA i hi) j (by omega)
      simp only [fairAt, Bool.not_eq_true', Bool.and_eq_false_iff, decide_eq_false_iff_not] at this
      rcases this with h | h
      · exact absurd ht.symm h
      · simp only [Bool.not_eq_false', decide_eq_true_eq] at h
        simp [h]
  · intro hB
    refine allN_iff.2 fun i hi => allN_iff.2 fun k hk => ?_
    have hi' := hB _ (nth_mem hi)
    have hk' := hB _ (nth_mem (show k < p.Won.length by omega))
    have hi' : (leaderOf p (nth p.Won i).Term).1 = (nth p.Won i).Who := by simpa using hi'
    have hk' : (leaderOf p (nth p.Won k).Term).1 = (nth p.Won k).Who := by simpa using hk'
    unfold fairAt
    by_cases e : (nth p.Won i).Term = (nth p.Won k).Term
    · rw [e] at hi'
      simp [← hi', ← hk']
    · simp [e]
theorem IsFair_1_ok (w : Won) (p : Poll) (hp : pollOk p) : ACall Tryz.prog n_impl_IsFair_1 ([.agg (Won.row false w)] ++ [.bx false (Poll.row false p)]) (fun r _ => r = bl (!decide ((leaderOf p w.Term).1 = w.Who))) := by
  refine fn_in h_impl_IsFair_1 r_impl_IsFair_1 ⟨by simp only [go_sem], fun E hE hH => ?_⟩; simp only [go_sem] at hE hH; simp only [go_sem, hE, hH, c_impl_IsFair_1]
  repeat' (first | ((with_reducible first | refine gd_t ?_ ?_ | refine gd_f ?_ ?_) <;> (intro h; have hb := h; (try simp only [nf] at h); simp (disch := omega) only [go_sem, hE, hH, hb]; (try clear hb))) | ((with_reducible refine And.intro ?_ ?_); · omega) | ((first | refine ok_view ?_ | refine cvA (LeaderOf_ok p _ hp) ?_); simp (disch := omega) only [go_sem, hE, hH]) | (refine jn _ ?_ ?_) | (with_reducible refine both ?_ ?_) | (with_reducible refine And.intro ?_ ?_) | (refine fin_eq ?_; (try (simp (disch := omega) only [go_sem, hE, hH])); first | done | rfl) | (simp (disch := omega) only [go_sem, hE, hH]) | ((first | apply noMLL_sE | apply pk_sE) <;> (simp only [go_sem, hE, hH]; done)) | (simp only [go_sem, hE, hH]) | fail)
theorem IsFair_ok (p : Poll) (hp : pollOk p) : ACall Tryz.prog n_impl_IsFair [.agg (Poll.row false p)] (fun r _ => r = bl (goodPoll p && fairL p)) := by
  have hmx := mx_eq
  refine fn_in h_impl_IsFair r_impl_IsFair ⟨by simp only [go_sem], fun E hE hH => ?_⟩; simp only [go_sem] at hE hH; simp only [go_sem, hE, hH, c_impl_IsFair]
  repeat' (first | ((with_reducible first | refine gd_t ?_ ?_ | refine gd_f ?_ ?_) <;> (intro h; have hb := h; (try simp only [nf] at h); simp (disch := omega) only [go_sem, hE, hH, hb]; (try clear hb))) | ((with_reducible refine And.intro ?_ ?_); · omega) | ((first | refine ok_view ?_ | refine cvA (GoodPoll_ok p hp) ?_ | refine cvA (ContainsFunc_Won_ok p.Won _ [.bx false (Poll.row false p)] (fun w => !decide ((leaderOf p w.Term).1 = w.Who)) (by kernel_rfl) rfl hp.2.2.1 (fun w _ => IsFair_1_ok w p hp)) ?_); simp (disch := omega) only [go_sem, hE, hH]) | (refine jn _ ?_ ?_) | (with_reducible refine both ?_ ?_) | (with_reducible refine And.intro ?_ ?_) | (refine fin_eq ?_; (try (simp (disch := omega) only [go_sem, hE, hH])); first | done | rfl) | (simp (disch := omega) only [go_sem, hE, hH]) | ((first | apply noMLL_sE | apply pk_sE) <;> (simp only [go_sem, hE, hH]; done)) | (simp only [go_sem, hE, hH]) | fail)
  all_goals simp_all [fairL]
theorem copyNet_ok (n : Net) (h1 : n.Homes.length ≤ 2 ^ 20) (h2 : n.Under.length ≤ 2 ^ 20) : ACall Tryz.prog n_impl_copyNet [.agg (Net.row false n)] (fun r _ => r = .agg (Net.row true n)) := by
  refine fn_in h_impl_copyNet r_impl_copyNet ⟨by simp only [go_sem], fun E hE hH => ?_⟩; simp only [go_sem] at hE hH; simp only [go_sem, hE, hH, c_impl_copyNet]
  repeat' (first | ((with_reducible first | refine gd_t ?_ ?_ | refine gd_f ?_ ?_) <;> (intro h; have hb := h; (try simp only [nf] at h); simp (disch := omega) only [go_sem, hE, hH, hb]; (try clear hb))) | ((with_reducible refine And.intro ?_ ?_); · omega) | ((first | refine ok_view ?_ | refine cvA (Clone_Int_ok _ h1) ?_ | refine cvA (Clone_Letter_ok _ h2) ?_); simp (disch := omega) only [go_sem, hE, hH]) | (refine jn _ ?_ ?_) | (with_reducible refine both ?_ ?_) | (with_reducible refine And.intro ?_ ?_) | (refine fin_eq ?_; (try (simp (disch := omega) only [go_sem, hE, hH])); first | done | rfl) | (simp (disch := omega) only [go_sem, hE, hH]) | ((first | apply noMLL_sE | apply pk_sE) <;> (simp only [go_sem, hE, hH]; done)) | (simp only [go_sem, hE, hH]) | fail)
  all_goals rfl
theorem l7OwnL_ok (l : List Letter) (hl : l.length ≤ 2 ^ 20) : ACall Tryz.prog n_spec_l7OwnL [.sl false 4 (l.map (Letter.row false))] (fun r _ => r = .sl true 4 (l.map (Letter.row true))) := by
  refine fn_in h_spec_l7OwnL r_spec_l7OwnL ⟨by simp only [go_sem], fun E hE hH => ?_⟩; simp only [go_sem] at hE hH; simp only [go_sem, hE, hH, c_spec_l7OwnL]
  try simp (disch := omega) only [go_sem, hE, hH]
  exact ⟨by omega, rfl⟩
theorem l7Own_ok (n : Net) (l : List Letter) (h1 : n.Homes.length ≤ 2 ^ 20) (h2 : l.length ≤ 2 ^ 20) : ACall Tryz.prog n_spec_l7Own [.agg (Net.row false n), .sl false 4 (l.map (Letter.row false))] (fun r _ => r = .agg (Net.row true ⟨n.Now, n.Homes, n.Far, l⟩)) := by
  refine fn_in h_spec_l7Own r_spec_l7Own ⟨by simp only [go_sem], fun E hE hH => ?_⟩; simp only [go_sem] at hE hH; simp only [go_sem, hE, hH, c_spec_l7Own]
  repeat' (first | ((with_reducible first | refine gd_t ?_ ?_ | refine gd_f ?_ ?_) <;> (intro h; have hb := h; (try simp only [nf] at h); simp (disch := omega) only [go_sem, hE, hH, hb]; (try clear hb))) | ((with_reducible refine And.intro ?_ ?_); · omega) | ((first | refine ok_view ?_ | refine cvA (l1Own_ok _ h1) ?_ | refine cvA (l7OwnL_ok l h2) ?_); simp (disch := omega) only [go_sem, hE, hH]) | (refine jn _ ?_ ?_) | (with_reducible refine both ?_ ?_) | (with_reducible refine And.intro ?_ ?_) | (refine fin_eq ?_; (try (simp (disch := omega) only [go_sem, hE, hH])); first | done | rfl) | (simp (disch := omega) only [go_sem, hE, hH]) | ((first | apply noMLL_sE | apply pk_sE) <;> (simp only [go_sem, hE, hH]; done)) | (simp only [go_sem, hE, hH]) | fail)
theorem goodNet_len {n : Net} (h : goodNet n = true) : n.Homes.length ≤ 5 ∧ n.Under.length ≤ 60 := by
  simp only [goodNet, goodHomes, Bool.and_eq_true, rng_iff, decide_eq_true_eq] at h
  omega
def cutD (n : Net) : Nat := if ixf (fun l : Letter => decide (n.Now < l.Due)) n.Under < 0 then n.Under.length else (ixf (fun l : Letter => decide (n.Now < l.Due)) n.Under).toNat
def leftN (n : Net) (k : Nat) : Net := ⟨n.Now, n.Homes, n.Far, n.Under.drop k⟩
def deliverN (n : Net) : Net × List Letter × Bool := if goodNet n then (leftN n (cutD n), n.Under.take (cutD n), true) else (⟨0, [], 0, []⟩, [], false)
theorem cutD_at {n : Net} {j : Nat} (hlt : j < n.Under.length) (hI : allN (fun i => !decide (n.Now < (nth n.Under i).Due)) j = true) (h : n.Now < (nth n.Under j).Due) : cutD n = j := by
  have e := ixf_at (p := fun l : Letter => decide (n.Now < l.Due)) hlt hI (by simpa using h)
  rw [cutD, e, if_neg (by omega)]; rfl
theorem cutD_end {n : Net} (hI : allN (fun i => !decide (n.Now < (nth n.Under i).Due)) n.Under.length = true) : cutD n = n.Under.length := by
  have e := ixf_none (p := fun l : Letter => decide (n.Now < l.Due)) hI
  rw [cutD, e, if_pos (by omega)]
theorem take_drop_all {α : Type} {l : List α} {k : Nat} : (l.drop k).take (l.length - k) = l.drop k := List.take_of_length_le (by simp)
theorem cutD_neg {n : Net} (h : ixf (fun l : Letter => decide (n.Now < l.Due)) n.Under < 0) : cutD n = n.Under.length := if_pos h
theorem cutD_pos {n : Net} (h : 0 ≤ ixf (fun l : Letter => decide (n.Now < l.Due)) n.Under) : cutD n = (ixf (fun l : Letter => decide (n.Now < l.Due)) n.Under).toNat := if_neg (by omega)
theorem delivered_1_ok (l : Letter) (n : Net) : ACall Tryz.prog n_impl_Net_delivered_1 ([.agg (Letter.row false l)] ++ [.bx false (Net.row false n)]) (fun r _ => r = bl (decide (n.Now < l.Due))) := by
  refine fn_in h_impl_Net_delivered_1 r_impl_Net_delivered_1 ⟨by simp only [go_sem], fun E hE hH => ?_⟩; simp only [go_sem] at hE hH; simp only [go_sem, hE, hH, c_impl_Net_delivered_1]
  try simp (disch := omega) only [go_sem, hE, hH]
  try rfl
theorem delivered_ok (n : Net) (h1 : n.Homes.length ≤ 2 ^ 20) (h2 : n.Under.length ≤ 2 ^ 20) : ACall Tryz.prog n_impl_Net_delivered [.agg (Net.row false n)] (fun r _ => r = .tup [.agg (Net.row true (leftN n (cutD n))), .sl true 4 ((n.Under.take (cutD n)).map (Letter.row true))]) := by
  have hmx := mx_eq
  have hi := ixf_hi (p := fun l : Letter => decide (n.Now < l.Due)) (l := n.Under)
  refine fn_in h_impl_Net_delivered r_impl_Net_delivered ⟨by simp only [go_sem], fun E hE hH => ?_⟩; simp only [go_sem] at hE hH; simp only [go_sem, hE, hH, c_impl_Net_delivered]
  repeat' (first | ((with_reducible first | refine gd_t ?_ ?_ | refine gd_f ?_ ?_) <;> (intro h; have hb := h; (try simp only [nf] at h); simp (disch := omega) only [go_sem, hE, hH, hb]; (try clear hb))) | ((with_reducible refine And.intro ?_ ?_); · omega) | ((first | refine ok_view ?_ | refine cvA (IndexFunc_Letter_ok n.Under _ [.bx false (Net.row false n)] (fun l => decide (n.Now < l.Due)) (by kernel_rfl) rfl (by omega) (fun l _ => delivered_1_ok l n)) ?_ | refine cvA (copyNet_ok n h1 h2) ?_ | refine cvA (Clone_Letter_ok _ (by simp <;> omega)) ?_); simp (disch := omega) only [go_sem, hE, hH]) | (refine jn _ ?_ ?_) | (with_reducible refine both ?_ ?_) | (with_reducible refine And.intro ?_ ?_) | (refine fin_eq ?_; (try (simp (disch := omega) only [go_sem, hE, hH])); first | done | rfl) | (simp (disch := omega) only [go_sem, hE, hH]) | ((first | apply noMLL_sE | apply pk_sE) <;> (simp only [go_sem, hE, hH]; done)) | (simp only [go_sem, hE, hH]) | fail)
  all_goals try omega
  all_goals first | rfl | (rw [cutD_neg h, take_drop_all]; rfl) | (rw [cutD_neg h, List.take_length]; rfl) | (rw [cutD_pos h, take_drop_all]; rfl) | (rw [cutD_pos h]; rfl)
theorem sDeliver_ok (n : Net) (hm : n.Homes.length ≤ maxLen) : ACall Tryz.prog n_spec_Deliver [.agg (Net.row false n)] (fun r _ => r = .tup [.agg (Net.row true (deliverN n).1), .sl true 4 ((deliverN n).2.1.map (Letter.row true)), bl (deliverN n).2.2]) := by
  have hmx := mx_eq
  refine fn_in h_spec_Deliver r_spec_Deliver ⟨by simp only [go_sem], fun E hE hH => ?_⟩; simp only [go_sem] at hE hH; simp only [go_sem, hE, hH, c_spec_Deliver]
  repeat' (first | ((with_reducible first | refine gd_t ?_ ?_ | refine gd_f ?_ ?_) <;> (intro h; have hb := h; (try simp only [nf] at h); simp (disch := omega) only [go_sem, hE, hH, hb]; (try clear hb))) | ((with_reducible refine And.intro ?_ ?_); · omega) | ((first | refine ok_view ?_ | refine cvA (l7Good_ok n hm) ?_); simp (disch := omega) only [go_sem, hE, hH]) | (refine jn _ ?_ ?_) | (with_reducible refine both ?_ ?_) | (with_reducible refine And.intro ?_ ?_) | (refine fin_eq ?_; (try (simp (disch := omega) only [go_sem, hE, hH])); first | done | rfl) | (simp (disch := omega) only [go_sem, hE, hH]) | ((first | apply noMLL_sE | apply pk_sE) <;> (simp only [go_sem, hE, hH]; done)) | (simp only [go_sem, hE, hH]) | fail)
  all_goals try (simp only [deliverN, h]; first | rfl | done)
  obtain ⟨g1, g2⟩ := goodNet_len h
  have hg := h; clear h
  refine loopN n.Under.length (fun j (_ : Unit) => ⟨[(1, .ptr 2000000 0 0), (2, .ptr 3000000 0 0), (5, i64 j)], [(2000000, ⟨4, [Net.row false n]⟩), (3000000, ⟨4, [[i64 0, nils, i64 0, nils]]⟩)]⟩) (fun j _ => allN (fun i => !decide (n.Now < (nth n.Under i).Due)) j = true) () rfl ?_
  intro j _ hj hI
  try simp only [go_sem, hE, hH, c_spec_Deliver_l1]
  repeat' (first | ((with_reducible first | refine gd_t ?_ ?_ | refine gd_f ?_ ?_) <;> (intro h; have hb := h; (try simp only [nf] at h); simp (disch := omega) only [go_sem, hE, hH, hb]; (try clear hb))) | ((with_reducible refine And.intro ?_ ?_); · omega) | ((first | refine ok_view ?_ | refine cvA (l7Own_ok n _ (by omega) (by simp <;> omega)) ?_ | refine cvA (l7OwnL_ok _ (by simp <;> omega)) ?_); simp (disch := omega) only [go_sem, hE, hH]) | (refine jn _ ?_ ?_) | (with_reducible refine both ?_ ?_) | (with_reducible refine And.intro ?_ ?_) | (refine fin_eq ?_; (try (simp (disch := omega) only [go_sem, hE, hH])); first | done | rfl) | (simp (disch := omega) only [go_sem, hE, hH]) | ((first | apply noMLL_sE | apply pk_sE) <;> (simp only [go_sem, hE, hH]; done)) | (simp only [go_sem, hE, hH]) | fail)
  · first | exact ⟨(), rfl, allN_step hI (by simp; omega)⟩ | exact ⟨by omega, (), rfl, allN_step hI (by simp; omega)⟩ | exact ⟨by omega, by omega, (), rfl, allN_step hI (by simp; omega)⟩
  all_goals (have hc : cutD n = j := by first | exact cutD_at (by assumption) hI h | (rw [cutD_end (by rw [show n.Under.length = j by omega]; exact hI)]; omega))
  all_goals (have hd : deliverN n = (leftN n (cutD n), n.Under.take (cutD n), true) := if_pos hg)
  all_goals (rw [hd, hc])
  all_goals first | rfl | (rw [take_drop_all]; rfl)
theorem isVoterOf_ok (p : Poll) (v : Int) (hp : pollOk p) : ACall Tryz.prog n_impl_isVoterOf [.agg (Poll.row false p), i64 v] (fun r _ => r = bl (goodPoll p && rng v 0 ((p.Net.Homes.length : Int) - 1))) := by
  refine fn_in h_impl_isVoterOf r_impl_isVoterOf ⟨by simp only [go_sem], fun E hE hH => ?_⟩; simp only [go_sem] at hE hH; simp only [go_sem, hE, hH, c_impl_isVoterOf]
  repeat' (first | ((with_reducible first | refine gd_t ?_ ?_ | refine gd_f ?_ ?_) <;> (intro h; have hb := h; (try simp only [nf] at h); simp (disch := omega) only [go_sem, hE, hH, hb]; (try clear hb))) | ((with_reducible refine And.intro ?_ ?_); · omega) | ((first | refine ok_view ?_ | refine cvA (GoodPoll_ok p hp) ?_ | refine cvA (isNode_ok p.Net v hp.1) ?_); simp (disch := omega) only [go_sem, hE, hH]) | (refine jn _ ?_ ?_) | (with_reducible refine both ?_ ?_) | (with_reducible refine And.intro ?_ ?_) | (refine fin_eq ?_; (try (simp (disch := omega) only [go_sem, hE, hH])); first | done | rfl) | (simp (disch := omega) only [go_sem, hE, hH]) | ((first | apply noMLL_sE | apply pk_sE) <;> (simp only [go_sem, hE, hH]; done)) | (simp only [go_sem, hE, hH]) | fail)
  all_goals simp_all
theorem l8Has_ok (p : Poll) (v : Int) (hp : pollOk p) : ACall Tryz.prog n_spec_l8Has [.agg (Poll.row false p), i64 v] (fun r _ => r = bl (goodPoll p && rng v 0 ((p.Voters.length : Int) - 1))) := by
  have hmx := mx_eq
  have h2 := hp.2.1
  refine fn_in h_spec_l8Has r_spec_l8Has ⟨by simp only [go_sem], fun E hE hH => ?_⟩; simp only [go_sem] at hE hH; simp only [go_sem, hE, hH, c_spec_l8Has]
  repeat' (first | ((with_reducible first | refine gd_t ?_ ?_ | refine gd_f ?_ ?_) <;> (intro h; have hb := h; (try simp only [nf] at h); simp (disch := omega) only [go_sem, hE, hH, hb]; (try clear hb))) | ((with_reducible refine And.intro ?_ ?_); · omega) | ((first | refine ok_view ?_ | refine cvA (l8Good_ok p hp) ?_ | refine cvA (l1In_ok _ _ _) ?_); simp (disch := omega) only [go_sem, hE, hH]) | (refine jn _ ?_ ?_) | (with_reducible refine both ?_ ?_) | (with_reducible refine And.intro ?_ ?_) | (refine fin_eq ?_; (try (simp (disch := omega) only [go_sem, hE, hH])); first | done | rfl) | (simp (disch := omega) only [go_sem, hE, hH]) | ((first | apply noMLL_sE | apply pk_sE) <;> (simp only [go_sem, hE, hH]; done)) | (simp only [go_sem, hE, hH]) | fail)
  all_goals simp_all
set_option maxHeartbeats 2000000 in
theorem copyPoll_ok (p : Poll) (h1 : p.Net.Homes.length ≤ 2 ^ 20) (h2 : p.Net.Under.length ≤ 2 ^ 20) (h3 : p.Voters.length ≤ 2 ^ 20) (h4 : p.Won.length ≤ 2 ^ 20) (h5 : ∀ x ∈ p.Voters, x.Yes.length ≤ 2 ^ 20) : ACall Tryz.prog n_impl_copyPoll [.agg (Poll.row false p)] (fun r _ => r = .agg (Poll.row true p)) := by
  have hmx := mx_eq
  refine fn_in h_impl_copyPoll r_impl_copyPoll ⟨by simp only [go_sem], fun E hE hH => ?_⟩; simp only [go_sem] at hE hH; simp only [go_sem, hE, hH, c_impl_copyPoll]
  repeat' (first | ((with_reducible first | refine gd_t ?_ ?_ | refine gd_f ?_ ?_) <;> (intro h; have hb := h; (try simp only [nf] at h); simp (disch := omega) only [go_sem, hE, hH, hb]; (try clear hb))) | ((with_reducible refine And.intro ?_ ?_); · omega) | ((first | refine ok_view ?_ | refine cvA (Clone_Voter_ok _ h3) ?_ | refine cvA (copyNet_ok p.Net h1 h2) ?_ | refine cvA (Clone_Won_ok _ h4) ?_); simp (disch := omega) only [go_sem, hE, hH]) | (with_reducible apply jn) | (with_reducible apply both) | (with_reducible refine And.intro ?_ ?_) | ((with_reducible apply fin_eq); (try (simp (disch := omega) only [go_sem, hE, hH])); first | done | rfl) | (simp (disch := omega) only [go_sem, hE, hH]) | ((first | apply noMLL_sE | apply pk_sE) <;> (simp only [go_sem, hE, hH]; done)) | (simp only [go_sem, hE, hH]) | fail)
  refine loopNe p.Voters.length (fun j (_ : Unit) => ⟨[(2, .ptr 3000000 0 0), (3, .ptr 4000000 0 0), (17, i64 p.Voters.length), (18, i64 j)], [(3000000, ⟨6, [[nils, i64 0, nils, i64 0, nils, nils]]⟩), (4000000, ⟨6, [[.ref 4000001 0 p.Voters.length, i64 p.Net.Now, .ref 4000003 0 p.Net.Homes.length, i64 p.Net.Far, .ref 4000005 0 p.Net.Under.length, .ref 4000006 0 p.Won.length]]⟩), (4000001, ⟨5, cp2 (Voter.row true) (Voter.row false) p.Voters j⟩), (4000003, ⟨1, ints p.Net.Homes⟩), (4000005, ⟨4, p.Net.Under.map (Letter.row true)⟩), (4000006, ⟨2, p.Won.map (Won.row true)⟩)]⟩) (fun _ _ => True) () (by rw [cp2_zero]; rfl) trivial ?_
  intro j _ hj _
  try simp only [go_sem, hE, hH, c_impl_copyPoll_l1]
  first | refine gd_t (fun h => ?_) (fun h => ?_) | refine gd_f (fun h => ?_) (fun h => ?_)
  · have hb := h
    simp only [nf] at h
    have hlt := h; clear h
    have hg := cp2_get (f := Voter.row true) (g := Voter.row false) hlt
    have hn := cp2_len (f := Voter.row true) (g := Voter.row false) (l := p.Voters) (j := j)
    have hy := h5 _ (nth_mem hlt)
    have hs := fun r => cp2_gs (f := Voter.row true) (g := Voter.row false) (k := j) hlt (r := r)
    simp only [Voter.row_eq] at hg
    try simp (disch := omega) only [go_sem, hE, hH, hg, hn, hs, hb]
    refine ⟨by omega, by first | exact hlt | omega, ?_⟩
    repeat' (first | ((with_reducible first | refine gd_t ?_ ?_ | refine gd_f ?_ ?_) <;> (intro h; have hb := h; (try simp only [nf] at h); simp (disch := omega) only [go_sem, hE, hH, hg, hn, hs, hb]; (try clear hb))) | ((with_reducible refine And.intro ?_ ?_); · omega) | ((first | refine ok_view ?_ | refine cvA (Clone_Int_ok _ hy) ?_); simp (disch := omega) only [go_sem, hE, hH, hg, hn, hs]) | (refine jn _ ?_ ?_) | (with_reducible refine both ?_ ?_) | (with_reducible refine And.intro ?_ ?_) | (refine fin_eq ?_; (try (simp (disch := omega) only [go_sem, hE, hH, hg, hn, hs])); first | done | rfl) | (simp (disch := omega) only [go_sem, hE, hH, hg, hn, hs]) | ((first | apply noMLL_sE | apply pk_sE) <;> (simp only [go_sem, hE, hH, hg, hn, hs]; done)) | (simp only [go_sem, hE, hH, hg, hn, hs]) | fail)
    repeat' (first | (refine both ?_ ?_) | omega | ((first | apply noMLL_sE | apply pk_sE) <;> (simp only [go_sem, hE, hH, hg, hn, hs]; done)) | fail)
    all_goals try exact cp2_noM (fun x => by simp only [go_sem]) (fun x => by simp only [go_sem])
    refine ⟨(), ?_⟩
    rw [← cp2_set (f := Voter.row true) (g := Voter.row false) hlt rfl]
    rfl
  · try simp (disch := omega) only [go_sem, hE, hH, h]
    simp only [nf] at h
    rw [cp2_end (show j = p.Voters.length by omega)]
    try simp (disch := omega) only [go_sem, hE, hH]
set_option maxHeartbeats 2000000 in
theorem l8Own_ok (p : Poll) (h1 : p.Net.Homes.length ≤ 2 ^ 20) (h2 : p.Net.Under.length ≤ 2 ^ 20) (h3 : p.Voters.length ≤ 2 ^ 20) (h4 : p.Won.length ≤ 2 ^ 20) (h5 : ∀ x ∈ p.Voters, x.Yes.length ≤ 2 ^ 20) : ACall Tryz.prog n_spec_l8Own [.agg (Poll.row false p)] (fun r _ => r = .agg (Poll.row true p)) := by
  have hmx := mx_eq
  refine fn_in h_spec_l8Own r_spec_l8Own ⟨by simp only [go_sem], fun E hE hH => ?_⟩; simp only [go_sem] at hE hH; simp only [go_sem, hE, hH, c_spec_l8Own]
  repeat' (first | ((with_reducible first | refine gd_t ?_ ?_ | refine gd_f ?_ ?_) <;> (intro h; have hb := h; (try simp only [nf] at h); simp (disch := omega) only [go_sem, hE, hH, hb]; (try clear hb))) | ((with_reducible refine And.intro ?_ ?_); · omega) | ((first | refine ok_view ?_ | refine cvA (l7Own_ok p.Net _ h1 h2) ?_); simp (disch := omega) only [go_sem, hE, hH]) | (with_reducible apply jn) | (with_reducible apply both) | (with_reducible refine And.intro ?_ ?_) | ((with_reducible apply fin_eq); (try (simp (disch := omega) only [go_sem, hE, hH])); first | done | rfl) | (simp (disch := omega) only [go_sem, hE, hH]) | ((first | apply noMLL_sE | apply pk_sE) <;> (simp only [go_sem, hE, hH]; done)) | (simp only [go_sem, hE, hH]) | fail)
  refine loopNe p.Voters.length (fun j (_ : Unit) => ⟨[(1, .ptr 2000000 0 0), (2, .ptr 3000000 0 0), (3, .ptr 4000000 0 0), (4, i64 j)], [(2000000, ⟨6, [Poll.row false p]⟩), (3000000, ⟨6, [[nils, i64 0, nils, i64 0, nils, nils]]⟩), (4000000, ⟨6, [[.ref 4000001 0 j, i64 p.Net.Now, .ref 4000003 0 p.Net.Homes.length, i64 p.Net.Far, .ref 4000005 0 p.Net.Under.length, .ref 4000006 0 p.Won.length]]⟩), (4000001, ⟨5, (p.Voters.take j).map (Voter.row true)⟩), (4000003, ⟨1, ints p.Net.Homes⟩), (4000005, ⟨4, p.Net.Under.map (Letter.row true)⟩), (4000006, ⟨2, p.Won.map (Won.row true)⟩)]⟩) (fun _ _ => True) () rfl trivial ?_
  intro j _ hj _
  try simp only [go_sem, hE, hH, c_spec_l8Own_l1]
  first | refine gd_t (fun h => ?_) (fun h => ?_) | refine gd_f (fun h => ?_) (fun h => ?_)
  · have hb := h
    simp only [nf] at h
    have hlt := h; clear h
    have hy := h5 _ (nth_mem hlt)
    have hn : (p.Voters.take j).length = j := by simp; omega
    have ht : (p.Voters.take j).take j = p.Voters.take j := by rw [List.take_take, Nat.min_self]
    try simp (disch := omega) only [go_sem, hE, hH, hn, hb]
    repeat' (first | ((with_reducible first | refine gd_t ?_ ?_ | refine gd_f ?_ ?_) <;> (intro h; have hb := h; (try simp only [nf] at h); simp (disch := omega) only [go_sem, hE, hH, hn, hb]; (try clear hb))) | ((with_reducible refine And.intro ?_ ?_); · omega) | ((first | refine ok_view ?_ | refine cvA (l1Own_ok _ hy) ?_); simp (disch := omega) only [go_sem, hE, hH, hn]) | (refine jn _ ?_ ?_) | (with_reducible refine both ?_ ?_) | (with_reducible refine And.intro ?_ ?_) | (refine fin_eq ?_; (try (simp (disch := omega) only [go_sem, hE, hH, hn])); first | done | rfl) | (simp (disch := omega) only [go_sem, hE, hH, hn]) | ((first | apply noMLL_sE | apply pk_sE) <;> (simp only [go_sem, hE, hH, hn]; done)) | (simp only [go_sem, hE, hH, hn]) | fail)
    repeat' (first | (refine both ?_ ?_) | omega | ((first | apply noMLL_sE | apply pk_sE) <;> (simp only [go_sem, hE, hH, hn]; done)) | fail)
    all_goals try simp only [ht, hn]
    all_goals try first | omega | exact Nat.le_trans (Nat.mul_le_mul_right _ (show j + 1 ≤ 2 ^ 20 + 1 by omega)) (by decide)
    all_goals (
      refine ⟨(), ?_⟩
      rw [take_nth hlt, List.map_append]
      rfl)
  · try simp (disch := omega) only [go_sem, hE, hH, h]
    simp only [nf] at h
    rw [show j = p.Voters.length by omega, List.take_length]
    try simp (disch := omega) only [go_sem, hE, hH]
def pollSm (p : Poll) : Prop := p.Net.Homes.length ≤ 2 ^ 20 ∧ p.Net.Under.length ≤ 2 ^ 20 ∧ p.Voters.length ≤ 2 ^ 20 ∧ p.Won.length ≤ 2 ^ 20 ∧ ∀ x ∈ p.Voters, x.Yes.length ≤ 2 ^ 20
theorem pollSm_of {p : Poll} (h : p.sz ≤ 2 ^ 20) : pollSm p := by
  unfold Poll.sz Net.sz at h
  have h1 := szL_len (f := Voter.sz) (l := p.Voters)
  have h2 := szL_len (f := Letter.sz) (l := p.Net.Under)
  refine ⟨by omega, by omega, by omega, by omega, fun x hx => ?_⟩
  have q := szL_mem (f := Voter.sz) hx
  have e : Voter.sz x = x.Yes.length := rfl
  omega
theorem goodPoll_vl {p : Poll} (h : goodPoll p = true) : p.Voters.length = p.Net.Homes.length := by
  simp only [goodPoll, Bool.and_eq_true, decide_eq_true_eq] at h
  omega
def fellV (x : Voter) : Voter := ⟨!x.Up, x.Term, x.For, [], false⟩
def fallC (p : Poll) (v : Int) : Bool := goodPoll p && rng v 0 ((p.Voters.length : Int) - 1)
def fallV (p : Poll) (v : Int) : Poll × Bool := if fallC p v then (⟨p.Voters.set v.toNat (fellV (nth p.Voters v.toNat)), p.Net, p.Won⟩, true) else (⟨[], ⟨0, [], 0, []⟩, []⟩, false)
theorem fallC_eq (p : Poll) (v : Int) : (goodPoll p && rng v 0 ((p.Net.Homes.length : Int) - 1)) = fallC p v := by
  unfold fallC
  cases hg : goodPoll p with
  | false => rfl
  | true => rw [goodPoll_vl hg]
theorem fallC_at {p : Poll} {v : Int} (h : fallC p v = true) : 0 ≤ v ∧ v < p.Voters.length := by
  simp only [fallC, Bool.and_eq_true, rng_iff] at h
  omega
set_option maxHeartbeats 2000000 in
theorem FallVoter_ok (p : Poll) (v : Int) (hp : pollOk p) (hq : pollSm p) : ACall Tryz.prog n_impl_FallVoter [.agg (Poll.row false p), i64 v] (fun r _ => r = .tup [.agg (Poll.row true (fallV p v).1), bl (fallV p v).2]) := by
  have hmx := mx_eq
  obtain ⟨h1, h2, h3, h4, h5⟩ := hq
  have hi := isVoterOf_ok p v hp
  rw [fallC_eq] at hi
  refine fn_in h_impl_FallVoter r_impl_FallVoter ⟨by simp only [go_sem], fun E hE hH => ?_⟩; simp only [go_sem] at hE hH; simp only [go_sem, hE, hH, c_impl_FallVoter]
  repeat' (first | ((with_reducible first | refine gd_t ?_ ?_ | refine gd_f ?_ ?_) <;> (intro h; have hb := h; (try simp only [nf] at h); simp (disch := omega) only [go_sem, hE, hH, hb]; (try clear hb))) | ((with_reducible refine And.intro ?_ ?_); · omega) | ((first | refine ok_view ?_ | refine cvA (hi) ?_); simp (disch := omega) only [go_sem, hE, hH]) | (refine jn _ ?_ ?_) | (with_reducible refine both ?_ ?_) | (with_reducible refine And.intro ?_ ?_) | (refine fin_eq ?_; (try (simp (disch := omega) only [go_sem, hE, hH])); first | done | rfl) | (simp (disch := omega) only [go_sem, hE, hH]) | ((first | apply noMLL_sE | apply pk_sE) <;> (simp only [go_sem, hE, hH]; done)) | (simp only [go_sem, hE, hH]) | fail)
  all_goals try (simp only [fallV, h]; rfl)
  have hc := h; clear h
  obtain ⟨k1, k2⟩ := fallC_at hc
  have hk : v.toNat < p.Voters.length := by omega
  have hs := fun r => getD_set_map (f := Voter.row true) (r := r) hk
  repeat' (first | ((with_reducible first | refine gd_t ?_ ?_ | refine gd_f ?_ ?_) <;> (intro h; have hb := h; (try simp only [nf] at h); simp (disch := omega) only [go_sem, hE, hH, hs, hb]; (try clear hb))) | ((with_reducible refine And.intro ?_ ?_); · omega) | ((first | refine ok_view ?_ | refine cvA (copyPoll_ok p h1 h2 h3 h4 h5) ?_); simp (disch := omega) only [go_sem, hE, hH, hs]) | (refine jn _ ?_ ?_) | (with_reducible refine both ?_ ?_) | (with_reducible refine And.intro ?_ ?_) | (refine fin_eq ?_; (try (simp (disch := omega) only [go_sem, hE, hH, hs])); first | done | rfl) | (simp (disch := omega) only [go_sem, hE, hH, hs]) | ((first | apply noMLL_sE | apply pk_sE) <;> (simp only [go_sem, hE, hH, hs]; done)) | (simp only [go_sem, hE, hH, hs]) | fail)
  all_goals simp only [fallV, hc, if_true, List.map_set]
  all_goals rfl
set_option maxHeartbeats 2000000 in
theorem sFallVoter_ok (p : Poll) (v : Int) (hp : pollOk p) (hq : pollSm p) : ACall Tryz.prog n_spec_FallVoter [.agg (Poll.row false p), i64 v] (fun r _ => r = .tup [.agg (Poll.row true (fallV p v).1), bl (fallV p v).2]) := by
  have hmx := mx_eq
  obtain ⟨h1, h2, h3, h4, h5⟩ := hq
  have hi := l8Has_ok p v hp
  refine fn_in h_spec_FallVoter r_spec_FallVoter ⟨by simp only [go_sem], fun E hE hH => ?_⟩; simp only [go_sem] at hE hH; simp only [go_sem, hE, hH, c_spec_FallVoter]
  repeat' (first | ((with_reducible first | refine gd_t ?_ ?_ | refine gd_f ?_ ?_) <;> (intro h; have hb := h; (try simp only [nf] at h); simp (disch := omega) only [go_sem, hE, hH, hb]; (try clear hb))) | ((with_reducible refine And.intro ?_ ?_); · omega) | ((first | refine ok_view ?_ | refine cvA (hi) ?_); simp (disch := omega) only [go_sem, hE, hH]) | (refine jn _ ?_ ?_) | (with_reducible refine both ?_ ?_) | (with_reducible refine And.intro ?_ ?_) | (refine fin_eq ?_; (try (simp (disch := omega) only [go_sem, hE, hH])); first | done | rfl) | (simp (disch := omega) only [go_sem, hE, hH]) | ((first | apply noMLL_sE | apply pk_sE) <;> (simp only [go_sem, hE, hH]; done)) | (simp only [go_sem, hE, hH]) | fail)
  all_goals try (simp only [fallV, fallC, h]; rfl)
  have hc : fallC p v = true := h
  clear h
  obtain ⟨k1, k2⟩ := fallC_at hc
  have hk : v.toNat < p.Voters.length := by omega
  have hs := fun r => getD_set_map (f := Voter.row true) (r := r) hk
  repeat' (first | ((with_reducible first | refine gd_t ?_ ?_ | refine gd_f ?_ ?_) <;> (intro h; have hb := h; (try simp only [nf] at h); simp (disch := omega) only [go_sem, hE, hH, hs, hb]; (try clear hb))) | ((with_reducible refine And.intro ?_ ?_); · omega) | ((first | refine ok_view ?_ | refine cvA (l8Own_ok p h1 h2 h3 h4 h5) ?_); simp (disch := omega) only [go_sem, hE, hH, hs]) | (refine jn _ ?_ ?_) | (with_reducible refine both ?_ ?_) | (with_reducible refine And.intro ?_ ?_) | (refine fin_eq ?_; (try (simp (disch := omega) only [go_sem, hE, hH, hs])); first | done | rfl) | (simp (disch := omega) only [go_sem, hE, hH, hs]) | ((first | apply noMLL_sE | apply pk_sE) <;> (simp only [go_sem, hE, hH, hs]; done)) | (simp only [go_sem, hE, hH, hs]) | fail)
  all_goals simp only [fallV, hc, if_true, List.map_set]
  all_goals rfl
end Go.Proofs.Wb

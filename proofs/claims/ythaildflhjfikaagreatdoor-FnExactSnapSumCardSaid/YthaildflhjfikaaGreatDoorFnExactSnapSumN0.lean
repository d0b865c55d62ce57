import Derived.Test.YthaildflhjfikaaGreatDoorFnExactSnapSumTy
import Derived.Laws.Externs
set_option linter.all false
set_option maxHeartbeats 4000000
namespace Go.Proofs.Wb
open Tryz renaming prog → p_
open Go Go.Am
section
variable {α : Type} [Inhabited α] {κ : Type} [DecidableEq κ]
theorem zNO {p : Nat → Bool} {n : Nat} : ∀ {m : Nat}, n ≤ m → zEa p n ≤ zEa p m
 | 0, h => by rw [show n = 0 by omega]; exact Nat.le_refl _
 | m + 1, h => by
  by_cases e : n = m + 1
  ·rw [e]; exact Nat.le_refl _
  ·have := zNO (p := p) (n := n) (m := m) (by omega)
   simp only [zEa]
   omega
def fxI (lt : κ → κ → Bool) (f : α → κ) (l : List α) (k : κ) : Nat := zEa (fun i => lt (f (nth l i)) k) l.length
def fxF (f : α → κ) (l : List α) (k : κ) : Bool := l.any fun x => decide (f x = k)
def zA7 (lt : κ → κ → Bool) (f : α → κ) (l : List α) : Prop := ∀ i j, i < j → j < l.length → lt (f (nth l i)) (f (nth l j)) = true
structure Ord (lt : κ → κ → Bool) (cmp : κ → κ → Int) : Prop where
 neg : ∀ a b, cmp a b < 0 ↔ lt a b = true
 zero : ∀ a b, cmp a b = 0 ↔ a = b
 irr : ∀ a, lt a a = false
 trans : ∀ a b c, lt a b = true → lt b c = true → lt a c = true
 total : ∀ a b, lt a b = true ∨ a = b ∨ lt b a = true
variable {lt : κ → κ → Bool} {cmp : κ → κ → Int} {f : α → κ} {l : List α} {k : κ}
theorem Ord.asym (O : Ord lt cmp) {a b : κ} (h : lt a b = true) : lt b a = false := by
 cases h2 : lt b a
 ·rfl
 ·have := O.trans _ _ _ h h2; rw [O.irr] at this; cases this
theorem Ord.ge (O : Ord lt cmp) {a b : κ} (h : lt a b = false) : a = b ∨ lt b a = true := by
 rcases O.total a b with h1 | h1 | h1
 ·rw [h] at h1; cases h1
 ·exact .inl h1
 ·exact .inr h1
theorem zDH : fxI lt f l k ≤ l.length := zJW
theorem zHA (O : Ord lt cmp) (hs : zA7 lt f l) {i : Nat} (hi : i < l.length) : i < fxI lt f l k ↔ lt (f (nth l i)) k = true := by
 constructor
 ·intro h
  by_cases hb : lt (f (nth l i)) k = true
  ·exact hb
  ·exfalso
   have : fxI lt f l k ≤ i := by
    unfold fxI
    rw [zFh (Nat.le_of_lt hi) (fun j a b => ?_)]
    ·exact zJW
    ·by_cases e : j = i
     ·rw [e]; simpa using hb
     ·cases h2 : lt (f (nth l j)) k
      ·rfl
      ·exact absurd (O.trans _ _ _ (hs i j (by omega) b) h2) hb
   omega
 ·intro h
  unfold fxI
  have h1 := zF4 (p := fun i => lt (f (nth l i)) k) (n := i + 1) (zAE.2 fun j hj => by
   by_cases e : j = i
   ·rw [e]; exact h
   ·exact O.trans _ _ _ (hs j i (by omega) hi) h)
  have h2 := zNO (p := fun i => lt (f (nth l i)) k) (n := i + 1) (m := l.length) (by omega)
  omega
theorem zLO (O : Ord lt cmp) (hs : zA7 lt f l) {i : Nat} (hi : i < l.length) (h : f (nth l i) = k) : fxI lt f l k = i := by
 have h1 : ¬ i < fxI lt f l k := by rw [zHA O hs hi, h, O.irr]; simp
 by_cases h2 : fxI lt f l k < i
 ·have h3 := (zHA (k := k) O hs (show fxI lt f l k < l.length by omega)).2 (by have := hs _ _ h2 hi; rwa [h] at this)
  omega
 ·omega
theorem zC7 : fxF f l k = true ↔ ∃ i, i < l.length ∧ f (nth l i) = k := by
 unfold fxF
 rw [List.any_eq_true]
 constructor
 ·rintro ⟨x, hx, h1⟩
  obtain ⟨i, hi, rfl⟩ := List.getElem_of_mem hx
  exact ⟨i, hi, by rw [zA6 hi]; simpa using h1⟩
 ·rintro ⟨i, hi, h1⟩; exact ⟨_, zAc hi, by simpa using h1⟩
theorem zEO (O : Ord lt cmp) (hs : zA7 lt f l) (h : fxF f l k = true) : fxI lt f l k < l.length ∧ f (nth l (fxI lt f l k)) = k := by
 obtain ⟨i, hi, h1⟩ := zC7.1 h
 rw [zLO O hs hi h1]; exact ⟨hi, h1⟩
theorem zSU (O : Ord lt cmp) (hs : zA7 lt f l) (k : κ) : bsI (fun x => cmp (f x) k) l = fxI lt f l k ∧ bsF (fun x => cmp (f x) k) l = fxF f l k := by
 have e1 : bsI (fun x => cmp (f x) k) l = fxI lt f l k := by
  unfold bsI fxI
  congr 1; funext i
  rw [Bool.eq_iff_iff, decide_eq_true_iff, O.neg]
 refine ⟨e1, ?_⟩
 rw [Bool.eq_iff_iff]
 unfold bsF
 rw [e1, Bool.and_eq_true, decide_eq_true_iff, decide_eq_true_iff, O.zero]
 constructor
 ·rintro ⟨h1, h2⟩; exact zC7.2 ⟨_, h1, h2⟩
 ·intro h; exact zEO O hs h
theorem zMT (O : Ord lt cmp) (hs : zA7 lt f l) (i j : Nat) (h1 : i < j) (h2 : j < l.length) (h3 : 0 ≤ cmp (f (nth l i)) k) : 0 ≤ cmp (f (nth l j)) k := by
 rw [← Int.not_lt, O.neg] at h3 ⊢
 exact fun h => h3 (O.trans _ _ _ (hs i j h1 h2) h)
def putAt (l : List α) (i : Nat) (x : α) : List α := l.take i ++ x :: l.drop i
theorem zBH {i : Nat} {x : α} (hi : i ≤ l.length) : (putAt l i x).length = l.length + 1 := by
 simp [putAt]; omega
theorem zJh {i j : Nat} {x : α} (hi : i ≤ l.length) : nth (putAt l i x) j = if j < i then nth l j else if j = i then x else nth l (j - 1) := by
 unfold putAt nth
 simp only [List.getD, List.getElem?_append, List.length_take, Nat.min_eq_left hi]
 split
 ·rename_i h; rw [List.getElem?_take_of_lt h]
 ·rename_i h
  by_cases e : j = i
  ·subst e; simp
  ·rw [if_neg e, List.getElem?_cons, if_neg (by omega), List.getElem?_drop]
   congr 2; omega
theorem zGF (O : Ord lt cmp) (hs : zA7 lt f l) {x : α} (h : fxF f l (f x) = false) : zA7 lt f (putAt l (fxI lt f l (f x)) x) := by
 intro i j h1 h2
 have hle := zDH (lt := lt) (f := f) (l := l) (k := f x)
 rw [zBH hle] at h2
 rw [zJh hle, zJh hle]
 have lo : ∀ i, i < fxI lt f l (f x) → lt (f (nth l i)) (f x) = true := fun i hi => (zHA O hs (by omega)).1 hi
 have hi : ∀ i, fxI lt f l (f x) ≤ i → i < l.length → lt (f x) (f (nth l i)) = true := by
  intro i h3 h4
  have h5 : lt (f (nth l i)) (f x) = false := by
   cases h6 : lt (f (nth l i)) (f x)
   ·rfl
   ·have := (zHA O hs h4).2 h6; omega
  rcases O.ge h5 with h6 | h6
  ·have : fxF f l (f x) = true := zC7.2 ⟨i, h4, h6⟩
   rw [h] at this; cases this
  ·exact h6
 by_cases a : j < fxI lt f l (f x)
 ·rw [if_pos (by omega), if_pos a]; exact hs i j h1 (by omega)
 ·rw [if_neg a]
  by_cases b : j = fxI lt f l (f x)
  ·rw [if_pos b, if_pos (by omega)]; exact lo i (by omega)
  ·rw [if_neg b]
   by_cases c : i < fxI lt f l (f x)
   ·rw [if_pos c]; exact hs i (j - 1) (by omega) (by omega)
   ·rw [if_neg c]
    by_cases d : i = fxI lt f l (f x)
    ·rw [if_pos d]; exact hi (j - 1) (by omega) (by omega)
    ·rw [if_neg d]; exact hs (i - 1) (j - 1) (by omega) (by omega)
def dnI (p : α → Bool) (l : List α) : Nat → Nat
 | 0 => 0
 | n + 1 => if p (nth l n) then dnI p l n else n + 1
theorem zFi {p : α → Bool} {j : Nat} : ∀ {n : Nat}, j ≤ n → (∀ i, j ≤ i → i < n → p (nth l i) = true) → (j = 0 ∨ p (nth l (j - 1)) = false) → dnI p l n = j
 | 0, h, _, _ => by simp [dnI]; omega
 | n + 1, h, h1, h2 => by
  unfold dnI
  by_cases e : j = n + 1
  ·subst e
   rcases h2 with h2 | h2
   ·omega
   ·rw [show n + 1 - 1 = n by omega] at h2; rw [h2]; rfl
  ·rw [h1 n (by omega) (by omega), if_pos rfl]
   exact zFi (by omega) (fun i a b => h1 i a (by omega)) h2
theorem zLP (O : Ord lt cmp) (hs : zA7 lt f l) {x : α} (h : fxF f l (f x) = false) : dnI (fun y => lt (f x) (f y)) l l.length = fxI lt f l (f x) := by
 refine zFi zDH (fun i h3 h4 => ?_) ?_
 ·have h5 : lt (f (nth l i)) (f x) = false := by
   cases h6 : lt (f (nth l i)) (f x)
   ·rfl
   ·have := (zHA O hs h4).2 h6; omega
  rcases O.ge h5 with h6 | h6
  ·have : fxF f l (f x) = true := zC7.2 ⟨i, h4, h6⟩
   rw [h] at this; cases this
  ·exact h6
 ·by_cases e : fxI lt f l (f x) = 0
  ·exact .inl e
  ·exact .inr (O.asym ((zHA O hs (by have := zDH (lt := lt) (f := f) (l := l) (k := f x); omega)).1 (by omega)))
def cutAt (l : List α) (i : Nat) : List α := l.take i ++ l.drop (i + 1)
theorem zPB (O : Ord lt cmp) (hs : zA7 lt f l) {i : Nat} (hi : i < l.length) : cutAt l i = l.filter fun x => !decide (f x = f (nth l i)) := by
 have e : l = l.take i ++ nth l i :: l.drop (i + 1) := by
  rw [zA6 hi]; simp
 have h1 : (l.take i).filter (fun x => !decide (f x = f (nth l i))) = l.take i := by
  rw [List.filter_eq_self]
  intro x hx
  obtain ⟨j, hj, rfl⟩ := List.getElem_of_mem hx
  simp only [List.length_take] at hj
  rw [List.getElem_take, ← zA6 (by omega)]
  have := hs j i (by omega) hi
  simp only [Bool.not_eq_true', decide_eq_false_iff_not]
  intro e; rw [e, O.irr] at this; cases this
 have h2 : (l.drop (i + 1)).filter (fun x => !decide (f x = f (nth l i))) = l.drop (i + 1) := by
  rw [List.filter_eq_self]
  intro x hx
  obtain ⟨j, hj, rfl⟩ := List.getElem_of_mem hx
  simp only [List.length_drop] at hj
  rw [List.getElem_drop, ← zA6 (by omega)]
  have := hs i (i + 1 + j) (by omega) (by omega)
  simp only [Bool.not_eq_true', decide_eq_false_iff_not]
  intro e; rw [e, O.irr] at this; cases this
 have h3 : (l.take i ++ nth l i :: l.drop (i + 1)).filter (fun x => !decide (f x = f (nth l i))) = cutAt l i := by
  rw [List.filter_append, List.filter_cons, h1, h2]
  simp [cutAt]
 rw [← e] at h3
 exact h3.symm
theorem zNP {i : Nat} (hi : i < l.length) : (cutAt l i).length + 1 = l.length := by simp [cutAt]; omega
theorem zUF (hs : zA7 lt f l) {i : Nat} (hi : i < l.length) : zA7 lt f (cutAt l i) := by
 have hn : ∀ j, nth (cutAt l i) j = if j < i then nth l j else nth l (j + 1) := by
  intro j
  unfold cutAt nth
  simp only [List.getD, List.getElem?_append, List.length_take, Nat.min_eq_left (Nat.le_of_lt hi)]
  split
  ·rename_i h; rw [List.getElem?_take_of_lt h]
  ·rw [List.getElem?_drop]; congr 2; omega
 intro a b h1 h2
 have := zNP hi
 rw [hn, hn]
 by_cases c : b < i
 ·rw [if_pos (by omega), if_pos c]; exact hs a b h1 (by omega)
 ·rw [if_neg c]
  by_cases d : a < i
  ·rw [if_pos d]; exact hs a (b + 1) (by omega) (by omega)
  ·rw [if_neg d]; exact hs (a + 1) (b + 1) (by omega) (by omega)
theorem zGG {i : Nat} {x y : α} : y ∈ putAt l i x ↔ y = x ∨ y ∈ l := by
 unfold putAt
 conv => rhs; rw [← List.take_append_drop i l]
 simp only [List.mem_append, List.mem_cons]
 constructor
 ·rintro (h | h | h) <;> simp [h]
 ·rintro (h | h | h) <;> simp [h]
theorem zUG {i : Nat} {y : α} (h : y ∈ cutAt l i) : y ∈ l := by
 unfold cutAt at h
 rcases List.mem_append.1 h with h | h
 ·exact List.mem_of_mem_take h
 ·exact List.mem_of_mem_drop h
end
def ltI (a b : Int) : Bool := decide (a < b)
open Go.Proofs.Wb renaming H297 → z0_, zOA → z1_, Cell.row → z3_, zKZ → z5_ in
open Go.Am renaming k2_ → z2_, str → z4_ in
theorem zF9 (l : List Cell) (key : ByteArray) (f : Nat) (caps : List T) (c : Cell → Int) (hent : zBN p_ f = true) (hcap : caps.all T.cap = true) (hl : l.length ≤ 2 ^ 60) (hm : ∀ i j, i < j → j < l.length → 0 ≤ c (nth l i) → 0 ≤ c (nth l j)) (hp : ∀ x, x ∈ l → ACall p_ f ([.agg (Cell.row false x), str key] ++ caps) (fun r _ => r = i64 (c x))) :
  ACall p_ 297 [.sl false 2 (l.map (Cell.row false)), str key, .fn f caps] (fun r _ => r = .tup [i64 (bsI c l), bl (bsF c l)]) := zTG
open Go.Proofs.Wb renaming H259 → z0_, zOA → z1_, Held.row → z3_, zKZ → z5_ in
open Go.Am renaming k5_ → z2_, i64 → z4_ in
theorem zGa (l : List Held) (key : Int) (f : Nat) (caps : List T) (c : Held → Int) (hent : zBN p_ f = true) (hcap : caps.all T.cap = true) (hl : l.length ≤ 2 ^ 60) (hm : ∀ i j, i < j → j < l.length → 0 ≤ c (nth l i) → 0 ≤ c (nth l j)) (hp : ∀ x, x ∈ l → ACall p_ f ([.agg (Held.row false x), i64 key] ++ caps) (fun r _ => r = i64 (c x))) :
  ACall p_ 259 [.sl false 5 (l.map (Held.row false)), i64 key, .fn f caps] (fun r _ => r = .tup [i64 (bsI c l), bl (bsF c l)]) := zTG
open Go.Proofs.Wb renaming H253 → z0_, zOy → z1_, Told.row → z3_, zKY → z5_ in
open Go.Am renaming k3_ → z2_, i64 → z4_ in
theorem zGb (l : List Told) (key : Int) (f : Nat) (caps : List T) (c : Told → Int) (hent : zBN p_ f = true) (hcap : caps.all T.cap = true) (hl : l.length ≤ 2 ^ 60) (hm : ∀ i j, i < j → j < l.length → 0 ≤ c (nth l i) → 0 ≤ c (nth l j)) (hp : ∀ x, x ∈ l → ACall p_ f ([.agg (Told.row false x), i64 key] ++ caps) (fun r _ => r = i64 (c x))) :
  ACall p_ 253 [.sl false 3 (l.map (Told.row false)), i64 key, .fn f caps] (fun r _ => r = .tup [i64 (bsI c l), bl (bsF c l)]) := zTG
open Go.Proofs.Wb renaming H169 → z0_, zOy → z1_, Write.row → z3_, zKY → z5_ in
open Go.Am renaming k3_ → z2_, str → z4_ in
theorem zFD (l : List Write) (key : ByteArray) (f : Nat) (caps : List T) (c : Write → Int) (hent : zBN p_ f = true) (hcap : caps.all T.cap = true) (hl : l.length ≤ 2 ^ 60) (hm : ∀ i j, i < j → j < l.length → 0 ≤ c (nth l i) → 0 ≤ c (nth l j)) (hp : ∀ x, x ∈ l → ACall p_ f ([.agg (Write.row false x), str key] ++ caps) (fun r _ => r = i64 (c x))) :
  ACall p_ 169 [.sl false 3 (l.map (Write.row false)), str key, .fn f caps] (fun r _ => r = .tup [i64 (bsI c l), bl (bsF c l)]) := zTG
open Go.Proofs.Wb renaming H281 → z0_, zE2 → z1_ in
theorem zOe (l : List Cell) (hl : l.length ≤ 2 ^ 20) : ACall p_ 281 [.sl false 2 (l.map (Cell.row false))] (fun r _ => r = .sl true 2 (l.map (Cell.row false))) := zNf
open Go.Proofs.Wb renaming H265 → z0_, zE2 → z1_ in
theorem zOf (l : List Held) (hl : l.length ≤ 2 ^ 20) : ACall p_ 265 [.sl false 5 (l.map (Held.row false))] (fun r _ => r = .sl true 5 (l.map (Held.row false))) := zNf
open Go.Proofs.Wb renaming H251 → z0_, zE2 → z1_ in
theorem zOg (l : List Told) (hl : l.length ≤ 2 ^ 20) : ACall p_ 251 [.sl false 3 (l.map (Told.row false))] (fun r _ => r = .sl true 3 (l.map (Told.row false))) := zNf
open Go.Proofs.Wb renaming H282 → z0_, zE2 → z1_ in
theorem zPC (l : List Ver) (hl : l.length ≤ 2 ^ 20) : ACall p_ 282 [.sl false 3 (l.map (Ver.row false))] (fun r _ => r = .sl true 3 (l.map (Ver.row false))) := zNf
open Go.Proofs.Wb renaming H269 → z0_, zE2 → z1_ in
theorem zMU (l : List Write) (hl : l.length ≤ 2 ^ 20) : ACall p_ 269 [.sl false 3 (l.map (Write.row false))] (fun r _ => r = .sl true 3 (l.map (Write.row false))) := zNf
open Go.Proofs.Wb renaming H268 → z0_, C268 → z1_ in
theorem zLQ (l : List ByteArray) (hl : l.length ≤ 2 ^ 20) : ACall p_ 268 [.sl false 1 (strs l)] (fun r _ => r = .sl true 1 (strs l)) := zNf
theorem zJi (l : List (List Value)) (i j : Int) (hi : 0 ≤ i) (hij : i ≤ j) (hj : j ≤ l.length) (hl : l.length ≤ maxLen) (hk : ∀ r ∈ l, r.length = 5) (ho : ∀ r ∈ l, (zAm r).all T.storable = true) : ACall p_ 257 [.sl true 5 (l.map (zAm)), i64 i, i64 j] (fun r a => r = .sl true 5 ((l.take i.toNat ++ l.drop j.toNat).map (zAm)) ∧ a = [.any, i64 i, i64 j]) := by
 have hmx := zAf
 have hij' : i.toNat ≤ j.toNat := by omega
 have hj' : j.toNat ≤ l.length := by omega
 have e1 := zHY (f := zAm) hij' hj'
 have e2 := fun z => zVI (f := zAm) (z := z) hij' hj'
 have e3 := fun Z => zVJ (f := zAm) (Z := Z) hij' hj'
 refine zI9 [true, false, false] (hqA H257) (hqB H257) ⟨by simp only [go_sem], fun E hE hH => ?_⟩; simp only [go_sem] at hE hH; simp only [go_sem, hE, hH, C257]
 repeat' (first | ((with_reducible first | refine zAg ?_ ?_ | refine zAh ?_ ?_) <;> (intro h; have hb := h; (try simp only [nf] at h); simp (disch := omega) only [go_sem, hE, hH, e1, e2, e3, Option.isSome_some, hb]; (try clear hb))) | ((with_reducible refine And.intro ?_ ?_); · omega) | (refine jn _ ?_ ?_) | (with_reducible refine both ?_ ?_) | (with_reducible refine And.intro ?_ ?_) | (refine zA4 ?_; (try (simp (disch := omega) only [go_sem, hE, hH, e1, e2, e3, Option.isSome_some])); first | done | rfl) | (simp (disch := omega) only [go_sem, hE, hH, e1, e2, e3, Option.isSome_some]) | ((first | apply zAN | apply zBs) <;> (simp only [go_sem, hE, hH, e1, e2, e3, Option.isSome_some]; done)) | (simp only [go_sem, hE, hH, e1, e2, e3, Option.isSome_some]) | fail)
 all_goals try (rw [List.all_eq_true]; intro x hx; exact ho x (List.mem_of_mem_drop (List.mem_of_mem_take hx)))
 ·subst h
  rw [List.take_append_drop]
 ·rw [List.length_take, List.length_drop]; omega
theorem zMV (l : List Held) (i j : Int) (hi : 0 ≤ i) (hij : i ≤ j) (hj : j ≤ l.length) (hl : l.length ≤ maxLen) : ACall p_ 257 [.sl true 5 (l.map (Held.row true)), i64 i, i64 j] (fun r a => r = .sl true 5 ((l.take i.toNat ++ l.drop j.toNat).map (Held.row true)) ∧ a = [.any, i64 i, i64 j]) := by
 have h := zV3 (P := p_) (f := 257) (k := 5) (rows := l.map (Held.row true)) (i := i) (j := j) (by rw [List.all_map, List.all_eq_true]; intro x _; rfl) (fun raws h1 h2 h3 => zJi raws i j hi hij (by rw [h1, List.length_map]; exact hj) (by rw [h1, List.length_map]; exact hl) h2 h3) (by omega)
 rw [← List.map_take, ← List.map_drop, ← List.map_append] at h
 exact h
open Go.Proofs.Wb renaming H127 → z0_, zE1 → z1_, Clock.row → z3_, zED → z4_ in
open Go.Am renaming k1_ → z2_ in
theorem zJj (l : List Clock) (f : Nat) (caps : List T) (p : Clock → Bool) (hent : zBN p_ f = true) (hcap : caps.all T.cap = true) (hl : l.length ≤ maxLen) (hp : ∀ x, x ∈ l → ACall p_ f ([.agg (Clock.row false x)] ++ caps) (fun r _ => r = bl (p x))) :
  ACall p_ 127 [.sl false 1 (l.map (Clock.row false)), .fn f caps] (fun r _ => r = i64 (ixf p l)) := zIm
open Go.Proofs.Wb renaming H193 → z0_, zE1 → z1_, Got.row → z3_, zED → z4_ in
open Go.Am renaming k3_ → z2_ in
theorem zK1 (l : List Got) (f : Nat) (caps : List T) (p : Got → Bool) (hent : zBN p_ f = true) (hcap : caps.all T.cap = true) (hl : l.length ≤ maxLen) (hp : ∀ x, x ∈ l → ACall p_ f ([.agg (Got.row false x)] ++ caps) (fun r _ => r = bl (p x))) :
  ACall p_ 193 [.sl false 3 (l.map (Got.row false)), .fn f caps] (fun r _ => r = i64 (ixf p l)) := zIm
open Go.Proofs.Wb renaming H291 → z0_, zGD → z1_, Held.row → z3_, zF6 → z4_ in
open Go.Am renaming k5_ → z2_ in
theorem zJ5 (l : List Held) (f : Nat) (caps : List T) (p : Held → Bool) (hent : zBN p_ f = true) (hcap : caps.all T.cap = true) (hl : l.length ≤ maxLen) (hp : ∀ x, x ∈ l → ACall p_ f ([.agg (Held.row false x)] ++ caps) (fun r _ => r = bl (p x))) :
  ACall p_ 291 [.sl false 5 (l.map (Held.row false)), .fn f caps] (fun r _ => r = i64 (ixf p l)) := zIm
open Go.Proofs.Wb renaming H163 → z0_, zE1 → z1_, Lock.row → z3_, zED → z4_ in
open Go.Am renaming k3_ → z2_ in
theorem zJ6 (l : List Lock) (f : Nat) (caps : List T) (p : Lock → Bool) (hent : zBN p_ f = true) (hcap : caps.all T.cap = true) (hl : l.length ≤ maxLen) (hp : ∀ x, x ∈ l → ACall p_ f ([.agg (Lock.row false x)] ++ caps) (fun r _ => r = bl (p x))) :
  ACall p_ 163 [.sl false 3 (l.map (Lock.row false)), .fn f caps] (fun r _ => r = i64 (ixf p l)) := zIm
open Go.Proofs.Wb renaming H222 → z0_, zE1 → z1_, Op.row → z3_, zED → z4_ in
open Go.Am renaming k4_ → z2_ in
theorem zLR (l : List Op) (f : Nat) (caps : List T) (p : Op → Bool) (hent : zBN p_ f = true) (hcap : caps.all T.cap = true) (hl : l.length ≤ maxLen) (hp : ∀ x, x ∈ l → ACall p_ f ([.agg (Op.row false x)] ++ caps) (fun r _ => r = bl (p x))) :
  ACall p_ 222 [.sl false 4 (l.map (Op.row false)), .fn f caps] (fun r _ => r = i64 (ixf p l)) := zIm
open Go.Proofs.Wb renaming H160 → z0_, zGD → z1_, Replica.row → z3_, zF6 → z4_ in
open Go.Am renaming k3_ → z2_ in
theorem zH8 (l : List Replica) (f : Nat) (caps : List T) (p : Replica → Bool) (hent : zBN p_ f = true) (hcap : caps.all T.cap = true) (hl : l.length ≤ maxLen) (hp : ∀ x, x ∈ l → ACall p_ f ([.agg (Replica.row false x)] ++ caps) (fun r _ => r = bl (p x))) :
  ACall p_ 160 [.sl false 3 (l.map (Replica.row false)), .fn f caps] (fun r _ => r = i64 (ixf p l)) := zIm
open Go.Proofs.Wb renaming H134 → z0_, zGD → z1_, WorldLook.row → z3_, zF6 → z4_ in
open Go.Am renaming k6_ → z2_ in
theorem zHb (l : List WorldLook) (f : Nat) (caps : List T) (p : WorldLook → Bool) (hent : zBN p_ f = true) (hcap : caps.all T.cap = true) (hl : l.length ≤ maxLen) (hp : ∀ x, x ∈ l → ACall p_ f ([.agg (WorldLook.row false x)] ++ caps) (fun r _ => r = bl (p x))) :
  ACall p_ 134 [.sl false 6 (l.map (WorldLook.row false)), .fn f caps] (fun r _ => r = i64 (ixf p l)) := zIm
open Go.Proofs.Wb renaming H128 → z0_, zGD → z1_, WorldTxn.row → z3_, zF6 → z4_ in
open Go.Am renaming zTF → z2_ in
theorem zHB (l : List WorldTxn) (f : Nat) (caps : List T) (p : WorldTxn → Bool) (hent : zBN p_ f = true) (hcap : caps.all T.cap = true) (hl : l.length ≤ maxLen) (hp : ∀ x, x ∈ l → ACall p_ f ([.agg (WorldTxn.row false x)] ++ caps) (fun r _ => r = bl (p x))) :
  ACall p_ 128 [.sl false 10 (l.map (WorldTxn.row false)), .fn f caps] (fun r _ => r = i64 (ixf p l)) := zIm
open Go.Proofs.Wb renaming H174 → z0_, zE1 → z1_, Write.row → z3_, zED → z4_ in
open Go.Am renaming k3_ → z2_ in
theorem zJk (l : List Write) (f : Nat) (caps : List T) (p : Write → Bool) (hent : zBN p_ f = true) (hcap : caps.all T.cap = true) (hl : l.length ≤ maxLen) (hp : ∀ x, x ∈ l → ACall p_ f ([.agg (Write.row false x)] ++ caps) (fun r _ => r = bl (p x))) :
  ACall p_ 174 [.sl false 3 (l.map (Write.row false)), .fn f caps] (fun r _ => r = i64 (ixf p l)) := zIm
theorem zK2 (l : List Int) (f : Nat) (caps : List T) (p : Int → Bool) (hent : zBN p_ f = true) (hcap : caps.all T.cap = true) (hl : l.length ≤ maxLen) (hp : ∀ x, x ∈ l → ACall p_ f ([i64 x] ++ caps) (fun r _ => r = bl (p x))) :
  ACall p_ 167 [.sl false 1 (ints l), .fn f caps] (fun r _ => r = i64 (ixf p l)) := by
 have hmx := zAf
 refine zLB (hqA zZB) (hqB zZB) ⟨by simp only [go_sem, zAv hcap, zAC hcap, zAx hcap, zAH hcap, zAy hcap], fun E hE hH => ?_⟩; simp only [go_sem, zAv hcap, zAC hcap, zAx hcap, zAH hcap, zAy hcap] at hE hH; simp only [go_sem, hE, hH, zAv hcap, zAC hcap, zAx hcap, zAH hcap, zAy hcap, zZA]
 refine zAs l.length (fun j (_ : Unit) => ⟨[(0, .sl false 1 (ints l)), (1, .fn f caps), (7, i64 l.length), (8, i64 j)], []⟩) (fun j _ => zAq (fun i => !p (nth l i)) j = true) () rfl ?_
 intro j _ hj hI
 try simp only [go_sem, hE, hH, zAv hcap, zAC hcap, zAx hcap, zAH hcap, zAy hcap, zRm]
 first | refine zAg (fun h => ?_) (fun h => ?_) | refine zAh (fun h => ?_) (fun h => ?_)
 ·have hb := h
  simp only [nf] at h
  have hlt := h; clear h
  try simp (disch := omega) only [go_sem, hE, hH, zAv hcap, zAC hcap, zAx hcap, zAH hcap, zAy hcap, hb]
  refine And.intro (by omega) ?_
  refine zLC rfl rfl rfl (hent) (hcap) (hp _ (zAc hlt)) ?_
  try simp (disch := omega) only [go_sem, hE, hH, zAv hcap, zAC hcap, zAx hcap, zAH hcap, zAy hcap]
  repeat' (first | ((with_reducible apply ga) <;> refine zWN fun h => ?_) | ((with_reducible apply an); · omega) | refine jn _ ?_ ?_ | (with_reducible first | apply both | apply an | exact ti) | exact zWP | refine zWM ?_ | exact zWQ | refine zWO ?_)
  ·rw [zLF hlt hI h]
  ·exact ⟨(), rfl, zAd hI (by simp [h])⟩
 ·try simp (disch := omega) only [go_sem, hE, hH, zAv hcap, zAC hcap, zAx hcap, zAH hcap, zAy hcap, h]
  simp only [nf] at h
  rw [show j = l.length by omega] at hI
  rw [zKW hI]
theorem zLS (l : List ByteArray) (v : ByteArray) (hl : l.length ≤ maxLen) : ACall p_ 310 [.sl false 1 (strs l), str v] (fun r _ => r = i64 (ixf (fun x => decide (v = x)) l)) := by
 have hmx := zAf
 refine fg H310 fun E hE hH => ?_; simp only [go_sem, hE, hH, C310]
 refine zAs l.length (fun j (_ : Unit) => ⟨[(0, .sl false 1 (strs l)), (1, str v), (7, i64 l.length), (8, i64 j)], []⟩) (fun j _ => zAq (fun i => !decide (v = nth l i)) j = true) () rfl ?_
 intro j _ hj hI
 try simp only [go_sem, hE, hH, zRP]
 first | refine zAg (fun h => ?_) (fun h => ?_) | refine zAh (fun h => ?_) (fun h => ?_)
 ·have hb := h
  simp only [nf] at h
  have hlt := h; clear h
  try refine sb ?_; try exact ⟨⟩
  refine And.intro (by omega) ?_
  repeat' (first | ((with_reducible apply ga) <;> refine gs fun h => ?_) | ((with_reducible apply an); · omega) | refine jn _ ?_ ?_ | (with_reducible first | apply both | apply an | exact ti) | exact fe | refine st ?_ | exact fm | refine s1 ?_)
  ·rw [zLF (p := fun x => decide (v = x)) hlt hI (by simp [h])]
  ·exact ⟨(), rfl, zAd hI (by simp [h])⟩
 ·try simp (disch := omega) only [go_sem, hE, hH, h]
  simp only [nf] at h
  rw [show j = l.length by omega] at hI
  rw [zKW (p := fun x => decide (v = x)) hI]
theorem zJl (l v : List (List Value)) (i : Int) (hi : 0 ≤ i) (hin : i ≤ l.length) (hl : l.length ≤ 2 ^ 20) (hk : ∀ r ∈ l, r.length = 2) (ho : ∀ r ∈ l, (zAm r).all T.storable = true) (hkv : ∀ r ∈ v, r.length = 2) (hov : ∀ r ∈ v, (zAm r).all T.storable = true) (hv : v.length ≤ 2 ^ 20) : ACall p_ 287 [.sl true 2 (l.map (zAm)), i64 i, .sl false 2 (v.map (zAm))] (fun r a => r = .sl true 2 ((l.take i.toNat ++ v ++ l.drop i.toNat).map (zAm)) ∧ a = [.any, i64 i, .sl false 2 (v.map (zAm))]) := by
 have hmx := zAf
 refine zPm [true, false, false] 0 2 (l.map (zAm)) (hqA H287) (hqB H287) (by simp only [go_sem, List.mem_cons, true_or, or_true]) (by simp only [go_sem]) ⟨by simp only [go_sem], fun E hE hH c hc hF => ?_⟩; simp only [go_sem] at hE hH hc hF; simp only [go_sem, hE, hH, C287]
 have e0 : l.length + (c - l.length) = c := by omega
 have hn : i.toNat ≤ l.length := by omega
 have t1 : ((l.length : Int) + v.length - i).toNat = l.length + v.length - i.toNat := by omega
 have t2 : (i + (v.length : Int)).toNat = i.toNat + v.length := by omega
 have t3 : ((l.length : Int) + v.length).toNat = l.length + v.length := by omega
 have t4 : i.toNat + (l.length + v.length - i.toNat) = l.length + v.length := by omega
 have t5 : l.length + v.length - (i.toNat + v.length) = l.length - i.toNat := by omega
 have t6 : min (l.length - i.toNat) (l.length + v.length - i.toNat) = l.length - i.toNat := by omega
 have t7 : i.toNat + (l.length - i.toNat) = l.length := by omega
 have a1 := zDQ (f := zAm) (l := l) (G := List.replicate (c - l.length) (zBv 2)) (Nat.le_refl l.length)
 have a2 := zDQ (f := zAm) (l := l) (G := List.replicate (c - l.length) (zBv 2)) hn
 have a3 := zMx (f := zAm) (l := l) (G := List.replicate (c - l.length) (zBv 2)) hn
 have a4 : v.take (l.length + v.length - i.toNat) = v := List.take_of_length_le (by omega)
 have b1 := fun z => zEA (f := zAm) (g := fun x => (zAm) x) (v := v) (z := z) hn
 have b2 := fun z => zKL (f := zAm) (g := fun x => (zAm) x) (v := v) (z := z) hn
 have b3 := fun z => zI3 (f := zAm) (v := v) (z := z) hn
 have b4 := zMy (f := zAm) (v := v) (l := l)
 have d1 := fun z hc => zF2 (f := zAm) (m := v.length) (c := c) (z := z) hn hc
 have d2 := fun z hc => zKM (f := zAm) (g := fun x => (zAm) x) (v := v) (c := c) (z := z) hn hc
 have d3 := fun z hc => zKN (f := zAm) (v := v) (c := c) (z := z) hn hc
 have t8 : min (l.length + v.length - i.toNat) v.length = v.length := by omega
 have t9 : i.toNat + v.length + (l.length - i.toNat) = l.length + v.length := by omega
 simp only [go_sem] at a1 a2 a3 b1 b2 b3 b4 d1 d2 d3
 have s1 : ((v.map zAm).all fun r => r.all T.storable) = true := by rw [List.all_map, List.all_eq_true]; intro x hx; exact hov x hx
 have s2 : ((l.map zAm).all fun r => r.all T.storable) = true := by rw [List.all_map, List.all_eq_true]; intro x hx; exact ho x hx
 have s3 : (((l.take i.toNat).map zAm).all fun r => r.all T.storable) = true := by rw [List.all_map, List.all_eq_true]; intro x hx; exact ho x (List.mem_of_mem_take hx)
 have s4 : (((l.drop i.toNat).map zAm).all fun r => r.all T.storable) = true := by rw [List.all_map, List.all_eq_true]; intro x hx; exact ho x (List.mem_of_mem_drop hx)
 simp only [go_sem] at s1 s2 s3 s4
 all_goals (have y1_ := s1; have y2_ := s2; have y3_ := s3; have y4_ := s4; have y5_ := e0; have y6_ := t1; have y7_ := t2; have y8_ := t3; have y9_ := t4; have y10_ := t5; have y11_ := t6; have y12_ := t7; have y13_ := t8; have y14_ := t9; have y15_ := d1; have y16_ := d2; have y17_ := d3; have y18_ := a1; have y19_ := a2; have y20_ := a3; have y21_ := a4; have y22_ := b1; have y23_ := b2; have y24_ := b3; have y25_ := b4; repeat' (first | ((with_reducible apply ga) <;> refine zTw fun h => ?_) | ((with_reducible apply an); · omega) | refine jn _ ?_ ?_ | (with_reducible first | apply both | apply an | exact ti) | exact zTy | refine zTv ?_ | exact zTz | refine zTx ?_))
 all_goals try (refine zPa rfl rfl rfl zEN zEu zEM (by decide) (by simp only [List.length_map]; omega) (by simp only [go_sem]; omega) ?_)
 all_goals (have y1_ := s1; have y2_ := s2; have y3_ := s3; have y4_ := s4; have y5_ := e0; have y6_ := t1; have y7_ := t2; have y8_ := t3; have y9_ := t4; have y10_ := t5; have y11_ := t6; have y12_ := t7; have y13_ := t8; have y14_ := t9; have y15_ := d1; have y16_ := d2; have y17_ := d3; have y18_ := a1; have y19_ := a2; have y20_ := a3; have y21_ := a4; have y22_ := b1; have y23_ := b2; have y24_ := b3; have y25_ := b4; repeat' (first | ((with_reducible apply ga) <;> refine zTw fun h => ?_) | ((with_reducible apply an); · omega) | refine jn _ ?_ ?_ | (with_reducible first | apply both | apply an | exact ti) | exact zTy | refine zTv ?_ | exact zTz | refine zTx ?_))
 all_goals try (rw [List.all_eq_true]; intro x hx; first | exact ho x (List.mem_of_mem_drop (List.mem_of_mem_take hx)) | exact ho x (List.mem_of_mem_drop hx) | exact ho x (List.mem_of_mem_take hx) | exact ho x hx | exact hov x hx)
 ·have e : v = [] := List.length_eq_zero_iff.1 (by omega)
  subst e
  rw [List.append_nil, List.take_append_drop]
 ·have e : i.toNat = l.length := by omega
  rw [e, List.take_length, List.drop_length, List.append_nil, List.map_append]
  try rfl
 all_goals omega
theorem zMW (l : List Cell) (x : Cell) (i : Int) (hi : 0 ≤ i) (hin : i ≤ l.length) (hl : l.length ≤ 2 ^ 20) : ACall p_ 287 [.sl true 2 (l.map (Cell.row true)), i64 i, .sl true 2 [Cell.row true x]] (fun r a => r = .sl true 2 ((putAt l i.toNat x).map (Cell.row true)) ∧ a = [.any, i64 i, .any]) := by
 have h := zPu (P := p_) (f := 287) (k := 2) (rows := l.map (Cell.row true)) (row := Cell.row true x) (i := i) (by rw [List.length_map]; omega) (by rw [List.all_map, List.all_eq_true]; intro x _; rfl) rfl (fun raws rv h1 h2 h3 h4 h5 => by have q := zJl raws [rv] i hi (by rw [h1, List.length_map]; exact hin) (by rw [h1, List.length_map]; exact hl) h2 h4 (fun r hr => by rw [List.mem_singleton.1 hr]; exact h3) (fun r hr => by rw [List.mem_singleton.1 hr]; exact h5) (by simp); rw [List.append_assoc] at q; exact q)
 rw [← List.map_take, ← List.map_drop] at h
 unfold putAt
 rw [List.map_append, List.map_cons]
 exact h
theorem zJm (l v : List (List Value)) (i : Int) (hi : 0 ≤ i) (hin : i ≤ l.length) (hl : l.length ≤ 2 ^ 20) (hk : ∀ r ∈ l, r.length = 5) (ho : ∀ r ∈ l, (zAm r).all T.storable = true) (hkv : ∀ r ∈ v, r.length = 5) (hov : ∀ r ∈ v, (zAm r).all T.storable = true) (hv : v.length ≤ 2 ^ 20) : ACall p_ 231 [.sl true 5 (l.map (zAm)), i64 i, .sl false 5 (v.map (zAm))] (fun r a => r = .sl true 5 ((l.take i.toNat ++ v ++ l.drop i.toNat).map (zAm)) ∧ a = [.any, i64 i, .sl false 5 (v.map (zAm))]) := by
 have hmx := zAf
 refine zPm [true, false, false] 0 5 (l.map (zAm)) (hqA zZ9) (hqB zZ9) (by simp only [go_sem, List.mem_cons, true_or, or_true]) (by simp only [go_sem]) ⟨by simp only [go_sem], fun E hE hH c hc hF => ?_⟩; simp only [go_sem] at hE hH hc hF; simp only [go_sem, hE, hH, zZ8]
 have e0 : l.length + (c - l.length) = c := by omega
 have hn : i.toNat ≤ l.length := by omega
 have t1 : ((l.length : Int) + v.length - i).toNat = l.length + v.length - i.toNat := by omega
 have t2 : (i + (v.length : Int)).toNat = i.toNat + v.length := by omega
 have t3 : ((l.length : Int) + v.length).toNat = l.length + v.length := by omega
 have t4 : i.toNat + (l.length + v.length - i.toNat) = l.length + v.length := by omega
 have t5 : l.length + v.length - (i.toNat + v.length) = l.length - i.toNat := by omega
 have t6 : min (l.length - i.toNat) (l.length + v.length - i.toNat) = l.length - i.toNat := by omega
 have t7 : i.toNat + (l.length - i.toNat) = l.length := by omega
 have a1 := zDQ (f := zAm) (l := l) (G := List.replicate (c - l.length) (zBv 5)) (Nat.le_refl l.length)
 have a2 := zDQ (f := zAm) (l := l) (G := List.replicate (c - l.length) (zBv 5)) hn
 have a3 := zMx (f := zAm) (l := l) (G := List.replicate (c - l.length) (zBv 5)) hn
 have a4 : v.take (l.length + v.length - i.toNat) = v := List.take_of_length_le (by omega)
 have b1 := fun z => zEA (f := zAm) (g := fun x => (zAm) x) (v := v) (z := z) hn
 have b2 := fun z => zKL (f := zAm) (g := fun x => (zAm) x) (v := v) (z := z) hn
 have b3 := fun z => zI3 (f := zAm) (v := v) (z := z) hn
 have b4 := zMy (f := zAm) (v := v) (l := l)
 have d1 := fun z hc => zF2 (f := zAm) (m := v.length) (c := c) (z := z) hn hc
 have d2 := fun z hc => zKM (f := zAm) (g := fun x => (zAm) x) (v := v) (c := c) (z := z) hn hc
 have d3 := fun z hc => zKN (f := zAm) (v := v) (c := c) (z := z) hn hc
 have t8 : min (l.length + v.length - i.toNat) v.length = v.length := by omega
 have t9 : i.toNat + v.length + (l.length - i.toNat) = l.length + v.length := by omega
 simp only [go_sem] at a1 a2 a3 b1 b2 b3 b4 d1 d2 d3
 have s1 : ((v.map zAm).all fun r => r.all T.storable) = true := by rw [List.all_map, List.all_eq_true]; intro x hx; exact hov x hx
 have s2 : ((l.map zAm).all fun r => r.all T.storable) = true := by rw [List.all_map, List.all_eq_true]; intro x hx; exact ho x hx
 have s3 : (((l.take i.toNat).map zAm).all fun r => r.all T.storable) = true := by rw [List.all_map, List.all_eq_true]; intro x hx; exact ho x (List.mem_of_mem_take hx)
 have s4 : (((l.drop i.toNat).map zAm).all fun r => r.all T.storable) = true := by rw [List.all_map, List.all_eq_true]; intro x hx; exact ho x (List.mem_of_mem_drop hx)
 simp only [go_sem] at s1 s2 s3 s4
 all_goals (have y1_ := s1; have y2_ := s2; have y3_ := s3; have y4_ := s4; have y5_ := e0; have y6_ := t1; have y7_ := t2; have y8_ := t3; have y9_ := t4; have y10_ := t5; have y11_ := t6; have y12_ := t7; have y13_ := t8; have y14_ := t9; have y15_ := d1; have y16_ := d2; have y17_ := d3; have y18_ := a1; have y19_ := a2; have y20_ := a3; have y21_ := a4; have y22_ := b1; have y23_ := b2; have y24_ := b3; have y25_ := b4; repeat' (first | ((with_reducible apply ga) <;> refine zTw fun h => ?_) | ((with_reducible apply an); · omega) | refine jn _ ?_ ?_ | (with_reducible first | apply both | apply an | exact ti) | exact zTy | refine zTv ?_ | exact zTz | refine zTx ?_))
 all_goals try (refine zPa rfl rfl rfl zEH zEs zEG (by decide) (by simp only [List.length_map]; omega) (by simp only [go_sem]; omega) ?_)
 all_goals (have y1_ := s1; have y2_ := s2; have y3_ := s3; have y4_ := s4; have y5_ := e0; have y6_ := t1; have y7_ := t2; have y8_ := t3; have y9_ := t4; have y10_ := t5; have y11_ := t6; have y12_ := t7; have y13_ := t8; have y14_ := t9; have y15_ := d1; have y16_ := d2; have y17_ := d3; have y18_ := a1; have y19_ := a2; have y20_ := a3; have y21_ := a4; have y22_ := b1; have y23_ := b2; have y24_ := b3; have y25_ := b4; repeat' (first | ((with_reducible apply ga) <;> refine zTw fun h => ?_) | ((with_reducible apply an); · omega) | refine jn _ ?_ ?_ | (with_reducible first | apply both | apply an | exact ti) | exact zTy | refine zTv ?_ | exact zTz | refine zTx ?_))
 all_goals try (rw [List.all_eq_true]; intro x hx; first | exact ho x (List.mem_of_mem_drop (List.mem_of_mem_take hx)) | exact ho x (List.mem_of_mem_drop hx) | exact ho x (List.mem_of_mem_take hx) | exact ho x hx | exact hov x hx)
 ·have e : v = [] := List.length_eq_zero_iff.1 (by omega)
  subst e
  rw [List.append_nil, List.take_append_drop]
 ·have e : i.toNat = l.length := by omega
  rw [e, List.take_length, List.drop_length, List.append_nil, List.map_append]
  try rfl
 all_goals omega
theorem zMX (l : List Held) (x : Held) (i : Int) (hi : 0 ≤ i) (hin : i ≤ l.length) (hl : l.length ≤ 2 ^ 20) : ACall p_ 231 [.sl true 5 (l.map (Held.row true)), i64 i, .sl true 5 [Held.row true x]] (fun r a => r = .sl true 5 ((putAt l i.toNat x).map (Held.row true)) ∧ a = [.any, i64 i, .any]) := by
 have h := zPu (P := p_) (f := 231) (k := 5) (rows := l.map (Held.row true)) (row := Held.row true x) (i := i) (by rw [List.length_map]; omega) (by rw [List.all_map, List.all_eq_true]; intro x _; rfl) rfl (fun raws rv h1 h2 h3 h4 h5 => by have q := zJm raws [rv] i hi (by rw [h1, List.length_map]; exact hin) (by rw [h1, List.length_map]; exact hl) h2 h4 (fun r hr => by rw [List.mem_singleton.1 hr]; exact h3) (fun r hr => by rw [List.mem_singleton.1 hr]; exact h5) (by simp); rw [List.append_assoc] at q; exact q)
 rw [← List.map_take, ← List.map_drop] at h
 unfold putAt
 rw [List.map_append, List.map_cons]
 exact h
open Go.Proofs.Wb renaming Told.row → z0_, H258 → z1_, C258 → z2_, zEK → z3_, zEt → z4_, zEJ → z5_ in
theorem zMY (l v : List Told) (i : Int) (hi : 0 ≤ i) (hin : i ≤ l.length) (hl : l.length ≤ 2 ^ 20) (hv : v.length ≤ 2 ^ 20) : ACall p_ 258 [.sl true 3 (l.map (Told.row true)), i64 i, .sl false 3 (v.map (Told.row false))] (fun r a => r = .sl true 3 ((l.take i.toNat ++ v ++ l.drop i.toNat).map (Told.row true)) ∧ a = [.any, i64 i, .sl false 3 (v.map (Told.row false))]) := Q13_
open Go.Proofs.Wb renaming Write.row → z0_, H139 → z1_, zZi → z2_, zEr → z3_, zEc → z4_, zEq → z5_ in
theorem zLT (l v : List Write) (i : Int) (hi : 0 ≤ i) (hin : i ≤ l.length) (hl : l.length ≤ 2 ^ 20) (hv : v.length ≤ 2 ^ 20) : ACall p_ 139 [.sl true 3 (l.map (Write.row true)), i64 i, .sl false 3 (v.map (Write.row false))] (fun r a => r = .sl true 3 ((l.take i.toNat ++ v ++ l.drop i.toNat).map (Write.row true)) ∧ a = [.any, i64 i, .sl false 3 (v.map (Write.row false))]) := Q13_
open Go.Proofs.Wb renaming H82 → z0_, zJj → z1_ in
theorem zHC (l : List Clock) (f : Nat) (caps : List T) (p : Clock → Bool) (hent : zBN p_ f = true) (hcap : caps.all T.cap = true) (hl : l.length ≤ maxLen) (hp : ∀ x, x ∈ l → ACall p_ f ([.agg (Clock.row false x)] ++ caps) (fun r _ => r = bl (p x))) :
  ACall p_ 82 [.sl false 1 (l.map (Clock.row false)), .fn f caps] (fun r _ => r = bl (l.any p)) := zHk
open Go.Proofs.Wb renaming H165 → z0_, zK1 → z1_ in
theorem zIz (l : List Got) (f : Nat) (caps : List T) (p : Got → Bool) (hent : zBN p_ f = true) (hcap : caps.all T.cap = true) (hl : l.length ≤ maxLen) (hp : ∀ x, x ∈ l → ACall p_ f ([.agg (Got.row false x)] ++ caps) (fun r _ => r = bl (p x))) :
  ACall p_ 165 [.sl false 3 (l.map (Got.row false)), .fn f caps] (fun r _ => r = bl (l.any p)) := zHk
open Go.Proofs.Wb renaming H261 → z0_, zJ5 → z1_ in
theorem zH9 (l : List Held) (f : Nat) (caps : List T) (p : Held → Bool) (hent : zBN p_ f = true) (hcap : caps.all T.cap = true) (hl : l.length ≤ maxLen) (hp : ∀ x, x ∈ l → ACall p_ f ([.agg (Held.row false x)] ++ caps) (fun r _ => r = bl (p x))) :
  ACall p_ 261 [.sl false 5 (l.map (Held.row false)), .fn f caps] (fun r _ => r = bl (l.any p)) := zHk
open Go.Proofs.Wb renaming H124 → z0_, zJ6 → z1_ in
theorem zIa (l : List Lock) (f : Nat) (caps : List T) (p : Lock → Bool) (hent : zBN p_ f = true) (hcap : caps.all T.cap = true) (hl : l.length ≤ maxLen) (hp : ∀ x, x ∈ l → ACall p_ f ([.agg (Lock.row false x)] ++ caps) (fun r _ => r = bl (p x))) :
  ACall p_ 124 [.sl false 3 (l.map (Lock.row false)), .fn f caps] (fun r _ => r = bl (l.any p)) := zHk
open Go.Proofs.Wb renaming H190 → z0_, zLR → z1_ in
theorem zJn (l : List Op) (f : Nat) (caps : List T) (p : Op → Bool) (hent : zBN p_ f = true) (hcap : caps.all T.cap = true) (hl : l.length ≤ maxLen) (hp : ∀ x, x ∈ l → ACall p_ f ([.agg (Op.row false x)] ++ caps) (fun r _ => r = bl (p x))) :
  ACall p_ 190 [.sl false 4 (l.map (Op.row false)), .fn f caps] (fun r _ => r = bl (l.any p)) := zHk
open Go.Proofs.Wb renaming H120 → z0_, zH8 → z1_ in
theorem zGq (l : List Replica) (f : Nat) (caps : List T) (p : Replica → Bool) (hent : zBN p_ f = true) (hcap : caps.all T.cap = true) (hl : l.length ≤ maxLen) (hp : ∀ x, x ∈ l → ACall p_ f ([.agg (Replica.row false x)] ++ caps) (fun r _ => r = bl (p x))) :
  ACall p_ 120 [.sl false 3 (l.map (Replica.row false)), .fn f caps] (fun r _ => r = bl (l.any p)) := zHk
open Go.Proofs.Wb renaming H88 → z0_, zHb → z1_ in
theorem zFE (l : List WorldLook) (f : Nat) (caps : List T) (p : WorldLook → Bool) (hent : zBN p_ f = true) (hcap : caps.all T.cap = true) (hl : l.length ≤ maxLen) (hp : ∀ x, x ∈ l → ACall p_ f ([.agg (WorldLook.row false x)] ++ caps) (fun r _ => r = bl (p x))) :
  ACall p_ 88 [.sl false 6 (l.map (WorldLook.row false)), .fn f caps] (fun r _ => r = bl (l.any p)) := zHk
open Go.Proofs.Wb renaming H85 → z0_, zHB → z1_ in
theorem zGc (l : List WorldTxn) (f : Nat) (caps : List T) (p : WorldTxn → Bool) (hent : zBN p_ f = true) (hcap : caps.all T.cap = true) (hl : l.length ≤ maxLen) (hp : ∀ x, x ∈ l → ACall p_ f ([.agg (WorldTxn.row false x)] ++ caps) (fun r _ => r = bl (p x))) :
  ACall p_ 85 [.sl false 10 (l.map (WorldTxn.row false)), .fn f caps] (fun r _ => r = bl (l.any p)) := zHk
open Go.Proofs.Wb renaming H141 → z0_, zJk → z1_ in
theorem zDX (l : List Write) (f : Nat) (caps : List T) (p : Write → Bool) (hent : zBN p_ f = true) (hcap : caps.all T.cap = true) (hl : l.length ≤ maxLen) (hp : ∀ x, x ∈ l → ACall p_ f ([.agg (Write.row false x)] ++ caps) (fun r _ => r = bl (p x))) :
  ACall p_ 141 [.sl false 3 (l.map (Write.row false)), .fn f caps] (fun r _ => r = bl (l.any p)) := zHk
open Go.Proofs.Wb renaming H131 → z0_, zK2 → z1_ in
theorem zIA (l : List Int) (f : Nat) (caps : List T) (p : Int → Bool) (hent : zBN p_ f = true) (hcap : caps.all T.cap = true) (hl : l.length ≤ maxLen) (hp : ∀ x, x ∈ l → ACall p_ f ([i64 x] ++ caps) (fun r _ => r = bl (p x))) :
  ACall p_ 131 [.sl false 1 (ints l), .fn f caps] (fun r _ => r = bl (l.any p)) := zHk
theorem zJo (l : List ByteArray) (v : ByteArray) (hl : l.length ≤ maxLen) : ACall p_ 304 [.sl false 1 (strs l), str v] (fun r _ => r = bl (l.any fun x => decide (v = x))) := by
 refine fg H304 fun E hE hH => ?_; simp only [go_sem, hE, hH, zDp]
 repeat' (first | ((with_reducible apply ga) <;> refine gs fun h => ?_) | ((with_reducible apply an); · omega) | ((first | refine zAa ?_ | refine cvA (zLS _ _ hl) ?_); refine st ?_) | refine jn _ ?_ ?_ | (with_reducible first | apply both | apply an | exact ti) | exact fe | refine st ?_ | exact fm | refine s1 ?_)
 rw [zJV]
def bys (code : List Int) : List (List T) := code.map fun b => [.v (.int .u8 b)]
@[go_sem] theorem zAgs (code : List Int) : bys code = code.map fun b => [.v (.int .u8 b)] := rfl
def rng (n lo hi : Int) : Bool := decide (lo ≤ n) && decide (n ≤ hi)
theorem zBy {n lo hi : Int} : rng n lo hi = true ↔ lo ≤ n ∧ n ≤ hi := by simp [rng]
theorem zGd {n lo hi : Int} : rng n lo hi = false ↔ ¬ (lo ≤ n ∧ n ≤ hi) := by rw [← zBy]; simp
open Go.Proofs.Wb renaming H81 → z0_, C81 → z1_ in
theorem zBa (n lo hi : Int) : ACall p_ 81 [i64 n, i64 lo, i64 hi] (fun r _ => r = bl (rng n lo hi)) := Q15_
open Go.Proofs.Wb renaming H69 → z0_, C69 → z1_ in
theorem zBp (n lo hi : Int) : ACall p_ 69 [i64 n, i64 lo, i64 hi] (fun r _ => r = bl (rng n lo hi)) := Q15_
def zK3 (b : Int) : Bool := (decide (97 ≤ b) && decide (b ≤ 122)) || (decide (48 ≤ b) && decide (b ≤ 57))
def hasc (more : ByteArray) (b : Int) : Bool := !zAq (fun i => !decide (b = byt more i)) more.size
def hasB (s more : ByteArray) : Bool := zAq (fun i => zK3 (byt s i) || hasc more (byt s i)) s.size
def zAX (s : ByteArray) : Bool := rng s.size 1 12 && hasB s ⟨⟨[46, 47]⟩⟩
def zC8 (s : ByteArray) : Bool := decide ((s.size : Int) ≤ 24) && hasB s ⟨⟨[46, 45, 44, 95]⟩⟩
theorem zSV (b : Int) : ACall p_ 220 [u8 b] (fun r _ => r = bl (zK3 b)) := by
 refine fg H220 fun E hE hH => ?_; simp only [go_sem, hE, hH, zZ0]
 repeat' (first | ((with_reducible apply ga) <;> refine gs fun h => ?_) | ((with_reducible apply an); · omega) | refine jn _ ?_ ?_ | (with_reducible first | apply both | apply an | exact ti) | exact fe | refine st ?_ | exact fm | refine s1 ?_)
 all_goals (simp_all [zK3] <;> try omega)
theorem zWh (s : ByteArray) (c : UInt8) : decide (firstIdx s c < 0) = zAq (fun i => !decide ((c.toNat : Int) = byt s i)) s.size := by
 rw [Bool.eq_iff_iff, zAE, decide_eq_true_iff]
 have key : ∀ i, i < s.size → ((s[i]! == c) = true ↔ (c.toNat : Int) = byt s i) := by
  intro i hi
  have h1 : s[i]! = s.data.toList.getD i 0 := by
   rw [getElem!_pos s i hi]
   simp [ByteArray.getElem_eq_getElem_data, List.getD]
   rw [getElem?_pos _ _ (by simpa using hi)]
   simp
  rw [h1, byt, beq_iff_eq, ← UInt8.toNat_inj]
  omega
 unfold firstIdx
 cases hf : (List.range s.size).find? fun i => s[i]! == c with
 | some i =>
  dsimp only
  have h1 := List.find?_some hf
  have h2 : i < s.size := by simpa using List.mem_of_find?_eq_some hf
  constructor
  ·intro h; omega
  ·intro h
   have := h i h2
   rw [(key i h2).1 h1] at this
   simp at this
 | none =>
  dsimp only
  constructor
  ·intro _ i hi
   have := List.find?_eq_none.1 hf i (by simpa using hi)
   simp only [Bool.not_eq_true', decide_eq_false_iff_not]
   exact fun e => this ((key i hi).2 e)
  ·intro _; omega
theorem zXK (s : ByteArray) (c : Int) (w : Go.World) : (callFunc 280 #[.string s, .int .u8 c]).run p_ w = .ok (.value (.int .i64 (firstIdx s c.toNat.toUInt8))) w := by
 rw [run_callFunc_extern (e := Extern.BytealgIndexByte.indexByte) zDt (by kernel_rfl) (by kernel_rfl) (by kernel_rfl) (by kernel_rfl), run_indexByte_string]
 rfl
theorem zPD (s : ByteArray) (c : Int) : ACall p_ 249 [str s, u8 c] (fun r _ => r = i64 (firstIdx s c.toNat.toUInt8)) := by
 refine fg H249 fun E hE hH => ?_; simp only [go_sem, hE, hH, C249]
 refine zVy (vs := [.string s, .int .u8 c]) rfl (zXK s c) ?_
 try simp only [go_sem, hE, hH]
open Go.Proofs.Wb renaming H221 → z0_, zZ1 → z1_, zPD → z2_ in
theorem zPE (s : ByteArray) (c : Int) : ACall p_ 221 [str s, u8 c] (fun r _ => r = i64 (firstIdx s c.toNat.toUInt8)) := zP9
theorem zKo (s more : ByteArray) (hs : s.size ≤ maxLen) : ACall p_ 188 [str s, str more] (fun r _ => r = bl (hasB s more)) := by
 have hm := zAf
 refine fg H188 fun E hE hH => ?_; simp only [go_sem, hE, hH, zZH]
 refine zAs s.size (fun j (_ : Unit) => ⟨[(0, str s), (1, str more), (7, i64 s.size), (8, i64 j)], []⟩) (fun j _ => zAq (fun i => zK3 (byt s i) || hasc more (byt s i)) j = true) () rfl ?_
 intro j _ hj hI
 try simp only [go_sem, hE, hH, zRn]
 first | refine zAg (fun h => ?_) (fun h => ?_) | refine zAh (fun h => ?_) (fun h => ?_)
 ·have hb := h
  simp only [nf] at h
  have hlt := h; clear h
  have hf : decide (firstIdx more (byt s j).toNat.toUInt8 < 0) = !hasc more (byt s j) := by
   rw [zWh, hasc, Bool.not_not]
   congr 1; funext i
   congr 2
   simp [byt]
  try refine sb ?_; try exact ⟨⟩
  repeat' (first | ((with_reducible apply ga) <;> refine gs fun h => ?_) | ((with_reducible apply an); · omega) | ((first | refine zAa ?_ | refine cvA (zSV _) ?_ | refine cvA (zPE _ _) ?_); refine st ?_) | refine jn _ ?_ ?_ | (with_reducible first | apply both | apply an | exact ti) | exact fe | refine st ?_ | exact fm | refine s1 ?_)
  ·rw [decide_eq_true h] at hf
   rw [hasB, zAz hlt (by simp_all)]
  ·rw [decide_eq_false (by omega)] at hf
   exact ⟨(), rfl, zAd hI (by simp_all)⟩
  ·exact ⟨(), rfl, zAd hI (by simp_all)⟩
 ·try simp (disch := omega) only [go_sem, hE, hH, h]
  simp only [nf] at h
  rw [show j = s.size by omega] at hI
  rw [hasB, hI]
theorem zLU (s more : ByteArray) (hs : s.size ≤ maxLen) (hm : more.size ≤ maxLen) : ACall p_ 154 [str s, str more] (fun r _ => r = bl (hasB s more)) := by
 have hmx := zAf
 refine fg H154 fun E hE hH => ?_; simp only [go_sem, hE, hH, zZr]
 refine zAs s.size (fun j (_ : Unit) => ⟨[(0, str s), (1, str more), (5, i64 j)], []⟩) (fun j _ => zAq (fun i => zK3 (byt s i) || hasc more (byt s i)) j = true) () rfl ?_
 intro j _ hj hI
 try simp only [go_sem, hE, hH, zRl]
 first | refine zAg (fun h => ?_) (fun h => ?_) | refine zAh (fun h => ?_) (fun h => ?_)
 ·have hb := h
  simp only [nf] at h
  have hlt := h; clear h
  try refine sb ?_; try exact ⟨⟩
  repeat' (first | ((with_reducible apply ga) <;> refine gs fun h => ?_) | ((with_reducible apply an); · omega) | refine jn _ ?_ ?_ | (with_reducible first | apply both | apply an | exact ti) | exact fe | refine st ?_ | exact fm | refine s1 ?_)
  all_goals (
   refine zA0 more.size (fun k (_ : Unit) => ⟨[(0, str s), (1, str more), (5, i64 j), (6, bl (zK3 (byt s j) || !zAq (fun i => !decide (byt s j = byt more i)) k)), (7, i64 k)], []⟩) (fun _ _ => True) () ?_ trivial ?_
   ·simp_all [zK3, zAq]
    try omega
   intro k _ hk _
   try simp only [go_sem, hE, hH, zRk]
   first | refine zAg (fun h => ?_) (fun h => ?_) | refine zAh (fun h => ?_) (fun h => ?_)
   ·try simp (disch := omega) only [go_sem, hE, hH, h]
    simp only [nf] at h
    repeat' (first | ((with_reducible apply ga) <;> refine gs fun h => ?_) | ((with_reducible apply an); · omega) | refine jn _ ?_ ?_ | (with_reducible first | apply both | apply an | exact ti) | exact fe | refine st ?_ | exact fm | refine s1 ?_)
    ·exact ⟨(), by simp_all [zAq]; rcases h with h | h <;> simp [h]⟩
    ·exact ⟨(), by simp_all [zAq]⟩
   ·try simp (disch := omega) only [go_sem, hE, hH, h]
    simp only [nf] at h
    rw [show k = more.size by omega]
    repeat' (first | ((with_reducible apply ga) <;> refine gs fun h => ?_) | ((with_reducible apply an); · omega) | refine jn _ ?_ ?_ | (with_reducible first | apply both | apply an | exact ti) | exact fe | refine st ?_ | exact fm | refine s1 ?_)
    ·rw [hasB, zAz hlt (by simp_all [hasc])]
    ·exact ⟨(), rfl, zAd hI (by simp_all [hasc])⟩)
 ·try simp (disch := omega) only [go_sem, hE, hH, h]
  simp only [nf] at h
  rw [show j = s.size by omega] at hI
  rw [hasB, hI]
theorem zFF (s : ByteArray) (hs : s.size ≤ maxLen) : ACall p_ 159 [str s] (fun r _ => r = bl (zAX s)) := by
 refine fg H159 fun E hE hH => ?_; simp only [go_sem, hE, hH, zZv]
 repeat' (first | ((with_reducible apply ga) <;> refine gs fun h => ?_) | ((with_reducible apply an); · omega) | ((first | refine zAa ?_ | refine cvA (zBa _ _ _) ?_ | refine cvA (zKo _ _ hs) ?_); refine st ?_) | refine jn _ ?_ ?_ | (with_reducible first | apply both | apply an | exact ti) | exact fe | refine st ?_ | exact fm | refine s1 ?_)
 all_goals simp_all [zAX]
theorem zDi (s : ByteArray) (hs : s.size ≤ maxLen) : ACall p_ 104 [str s] (fun r _ => r = bl (zAX s)) := by
 refine fg H104 fun E hE hH => ?_; simp only [go_sem, hE, hH, zYT]
 repeat' (first | ((with_reducible apply ga) <;> refine gs fun h => ?_) | ((with_reducible apply an); · omega) | ((first | refine zAa ?_ | refine cvA (zBp _ _ _) ?_ | refine cvA (zLU _ _ hs (by decide)) ?_); refine st ?_) | refine jn _ ?_ ?_ | (with_reducible first | apply both | apply an | exact ti) | exact fe | refine st ?_ | exact fm | refine s1 ?_)
 all_goals simp_all [zAX]
def zBU (l : List ByteArray) : Bool := zAq (fun i => zAX (nth l i) && (decide (i = 0) || zAj (nth l (i - 1)) (nth l i))) l.length
theorem zDj (l : List ByteArray) (hl : zA1 (fun s => s.size ≤ maxLen) l) : ACall p_ 117 [.sl false 1 (strs l)] (fun r _ => r = bl (zBU l)) := by
 obtain ⟨hl, hx⟩ := hl
 have hmx := zAf
 refine fg H117 fun E hE hH => ?_; simp only [go_sem, hE, hH, zY4]
 refine zAs l.length (fun j (_ : Unit) => ⟨[(0, .sl false 1 (strs l)), (5, .sl false 1 (strs l)), (6, i64 l.length), (7, i64 j)], []⟩) (fun j _ => zAq (fun i => zAX (nth l i) && (decide (i = 0) || zAj (nth l (i - 1)) (nth l i))) j = true) () rfl ?_
 intro j _ hj hI
 try simp only [go_sem, hE, hH, zRe]
 first | refine zAg (fun h => ?_) (fun h => ?_) | refine zAh (fun h => ?_) (fun h => ?_)
 ·have hb := h
  simp only [nf] at h
  have hlt := h; clear h
  have hs := hx _ (zAc hlt)
  try refine sb ?_; try exact ⟨⟩
  repeat' (first | ((with_reducible apply ga) <;> refine gs fun h => ?_) | ((with_reducible apply an); · omega) | ((first | refine zAa ?_ | refine cvA (zFF _ (by assumption)) ?_); refine st ?_) | refine jn _ ?_ ?_ | (with_reducible first | apply both | apply an | exact ti) | exact fe | refine st ?_ | exact fm | refine s1 ?_)
  ·rw [zBU, zAz hlt (by simp_all)]
  ·rw [zBU, zAz hlt (by simp_all <;> omega)]
  ·exact ⟨(), rfl, zAd hI (by simp_all)⟩
  ·exact ⟨(), rfl, zAd hI (by simp_all <;> omega)⟩
 ·try simp (disch := omega) only [go_sem, hE, hH, h]
  simp only [nf] at h
  rw [show j = l.length by omega] at hI
  rw [zBU, hI]
def zGe (l : List Int) (lo hi : Int) : Bool := zAq (fun i => rng (nth l i) lo hi) l.length
theorem zPF (l : List Int) (lo hi : Int) (hl : l.length ≤ maxLen) : ACall p_ 63 [.sl false 1 (ints l), i64 lo, i64 hi] (fun r _ => r = bl (zGe l lo hi)) := by
 have hmx := zAf
 refine fg H63 fun E hE hH => ?_; simp only [go_sem, hE, hH, C63]
 refine zAs l.length (fun j (_ : Unit) => ⟨[(1, i64 lo), (2, i64 hi), (9, .sl false 1 (ints l)), (10, i64 l.length), (11, i64 j)], []⟩) (fun j _ => zAq (fun i => rng (nth l i) lo hi) j = true) () rfl ?_
 intro j _ hj hI
 try simp only [go_sem, hE, hH, zUs]
 first | refine zAg (fun h => ?_) (fun h => ?_) | refine zAh (fun h => ?_) (fun h => ?_)
 ·have hb := h
  simp only [nf] at h
  have hlt := h; clear h
  try refine sb ?_; try exact ⟨⟩
  repeat' (first | ((with_reducible apply ga) <;> refine gs fun h => ?_) | ((with_reducible apply an); · omega) | ((first | refine zAa ?_ | refine cvA (zBp _ _ _) ?_); refine st ?_) | refine jn _ ?_ ?_ | (with_reducible first | apply both | apply an | exact ti) | exact fe | refine st ?_ | exact fm | refine s1 ?_)
  ·rw [zGe, zAz hlt h]
  ·exact ⟨(), rfl, zAd hI h⟩
 ·try simp (disch := omega) only [go_sem, hE, hH, h]
  simp only [nf] at h
  rw [show j = l.length by omega] at hI
  rw [zGe, hI]
theorem zWi (l : List Int) (lo hi : Int) : (!l.any fun n => !rng n lo hi) = zGe l lo hi := by
 rw [zGe, zAQ (p := fun n => rng n lo hi)]
 simp [List.any_eq_not_all_not]
end Go.Proofs.Wb

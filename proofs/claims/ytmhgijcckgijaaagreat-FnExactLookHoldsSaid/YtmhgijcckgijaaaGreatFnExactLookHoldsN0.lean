import Derived.Test.YtmhgijcckgijaaaGreatFnExactLookHoldsTy
import Derived.Laws.Externs
set_option linter.unusedSimpArgs false
set_option linter.unusedVariables false
set_option linter.unusedSectionVars false
namespace Go.Proofs.Wb
open Go Go.Am
section
variable {α : Type} [Inhabited α] {κ : Type} [DecidableEq κ]
theorem zMK {p : Nat → Bool} {n : Nat} : ∀ {m : Nat}, n ≤ m → zCE p n ≤ zCE p m
 | 0, h => by rw [show n = 0 by omega]; exact Nat.le_refl _
 | m + 1, h => by
  by_cases e : n = m + 1
  ·rw [e]; exact Nat.le_refl _
  ·have := zMK (p := p) (n := n) (m := m) (by omega)
   simp only [zCE]
   omega
def fxI (lt : κ → κ → Bool) (f : α → κ) (l : List α) (k : κ) : Nat := zCE (fun i => lt (f (nth l i)) k) l.length
def fxF (f : α → κ) (l : List α) (k : κ) : Bool := l.any fun x => decide (f x = k)
def zA2 (lt : κ → κ → Bool) (f : α → κ) (l : List α) : Prop := ∀ i j, i < j → j < l.length → lt (f (nth l i)) (f (nth l j)) = true
structure Ord (lt : κ → κ → Bool) (cmp : κ → κ → Int) : Prop where
 neg : ∀ a b, cmp a b < 0 ↔ lt a b = true
 zero : ∀ a b, cmp a b = 0 ↔ a = b
 irr : ∀ a, lt a a = false
 trans : ∀ a b c, lt a b = true → lt b c = true → lt a c = true
 total : ∀ a b, lt a b = true ∨ a = b ∨ lt b a = true
variable {lt : κ → κ → Bool} {cmp : κ → κ → Int} {f : α → κ} {l : List α} {k : κ}
theorem Ord.asym (O : Ord lt cmp) {a b : κ} (h : lt a b = true) : lt b a = false := by
 cases h2 : lt b a
 ·rfl
 ·have := O.trans _ _ _ h h2; rw [O.irr] at this; cases this
theorem Ord.ge (O : Ord lt cmp) {a b : κ} (h : lt a b = false) : a = b ∨ lt b a = true := by
 rcases O.total a b with h1 | h1 | h1
 ·rw [h] at h1; cases h1
 ·exact .inl h1
 ·exact .inr h1
theorem zDx : fxI lt f l k ≤ l.length := zGS
theorem zGX (O : Ord lt cmp) (hs : zA2 lt f l) {i : Nat} (hi : i < l.length) : i < fxI lt f l k ↔ lt (f (nth l i)) k = true := by
 constructor
 ·intro h
  by_cases hb : lt (f (nth l i)) k = true
  ·exact hb
  ·exfalso
   have : fxI lt f l k ≤ i := by
    unfold fxI
    rw [zER (Nat.le_of_lt hi) (fun j a b => ?_)]
    ·exact zGS
    ·by_cases e : j = i
     ·rw [e]; simpa using hb
     ·cases h2 : lt (f (nth l j)) k
      ·rfl
      ·exact absurd (O.trans _ _ _ (hs i j (by omega) b) h2) hb
   omega
 ·intro h
  unfold fxI
  have h1 := zFB (p := fun i => lt (f (nth l i)) k) (n := i + 1) (zAE.2 fun j hj => by
   by_cases e : j = i
   ·rw [e]; exact h
   ·exact O.trans _ _ _ (hs j i (by omega) hi) h)
  have h2 := zMK (p := fun i => lt (f (nth l i)) k) (n := i + 1) (m := l.length) (by omega)
  omega
theorem zKO (O : Ord lt cmp) (hs : zA2 lt f l) {i : Nat} (hi : i < l.length) (h : f (nth l i) = k) : fxI lt f l k = i := by
 have h1 : ¬ i < fxI lt f l k := by rw [zGX O hs hi, h, O.irr]; simp
 by_cases h2 : fxI lt f l k < i
 ·have h3 := (zGX (k := k) O hs (show fxI lt f l k < l.length by omega)).2 (by have := hs _ _ h2 hi; rwa [h] at this)
  omega
 ·omega
theorem zCY : fxF f l k = true ↔ ∃ i, i < l.length ∧ f (nth l i) = k := by
 unfold fxF
 rw [List.any_eq_true]
 constructor
 ·rintro ⟨x, hx, h1⟩
  obtain ⟨i, hi, rfl⟩ := List.getElem_of_mem hx
  exact ⟨i, hi, by rw [zBd hi]; simpa using h1⟩
 ·rintro ⟨i, hi, h1⟩; exact ⟨_, zAh hi, by simpa using h1⟩
theorem zEr (O : Ord lt cmp) (hs : zA2 lt f l) (h : fxF f l k = true) : fxI lt f l k < l.length ∧ f (nth l (fxI lt f l k)) = k := by
 obtain ⟨i, hi, h1⟩ := zCY.1 h
 rw [zKO O hs hi h1]; exact ⟨hi, h1⟩
theorem zRL (O : Ord lt cmp) (hs : zA2 lt f l) (k : κ) : bsI (fun x => cmp (f x) k) l = fxI lt f l k ∧ bsF (fun x => cmp (f x) k) l = fxF f l k := by
 have e1 : bsI (fun x => cmp (f x) k) l = fxI lt f l k := by
  unfold bsI fxI
  congr 1; funext i
  rw [Bool.eq_iff_iff, decide_eq_true_iff, O.neg]
 refine ⟨e1, ?_⟩
 rw [Bool.eq_iff_iff]
 unfold bsF
 rw [e1, Bool.and_eq_true, decide_eq_true_iff, decide_eq_true_iff, O.zero]
 constructor
 ·rintro ⟨h1, h2⟩; exact zCY.2 ⟨_, h1, h2⟩
 ·intro h; exact zEr O hs h
theorem zLS (O : Ord lt cmp) (hs : zA2 lt f l) (i j : Nat) (h1 : i < j) (h2 : j < l.length) (h3 : 0 ≤ cmp (f (nth l i)) k) : 0 ≤ cmp (f (nth l j)) k := by
 rw [← Int.not_lt, O.neg] at h3 ⊢
 exact fun h => h3 (O.trans _ _ _ (hs i j h1 h2) h)
def putAt (l : List α) (i : Nat) (x : α) : List α := l.take i ++ x :: l.drop i
theorem zBD {i : Nat} {x : α} (hi : i ≤ l.length) : (putAt l i x).length = l.length + 1 := by
 simp [putAt]; omega
theorem zIy {i j : Nat} {x : α} (hi : i ≤ l.length) : nth (putAt l i x) j = if j < i then nth l j else if j = i then x else nth l (j - 1) := by
 unfold putAt nth
 simp only [List.getD, List.getElem?_append, List.length_take, Nat.min_eq_left hi]
 split
 ·rename_i h; rw [List.getElem?_take_of_lt h]
 ·rename_i h
  by_cases e : j = i
  ·subst e; simp
  ·rw [if_neg e, List.getElem?_cons, if_neg (by omega), List.getElem?_drop]
   congr 2; omega
theorem zF4 (O : Ord lt cmp) (hs : zA2 lt f l) {x : α} (h : fxF f l (f x) = false) : zA2 lt f (putAt l (fxI lt f l (f x)) x) := by
 intro i j h1 h2
 have hle := zDx (lt := lt) (f := f) (l := l) (k := f x)
 rw [zBD hle] at h2
 rw [zIy hle, zIy hle]
 have lo : ∀ i, i < fxI lt f l (f x) → lt (f (nth l i)) (f x) = true := fun i hi => (zGX O hs (by omega)).1 hi
 have hi : ∀ i, fxI lt f l (f x) ≤ i → i < l.length → lt (f x) (f (nth l i)) = true := by
  intro i h3 h4
  have h5 : lt (f (nth l i)) (f x) = false := by
   cases h6 : lt (f (nth l i)) (f x)
   ·rfl
   ·have := (zGX O hs h4).2 h6; omega
  rcases O.ge h5 with h6 | h6
  ·have : fxF f l (f x) = true := zCY.2 ⟨i, h4, h6⟩
   rw [h] at this; cases this
  ·exact h6
 by_cases a : j < fxI lt f l (f x)
 ·rw [if_pos (by omega), if_pos a]; exact hs i j h1 (by omega)
 ·rw [if_neg a]
  by_cases b : j = fxI lt f l (f x)
  ·rw [if_pos b, if_pos (by omega)]; exact lo i (by omega)
  ·rw [if_neg b]
   by_cases c : i < fxI lt f l (f x)
   ·rw [if_pos c]; exact hs i (j - 1) (by omega) (by omega)
   ·rw [if_neg c]
    by_cases d : i = fxI lt f l (f x)
    ·rw [if_pos d]; exact hi (j - 1) (by omega) (by omega)
    ·rw [if_neg d]; exact hs (i - 1) (j - 1) (by omega) (by omega)
def dnI (p : α → Bool) (l : List α) : Nat → Nat
 | 0 => 0
 | n + 1 => if p (nth l n) then dnI p l n else n + 1
theorem zES {p : α → Bool} {j : Nat} : ∀ {n : Nat}, j ≤ n → (∀ i, j ≤ i → i < n → p (nth l i) = true) → (j = 0 ∨ p (nth l (j - 1)) = false) → dnI p l n = j
 | 0, h, _, _ => by simp [dnI]; omega
 | n + 1, h, h1, h2 => by
  unfold dnI
  by_cases e : j = n + 1
  ·subst e
   rcases h2 with h2 | h2
   ·omega
   ·rw [show n + 1 - 1 = n by omega] at h2; rw [h2]; rfl
  ·rw [h1 n (by omega) (by omega), if_pos rfl]
   exact zES (by omega) (fun i a b => h1 i a (by omega)) h2
theorem zKP (O : Ord lt cmp) (hs : zA2 lt f l) {x : α} (h : fxF f l (f x) = false) : dnI (fun y => lt (f x) (f y)) l l.length = fxI lt f l (f x) := by
 refine zES zDx (fun i h3 h4 => ?_) ?_
 ·have h5 : lt (f (nth l i)) (f x) = false := by
   cases h6 : lt (f (nth l i)) (f x)
   ·rfl
   ·have := (zGX O hs h4).2 h6; omega
  rcases O.ge h5 with h6 | h6
  ·have : fxF f l (f x) = true := zCY.2 ⟨i, h4, h6⟩
   rw [h] at this; cases this
  ·exact h6
 ·by_cases e : fxI lt f l (f x) = 0
  ·exact .inl e
  ·exact .inr (O.asym ((zGX O hs (by have := zDx (lt := lt) (f := f) (l := l) (k := f x); omega)).1 (by omega)))
def cutAt (l : List α) (i : Nat) : List α := l.take i ++ l.drop (i + 1)
theorem zOx (O : Ord lt cmp) (hs : zA2 lt f l) {i : Nat} (hi : i < l.length) : cutAt l i = l.filter fun x => !decide (f x = f (nth l i)) := by
 have e : l = l.take i ++ nth l i :: l.drop (i + 1) := by
  rw [zBd hi]; simp
 have h1 : (l.take i).filter (fun x => !decide (f x = f (nth l i))) = l.take i := by
  rw [List.filter_eq_self]
  intro x hx
  obtain ⟨j, hj, rfl⟩ := List.getElem_of_mem hx
  simp only [List.length_take] at hj
  rw [List.getElem_take, ← zBd (by omega)]
  have := hs j i (by omega) hi
  simp only [Bool.not_eq_true', decide_eq_false_iff_not]
  intro e; rw [e, O.irr] at this; cases this
 have h2 : (l.drop (i + 1)).filter (fun x => !decide (f x = f (nth l i))) = l.drop (i + 1) := by
  rw [List.filter_eq_self]
  intro x hx
  obtain ⟨j, hj, rfl⟩ := List.getElem_of_mem hx
  simp only [List.length_drop] at hj
  rw [List.getElem_drop, ← zBd (by omega)]
  have := hs i (i + 1 + j) (by omega) (by omega)
  simp only [Bool.not_eq_true', decide_eq_false_iff_not]
  intro e; rw [e, O.irr] at this; cases this
 have h3 : (l.take i ++ nth l i :: l.drop (i + 1)).filter (fun x => !decide (f x = f (nth l i))) = cutAt l i := by
  rw [List.filter_append, List.filter_cons, h1, h2]
  simp [cutAt]
 rw [← e] at h3
 exact h3.symm
theorem zML {i : Nat} (hi : i < l.length) : (cutAt l i).length + 1 = l.length := by simp [cutAt]; omega
theorem zTj (hs : zA2 lt f l) {i : Nat} (hi : i < l.length) : zA2 lt f (cutAt l i) := by
 have hn : ∀ j, nth (cutAt l i) j = if j < i then nth l j else nth l (j + 1) := by
  intro j
  unfold cutAt nth
  simp only [List.getD, List.getElem?_append, List.length_take, Nat.min_eq_left (Nat.le_of_lt hi)]
  split
  ·rename_i h; rw [List.getElem?_take_of_lt h]
  ·rw [List.getElem?_drop]; congr 2; omega
 intro a b h1 h2
 have := zML hi
 rw [hn, hn]
 by_cases c : b < i
 ·rw [if_pos (by omega), if_pos c]; exact hs a b h1 (by omega)
 ·rw [if_neg c]
  by_cases d : a < i
  ·rw [if_pos d]; exact hs a (b + 1) (by omega) (by omega)
  ·rw [if_neg d]; exact hs (a + 1) (b + 1) (by omega) (by omega)
theorem zF5 {i : Nat} {x y : α} : y ∈ putAt l i x ↔ y = x ∨ y ∈ l := by
 unfold putAt
 conv => rhs; rw [← List.take_append_drop i l]
 simp only [List.mem_append, List.mem_cons]
 constructor
 ·rintro (h | h | h) <;> simp [h]
 ·rintro (h | h | h) <;> simp [h]
theorem zTk {i : Nat} {y : α} (h : y ∈ cutAt l i) : y ∈ l := by
 unfold cutAt at h
 rcases List.mem_append.1 h with h | h
 ·exact List.mem_of_mem_take h
 ·exact List.mem_of_mem_drop h
end
def ltI (a b : Int) : Bool := decide (a < b)
open Go.Proofs.Wb renaming H206 → z0_, zNw → z1_, Cell.row → z3_, zJ5 → z5_ in
open Go.Am renaming k2_ → z2_, str → z4_ in
theorem zFG (l : List Cell) (key : ByteArray) (f : Nat) (caps : List T) (c : Cell → Int) (hent : zBI Tryz.prog f = true) (hcap : caps.all T.cap = true) (hl : l.length ≤ 2 ^ 60) (hm : ∀ i j, i < j → j < l.length → 0 ≤ c (nth l i) → 0 ≤ c (nth l j)) (hp : ∀ x, x ∈ l → ACall Tryz.prog f ([.agg (Cell.row false x), str key] ++ caps) (fun r _ => r = i64 (c x))) :
  ACall Tryz.prog 206 [.sl false 2 (l.map (Cell.row false)), str key, .fn f caps] (fun r _ => r = .tup [i64 (bsI c l), bl (bsF c l)]) := zSl
open Go.Proofs.Wb renaming H259 → z0_, zNw → z1_, Held.row → z3_, zJ5 → z5_ in
open Go.Am renaming k5_ → z2_, i64 → z4_ in
theorem zFH (l : List Held) (key : Int) (f : Nat) (caps : List T) (c : Held → Int) (hent : zBI Tryz.prog f = true) (hcap : caps.all T.cap = true) (hl : l.length ≤ 2 ^ 60) (hm : ∀ i j, i < j → j < l.length → 0 ≤ c (nth l i) → 0 ≤ c (nth l j)) (hp : ∀ x, x ∈ l → ACall Tryz.prog f ([.agg (Held.row false x), i64 key] ++ caps) (fun r _ => r = i64 (c x))) :
  ACall Tryz.prog 259 [.sl false 5 (l.map (Held.row false)), i64 key, .fn f caps] (fun r _ => r = .tup [i64 (bsI c l), bl (bsF c l)]) := zSl
open Go.Proofs.Wb renaming H253 → z0_, zNu → z1_, Told.row → z3_, zJ4 → z5_ in
open Go.Am renaming k3_ → z2_, i64 → z4_ in
theorem zFI (l : List Told) (key : Int) (f : Nat) (caps : List T) (c : Told → Int) (hent : zBI Tryz.prog f = true) (hcap : caps.all T.cap = true) (hl : l.length ≤ 2 ^ 60) (hm : ∀ i j, i < j → j < l.length → 0 ≤ c (nth l i) → 0 ≤ c (nth l j)) (hp : ∀ x, x ∈ l → ACall Tryz.prog f ([.agg (Told.row false x), i64 key] ++ caps) (fun r _ => r = i64 (c x))) :
  ACall Tryz.prog 253 [.sl false 3 (l.map (Told.row false)), i64 key, .fn f caps] (fun r _ => r = .tup [i64 (bsI c l), bl (bsF c l)]) := zSl
open Go.Proofs.Wb renaming H189 → z0_, zNu → z1_, Write.row → z3_, zJ4 → z5_ in
open Go.Am renaming k3_ → z2_, str → z4_ in
theorem zE9 (l : List Write) (key : ByteArray) (f : Nat) (caps : List T) (c : Write → Int) (hent : zBI Tryz.prog f = true) (hcap : caps.all T.cap = true) (hl : l.length ≤ 2 ^ 60) (hm : ∀ i j, i < j → j < l.length → 0 ≤ c (nth l i) → 0 ≤ c (nth l j)) (hp : ∀ x, x ∈ l → ACall Tryz.prog f ([.agg (Write.row false x), str key] ++ caps) (fun r _ => r = i64 (c x))) :
  ACall Tryz.prog 189 [.sl false 3 (l.map (Write.row false)), str key, .fn f caps] (fun r _ => r = .tup [i64 (bsI c l), bl (bsF c l)]) := zSl
open Go.Proofs.Wb renaming H278 → z0_, zED → z1_ in
theorem zM7 (l : List Cell) (hl : l.length ≤ 2 ^ 20) : ACall Tryz.prog 278 [.sl false 2 (l.map (Cell.row false))] (fun r _ => r = .sl true 2 (l.map (Cell.row false))) := zMb
open Go.Proofs.Wb renaming H265 → z0_, zED → z1_ in
theorem zM8 (l : List Held) (hl : l.length ≤ 2 ^ 20) : ACall Tryz.prog 265 [.sl false 5 (l.map (Held.row false))] (fun r _ => r = .sl true 5 (l.map (Held.row false))) := zMb
open Go.Proofs.Wb renaming H251 → z0_, zED → z1_ in
theorem zM9 (l : List Told) (hl : l.length ≤ 2 ^ 20) : ACall Tryz.prog 251 [.sl false 3 (l.map (Told.row false))] (fun r _ => r = .sl true 3 (l.map (Told.row false))) := zMb
open Go.Proofs.Wb renaming H279 → z0_, zED → z1_ in
theorem zOy (l : List Ver) (hl : l.length ≤ 2 ^ 20) : ACall Tryz.prog 279 [.sl false 3 (l.map (Ver.row false))] (fun r _ => r = .sl true 3 (l.map (Ver.row false))) := zMb
open Go.Proofs.Wb renaming H269 → z0_, zED → z1_ in
theorem zLT (l : List Write) (hl : l.length ≤ 2 ^ 20) : ACall Tryz.prog 269 [.sl false 3 (l.map (Write.row false))] (fun r _ => r = .sl true 3 (l.map (Write.row false))) := zMb
open Go.Proofs.Wb renaming H268 → z0_, zYS → z1_ in
theorem zKQ (l : List ByteArray) (hl : l.length ≤ 2 ^ 20) : ACall Tryz.prog 268 [.sl false 1 (strs l)] (fun r _ => r = .sl true 1 (strs l)) := zMb
theorem zIz (l : List (List Value)) (i j : Int) (hi : 0 ≤ i) (hij : i ≤ j) (hj : j ≤ l.length) (hl : l.length ≤ maxLen) (hk : ∀ r ∈ l, r.length = 5) (ho : ∀ r ∈ l, (zAq r).all T.storable = true) : ACall Tryz.prog 257 [.sl true 5 (l.map (zAq)), i64 i, i64 j] (fun r a => r = .sl true 5 ((l.take i.toNat ++ l.drop j.toNat).map (zAq)) ∧ a = [.any, i64 i, i64 j]) := by
 have hmx := zAi
 have hij' : i.toNat ≤ j.toNat := by omega
 have hj' : j.toNat ≤ l.length := by omega
 have e1 := zHm (f := zAq) hij' hj'
 have e2 := fun z => zUh (f := zAq) (z := z) hij' hj'
 have e3 := fun Z => zUi (f := zAq) (Z := Z) hij' hj'
 refine zOh [true, false, false] (hqA zYM) (hqB zYM) ⟨by simp only [go_sem], fun E hE hH => ?_⟩; simp only [go_sem] at hE hH; simp only [go_sem, hE, hH, zYL]
 repeat' (first | ((with_reducible first | refine zAa ?_ ?_ | refine zAb ?_ ?_) <;> (intro h; have hb := h; (try simp only [nf] at h); simp (disch := omega) only [go_sem, hE, hH, e1, e2, e3, Option.isSome_some, hb]; (try clear hb))) | ((with_reducible refine And.intro ?_ ?_); · omega) | refine jn _ ?_ ?_ | (with_reducible first | refine both ?_ ?_ | refine And.intro ?_ ?_) | (refine zAj ?_; (try (simp (disch := omega) only [go_sem, hE, hH, e1, e2, e3, Option.isSome_some])); first | done | rfl) | (simp (disch := omega) only [go_sem, hE, hH, e1, e2, e3, Option.isSome_some]) | ((first | apply zAe | apply zAl) <;> (simp only [go_sem, hE, hH, e1, e2, e3, Option.isSome_some]; done)) | (simp only [go_sem, hE, hH, e1, e2, e3, Option.isSome_some]) | fail)
 all_goals try (rw [List.all_eq_true]; intro x hx; exact ho x (List.mem_of_mem_drop (List.mem_of_mem_take hx)))
 ·subst h
  rw [List.take_append_drop]
 ·rw [List.length_take, List.length_drop]; omega
theorem zLU (l : List Held) (i j : Int) (hi : 0 ≤ i) (hij : i ≤ j) (hj : j ≤ l.length) (hl : l.length ≤ maxLen) : ACall Tryz.prog 257 [.sl true 5 (l.map (Held.row true)), i64 i, i64 j] (fun r a => r = .sl true 5 ((l.take i.toNat ++ l.drop j.toNat).map (Held.row true)) ∧ a = [.any, i64 i, i64 j]) := by
 have h := zUC (P := Tryz.prog) (f := 257) (k := 5) (rows := l.map (Held.row true)) (i := i) (j := j) (by rw [List.all_map, List.all_eq_true]; intro x _; rfl) (fun raws h1 h2 h3 => zIz raws i j hi hij (by rw [h1, List.length_map]; exact hj) (by rw [h1, List.length_map]; exact hl) h2 h3) (by omega)
 rw [← List.map_take, ← List.map_drop, ← List.map_append] at h
 exact h
open Go.Proofs.Wb renaming H137 → z0_, zEC → z1_, Clock.row → z3_, zEg → z4_ in
open Go.Am renaming k1_ → z2_ in
theorem zIA (l : List Clock) (f : Nat) (caps : List T) (p : Clock → Bool) (hent : zBI Tryz.prog f = true) (hcap : caps.all T.cap = true) (hl : l.length ≤ maxLen) (hp : ∀ x, x ∈ l → ACall Tryz.prog f ([.agg (Clock.row false x)] ++ caps) (fun r _ => r = bl (p x))) :
  ACall Tryz.prog 137 [.sl false 1 (l.map (Clock.row false)), .fn f caps] (fun r _ => r = i64 (ixf p l)) := zHG
open Go.Proofs.Wb renaming H205 → z0_, zEC → z1_, Got.row → z3_, zEg → z4_ in
open Go.Am renaming k3_ → z2_ in
theorem zJ7 (l : List Got) (f : Nat) (caps : List T) (p : Got → Bool) (hent : zBI Tryz.prog f = true) (hcap : caps.all T.cap = true) (hl : l.length ≤ maxLen) (hp : ∀ x, x ∈ l → ACall Tryz.prog f ([.agg (Got.row false x)] ++ caps) (fun r _ => r = bl (p x))) :
  ACall Tryz.prog 205 [.sl false 3 (l.map (Got.row false)), .fn f caps] (fun r _ => r = i64 (ixf p l)) := zHG
open Go.Proofs.Wb renaming H287 → z0_, zF2 → z1_, Held.row → z3_, zFD → z4_ in
open Go.Am renaming k5_ → z2_ in
theorem zJb (l : List Held) (f : Nat) (caps : List T) (p : Held → Bool) (hent : zBI Tryz.prog f = true) (hcap : caps.all T.cap = true) (hl : l.length ≤ maxLen) (hp : ∀ x, x ∈ l → ACall Tryz.prog f ([.agg (Held.row false x)] ++ caps) (fun r _ => r = bl (p x))) :
  ACall Tryz.prog 287 [.sl false 5 (l.map (Held.row false)), .fn f caps] (fun r _ => r = i64 (ixf p l)) := zHG
open Go.Proofs.Wb renaming H178 → z0_, zEC → z1_, Lock.row → z3_, zEg → z4_ in
open Go.Am renaming k3_ → z2_ in
theorem zJc (l : List Lock) (f : Nat) (caps : List T) (p : Lock → Bool) (hent : zBI Tryz.prog f = true) (hcap : caps.all T.cap = true) (hl : l.length ≤ maxLen) (hp : ∀ x, x ∈ l → ACall Tryz.prog f ([.agg (Lock.row false x)] ++ caps) (fun r _ => r = bl (p x))) :
  ACall Tryz.prog 178 [.sl false 3 (l.map (Lock.row false)), .fn f caps] (fun r _ => r = i64 (ixf p l)) := zHG
open Go.Proofs.Wb renaming H229 → z0_, zEC → z1_, Op.row → z3_, zEg → z4_ in
open Go.Am renaming k4_ → z2_ in
theorem zKR (l : List Op) (f : Nat) (caps : List T) (p : Op → Bool) (hent : zBI Tryz.prog f = true) (hcap : caps.all T.cap = true) (hl : l.length ≤ maxLen) (hp : ∀ x, x ∈ l → ACall Tryz.prog f ([.agg (Op.row false x)] ++ caps) (fun r _ => r = bl (p x))) :
  ACall Tryz.prog 229 [.sl false 4 (l.map (Op.row false)), .fn f caps] (fun r _ => r = i64 (ixf p l)) := zHG
open Go.Proofs.Wb renaming H175 → z0_, zF2 → z1_, Replica.row → z3_, zFD → z4_ in
open Go.Am renaming k3_ → z2_ in
theorem zHx (l : List Replica) (f : Nat) (caps : List T) (p : Replica → Bool) (hent : zBI Tryz.prog f = true) (hcap : caps.all T.cap = true) (hl : l.length ≤ maxLen) (hp : ∀ x, x ∈ l → ACall Tryz.prog f ([.agg (Replica.row false x)] ++ caps) (fun r _ => r = bl (p x))) :
  ACall Tryz.prog 175 [.sl false 3 (l.map (Replica.row false)), .fn f caps] (fun r _ => r = i64 (ixf p l)) := zHG
open Go.Proofs.Wb renaming H144 → z0_, zF2 → z1_, WorldLook.row → z3_, zFD → z4_ in
open Go.Am renaming k6_ → z2_ in
theorem zGz (l : List WorldLook) (f : Nat) (caps : List T) (p : WorldLook → Bool) (hent : zBI Tryz.prog f = true) (hcap : caps.all T.cap = true) (hl : l.length ≤ maxLen) (hp : ∀ x, x ∈ l → ACall Tryz.prog f ([.agg (WorldLook.row false x)] ++ caps) (fun r _ => r = bl (p x))) :
  ACall Tryz.prog 144 [.sl false 6 (l.map (WorldLook.row false)), .fn f caps] (fun r _ => r = i64 (ixf p l)) := zHG
open Go.Proofs.Wb renaming H138 → z0_, zF2 → z1_, WorldTxn.row → z3_, zFD → z4_ in
open Go.Am renaming zSk → z2_ in
theorem zGY (l : List WorldTxn) (f : Nat) (caps : List T) (p : WorldTxn → Bool) (hent : zBI Tryz.prog f = true) (hcap : caps.all T.cap = true) (hl : l.length ≤ maxLen) (hp : ∀ x, x ∈ l → ACall Tryz.prog f ([.agg (WorldTxn.row false x)] ++ caps) (fun r _ => r = bl (p x))) :
  ACall Tryz.prog 138 [.sl false 10 (l.map (WorldTxn.row false)), .fn f caps] (fun r _ => r = i64 (ixf p l)) := zHG
open Go.Proofs.Wb renaming H194 → z0_, zEC → z1_, Write.row → z3_, zEg → z4_ in
open Go.Am renaming k3_ → z2_ in
theorem zIB (l : List Write) (f : Nat) (caps : List T) (p : Write → Bool) (hent : zBI Tryz.prog f = true) (hcap : caps.all T.cap = true) (hl : l.length ≤ maxLen) (hp : ∀ x, x ∈ l → ACall Tryz.prog f ([.agg (Write.row false x)] ++ caps) (fun r _ => r = bl (p x))) :
  ACall Tryz.prog 194 [.sl false 3 (l.map (Write.row false)), .fn f caps] (fun r _ => r = i64 (ixf p l)) := zHG
theorem zJ8 (l : List Int) (f : Nat) (caps : List T) (p : Int → Bool) (hent : zBI Tryz.prog f = true) (hcap : caps.all T.cap = true) (hl : l.length ≤ maxLen) (hp : ∀ x, x ∈ l → ACall Tryz.prog f ([i64 x] ++ caps) (fun r _ => r = bl (p x))) :
  ACall Tryz.prog 182 [.sl false 1 (ints l), .fn f caps] (fun r _ => r = i64 (ixf p l)) := by
 have hmx := zAi
 refine zKC (hqA zXY) (hqB zXY) ⟨by simp only [go_sem, zAp hcap, zAz hcap, zAv hcap, zAC hcap, zAw hcap], fun E hE hH => ?_⟩; simp only [go_sem, zAp hcap, zAz hcap, zAv hcap, zAC hcap, zAw hcap] at hE hH; simp only [go_sem, hE, hH, zAp hcap, zAz hcap, zAv hcap, zAC hcap, zAw hcap, zXX]
 refine zAx l.length (fun j (_ : Unit) => ⟨[(0, .sl false 1 (ints l)), (1, .fn f caps), (7, i64 l.length), (8, i64 j)], []⟩) (fun j _ => zAu (fun i => !p (nth l i)) j = true) () rfl ?_
 intro j _ hj hI
 try simp only [go_sem, hE, hH, zAp hcap, zAz hcap, zAv hcap, zAC hcap, zAw hcap, zQj]
 first | refine zAa (fun h => ?_) (fun h => ?_) | refine zAb (fun h => ?_) (fun h => ?_)
 ·have hb := h
  simp only [nf] at h
  have hlt := h; clear h
  try simp (disch := omega) only [go_sem, hE, hH, zAp hcap, zAz hcap, zAv hcap, zAC hcap, zAw hcap, hb]
  refine And.intro (by omega) ?_
  refine zKD rfl rfl rfl (hent) (hcap) (hp _ (zAh hlt)) ?_
  try simp (disch := omega) only [go_sem, hE, hH, zAp hcap, zAz hcap, zAv hcap, zAC hcap, zAw hcap]
  repeat' (first | ((with_reducible first | refine zAa ?_ ?_ | refine zAb ?_ ?_) <;> (intro h; have hb := h; (try simp only [nf] at h); simp (disch := omega) only [go_sem, hE, hH, zAp hcap, zAz hcap, zAv hcap, zAC hcap, zAw hcap, hb]; (try clear hb))) | ((with_reducible refine And.intro ?_ ?_); · omega) | refine jn _ ?_ ?_ | (with_reducible first | refine both ?_ ?_ | refine And.intro ?_ ?_) | (refine zAj ?_; (try (simp (disch := omega) only [go_sem, hE, hH, zAp hcap, zAz hcap, zAv hcap, zAC hcap, zAw hcap])); first | done | rfl) | (simp (disch := omega) only [go_sem, hE, hH, zAp hcap, zAz hcap, zAv hcap, zAC hcap, zAw hcap]) | ((first | apply zAe | apply zAl) <;> (simp only [go_sem, hE, hH, zAp hcap, zAz hcap, zAv hcap, zAC hcap, zAw hcap]; done)) | (simp only [go_sem, hE, hH, zAp hcap, zAz hcap, zAv hcap, zAC hcap, zAw hcap]) | fail)
  ·rw [zKF hlt hI h]
  ·exact ⟨(), rfl, zAf hI (by simp [h])⟩
 ·try simp (disch := omega) only [go_sem, hE, hH, zAp hcap, zAz hcap, zAv hcap, zAC hcap, zAw hcap, h]
  simp only [nf] at h
  rw [show j = l.length by omega] at hI
  rw [zJ2 hI]
theorem zKS (l : List ByteArray) (v : ByteArray) (hl : l.length ≤ maxLen) : ACall Tryz.prog 305 [.sl false 1 (strs l), str v] (fun r _ => r = i64 (ixf (fun x => decide (v = x)) l)) := by
 have hmx := zAi
 refine fi H305 fun E hE hH => ?_; simp only [go_sem] at hE hH; simp only [go_sem, hE, hH, zZd]
 refine zAx l.length (fun j (_ : Unit) => ⟨[(0, .sl false 1 (strs l)), (1, str v), (7, i64 l.length), (8, i64 j)], []⟩) (fun j _ => zAu (fun i => !decide (v = nth l i)) j = true) () rfl ?_
 intro j _ hj hI
 try simp only [go_sem, hE, hH, zQL]
 first | refine zAa (fun h => ?_) (fun h => ?_) | refine zAb (fun h => ?_) (fun h => ?_)
 ·have hb := h
  simp only [nf] at h
  have hlt := h; clear h
  try simp (disch := omega) only [go_sem, hE, hH, hb]
  refine And.intro (by omega) ?_
  repeat' (first | ((with_reducible first | refine zAa ?_ ?_ | refine zAb ?_ ?_) <;> (intro h; have hb := h; (try simp only [nf] at h); refine sb ?_; (try clear hb))) | ((with_reducible refine And.intro ?_ ?_); · omega) | refine jn _ ?_ ?_ | (with_reducible first | refine both ?_ ?_ | refine And.intro ?_ ?_) | exact fe | refine st ?_ | exact fm | refine s1 ?_ | (with_reducible exact True.intro))
  ·rw [zKF (p := fun x => decide (v = x)) hlt hI (by simp [h])]
  ·exact ⟨(), rfl, zAf hI (by simp [h])⟩
 ·try simp (disch := omega) only [go_sem, hE, hH, h]
  simp only [nf] at h
  rw [show j = l.length by omega] at hI
  rw [zJ2 (p := fun x => decide (v = x)) hI]
set_option maxHeartbeats 2000000 in
theorem zIC (l v : List (List Value)) (i : Int) (hi : 0 ≤ i) (hin : i ≤ l.length) (hl : l.length ≤ 2 ^ 20) (hk : ∀ r ∈ l, r.length = 2) (ho : ∀ r ∈ l, (zAq r).all T.storable = true) (hkv : ∀ r ∈ v, r.length = 2) (hov : ∀ r ∈ v, (zAq r).all T.storable = true) (hv : v.length ≤ 2 ^ 20) : ACall Tryz.prog 283 [.sl true 2 (l.map (zAq)), i64 i, .sl false 2 (v.map (zAq))] (fun r a => r = .sl true 2 ((l.take i.toNat ++ v ++ l.drop i.toNat).map (zAq)) ∧ a = [.any, i64 i, .sl false 2 (v.map (zAq))]) := by
 have hmx := zAi
 refine zOi [true, false, false] 0 2 (l.map (zAq)) (hqA zY3) (hqB zY3) (by simp only [go_sem, List.mem_cons, true_or, or_true]) (by simp only [go_sem]) ⟨by simp only [go_sem], fun E hE hH c hc hF => ?_⟩; simp only [go_sem] at hE hH hc hF; simp only [go_sem, hE, hH, zY2]
 have e0 : l.length + (c - l.length) = c := by omega
 have hn : i.toNat ≤ l.length := by omega
 have t1 : ((l.length : Int) + v.length - i).toNat = l.length + v.length - i.toNat := by omega
 have t2 : (i + (v.length : Int)).toNat = i.toNat + v.length := by omega
 have t3 : ((l.length : Int) + v.length).toNat = l.length + v.length := by omega
 have t4 : i.toNat + (l.length + v.length - i.toNat) = l.length + v.length := by omega
 have t5 : l.length + v.length - (i.toNat + v.length) = l.length - i.toNat := by omega
 have t6 : min (l.length - i.toNat) (l.length + v.length - i.toNat) = l.length - i.toNat := by omega
 have t7 : i.toNat + (l.length - i.toNat) = l.length := by omega
 have a1 := zDE (f := zAq) (l := l) (G := List.replicate (c - l.length) (zBs 2)) (Nat.le_refl l.length)
 have a2 := zDE (f := zAq) (l := l) (G := List.replicate (c - l.length) (zBs 2)) hn
 have a3 := zLw (f := zAq) (l := l) (G := List.replicate (c - l.length) (zBs 2)) hn
 have a4 : v.take (l.length + v.length - i.toNat) = v := List.take_of_length_le (by omega)
 have b1 := fun z => zEe (f := zAq) (g := fun x => (zAq) x) (v := v) (z := z) hn
 have b2 := fun z => zJR (f := zAq) (g := fun x => (zAq) x) (v := v) (z := z) hn
 have b3 := fun z => zIm (f := zAq) (v := v) (z := z) hn
 have b4 := zLx (f := zAq) (v := v) (l := l)
 have d1 := fun z hc => zFy (f := zAq) (m := v.length) (c := c) (z := z) hn hc
 have d2 := fun z hc => zJS (f := zAq) (g := fun x => (zAq) x) (v := v) (c := c) (z := z) hn hc
 have d3 := fun z hc => zJT (f := zAq) (v := v) (c := c) (z := z) hn hc
 have t8 : min (l.length + v.length - i.toNat) v.length = v.length := by omega
 have t9 : i.toNat + v.length + (l.length - i.toNat) = l.length + v.length := by omega
 simp only [go_sem] at a1 a2 a3 b1 b2 b3 b4 d1 d2 d3
 have s1 : ((v.map zAq).all fun r => r.all T.storable) = true := by rw [List.all_map, List.all_eq_true]; intro x hx; exact hov x hx
 have s2 : ((l.map zAq).all fun r => r.all T.storable) = true := by rw [List.all_map, List.all_eq_true]; intro x hx; exact ho x hx
 have s3 : (((l.take i.toNat).map zAq).all fun r => r.all T.storable) = true := by rw [List.all_map, List.all_eq_true]; intro x hx; exact ho x (List.mem_of_mem_take hx)
 have s4 : (((l.drop i.toNat).map zAq).all fun r => r.all T.storable) = true := by rw [List.all_map, List.all_eq_true]; intro x hx; exact ho x (List.mem_of_mem_drop hx)
 simp only [go_sem] at s1 s2 s3 s4
 repeat' (first | ((with_reducible first | refine zAa ?_ ?_ | refine zAb ?_ ?_) <;> (intro h; have hb := h; (try simp only [nf] at h); simp (disch := omega) only [go_sem, hE, hH, s1, s2, s3, s4, e0, hF, t1, t2, t3, t4, t5, t6, t7, t8, t9, d1, d2, d3, a1, a2, a3, a4, b1, b2, b3, b4, List.take_length, List.length_drop, Nat.add_sub_cancel_left, List.length_take, Nat.min_eq_left hn, Nat.min_self, hb]; (try clear hb))) | ((with_reducible refine And.intro ?_ ?_); · omega) | refine jn _ ?_ ?_ | (with_reducible first | refine both ?_ ?_ | refine And.intro ?_ ?_) | (refine zAj ?_; (try (simp (disch := omega) only [go_sem, hE, hH, s1, s2, s3, s4, e0, hF, t1, t2, t3, t4, t5, t6, t7, t8, t9, d1, d2, d3, a1, a2, a3, a4, b1, b2, b3, b4, List.take_length, List.length_drop, Nat.add_sub_cancel_left, List.length_take, Nat.min_eq_left hn, Nat.min_self])); first | done | rfl) | (simp (disch := omega) only [go_sem, hE, hH, s1, s2, s3, s4, e0, hF, t1, t2, t3, t4, t5, t6, t7, t8, t9, d1, d2, d3, a1, a2, a3, a4, b1, b2, b3, b4, List.take_length, List.length_drop, Nat.add_sub_cancel_left, List.length_take, Nat.min_eq_left hn, Nat.min_self]) | ((first | apply zAe | apply zAl) <;> (simp only [go_sem, hE, hH, s1, s2, s3, s4, e0, hF, t1, t2, t3, t4, t5, t6, t7, t8, t9, d1, d2, d3, a1, a2, a3, a4, b1, b2, b3, b4, List.take_length, List.length_drop, Nat.add_sub_cancel_left, List.length_take, Nat.min_eq_left hn, Nat.min_self]; done)) | (simp only [go_sem, hE, hH, s1, s2, s3, s4, e0, hF, t1, t2, t3, t4, t5, t6, t7, t8, t9, d1, d2, d3, a1, a2, a3, a4, b1, b2, b3, b4, List.take_length, List.length_drop, Nat.add_sub_cancel_left, List.length_take, Nat.min_eq_left hn, Nat.min_self]) | fail)
 all_goals try (refine zN5 rfl rfl rfl zEq zD8 zEp (by decide) (by simp only [List.length_map]; omega) (by simp only [go_sem]; omega) ?_)
 repeat' (first | ((with_reducible first | refine zAa ?_ ?_ | refine zAb ?_ ?_) <;> (intro h; have hb := h; (try simp only [nf] at h); simp (disch := omega) only [go_sem, hE, hH, s1, s2, s3, s4, e0, hF, t1, t2, t3, t4, t5, t6, t7, t8, t9, d1, d2, d3, a1, a2, a3, a4, b1, b2, b3, b4, List.take_length, List.length_drop, Nat.add_sub_cancel_left, List.length_take, Nat.min_eq_left hn, Nat.min_self, hb]; (try clear hb))) | ((with_reducible refine And.intro ?_ ?_); · omega) | refine jn _ ?_ ?_ | (with_reducible first | refine both ?_ ?_ | refine And.intro ?_ ?_) | (refine zAj ?_; (try (simp (disch := omega) only [go_sem, hE, hH, s1, s2, s3, s4, e0, hF, t1, t2, t3, t4, t5, t6, t7, t8, t9, d1, d2, d3, a1, a2, a3, a4, b1, b2, b3, b4, List.take_length, List.length_drop, Nat.add_sub_cancel_left, List.length_take, Nat.min_eq_left hn, Nat.min_self])); first | done | rfl) | (simp (disch := omega) only [go_sem, hE, hH, s1, s2, s3, s4, e0, hF, t1, t2, t3, t4, t5, t6, t7, t8, t9, d1, d2, d3, a1, a2, a3, a4, b1, b2, b3, b4, List.take_length, List.length_drop, Nat.add_sub_cancel_left, List.length_take, Nat.min_eq_left hn, Nat.min_self]) | ((first | apply zAe | apply zAl) <;> (simp only [go_sem, hE, hH, s1, s2, s3, s4, e0, hF, t1, t2, t3, t4, t5, t6, t7, t8, t9, d1, d2, d3, a1, a2, a3, a4, b1, b2, b3, b4, List.take_length, List.length_drop, Nat.add_sub_cancel_left, List.length_take, Nat.min_eq_left hn, Nat.min_self]; done)) | (simp only [go_sem, hE, hH, s1, s2, s3, s4, e0, hF, t1, t2, t3, t4, t5, t6, t7, t8, t9, d1, d2, d3, a1, a2, a3, a4, b1, b2, b3, b4, List.take_length, List.length_drop, Nat.add_sub_cancel_left, List.length_take, Nat.min_eq_left hn, Nat.min_self]) | fail)
 all_goals try (rw [List.all_eq_true]; intro x hx; first | exact ho x (List.mem_of_mem_drop (List.mem_of_mem_take hx)) | exact ho x (List.mem_of_mem_drop hx) | exact ho x (List.mem_of_mem_take hx) | exact ho x hx | exact hov x hx)
 ·have e : v = [] := List.length_eq_zero_iff.1 (by omega)
  subst e
  rw [List.append_nil, List.take_append_drop]
 ·have e : i.toNat = l.length := by omega
  rw [e, List.take_length, List.drop_length, List.append_nil, List.map_append]
  try rfl
 all_goals omega
theorem zLV (l : List Cell) (x : Cell) (i : Int) (hi : 0 ≤ i) (hin : i ≤ l.length) (hl : l.length ≤ 2 ^ 20) : ACall Tryz.prog 283 [.sl true 2 (l.map (Cell.row true)), i64 i, .sl true 2 [Cell.row true x]] (fun r a => r = .sl true 2 ((putAt l i.toNat x).map (Cell.row true)) ∧ a = [.any, i64 i, .any]) := by
 have h := zOq (P := Tryz.prog) (f := 283) (k := 2) (rows := l.map (Cell.row true)) (row := Cell.row true x) (i := i) (by rw [List.length_map]; omega) (by rw [List.all_map, List.all_eq_true]; intro x _; rfl) rfl (fun raws rv h1 h2 h3 h4 h5 => by have q := zIC raws [rv] i hi (by rw [h1, List.length_map]; exact hin) (by rw [h1, List.length_map]; exact hl) h2 h4 (fun r hr => by rw [List.mem_singleton.1 hr]; exact h3) (fun r hr => by rw [List.mem_singleton.1 hr]; exact h5) (by simp); rw [List.append_assoc] at q; exact q)
 rw [← List.map_take, ← List.map_drop] at h
 unfold putAt
 rw [List.map_append, List.map_cons]
 exact h
set_option maxHeartbeats 2000000 in
theorem zID (l v : List (List Value)) (i : Int) (hi : 0 ≤ i) (hin : i ≤ l.length) (hl : l.length ≤ 2 ^ 20) (hk : ∀ r ∈ l, r.length = 5) (ho : ∀ r ∈ l, (zAq r).all T.storable = true) (hkv : ∀ r ∈ v, r.length = 5) (hov : ∀ r ∈ v, (zAq r).all T.storable = true) (hv : v.length ≤ 2 ^ 20) : ACall Tryz.prog 237 [.sl true 5 (l.map (zAq)), i64 i, .sl false 5 (v.map (zAq))] (fun r a => r = .sl true 5 ((l.take i.toNat ++ v ++ l.drop i.toNat).map (zAq)) ∧ a = [.any, i64 i, .sl false 5 (v.map (zAq))]) := by
 have hmx := zAi
 refine zOi [true, false, false] 0 5 (l.map (zAq)) (hqA zYx) (hqB zYx) (by simp only [go_sem, List.mem_cons, true_or, or_true]) (by simp only [go_sem]) ⟨by simp only [go_sem], fun E hE hH c hc hF => ?_⟩; simp only [go_sem] at hE hH hc hF; simp only [go_sem, hE, hH, zYw]
 have e0 : l.length + (c - l.length) = c := by omega
 have hn : i.toNat ≤ l.length := by omega
 have t1 : ((l.length : Int) + v.length - i).toNat = l.length + v.length - i.toNat := by omega
 have t2 : (i + (v.length : Int)).toNat = i.toNat + v.length := by omega
 have t3 : ((l.length : Int) + v.length).toNat = l.length + v.length := by omega
 have t4 : i.toNat + (l.length + v.length - i.toNat) = l.length + v.length := by omega
 have t5 : l.length + v.length - (i.toNat + v.length) = l.length - i.toNat := by omega
 have t6 : min (l.length - i.toNat) (l.length + v.length - i.toNat) = l.length - i.toNat := by omega
 have t7 : i.toNat + (l.length - i.toNat) = l.length := by omega
 have a1 := zDE (f := zAq) (l := l) (G := List.replicate (c - l.length) (zBs 5)) (Nat.le_refl l.length)
 have a2 := zDE (f := zAq) (l := l) (G := List.replicate (c - l.length) (zBs 5)) hn
 have a3 := zLw (f := zAq) (l := l) (G := List.replicate (c - l.length) (zBs 5)) hn
 have a4 : v.take (l.length + v.length - i.toNat) = v := List.take_of_length_le (by omega)
 have b1 := fun z => zEe (f := zAq) (g := fun x => (zAq) x) (v := v) (z := z) hn
 have b2 := fun z => zJR (f := zAq) (g := fun x => (zAq) x) (v := v) (z := z) hn
 have b3 := fun z => zIm (f := zAq) (v := v) (z := z) hn
 have b4 := zLx (f := zAq) (v := v) (l := l)
 have d1 := fun z hc => zFy (f := zAq) (m := v.length) (c := c) (z := z) hn hc
 have d2 := fun z hc => zJS (f := zAq) (g := fun x => (zAq) x) (v := v) (c := c) (z := z) hn hc
 have d3 := fun z hc => zJT (f := zAq) (v := v) (c := c) (z := z) hn hc
 have t8 : min (l.length + v.length - i.toNat) v.length = v.length := by omega
 have t9 : i.toNat + v.length + (l.length - i.toNat) = l.length + v.length := by omega
 simp only [go_sem] at a1 a2 a3 b1 b2 b3 b4 d1 d2 d3
 have s1 : ((v.map zAq).all fun r => r.all T.storable) = true := by rw [List.all_map, List.all_eq_true]; intro x hx; exact hov x hx
 have s2 : ((l.map zAq).all fun r => r.all T.storable) = true := by rw [List.all_map, List.all_eq_true]; intro x hx; exact ho x hx
 have s3 : (((l.take i.toNat).map zAq).all fun r => r.all T.storable) = true := by rw [List.all_map, List.all_eq_true]; intro x hx; exact ho x (List.mem_of_mem_take hx)
 have s4 : (((l.drop i.toNat).map zAq).all fun r => r.all T.storable) = true := by rw [List.all_map, List.all_eq_true]; intro x hx; exact ho x (List.mem_of_mem_drop hx)
 simp only [go_sem] at s1 s2 s3 s4
 repeat' (first | ((with_reducible first | refine zAa ?_ ?_ | refine zAb ?_ ?_) <;> (intro h; have hb := h; (try simp only [nf] at h); simp (disch := omega) only [go_sem, hE, hH, s1, s2, s3, s4, e0, hF, t1, t2, t3, t4, t5, t6, t7, t8, t9, d1, d2, d3, a1, a2, a3, a4, b1, b2, b3, b4, List.take_length, List.length_drop, Nat.add_sub_cancel_left, List.length_take, Nat.min_eq_left hn, Nat.min_self, hb]; (try clear hb))) | ((with_reducible refine And.intro ?_ ?_); · omega) | refine jn _ ?_ ?_ | (with_reducible first | refine both ?_ ?_ | refine And.intro ?_ ?_) | (refine zAj ?_; (try (simp (disch := omega) only [go_sem, hE, hH, s1, s2, s3, s4, e0, hF, t1, t2, t3, t4, t5, t6, t7, t8, t9, d1, d2, d3, a1, a2, a3, a4, b1, b2, b3, b4, List.take_length, List.length_drop, Nat.add_sub_cancel_left, List.length_take, Nat.min_eq_left hn, Nat.min_self])); first | done | rfl) | (simp (disch := omega) only [go_sem, hE, hH, s1, s2, s3, s4, e0, hF, t1, t2, t3, t4, t5, t6, t7, t8, t9, d1, d2, d3, a1, a2, a3, a4, b1, b2, b3, b4, List.take_length, List.length_drop, Nat.add_sub_cancel_left, List.length_take, Nat.min_eq_left hn, Nat.min_self]) | ((first | apply zAe | apply zAl) <;> (simp only [go_sem, hE, hH, s1, s2, s3, s4, e0, hF, t1, t2, t3, t4, t5, t6, t7, t8, t9, d1, d2, d3, a1, a2, a3, a4, b1, b2, b3, b4, List.take_length, List.length_drop, Nat.add_sub_cancel_left, List.length_take, Nat.min_eq_left hn, Nat.min_self]; done)) | (simp only [go_sem, hE, hH, s1, s2, s3, s4, e0, hF, t1, t2, t3, t4, t5, t6, t7, t8, t9, d1, d2, d3, a1, a2, a3, a4, b1, b2, b3, b4, List.take_length, List.length_drop, Nat.add_sub_cancel_left, List.length_take, Nat.min_eq_left hn, Nat.min_self]) | fail)
 all_goals try (refine zN5 rfl rfl rfl zEk zD6 zEj (by decide) (by simp only [List.length_map]; omega) (by simp only [go_sem]; omega) ?_)
 repeat' (first | ((with_reducible first | refine zAa ?_ ?_ | refine zAb ?_ ?_) <;> (intro h; have hb := h; (try simp only [nf] at h); simp (disch := omega) only [go_sem, hE, hH, s1, s2, s3, s4, e0, hF, t1, t2, t3, t4, t5, t6, t7, t8, t9, d1, d2, d3, a1, a2, a3, a4, b1, b2, b3, b4, List.take_length, List.length_drop, Nat.add_sub_cancel_left, List.length_take, Nat.min_eq_left hn, Nat.min_self, hb]; (try clear hb))) | ((with_reducible refine And.intro ?_ ?_); · omega) | refine jn _ ?_ ?_ | (with_reducible first | refine both ?_ ?_ | refine And.intro ?_ ?_) | (refine zAj ?_; (try (simp (disch := omega) only [go_sem, hE, hH, s1, s2, s3, s4, e0, hF, t1, t2, t3, t4, t5, t6, t7, t8, t9, d1, d2, d3, a1, a2, a3, a4, b1, b2, b3, b4, List.take_length, List.length_drop, Nat.add_sub_cancel_left, List.length_take, Nat.min_eq_left hn, Nat.min_self])); first | done | rfl) | (simp (disch := omega) only [go_sem, hE, hH, s1, s2, s3, s4, e0, hF, t1, t2, t3, t4, t5, t6, t7, t8, t9, d1, d2, d3, a1, a2, a3, a4, b1, b2, b3, b4, List.take_length, List.length_drop, Nat.add_sub_cancel_left, List.length_take, Nat.min_eq_left hn, Nat.min_self]) | ((first | apply zAe | apply zAl) <;> (simp only [go_sem, hE, hH, s1, s2, s3, s4, e0, hF, t1, t2, t3, t4, t5, t6, t7, t8, t9, d1, d2, d3, a1, a2, a3, a4, b1, b2, b3, b4, List.take_length, List.length_drop, Nat.add_sub_cancel_left, List.length_take, Nat.min_eq_left hn, Nat.min_self]; done)) | (simp only [go_sem, hE, hH, s1, s2, s3, s4, e0, hF, t1, t2, t3, t4, t5, t6, t7, t8, t9, d1, d2, d3, a1, a2, a3, a4, b1, b2, b3, b4, List.take_length, List.length_drop, Nat.add_sub_cancel_left, List.length_take, Nat.min_eq_left hn, Nat.min_self]) | fail)
 all_goals try (rw [List.all_eq_true]; intro x hx; first | exact ho x (List.mem_of_mem_drop (List.mem_of_mem_take hx)) | exact ho x (List.mem_of_mem_drop hx) | exact ho x (List.mem_of_mem_take hx) | exact ho x hx | exact hov x hx)
 ·have e : v = [] := List.length_eq_zero_iff.1 (by omega)
  subst e
  rw [List.append_nil, List.take_append_drop]
 ·have e : i.toNat = l.length := by omega
  rw [e, List.take_length, List.drop_length, List.append_nil, List.map_append]
  try rfl
 all_goals omega
theorem zLW (l : List Held) (x : Held) (i : Int) (hi : 0 ≤ i) (hin : i ≤ l.length) (hl : l.length ≤ 2 ^ 20) : ACall Tryz.prog 237 [.sl true 5 (l.map (Held.row true)), i64 i, .sl true 5 [Held.row true x]] (fun r a => r = .sl true 5 ((putAt l i.toNat x).map (Held.row true)) ∧ a = [.any, i64 i, .any]) := by
 have h := zOq (P := Tryz.prog) (f := 237) (k := 5) (rows := l.map (Held.row true)) (row := Held.row true x) (i := i) (by rw [List.length_map]; omega) (by rw [List.all_map, List.all_eq_true]; intro x _; rfl) rfl (fun raws rv h1 h2 h3 h4 h5 => by have q := zID raws [rv] i hi (by rw [h1, List.length_map]; exact hin) (by rw [h1, List.length_map]; exact hl) h2 h4 (fun r hr => by rw [List.mem_singleton.1 hr]; exact h3) (fun r hr => by rw [List.mem_singleton.1 hr]; exact h5) (by simp); rw [List.append_assoc] at q; exact q)
 rw [← List.map_take, ← List.map_drop] at h
 unfold putAt
 rw [List.map_append, List.map_cons]
 exact h
theorem zLX (l v : List Told) (i : Int) (hi : 0 ≤ i) (hin : i ≤ l.length) (hl : l.length ≤ 2 ^ 20) (hv : v.length ≤ 2 ^ 20) : ACall Tryz.prog 258 [.sl true 3 (l.map (Told.row true)), i64 i, .sl false 3 (v.map (Told.row false))] (fun r a => r = .sl true 3 ((l.take i.toNat ++ v ++ l.drop i.toNat).map (Told.row true)) ∧ a = [.any, i64 i, .sl false 3 (v.map (Told.row false))]) := by
 have hmx := zAi
 refine zOi [true, false, false] 0 3 (l.map (Told.row true)) (hqA zYO) (hqB zYO) (by simp only [go_sem, List.mem_cons, true_or, or_true]) (by simp only [go_sem]) ⟨by simp only [go_sem], fun E hE hH c hc hF => ?_⟩; simp only [go_sem] at hE hH hc hF; simp only [go_sem, hE, hH, zYN]
 have e0 : l.length + (c - l.length) = c := by omega
 have hn : i.toNat ≤ l.length := by omega
 have t1 : ((l.length : Int) + v.length - i).toNat = l.length + v.length - i.toNat := by omega
 have t2 : (i + (v.length : Int)).toNat = i.toNat + v.length := by omega
 have t3 : ((l.length : Int) + v.length).toNat = l.length + v.length := by omega
 have t4 : i.toNat + (l.length + v.length - i.toNat) = l.length + v.length := by omega
 have t5 : l.length + v.length - (i.toNat + v.length) = l.length - i.toNat := by omega
 have t6 : min (l.length - i.toNat) (l.length + v.length - i.toNat) = l.length - i.toNat := by omega
 have t7 : i.toNat + (l.length - i.toNat) = l.length := by omega
 have a1 := zDE (f := Told.row true) (l := l) (G := List.replicate (c - l.length) (zBs 3)) (Nat.le_refl l.length)
 have a2 := zDE (f := Told.row true) (l := l) (G := List.replicate (c - l.length) (zBs 3)) hn
 have a3 := zLw (f := Told.row true) (l := l) (G := List.replicate (c - l.length) (zBs 3)) hn
 have a4 : v.take (l.length + v.length - i.toNat) = v := List.take_of_length_le (by omega)
 have b1 := fun z => zEe (f := Told.row true) (g := fun x => (Told.row true) x) (v := v) (z := z) hn
 have b2 := fun z => zJR (f := Told.row true) (g := fun x => (Told.row true) x) (v := v) (z := z) hn
 have b3 := fun z => zIm (f := Told.row true) (v := v) (z := z) hn
 have b4 := zLx (f := Told.row true) (v := v) (l := l)
 have d1 := fun z hc => zFy (f := Told.row true) (m := v.length) (c := c) (z := z) hn hc
 have d2 := fun z hc => zJS (f := Told.row true) (g := fun x => (Told.row true) x) (v := v) (c := c) (z := z) hn hc
 have d3 := fun z hc => zJT (f := Told.row true) (v := v) (c := c) (z := z) hn hc
 have t8 : min (l.length + v.length - i.toNat) v.length = v.length := by omega
 have t9 : i.toNat + v.length + (l.length - i.toNat) = l.length + v.length := by omega
 simp only [go_sem] at a1 a2 a3 b1 b2 b3 b4 d1 d2 d3
 repeat' (first | ((with_reducible first | refine zAa ?_ ?_ | refine zAb ?_ ?_) <;> (intro h; have hb := h; (try simp only [nf] at h); simp (disch := omega) only [go_sem, hE, hH, e0, hF, t1, t2, t3, t4, t5, t6, t7, t8, t9, d1, d2, d3, a1, a2, a3, a4, b1, b2, b3, b4, List.take_length, List.length_drop, Nat.add_sub_cancel_left, List.length_take, Nat.min_eq_left hn, Nat.min_self, hb]; (try clear hb))) | ((with_reducible refine And.intro ?_ ?_); · omega) | refine jn _ ?_ ?_ | (with_reducible first | refine both ?_ ?_ | refine And.intro ?_ ?_) | (refine zAj ?_; (try (simp (disch := omega) only [go_sem, hE, hH, e0, hF, t1, t2, t3, t4, t5, t6, t7, t8, t9, d1, d2, d3, a1, a2, a3, a4, b1, b2, b3, b4, List.take_length, List.length_drop, Nat.add_sub_cancel_left, List.length_take, Nat.min_eq_left hn, Nat.min_self])); first | done | rfl) | (simp (disch := omega) only [go_sem, hE, hH, e0, hF, t1, t2, t3, t4, t5, t6, t7, t8, t9, d1, d2, d3, a1, a2, a3, a4, b1, b2, b3, b4, List.take_length, List.length_drop, Nat.add_sub_cancel_left, List.length_take, Nat.min_eq_left hn, Nat.min_self]) | ((first | apply zAe | apply zAl) <;> (simp only [go_sem, hE, hH, e0, hF, t1, t2, t3, t4, t5, t6, t7, t8, t9, d1, d2, d3, a1, a2, a3, a4, b1, b2, b3, b4, List.take_length, List.length_drop, Nat.add_sub_cancel_left, List.length_take, Nat.min_eq_left hn, Nat.min_self]; done)) | (simp only [go_sem, hE, hH, e0, hF, t1, t2, t3, t4, t5, t6, t7, t8, t9, d1, d2, d3, a1, a2, a3, a4, b1, b2, b3, b4, List.take_length, List.length_drop, Nat.add_sub_cancel_left, List.length_take, Nat.min_eq_left hn, Nat.min_self]) | fail)
 all_goals try (refine zN5 rfl rfl rfl zEn zD7 zEm (by decide) (by simp only [List.length_map]; omega) (by simp only [go_sem]; omega) ?_)
 repeat' (first | ((with_reducible first | refine zAa ?_ ?_ | refine zAb ?_ ?_) <;> (intro h; have hb := h; (try simp only [nf] at h); simp (disch := omega) only [go_sem, hE, hH, e0, hF, t1, t2, t3, t4, t5, t6, t7, t8, t9, d1, d2, d3, a1, a2, a3, a4, b1, b2, b3, b4, List.take_length, List.length_drop, Nat.add_sub_cancel_left, List.length_take, Nat.min_eq_left hn, Nat.min_self, hb]; (try clear hb))) | ((with_reducible refine And.intro ?_ ?_); · omega) | refine jn _ ?_ ?_ | (with_reducible first | refine both ?_ ?_ | refine And.intro ?_ ?_) | (refine zAj ?_; (try (simp (disch := omega) only [go_sem, hE, hH, e0, hF, t1, t2, t3, t4, t5, t6, t7, t8, t9, d1, d2, d3, a1, a2, a3, a4, b1, b2, b3, b4, List.take_length, List.length_drop, Nat.add_sub_cancel_left, List.length_take, Nat.min_eq_left hn, Nat.min_self])); first | done | rfl) | (simp (disch := omega) only [go_sem, hE, hH, e0, hF, t1, t2, t3, t4, t5, t6, t7, t8, t9, d1, d2, d3, a1, a2, a3, a4, b1, b2, b3, b4, List.take_length, List.length_drop, Nat.add_sub_cancel_left, List.length_take, Nat.min_eq_left hn, Nat.min_self]) | ((first | apply zAe | apply zAl) <;> (simp only [go_sem, hE, hH, e0, hF, t1, t2, t3, t4, t5, t6, t7, t8, t9, d1, d2, d3, a1, a2, a3, a4, b1, b2, b3, b4, List.take_length, List.length_drop, Nat.add_sub_cancel_left, List.length_take, Nat.min_eq_left hn, Nat.min_self]; done)) | (simp only [go_sem, hE, hH, e0, hF, t1, t2, t3, t4, t5, t6, t7, t8, t9, d1, d2, d3, a1, a2, a3, a4, b1, b2, b3, b4, List.take_length, List.length_drop, Nat.add_sub_cancel_left, List.length_take, Nat.min_eq_left hn, Nat.min_self]) | fail)
 ·have e : v = [] := List.length_eq_zero_iff.1 (by omega)
  subst e
  rw [List.append_nil, List.take_append_drop]
 ·have e : i.toNat = l.length := by omega
  rw [e, List.take_length, List.drop_length, List.append_nil, List.map_append]
  try rfl
 all_goals omega
open Go.Proofs.Wb renaming H82 → z0_, zIA → z1_ in
theorem zGZ (l : List Clock) (f : Nat) (caps : List T) (p : Clock → Bool) (hent : zBI Tryz.prog f = true) (hcap : caps.all T.cap = true) (hl : l.length ≤ maxLen) (hp : ∀ x, x ∈ l → ACall Tryz.prog f ([.agg (Clock.row false x)] ++ caps) (fun r _ => r = bl (p x))) :
  ACall Tryz.prog 82 [.sl false 1 (l.map (Clock.row false)), .fn f caps] (fun r _ => r = bl (l.any p)) := zGG
open Go.Proofs.Wb renaming H180 → z0_, zJ7 → z1_ in
theorem zHR (l : List Got) (f : Nat) (caps : List T) (p : Got → Bool) (hent : zBI Tryz.prog f = true) (hcap : caps.all T.cap = true) (hl : l.length ≤ maxLen) (hp : ∀ x, x ∈ l → ACall Tryz.prog f ([.agg (Got.row false x)] ++ caps) (fun r _ => r = bl (p x))) :
  ACall Tryz.prog 180 [.sl false 3 (l.map (Got.row false)), .fn f caps] (fun r _ => r = bl (l.any p)) := zGG
open Go.Proofs.Wb renaming H261 → z0_, zJb → z1_ in
theorem zHy (l : List Held) (f : Nat) (caps : List T) (p : Held → Bool) (hent : zBI Tryz.prog f = true) (hcap : caps.all T.cap = true) (hl : l.length ≤ maxLen) (hp : ∀ x, x ∈ l → ACall Tryz.prog f ([.agg (Held.row false x)] ++ caps) (fun r _ => r = bl (p x))) :
  ACall Tryz.prog 261 [.sl false 5 (l.map (Held.row false)), .fn f caps] (fun r _ => r = bl (l.any p)) := zGG
open Go.Proofs.Wb renaming H134 → z0_, zJc → z1_ in
theorem zHz (l : List Lock) (f : Nat) (caps : List T) (p : Lock → Bool) (hent : zBI Tryz.prog f = true) (hcap : caps.all T.cap = true) (hl : l.length ≤ maxLen) (hp : ∀ x, x ∈ l → ACall Tryz.prog f ([.agg (Lock.row false x)] ++ caps) (fun r _ => r = bl (p x))) :
  ACall Tryz.prog 134 [.sl false 3 (l.map (Lock.row false)), .fn f caps] (fun r _ => r = bl (l.any p)) := zGG
open Go.Proofs.Wb renaming H202 → z0_, zKR → z1_ in
theorem zIE (l : List Op) (f : Nat) (caps : List T) (p : Op → Bool) (hent : zBI Tryz.prog f = true) (hcap : caps.all T.cap = true) (hl : l.length ≤ maxLen) (hp : ∀ x, x ∈ l → ACall Tryz.prog f ([.agg (Op.row false x)] ++ caps) (fun r _ => r = bl (p x))) :
  ACall Tryz.prog 202 [.sl false 4 (l.map (Op.row false)), .fn f caps] (fun r _ => r = bl (l.any p)) := zGG
open Go.Proofs.Wb renaming H130 → z0_, zHx → z1_ in
theorem zFP (l : List Replica) (f : Nat) (caps : List T) (p : Replica → Bool) (hent : zBI Tryz.prog f = true) (hcap : caps.all T.cap = true) (hl : l.length ≤ maxLen) (hp : ∀ x, x ∈ l → ACall Tryz.prog f ([.agg (Replica.row false x)] ++ caps) (fun r _ => r = bl (p x))) :
  ACall Tryz.prog 130 [.sl false 3 (l.map (Replica.row false)), .fn f caps] (fun r _ => r = bl (l.any p)) := zGG
open Go.Proofs.Wb renaming H88 → z0_, zGz → z1_ in
theorem zFa (l : List WorldLook) (f : Nat) (caps : List T) (p : WorldLook → Bool) (hent : zBI Tryz.prog f = true) (hcap : caps.all T.cap = true) (hl : l.length ≤ maxLen) (hp : ∀ x, x ∈ l → ACall Tryz.prog f ([.agg (WorldLook.row false x)] ++ caps) (fun r _ => r = bl (p x))) :
  ACall Tryz.prog 88 [.sl false 6 (l.map (WorldLook.row false)), .fn f caps] (fun r _ => r = bl (l.any p)) := zGG
open Go.Proofs.Wb renaming H85 → z0_, zGY → z1_ in
theorem zFJ (l : List WorldTxn) (f : Nat) (caps : List T) (p : WorldTxn → Bool) (hent : zBI Tryz.prog f = true) (hcap : caps.all T.cap = true) (hl : l.length ≤ maxLen) (hp : ∀ x, x ∈ l → ACall Tryz.prog f ([.agg (WorldTxn.row false x)] ++ caps) (fun r _ => r = bl (p x))) :
  ACall Tryz.prog 85 [.sl false 10 (l.map (WorldTxn.row false)), .fn f caps] (fun r _ => r = bl (l.any p)) := zGG
open Go.Proofs.Wb renaming H160 → z0_, zIB → z1_ in
theorem zDH (l : List Write) (f : Nat) (caps : List T) (p : Write → Bool) (hent : zBI Tryz.prog f = true) (hcap : caps.all T.cap = true) (hl : l.length ≤ maxLen) (hp : ∀ x, x ∈ l → ACall Tryz.prog f ([.agg (Write.row false x)] ++ caps) (fun r _ => r = bl (p x))) :
  ACall Tryz.prog 160 [.sl false 3 (l.map (Write.row false)), .fn f caps] (fun r _ => r = bl (l.any p)) := zGG
open Go.Proofs.Wb renaming H141 → z0_, zJ8 → z1_ in
theorem zHS (l : List Int) (f : Nat) (caps : List T) (p : Int → Bool) (hent : zBI Tryz.prog f = true) (hcap : caps.all T.cap = true) (hl : l.length ≤ maxLen) (hp : ∀ x, x ∈ l → ACall Tryz.prog f ([i64 x] ++ caps) (fun r _ => r = bl (p x))) :
  ACall Tryz.prog 141 [.sl false 1 (ints l), .fn f caps] (fun r _ => r = bl (l.any p)) := zGG
theorem zIF (l : List ByteArray) (v : ByteArray) (hl : l.length ≤ maxLen) : ACall Tryz.prog 299 [.sl false 1 (strs l), str v] (fun r _ => r = bl (l.any fun x => decide (v = x))) := by
 refine fi H299 fun E hE hH => ?_; simp only [go_sem] at hE hH; simp only [go_sem, hE, hH, zDf]
 repeat' (first | ((with_reducible first | refine zAa ?_ ?_ | refine zAb ?_ ?_) <;> (intro h; have hb := h; (try simp only [nf] at h); refine sb ?_; (try clear hb))) | ((with_reducible refine And.intro ?_ ?_); · omega) | ((first | refine zAc ?_ | refine cvA (zKS _ _ hl) ?_); refine st ?_) | refine jn _ ?_ ?_ | (with_reducible first | refine both ?_ ?_ | refine And.intro ?_ ?_) | exact fe | refine st ?_ | exact fm | refine s1 ?_ | (with_reducible exact True.intro))
 rw [zI3]
def bys (code : List Int) : List (List T) := code.map fun b => [.v (.int .u8 b)]
@[go_sem] theorem zAeP (code : List Int) : bys code = code.map fun b => [.v (.int .u8 b)] := rfl
def rng (n lo hi : Int) : Bool := decide (lo ≤ n) && decide (n ≤ hi)
theorem zBJ {n lo hi : Int} : rng n lo hi = true ↔ lo ≤ n ∧ n ≤ hi := by simp [rng]
theorem zOz {n lo hi : Int} : rng n lo hi = false ↔ ¬ (lo ≤ n ∧ n ≤ hi) := by rw [← zBJ]; simp
open Go.Proofs.Wb renaming H35 → z0_, C35 → z1_ in
theorem zA8 (n lo hi : Int) : ACall Tryz.prog 35 [i64 n, i64 lo, i64 hi] (fun r _ => r = bl (rng n lo hi)) := zZp
open Go.Proofs.Wb renaming H24 → z0_, C24 → z1_ in
theorem zBq (n lo hi : Int) : ACall Tryz.prog 24 [i64 n, i64 lo, i64 hi] (fun r _ => r = bl (rng n lo hi)) := zZp
def zJ9 (b : Int) : Bool := (decide (97 ≤ b) && decide (b ≤ 122)) || (decide (48 ≤ b) && decide (b ≤ 57))
def hasc (more : ByteArray) (b : Int) : Bool := !zAu (fun i => !decide (b = byt more i)) more.size
def hasB (s more : ByteArray) : Bool := zAu (fun i => zJ9 (byt s i) || hasc more (byt s i)) s.size
def zAZ (s : ByteArray) : Bool := rng s.size 1 12 && hasB s ⟨⟨[46, 47]⟩⟩
def zCZ (s : ByteArray) : Bool := decide ((s.size : Int) ≤ 24) && hasB s ⟨⟨[46, 45, 44, 95]⟩⟩
theorem zRM (b : Int) : ACall Tryz.prog 227 [u8 b] (fun r _ => r = bl (zJ9 b)) := by
 refine fi H227 fun E hE hH => ?_; simp only [go_sem] at hE hH; simp only [go_sem, hE, hH, zYo]
 repeat' (first | ((with_reducible first | refine zAa ?_ ?_ | refine zAb ?_ ?_) <;> (intro h; have hb := h; (try simp only [nf] at h); refine sb ?_; (try clear hb))) | ((with_reducible refine And.intro ?_ ?_); · omega) | refine jn _ ?_ ?_ | (with_reducible first | refine both ?_ ?_ | refine And.intro ?_ ?_) | exact fe | refine st ?_ | exact fm | refine s1 ?_ | (with_reducible exact True.intro))
 all_goals (simp_all [zJ9] <;> try omega)
theorem zUR (s : ByteArray) (c : UInt8) : decide (firstIdx s c < 0) = zAu (fun i => !decide ((c.toNat : Int) = byt s i)) s.size := by
 rw [Bool.eq_iff_iff, zAE, decide_eq_true_iff]
 have key : ∀ i, i < s.size → ((s[i]! == c) = true ↔ (c.toNat : Int) = byt s i) := by
  intro i hi
  have h1 : s[i]! = s.data.toList.getD i 0 := by
   rw [getElem!_pos s i hi]
   simp [ByteArray.getElem_eq_getElem_data, List.getD]
   rw [getElem?_pos _ _ (by simpa using hi)]
   simp
  rw [h1, byt, beq_iff_eq, ← UInt8.toNat_inj]
  omega
 unfold firstIdx
 cases hf : (List.range s.size).find? fun i => s[i]! == c with
 | some i =>
  dsimp only
  have h1 := List.find?_some hf
  have h2 : i < s.size := by simpa using List.mem_of_find?_eq_some hf
  constructor
  ·intro h; omega
  ·intro h
   have := h i h2
   rw [(key i h2).1 h1] at this
   simp at this
 | none =>
  dsimp only
  constructor
  ·intro _ i hi
   have := List.find?_eq_none.1 hf i (by simpa using hi)
   simp only [Bool.not_eq_true', decide_eq_false_iff_not]
   exact fun e => this ((key i hi).2 e)
  ·intro _; omega
theorem zWa (s : ByteArray) (c : Int) (w : Go.World) : (callFunc 277 #[.string s, .int .u8 c]).run Tryz.prog w = .ok (.value (.int .i64 (firstIdx s c.toNat.toUInt8))) w := by
 rw [run_callFunc_extern (e := Extern.BytealgIndexByte.indexByte) zDj (by kernel_rfl) (by kernel_rfl) (by kernel_rfl) (by kernel_rfl), run_indexByte_string]
 rfl
theorem zOA (s : ByteArray) (c : Int) : ACall Tryz.prog 249 [str s, u8 c] (fun r _ => r = i64 (firstIdx s c.toNat.toUInt8)) := by
 refine fi H249 fun E hE hH => ?_; simp only [go_sem] at hE hH; simp only [go_sem, hE, hH, zYH]
 refine zT7 (vs := [.string s, .int .u8 c]) rfl (zWa s c) ?_
 try simp only [go_sem, hE, hH]
open Go.Proofs.Wb renaming H228 → z0_, zYp → z1_, zOA → z2_ in
theorem zOB (s : ByteArray) (c : Int) : ACall Tryz.prog 228 [str s, u8 c] (fun r _ => r = i64 (firstIdx s c.toNat.toUInt8)) := zO8
theorem zJt (s more : ByteArray) (hs : s.size ≤ maxLen) : ACall Tryz.prog 200 [str s, str more] (fun r _ => r = bl (hasB s more)) := by
 have hm := zAi
 refine fi H200 fun E hE hH => ?_; simp only [go_sem] at hE hH; simp only [go_sem, hE, hH, zX5]
 refine zAx s.size (fun j (_ : Unit) => ⟨[(0, str s), (1, str more), (7, i64 s.size), (8, i64 j)], []⟩) (fun j _ => zAu (fun i => zJ9 (byt s i) || hasc more (byt s i)) j = true) () rfl ?_
 intro j _ hj hI
 try simp only [go_sem, hE, hH, zQk]
 first | refine zAa (fun h => ?_) (fun h => ?_) | refine zAb (fun h => ?_) (fun h => ?_)
 ·have hb := h
  simp only [nf] at h
  have hlt := h; clear h
  have hf : decide (firstIdx more (byt s j).toNat.toUInt8 < 0) = !hasc more (byt s j) := by
   rw [zUR, hasc, Bool.not_not]
   congr 1; funext i
   congr 2
   simp [byt]
  try simp (disch := omega) only [go_sem, hE, hH, hb]
  repeat' (first | ((with_reducible first | refine zAa ?_ ?_ | refine zAb ?_ ?_) <;> (intro h; have hb := h; (try simp only [nf] at h); refine sb ?_; (try clear hb))) | ((with_reducible refine And.intro ?_ ?_); · omega) | ((first | refine zAc ?_ | refine cvA (zRM _) ?_ | refine cvA (zOB _ _) ?_); refine st ?_) | refine jn _ ?_ ?_ | (with_reducible first | refine both ?_ ?_ | refine And.intro ?_ ?_) | exact fe | refine st ?_ | exact fm | refine s1 ?_ | (with_reducible exact True.intro))
  ·rw [decide_eq_true h] at hf
   rw [hasB, zAF hlt (by simp_all)]
  ·rw [decide_eq_false (by omega)] at hf
   exact ⟨(), rfl, zAf hI (by simp_all)⟩
  ·exact ⟨(), rfl, zAf hI (by simp_all)⟩
 ·try simp (disch := omega) only [go_sem, hE, hH, h]
  simp only [nf] at h
  rw [show j = s.size by omega] at hI
  rw [hasB, hI]
theorem zKT (s more : ByteArray) (hs : s.size ≤ maxLen) (hm : more.size ≤ maxLen) : ACall Tryz.prog 167 [str s, str more] (fun r _ => r = bl (hasB s more)) := by
 have hmx := zAi
 refine fi H167 fun E hE hH => ?_; simp only [go_sem] at hE hH; simp only [go_sem, hE, hH, zXM]
 refine zAx s.size (fun j (_ : Unit) => ⟨[(0, str s), (1, str more), (5, i64 j)], []⟩) (fun j _ => zAu (fun i => zJ9 (byt s i) || hasc more (byt s i)) j = true) () rfl ?_
 intro j _ hj hI
 try simp only [go_sem, hE, hH, zQi]
 first | refine zAa (fun h => ?_) (fun h => ?_) | refine zAb (fun h => ?_) (fun h => ?_)
 ·have hb := h
  simp only [nf] at h
  have hlt := h; clear h
  try simp (disch := omega) only [go_sem, hE, hH, hb]
  repeat' (first | ((with_reducible first | refine zAa ?_ ?_ | refine zAb ?_ ?_) <;> (intro h; have hb := h; (try simp only [nf] at h); refine sb ?_; (try clear hb))) | ((with_reducible refine And.intro ?_ ?_); · omega) | refine jn _ ?_ ?_ | (with_reducible first | refine both ?_ ?_ | refine And.intro ?_ ?_) | exact fe | refine st ?_ | exact fm | refine s1 ?_ | (with_reducible exact True.intro))
  all_goals (
   refine zBg more.size (fun k (_ : Unit) => ⟨[(0, str s), (1, str more), (5, i64 j), (6, bl (zJ9 (byt s j) || !zAu (fun i => !decide (byt s j = byt more i)) k)), (7, i64 k)], []⟩) (fun _ _ => True) () ?_ trivial ?_
   ·simp_all [zJ9, zAu]
    try omega
   intro k _ hk _
   try simp only [go_sem, hE, hH, zQh]
   first | refine zAa (fun h => ?_) (fun h => ?_) | refine zAb (fun h => ?_) (fun h => ?_)
   ·try simp (disch := omega) only [go_sem, hE, hH, h]
    simp only [nf] at h
    repeat' (first | ((with_reducible first | refine zAa ?_ ?_ | refine zAb ?_ ?_) <;> (intro h; have hb := h; (try simp only [nf] at h); refine sb ?_; (try clear hb))) | ((with_reducible refine And.intro ?_ ?_); · omega) | refine jn _ ?_ ?_ | (with_reducible first | refine both ?_ ?_ | refine And.intro ?_ ?_) | exact fe | refine st ?_ | exact fm | refine s1 ?_ | (with_reducible exact True.intro))
    ·exact ⟨(), by simp_all [zAu]; rcases h with h | h <;> simp [h]⟩
    ·exact ⟨(), by simp_all [zAu]⟩
   ·try simp (disch := omega) only [go_sem, hE, hH, h]
    simp only [nf] at h
    rw [show k = more.size by omega]
    repeat' (first | ((with_reducible first | refine zAa ?_ ?_ | refine zAb ?_ ?_) <;> (intro h; have hb := h; (try simp only [nf] at h); refine sb ?_; (try clear hb))) | ((with_reducible refine And.intro ?_ ?_); · omega) | refine jn _ ?_ ?_ | (with_reducible first | refine both ?_ ?_ | refine And.intro ?_ ?_) | exact fe | refine st ?_ | exact fm | refine s1 ?_ | (with_reducible exact True.intro))
    ·rw [hasB, zAF hlt (by simp_all [hasc])]
    ·exact ⟨(), rfl, zAf hI (by simp_all [hasc])⟩)
 ·try simp (disch := omega) only [go_sem, hE, hH, h]
  simp only [nf] at h
  rw [show j = s.size by omega] at hI
  rw [hasB, hI]
theorem zFb (s : ByteArray) (hs : s.size ≤ maxLen) : ACall Tryz.prog 174 [str s] (fun r _ => r = bl (zAZ s)) := by
 refine fi H174 fun E hE hH => ?_; simp only [go_sem] at hE hH; simp only [go_sem, hE, hH, zXS]
 repeat' (first | ((with_reducible first | refine zAa ?_ ?_ | refine zAb ?_ ?_) <;> (intro h; have hb := h; (try simp only [nf] at h); refine sb ?_; (try clear hb))) | ((with_reducible refine And.intro ?_ ?_); · omega) | ((first | refine zAc ?_ | refine cvA (zA8 _ _ _) ?_ | refine cvA (zJt _ _ hs) ?_); refine st ?_) | refine jn _ ?_ ?_ | (with_reducible first | refine both ?_ ?_ | refine And.intro ?_ ?_) | exact fe | refine st ?_ | exact fm | refine s1 ?_ | (with_reducible exact True.intro))
 all_goals simp_all [zAZ]
theorem zC8 (s : ByteArray) (hs : s.size ≤ maxLen) : ACall Tryz.prog 113 [str s] (fun r _ => r = bl (zAZ s)) := by
 refine fi H113 fun E hE hH => ?_; simp only [go_sem] at hE hH; simp only [go_sem, hE, hH, zXg]
 repeat' (first | ((with_reducible first | refine zAa ?_ ?_ | refine zAb ?_ ?_) <;> (intro h; have hb := h; (try simp only [nf] at h); refine sb ?_; (try clear hb))) | ((with_reducible refine And.intro ?_ ?_); · omega) | ((first | refine zAc ?_ | refine cvA (zBq _ _ _) ?_ | refine cvA (zKT _ _ hs (by decide)) ?_); refine st ?_) | refine jn _ ?_ ?_ | (with_reducible first | refine both ?_ ?_ | refine And.intro ?_ ?_) | exact fe | refine st ?_ | exact fm | refine s1 ?_ | (with_reducible exact True.intro))
 all_goals simp_all [zAZ]
def zBv (l : List ByteArray) : Bool := zAu (fun i => zAZ (nth l i) && (decide (i = 0) || zAm (nth l (i - 1)) (nth l i))) l.length
theorem zC9 (l : List ByteArray) (hl : zA0 (fun s => s.size ≤ maxLen) l) : ACall Tryz.prog 127 [.sl false 1 (strs l)] (fun r _ => r = bl (zBv l)) := by
 obtain ⟨hl, hx⟩ := hl
 have hmx := zAi
 refine fi H127 fun E hE hH => ?_; simp only [go_sem] at hE hH; simp only [go_sem, hE, hH, zXp]
 refine zAx l.length (fun j (_ : Unit) => ⟨[(0, .sl false 1 (strs l)), (5, .sl false 1 (strs l)), (6, i64 l.length), (7, i64 j)], []⟩) (fun j _ => zAu (fun i => zAZ (nth l i) && (decide (i = 0) || zAm (nth l (i - 1)) (nth l i))) j = true) () rfl ?_
 intro j _ hj hI
 try simp only [go_sem, hE, hH, zQb]
 first | refine zAa (fun h => ?_) (fun h => ?_) | refine zAb (fun h => ?_) (fun h => ?_)
 ·have hb := h
  simp only [nf] at h
  have hlt := h; clear h
  have hs := hx _ (zAh hlt)
  try simp (disch := omega) only [go_sem, hE, hH, hb]
  repeat' (first | ((with_reducible first | refine zAa ?_ ?_ | refine zAb ?_ ?_) <;> (intro h; have hb := h; (try simp only [nf] at h); refine sb ?_; (try clear hb))) | ((with_reducible refine And.intro ?_ ?_); · omega) | ((first | refine zAc ?_ | refine cvA (zFb _ (by assumption)) ?_); refine st ?_) | refine jn _ ?_ ?_ | (with_reducible first | refine both ?_ ?_ | refine And.intro ?_ ?_) | exact fe | refine st ?_ | exact fm | refine s1 ?_ | (with_reducible exact True.intro))
  ·rw [zBv, zAF hlt (by simp_all)]
  ·rw [zBv, zAF hlt (by simp_all <;> omega)]
  ·exact ⟨(), rfl, zAf hI (by simp_all)⟩
  ·exact ⟨(), rfl, zAf hI (by simp_all <;> omega)⟩
 ·try simp (disch := omega) only [go_sem, hE, hH, h]
  simp only [nf] at h
  rw [show j = l.length by omega] at hI
  rw [zBv, hI]
def zFK (l : List Int) (lo hi : Int) : Bool := zAu (fun i => rng (nth l i) lo hi) l.length
theorem zOC (l : List Int) (lo hi : Int) (hl : l.length ≤ maxLen) : ACall Tryz.prog 65 [.sl false 1 (ints l), i64 lo, i64 hi] (fun r _ => r = bl (zFK l lo hi)) := by
 have hmx := zAi
 refine fi H65 fun E hE hH => ?_; simp only [go_sem] at hE hH; simp only [go_sem, hE, hH, C65]
 refine zAx l.length (fun j (_ : Unit) => ⟨[(1, i64 lo), (2, i64 hi), (9, .sl false 1 (ints l)), (10, i64 l.length), (11, i64 j)], []⟩) (fun j _ => zAu (fun i => rng (nth l i) lo hi) j = true) () rfl ?_
 intro j _ hj hI
 try simp only [go_sem, hE, hH, zS7]
 first | refine zAa (fun h => ?_) (fun h => ?_) | refine zAb (fun h => ?_) (fun h => ?_)
 ·have hb := h
  simp only [nf] at h
  have hlt := h; clear h
  try simp (disch := omega) only [go_sem, hE, hH, hb]
  repeat' (first | ((with_reducible first | refine zAa ?_ ?_ | refine zAb ?_ ?_) <;> (intro h; have hb := h; (try simp only [nf] at h); refine sb ?_; (try clear hb))) | ((with_reducible refine And.intro ?_ ?_); · omega) | ((first | refine zAc ?_ | refine cvA (zBq _ _ _) ?_); refine st ?_) | refine jn _ ?_ ?_ | (with_reducible first | refine both ?_ ?_ | refine And.intro ?_ ?_) | exact fe | refine st ?_ | exact fm | refine s1 ?_ | (with_reducible exact True.intro))
  ·rw [zFK, zAF hlt h]
  ·exact ⟨(), rfl, zAf hI h⟩
 ·try simp (disch := omega) only [go_sem, hE, hH, h]
  simp only [nf] at h
  rw [show j = l.length by omega] at hI
  rw [zFK, hI]
theorem zUS (l : List Int) (lo hi : Int) : (!l.any fun n => !rng n lo hi) = zFK l lo hi := by
 rw [zFK, zAS (p := fun n => rng n lo hi)]
 simp [List.any_eq_not_all_not]
theorem zTl (l : List ByteArray) (key : ByteArray) (hl : l.length ≤ maxLen) : ACall Tryz.prog 92 [.sl false 1 (strs l), str key] (fun r _ => r = i64 (zCE (fun i => !zAm key (nth l i)) l.length)) := by
 have hmx := zAi
 refine fi H92 fun E hE hH => ?_; simp only [go_sem] at hE hH; simp only [go_sem, hE, hH, C92]
 refine zAx l.length (fun j (c : Nat) => ⟨[(1, str key), (5, i64 c), (8, .sl false 1 (strs l)), (9, i64 l.length), (10, i64 j)], []⟩) (fun j c => c = zCE (fun i => !zAm key (nth l i)) j) 0 rfl ?_
 intro j c hj hI
 have hc : c ≤ j := by rw [hI]; exact zGS
 try simp only [go_sem, hE, hH, zTf]
 first | refine zAa (fun h => ?_) (fun h => ?_) | refine zAb (fun h => ?_) (fun h => ?_)
 ·have hb := h
  simp only [nf] at h
  have hlt := h; clear h
  try simp (disch := omega) only [go_sem, hE, hH, hb]
  repeat' (first | ((with_reducible first | refine zAa ?_ ?_ | refine zAb ?_ ?_) <;> (intro h; have hb := h; (try simp only [nf] at h); refine sb ?_; (try clear hb))) | ((with_reducible refine And.intro ?_ ?_); · omega) | refine jn _ ?_ ?_ | (with_reducible first | refine both ?_ ?_ | refine And.intro ?_ ?_) | exact fe | refine st ?_ | exact fm | refine s1 ?_ | (with_reducible exact True.intro))
  ·simp [zCE, h, hI]
  ·simp [zCE, h, hI]
 ·try simp (disch := omega) only [go_sem, hE, hH, h]
  simp only [nf] at h
  rw [show j = l.length by omega] at hI
  rw [hI]
end Go.Proofs.Wb

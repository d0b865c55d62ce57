/- Contracts of functions. -/
import Derived.Test.YtmkchadpehdhjaaFnRingsK2
import Derived.Laws.Externs
set_option linter.unusedSimpArgs false
set_option linter.unusedVariables false
set_option linter.unusedSectionVars false
namespace Go.Proofs.Wb
open Go Go.Am
/-! ways in a graph of waits -/
theorem nth_st {α : Type} [Inhabited α] {l : List α} {i j : Nat} {x : α} (h : j < l.length) : nth (l.set i x) j = if i = j then x else nth l j := by
  simp only [nth, List.getD_eq_getElem?_getD, List.getElem?_set]
  by_cases e : i = j
  · subst e; simp [h]
  · simp [e]
theorem ext_nth {α : Type} [Inhabited α] {a b : List α} (h : a.length = b.length) (h2 : ∀ i, i < a.length → nth a i = nth b i) : a = b := by
  refine List.ext_getElem h fun i h3 h4 => ?_
  rw [← nth_lt h3, ← nth_lt h4]; exact h2 i h3
def nb (g : List (List Int)) (v : Int) : List Int := nth g v.toNat
def wk (g : List (List Int)) (t : Int) : Nat → Int → Bool
  | 0, v => decide (v = t)
  | d + 1, v => (nb g v).any (wk g t d)
def dl (g : List (List Int)) (t : Int) : Nat → Int → Nat
  | 0, _ => 0
  | j + 1, v => if dl g t j v = 0 then (if wk g t (j + 1) v = true then j + 1 else 0) else dl g t j v
section
variable {g : List (List Int)} {t : Int}
theorem dl_bd : ∀ {j : Nat} {v : Int}, dl g t j v ≤ j
  | 0, v => by simp [dl]
  | j + 1, v => by
    have := dl_bd (j := j) (v := v)
    simp only [dl]
    split
    · split <;> omega
    · omega
theorem dl_zero : ∀ {j : Nat} {v : Int}, dl g t j v = 0 → ∀ d, 1 ≤ d → d ≤ j → wk g t d v = false
  | 0, v, _, d, h1, h2 => by omega
  | j + 1, v, h, d, h1, h2 => by
    simp only [dl] at h
    split at h
    · rename_i h0
      split at h
      · omega
      · rename_i hw
        by_cases e : d = j + 1
        · subst e; simpa using hw
        · exact dl_zero h0 d h1 (by omega)
    · omega
theorem dl_pos : ∀ {j : Nat} {v : Int}, dl g t j v ≠ 0 → wk g t (dl g t j v) v = true ∧ ∀ d, 1 ≤ d → d < dl g t j v → wk g t d v = false
  | 0, v, h => by simp [dl] at h
  | j + 1, v, h => by
    simp only [dl] at h ⊢
    split at h
    · rename_i h0
      rw [if_pos h0]
      split at h
      · rename_i hw
        rw [if_pos hw]
        exact ⟨hw, fun d h1 h2 => dl_zero h0 d h1 (by omega)⟩
      · omega
    · rename_i h0
      rw [if_neg h0]
      exact dl_pos h0
theorem dl_of {j d : Nat} {v : Int} (h1 : 1 ≤ d) (h2 : d ≤ j) (h : wk g t d v = true) : dl g t j v ≠ 0 ∧ dl g t j v ≤ d := by
  have h0 : dl g t j v ≠ 0 := fun e => by rw [dl_zero e d h1 h2] at h; simp at h
  refine ⟨h0, Nat.le_of_not_lt fun hlt => ?_⟩
  rw [(dl_pos h0).2 d h1 hlt] at h; simp at h
theorem wk_succ {d : Nat} {v : Int} : wk g t (d + 1) v = true ↔ ∃ w, w ∈ nb g v ∧ wk g t d w = true := by
  simp only [wk, List.any_eq_true]
/-- who gets the next number -/
theorem dl_step {j : Nat} {v : Int} (hj : 1 ≤ j) (h : dl g t j v = 0) : wk g t (j + 1) v = (nb g v).any fun w => decide (dl g t j w = j) := by
  rw [Bool.eq_iff_iff, wk_succ]
  simp only [List.any_eq_true, decide_eq_true_eq]
  constructor
  · rintro ⟨w, h1, h2⟩
    obtain ⟨h3, h4⟩ := dl_of hj (Nat.le_refl _) h2
    refine ⟨w, h1, ?_⟩
    by_cases e : dl g t j w = j
    · exact e
    · have := wk_succ.2 ⟨w, h1, (dl_pos h3).1⟩
      rw [dl_zero h _ (by omega) (by omega)] at this; simp at this
  · rintro ⟨w, h1, h2⟩
    refine ⟨w, h1, ?_⟩
    have h3 : dl g t j w ≠ 0 := by omega
    have := (dl_pos h3).1
    rwa [h2] at this
theorem dl_same {j : Nat} {v : Int} (hj : 1 ≤ j) : dl g t (j + 1) v = j ↔ dl g t j v = j := by
  simp only [dl]
  split
  · split <;> omega
  · exact Iff.rfl
theorem dl_mono {j : Nat} {v : Int} (h : dl g t j v ≠ 0) : dl g t (j + 1) v = dl g t j v := by simp only [dl]; rw [if_neg h]
/-- the nearest of one's neighbours -/
theorem dl_next {n m : Nat} {v : Int} (hm : 1 ≤ m) (h : dl g t n v = m + 1) : ∃ w, w ∈ nb g v ∧ dl g t n w = m := by
  have h0 : dl g t n v ≠ 0 := by omega
  have hb := dl_bd (g := g) (t := t) (j := n) (v := v)
  obtain ⟨h1, h2⟩ := dl_pos h0
  rw [h] at h1 h2
  obtain ⟨w, hw, h3⟩ := wk_succ.1 h1
  obtain ⟨h4, h5⟩ := dl_of (j := n) hm (by omega) h3
  refine ⟨w, hw, ?_⟩
  by_cases e : dl g t n w = m
  · exact e
  · have := wk_succ.2 ⟨w, hw, (dl_pos h4).1⟩
    rw [h2 _ (by omega) (by omega)] at this; simp at this
theorem dl_one {n : Nat} {v : Int} (h : dl g t n v = 1) : t ∈ nb g v := by
  have h0 : dl g t n v ≠ 0 := by omega
  have h1 := (dl_pos h0).1
  rw [h] at h1
  obtain ⟨w, hw, h3⟩ := wk_succ.1 h1
  simp only [wk, decide_eq_true_eq] at h3
  exact h3 ▸ hw
/-- how far, none at all where it is the goal itself, -1 where there is no way -/
def d0 (g : List (List Int)) (t : Int) (v : Int) : Int := if v = t then 0 else if dl g t g.length v = 0 then -1 else (dl g t g.length v : Int)
def sndF (g : List (List Int)) (t : Int) (x : List Int) : Prop := x.length = g.length ∧ (∀ v : Nat, v < g.length → -1 ≤ nth x v) ∧ (∀ v : Nat, v < g.length → 0 ≤ nth x v → wk g t (nth x v).toNat v = true ∧ nth x v + 1 ≤ (x.countP fun y => decide (0 ≤ y) : Nat))
def cplF (g : List (List Int)) (t : Int) (x : List Int) (r : Nat) : Prop := ∀ v : Nat, v < g.length → ∀ d, d ≤ r → wk g t d v = true → 0 ≤ nth x v ∧ nth x v ≤ d
theorem far_d0 {x : List Int} (hs : sndF g t x) (hc : cplF g t x g.length) {v : Nat} (hv : v < g.length) : nth x v = d0 g t v := by
  obtain ⟨h1, h2, h3⟩ := hs
  have hcn : x.countP (fun y => decide (0 ≤ y)) ≤ g.length := h1 ▸ List.countP_le_length
  unfold d0
  split
  · rename_i e
    have := hc v hv 0 (by omega) (by simp [wk, e])
    omega
  · rename_i e
    have hp : 0 ≤ nth x v → 1 ≤ (nth x v).toNat ∧ (nth x v).toNat ≤ g.length ∧ wk g t (nth x v).toNat v = true := by
      intro h
      have := h3 v hv h
      refine ⟨?_, by omega, this.1⟩
      by_cases e0 : (nth x v).toNat = 0
      · rw [e0] at this
        simp only [wk, decide_eq_true_eq] at this
        exact absurd this.1 e
      · omega
    split
    · rename_i h0
      have := h2 v hv
      by_cases hn : 0 ≤ nth x v
      · obtain ⟨a, b, c⟩ := hp hn
        rw [dl_zero h0 _ a b] at c; simp at c
      · omega
    · rename_i h0
      have hb := dl_bd (g := g) (t := t) (j := g.length) (v := v)
      obtain ⟨p1, p2⟩ := dl_pos h0
      obtain ⟨q1, q2⟩ := hc v hv _ hb p1
      obtain ⟨a, b, c⟩ := hp q1
      obtain ⟨r1, r2⟩ := dl_of a b c
      omega
/-- one betters its number -/
theorem snd_set {x : List Int} (hs : sndF g t x) {k n : Nat} (hk : k < g.length) (hn : n < g.length) (he : (n : Int) ∈ nb g k) (h1 : 0 ≤ nth x n) (h2 : nth x k < 0 ∨ nth x n + 1 < nth x k) : sndF g t (x.set k (nth x n + 1)) := by
  obtain ⟨a1, a2, a3⟩ := hs
  have hkl : k < x.length := by omega
  have hcn : (x.set k (nth x n + 1)).countP (fun y => decide (0 ≤ y)) = x.countP (fun y => decide (0 ≤ y)) - (if 0 ≤ nth x k then 1 else 0) + 1 := by
    rw [List.countP_set hkl, ← nth_lt hkl]
    simp [show 0 ≤ nth x n + 1 by omega]
  have hpos : 0 ≤ nth x k → 1 ≤ x.countP (fun y => decide (0 ≤ y)) := fun h => by have := (a3 k hk h).2; omega
  have hc2 : x.countP (fun y => decide (0 ≤ y)) + (if nth x k < 0 then 1 else 0) = (x.set k (nth x n + 1)).countP (fun y => decide (0 ≤ y)) := by
    rw [hcn]
    split <;> split <;> omega
  refine ⟨by simp [a1], fun v hv => ?_, fun v hv h => ?_⟩
  · rw [nth_st (by omega)]
    have := a2 v hv
    split <;> omega
  · rw [nth_st (by omega)] at h ⊢
    have b3 := a3 n hn h1
    split
    · rename_i e
      subst e
      refine ⟨?_, ?_⟩
      · rw [show (nth x n + 1).toNat = (nth x n).toNat + 1 by omega]
        exact wk_succ.2 ⟨n, he, b3.1⟩
      · rw [← hc2]
        rcases h2 with h2 | h2
        · rw [if_pos h2]; omega
        · have := a3 k hk (by omega)
          split <;> omega
    · rename_i e
      rw [if_neg e] at h
      have := a3 v hv h
      refine ⟨this.1, ?_⟩
      rw [← hc2]; split <;> omega
theorem cpl_set {x : List Int} {r : Nat} (hx : x.length = g.length) (hc : cplF g t x r) {k : Nat} {y : Int} (h0 : 0 ≤ y) (h2 : nth x k < 0 ∨ y < nth x k) : cplF g t (x.set k y) r := by
  intro v hv d hd hw
  have := hc v hv d hd hw
  rw [nth_st (by omega)]
  split
  · rename_i e; subst e; omega
  · exact this
/-! the walk along -/
def mn (p : Int → Bool) (l : List Int) : Int := l.foldl (fun b w => if p w && (decide (b < 0) || decide (w < b)) then w else b) (-1)
def nx (F : Int → Int) (l : List Int) : Int := l.foldl (fun b w => if decide (0 ≤ F w) && (decide (b < 0) || decide (F w < F b) || (decide (F w = F b) && decide (w < b))) then w else b) (-1)
def mnI (p : Int → Bool) (s : List Int) (b : Int) : Prop := (b = -1 ∧ ∀ w, w ∈ s → p w = false) ∨ (b ∈ s ∧ 0 ≤ b ∧ p b = true ∧ ∀ w, w ∈ s → p w = true → b ≤ w)
def nxI (F : Int → Int) (s : List Int) (b : Int) : Prop := (b = -1 ∧ ∀ w, w ∈ s → F w < 0) ∨ (b ∈ s ∧ 0 ≤ b ∧ 0 ≤ F b ∧ ∀ w, w ∈ s → 0 ≤ F w → F b < F w ∨ (F b = F w ∧ b ≤ w))
theorem mn_fold {p : Int → Bool} : ∀ {l s : List Int} {b : Int}, (∀ w, w ∈ l → 0 ≤ w) → mnI p s b → mnI p (s ++ l) (l.foldl (fun b w => if p w && (decide (b < 0) || decide (w < b)) then w else b) b)
  | [], s, b, _, h => by simpa using h
  | a :: l, s, b, hl, h => by
    have ha := hl a (List.mem_cons_self ..)
    rw [List.append_cons]
    refine mn_fold (fun w hw => hl w (List.mem_cons_of_mem _ hw)) ?_
    simp only [mnI, List.mem_append, List.mem_singleton] at h ⊢
    by_cases hp : p a = true
    · rcases h with ⟨rfl, h⟩ | ⟨h1, h2, h3, h4⟩
      · right
        simp only [hp, show decide ((-1 : Int) < 0) = true from rfl, Bool.true_or, Bool.and_self, if_true]
        refine ⟨.inr trivial, ha, trivial, ?_⟩
        rintro w (hw | rfl) hpw
        · rw [h w hw] at hpw; simp at hpw
        · omega
      · right
        by_cases hc : a < b
        · have : (decide (b < 0) || decide (a < b)) = true := by simp [hc]
          simp only [hp, this, Bool.and_self, if_true]
          refine ⟨.inr trivial, ha, trivial, ?_⟩
          rintro w (hw | rfl) hpw
          · have := h4 w hw hpw; omega
          · omega
        · have : (decide (b < 0) || decide (a < b)) = false := by simp; omega
          simp only [hp, this, Bool.and_false, Bool.false_eq_true, if_false]
          refine ⟨.inl h1, h2, h3, ?_⟩
          rintro w (hw | rfl) hpw
          · exact h4 w hw hpw
          · omega
    · have hp' : p a = false := by simpa using hp
      simp only [hp', Bool.false_and, Bool.false_eq_true, if_false]
      rcases h with ⟨rfl, h⟩ | ⟨h1, h2, h3, h4⟩
      · left
        refine ⟨rfl, ?_⟩
        rintro w (hw | rfl)
        · exact h w hw
        · exact hp'
      · right
        refine ⟨.inl h1, h2, h3, ?_⟩
        rintro w (hw | rfl) hpw
        · exact h4 w hw hpw
        · exact absurd hpw hp
theorem nx_fold {F : Int → Int} : ∀ {l s : List Int} {b : Int}, (∀ w, w ∈ l → 0 ≤ w) → nxI F s b → nxI F (s ++ l) (l.foldl (fun b w => if decide (0 ≤ F w) && (decide (b < 0) || decide (F w < F b) || (decide (F w = F b) && decide (w < b))) then w else b) b)
  | [], s, b, _, h => by simpa using h
  | a :: l, s, b, hl, h => by
    have ha := hl a (List.mem_cons_self ..)
    rw [List.append_cons]
    refine nx_fold (fun w hw => hl w (List.mem_cons_of_mem _ hw)) ?_
    simp only [nxI, List.mem_append, List.mem_singleton] at h ⊢
    simp only [Bool.and_eq_true, Bool.or_eq_true, decide_eq_true_eq]
    by_cases hp : 0 ≤ F a
    · rcases h with ⟨rfl, h⟩ | ⟨h1, h2, h3, h4⟩
      · right
        rw [if_pos ⟨hp, .inl (.inl (by omega))⟩]
        refine ⟨.inr rfl, ha, hp, ?_⟩
        rintro w (hw | rfl) hpw
        · have := h w hw; omega
        · exact .inr ⟨rfl, by omega⟩
      · right
        by_cases hc : F a < F b ∨ (F a = F b ∧ a < b)
        · rw [if_pos ⟨hp, by omega⟩]
          refine ⟨.inr rfl, ha, hp, ?_⟩
          rintro w (hw | rfl) hpw
          · have := h4 w hw hpw; omega
          · exact .inr ⟨rfl, by omega⟩
        · rw [if_neg (by omega)]
          refine ⟨.inl h1, h2, h3, ?_⟩
          rintro w (hw | rfl) hpw
          · exact h4 w hw hpw
          · omega
    · rw [if_neg (by omega)]
      rcases h with ⟨rfl, h⟩ | ⟨h1, h2, h3, h4⟩
      · left
        refine ⟨rfl, ?_⟩
        rintro w (hw | rfl)
        · exact h w hw
        · omega
      · right
        refine ⟨.inl h1, h2, h3, ?_⟩
        rintro w (hw | rfl) hpw
        · exact h4 w hw hpw
        · omega
theorem mn_is {p : Int → Bool} {l : List Int} (h : ∀ w, w ∈ l → 0 ≤ w) : mnI p l (mn p l) := by
  have := mn_fold (p := p) (l := l) (s := []) (b := -1) h (.inl ⟨rfl, by simp⟩)
  rw [List.nil_append] at this
  exact this
theorem nx_is {F : Int → Int} {l : List Int} (h : ∀ w, w ∈ l → 0 ≤ w) : nxI F l (nx F l) := by
  have := nx_fold (F := F) (l := l) (s := []) (b := -1) h (.inl ⟨rfl, by simp⟩)
  rw [List.nil_append] at this
  exact this
theorem d0_pos {v : Int} (h : 0 ≤ d0 g t v) (hv : v ≠ t) : dl g t g.length v ≠ 0 ∧ d0 g t v = dl g t g.length v := by
  unfold d0 at h ⊢
  rw [if_neg hv] at h ⊢
  split at h
  · omega
  · rename_i h0; rw [if_neg h0]; exact ⟨h0, rfl⟩
theorem d0_of {v : Int} (h : dl g t g.length v ≠ 0) (hv : v ≠ t) : d0 g t v = dl g t g.length v := by
  unfold d0; rw [if_neg hv, if_neg h]
theorem d0_self : d0 g t t = 0 := by simp [d0]
/-- one step of both walks -/
theorem step_to {u : Int} {m : Nat} (hw : ∀ w, w ∈ nb g u → 0 ≤ w) (h : dl g t g.length u = m + 1) : (m = 0 → nx (d0 g t) (nb g u) = t) ∧ (1 ≤ m → nx (d0 g t) (nb g u) = mn (fun w => decide (dl g t g.length w = m)) (nb g u) ∧ nx (d0 g t) (nb g u) ∈ nb g u ∧ dl g t g.length (nx (d0 g t) (nb g u)) = m ∧ nx (d0 g t) (nb g u) ≠ t) := by
  have hb := dl_bd (g := g) (t := t) (j := g.length) (v := u)
  have h0 : dl g t g.length u ≠ 0 := by omega
  constructor
  · rintro rfl
    have ht := dl_one h
    rcases nx_is (F := d0 g t) hw with ⟨_, h1⟩ | ⟨h1, h2, h3, h4⟩
    · have := h1 t ht; rw [d0_self] at this; omega
    · have := h4 t ht (by rw [d0_self]; omega)
      rw [d0_self] at this
      by_cases e : nx (d0 g t) (nb g u) = t
      · exact e
      · obtain ⟨a, b⟩ := d0_pos h3 e; omega
  · intro hm
    have hnt : ¬ t ∈ nb g u := fun ht => by
      have := dl_of (j := g.length) (d := 1) (v := u) (g := g) (t := t) (by omega) (by omega) (wk_succ.2 ⟨t, ht, by simp [wk]⟩)
      omega
    obtain ⟨w, w1, w2⟩ := dl_next hm h
    have wt : ∀ x, x ∈ nb g u → x ≠ t := fun x hx e => hnt (e ▸ hx)
    have hmin : ∀ x, x ∈ nb g u → 0 ≤ d0 g t x → (m : Int) ≤ d0 g t x := by
      intro x hx hp
      obtain ⟨a, b⟩ := d0_pos hp (wt x hx)
      have hxb := dl_bd (g := g) (t := t) (j := g.length) (v := x)
      have := wk_succ.2 ⟨x, hx, (dl_pos a).1⟩
      by_cases hc : dl g t g.length x + 1 ≤ g.length
      · have := (dl_of (by omega) hc this).2
        omega
      · omega
    have hdw : d0 g t w = m := by rw [d0_of (by omega) (wt w w1), w2]
    rcases nx_is (F := d0 g t) hw with ⟨_, h1⟩ | ⟨h1, h2, h3, h4⟩
    · have := h1 w w1; omega
    · have e1 := h4 w w1 (by omega)
      have e2 := hmin _ h1 h3
      have e3 : d0 g t (nx (d0 g t) (nb g u)) = m := by omega
      obtain ⟨a, b⟩ := d0_pos h3 (wt _ h1)
      refine ⟨?_, h1, by omega, wt _ h1⟩
      rcases mn_is (p := fun w => decide (dl g t g.length w = m)) hw with ⟨_, q⟩ | ⟨q1, q2, q3, q4⟩
      · have := q w w1; simp [w2] at this
      · simp only [decide_eq_true_eq] at q3 q4
        have c1 := q4 _ h1 (by omega)
        have c2 := h4 _ q1 (by rw [d0_of (by omega) (wt _ q1)]; omega)
        rw [d0_of (v := mn _ _) (by omega) (wt _ q1)] at c2
        omega
def ring (g : List (List Int)) (t : Int) : Nat → Int → List Int
  | 0, _ => []
  | m + 1, u => mn (fun w => decide (dl g t g.length w = m + 1)) (nb g u) :: ring g t m (mn (fun w => decide (dl g t g.length w = m + 1)) (nb g u))
theorem ring_len : ∀ {m : Nat} {u : Int}, (ring g t m u).length = m
  | 0, _ => rfl
  | m + 1, u => by simp [ring, ring_len]
def okG (g : List (List Int)) : Prop := g.length ≤ 20 ∧ ∀ y, y ∈ g → ∀ w, w ∈ y → 0 ≤ w ∧ w < g.length
theorem okG_nb (hg : okG g) {u : Int} (h0 : 0 ≤ u) (h1 : u < g.length) : ∀ w, w ∈ nb g u → 0 ≤ w ∧ w < g.length := fun w hw => hg.2 _ (nth_mem (show u.toNat < g.length by omega)) w hw
/-- what the walk meets -/
theorem ring_at (hg : okG g) : ∀ {m : Nat} {u : Int}, 0 ≤ u → u < g.length → dl g t g.length u = m + 1 → ∀ i, i ≤ m → 0 ≤ nth (u :: ring g t m u) i ∧ nth (u :: ring g t m u) i < g.length ∧ dl g t g.length (nth (u :: ring g t m u) i) = m + 1 - i ∧ (i < m → nth (u :: ring g t m u) (i + 1) ∈ nb g (nth (u :: ring g t m u) i))
  | 0, u, h0, h1, h, i, hi => by
    obtain rfl : i = 0 := by omega
    exact ⟨h0, h1, by simpa [nth_cons_zero] using h, fun h => by omega⟩
  | m + 1, u, h0, h1, h, i, hi => by
    have hn := okG_nb hg h0 h1
    obtain ⟨_, hs⟩ := step_to (fun w hw => (hn w hw).1) h
    obtain ⟨e1, e2, e3, e4⟩ := hs (by omega)
    rw [e1] at e2 e3
    have hw := hn _ e2
    cases i with
    | zero =>
      refine ⟨h0, h1, by simpa [nth_cons_zero] using h, fun _ => ?_⟩
      rw [nth_cons_succ, nth_cons_zero, ring, nth_cons_zero]
      exact e2
    | succ i =>
      rw [nth_cons_succ, nth_cons_succ, ring]
      have := ring_at hg hw.1 hw.2 e3 i (by omega)
      refine ⟨this.1, this.2.1, by rw [this.2.2.1]; omega, fun hlt => this.2.2.2 (by omega)⟩
theorem wk_app {u : Int} {d : Nat} (h : wk g t d u = true) : ∀ {i : Nat} {v : Int}, wk g u i v = true → wk g t (d + i) v = true
  | 0, v, hv => by
    simp only [wk, decide_eq_true_eq] at hv
    rw [hv]; exact h
  | i + 1, v, hv => by
    obtain ⟨w, h1, h2⟩ := wk_succ.1 hv
    exact wk_succ.2 ⟨w, h1, wk_app h h2⟩
/-- who is met is on a ring of its own -/
theorem ring_self (hg : okG g) {m : Nat} {u : Int} (h0 : 0 ≤ u) (h1 : u < g.length) (ht : u = t) (h : dl g t g.length u = m + 1) {i : Nat} (hi : i ≤ m) : dl g (nth (u :: ring g t m u) i) g.length (nth (u :: ring g t m u) i) ≠ 0 := by
  have hb := dl_bd (g := g) (t := t) (j := g.length) (v := u)
  have pre : ∀ i, i ≤ m → wk g (nth (u :: ring g t m u) i) i u = true := by
    intro i
    induction i with
    | zero => intro _; simp [wk, nth_cons_zero]
    | succ i ih =>
      intro hi
      have e := (ring_at hg h0 h1 h i (by omega)).2.2.2 (by omega)
      have : wk g (nth (u :: ring g t m u) (i + 1)) 1 (nth (u :: ring g t m u) i) = true := wk_succ.2 ⟨_, e, by simp [wk]⟩
      have := wk_app this (ih (by omega))
      rw [Nat.add_comm 1 i] at this
      exact this
  obtain ⟨_, _, e, _⟩ := ring_at hg h0 h1 h i hi
  have w1 := (dl_pos (g := g) (t := t) (j := g.length) (v := nth (u :: ring g t m u) i) (by omega)).1
  rw [e] at w1
  have w2 := pre i hi
  rw [ht] at w2 w1 ⊢
  have := wk_app w2 w1
  exact (dl_of (by omega) (by omega) this).1
theorem ring_last (hg : okG g) {m : Nat} {u : Int} (h0 : 0 ≤ u) (h1 : u < g.length) (h : dl g t g.length u = m + 1) : t ∈ nb g (nth (u :: ring g t m u) m) := by
  obtain ⟨_, _, e, _⟩ := ring_at hg h0 h1 h m (Nat.le_refl _)
  exact dl_one (by rw [e]; omega)
/-- who waits only for elder ones is on no ring -/
theorem elder_wk (hg : ∀ v : Nat, v < g.length → ∀ w, w ∈ nth g v → 0 ≤ w ∧ w < v) : ∀ {d : Nat} {v : Int}, 0 ≤ v → wk g t d v = true → t ≤ v ∧ (1 ≤ d → t < v)
  | 0, v, _, h => by
    simp only [wk, decide_eq_true_eq] at h
    omega
  | d + 1, v, h0, h => by
    obtain ⟨w, h1, h2⟩ := wk_succ.1 h
    have hv : v.toNat < g.length := by
      refine Nat.lt_of_not_le fun hc => ?_
      have : nb g v = [] := by simp [nb, nth, hc]; rfl
      rw [this] at h1; simp at h1
    have := hg _ hv w h1
    have := elder_wk hg this.1 h2
    omega
theorem elder_dl (hg : ∀ v : Nat, v < g.length → ∀ w, w ∈ nth g v → 0 ≤ w ∧ w < v) {v : Nat} {j : Nat} : dl g v j v = 0 := by
  by_cases h : dl g v j v = 0
  · exact h
  · have := elder_wk hg (t := v) (v := v) (by omega) (dl_pos h).1
    omega
/-- the first ring -/
def goodG (g : List (List Int)) : Bool := decide ((g.length : Int) ≤ 20) && g.all fun y => y.all fun w => rng w 0 ((g.length : Int) - 1)
def ringR (g : List (List Int)) : List Int × Bool := if goodG g then (match (List.range g.length).find? (fun v : Nat => decide (dl g v g.length v ≠ 0)) with | none => ([], false) | some v => ((v : Int) :: ring g v (dl g v g.length v - 1) v, true)) else ([], false)
theorem goodG_ok (h : goodG g = true) : okG g := by
  simp only [goodG, Bool.and_eq_true, decide_eq_true_eq, List.all_eq_true, rng_iff] at h
  refine ⟨by omega, fun y hy w hw => ?_⟩
  have := h.2 y hy w hw
  omega
theorem ringR_at (hg : goodG g = true) {j : Nat} (hj : j < g.length) (h1 : ∀ v : Nat, v < j → dl g v g.length v = 0) (h2 : dl g j g.length j ≠ 0) : ringR g = ((j : Int) :: ring g j (dl g j g.length j - 1) j, true) := by
  have e : (List.range g.length).find? (fun v : Nat => decide (dl g v g.length v ≠ 0)) = some j := by
    rw [List.find?_range_eq_some]
    refine ⟨by simpa using h2, by simpa using hj, fun v hv => ?_⟩
    simp [h1 v hv]
  simp only [ringR, hg, e, if_true]
theorem ringR_no (hg : goodG g = true) (h1 : ∀ v : Nat, v < g.length → dl g v g.length v = 0) : ringR g = ([], false) := by
  have e : (List.range g.length).find? (fun v : Nat => decide (dl g v g.length v ≠ 0)) = none := by
    rw [List.find?_eq_none]
    intro v hv
    simp [h1 v (by simpa using hv)]
  simp only [ringR, hg, e, if_true]
theorem ringR_bad (hg : goodG g = false) : ringR g = ([], false) := by simp [ringR, hg]
end

end Go.Proofs.Wb

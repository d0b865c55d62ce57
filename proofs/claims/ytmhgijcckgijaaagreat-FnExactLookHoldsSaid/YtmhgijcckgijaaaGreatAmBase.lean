import Derived.Below
import Derived.Deep.Quiet
import Derived.KernelRfl
set_option linter.unusedSimpArgs false
set_option linter.unusedVariables false
set_option linter.unusedSectionVars false
namespace Go.Am
open Go Go.RowKit
inductive T where
 | any
 | v (x : Value)
 | agg (row : List T)
 | tup (l : List T)
 | sl (own : Bool) (k : Nat) (rows : List (List T))
 | bx (own : Bool) (row : List T)
 | ref (id lo n : Nat)
 | ptr (id i o : Nat)
 | fn (f : Nat) (caps : List T)
 deriving Inhabited
structure Hd where
 a : Option (Nat × Nat)
 cap : Nat
 k : Nat
def noH : Nat → Option Hd := fun _ => none
def zGH (arr : Array Value) (fr : Nat × Nat) : Prop := ∀ i, i ≤ arr.size → ¬ (fr.1 ≤ i ∧ i < fr.2)
def Held (S : Nat → Prop) (own : Bool) (b : Nat) (Fs : List Nat) (arr : Array Value) (fr : Nat × Nat) (F : List Nat) : Prop :=
 match own with
 | true => F = b :: Fs ∧ zGH arr fr
 | false => F = [] ∧ S b ∧ ∀ c ∈ Fs, S c
mutual
def Rep (S : Nat → Prop) (w : World) (ρ : Nat → Option Hd) : T → Value → List Nat → Prop
 | .any, _, F => F = []
 | .v x, y, F => y = x ∧ F = []
 | .agg row, y, F => ∃ cs : Array Value, y = .agg cs ∧ cs.size = row.length ∧ RepRow S w ρ (fun i => cs[i]?) 0 row F
 | .tup l, y, F => ∃ vs : Array Value, y = .tuple vs ∧ vs.size = l.length ∧ RepRow S w ρ (fun i => vs[i]?) 0 l F
 | .sl own k rows, y, F => ∃ a cap, y = .slice a rows.length cap ∧
   ((cap = 0 ∧ rows = [] ∧ F = []) ∨
    ∃ b off arr el fr Fs, a = some ⟨b, off, none⟩ ∧ w.heap[b]? = some (.cells arr el fr) ∧ rows.length ≤ cap ∧ off + cap * k ≤ arr.size ∧
     zAd S w noH (fun i => arr[i]?) off k rows Fs ∧ Held S own b Fs arr fr F)
 | .bx own row, y, F => ∃ b off arr el fr Fs, y = .pointer (some ⟨b, off, none⟩) ∧ w.heap[b]? = some (.cells arr el fr) ∧ off + row.length ≤ arr.size ∧
   RepRow S w noH (fun i => arr[i]?) off row Fs ∧ Held S own b Fs arr fr F
 | .ref id lo n, y, F => F = [] ∧ ∃ hd a c, ρ id = some hd ∧ y = .slice a n c ∧ lo + c = hd.cap ∧ n ≤ c ∧
   (c = 0 ∨ ∃ b off, hd.a = some (b, off) ∧ a = some ⟨b, off + lo * hd.k, none⟩)
 | .ptr id i o, y, F => F = [] ∧ ∃ hd b off, ρ id = some hd ∧ hd.a = some (b, off) ∧ y = .pointer (some ⟨b, off + i * hd.k + o, none⟩)
 | .fn f caps, y, F => ∃ cv : Array Value, y = .func (.func f) #[] cv ∧ cv.size = caps.length ∧ RepRow S w ρ (fun i => cv[i]?) 0 caps F
def RepRow (S : Nat → Prop) (w : World) (ρ : Nat → Option Hd) (cell : Nat → Option Value) (o : Nat) : List T → List Nat → Prop
 | [], F => F = []
 | t :: ts, F => ∃ y F1 F2, cell o = some y ∧ Rep S w ρ t y F1 ∧ RepRow S w ρ cell (o + 1) ts F2 ∧ F = F1 ++ F2
def zAd (S : Nat → Prop) (w : World) (ρ : Nat → Option Hd) (cell : Nat → Option Value) (o k : Nat) : List (List T) → List Nat → Prop
 | [], F => F = []
 | r :: rs, F => ∃ F1 F2, r.length = k ∧ RepRow S w ρ cell o r F1 ∧ zAd S w ρ cell (o + k) k rs F2 ∧ F = F1 ++ F2
end
theorem Held.sub {S : Nat → Prop} {own : Bool} {b : Nat} {Fs : List Nat} {arr : Array Value} {fr : Nat × Nat} {F : List Nat} (h : Held S own b Fs arr fr F) :
  ∀ c, c = b ∨ c ∈ Fs → c ∈ F ∨ S c := by
 intro c hc
 cases own with
 | true =>
  obtain ⟨rfl, _⟩ := h
  rcases hc with rfl | hc
  ·exact .inl (List.mem_cons_self ..)
  ·exact .inl (List.mem_cons_of_mem _ hc)
 | false =>
  obtain ⟨_, h1, h2⟩ := h
  rcases hc with rfl | hc
  ·exact .inr h1
  ·exact .inr (h2 c hc)
section frame
variable {S : Nat → Prop} {w w' : World}
mutual
theorem zEG : ∀ {ρ : Nat → Option Hd} (t : T) {y : Value} {F : List Nat}, Rep S w ρ t y F → (∀ b, b ∈ F ∨ S b → w'.heap[b]? = w.heap[b]?) → Rep S w' ρ t y F
 | _, .any, _, _, h, _ => h
 | _, .v _, _, _, h, _ => h
 | _, .agg row, _, _, h, hw => by
  simp only [Rep] at h ⊢
  obtain ⟨cs, h1, h2, h3⟩ := h
  exact ⟨cs, h1, h2, zBj row h3 hw⟩
 | _, .tup l, _, _, h, hw => by
  simp only [Rep] at h ⊢
  obtain ⟨cs, h1, h2, h3⟩ := h
  exact ⟨cs, h1, h2, zBj l h3 hw⟩
 | _, .sl own k rows, _, _, h, hw => by
  simp only [Rep] at h ⊢
  obtain ⟨a, cap, h1, h2⟩ := h
  refine ⟨a, cap, h1, ?_⟩
  rcases h2 with h2 | ⟨b, off, arr, el, fr, Fs, h3, h4, h5, h6, h7, h8⟩
  ·exact .inl h2
  ·have hs := h8.sub
   exact .inr ⟨b, off, arr, el, fr, Fs, h3, by rw [hw b (hs b (.inl rfl))]; exact h4, h5, h6,
    zBZ rows h7 (fun c hc => hw c (hc.elim (fun h => hs c (.inr h)) .inr)), h8⟩
 | _, .bx own row, _, _, h, hw => by
  simp only [Rep] at h ⊢
  obtain ⟨b, off, arr, el, fr, Fs, h3, h4, h5, h7, h8⟩ := h
  have hs := h8.sub
  exact ⟨b, off, arr, el, fr, Fs, h3, by rw [hw b (hs b (.inl rfl))]; exact h4, h5,
    zBj row h7 (fun c hc => hw c (hc.elim (fun h => hs c (.inr h)) .inr)), h8⟩
 | _, .ref _ _ _, _, _, h, _ => h
 | _, .ptr _ _ _, _, _, h, _ => h
 | _, .fn _ caps, _, _, h, hw => by
  simp only [Rep] at h ⊢
  obtain ⟨cs, h1, h2, h3⟩ := h
  exact ⟨cs, h1, h2, zBj caps h3 hw⟩
theorem zBj : ∀ {ρ : Nat → Option Hd} {cell : Nat → Option Value} {o : Nat} (l : List T) {F : List Nat}, RepRow S w ρ cell o l F → (∀ b, b ∈ F ∨ S b → w'.heap[b]? = w.heap[b]?) → RepRow S w' ρ cell o l F
 | _, _, _, [], _, h, _ => h
 | _, _, _, t :: ts, _, h, hw => by
  simp only [RepRow] at h ⊢
  obtain ⟨y, F1, F2, h1, h2, h3, rfl⟩ := h
  exact ⟨y, F1, F2, h1, zEG t h2 (fun b hb => hw b (hb.imp (List.mem_append_left _) id)), zBj ts h3 (fun b hb => hw b (hb.imp (List.mem_append_right _) id)), rfl⟩
theorem zBZ : ∀ {ρ : Nat → Option Hd} {cell : Nat → Option Value} {o k : Nat} (l : List (List T)) {F : List Nat}, zAd S w ρ cell o k l F → (∀ b, b ∈ F ∨ S b → w'.heap[b]? = w.heap[b]?) → zAd S w' ρ cell o k l F
 | _, _, _, _, [], _, h, _ => h
 | _, _, _, _, r :: rs, _, h, hw => by
  simp only [zAd] at h ⊢
  obtain ⟨F1, F2, h1, h2, h3, rfl⟩ := h
  exact ⟨F1, F2, h1, zBj r h2 (fun b hb => hw b (hb.imp (List.mem_append_left _) id)), zBZ rs h3 (fun b hb => hw b (hb.imp (List.mem_append_right _) id)), rfl⟩
end
end frame
theorem Held.monoS {S S' : Nat → Prop} {own : Bool} {b : Nat} {Fs : List Nat} {arr : Array Value} {fr : Nat × Nat} {F : List Nat} (h : Held S own b Fs arr fr F) (hS : ∀ b, S b → S' b) : Held S' own b Fs arr fr F := by
 cases own with
 | true => exact h
 | false => exact ⟨h.1, hS _ h.2.1, fun c hc => hS _ (h.2.2 c hc)⟩
section monoS
variable {S S' : Nat → Prop} {w : World}
mutual
theorem zCl (hS : ∀ b, S b → S' b) : ∀ {ρ : Nat → Option Hd} (t : T) {y : Value} {F : List Nat}, Rep S w ρ t y F → Rep S' w ρ t y F
 | _, .any, _, _, h => h
 | _, .v _, _, _, h => h
 | _, .agg row, _, _, h => by
  simp only [Rep] at h ⊢
  obtain ⟨cs, h1, h2, h3⟩ := h
  exact ⟨cs, h1, h2, zBr hS row h3⟩
 | _, .tup l, _, _, h => by
  simp only [Rep] at h ⊢
  obtain ⟨cs, h1, h2, h3⟩ := h
  exact ⟨cs, h1, h2, zBr hS l h3⟩
 | _, .sl own k rows, _, _, h => by
  simp only [Rep] at h ⊢
  obtain ⟨a, cap, h1, h2⟩ := h
  refine ⟨a, cap, h1, ?_⟩
  rcases h2 with h2 | ⟨b, off, arr, el, fr, Fs, h3, h4, h5, h6, h7, h8⟩
  ·exact .inl h2
  ·exact .inr ⟨b, off, arr, el, fr, Fs, h3, h4, h5, h6, zDz hS rows h7, h8.monoS hS⟩
 | _, .bx own row, _, _, h => by
  simp only [Rep] at h ⊢
  obtain ⟨b, off, arr, el, fr, Fs, h3, h4, h5, h7, h8⟩ := h
  exact ⟨b, off, arr, el, fr, Fs, h3, h4, h5, zBr hS row h7, h8.monoS hS⟩
 | _, .ref _ _ _, _, _, h => h
 | _, .ptr _ _ _, _, _, h => h
 | _, .fn _ caps, _, _, h => by
  simp only [Rep] at h ⊢
  obtain ⟨cs, h1, h2, h3⟩ := h
  exact ⟨cs, h1, h2, zBr hS caps h3⟩
theorem zBr (hS : ∀ b, S b → S' b) : ∀ {ρ : Nat → Option Hd} {cell : Nat → Option Value} {o : Nat} (l : List T) {F : List Nat}, RepRow S w ρ cell o l F → RepRow S' w ρ cell o l F
 | _, _, _, [], _, h => h
 | _, _, _, t :: ts, _, h => by
  simp only [RepRow] at h ⊢
  obtain ⟨y, F1, F2, h1, h2, h3, rfl⟩ := h
  exact ⟨y, F1, F2, h1, zCl hS t h2, zBr hS ts h3, rfl⟩
theorem zDz (hS : ∀ b, S b → S' b) : ∀ {ρ : Nat → Option Hd} {cell : Nat → Option Value} {o k : Nat} (l : List (List T)) {F : List Nat}, zAd S w ρ cell o k l F → zAd S' w ρ cell o k l F
 | _, _, _, _, [], _, h => h
 | _, _, _, _, r :: rs, _, h => by
  simp only [zAd] at h ⊢
  obtain ⟨F1, F2, h1, h2, h3, rfl⟩ := h
  exact ⟨F1, F2, h1, zBr hS r h2, zDz hS rs h3, rfl⟩
end
end monoS
mutual
def T.dsh : T → T
 | .sl _ k rows => .sl false k (zA9 rows)
 | .bx _ row => .bx false (zCd row)
 | .agg row => .agg (zCd row)
 | .tup l => .tup (zCd l)
 | .fn f caps => .fn f (zCd caps)
 | .any => .any
 | .v x => .v x
 | .ref id lo n => .ref id lo n
 | .ptr id i o => .ptr id i o
def zCd : List T → List T
 | [] => []
 | t :: ts => t.dsh :: zCd ts
def zA9 : List (List T) → List (List T)
 | [] => []
 | r :: rs => zCd r :: zA9 rs
end
theorem zB8 : ∀ l : List T, (zCd l).length = l.length
 | [] => rfl
 | t :: ts => by simp [zCd, zB8 ts]
theorem zCr : ∀ l : List (List T), zA9 l = l.map zCd
 | [] => rfl
 | t :: ts => by simp [zA9, zCr ts]
theorem zC4 (l : List (List T)) : (zA9 l).length = l.length := by simp [zCr]
theorem Held.dsh {S : Nat → Prop} {own : Bool} {b : Nat} {Fs : List Nat} {arr : Array Value} {fr : Nat × Nat} {F : List Nat} (h : Held S own b Fs arr fr F) (hF : ∀ c, c ∈ F → S c) : Held S false b [] arr fr [] ∧ ∀ c, c ∈ Fs → S c := by
 cases own with
 | true =>
  obtain ⟨rfl, _⟩ := h
  exact ⟨⟨rfl, hF b (List.mem_cons_self ..), by simp⟩, fun c hc => hF c (List.mem_cons_of_mem _ hc)⟩
 | false => exact ⟨⟨rfl, h.2.1, by simp⟩, h.2.2⟩
section dsh
variable {S : Nat → Prop} {w : World}
mutual
theorem zIR : ∀ {ρ : Nat → Option Hd} (t : T) {y : Value} {F : List Nat}, Rep S w ρ t y F → (∀ c, c ∈ F → S c) → Rep S w ρ t.dsh y []
 | _, .any, _, _, _, _ => by simp only [Rep, T.dsh]
 | _, .v _, _, _, h, _ => by simp only [Rep, T.dsh] at h ⊢; exact ⟨h.1, trivial⟩
 | _, .agg row, _, _, h, hF => by
  simp only [Rep, T.dsh] at h ⊢
  obtain ⟨cs, h1, h2, h3⟩ := h
  exact ⟨cs, h1, by rw [zB8]; exact h2, zCm row h3 hF⟩
 | _, .tup l, _, _, h, hF => by
  simp only [Rep, T.dsh] at h ⊢
  obtain ⟨cs, h1, h2, h3⟩ := h
  exact ⟨cs, h1, by rw [zB8]; exact h2, zCm l h3 hF⟩
 | _, .sl own k rows, _, _, h, hF => by
  simp only [Rep, T.dsh] at h ⊢
  obtain ⟨a, cap, h1, h2⟩ := h
  refine ⟨a, cap, by rw [zC4]; exact h1, ?_⟩
  rcases h2 with ⟨h2, h3, h4⟩ | ⟨b, off, arr, el, fr, Fs, h3, h4, h5, h6, h7, h8⟩
  ·subst h3; exact .inl ⟨h2, rfl, trivial⟩
  ·obtain ⟨e1, e2⟩ := h8.dsh hF
   exact .inr ⟨b, off, arr, el, fr, [], h3, h4, by rw [zC4]; exact h5, h6, zGe rows h7 e2, e1⟩
 | _, .bx own row, _, _, h, hF => by
  simp only [Rep, T.dsh] at h ⊢
  obtain ⟨b, off, arr, el, fr, Fs, h3, h4, h5, h7, h8⟩ := h
  obtain ⟨e1, e2⟩ := h8.dsh hF
  exact ⟨b, off, arr, el, fr, [], h3, h4, by rw [zB8]; exact h5, zCm row h7 e2, e1⟩
 | _, .ref _ _ _, _, _, h, _ => by simp only [Rep, T.dsh] at h ⊢; exact ⟨trivial, h.2⟩
 | _, .ptr _ _ _, _, _, h, _ => by simp only [Rep, T.dsh] at h ⊢; exact ⟨trivial, h.2⟩
 | _, .fn _ caps, _, _, h, hF => by
  simp only [Rep, T.dsh] at h ⊢
  obtain ⟨cs, h1, h2, h3⟩ := h
  exact ⟨cs, h1, by rw [zB8]; exact h2, zCm caps h3 hF⟩
theorem zCm : ∀ {ρ : Nat → Option Hd} {cell : Nat → Option Value} {o : Nat} (l : List T) {F : List Nat}, RepRow S w ρ cell o l F → (∀ c, c ∈ F → S c) → RepRow S w ρ cell o (zCd l) []
 | _, _, _, [], _, _, _ => by simp only [RepRow, zCd]
 | _, _, _, t :: ts, _, h, hF => by
  simp only [RepRow, zCd] at h ⊢
  obtain ⟨y, F1, F2, h1, h2, h3, rfl⟩ := h
  exact ⟨y, [], [], h1, zIR t h2 (fun c hc => hF c (List.mem_append_left _ hc)), zCm ts h3 (fun c hc => hF c (List.mem_append_right _ hc)), rfl⟩
theorem zGe : ∀ {ρ : Nat → Option Hd} {cell : Nat → Option Value} {o k : Nat} (l : List (List T)) {F : List Nat}, zAd S w ρ cell o k l F → (∀ c, c ∈ F → S c) → zAd S w ρ cell o k (zA9 l) []
 | _, _, _, _, [], _, _, _ => by simp only [zAd, zA9]
 | _, _, _, _, r :: rs, _, h, hF => by
  simp only [zAd, zA9] at h ⊢
  obtain ⟨F1, F2, h0, h1, h2, rfl⟩ := h
  exact ⟨[], [], by rw [zB8]; exact h0, zCm r h1 (fun c hc => hF c (List.mem_append_left _ hc)), zGe rs h2 (fun c hc => hF c (List.mem_append_right _ hc)), rfl⟩
end
end dsh
mutual
def T.noSh : T → Prop
 | .any => True
 | .v _ => True
 | .agg row => zDJ row
 | .tup l => zDJ l
 | .sl own _ rows => own = true ∧ zCO rows
 | .bx own row => own = true ∧ zDJ row
 | .ref _ _ _ => True
 | .ptr _ _ _ => True
 | .fn _ caps => zDJ caps
def zDJ : List T → Prop
 | [] => True
 | t :: ts => t.noSh ∧ zDJ ts
def zCO : List (List T) → Prop
 | [] => True
 | t :: ts => zDJ t ∧ zCO ts
end
section noSh
variable {S S' : Nat → Prop} {w : World}
mutual
theorem zJA : ∀ {ρ : Nat → Option Hd} (t : T) {y : Value} {F : List Nat}, t.noSh → Rep S w ρ t y F → Rep S' w ρ t y F
 | _, .any, _, _, _, h => h
 | _, .v _, _, _, _, h => h
 | _, .agg row, _, _, hn, h => by
  simp only [Rep, T.noSh] at h hn ⊢
  obtain ⟨cs, h1, h2, h3⟩ := h
  exact ⟨cs, h1, h2, zCU row hn h3⟩
 | _, .tup l, _, _, hn, h => by
  simp only [Rep, T.noSh] at h hn ⊢
  obtain ⟨cs, h1, h2, h3⟩ := h
  exact ⟨cs, h1, h2, zCU l hn h3⟩
 | _, .sl own k rows, _, _, hn, h => by
  simp only [Rep, T.noSh] at h hn ⊢
  obtain ⟨rfl, hn⟩ := hn
  obtain ⟨a, cap, h1, h2⟩ := h
  refine ⟨a, cap, h1, ?_⟩
  rcases h2 with h2 | ⟨b, off, arr, el, fr, Fs, h3, h4, h5, h6, h7, h8⟩
  ·exact .inl h2
  ·exact .inr ⟨b, off, arr, el, fr, Fs, h3, h4, h5, h6, zHU rows hn h7, h8⟩
 | _, .bx own row, _, _, hn, h => by
  simp only [Rep, T.noSh] at h hn ⊢
  obtain ⟨rfl, hn⟩ := hn
  obtain ⟨b, off, arr, el, fr, Fs, h3, h4, h5, h7, h8⟩ := h
  exact ⟨b, off, arr, el, fr, Fs, h3, h4, h5, zCU row hn h7, h8⟩
 | _, .ref _ _ _, _, _, _, h => h
 | _, .ptr _ _ _, _, _, _, h => h
 | _, .fn _ caps, _, _, hn, h => by
  simp only [Rep, T.noSh] at h hn ⊢
  obtain ⟨cs, h1, h2, h3⟩ := h
  exact ⟨cs, h1, h2, zCU caps hn h3⟩
theorem zCU : ∀ {ρ : Nat → Option Hd} {cell : Nat → Option Value} {o : Nat} (l : List T) {F : List Nat}, zDJ l → RepRow S w ρ cell o l F → RepRow S' w ρ cell o l F
 | _, _, _, [], _, _, h => h
 | _, _, _, t :: ts, _, hn, h => by
  simp only [RepRow, zDJ] at h hn ⊢
  obtain ⟨y, F1, F2, h1, h2, h3, rfl⟩ := h
  exact ⟨y, F1, F2, h1, zJA t hn.1 h2, zCU ts hn.2 h3, rfl⟩
theorem zHU : ∀ {ρ : Nat → Option Hd} {cell : Nat → Option Value} {o k : Nat} (l : List (List T)) {F : List Nat}, zCO l → zAd S w ρ cell o k l F → zAd S' w ρ cell o k l F
 | _, _, _, _, [], _, _, h => h
 | _, _, _, _, r :: rs, _, hn, h => by
  simp only [zAd, zCO] at h hn ⊢
  obtain ⟨F1, F2, h1, h2, h3, rfl⟩ := h
  exact ⟨F1, F2, h1, zCU r hn.1 h2, zHU rs hn.2 h3, rfl⟩
end
end noSh
mutual
def T.noM (d : Nat) : T → Prop
 | .ref id _ _ => id ≠ d
 | .ptr id _ _ => id ≠ d
 | .agg row => zAH d row
 | .tup l => zAH d l
 | .fn _ caps => zAH d caps
 | .any => True
 | .v _ => True
 | .sl _ _ _ => True
 | .bx _ _ => True
def zAH (d : Nat) : List T → Prop
 | [] => True
 | t :: ts => t.noM d ∧ zAH d ts
end
def zAA (d : Nat) (l : List (List T)) : Prop := ∀ r ∈ l, zAH d r
section noM
variable {S : Nat → Prop} {w : World} {ρ ρ' : Nat → Option Hd}
mutual
theorem zIS (d : Nat) (hρ : ∀ id, id ≠ d → ρ' id = ρ id) : ∀ (t : T) {y : Value} {F : List Nat}, t.noM d → Rep S w ρ t y F → Rep S w ρ' t y F
 | .any, _, _, _, h => h
 | .v _, _, _, _, h => h
 | .agg row, _, _, hn, h => by
  simp only [Rep, T.noM] at h hn ⊢
  obtain ⟨cs, h1, h2, h3⟩ := h
  exact ⟨cs, h1, h2, zDK d hρ row hn h3⟩
 | .tup l, _, _, hn, h => by
  simp only [Rep, T.noM] at h hn ⊢
  obtain ⟨cs, h1, h2, h3⟩ := h
  exact ⟨cs, h1, h2, zDK d hρ l hn h3⟩
 | .sl _ _ _, _, _, _, h => h
 | .bx _ _, _, _, _, h => h
 | .ref id _ _, _, _, hn, h => by
  simp only [Rep, T.noM] at h hn ⊢
  rw [hρ id hn]; exact h
 | .ptr id _ _, _, _, hn, h => by
  simp only [Rep, T.noM] at h hn ⊢
  rw [hρ id hn]; exact h
 | .fn _ caps, _, _, hn, h => by
  simp only [Rep, T.noM] at h hn ⊢
  obtain ⟨cs, h1, h2, h3⟩ := h
  exact ⟨cs, h1, h2, zDK d hρ caps hn h3⟩
theorem zDK (d : Nat) (hρ : ∀ id, id ≠ d → ρ' id = ρ id) : ∀ {cell : Nat → Option Value} {o : Nat} (l : List T) {F : List Nat}, zAH d l → RepRow S w ρ cell o l F → RepRow S w ρ' cell o l F
 | _, _, [], _, _, h => h
 | _, _, t :: ts, _, hn, h => by
  simp only [RepRow, zAH] at h hn ⊢
  obtain ⟨y, F1, F2, h1, h2, h3, rfl⟩ := h
  exact ⟨y, F1, F2, h1, zIS d hρ t hn.1 h2, zDK d hρ ts hn.2 h3, rfl⟩
end
theorem zGf (d : Nat) (hρ : ∀ id, id ≠ d → ρ' id = ρ id) : ∀ {cell : Nat → Option Value} {o k : Nat} (l : List (List T)) {F : List Nat}, zAA d l → zAd S w ρ cell o k l F → zAd S w ρ' cell o k l F
 | _, _, _, [], _, _, h => h
 | _, _, _, r :: rs, _, hn, h => by
  simp only [zAd] at h ⊢
  obtain ⟨F1, F2, h1, h2, h3, rfl⟩ := h
  exact ⟨F1, F2, h1, zDK d hρ r (hn r (List.mem_cons_self ..)) h2, zGf d hρ rs (fun x hx => hn x (List.mem_cons_of_mem _ hx)) h3, rfl⟩
end noM
section noM2
variable {S : Nat → Prop} {w : World} {ρ ρ' : Nat → Option Hd}
mutual
theorem zJB : ∀ (t : T) {y : Value} {F : List Nat}, (∀ d, ¬ t.noM d → ρ' d = ρ d) → Rep S w ρ t y F → Rep S w ρ' t y F
 | .any, _, _, _, h => h
 | .v _, _, _, _, h => h
 | .agg row, _, _, hn, h => by
  simp only [Rep] at h ⊢
  obtain ⟨cs, h1, h2, h3⟩ := h
  exact ⟨cs, h1, h2, zEu row (fun d hd => hn d (by simpa only [T.noM] using hd)) h3⟩
 | .tup l, _, _, hn, h => by
  simp only [Rep] at h ⊢
  obtain ⟨cs, h1, h2, h3⟩ := h
  exact ⟨cs, h1, h2, zEu l (fun d hd => hn d (by simpa only [T.noM] using hd)) h3⟩
 | .sl _ _ _, _, _, _, h => h
 | .bx _ _, _, _, _, h => h
 | .ref id _ _, _, _, hn, h => by
  simp only [Rep] at h ⊢
  rw [hn id (by simp [T.noM])]; exact h
 | .ptr id _ _, _, _, hn, h => by
  simp only [Rep] at h ⊢
  rw [hn id (by simp [T.noM])]; exact h
 | .fn _ caps, _, _, hn, h => by
  simp only [Rep] at h ⊢
  obtain ⟨cs, h1, h2, h3⟩ := h
  exact ⟨cs, h1, h2, zEu caps (fun d hd => hn d (by simpa only [T.noM] using hd)) h3⟩
theorem zEu : ∀ {cell : Nat → Option Value} {o : Nat} (l : List T) {F : List Nat}, (∀ d, ¬ zAH d l → ρ' d = ρ d) → RepRow S w ρ cell o l F → RepRow S w ρ' cell o l F
 | _, _, [], _, _, h => h
 | _, _, t :: ts, _, hn, h => by
  simp only [RepRow] at h ⊢
  obtain ⟨y, F1, F2, h1, h2, h3, rfl⟩ := h
  exact ⟨y, F1, F2, h1, zJB t (fun d hd => hn d (fun hm => hd (by simp only [zAH] at hm; exact hm.1))) h2, zEu ts (fun d hd => hn d (fun hm => hd (by simp only [zAH] at hm; exact hm.2))) h3, rfl⟩
end
end noM2
def T.closed (t : T) : Prop := ∀ d, t.noM d
mutual
def T.packed : T → Prop
 | .ref _ _ _ => False
 | .ptr _ _ _ => False
 | .agg row => zAD row
 | .tup l => zAD l
 | .fn _ caps => zAD caps
 | .any => True
 | .v _ => True
 | .sl _ _ _ => True
 | .bx _ _ => True
def zAD : List T → Prop
 | [] => True
 | t :: ts => t.packed ∧ zAD ts
end
def zAy (l : List (List T)) : Prop := ∀ r ∈ l, zAD r
section packed
variable {S : Nat → Prop} {w : World} {ρ ρ' : Nat → Option Hd}
mutual
theorem zDL : ∀ (t : T) {y : Value} {F : List Nat}, t.packed → Rep S w ρ t y F → Rep S w ρ' t y F
 | .any, _, _, _, h => h
 | .v _, _, _, _, h => h
 | .agg row, _, _, hn, h => by
  simp only [Rep, T.packed] at h hn ⊢
  obtain ⟨cs, h1, h2, h3⟩ := h
  exact ⟨cs, h1, h2, zB0 row hn h3⟩
 | .tup l, _, _, hn, h => by
  simp only [Rep, T.packed] at h hn ⊢
  obtain ⟨cs, h1, h2, h3⟩ := h
  exact ⟨cs, h1, h2, zB0 l hn h3⟩
 | .sl _ _ _, _, _, _, h => h
 | .bx _ _, _, _, _, h => h
 | .ref id _ _, _, _, hn, h => by simp only [T.packed] at hn
 | .ptr id _ _, _, _, hn, h => by simp only [T.packed] at hn
 | .fn _ caps, _, _, hn, h => by
  simp only [Rep, T.packed] at h hn ⊢
  obtain ⟨cs, h1, h2, h3⟩ := h
  exact ⟨cs, h1, h2, zB0 caps hn h3⟩
theorem zB0 : ∀ {cell : Nat → Option Value} {o : Nat} (l : List T) {F : List Nat}, zAD l → RepRow S w ρ cell o l F → RepRow S w ρ' cell o l F
 | _, _, [], _, _, h => h
 | _, _, t :: ts, _, hn, h => by
  simp only [RepRow, zAD] at h hn ⊢
  obtain ⟨y, F1, F2, h1, h2, h3, rfl⟩ := h
  exact ⟨y, F1, F2, h1, zDL t hn.1 h2, zB0 ts hn.2 h3, rfl⟩
end
theorem zDb : ∀ {cell : Nat → Option Value} {o k : Nat} (l : List (List T)) {F : List Nat}, zAy l → zAd S w ρ cell o k l F → zAd S w ρ' cell o k l F
 | _, _, _, [], _, _, h => h
 | _, _, _, r :: rs, _, hn, h => by
  simp only [zAd] at h ⊢
  obtain ⟨F1, F2, h1, h2, h3, rfl⟩ := h
  exact ⟨F1, F2, h1, zB0 r (hn r (List.mem_cons_self ..)) h2, zDb rs (fun x hx => hn x (List.mem_cons_of_mem _ hx)) h3, rfl⟩
theorem zPO {t : T} {y : Value} {F : List Nat} (h : Rep S w noH t y F) : Rep S w ρ t y F := by
 have key : ∀ t : T, ∀ y F, Rep S w noH t y F → t.packed := by
  intro t
  refine T.rec (motive_1 := fun t => ∀ y F, Rep S w noH t y F → t.packed) (motive_2 := fun l => ∀ cell o F, RepRow S w noH cell o l F → zAD l)
   (motive_3 := fun _ => True) ?_ ?_ ?_ ?_ ?_ ?_ ?_ ?_ ?_ ?_ ?_ ?_ ?_ t
  ·intros; simp [T.packed]
  ·intros; simp [T.packed]
  ·intro row ih y F h; simp only [Rep, T.packed] at h ⊢; obtain ⟨cs, _, _, h⟩ := h; exact ih _ _ _ h
  ·intro row ih y F h; simp only [Rep, T.packed] at h ⊢; obtain ⟨cs, _, _, h⟩ := h; exact ih _ _ _ h
  ·intros; simp [T.packed]
  ·intros; simp [T.packed]
  ·intro id lo n y F h; simp [Rep, noH] at h
  ·intro id lo n y F h; simp [Rep, noH] at h
  ·intro f row ih y F h; simp only [Rep, T.packed] at h ⊢; obtain ⟨cs, _, _, h⟩ := h; exact ih _ _ _ h
  ·intros; simp [zAD]
  ·intro t ts ih1 ih2 cell o F h
   simp only [RepRow, zAD] at h ⊢
   obtain ⟨y, F1, F2, _, h1, h2, _⟩ := h
   exact ⟨ih1 _ _ h1, ih2 _ _ _ h2⟩
  ·trivial
  ·intros; trivial
 exact zDL t (key t y F h) h
end packed
section rows
variable {S : Nat → Prop} {w : World} {ρ : Nat → Option Hd}
theorem zB5 {cell : Nat → Option Value} : ∀ (l : List T) (o : Nat) (F : List Nat), RepRow S w ρ cell o l F ↔
  ∃ fs : List (List Nat), fs.length = l.length ∧ F = fs.flatten ∧ ∀ i (t : T) (f : List Nat), l[i]? = some t → fs[i]? = some f → ∃ y, cell (o + i) = some y ∧ Rep S w ρ t y f
 | [], o, F => by
  simp only [RepRow]
  constructor
  ·rintro rfl; exact ⟨[], rfl, rfl, by simp⟩
  ·rintro ⟨fs, h1, rfl, _⟩; simp at h1; subst h1; rfl
 | t :: ts, o, F => by
  simp only [RepRow]
  constructor
  ·rintro ⟨y, F1, F2, h1, h2, h3, rfl⟩
   obtain ⟨fs, e1, rfl, e3⟩ := (zB5 ts (o + 1) F2).1 h3
   refine ⟨F1 :: fs, by simp [e1], by simp, ?_⟩
   intro i t' f hi hf
   cases i with
   | zero => simp at hi hf; subst hi hf; exact ⟨y, h1, h2⟩
   | succ i =>
    simp at hi hf
    have := e3 i t' f hi hf
    rwa [show o + 1 + i = o + (i + 1) from by omega] at this
  ·rintro ⟨fs, e1, rfl, e3⟩
   cases fs with
   | nil => simp at e1
   | cons f fs =>
    obtain ⟨y, h1, h2⟩ := e3 0 t f rfl rfl
    refine ⟨y, f, fs.flatten, h1, h2, (zB5 ts (o + 1) _).2 ⟨fs, by simpa using e1, rfl, ?_⟩, by simp⟩
    intro i t' f' hi hf
    have := e3 (i + 1) t' f' (by simpa using hi) (by simpa using hf)
    rwa [show o + (i + 1) = o + 1 + i from by omega] at this
theorem zAr {cell : Nat → Option Value} : ∀ (l m : List T) (o : Nat) (F : List Nat), RepRow S w ρ cell o (l ++ m) F ↔
  ∃ F1 F2, RepRow S w ρ cell o l F1 ∧ RepRow S w ρ cell (o + l.length) m F2 ∧ F = F1 ++ F2
 | [], m, o, F => by
  simp only [List.nil_append, RepRow, List.length_nil, Nat.add_zero]
  constructor
  ·intro h; exact ⟨[], F, rfl, h, rfl⟩
  ·rintro ⟨F1, F2, rfl, h, rfl⟩; exact h
 | t :: ts, m, o, F => by
  simp only [List.cons_append, RepRow, List.length_cons]
  constructor
  ·rintro ⟨y, F1, F2, h1, h2, h3, rfl⟩
   obtain ⟨G1, G2, e1, e2, rfl⟩ := (zAr ts m (o + 1) F2).1 h3
   rw [show o + 1 + ts.length = o + (ts.length + 1) from by omega] at e2
   exact ⟨F1 ++ G1, G2, ⟨y, F1, G1, h1, h2, e1, rfl⟩, e2, by simp⟩
  ·rintro ⟨_, G2, ⟨y, F1, G1, h1, h2, e1, rfl⟩, e2, rfl⟩
   rw [show o + (ts.length + 1) = o + 1 + ts.length from by omega] at e2
   exact ⟨y, F1, G1 ++ G2, h1, h2, (zAr ts m (o + 1) _).2 ⟨G1, G2, e1, e2, rfl⟩, by simp⟩
theorem zAk {cell : Nat → Option Value} {k : Nat} : ∀ (l : List (List T)) (o : Nat) (F : List Nat), zAd S w ρ cell o k l F ↔
  (∀ r ∈ l, r.length = k) ∧ RepRow S w ρ cell o l.flatten F
 | [], o, F => by simp [zAd, RepRow]
 | r :: rs, o, F => by
  simp only [zAd, List.flatten_cons, zAr, zAk rs]
  constructor
  ·rintro ⟨F1, F2, h1, h2, ⟨h3, h4⟩, rfl⟩
   exact ⟨fun x hx => (List.mem_cons.1 hx).elim (fun e => e ▸ h1) (h3 x), F1, F2, h2, by rw [h1]; exact h4, rfl⟩
  ·rintro ⟨h, F1, F2, h2, h4, rfl⟩
   have h1 := h r (List.mem_cons_self ..)
   exact ⟨F1, F2, h1, h2, ⟨fun x hx => h x (List.mem_cons_of_mem _ hx), by rw [← h1]; exact h4⟩, rfl⟩
theorem zAM {cell cell' : Nat → Option Value} {o o' : Nat} : ∀ (l : List T) {F : List Nat}, RepRow S w ρ cell o l F → (∀ i, i < l.length → cell' (o' + i) = cell (o + i)) → RepRow S w ρ cell' o' l F := by
 intro l F h hc
 rw [zB5] at h ⊢
 obtain ⟨fs, e1, rfl, e3⟩ := h
 refine ⟨fs, e1, rfl, fun i t f hi hf => ?_⟩
 obtain ⟨y, h1, h2⟩ := e3 i t f hi hf
 exact ⟨y, by rw [hc i (by have := List.getElem?_eq_some_iff.1 hi; exact this.1)]; exact h1, h2⟩
theorem zCz {cell cell' : Nat → Option Value} {o o' k : Nat} (l : List (List T)) {F : List Nat} (h : zAd S w ρ cell o k l F) (hc : ∀ i, i < l.length * k → cell' (o' + i) = cell (o + i)) : zAd S w ρ cell' o' k l F := by
 rw [zAk] at h ⊢
 refine ⟨h.1, zAM _ h.2 fun i hi => hc i ?_⟩
 have hl : l.flatten.length = l.length * k := by
  have := h.1
  clear h hc hi
  induction l with
  | nil => simp
  | cons r rs ih => simp [ih (fun x hx => this x (List.mem_cons_of_mem _ hx)), this r (List.mem_cons_self ..), Nat.succ_mul, Nat.add_comm]
 omega
end rows
end Go.Am

import Derived.Below
import Derived.Deep.Quiet
import Derived.KernelRfl
set_option linter.all false
namespace Go.Am
open Go Go.RowKit
inductive T where
 | any
 | v (x : Value)
 | agg (row : List T)
 | tup (l : List T)
 | sl (own : Bool) (k : Nat) (rows : List (List T))
 | bo (own : Bool) (row : List T) (o : Nat)
 | ref (id lo n : Nat)
 | ptr (id i o : Nat)
 | fn (f : Nat) (caps : List T)
 deriving Inhabited
abbrev T.bx (own : Bool) (row : List T) : T := .bo own row 0
structure Hd where
 a : Option (Nat × Nat)
 cap : Nat
 k : Nat
def noH : Nat → Option Hd := fun _ => none
def zHm (arr : Array Value) (fr : Nat × Nat) : Prop := ∀ i, i ≤ arr.size → ¬ (fr.1 ≤ i ∧ i < fr.2)
def Held (S : Nat → Prop) (own : Bool) (b : Nat) (Fs : List Nat) (arr : Array Value) (fr : Nat × Nat) (F : List Nat) : Prop :=
 match own with
 | true => F = b :: Fs ∧ zHm arr fr
 | false => F = [] ∧ S b ∧ ∀ c ∈ Fs, S c
mutual
def Rep (S : Nat → Prop) (w : World) (ρ : Nat → Option Hd) : T → Value → List Nat → Prop
 | .any, _, F => F = []
 | .v x, y, F => y = x ∧ F = []
 | .agg row, y, F => ∃ cs : Array Value, y = .agg cs ∧ cs.size = row.length ∧ RepRow S w ρ (fun i => cs[i]?) 0 row F
 | .tup l, y, F => ∃ vs : Array Value, y = .tuple vs ∧ vs.size = l.length ∧ RepRow S w ρ (fun i => vs[i]?) 0 l F
 | .sl own k rows, y, F => ∃ a cap, y = .slice a rows.length cap ∧
   ((cap = 0 ∧ rows = [] ∧ F = []) ∨
    ∃ b off arr el fr Fs, a = some ⟨b, off, none⟩ ∧ w.heap[b]? = some (.cells arr el fr) ∧ rows.length ≤ cap ∧ off + cap * k ≤ arr.size ∧
     zAb S w noH (fun i => arr[i]?) off k rows Fs ∧ Held S own b Fs arr fr F)
 | .bo own row o, y, F => ∃ b off arr el fr Fs, y = .pointer (some ⟨b, off + o, none⟩) ∧ w.heap[b]? = some (.cells arr el fr) ∧ off + row.length ≤ arr.size ∧
   RepRow S w noH (fun i => arr[i]?) off row Fs ∧ Held S own b Fs arr fr F
 | .ref id lo n, y, F => F = [] ∧ ∃ hd a c, ρ id = some hd ∧ y = .slice a n c ∧ lo + c = hd.cap ∧ n ≤ c ∧
   (c = 0 ∨ ∃ b off, hd.a = some (b, off) ∧ a = some ⟨b, off + lo * hd.k, none⟩)
 | .ptr id i o, y, F => F = [] ∧ ∃ hd b off, ρ id = some hd ∧ hd.a = some (b, off) ∧ y = .pointer (some ⟨b, off + i * hd.k + o, none⟩)
 | .fn f caps, y, F => ∃ cv : Array Value, y = .func (.func f) #[] cv ∧ cv.size = caps.length ∧ RepRow S w ρ (fun i => cv[i]?) 0 caps F
def RepRow (S : Nat → Prop) (w : World) (ρ : Nat → Option Hd) (cell : Nat → Option Value) (o : Nat) : List T → List Nat → Prop
 | [], F => F = []
 | t :: ts, F => ∃ y F1 F2, cell o = some y ∧ Rep S w ρ t y F1 ∧ RepRow S w ρ cell (o + 1) ts F2 ∧ F = F1 ++ F2
def zAb (S : Nat → Prop) (w : World) (ρ : Nat → Option Hd) (cell : Nat → Option Value) (o k : Nat) : List (List T) → List Nat → Prop
 | [], F => F = []
 | r :: rs, F => ∃ F1 F2, r.length = k ∧ RepRow S w ρ cell o r F1 ∧ zAb S w ρ cell (o + k) k rs F2 ∧ F = F1 ++ F2
end
theorem Held.sub {S : Nat → Prop} {own : Bool} {b : Nat} {Fs : List Nat} {arr : Array Value} {fr : Nat × Nat} {F : List Nat} (h : Held S own b Fs arr fr F) :
  ∀ c, c = b ∨ c ∈ Fs → c ∈ F ∨ S c := by
 intro c hc
 cases own with
 | true =>
  obtain ⟨rfl, _⟩ := h
  rcases hc with rfl | hc
  ·exact .inl (List.mem_cons_self ..)
  ·exact .inl (List.mem_cons_of_mem _ hc)
 | false =>
  obtain ⟨_, h1, h2⟩ := h
  rcases hc with rfl | hc
  ·exact .inr h1
  ·exact .inr (h2 c hc)
section frame
variable {S : Nat → Prop} {w w' : World}
mutual
theorem zFp : ∀ {ρ : Nat → Option Hd} (t : T) {y : Value} {F : List Nat}, Rep S w ρ t y F → (∀ b, b ∈ F ∨ S b → w'.heap[b]? = w.heap[b]?) → Rep S w' ρ t y F
 | _, .any, _, _, h, _ => h
 | _, .v _, _, _, h, _ => h
 | _, .agg row, _, _, h, hw => by
  simp only [Rep] at h ⊢
  obtain ⟨cs, h1, h2, h3⟩ := h
  exact ⟨cs, h1, h2, zBv row h3 hw⟩
 | _, .tup l, _, _, h, hw => by
  simp only [Rep] at h ⊢
  obtain ⟨cs, h1, h2, h3⟩ := h
  exact ⟨cs, h1, h2, zBv l h3 hw⟩
 | _, .sl own k rows, _, _, h, hw => by
  simp only [Rep] at h ⊢
  obtain ⟨a, cap, h1, h2⟩ := h
  refine ⟨a, cap, h1, ?_⟩
  rcases h2 with h2 | ⟨b, off, arr, el, fr, Fs, h3, h4, h5, h6, h7, h8⟩
  ·exact .inl h2
  ·have hs := h8.sub
   exact .inr ⟨b, off, arr, el, fr, Fs, h3, by rw [hw b (hs b (.inl rfl))]; exact h4, h5, h6,
    zCa rows h7 (fun c hc => hw c (hc.elim (fun h => hs c (.inr h)) .inr)), h8⟩
 | _, .bo own row _, _, _, h, hw => by
  simp only [Rep] at h ⊢
  obtain ⟨b, off, arr, el, fr, Fs, h3, h4, h5, h7, h8⟩ := h
  have hs := h8.sub
  exact ⟨b, off, arr, el, fr, Fs, h3, by rw [hw b (hs b (.inl rfl))]; exact h4, h5,
    zBv row h7 (fun c hc => hw c (hc.elim (fun h => hs c (.inr h)) .inr)), h8⟩
 | _, .ref _ _ _, _, _, h, _ => h
 | _, .ptr _ _ _, _, _, h, _ => h
 | _, .fn _ caps, _, _, h, hw => by
  simp only [Rep] at h ⊢
  obtain ⟨cs, h1, h2, h3⟩ := h
  exact ⟨cs, h1, h2, zBv caps h3 hw⟩
theorem zBv : ∀ {ρ : Nat → Option Hd} {cell : Nat → Option Value} {o : Nat} (l : List T) {F : List Nat}, RepRow S w ρ cell o l F → (∀ b, b ∈ F ∨ S b → w'.heap[b]? = w.heap[b]?) → RepRow S w' ρ cell o l F
 | _, _, _, [], _, h, _ => h
 | _, _, _, t :: ts, _, h, hw => by
  simp only [RepRow] at h ⊢
  obtain ⟨y, F1, F2, h1, h2, h3, rfl⟩ := h
  exact ⟨y, F1, F2, h1, zFp t h2 (fun b hb => hw b (hb.imp (List.mem_append_left _) id)), zBv ts h3 (fun b hb => hw b (hb.imp (List.mem_append_right _) id)), rfl⟩
theorem zCa : ∀ {ρ : Nat → Option Hd} {cell : Nat → Option Value} {o k : Nat} (l : List (List T)) {F : List Nat}, zAb S w ρ cell o k l F → (∀ b, b ∈ F ∨ S b → w'.heap[b]? = w.heap[b]?) → zAb S w' ρ cell o k l F
 | _, _, _, _, [], _, h, _ => h
 | _, _, _, _, r :: rs, _, h, hw => by
  simp only [zAb] at h ⊢
  obtain ⟨F1, F2, h1, h2, h3, rfl⟩ := h
  exact ⟨F1, F2, h1, zBv r h2 (fun b hb => hw b (hb.imp (List.mem_append_left _) id)), zCa rs h3 (fun b hb => hw b (hb.imp (List.mem_append_right _) id)), rfl⟩
end
end frame
theorem Held.monoS {S S' : Nat → Prop} {own : Bool} {b : Nat} {Fs : List Nat} {arr : Array Value} {fr : Nat × Nat} {F : List Nat} (h : Held S own b Fs arr fr F) (hS : ∀ b, S b → S' b) : Held S' own b Fs arr fr F := by
 cases own with
 | true => exact h
 | false => exact ⟨h.1, hS _ h.2.1, fun c hc => hS _ (h.2.2 c hc)⟩
section monoS
variable {S S' : Nat → Prop} {w : World}
mutual
theorem zCC (hS : ∀ b, S b → S' b) : ∀ {ρ : Nat → Option Hd} (t : T) {y : Value} {F : List Nat}, Rep S w ρ t y F → Rep S' w ρ t y F
 | _, .any, _, _, h => h
 | _, .v _, _, _, h => h
 | _, .agg row, _, _, h => by
  simp only [Rep] at h ⊢
  obtain ⟨cs, h1, h2, h3⟩ := h
  exact ⟨cs, h1, h2, zBw hS row h3⟩
 | _, .tup l, _, _, h => by
  simp only [Rep] at h ⊢
  obtain ⟨cs, h1, h2, h3⟩ := h
  exact ⟨cs, h1, h2, zBw hS l h3⟩
 | _, .sl own k rows, _, _, h => by
  simp only [Rep] at h ⊢
  obtain ⟨a, cap, h1, h2⟩ := h
  refine ⟨a, cap, h1, ?_⟩
  rcases h2 with h2 | ⟨b, off, arr, el, fr, Fs, h3, h4, h5, h6, h7, h8⟩
  ·exact .inl h2
  ·exact .inr ⟨b, off, arr, el, fr, Fs, h3, h4, h5, h6, zDX hS rows h7, h8.monoS hS⟩
 | _, .bo own row _, _, _, h => by
  simp only [Rep] at h ⊢
  obtain ⟨b, off, arr, el, fr, Fs, h3, h4, h5, h7, h8⟩ := h
  exact ⟨b, off, arr, el, fr, Fs, h3, h4, h5, zBw hS row h7, h8.monoS hS⟩
 | _, .ref _ _ _, _, _, h => h
 | _, .ptr _ _ _, _, _, h => h
 | _, .fn _ caps, _, _, h => by
  simp only [Rep] at h ⊢
  obtain ⟨cs, h1, h2, h3⟩ := h
  exact ⟨cs, h1, h2, zBw hS caps h3⟩
theorem zBw (hS : ∀ b, S b → S' b) : ∀ {ρ : Nat → Option Hd} {cell : Nat → Option Value} {o : Nat} (l : List T) {F : List Nat}, RepRow S w ρ cell o l F → RepRow S' w ρ cell o l F
 | _, _, _, [], _, h => h
 | _, _, _, t :: ts, _, h => by
  simp only [RepRow] at h ⊢
  obtain ⟨y, F1, F2, h1, h2, h3, rfl⟩ := h
  exact ⟨y, F1, F2, h1, zCC hS t h2, zBw hS ts h3, rfl⟩
theorem zDX (hS : ∀ b, S b → S' b) : ∀ {ρ : Nat → Option Hd} {cell : Nat → Option Value} {o k : Nat} (l : List (List T)) {F : List Nat}, zAb S w ρ cell o k l F → zAb S' w ρ cell o k l F
 | _, _, _, _, [], _, h => h
 | _, _, _, _, r :: rs, _, h => by
  simp only [zAb] at h ⊢
  obtain ⟨F1, F2, h1, h2, h3, rfl⟩ := h
  exact ⟨F1, F2, h1, zBw hS r h2, zDX hS rs h3, rfl⟩
end
end monoS
mutual
def T.dsh : T → T
 | .sl _ k rows => .sl false k (zBd rows)
 | .bo _ row o => .bo false (zCs row) o
 | .agg row => .agg (zCs row)
 | .tup l => .tup (zCs l)
 | .fn f caps => .fn f (zCs caps)
 | .any => .any
 | .v x => .v x
 | .ref id lo n => .ref id lo n
 | .ptr id i o => .ptr id i o
def zCs : List T → List T
 | [] => []
 | t :: ts => t.dsh :: zCs ts
def zBd : List (List T) → List (List T)
 | [] => []
 | r :: rs => zCs r :: zBd rs
end
theorem zCm : ∀ l : List T, (zCs l).length = l.length
 | [] => rfl
 | t :: ts => by simp [zCs, zCm ts]
theorem zCJ : ∀ l : List (List T), zBd l = l.map zCs
 | [] => rfl
 | t :: ts => by simp [zBd, zCJ ts]
theorem zDg (l : List (List T)) : (zBd l).length = l.length := by simp [zCJ]
theorem Held.dsh {S : Nat → Prop} {own : Bool} {b : Nat} {Fs : List Nat} {arr : Array Value} {fr : Nat × Nat} {F : List Nat} (h : Held S own b Fs arr fr F) (hF : ∀ c, c ∈ F → S c) : Held S false b [] arr fr [] ∧ ∀ c, c ∈ Fs → S c := by
 cases own with
 | true =>
  obtain ⟨rfl, _⟩ := h
  exact ⟨⟨rfl, hF b (List.mem_cons_self ..), by simp⟩, fun c hc => hF c (List.mem_cons_of_mem _ hc)⟩
 | false => exact ⟨⟨rfl, h.2.1, by simp⟩, h.2.2⟩
section dsh
variable {S : Nat → Prop} {w : World}
mutual
theorem zJN : ∀ {ρ : Nat → Option Hd} (t : T) {y : Value} {F : List Nat}, Rep S w ρ t y F → (∀ c, c ∈ F → S c) → Rep S w ρ t.dsh y []
 | _, .any, _, _, _, _ => by simp only [Rep, T.dsh]
 | _, .v _, _, _, h, _ => by simp only [Rep, T.dsh] at h ⊢; exact ⟨h.1, trivial⟩
 | _, .agg row, _, _, h, hF => by
  simp only [Rep, T.dsh] at h ⊢
  obtain ⟨cs, h1, h2, h3⟩ := h
  exact ⟨cs, h1, by rw [zCm]; exact h2, zCD row h3 hF⟩
 | _, .tup l, _, _, h, hF => by
  simp only [Rep, T.dsh] at h ⊢
  obtain ⟨cs, h1, h2, h3⟩ := h
  exact ⟨cs, h1, by rw [zCm]; exact h2, zCD l h3 hF⟩
 | _, .sl own k rows, _, _, h, hF => by
  simp only [Rep, T.dsh] at h ⊢
  obtain ⟨a, cap, h1, h2⟩ := h
  refine ⟨a, cap, by rw [zDg]; exact h1, ?_⟩
  rcases h2 with ⟨h2, h3, h4⟩ | ⟨b, off, arr, el, fr, Fs, h3, h4, h5, h6, h7, h8⟩
  ·subst h3; exact .inl ⟨h2, rfl, trivial⟩
  ·obtain ⟨e1, e2⟩ := h8.dsh hF
   exact .inr ⟨b, off, arr, el, fr, [], h3, h4, by rw [zDg]; exact h5, h6, zGX rows h7 e2, e1⟩
 | _, .bo own row _, _, _, h, hF => by
  simp only [Rep, T.dsh] at h ⊢
  obtain ⟨b, off, arr, el, fr, Fs, h3, h4, h5, h7, h8⟩ := h
  obtain ⟨e1, e2⟩ := h8.dsh hF
  exact ⟨b, off, arr, el, fr, [], h3, h4, by rw [zCm]; exact h5, zCD row h7 e2, e1⟩
 | _, .ref _ _ _, _, _, h, _ => by simp only [Rep, T.dsh] at h ⊢; exact ⟨trivial, h.2⟩
 | _, .ptr _ _ _, _, _, h, _ => by simp only [Rep, T.dsh] at h ⊢; exact ⟨trivial, h.2⟩
 | _, .fn _ caps, _, _, h, hF => by
  simp only [Rep, T.dsh] at h ⊢
  obtain ⟨cs, h1, h2, h3⟩ := h
  exact ⟨cs, h1, by rw [zCm]; exact h2, zCD caps h3 hF⟩
theorem zCD : ∀ {ρ : Nat → Option Hd} {cell : Nat → Option Value} {o : Nat} (l : List T) {F : List Nat}, RepRow S w ρ cell o l F → (∀ c, c ∈ F → S c) → RepRow S w ρ cell o (zCs l) []
 | _, _, _, [], _, _, _ => by simp only [RepRow, zCs]
 | _, _, _, t :: ts, _, h, hF => by
  simp only [RepRow, zCs] at h ⊢
  obtain ⟨y, F1, F2, h1, h2, h3, rfl⟩ := h
  exact ⟨y, [], [], h1, zJN t h2 (fun c hc => hF c (List.mem_append_left _ hc)), zCD ts h3 (fun c hc => hF c (List.mem_append_right _ hc)), rfl⟩
theorem zGX : ∀ {ρ : Nat → Option Hd} {cell : Nat → Option Value} {o k : Nat} (l : List (List T)) {F : List Nat}, zAb S w ρ cell o k l F → (∀ c, c ∈ F → S c) → zAb S w ρ cell o k (zBd l) []
 | _, _, _, _, [], _, _, _ => by simp only [zAb, zBd]
 | _, _, _, _, r :: rs, _, h, hF => by
  simp only [zAb, zBd] at h ⊢
  obtain ⟨F1, F2, h0, h1, h2, rfl⟩ := h
  exact ⟨[], [], by rw [zCm]; exact h0, zCD r h1 (fun c hc => hF c (List.mem_append_left _ hc)), zGX rs h2 (fun c hc => hF c (List.mem_append_right _ hc)), rfl⟩
end
end dsh
mutual
def T.noSh : T → Prop
 | .any => True
 | .v _ => True
 | .agg row => zEi row
 | .tup l => zEi l
 | .sl own _ rows => own = true ∧ zC3 rows
 | .bo own row _ => own = true ∧ zEi row
 | .ref _ _ _ => True
 | .ptr _ _ _ => True
 | .fn _ caps => zEi caps
def zEi : List T → Prop
 | [] => True
 | t :: ts => t.noSh ∧ zEi ts
def zC3 : List (List T) → Prop
 | [] => True
 | t :: ts => zEi t ∧ zC3 ts
end
section noSh
variable {S S' : Nat → Prop} {w : World}
mutual
theorem zKD : ∀ {ρ : Nat → Option Hd} (t : T) {y : Value} {F : List Nat}, t.noSh → Rep S w ρ t y F → Rep S' w ρ t y F
 | _, .any, _, _, _, h => h
 | _, .v _, _, _, _, h => h
 | _, .agg row, _, _, hn, h => by
  simp only [Rep, T.noSh] at h hn ⊢
  obtain ⟨cs, h1, h2, h3⟩ := h
  exact ⟨cs, h1, h2, zC8 row hn h3⟩
 | _, .tup l, _, _, hn, h => by
  simp only [Rep, T.noSh] at h hn ⊢
  obtain ⟨cs, h1, h2, h3⟩ := h
  exact ⟨cs, h1, h2, zC8 l hn h3⟩
 | _, .sl own k rows, _, _, hn, h => by
  simp only [Rep, T.noSh] at h hn ⊢
  obtain ⟨rfl, hn⟩ := hn
  obtain ⟨a, cap, h1, h2⟩ := h
  refine ⟨a, cap, h1, ?_⟩
  rcases h2 with h2 | ⟨b, off, arr, el, fr, Fs, h3, h4, h5, h6, h7, h8⟩
  ·exact .inl h2
  ·exact .inr ⟨b, off, arr, el, fr, Fs, h3, h4, h5, h6, zIz rows hn h7, h8⟩
 | _, .bo own row _, _, _, hn, h => by
  simp only [Rep, T.noSh] at h hn ⊢
  obtain ⟨rfl, hn⟩ := hn
  obtain ⟨b, off, arr, el, fr, Fs, h3, h4, h5, h7, h8⟩ := h
  exact ⟨b, off, arr, el, fr, Fs, h3, h4, h5, zC8 row hn h7, h8⟩
 | _, .ref _ _ _, _, _, _, h => h
 | _, .ptr _ _ _, _, _, _, h => h
 | _, .fn _ caps, _, _, hn, h => by
  simp only [Rep, T.noSh] at h hn ⊢
  obtain ⟨cs, h1, h2, h3⟩ := h
  exact ⟨cs, h1, h2, zC8 caps hn h3⟩
theorem zC8 : ∀ {ρ : Nat → Option Hd} {cell : Nat → Option Value} {o : Nat} (l : List T) {F : List Nat}, zEi l → RepRow S w ρ cell o l F → RepRow S' w ρ cell o l F
 | _, _, _, [], _, _, h => h
 | _, _, _, t :: ts, _, hn, h => by
  simp only [RepRow, zEi] at h hn ⊢
  obtain ⟨y, F1, F2, h1, h2, h3, rfl⟩ := h
  exact ⟨y, F1, F2, h1, zKD t hn.1 h2, zC8 ts hn.2 h3, rfl⟩
theorem zIz : ∀ {ρ : Nat → Option Hd} {cell : Nat → Option Value} {o k : Nat} (l : List (List T)) {F : List Nat}, zC3 l → zAb S w ρ cell o k l F → zAb S' w ρ cell o k l F
 | _, _, _, _, [], _, _, h => h
 | _, _, _, _, r :: rs, _, hn, h => by
  simp only [zAb, zC3] at h hn ⊢
  obtain ⟨F1, F2, h1, h2, h3, rfl⟩ := h
  exact ⟨F1, F2, h1, zC8 r hn.1 h2, zIz rs hn.2 h3, rfl⟩
end
end noSh
mutual
def T.noM (d : Nat) : T → Prop
 | .ref id _ _ => id ≠ d
 | .ptr id _ _ => id ≠ d
 | .agg row => zAJ d row
 | .tup l => zAJ d l
 | .fn _ caps => zAJ d caps
 | .any => True
 | .v _ => True
 | .sl _ _ _ => True
 | .bo _ _ _ => True
def zAJ (d : Nat) : List T → Prop
 | [] => True
 | t :: ts => t.noM d ∧ zAJ d ts
end
def zAx (d : Nat) (l : List (List T)) : Prop := ∀ r ∈ l, zAJ d r
section noM
variable {S : Nat → Prop} {w : World} {ρ ρ' : Nat → Option Hd}
mutual
theorem zJO (d : Nat) (hρ : ∀ id, id ≠ d → ρ' id = ρ id) : ∀ (t : T) {y : Value} {F : List Nat}, t.noM d → Rep S w ρ t y F → Rep S w ρ' t y F
 | .any, _, _, _, h => h
 | .v _, _, _, _, h => h
 | .agg row, _, _, hn, h => by
  simp only [Rep, T.noM] at h hn ⊢
  obtain ⟨cs, h1, h2, h3⟩ := h
  exact ⟨cs, h1, h2, zEj d hρ row hn h3⟩
 | .tup l, _, _, hn, h => by
  simp only [Rep, T.noM] at h hn ⊢
  obtain ⟨cs, h1, h2, h3⟩ := h
  exact ⟨cs, h1, h2, zEj d hρ l hn h3⟩
 | .sl _ _ _, _, _, _, h => h
 | .bo _ _ _, _, _, _, h => h
 | .ref id _ _, _, _, hn, h => by
  simp only [Rep, T.noM] at h hn ⊢
  rw [hρ id hn]; exact h
 | .ptr id _ _, _, _, hn, h => by
  simp only [Rep, T.noM] at h hn ⊢
  rw [hρ id hn]; exact h
 | .fn _ caps, _, _, hn, h => by
  simp only [Rep, T.noM] at h hn ⊢
  obtain ⟨cs, h1, h2, h3⟩ := h
  exact ⟨cs, h1, h2, zEj d hρ caps hn h3⟩
theorem zEj (d : Nat) (hρ : ∀ id, id ≠ d → ρ' id = ρ id) : ∀ {cell : Nat → Option Value} {o : Nat} (l : List T) {F : List Nat}, zAJ d l → RepRow S w ρ cell o l F → RepRow S w ρ' cell o l F
 | _, _, [], _, _, h => h
 | _, _, t :: ts, _, hn, h => by
  simp only [RepRow, zAJ] at h hn ⊢
  obtain ⟨y, F1, F2, h1, h2, h3, rfl⟩ := h
  exact ⟨y, F1, F2, h1, zJO d hρ t hn.1 h2, zEj d hρ ts hn.2 h3, rfl⟩
end
theorem zGY (d : Nat) (hρ : ∀ id, id ≠ d → ρ' id = ρ id) : ∀ {cell : Nat → Option Value} {o k : Nat} (l : List (List T)) {F : List Nat}, zAx d l → zAb S w ρ cell o k l F → zAb S w ρ' cell o k l F
 | _, _, _, [], _, _, h => h
 | _, _, _, r :: rs, _, hn, h => by
  simp only [zAb] at h ⊢
  obtain ⟨F1, F2, h1, h2, h3, rfl⟩ := h
  exact ⟨F1, F2, h1, zEj d hρ r (hn r (List.mem_cons_self ..)) h2, zGY d hρ rs (fun x hx => hn x (List.mem_cons_of_mem _ hx)) h3, rfl⟩
end noM
section noM2
variable {S : Nat → Prop} {w : World} {ρ ρ' : Nat → Option Hd}
mutual
theorem zKE : ∀ (t : T) {y : Value} {F : List Nat}, (∀ d, ¬ t.noM d → ρ' d = ρ d) → Rep S w ρ t y F → Rep S w ρ' t y F
 | .any, _, _, _, h => h
 | .v _, _, _, _, h => h
 | .agg row, _, _, hn, h => by
  simp only [Rep] at h ⊢
  obtain ⟨cs, h1, h2, h3⟩ := h
  exact ⟨cs, h1, h2, zFc row (fun d hd => hn d (by simpa only [T.noM] using hd)) h3⟩
 | .tup l, _, _, hn, h => by
  simp only [Rep] at h ⊢
  obtain ⟨cs, h1, h2, h3⟩ := h
  exact ⟨cs, h1, h2, zFc l (fun d hd => hn d (by simpa only [T.noM] using hd)) h3⟩
 | .sl _ _ _, _, _, _, h => h
 | .bo _ _ _, _, _, _, h => h
 | .ref id _ _, _, _, hn, h => by
  simp only [Rep] at h ⊢
  rw [hn id (by simp [T.noM])]; exact h
 | .ptr id _ _, _, _, hn, h => by
  simp only [Rep] at h ⊢
  rw [hn id (by simp [T.noM])]; exact h
 | .fn _ caps, _, _, hn, h => by
  simp only [Rep] at h ⊢
  obtain ⟨cs, h1, h2, h3⟩ := h
  exact ⟨cs, h1, h2, zFc caps (fun d hd => hn d (by simpa only [T.noM] using hd)) h3⟩
theorem zFc : ∀ {cell : Nat → Option Value} {o : Nat} (l : List T) {F : List Nat}, (∀ d, ¬ zAJ d l → ρ' d = ρ d) → RepRow S w ρ cell o l F → RepRow S w ρ' cell o l F
 | _, _, [], _, _, h => h
 | _, _, t :: ts, _, hn, h => by
  simp only [RepRow] at h ⊢
  obtain ⟨y, F1, F2, h1, h2, h3, rfl⟩ := h
  exact ⟨y, F1, F2, h1, zKE t (fun d hd => hn d (fun hm => hd (by simp only [zAJ] at hm; exact hm.1))) h2, zFc ts (fun d hd => hn d (fun hm => hd (by simp only [zAJ] at hm; exact hm.2))) h3, rfl⟩
end
end noM2
def T.closed (t : T) : Prop := ∀ d, t.noM d
mutual
def T.packed : T → Prop
 | .ref _ _ _ => False
 | .ptr _ _ _ => False
 | .agg row => zAH row
 | .tup l => zAH l
 | .fn _ caps => zAH caps
 | .any => True
 | .v _ => True
 | .sl _ _ _ => True
 | .bo _ _ _ => True
def zAH : List T → Prop
 | [] => True
 | t :: ts => t.packed ∧ zAH ts
end
def zAt (l : List (List T)) : Prop := ∀ r ∈ l, zAH r
section packed
variable {S : Nat → Prop} {w : World} {ρ ρ' : Nat → Option Hd}
mutual
theorem zEk : ∀ (t : T) {y : Value} {F : List Nat}, t.packed → Rep S w ρ t y F → Rep S w ρ' t y F
 | .any, _, _, _, h => h
 | .v _, _, _, _, h => h
 | .agg row, _, _, hn, h => by
  simp only [Rep, T.packed] at h hn ⊢
  obtain ⟨cs, h1, h2, h3⟩ := h
  exact ⟨cs, h1, h2, zCb row hn h3⟩
 | .tup l, _, _, hn, h => by
  simp only [Rep, T.packed] at h hn ⊢
  obtain ⟨cs, h1, h2, h3⟩ := h
  exact ⟨cs, h1, h2, zCb l hn h3⟩
 | .sl _ _ _, _, _, _, h => h
 | .bo _ _ _, _, _, _, h => h
 | .ref id _ _, _, _, hn, h => by simp only [T.packed] at hn
 | .ptr id _ _, _, _, hn, h => by simp only [T.packed] at hn
 | .fn _ caps, _, _, hn, h => by
  simp only [Rep, T.packed] at h hn ⊢
  obtain ⟨cs, h1, h2, h3⟩ := h
  exact ⟨cs, h1, h2, zCb caps hn h3⟩
theorem zCb : ∀ {cell : Nat → Option Value} {o : Nat} (l : List T) {F : List Nat}, zAH l → RepRow S w ρ cell o l F → RepRow S w ρ' cell o l F
 | _, _, [], _, _, h => h
 | _, _, t :: ts, _, hn, h => by
  simp only [RepRow, zAH] at h hn ⊢
  obtain ⟨y, F1, F2, h1, h2, h3, rfl⟩ := h
  exact ⟨y, F1, F2, h1, zEk t hn.1 h2, zCb ts hn.2 h3, rfl⟩
end
theorem zDw : ∀ {cell : Nat → Option Value} {o k : Nat} (l : List (List T)) {F : List Nat}, zAt l → zAb S w ρ cell o k l F → zAb S w ρ' cell o k l F
 | _, _, _, [], _, _, h => h
 | _, _, _, r :: rs, _, hn, h => by
  simp only [zAb] at h ⊢
  obtain ⟨F1, F2, h1, h2, h3, rfl⟩ := h
  exact ⟨F1, F2, h1, zCb r (hn r (List.mem_cons_self ..)) h2, zDw rs (fun x hx => hn x (List.mem_cons_of_mem _ hx)) h3, rfl⟩
theorem zQJ {t : T} {y : Value} {F : List Nat} (h : Rep S w noH t y F) : Rep S w ρ t y F := by
 have key : ∀ t : T, ∀ y F, Rep S w noH t y F → t.packed := by
  intro t
  refine T.rec (motive_1 := fun t => ∀ y F, Rep S w noH t y F → t.packed) (motive_2 := fun l => ∀ cell o F, RepRow S w noH cell o l F → zAH l)
   (motive_3 := fun _ => True) ?_ ?_ ?_ ?_ ?_ ?_ ?_ ?_ ?_ ?_ ?_ ?_ ?_ t
  ·intros; simp [T.packed]
  ·intros; simp [T.packed]
  ·intro row ih y F h; simp only [Rep, T.packed] at h ⊢; obtain ⟨cs, _, _, h⟩ := h; exact ih _ _ _ h
  ·intro row ih y F h; simp only [Rep, T.packed] at h ⊢; obtain ⟨cs, _, _, h⟩ := h; exact ih _ _ _ h
  ·intros; simp [T.packed]
  ·intros; simp [T.packed]
  ·intro id lo n y F h; simp [Rep, noH] at h
  ·intro id lo n y F h; simp [Rep, noH] at h
  ·intro f row ih y F h; simp only [Rep, T.packed] at h ⊢; obtain ⟨cs, _, _, h⟩ := h; exact ih _ _ _ h
  ·intros; simp [zAH]
  ·intro t ts ih1 ih2 cell o F h
   simp only [RepRow, zAH] at h ⊢
   obtain ⟨y, F1, F2, _, h1, h2, _⟩ := h
   exact ⟨ih1 _ _ h1, ih2 _ _ _ h2⟩
  ·trivial
  ·intros; trivial
 exact zEk t (key t y F h) h
end packed
section rows
variable {S : Nat → Prop} {w : World} {ρ : Nat → Option Hd}
theorem zCi {cell : Nat → Option Value} : ∀ (l : List T) (o : Nat) (F : List Nat), RepRow S w ρ cell o l F ↔
  ∃ fs : List (List Nat), fs.length = l.length ∧ F = fs.flatten ∧ ∀ i (t : T) (f : List Nat), l[i]? = some t → fs[i]? = some f → ∃ y, cell (o + i) = some y ∧ Rep S w ρ t y f
 | [], o, F => by
  simp only [RepRow]
  constructor
  ·rintro rfl; exact ⟨[], rfl, rfl, by simp⟩
  ·rintro ⟨fs, h1, rfl, _⟩; simp at h1; subst h1; rfl
 | t :: ts, o, F => by
  simp only [RepRow]
  constructor
  ·rintro ⟨y, F1, F2, h1, h2, h3, rfl⟩
   obtain ⟨fs, e1, rfl, e3⟩ := (zCi ts (o + 1) F2).1 h3
   refine ⟨F1 :: fs, by simp [e1], by simp, ?_⟩
   intro i t' f hi hf
   cases i with
   | zero => simp at hi hf; subst hi hf; exact ⟨y, h1, h2⟩
   | succ i =>
    simp at hi hf
    have := e3 i t' f hi hf
    rwa [show o + 1 + i = o + (i + 1) from by omega] at this
  ·rintro ⟨fs, e1, rfl, e3⟩
   cases fs with
   | nil => simp at e1
   | cons f fs =>
    obtain ⟨y, h1, h2⟩ := e3 0 t f rfl rfl
    refine ⟨y, f, fs.flatten, h1, h2, (zCi ts (o + 1) _).2 ⟨fs, by simpa using e1, rfl, ?_⟩, by simp⟩
    intro i t' f' hi hf
    have := e3 (i + 1) t' f' (by simpa using hi) (by simpa using hf)
    rwa [show o + (i + 1) = o + 1 + i from by omega] at this
theorem zAo {cell : Nat → Option Value} : ∀ (l m : List T) (o : Nat) (F : List Nat), RepRow S w ρ cell o (l ++ m) F ↔
  ∃ F1 F2, RepRow S w ρ cell o l F1 ∧ RepRow S w ρ cell (o + l.length) m F2 ∧ F = F1 ++ F2
 | [], m, o, F => by
  simp only [List.nil_append, RepRow, List.length_nil, Nat.add_zero]
  constructor
  ·intro h; exact ⟨[], F, rfl, h, rfl⟩
  ·rintro ⟨F1, F2, rfl, h, rfl⟩; exact h
 | t :: ts, m, o, F => by
  simp only [List.cons_append, RepRow, List.length_cons]
  constructor
  ·rintro ⟨y, F1, F2, h1, h2, h3, rfl⟩
   obtain ⟨G1, G2, e1, e2, rfl⟩ := (zAo ts m (o + 1) F2).1 h3
   rw [show o + 1 + ts.length = o + (ts.length + 1) from by omega] at e2
   exact ⟨F1 ++ G1, G2, ⟨y, F1, G1, h1, h2, e1, rfl⟩, e2, by simp⟩
  ·rintro ⟨_, G2, ⟨y, F1, G1, h1, h2, e1, rfl⟩, e2, rfl⟩
   rw [show o + (ts.length + 1) = o + 1 + ts.length from by omega] at e2
   exact ⟨y, F1, G1 ++ G2, h1, h2, (zAo ts m (o + 1) _).2 ⟨G1, G2, e1, e2, rfl⟩, by simp⟩
theorem zAi {cell : Nat → Option Value} {k : Nat} : ∀ (l : List (List T)) (o : Nat) (F : List Nat), zAb S w ρ cell o k l F ↔
  (∀ r ∈ l, r.length = k) ∧ RepRow S w ρ cell o l.flatten F
 | [], o, F => by simp [zAb, RepRow]
 | r :: rs, o, F => by
  simp only [zAb, List.flatten_cons, zAo, zAi rs]
  constructor
  ·rintro ⟨F1, F2, h1, h2, ⟨h3, h4⟩, rfl⟩
   exact ⟨fun x hx => (List.mem_cons.1 hx).elim (fun e => e ▸ h1) (h3 x), F1, F2, h2, by rw [h1]; exact h4, rfl⟩
  ·rintro ⟨h, F1, F2, h2, h4, rfl⟩
   have h1 := h r (List.mem_cons_self ..)
   exact ⟨F1, F2, h1, h2, ⟨fun x hx => h x (List.mem_cons_of_mem _ hx), by rw [← h1]; exact h4⟩, rfl⟩
theorem zAS {cell cell' : Nat → Option Value} {o o' : Nat} : ∀ (l : List T) {F : List Nat}, RepRow S w ρ cell o l F → (∀ i, i < l.length → cell' (o' + i) = cell (o + i)) → RepRow S w ρ cell' o' l F := by
 intro l F h hc
 rw [zCi] at h ⊢
 obtain ⟨fs, e1, rfl, e3⟩ := h
 refine ⟨fs, e1, rfl, fun i t f hi hf => ?_⟩
 obtain ⟨y, h1, h2⟩ := e3 i t f hi hf
 exact ⟨y, by rw [hc i (by have := List.getElem?_eq_some_iff.1 hi; exact this.1)]; exact h1, h2⟩
theorem zCL {cell cell' : Nat → Option Value} {o o' k : Nat} (l : List (List T)) {F : List Nat} (h : zAb S w ρ cell o k l F) (hc : ∀ i, i < l.length * k → cell' (o' + i) = cell (o + i)) : zAb S w ρ cell' o' k l F := by
 rw [zAi] at h ⊢
 refine ⟨h.1, zAS _ h.2 fun i hi => hc i ?_⟩
 have hl : l.flatten.length = l.length * k := by
  have := h.1
  clear h hc hi
  induction l with
  | nil => simp
  | cons r rs ih => simp [ih (fun x hx => this x (List.mem_cons_of_mem _ hx)), this r (List.mem_cons_self ..), Nat.succ_mul, Nat.add_comm]
 omega
end rows
end Go.Am

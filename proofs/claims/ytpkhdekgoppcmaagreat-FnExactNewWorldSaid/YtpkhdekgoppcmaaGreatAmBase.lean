import Derived.Below
import Derived.Deep.Quiet
import Derived.KernelRfl
set_option linter.all false
namespace Go.Am
open Go Go.RowKit
inductive T where
 | any
 | v (x : Value)
 | agg (row : List T)
 | tup (l : List T)
 | sl (own : Bool) (k : Nat) (rows : List (List T))
 | bo (own : Bool) (row : List T) (o : Nat)
 | ref (id lo n : Nat)
 | ptr (id i o : Nat)
 | fn (f : Nat) (caps : List T)
 deriving Inhabited
abbrev T.bx (own : Bool) (row : List T) : T := .bo own row 0
structure Hd where
 a : Option (Nat × Nat)
 cap : Nat
 k : Nat
def noH : Nat → Option Hd := fun _ => none
def Thawed (arr : Array Value) (fr : Nat × Nat) : Prop := ∀ i, i ≤ arr.size → ¬ (fr.1 ≤ i ∧ i < fr.2)
def Held (S : Nat → Prop) (own : Bool) (b : Nat) (Fs : List Nat) (arr : Array Value) (fr : Nat × Nat) (F : List Nat) : Prop :=
 match own with
 | true => F = b :: Fs ∧ Thawed arr fr
 | false => F = [] ∧ S b ∧ ∀ c ∈ Fs, S c
mutual
def Rep (S : Nat → Prop) (w : World) (ρ : Nat → Option Hd) : T → Value → List Nat → Prop
 | .any, _, F => F = []
 | .v x, y, F => y = x ∧ F = []
 | .agg row, y, F => ∃ cs : Array Value, y = .agg cs ∧ cs.size = row.length ∧ RepRow S w ρ (fun i => cs[i]?) 0 row F
 | .tup l, y, F => ∃ vs : Array Value, y = .tuple vs ∧ vs.size = l.length ∧ RepRow S w ρ (fun i => vs[i]?) 0 l F
 | .sl own k rows, y, F => ∃ a cap, y = .slice a rows.length cap ∧
   ((cap = 0 ∧ rows = [] ∧ F = []) ∨
    ∃ b off arr el fr Fs, a = some ⟨b, off, none⟩ ∧ w.heap[b]? = some (.cells arr el fr) ∧ rows.length ≤ cap ∧ off + cap * k ≤ arr.size ∧
     RepRows S w noH (fun i => arr[i]?) off k rows Fs ∧ Held S own b Fs arr fr F)
 | .bo own row o, y, F => ∃ b off arr el fr Fs, y = .pointer (some ⟨b, off + o, none⟩) ∧ w.heap[b]? = some (.cells arr el fr) ∧ off + row.length ≤ arr.size ∧
   RepRow S w noH (fun i => arr[i]?) off row Fs ∧ Held S own b Fs arr fr F
 | .ref id lo n, y, F => F = [] ∧ ∃ hd a c, ρ id = some hd ∧ y = .slice a n c ∧ lo + c = hd.cap ∧ n ≤ c ∧
   (c = 0 ∨ ∃ b off, hd.a = some (b, off) ∧ a = some ⟨b, off + lo * hd.k, none⟩)
 | .ptr id i o, y, F => F = [] ∧ ∃ hd b off, ρ id = some hd ∧ hd.a = some (b, off) ∧ y = .pointer (some ⟨b, off + i * hd.k + o, none⟩)
 | .fn f caps, y, F => ∃ cv : Array Value, y = .func (.func f) #[] cv ∧ cv.size = caps.length ∧ RepRow S w ρ (fun i => cv[i]?) 0 caps F
def RepRow (S : Nat → Prop) (w : World) (ρ : Nat → Option Hd) (cell : Nat → Option Value) (o : Nat) : List T → List Nat → Prop
 | [], F => F = []
 | t :: ts, F => ∃ y F1 F2, cell o = some y ∧ Rep S w ρ t y F1 ∧ RepRow S w ρ cell (o + 1) ts F2 ∧ F = F1 ++ F2
def RepRows (S : Nat → Prop) (w : World) (ρ : Nat → Option Hd) (cell : Nat → Option Value) (o k : Nat) : List (List T) → List Nat → Prop
 | [], F => F = []
 | r :: rs, F => ∃ F1 F2, r.length = k ∧ RepRow S w ρ cell o r F1 ∧ RepRows S w ρ cell (o + k) k rs F2 ∧ F = F1 ++ F2
end
theorem Held.sub {S : Nat → Prop} {own : Bool} {b : Nat} {Fs : List Nat} {arr : Array Value} {fr : Nat × Nat} {F : List Nat} (h : Held S own b Fs arr fr F) :
  ∀ c, c = b ∨ c ∈ Fs → c ∈ F ∨ S c := by
 intro c hc
 cases own with
 | true =>
  obtain ⟨rfl, _⟩ := h
  rcases hc with rfl | hc
  ·exact .inl (List.mem_cons_self ..)
  ·exact .inl (List.mem_cons_of_mem _ hc)
 | false =>
  obtain ⟨_, h1, h2⟩ := h
  rcases hc with rfl | hc
  ·exact .inr h1
  ·exact .inr (h2 c hc)
section frame
variable {S : Nat → Prop} {w w' : World}
mutual
theorem rep_frame : ∀ {ρ : Nat → Option Hd} (t : T) {y : Value} {F : List Nat}, Rep S w ρ t y F → (∀ b, b ∈ F ∨ S b → w'.heap[b]? = w.heap[b]?) → Rep S w' ρ t y F
 | _, .any, _, _, h, _ => h
 | _, .v _, _, _, h, _ => h
 | _, .agg row, _, _, h, hw => by
  simp only [Rep] at h ⊢
  obtain ⟨cs, h1, h2, h3⟩ := h
  exact ⟨cs, h1, h2, repRow_frame row h3 hw⟩
 | _, .tup l, _, _, h, hw => by
  simp only [Rep] at h ⊢
  obtain ⟨cs, h1, h2, h3⟩ := h
  exact ⟨cs, h1, h2, repRow_frame l h3 hw⟩
 | _, .sl own k rows, _, _, h, hw => by
  simp only [Rep] at h ⊢
  obtain ⟨a, cap, h1, h2⟩ := h
  refine ⟨a, cap, h1, ?_⟩
  rcases h2 with h2 | ⟨b, off, arr, el, fr, Fs, h3, h4, h5, h6, h7, h8⟩
  ·exact .inl h2
  ·have hs := h8.sub
   exact .inr ⟨b, off, arr, el, fr, Fs, h3, by rw [hw b (hs b (.inl rfl))]; exact h4, h5, h6,
    repRows_frame rows h7 (fun c hc => hw c (hc.elim (fun h => hs c (.inr h)) .inr)), h8⟩
 | _, .bo own row _, _, _, h, hw => by
  simp only [Rep] at h ⊢
  obtain ⟨b, off, arr, el, fr, Fs, h3, h4, h5, h7, h8⟩ := h
  have hs := h8.sub
  exact ⟨b, off, arr, el, fr, Fs, h3, by rw [hw b (hs b (.inl rfl))]; exact h4, h5,
    repRow_frame row h7 (fun c hc => hw c (hc.elim (fun h => hs c (.inr h)) .inr)), h8⟩
 | _, .ref _ _ _, _, _, h, _ => h
 | _, .ptr _ _ _, _, _, h, _ => h
 | _, .fn _ caps, _, _, h, hw => by
  simp only [Rep] at h ⊢
  obtain ⟨cs, h1, h2, h3⟩ := h
  exact ⟨cs, h1, h2, repRow_frame caps h3 hw⟩
theorem repRow_frame : ∀ {ρ : Nat → Option Hd} {cell : Nat → Option Value} {o : Nat} (l : List T) {F : List Nat}, RepRow S w ρ cell o l F → (∀ b, b ∈ F ∨ S b → w'.heap[b]? = w.heap[b]?) → RepRow S w' ρ cell o l F
 | _, _, _, [], _, h, _ => h
 | _, _, _, t :: ts, _, h, hw => by
  simp only [RepRow] at h ⊢
  obtain ⟨y, F1, F2, h1, h2, h3, rfl⟩ := h
  exact ⟨y, F1, F2, h1, rep_frame t h2 (fun b hb => hw b (hb.imp (List.mem_append_left _) id)), repRow_frame ts h3 (fun b hb => hw b (hb.imp (List.mem_append_right _) id)), rfl⟩
theorem repRows_frame : ∀ {ρ : Nat → Option Hd} {cell : Nat → Option Value} {o k : Nat} (l : List (List T)) {F : List Nat}, RepRows S w ρ cell o k l F → (∀ b, b ∈ F ∨ S b → w'.heap[b]? = w.heap[b]?) → RepRows S w' ρ cell o k l F
 | _, _, _, _, [], _, h, _ => h
 | _, _, _, _, r :: rs, _, h, hw => by
  simp only [RepRows] at h ⊢
  obtain ⟨F1, F2, h1, h2, h3, rfl⟩ := h
  exact ⟨F1, F2, h1, repRow_frame r h2 (fun b hb => hw b (hb.imp (List.mem_append_left _) id)), repRows_frame rs h3 (fun b hb => hw b (hb.imp (List.mem_append_right _) id)), rfl⟩
end
end frame
theorem Held.monoS {S S' : Nat → Prop} {own : Bool} {b : Nat} {Fs : List Nat} {arr : Array Value} {fr : Nat × Nat} {F : List Nat} (h : Held S own b Fs arr fr F) (hS : ∀ b, S b → S' b) : Held S' own b Fs arr fr F := by
 cases own with
 | true => exact h
 | false => exact ⟨h.1, hS _ h.2.1, fun c hc => hS _ (h.2.2 c hc)⟩
section monoS
variable {S S' : Nat → Prop} {w : World}
mutual
theorem rep_monoS (hS : ∀ b, S b → S' b) : ∀ {ρ : Nat → Option Hd} (t : T) {y : Value} {F : List Nat}, Rep S w ρ t y F → Rep S' w ρ t y F
 | _, .any, _, _, h => h
 | _, .v _, _, _, h => h
 | _, .agg row, _, _, h => by
  simp only [Rep] at h ⊢
  obtain ⟨cs, h1, h2, h3⟩ := h
  exact ⟨cs, h1, h2, repRow_monoS hS row h3⟩
 | _, .tup l, _, _, h => by
  simp only [Rep] at h ⊢
  obtain ⟨cs, h1, h2, h3⟩ := h
  exact ⟨cs, h1, h2, repRow_monoS hS l h3⟩
 | _, .sl own k rows, _, _, h => by
  simp only [Rep] at h ⊢
  obtain ⟨a, cap, h1, h2⟩ := h
  refine ⟨a, cap, h1, ?_⟩
  rcases h2 with h2 | ⟨b, off, arr, el, fr, Fs, h3, h4, h5, h6, h7, h8⟩
  ·exact .inl h2
  ·exact .inr ⟨b, off, arr, el, fr, Fs, h3, h4, h5, h6, repRows_monoS hS rows h7, h8.monoS hS⟩
 | _, .bo own row _, _, _, h => by
  simp only [Rep] at h ⊢
  obtain ⟨b, off, arr, el, fr, Fs, h3, h4, h5, h7, h8⟩ := h
  exact ⟨b, off, arr, el, fr, Fs, h3, h4, h5, repRow_monoS hS row h7, h8.monoS hS⟩
 | _, .ref _ _ _, _, _, h => h
 | _, .ptr _ _ _, _, _, h => h
 | _, .fn _ caps, _, _, h => by
  simp only [Rep] at h ⊢
  obtain ⟨cs, h1, h2, h3⟩ := h
  exact ⟨cs, h1, h2, repRow_monoS hS caps h3⟩
theorem repRow_monoS (hS : ∀ b, S b → S' b) : ∀ {ρ : Nat → Option Hd} {cell : Nat → Option Value} {o : Nat} (l : List T) {F : List Nat}, RepRow S w ρ cell o l F → RepRow S' w ρ cell o l F
 | _, _, _, [], _, h => h
 | _, _, _, t :: ts, _, h => by
  simp only [RepRow] at h ⊢
  obtain ⟨y, F1, F2, h1, h2, h3, rfl⟩ := h
  exact ⟨y, F1, F2, h1, rep_monoS hS t h2, repRow_monoS hS ts h3, rfl⟩
theorem repRows_monoS (hS : ∀ b, S b → S' b) : ∀ {ρ : Nat → Option Hd} {cell : Nat → Option Value} {o k : Nat} (l : List (List T)) {F : List Nat}, RepRows S w ρ cell o k l F → RepRows S' w ρ cell o k l F
 | _, _, _, _, [], _, h => h
 | _, _, _, _, r :: rs, _, h => by
  simp only [RepRows] at h ⊢
  obtain ⟨F1, F2, h1, h2, h3, rfl⟩ := h
  exact ⟨F1, F2, h1, repRow_monoS hS r h2, repRows_monoS hS rs h3, rfl⟩
end
end monoS
mutual
def T.dsh : T → T
 | .sl _ k rows => .sl false k (dshLL rows)
 | .bo _ row o => .bo false (dshL row) o
 | .agg row => .agg (dshL row)
 | .tup l => .tup (dshL l)
 | .fn f caps => .fn f (dshL caps)
 | .any => .any
 | .v x => .v x
 | .ref id lo n => .ref id lo n
 | .ptr id i o => .ptr id i o
def dshL : List T → List T
 | [] => []
 | t :: ts => t.dsh :: dshL ts
def dshLL : List (List T) → List (List T)
 | [] => []
 | r :: rs => dshL r :: dshLL rs
end
theorem dshL_length : ∀ l : List T, (dshL l).length = l.length
 | [] => rfl
 | t :: ts => by simp [dshL, dshL_length ts]
theorem dshLL_eq : ∀ l : List (List T), dshLL l = l.map dshL
 | [] => rfl
 | t :: ts => by simp [dshLL, dshLL_eq ts]
theorem dshLL_length (l : List (List T)) : (dshLL l).length = l.length := by simp [dshLL_eq]
theorem Held.dsh {S : Nat → Prop} {own : Bool} {b : Nat} {Fs : List Nat} {arr : Array Value} {fr : Nat × Nat} {F : List Nat} (h : Held S own b Fs arr fr F) (hF : ∀ c, c ∈ F → S c) : Held S false b [] arr fr [] ∧ ∀ c, c ∈ Fs → S c := by
 cases own with
 | true =>
  obtain ⟨rfl, _⟩ := h
  exact ⟨⟨rfl, hF b (List.mem_cons_self ..), by simp⟩, fun c hc => hF c (List.mem_cons_of_mem _ hc)⟩
 | false => exact ⟨⟨rfl, h.2.1, by simp⟩, h.2.2⟩
section dsh
variable {S : Nat → Prop} {w : World}
mutual
theorem rep_dsh : ∀ {ρ : Nat → Option Hd} (t : T) {y : Value} {F : List Nat}, Rep S w ρ t y F → (∀ c, c ∈ F → S c) → Rep S w ρ t.dsh y []
 | _, .any, _, _, _, _ => by simp only [Rep, T.dsh]
 | _, .v _, _, _, h, _ => by simp only [Rep, T.dsh] at h ⊢; exact ⟨h.1, trivial⟩
 | _, .agg row, _, _, h, hF => by
  simp only [Rep, T.dsh] at h ⊢
  obtain ⟨cs, h1, h2, h3⟩ := h
  exact ⟨cs, h1, by rw [dshL_length]; exact h2, repRow_dsh row h3 hF⟩
 | _, .tup l, _, _, h, hF => by
  simp only [Rep, T.dsh] at h ⊢
  obtain ⟨cs, h1, h2, h3⟩ := h
  exact ⟨cs, h1, by rw [dshL_length]; exact h2, repRow_dsh l h3 hF⟩
 | _, .sl own k rows, _, _, h, hF => by
  simp only [Rep, T.dsh] at h ⊢
  obtain ⟨a, cap, h1, h2⟩ := h
  refine ⟨a, cap, by rw [dshLL_length]; exact h1, ?_⟩
  rcases h2 with ⟨h2, h3, h4⟩ | ⟨b, off, arr, el, fr, Fs, h3, h4, h5, h6, h7, h8⟩
  ·subst h3; exact .inl ⟨h2, rfl, trivial⟩
  ·obtain ⟨e1, e2⟩ := h8.dsh hF
   exact .inr ⟨b, off, arr, el, fr, [], h3, h4, by rw [dshLL_length]; exact h5, h6, repRows_dsh rows h7 e2, e1⟩
 | _, .bo own row _, _, _, h, hF => by
  simp only [Rep, T.dsh] at h ⊢
  obtain ⟨b, off, arr, el, fr, Fs, h3, h4, h5, h7, h8⟩ := h
  obtain ⟨e1, e2⟩ := h8.dsh hF
  exact ⟨b, off, arr, el, fr, [], h3, h4, by rw [dshL_length]; exact h5, repRow_dsh row h7 e2, e1⟩
 | _, .ref _ _ _, _, _, h, _ => by simp only [Rep, T.dsh] at h ⊢; exact ⟨trivial, h.2⟩
 | _, .ptr _ _ _, _, _, h, _ => by simp only [Rep, T.dsh] at h ⊢; exact ⟨trivial, h.2⟩
 | _, .fn _ caps, _, _, h, hF => by
  simp only [Rep, T.dsh] at h ⊢
  obtain ⟨cs, h1, h2, h3⟩ := h
  exact ⟨cs, h1, by rw [dshL_length]; exact h2, repRow_dsh caps h3 hF⟩
theorem repRow_dsh : ∀ {ρ : Nat → Option Hd} {cell : Nat → Option Value} {o : Nat} (l : List T) {F : List Nat}, RepRow S w ρ cell o l F → (∀ c, c ∈ F → S c) → RepRow S w ρ cell o (dshL l) []
 | _, _, _, [], _, _, _ => by simp only [RepRow, dshL]
 | _, _, _, t :: ts, _, h, hF => by
  simp only [RepRow, dshL] at h ⊢
  obtain ⟨y, F1, F2, h1, h2, h3, rfl⟩ := h
  exact ⟨y, [], [], h1, rep_dsh t h2 (fun c hc => hF c (List.mem_append_left _ hc)), repRow_dsh ts h3 (fun c hc => hF c (List.mem_append_right _ hc)), rfl⟩
theorem repRows_dsh : ∀ {ρ : Nat → Option Hd} {cell : Nat → Option Value} {o k : Nat} (l : List (List T)) {F : List Nat}, RepRows S w ρ cell o k l F → (∀ c, c ∈ F → S c) → RepRows S w ρ cell o k (dshLL l) []
 | _, _, _, _, [], _, _, _ => by simp only [RepRows, dshLL]
 | _, _, _, _, r :: rs, _, h, hF => by
  simp only [RepRows, dshLL] at h ⊢
  obtain ⟨F1, F2, h0, h1, h2, rfl⟩ := h
  exact ⟨[], [], by rw [dshL_length]; exact h0, repRow_dsh r h1 (fun c hc => hF c (List.mem_append_left _ hc)), repRows_dsh rs h2 (fun c hc => hF c (List.mem_append_right _ hc)), rfl⟩
end
end dsh
mutual
def T.noSh : T → Prop
 | .any => True
 | .v _ => True
 | .agg row => noShL row
 | .tup l => noShL l
 | .sl own _ rows => own = true ∧ noShLL rows
 | .bo own row _ => own = true ∧ noShL row
 | .ref _ _ _ => True
 | .ptr _ _ _ => True
 | .fn _ caps => noShL caps
def noShL : List T → Prop
 | [] => True
 | t :: ts => t.noSh ∧ noShL ts
def noShLL : List (List T) → Prop
 | [] => True
 | t :: ts => noShL t ∧ noShLL ts
end
section noSh
variable {S S' : Nat → Prop} {w : World}
mutual
theorem rep_noSh : ∀ {ρ : Nat → Option Hd} (t : T) {y : Value} {F : List Nat}, t.noSh → Rep S w ρ t y F → Rep S' w ρ t y F
 | _, .any, _, _, _, h => h
 | _, .v _, _, _, _, h => h
 | _, .agg row, _, _, hn, h => by
  simp only [Rep, T.noSh] at h hn ⊢
  obtain ⟨cs, h1, h2, h3⟩ := h
  exact ⟨cs, h1, h2, repRow_noSh row hn h3⟩
 | _, .tup l, _, _, hn, h => by
  simp only [Rep, T.noSh] at h hn ⊢
  obtain ⟨cs, h1, h2, h3⟩ := h
  exact ⟨cs, h1, h2, repRow_noSh l hn h3⟩
 | _, .sl own k rows, _, _, hn, h => by
  simp only [Rep, T.noSh] at h hn ⊢
  obtain ⟨rfl, hn⟩ := hn
  obtain ⟨a, cap, h1, h2⟩ := h
  refine ⟨a, cap, h1, ?_⟩
  rcases h2 with h2 | ⟨b, off, arr, el, fr, Fs, h3, h4, h5, h6, h7, h8⟩
  ·exact .inl h2
  ·exact .inr ⟨b, off, arr, el, fr, Fs, h3, h4, h5, h6, repRows_noSh rows hn h7, h8⟩
 | _, .bo own row _, _, _, hn, h => by
  simp only [Rep, T.noSh] at h hn ⊢
  obtain ⟨rfl, hn⟩ := hn
  obtain ⟨b, off, arr, el, fr, Fs, h3, h4, h5, h7, h8⟩ := h
  exact ⟨b, off, arr, el, fr, Fs, h3, h4, h5, repRow_noSh row hn h7, h8⟩
 | _, .ref _ _ _, _, _, _, h => h
 | _, .ptr _ _ _, _, _, _, h => h
 | _, .fn _ caps, _, _, hn, h => by
  simp only [Rep, T.noSh] at h hn ⊢
  obtain ⟨cs, h1, h2, h3⟩ := h
  exact ⟨cs, h1, h2, repRow_noSh caps hn h3⟩
theorem repRow_noSh : ∀ {ρ : Nat → Option Hd} {cell : Nat → Option Value} {o : Nat} (l : List T) {F : List Nat}, noShL l → RepRow S w ρ cell o l F → RepRow S' w ρ cell o l F
 | _, _, _, [], _, _, h => h
 | _, _, _, t :: ts, _, hn, h => by
  simp only [RepRow, noShL] at h hn ⊢
  obtain ⟨y, F1, F2, h1, h2, h3, rfl⟩ := h
  exact ⟨y, F1, F2, h1, rep_noSh t hn.1 h2, repRow_noSh ts hn.2 h3, rfl⟩
theorem repRows_noSh : ∀ {ρ : Nat → Option Hd} {cell : Nat → Option Value} {o k : Nat} (l : List (List T)) {F : List Nat}, noShLL l → RepRows S w ρ cell o k l F → RepRows S' w ρ cell o k l F
 | _, _, _, _, [], _, _, h => h
 | _, _, _, _, r :: rs, _, hn, h => by
  simp only [RepRows, noShLL] at h hn ⊢
  obtain ⟨F1, F2, h1, h2, h3, rfl⟩ := h
  exact ⟨F1, F2, h1, repRow_noSh r hn.1 h2, repRows_noSh rs hn.2 h3, rfl⟩
end
end noSh
mutual
def T.noM (d : Nat) : T → Prop
 | .ref id _ _ => id ≠ d
 | .ptr id _ _ => id ≠ d
 | .agg row => noML d row
 | .tup l => noML d l
 | .fn _ caps => noML d caps
 | .any => True
 | .v _ => True
 | .sl _ _ _ => True
 | .bo _ _ _ => True
def noML (d : Nat) : List T → Prop
 | [] => True
 | t :: ts => t.noM d ∧ noML d ts
end
def noMLL (d : Nat) (l : List (List T)) : Prop := ∀ r ∈ l, noML d r
section noM
variable {S : Nat → Prop} {w : World} {ρ ρ' : Nat → Option Hd}
mutual
theorem rep_rho (d : Nat) (hρ : ∀ id, id ≠ d → ρ' id = ρ id) : ∀ (t : T) {y : Value} {F : List Nat}, t.noM d → Rep S w ρ t y F → Rep S w ρ' t y F
 | .any, _, _, _, h => h
 | .v _, _, _, _, h => h
 | .agg row, _, _, hn, h => by
  simp only [Rep, T.noM] at h hn ⊢
  obtain ⟨cs, h1, h2, h3⟩ := h
  exact ⟨cs, h1, h2, repRow_rho d hρ row hn h3⟩
 | .tup l, _, _, hn, h => by
  simp only [Rep, T.noM] at h hn ⊢
  obtain ⟨cs, h1, h2, h3⟩ := h
  exact ⟨cs, h1, h2, repRow_rho d hρ l hn h3⟩
 | .sl _ _ _, _, _, _, h => h
 | .bo _ _ _, _, _, _, h => h
 | .ref id _ _, _, _, hn, h => by
  simp only [Rep, T.noM] at h hn ⊢
  rw [hρ id hn]; exact h
 | .ptr id _ _, _, _, hn, h => by
  simp only [Rep, T.noM] at h hn ⊢
  rw [hρ id hn]; exact h
 | .fn _ caps, _, _, hn, h => by
  simp only [Rep, T.noM] at h hn ⊢
  obtain ⟨cs, h1, h2, h3⟩ := h
  exact ⟨cs, h1, h2, repRow_rho d hρ caps hn h3⟩
theorem repRow_rho (d : Nat) (hρ : ∀ id, id ≠ d → ρ' id = ρ id) : ∀ {cell : Nat → Option Value} {o : Nat} (l : List T) {F : List Nat}, noML d l → RepRow S w ρ cell o l F → RepRow S w ρ' cell o l F
 | _, _, [], _, _, h => h
 | _, _, t :: ts, _, hn, h => by
  simp only [RepRow, noML] at h hn ⊢
  obtain ⟨y, F1, F2, h1, h2, h3, rfl⟩ := h
  exact ⟨y, F1, F2, h1, rep_rho d hρ t hn.1 h2, repRow_rho d hρ ts hn.2 h3, rfl⟩
end
theorem repRows_rho (d : Nat) (hρ : ∀ id, id ≠ d → ρ' id = ρ id) : ∀ {cell : Nat → Option Value} {o k : Nat} (l : List (List T)) {F : List Nat}, noMLL d l → RepRows S w ρ cell o k l F → RepRows S w ρ' cell o k l F
 | _, _, _, [], _, _, h => h
 | _, _, _, r :: rs, _, hn, h => by
  simp only [RepRows] at h ⊢
  obtain ⟨F1, F2, h1, h2, h3, rfl⟩ := h
  exact ⟨F1, F2, h1, repRow_rho d hρ r (hn r (List.mem_cons_self ..)) h2, repRows_rho d hρ rs (fun x hx => hn x (List.mem_cons_of_mem _ hx)) h3, rfl⟩
end noM
section noM2
variable {S : Nat → Prop} {w : World} {ρ ρ' : Nat → Option Hd}
mutual
theorem rep_rho' : ∀ (t : T) {y : Value} {F : List Nat}, (∀ d, ¬ t.noM d → ρ' d = ρ d) → Rep S w ρ t y F → Rep S w ρ' t y F
 | .any, _, _, _, h => h
 | .v _, _, _, _, h => h
 | .agg row, _, _, hn, h => by
  simp only [Rep] at h ⊢
  obtain ⟨cs, h1, h2, h3⟩ := h
  exact ⟨cs, h1, h2, repRow_rho' row (fun d hd => hn d (by simpa only [T.noM] using hd)) h3⟩
 | .tup l, _, _, hn, h => by
  simp only [Rep] at h ⊢
  obtain ⟨cs, h1, h2, h3⟩ := h
  exact ⟨cs, h1, h2, repRow_rho' l (fun d hd => hn d (by simpa only [T.noM] using hd)) h3⟩
 | .sl _ _ _, _, _, _, h => h
 | .bo _ _ _, _, _, _, h => h
 | .ref id _ _, _, _, hn, h => by
  simp only [Rep] at h ⊢
  rw [hn id (by simp [T.noM])]; exact h
 | .ptr id _ _, _, _, hn, h => by
  simp only [Rep] at h ⊢
  rw [hn id (by simp [T.noM])]; exact h
 | .fn _ caps, _, _, hn, h => by
  simp only [Rep] at h ⊢
  obtain ⟨cs, h1, h2, h3⟩ := h
  exact ⟨cs, h1, h2, repRow_rho' caps (fun d hd => hn d (by simpa only [T.noM] using hd)) h3⟩
theorem repRow_rho' : ∀ {cell : Nat → Option Value} {o : Nat} (l : List T) {F : List Nat}, (∀ d, ¬ noML d l → ρ' d = ρ d) → RepRow S w ρ cell o l F → RepRow S w ρ' cell o l F
 | _, _, [], _, _, h => h
 | _, _, t :: ts, _, hn, h => by
  simp only [RepRow] at h ⊢
  obtain ⟨y, F1, F2, h1, h2, h3, rfl⟩ := h
  exact ⟨y, F1, F2, h1, rep_rho' t (fun d hd => hn d (fun hm => hd (by simp only [noML] at hm; exact hm.1))) h2, repRow_rho' ts (fun d hd => hn d (fun hm => hd (by simp only [noML] at hm; exact hm.2))) h3, rfl⟩
end
end noM2
def T.closed (t : T) : Prop := ∀ d, t.noM d
mutual
def T.packed : T → Prop
 | .ref _ _ _ => False
 | .ptr _ _ _ => False
 | .agg row => packedL row
 | .tup l => packedL l
 | .fn _ caps => packedL caps
 | .any => True
 | .v _ => True
 | .sl _ _ _ => True
 | .bo _ _ _ => True
def packedL : List T → Prop
 | [] => True
 | t :: ts => t.packed ∧ packedL ts
end
def packedLL (l : List (List T)) : Prop := ∀ r ∈ l, packedL r
section packed
variable {S : Nat → Prop} {w : World} {ρ ρ' : Nat → Option Hd}
mutual
theorem rep_packed : ∀ (t : T) {y : Value} {F : List Nat}, t.packed → Rep S w ρ t y F → Rep S w ρ' t y F
 | .any, _, _, _, h => h
 | .v _, _, _, _, h => h
 | .agg row, _, _, hn, h => by
  simp only [Rep, T.packed] at h hn ⊢
  obtain ⟨cs, h1, h2, h3⟩ := h
  exact ⟨cs, h1, h2, repRow_packed row hn h3⟩
 | .tup l, _, _, hn, h => by
  simp only [Rep, T.packed] at h hn ⊢
  obtain ⟨cs, h1, h2, h3⟩ := h
  exact ⟨cs, h1, h2, repRow_packed l hn h3⟩
 | .sl _ _ _, _, _, _, h => h
 | .bo _ _ _, _, _, _, h => h
 | .ref id _ _, _, _, hn, h => by simp only [T.packed] at hn
 | .ptr id _ _, _, _, hn, h => by simp only [T.packed] at hn
 | .fn _ caps, _, _, hn, h => by
  simp only [Rep, T.packed] at h hn ⊢
  obtain ⟨cs, h1, h2, h3⟩ := h
  exact ⟨cs, h1, h2, repRow_packed caps hn h3⟩
theorem repRow_packed : ∀ {cell : Nat → Option Value} {o : Nat} (l : List T) {F : List Nat}, packedL l → RepRow S w ρ cell o l F → RepRow S w ρ' cell o l F
 | _, _, [], _, _, h => h
 | _, _, t :: ts, _, hn, h => by
  simp only [RepRow, packedL] at h hn ⊢
  obtain ⟨y, F1, F2, h1, h2, h3, rfl⟩ := h
  exact ⟨y, F1, F2, h1, rep_packed t hn.1 h2, repRow_packed ts hn.2 h3, rfl⟩
end
theorem repRows_packed : ∀ {cell : Nat → Option Value} {o k : Nat} (l : List (List T)) {F : List Nat}, packedLL l → RepRows S w ρ cell o k l F → RepRows S w ρ' cell o k l F
 | _, _, _, [], _, _, h => h
 | _, _, _, r :: rs, _, hn, h => by
  simp only [RepRows] at h ⊢
  obtain ⟨F1, F2, h1, h2, h3, rfl⟩ := h
  exact ⟨F1, F2, h1, repRow_packed r (hn r (List.mem_cons_self ..)) h2, repRows_packed rs (fun x hx => hn x (List.mem_cons_of_mem _ hx)) h3, rfl⟩
theorem rep_noH {t : T} {y : Value} {F : List Nat} (h : Rep S w noH t y F) : Rep S w ρ t y F := by
 have key : ∀ t : T, ∀ y F, Rep S w noH t y F → t.packed := by
  intro t
  refine T.rec (motive_1 := fun t => ∀ y F, Rep S w noH t y F → t.packed) (motive_2 := fun l => ∀ cell o F, RepRow S w noH cell o l F → packedL l)
   (motive_3 := fun _ => True) ?_ ?_ ?_ ?_ ?_ ?_ ?_ ?_ ?_ ?_ ?_ ?_ ?_ t
  ·intros; simp [T.packed]
  ·intros; simp [T.packed]
  ·intro row ih y F h; simp only [Rep, T.packed] at h ⊢; obtain ⟨cs, _, _, h⟩ := h; exact ih _ _ _ h
  ·intro row ih y F h; simp only [Rep, T.packed] at h ⊢; obtain ⟨cs, _, _, h⟩ := h; exact ih _ _ _ h
  ·intros; simp [T.packed]
  ·intros; simp [T.packed]
  ·intro id lo n y F h; simp [Rep, noH] at h
  ·intro id lo n y F h; simp [Rep, noH] at h
  ·intro f row ih y F h; simp only [Rep, T.packed] at h ⊢; obtain ⟨cs, _, _, h⟩ := h; exact ih _ _ _ h
  ·intros; simp [packedL]
  ·intro t ts ih1 ih2 cell o F h
   simp only [RepRow, packedL] at h ⊢
   obtain ⟨y, F1, F2, _, h1, h2, _⟩ := h
   exact ⟨ih1 _ _ h1, ih2 _ _ _ h2⟩
  ·trivial
  ·intros; trivial
 exact rep_packed t (key t y F h) h
end packed
section rows
variable {S : Nat → Prop} {w : World} {ρ : Nat → Option Hd}
theorem repRow_iff {cell : Nat → Option Value} : ∀ (l : List T) (o : Nat) (F : List Nat), RepRow S w ρ cell o l F ↔
  ∃ fs : List (List Nat), fs.length = l.length ∧ F = fs.flatten ∧ ∀ i (t : T) (f : List Nat), l[i]? = some t → fs[i]? = some f → ∃ y, cell (o + i) = some y ∧ Rep S w ρ t y f
 | [], o, F => by
  simp only [RepRow]
  constructor
  ·rintro rfl; exact ⟨[], rfl, rfl, by simp⟩
  ·rintro ⟨fs, h1, rfl, _⟩; simp at h1; subst h1; rfl
 | t :: ts, o, F => by
  simp only [RepRow]
  constructor
  ·rintro ⟨y, F1, F2, h1, h2, h3, rfl⟩
   obtain ⟨fs, e1, rfl, e3⟩ := (repRow_iff ts (o + 1) F2).1 h3
   refine ⟨F1 :: fs, by simp [e1], by simp, ?_⟩
   intro i t' f hi hf
   cases i with
   | zero => simp at hi hf; subst hi hf; exact ⟨y, h1, h2⟩
   | succ i =>
    simp at hi hf
    have := e3 i t' f hi hf
    rwa [show o + 1 + i = o + (i + 1) from by omega] at this
  ·rintro ⟨fs, e1, rfl, e3⟩
   cases fs with
   | nil => simp at e1
   | cons f fs =>
    obtain ⟨y, h1, h2⟩ := e3 0 t f rfl rfl
    refine ⟨y, f, fs.flatten, h1, h2, (repRow_iff ts (o + 1) _).2 ⟨fs, by simpa using e1, rfl, ?_⟩, by simp⟩
    intro i t' f' hi hf
    have := e3 (i + 1) t' f' (by simpa using hi) (by simpa using hf)
    rwa [show o + (i + 1) = o + 1 + i from by omega] at this
theorem repRow_append {cell : Nat → Option Value} : ∀ (l m : List T) (o : Nat) (F : List Nat), RepRow S w ρ cell o (l ++ m) F ↔
  ∃ F1 F2, RepRow S w ρ cell o l F1 ∧ RepRow S w ρ cell (o + l.length) m F2 ∧ F = F1 ++ F2
 | [], m, o, F => by
  simp only [List.nil_append, RepRow, List.length_nil, Nat.add_zero]
  constructor
  ·intro h; exact ⟨[], F, rfl, h, rfl⟩
  ·rintro ⟨F1, F2, rfl, h, rfl⟩; exact h
 | t :: ts, m, o, F => by
  simp only [List.cons_append, RepRow, List.length_cons]
  constructor
  ·rintro ⟨y, F1, F2, h1, h2, h3, rfl⟩
   obtain ⟨G1, G2, e1, e2, rfl⟩ := (repRow_append ts m (o + 1) F2).1 h3
   rw [show o + 1 + ts.length = o + (ts.length + 1) from by omega] at e2
   exact ⟨F1 ++ G1, G2, ⟨y, F1, G1, h1, h2, e1, rfl⟩, e2, by simp⟩
  ·rintro ⟨_, G2, ⟨y, F1, G1, h1, h2, e1, rfl⟩, e2, rfl⟩
   rw [show o + (ts.length + 1) = o + 1 + ts.length from by omega] at e2
   exact ⟨y, F1, G1 ++ G2, h1, h2, (repRow_append ts m (o + 1) _).2 ⟨G1, G2, e1, e2, rfl⟩, by simp⟩
theorem repRows_flatten {cell : Nat → Option Value} {k : Nat} : ∀ (l : List (List T)) (o : Nat) (F : List Nat), RepRows S w ρ cell o k l F ↔
  (∀ r ∈ l, r.length = k) ∧ RepRow S w ρ cell o l.flatten F
 | [], o, F => by simp [RepRows, RepRow]
 | r :: rs, o, F => by
  simp only [RepRows, List.flatten_cons, repRow_append, repRows_flatten rs]
  constructor
  ·rintro ⟨F1, F2, h1, h2, ⟨h3, h4⟩, rfl⟩
   exact ⟨fun x hx => (List.mem_cons.1 hx).elim (fun e => e ▸ h1) (h3 x), F1, F2, h2, by rw [h1]; exact h4, rfl⟩
  ·rintro ⟨h, F1, F2, h2, h4, rfl⟩
   have h1 := h r (List.mem_cons_self ..)
   exact ⟨F1, F2, h1, h2, ⟨fun x hx => h x (List.mem_cons_of_mem _ hx), by rw [← h1]; exact h4⟩, rfl⟩
theorem repRow_cell {cell cell' : Nat → Option Value} {o o' : Nat} : ∀ (l : List T) {F : List Nat}, RepRow S w ρ cell o l F → (∀ i, i < l.length → cell' (o' + i) = cell (o + i)) → RepRow S w ρ cell' o' l F := by
 intro l F h hc
 rw [repRow_iff] at h ⊢
 obtain ⟨fs, e1, rfl, e3⟩ := h
 refine ⟨fs, e1, rfl, fun i t f hi hf => ?_⟩
 obtain ⟨y, h1, h2⟩ := e3 i t f hi hf
 exact ⟨y, by rw [hc i (by have := List.getElem?_eq_some_iff.1 hi; exact this.1)]; exact h1, h2⟩
theorem repRows_cell {cell cell' : Nat → Option Value} {o o' k : Nat} (l : List (List T)) {F : List Nat} (h : RepRows S w ρ cell o k l F) (hc : ∀ i, i < l.length * k → cell' (o' + i) = cell (o + i)) : RepRows S w ρ cell' o' k l F := by
 rw [repRows_flatten] at h ⊢
 refine ⟨h.1, repRow_cell _ h.2 fun i hi => hc i ?_⟩
 have hl : l.flatten.length = l.length * k := by
  have := h.1
  clear h hc hi
  induction l with
  | nil => simp
  | cons r rs ih => simp [ih (fun x hx => this x (List.mem_cons_of_mem _ hx)), this r (List.mem_cons_self ..), Nat.succ_mul, Nat.add_comm]
 omega
end rows
end Go.Am

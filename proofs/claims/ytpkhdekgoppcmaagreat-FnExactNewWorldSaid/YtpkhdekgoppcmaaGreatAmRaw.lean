import Derived.Test.YtpkhdekgoppcmaaGreatAmSet
set_option linter.all false
namespace Go.Am
open Go Go.RowKit
section
variable {P : Program} {w : World} {S : Nat → Prop} {ρ : Nat → Option Hd}
theorem Kept.more {F F' : List Nat} {w0 w : World} (h : Kept F w0 w) (hF : ∀ b, b ∈ F → b ∈ F') : Kept F' w0 w :=
 ⟨h.os, h.tape, h.output, h.size, fun b h1 h2 => h.block b h1 fun h3 => h2 (hF b h3), h.sizes⟩
def vrow (l : List Value) : List T := l.map .v
@[go_sem] theorem vrow_len' (l : List Value) : (vrow l).length = l.length := by simp [vrow]
@[go_sem] theorem vrow_sh (l : List Value) : (vrow l).map T.sh = vrow l := by simp [vrow, T.sh]
@[go_sem] theorem vrow_pk : ∀ l : List Value, packedL (vrow l) = True
 | [] => by simp [vrow, packedL]
 | x :: t => by have := vrow_pk t; simp only [vrow, List.map_cons, packedL, T.packed, true_and] at this ⊢; exact this
@[go_sem] theorem vrow_noM (d : Nat) : ∀ l : List Value, noML d (vrow l) = True
 | [] => by simp [vrow, noML]
 | x :: t => by have := vrow_noM d t; simp only [vrow, List.map_cons, noML, T.noM, true_and] at this ⊢; exact this
@[go_sem] theorem all_tt {α : Type} (l : List α) : (l.all fun _ => true) = true := by simp
def T.one (t : T) : Bool := t.plainV && t.leaf
def RawOk (S : Nat → Prop) (w : World) : List (List Value) → List (List T) → List Nat → Prop
 | [], [], F => F = []
 | rv :: rs, row :: rows, F => ∃ F1 F2, row.length = rv.length ∧ RepRow S w noH (fun i => rv[i]?) 0 row F1 ∧ RawOk S w rs rows F2 ∧ F = F1 ++ F2
 | _, _, _ => False
theorem RawOk.app : ∀ {a b : List (List Value)} {c d : List (List T)} {F G : List Nat}, RawOk S w a c F → RawOk S w b d G → RawOk S w (a ++ b) (c ++ d) (F ++ G)
 | [], b, [], d, F, G, h, h2 => by simp only [RawOk] at h; subst h; simpa using h2
 | r :: a, b, row :: c, d, F, G, h, h2 => by
  simp only [RawOk] at h
  obtain ⟨F1, F2, q1, q2, q3, rfl⟩ := h
  exact ⟨F1, F2 ++ G, q1, q2, RawOk.app q3 h2, by simp⟩
 | [], _, _ :: _, _, _, _, h, _ => h.elim
 | _ :: _, _, [], _, _, _, h, _ => h.elim
theorem RawOk.split : ∀ {a : List (List Value)} {c : List (List T)} {F : List Nat} (n : Nat), RawOk S w a c F → ∃ F1 F2, RawOk S w (a.take n) (c.take n) F1 ∧ RawOk S w (a.drop n) (c.drop n) F2 ∧ F = F1 ++ F2
 | [], [], F, n, h => ⟨[], [], by simp [RawOk], by simp [RawOk], by simpa [RawOk] using h⟩
 | r :: a, row :: c, F, 0, h => ⟨[], F, by simp [RawOk], by simpa using h, rfl⟩
 | r :: a, row :: c, F, n + 1, h => by
  simp only [RawOk] at h
  obtain ⟨F1, F2, q1, q2, q3, rfl⟩ := h
  obtain ⟨G1, G2, g1, g2, rfl⟩ := RawOk.split n q3
  exact ⟨F1 ++ G1, G2, by simp only [List.take_succ_cons, RawOk]; exact ⟨F1, G1, q1, q2, g1, rfl⟩, by simpa using g2, by simp⟩
 | [], _ :: _, _, _, h => h.elim
 | _ :: _, [], _, _, h => h.elim
theorem RawOk.frame {S' : Nat → Prop} {w' : World} : ∀ {a : List (List Value)} {c : List (List T)} {F : List Nat}, RawOk S w a c F → (∀ b, b ∈ F ∨ S b → w'.heap[b]? = w.heap[b]?) → (∀ b, S b → S' b) → RawOk S' w' a c F
 | [], [], F, h, _, _ => h
 | r :: a, row :: c, F, h, hw, hS => by
  simp only [RawOk] at h ⊢
  obtain ⟨F1, F2, q1, q2, q3, rfl⟩ := h
  exact ⟨F1, F2, q1, repRow_monoS hS row (repRow_frame row q2 fun b hb => hw b (hb.imp (List.mem_append_left _) id)), RawOk.frame q3 (fun b hb => hw b (hb.imp (List.mem_append_right _) id)) hS, rfl⟩
 | [], _ :: _, _, h, _, _ => h.elim
 | _ :: _, [], _, h, _, _ => h.elim
@[go_sem] theorem dshL_vrow : ∀ r : List Value, dshL (vrow r) = vrow r
 | [] => rfl
 | x :: l => by
  have := dshL_vrow l
  simp only [vrow] at this ⊢
  simp only [List.map_cons, dshL, T.dsh, this]
end
end Go.Am

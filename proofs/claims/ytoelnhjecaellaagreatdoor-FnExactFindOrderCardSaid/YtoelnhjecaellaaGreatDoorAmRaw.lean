import Derived.Test.YtoelnhjecaellaaGreatDoorAmSet
set_option linter.unusedSimpArgs false
set_option linter.unusedVariables false
set_option linter.unusedSectionVars false
namespace Go.Am
open Go Go.RowKit
section
variable {P : Program} {w : World} {S : Nat → Prop} {ρ : Nat → Option Hd}
theorem Kept.more {F F' : List Nat} {w0 w : World} (h : Kept F w0 w) (hF : ∀ b, b ∈ F → b ∈ F') : Kept F' w0 w :=
  ⟨h.os, h.tape, h.output, h.size, fun b h1 h2 => h.block b h1 fun h3 => h2 (hF b h3), h.sizes⟩
theorem anys_rep {cell : Nat → Option Value} {o : Nat} {l : List T} {F : List Nat} (h : RepRow S w ρ cell o l F) {S' : Nat → Prop} {w' : World} {ρ' : Nat → Option Hd} : RepRow S' w' ρ' cell o (l.map fun _ => .any) [] := by
  induction l generalizing o F with
  | nil => simp [RepRow]
  | cons t ts ih =>
    simp only [RepRow] at h
    obtain ⟨y, F1, F2, h1, h2, h3, rfl⟩ := h
    simp only [List.map_cons, RepRow, Rep]
    exact ⟨y, [], [], h1, rfl, ih h3, rfl⟩
theorem ACall.frz {f : Nat} {args : List T} {R : T → List T → Prop} (h : ACall P f (dshL args) R) : ACall P f args (fun r l => (∃ l0, R r l0) ∧ l = args.map fun _ => .any) := by
  intro w S0 F vs hsz hrep hnd hF hS0 hT
  have hrep' : RepRow (fun b => S0 b ∨ b ∈ F) w noH (fun i => vs[i]?) 0 (dshL args) [] := repRow_dsh args (repRow_monoS (fun b hb => .inl hb) args hrep) (fun c hc => .inr hc)
  refine (h w (fun b => S0 b ∨ b ∈ F) [] vs (by rw [dshL_length]; exact hsz) hrep' (by simp) (by simp) (by rintro b (hb | hb); exact hS0 b hb; exact (hF b hb).2) (hT.mono (fun _ h => .inl h) fun _ _ => rfl)).mono ?_
  rintro e w' ⟨rv, r, l, S', Fr, Fa, rfl, hR, hlen, hb⟩
  refine ⟨rv, r, args.map (fun _ => .any), S', Fr, [], rfl, ⟨⟨l, hR⟩, rfl⟩, by simp, hb.res, anys_rep hrep, ?_, ?_, ?_, fun b h => hb.S0 b (.inl h), hb.kept.more (by simp)⟩
  · simpa using hb.nodup.sublist (List.sublist_append_left _ _)
  · intro b h
    obtain ⟨q1, q2, q3⟩ := hb.mine b (by simp at h ⊢; exact .inl h)
    exact ⟨q1, q2, by simp at q3; exact .inr q3⟩
  · intro b h
    obtain ⟨q1, q2⟩ := hb.shared b h
    refine ⟨q1, ?_⟩
    rcases q2 with (q2 | q2) | q2 | q2
    · exact .inl q2
    · exact .inr (.inl q2)
    · cases q2
    · exact .inr (.inr q2)
theorem frz_eq {f : Nat} {args us anys : List T} {X : T} (h : ACall P f us (fun r _ => r = X)) (e : dshL args = us) (ha : anys = args.map fun _ => .any) : ACall P f args (fun r l => r = X ∧ l = anys) := by
  subst e ha
  exact (ACall.frz h).mono fun r l ⟨⟨_, h1⟩, h2⟩ => ⟨h1, h2⟩
def vrow (l : List Value) : List T := l.map .v
@[go_sem] theorem vrow_len' (l : List Value) : (vrow l).length = l.length := by simp [vrow]
@[go_sem] theorem vrow_sh (l : List Value) : (vrow l).map T.sh = vrow l := by simp [vrow, T.sh]
@[go_sem] theorem vrow_pk : ∀ l : List Value, packedL (vrow l) = True
  | [] => by simp [vrow, packedL]
  | x :: t => by have := vrow_pk t; simp only [vrow, List.map_cons, packedL, T.packed, true_and] at this ⊢; exact this
@[go_sem] theorem vrow_noM (d : Nat) : ∀ l : List Value, noML d (vrow l) = True
  | [] => by simp [vrow, noML]
  | x :: t => by have := vrow_noM d t; simp only [vrow, List.map_cons, noML, T.noM, true_and] at this ⊢; exact this
@[go_sem] theorem all_tt {α : Type} (l : List α) : (l.all fun _ => true) = true := by simp
def T.one (t : T) : Bool := t.plainV && t.leaf
def RawOk (S : Nat → Prop) (w : World) : List (List Value) → List (List T) → List Nat → Prop
  | [], [], F => F = []
  | rv :: rs, row :: rows, F => ∃ F1 F2, row.length = rv.length ∧ RepRow S w noH (fun i => rv[i]?) 0 row F1 ∧ RawOk S w rs rows F2 ∧ F = F1 ++ F2
  | _, _, _ => False
theorem RawOk.app : ∀ {a b : List (List Value)} {c d : List (List T)} {F G : List Nat}, RawOk S w a c F → RawOk S w b d G → RawOk S w (a ++ b) (c ++ d) (F ++ G)
  | [], b, [], d, F, G, h, h2 => by simp only [RawOk] at h; subst h; simpa using h2
  | r :: a, b, row :: c, d, F, G, h, h2 => by
    simp only [RawOk] at h
    obtain ⟨F1, F2, q1, q2, q3, rfl⟩ := h
    exact ⟨F1, F2 ++ G, q1, q2, RawOk.app q3 h2, by simp⟩
  | [], _, _ :: _, _, _, _, h, _ => h.elim
  | _ :: _, _, [], _, _, _, h, _ => h.elim
theorem RawOk.split : ∀ {a : List (List Value)} {c : List (List T)} {F : List Nat} (n : Nat), RawOk S w a c F → ∃ F1 F2, RawOk S w (a.take n) (c.take n) F1 ∧ RawOk S w (a.drop n) (c.drop n) F2 ∧ F = F1 ++ F2
  | [], [], F, n, h => ⟨[], [], by simp [RawOk], by simp [RawOk], by simpa [RawOk] using h⟩
  | r :: a, row :: c, F, 0, h => ⟨[], F, by simp [RawOk], by simpa using h, rfl⟩
  | r :: a, row :: c, F, n + 1, h => by
    simp only [RawOk] at h
    obtain ⟨F1, F2, q1, q2, q3, rfl⟩ := h
    obtain ⟨G1, G2, g1, g2, rfl⟩ := RawOk.split n q3
    exact ⟨F1 ++ G1, G2, by simp only [List.take_succ_cons, RawOk]; exact ⟨F1, G1, q1, q2, g1, rfl⟩, by simpa using g2, by simp⟩
  | [], _ :: _, _, _, h => h.elim
  | _ :: _, [], _, _, h => h.elim
theorem RawOk.frame {S' : Nat → Prop} {w' : World} : ∀ {a : List (List Value)} {c : List (List T)} {F : List Nat}, RawOk S w a c F → (∀ b, b ∈ F ∨ S b → w'.heap[b]? = w.heap[b]?) → (∀ b, S b → S' b) → RawOk S' w' a c F
  | [], [], F, h, _, _ => h
  | r :: a, row :: c, F, h, hw, hS => by
    simp only [RawOk] at h ⊢
    obtain ⟨F1, F2, q1, q2, q3, rfl⟩ := h
    exact ⟨F1, F2, q1, repRow_monoS hS row (repRow_frame row q2 fun b hb => hw b (hb.imp (List.mem_append_left _) id)), RawOk.frame q3 (fun b hb => hw b (hb.imp (List.mem_append_right _) id)) hS, rfl⟩
  | [], _ :: _, _, h, _, _ => h.elim
  | _ :: _, [], _, h, _, _ => h.elim
@[go_sem] theorem dshL_vrow : ∀ r : List Value, dshL (vrow r) = vrow r
  | [] => rfl
  | x :: l => by
    have := dshL_vrow l
    simp only [vrow] at this ⊢
    simp only [List.map_cons, dshL, T.dsh, this]
end
end Go.Am

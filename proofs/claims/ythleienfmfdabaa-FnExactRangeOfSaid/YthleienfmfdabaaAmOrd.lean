/- A region that draws its order: what only reads may be taken first; the rest comes in one order. -/
import Derived.Deep.Quiet
import Derived.Test.YthleienfmfdabaaAmPure
set_option linter.unusedSimpArgs false
set_option linter.unusedVariables false
set_option linter.unusedSectionVars false
namespace Go.Am
open Go Go.RowKit
section
variable {P : Program} {ops : Array Oper} {md : Region.Mode}

theorem Above.refl (w : World) : Above w w := fun _ _ => rfl
theorem Above.size {w w' : World} (h : Above w w') : w.heap.size ≤ w'.heap.size := by
  rcases Nat.lt_or_ge w'.heap.size w.heap.size with hlt | hge
  · have h1 := h w'.heap.size hlt
    rw [Array.getElem?_eq_none (Nat.le_refl _), Array.getElem?_eq_getElem hlt] at h1
    cases h1
  · exact hge
theorem Above.trans {w w' w'' : World} (h : Above w w') (h' : Above w' w'') : Above w w'' := fun b hb => by
  rw [h' b (by have := h.size; omega), h b hb]

/-- What one operation comes to: a value, and what lay before is as it was. -/
def Oper.up (P : Program) (a : Act) (o : Oper) (w : World) (K : Act → World → Prop) : Result Next → Prop
  | .ok (.value v) w' => Above w w' ∧ K (a.put o.dst v) w'
  | .ok (.enter f args) w' => Calls P f args w' fun e w'' => ∃ v, e = .returned v ∧ Above w w'' ∧ K (a.put o.dst v) w''
  | _ => False
def kOp (P : Program) (ops : Array Oper) (i : Nat) (K : Act → World → Prop) (a : Act) (w : World) : Prop :=
  match ops[i]? with
  | none => False
  | some o => if Region.wanted o (yielded ops a.tmps) then Oper.up P a o w K ((execOp a.eval o).run P w) else K (a.put o.dst undef) w
theorem up_mono {o : Oper} {a : Act} {w : World} {K K' : Act → World → Prop} {r : Result Next} (h : ∀ a w', Above w w' → K a w' → K' a w') (hh : Oper.up P a o w K r) : Oper.up P a o w K' r := by
  cases r with
  | ok n w' =>
    cases n <;> simp only [Oper.up] at hh ⊢
    case value v => exact ⟨hh.1, h _ _ hh.1 hh.2⟩
    case enter f args => exact hh.mono fun e w'' ⟨v, h1, h2, h3⟩ => ⟨v, h1, h2, h _ _ h2 h3⟩
  | halt x w' => simp only [Oper.up] at hh
theorem kOp_mono {i : Nat} {a : Act} {w : World} {K K' : Act → World → Prop} (h : ∀ a w', Above w w' → K a w' → K' a w') (hh : kOp P ops i K a w) : kOp P ops i K' a w := by
  unfold kOp at *
  split
  · rename_i ho; simp only [ho] at hh
  · rename_i o ho
    simp only [ho] at hh
    split
    · rename_i hw; simp only [hw, if_true] at hh; exact up_mono h hh
    · rename_i hw; simp only [hw] at hh; exact h _ _ (Above.refl w) hh
theorem upon_of_up {o : Oper} {a : Act} {w : World} {K : Act → World → Prop} {Q : Exit → Act → World → Prop} {r : Result Next} (hh : Oper.up P a o w K r) : o.upon P a K Q r := by
  cases r with
  | ok n w' =>
    cases n <;> simp only [Oper.up] at hh <;> simp only [Oper.upon]
    case value v => exact hh.2
    case enter f args =>
      refine hh.mono ?_
      rintro e w'' ⟨v, rfl, _, h⟩
      exact h
  | halt x w' => simp only [Oper.up] at hh
theorem wpOp_of_kOp {i : Nat} {a : Act} {w : World} {K : Act → World → Prop} {Q : Exit → Act → World → Prop} (hh : kOp P ops i K a w) : wpOp P ops Q i K a w := by
  unfold kOp at hh
  unfold wpOp
  split at hh
  · exact hh.elim
  · rename_i o ho
    simp only [ho]
    split
    · rename_i hw; simp only [hw, if_true] at hh; exact .inl (upon_of_up hh)
    · rename_i hw; simp only [hw] at hh; exact hh
/-- The outcome of an operation of which the value does not hang on 'v''s place. -/
theorem up_put {oj : Oper} {a : Act} {d : Option Tmp} {v : Value} {w : World} {K : Act → World → Prop} {r : Result Next} (h2 : ∀ t, d = some t → oj.dst ≠ some t) (hh : Oper.up P (a.put d v) oj w K r) :
    Oper.up P a oj w (fun a' w' => K (a'.put d v) w') r := by
  cases r with
  | ok n w' =>
    cases n <;> simp only [Oper.up] at hh ⊢
    case value u => exact ⟨hh.1, by rw [← Act.put_comm a v u h2]; exact hh.2⟩
    case enter f args =>
      refine hh.mono ?_
      rintro e w'' ⟨u, h1, h3, h4⟩
      exact ⟨u, h1, h3, by rw [← Act.put_comm a v u h2]; exact h4⟩
  | halt x w' => simp only [Oper.up] at hh

def wpAnyK (P : Program) (md : Region.Mode) (ops : Array Oper) (Q : Act → World → Prop) : Nat → Array Bool → Act → World → Prop
  | 0, listed, a, w => Region.ready md ops listed = [] ∧ Q a w
  | fuel + 1, listed, a, w =>
    (Region.ready md ops listed = [] → Q a w) ∧
    ∀ i ∈ Region.ready md ops listed, kOp P ops i (wpAnyK P md ops Q fuel (listed.setIfInBounds i true)) a w
theorem wpAny_of_K {Q : Act → World → Prop} {Q' : Exit → Act → World → Prop} (hQ : ∀ a w, Q a w → Q' .normal a w) : ∀ (fuel : Nat) (listed : Array Bool) (a : Act) (w : World), wpAnyK P md ops Q fuel listed a w → wpAny P md ops Q' fuel listed a w
  | 0, listed, a, w, h => ⟨h.1, hQ _ _ h.2⟩
  | fuel + 1, listed, a, w, h => ⟨fun hr => hQ _ _ (h.1 hr), fun i hi => wpOp_of_kOp (kOp_mono (fun a' w' _ h' => wpAny_of_K hQ fuel _ a' w' h') (h.2 i hi))⟩

/-- An operation that only reads: its value in every world that holds what this one holds. -/
def YieldsA (P : Program) (ops : Array Oper) (o : Oper) (v : Value) (a : Act) (w : World) : Prop :=
  (Region.wanted o (yielded ops a.tmps) = true ∧ ∀ w', Above w w' → (execOp a.eval o).run P w' = .ok (.value v) w') ∨
  (Region.wanted o (yielded ops a.tmps) = false ∧ v = undef)
theorem YieldsA.kOp {i : Nat} {o : Oper} {v : Value} {a : Act} {w : World} (hi : ops[i]? = some o) (hy : YieldsA P ops o v a w) {K : Act → World → Prop} (h : K (a.put o.dst v) w) : kOp P ops i K a w := by
  unfold Am.kOp
  simp only [hi]
  rcases hy with ⟨hw, hv⟩ | ⟨hw, rfl⟩
  · simp only [hw, if_true]; rw [hv w (Above.refl w)]; exact ⟨Above.refl w, h⟩
  · simp only [hw, Bool.false_eq_true, if_false]; exact h
theorem YieldsA.of_same {o : Oper} {v : Value} {a a' : Act} {w w' : World} (hy : YieldsA P ops o v a w) (hww : Above w w') (he : execOp a'.eval o = execOp a.eval o)
    (hw : Region.wanted o (yielded ops a'.tmps) = Region.wanted o (yielded ops a.tmps)) : YieldsA P ops o v a' w' := by
  unfold YieldsA at *
  rw [he, hw]
  exact hy.imp (fun h => ⟨h.1, fun w2 h2 => h.2 w2 (hww.trans h2)⟩) id

/-- What only reads may be taken first. -/
theorem wpAnyK_first {Q : Act → World → Prop} {i : Nat} {oi : Oper} {v : Value} (hi : ops[i]? = some oi) (hsel : ∀ (j : Nat) (o : Oper) cs b, ops[j]? = some o → o.op ≠ .select cs b) :
    ∀ (fuel : Nat) (listed : Array Bool) (a : Act) (w : World),
      (∀ j oj, ops[j]? = some oj → j ≠ i → listed.getD j true = false → (∀ e ∈ oj.after, Region.binds md e = true → e.on ≠ i) → oi.apart ops oj = true) →
      i ∈ Region.ready md ops listed → YieldsA P ops oi v a w →
      wpAnyK P md ops Q fuel (listed.setIfInBounds i true) (a.put oi.dst v) w → wpAnyK P md ops Q (fuel + 1) listed a w := by
  intro fuel
  induction fuel with
  | zero =>
    intro listed a w _ hr hy H
    refine ⟨fun h => (by rw [h] at hr; cases hr), fun j hj => ?_⟩
    by_cases hji : j = i
    · subst hji; exact hy.kOp hi H
    · have := ready_mono hj hji
      rw [H.1] at this
      cases this
  | succ fuel ih =>
    intro listed a w hfree hr hy H
    refine ⟨fun h => (by rw [h] at hr; cases hr), fun j hj => ?_⟩
    by_cases hji : j = i
    · subst hji; exact hy.kOp hi H
    · have h1 := H.2 j (ready_mono hj hji)
      obtain ⟨hjun, oj, hoj, hall⟩ := mem_ready.1 hj
      have hnot : ∀ e ∈ oj.after, Region.binds md e = true → e.on ≠ i := fun e he hb heq => by
        have h1 := hall e he hb
        have h0 := (mem_ready.1 hr).1
        rw [heq] at h1
        rcases Nat.lt_or_ge i listed.size with h' | h'
        · simp [h'] at h0 h1; rw [h0] at h1; cases h1
        · simp [Array.getElem?_eq_none h'] at h1
      have hap := hfree j oj hoj hji hjun hnot
      obtain ⟨p1, p2, p3⟩ := Oper.apart_spec hap
      have hsi : ∀ cs b, oi.op ≠ .select cs b := fun cs b => hsel i oi cs b hi
      have hsj : ∀ cs b, oj.op ≠ .select cs b := fun cs b => hsel j oj cs b hoj
      have hfree' : ∀ k ok, ops[k]? = some ok → k ≠ i → (listed.setIfInBounds j true).getD k true = false →
          (∀ e ∈ ok.after, Region.binds md e = true → e.on ≠ i) → oi.apart ops ok = true := fun k ok hk hki hun hno => by
        refine hfree k ok hk hki ?_ hno
        by_cases hjk : j = k
        · subst hjk; exact hjun
        · rw [getD_set_ne true hjk] at hun; exact hun
      -- the outcome of j where i's value is in its place is its outcome here
      have fin : ∀ (u : Value) (w' : World), Above w w' → wpAnyK P md ops Q fuel ((listed.setIfInBounds i true).setIfInBounds j true) ((a.put oj.dst u).put oi.dst v) w' → wpAnyK P md ops Q (fuel + 1) (listed.setIfInBounds j true) (a.put oj.dst u) w' := by
        intro u w' hw' hK
        refine ih (listed.setIfInBounds j true) (a.put oj.dst u) w' hfree' (ready_mono hr (Ne.symm hji)) (hy.of_same hw' (execOp_put oi hsi a oj.dst u p3) (wanted_put oi a oj.dst u p3)) ?_
        rw [Array.setIfInBounds_comm _ _ hji]
        exact hK
      unfold kOp at h1 ⊢
      simp only [hoj] at h1 ⊢
      rw [wanted_put oj a oi.dst v p1, execOp_put oj hsj a oi.dst v p1] at h1
      split
      · rename_i hw
        simp only [hw, if_true] at h1
        have h2 := up_put p2 h1
        generalize (execOp a.eval oj).run P w = r at h2
        cases r with
        | ok n w' =>
          cases n <;> simp only [Oper.up] at h2 ⊢
          case value u => exact ⟨h2.1, fin u w' h2.1 h2.2⟩
          case enter f args =>
            refine h2.mono ?_
            rintro e w'' ⟨u, q1, q2, q3⟩
            exact ⟨u, q1, q2, fin u w'' q2 q3⟩
        | halt x w' => simp only [Oper.up] at h2
      · rename_i hw
        simp only [hw] at h1
        exact fin undef w (Above.refl w) (by rw [← Act.put_comm a v undef p2]; exact h1)
/-- What is alone ready comes first. -/
theorem wpAnyK_alone {Q : Act → World → Prop} {i : Nat} {fuel : Nat} {listed : Array Bool} {a : Act} {w : World} (hr : Region.ready md ops listed = [i])
    (h : kOp P ops i (wpAnyK P md ops Q fuel (listed.setIfInBounds i true)) a w) : wpAnyK P md ops Q (fuel + 1) listed a w :=
  ⟨fun h0 => (by rw [hr] at h0; cases h0), fun j hj => (by rw [hr] at hj; simp at hj; subst hj; exact h)⟩

def lexK (P : Program) (ops : Array Oper) (Q : Act → World → Prop) : List (Bool × Nat) → Act → World → Prop
  | [], a, w => Q a w
  | (true, i) :: r, a, w => kOp P ops i (lexK P ops Q r) a w
  | (false, i) :: r, a, w => ∃ o v, ops[i]? = some o ∧ YieldsA P ops o v a w ∧ lexK P ops Q r (a.put o.dst v) w
theorem wpAnyK_lex {Q : Act → World → Prop} (hs : Region.noSelect ops = true) : ∀ (π : List (Bool × Nat)) (listed : Array Bool) (a : Act) (w : World), ordFrom md ops π listed = true → lexK P ops Q π a w → wpAnyK P md ops Q π.length listed a w
  | [], listed, a, w, hB, h => ⟨by simpa [ordFrom] using hB, h⟩
  | (true, i) :: r, listed, a, w, hB, h => by
    simp only [ordFrom, Bool.and_eq_true, beq_iff_eq] at hB
    exact wpAnyK_alone hB.1 (kOp_mono (fun a' w' _ h' => wpAnyK_lex hs r _ a' w' hB.2 h') h)
  | (false, i) :: r, listed, a, w, hB, h => by
    simp only [ordFrom, Bool.and_eq_true] at hB
    obtain ⟨⟨h1, h2⟩, h3⟩ := hB
    obtain ⟨o, v, ho, hy, hl⟩ := h
    exact wpAnyK_first ho (Region.noSelect_spec hs) _ listed a w (Region.free_spec ho h2) (by simpa using h1) hy (wpAnyK_lex hs r _ _ w h3 hl)
theorem wp_region_ord {id : Nat} {Q : Exit → Act → World → Prop} {a : Act} {w : World} {π : List (Bool × Nat)} (hm : P.follows .mixedOrders = true) (hB : ordB .any ops π = true)
    (h : lexK P ops (Q .normal) π a { w with drawn := w.drawn + 1 }) : (Code.region id ops true).wp P Q a w := by
  simp only [ordB, Bool.and_eq_true, beq_iff_eq] at hB
  obtain ⟨⟨h1, h2⟩, h3⟩ := hB
  refine wp_region_any hm (wpAny_of_K (Q := Q .normal) (fun _ _ h => h) _ _ _ _ ?_)
  have := wpAnyK_lex (md := .any) h1 π _ a _ h3 h
  rwa [h2] at this
end
end Go.Am

/- string -> []byte: the row is marked behind its end (for claims whose texts have the weaker Thawed). -/
import Derived.Test.YtfjieglppmcelaaAmSet
import Derived.Lib.ConvBytes
set_option linter.unusedSimpArgs false
set_option linter.unusedVariables false
set_option linter.unusedSectionVars false
namespace Go.Am
open Go Go.RowKit
section
variable {P : Program} {E : Env} {s : St} {a : Act} {w : World} {S : Nat → Prop} {ρ : Nat → Option Hd} {foot : Nat → List Nat} {o : Oper}
theorem push_modify {α : Type} (a : Array α) (x : α) (f : α → α) : (a.push x).modify a.size f = a.push (f x) := by
  apply Array.ext_getElem?
  intro i
  simp only [Array.getElem?_modify, Array.getElem?_push]
  by_cases h : a.size = i
  · simp [h]
  · simp [h, Ne.symm h]
def byteRows (l : List UInt8) : List (List T) := l.map fun x => [.v (.int .u8 (x.toNat : Nat))]
theorem repRows_bs {cell : Nat → Option Value} : ∀ (l : List UInt8) (b : Nat), (∀ i, i < l.length → cell (b + i) = some (.int .u8 ((l.getD i 0).toNat : Nat))) → RepRows S w ρ cell b 1 (byteRows l) []
  | [], _, _ => by simp [byteRows, RepRows]
  | x :: l, b, h => by
    simp only [byteRows, List.map_cons, RepRows]
    refine ⟨[], [], by simp, ?_, repRows_bs l (b + 1) fun i hi => ?_, rfl⟩
    · simp only [RepRow, Rep]
      exact ⟨_, [], [], h 0 (by simp), ⟨rfl, rfl⟩, rfl, rfl⟩
    · have := h (i + 1) (by simp; omega)
      rw [show b + 1 + i = b + (i + 1) by omega, this]; simp
theorem noM_byteRows {d : Nat} (l : List UInt8) : noMLL d (byteRows l) := by
  intro r hr
  simp only [byteRows, List.mem_map] at hr
  obtain ⟨x, _, rfl⟩ := hr
  simp [noML, T.noM]
@[go_sem] theorem s_E_cvsb {d : Nat} {x : Operand} : effI E s (some d) (.cvsb x) = none := rfl
theorem ok_cvsb {d : Nat} {g : Option (Nat × Bool)} {K : St → Prop} {x : Operand} {l : List UInt8} (hx : s.eval x = some (.v (.string ⟨⟨l⟩⟩))) (hpi : E.okd d) (hno : objsNoM d s.objs)
    (hK : K ((s.new d ⟨1, byteRows l⟩).set d (.ref d 0 l.length))) : InstrOk P E ⟨some d, g, .cvsb x⟩ K s := by
  intro o g1 g2 g3 a w ⟨S, ρ, foot, hsx⟩ Q
  simp only at g1 g2 g3
  unfold compI at g1
  split at g1 <;> try (simp at g1; done)
  all_goals try (first | (simp at g1; done) | (repeat' split at g1) <;> simp at g1; done)
  rename_i src dst x' hop
  split at g1 <;> try (simp at g1; done)
  · rename_i e h1 h2
    split at g1
    · rename_i h3
      simp only [Option.some.injEq, I.cvsb.injEq] at g1
      subst g1
      have h3' : P.underlying e = some (.int .u8) := by
        unfold isU8 at h3; split at h3 <;> simp_all
      have hrx := hsx.eval hx
      simp only [Rep] at hrx
      have hrun0 := Lib.run_convert_string_bytes (P := P) w src dst e ⟨⟨l⟩⟩ h1 h2 h3'
      have hrun := Sem.run_bind (P := P) (w := w) (convert src dst (.string ⟨⟨l⟩⟩)) (fun v => (pure (Next.value v) : Sem Next))
      rw [hrun0] at hrun
      have ex : (execOp a.eval o).run P w = .ok (.value (.slice (some ⟨w.heap.size, 0, none⟩) l.length (grownCap w l.length 0 e))) (Lib.bytesWorld w e ⟨⟨l⟩⟩) := by
        simp only [execOp, hop, hrx.1]
        rw [hrun]
        simp [ByteArray.size]
      rw [ex, Oper.upon_value, g2]
      have hcap : l.length ≤ grownCap w l.length 0 e := grownCap_ge w l.length 0 e
      have hW : Lib.bytesWorld w e ⟨⟨l⟩⟩ = { w with heap := w.heap.push (.cells (Lib.bytesCells w e ⟨⟨l⟩⟩) e ((Lib.bytesCells w e ⟨⟨l⟩⟩).size, (Lib.bytesCells w e ⟨⟨l⟩⟩).size + 1)), drawn := w.drawn + 1 } := by
        unfold Lib.bytesWorld
        simp only [World.freeze, World.alloc, World.drew]
        rw [push_modify]
        simp
      have hsz : (Lib.bytesCells w e ⟨⟨l⟩⟩).size = grownCap w l.length 0 e := by
        simp [Lib.bytesCells, ByteArray.size]; omega
      rw [hW]
      have := sim_new_buf hsx (g3 d rfl) (k := 1) (rows := byteRows l) (arr := Lib.bytesCells w e ⟨⟨l⟩⟩) e (fr := ((Lib.bytesCells w e ⟨⟨l⟩⟩).size, (Lib.bytesCells w e ⟨⟨l⟩⟩).size + 1)) (cap := grownCap w l.length 0 e) (w.drawn + 1) (Fs := []) hpi hno (noM_byteRows l) (by simpa [byteRows] using hcap) (by omega) (by intro i hi; omega) (by
        refine repRows_bs l 0 fun i hi => ?_
        simp only [Lib.bytesCells, Nat.zero_add]
        rw [Array.getElem?_append_left (by simpa using hi)]
        simp [hi, List.getD]) (by simp) (by simp) (by simp)
      rw [show (byteRows l).length = l.length by simp [byteRows]] at this
      exact ⟨_, hK, this⟩
    · cases g1
end
end Go.Am

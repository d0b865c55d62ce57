/- The law of whatever arguments. -/
import Derived.Test.YthaildflhjfikaaGreatDoorFnExactSnapSumCellAt
import Derived.Test.YthaildflhjfikaaGreatDoorFnExactSnapSumItoa
import Derived.Test.YthaildflhjfikaaGreatDoorAmSort
import Derived.Test.YthaildflhjfikaaGreatDoorLay
set_option linter.all false
set_option maxRecDepth 100000
namespace Go.Proofs.Wb
open Go Go.Am Go.RowKit Go.Proofs Go.Sort Go.Shelf
theorem sortNe : zC2 := by
 intro l hne hl
 have h := Go.Am.sort_str (P := Tryz.prog) (l.map (·.data.toList)) (by simpa using hne) (fun blk off cap w hH hb => Go.Proofs.Any.slices_Sort_string Tryz.lays190 blk off cap _ w hH hb (by rw [List.length_map]; omega))
 have e : ∀ l : List ByteArray, (l.map (·.data.toList)).map (fun x => [T.v (encStr x)]) = strs l := fun l => by rw [List.map_map]; rfl
 rw [e, show Go.Am.sortL (l.map (·.data.toList)) = (zCx l).map (·.data.toList) from zTa l, e] at h
 exact h
theorem law_FnExactSnapSum (t0 t1 : T) (h0 : zME Tryz.prog 20 30 t0) (h1 : zME Tryz.prog 20 3 t1) : ACall Tryz.prog 3 [t0, t1] (fun r _ => r = .v (.bool true)) := by
 simp only [zME, Tryz.underlying30] at h0
 obtain ⟨row0, rfl, l0, hh0⟩ := h0
 obtain ⟨x0, rfl, w0⟩ := zVi (n := 9) (l0.trans (by kernel_rfl)) hh0
 simp only [zME, Tryz.underlying3] at h1
 obtain ⟨x1, rfl, w1⟩ := zA3 Tryz.underlying3 h1
 have hS := sortNe
 have hC : zEQ := Cell_at_ok
 have hR6 := read6H
 apply zJ8 <;> assumption
end Go.Proofs.Wb

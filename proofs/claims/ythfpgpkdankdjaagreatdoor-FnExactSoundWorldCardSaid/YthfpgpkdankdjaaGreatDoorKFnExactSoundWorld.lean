/- The law of whatever arguments. -/
import Derived.Test.YthfpgpkdankdjaaGreatDoorFnExactSoundWorldCellAt
import Derived.Test.YthfpgpkdankdjaaGreatDoorFnExactSoundWorldItoa
import Derived.Test.YthfpgpkdankdjaaGreatDoorAmSort
import Derived.Test.YthfpgpkdankdjaaGreatDoorLay
set_option linter.all false
set_option maxRecDepth 100000
namespace Go.Proofs.Wb
open Go Go.Am Go.RowKit Go.Proofs Go.Sort Go.Shelf
theorem sortNe : zCD := by
 intro l hne hl
 have h := Go.Am.sort_str (P := Tryz.prog) (l.map (·.data.toList)) (by simpa using hne) (fun blk off cap w hH hb => Go.Proofs.Any.slices_Sort_string Tryz.lays190 blk off cap _ w hH hb (by rw [List.length_map]; omega))
 have e : ∀ l : List ByteArray, (l.map (·.data.toList)).map (fun x => [T.v (encStr x)]) = strs l := fun l => by rw [List.map_map]; rfl
 rw [e, show Go.Am.sortL (l.map (·.data.toList)) = (zBp l).map (·.data.toList) from zVG l, e] at h
 exact h
theorem law_FnExactSoundWorld (t0 : T) (h0 : zU2 Tryz.prog 20 30 t0) : ACall Tryz.prog 3 [t0] (fun r _ => r = .v (.bool true)) := by
 simp only [zU2, Tryz.underlying30] at h0
 obtain ⟨row0, rfl, l0, hh0⟩ := h0
 obtain ⟨x0, rfl, w0⟩ := zX4 (n := 9) (l0.trans (by kernel_rfl)) hh0
 have hS := sortNe
 have hC : zEF := Cell_at_ok
 have hI := itoaZH
 have hR6 := read6H
 apply zJm <;> assumption
end Go.Proofs.Wb

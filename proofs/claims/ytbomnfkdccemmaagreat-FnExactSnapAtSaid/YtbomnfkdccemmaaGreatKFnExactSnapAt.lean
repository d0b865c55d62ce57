/- The law of whatever arguments. -/
import Derived.Test.YtbomnfkdccemmaaGreatFnExactSnapAtCellAt
import Derived.Test.YtbomnfkdccemmaaGreatAmSort
import Derived.Test.YtbomnfkdccemmaaGreatLay
set_option linter.all false
set_option maxRecDepth 100000
namespace Go.Proofs.Wb
open Go Go.Am Go.RowKit Go.Proofs Go.Sort Go.Shelf
theorem sortNe : zDs := by
 intro l hne hl
 have h := Go.Am.sort_str (P := Tryz.prog) (l.map (·.data.toList)) (by simpa using hne) (fun blk off cap w hH hb => Go.Proofs.Any.slices_Sort_string Tryz.lays190 blk off cap _ w hH hb (by rw [List.length_map]; omega))
 have e : ∀ l : List ByteArray, (l.map (·.data.toList)).map (fun x => [T.v (encStr x)]) = strs l := fun l => by rw [List.map_map]; rfl
 rw [e, show Go.Am.sortL (l.map (·.data.toList)) = (zCC l).map (·.data.toList) from zTt l, e] at h
 exact h
theorem law_FnExactSnapAt (t0 t1 : T) (h0 : zMP Tryz.prog 20 30 t0) (h1 : zMP Tryz.prog 20 3 t1) : ACall Tryz.prog 3 [t0, t1] (fun r _ => r = .v (.bool true)) := by
 simp only [zMP, Tryz.underlying30] at h0
 obtain ⟨row0, rfl, l0, hh0⟩ := h0
 obtain ⟨x0, rfl, w0⟩ := zVM (n := 9) (l0.trans (by kernel_rfl)) hh0
 simp only [zMP, Tryz.underlying3] at h1
 obtain ⟨x1, rfl, w1⟩ := zBa Tryz.underlying3 h1
 have hS := sortNe
 have hC : zF5 := Cell_at_ok
 apply zLn <;> assumption
end Go.Proofs.Wb

/- The law of whatever arguments. -/
import Derived.Test.YtgdngiecjoeniaaGreatFnExactStaleByHas
import Derived.Test.YtgdngiecjoeniaaGreatAmSort
import Derived.Test.YtgdngiecjoeniaaGreatLay
set_option linter.unusedSimpArgs false
set_option linter.unusedVariables false
set_option linter.unusedSectionVars false
set_option maxRecDepth 100000
namespace Go.Proofs.Wb
open Go Go.Am Go.RowKit Go.Proofs Go.Sort Go.Shelf
theorem sortNe : SortNe := by
 intro l hne hl
 have h := Go.Am.sort_str (P := Tryz.prog) (l.map (·.data.toList)) (by simpa using hne) (fun blk off cap w hH hb => Go.Proofs.Any.slices_Sort_string Tryz.lays190 blk off cap _ w hH hb (by rw [List.length_map]; omega))
 have e : ∀ l : List ByteArray, (l.map (·.data.toList)).map (fun x => [T.v (encStr x)]) = strs l := fun l => by rw [List.map_map]; rfl
 rw [e, show Go.Am.sortL (l.map (·.data.toList)) = (sortB l).map (·.data.toList) from sortB_strs l, e] at h
 exact h
theorem law_FnExactStaleBy (t0 t1 t2 : T) (h0 : hasV Tryz.prog 20 30 t0) (h1 : hasV Tryz.prog 20 3 t1) (h2 : hasV Tryz.prog 20 3 t2) : ACall Tryz.prog 3 [t0, t1, t2] (fun r _ => r = .v (.bool true)) := by
 simp only [hasV, Tryz.underlying30] at h0
 obtain ⟨row0, rfl, l0, hh0⟩ := h0
 obtain ⟨x0, rfl, w0⟩ := has_World (n := 9) (l0.trans (by kernel_rfl)) hh0
 simp only [hasV, Tryz.underlying3] at h1
 obtain ⟨x1, rfl, w1⟩ := has_int Tryz.underlying3 h1
 simp only [hasV, Tryz.underlying3] at h2
 obtain ⟨x2, rfl, w2⟩ := has_int Tryz.underlying3 h2
 have hS := sortNe
 apply FnExactStaleBy_ok <;> assumption
end Go.Proofs.Wb

/- The law of whatever arguments. -/
import Derived.Test.YtlcebphcohneaaaGreatFnExactStateOfHas
import Derived.Test.YtlcebphcohneaaaGreatAmSort
import Derived.Test.YtlcebphcohneaaaGreatLay
set_option linter.unusedSimpArgs false
set_option linter.unusedVariables false
set_option linter.unusedSectionVars false
set_option maxRecDepth 100000
namespace Go.Proofs.Wb
open Go Go.Am Go.RowKit Go.Proofs Go.Sort Go.Shelf
theorem sortNe : SortNe := by
 intro l hne hl
 have h := Go.Am.sort_str (P := Tryz.prog) (l.map (·.data.toList)) (by simpa using hne) (fun blk off cap w hH hb => Go.Proofs.Any.slices_Sort_string Tryz.lays190 blk off cap _ w hH hb (by rw [List.length_map]; omega))
 have e : ∀ l : List ByteArray, (l.map (·.data.toList)).map (fun x => [T.v (encStr x)]) = strs l := fun l => by rw [List.map_map]; rfl
 rw [e, show Go.Am.sortL (l.map (·.data.toList)) = (sortB l).map (·.data.toList) from sortB_strs l, e] at h
 exact h
theorem law_FnExactStateOf (t0 : T) (h0 : hasV Tryz.prog 20 37 t0) : ACall Tryz.prog 5 [t0] (fun r _ => r = .v (.bool true)) := by
 simp only [hasV, Tryz.underlying37] at h0
 obtain ⟨x0, rfl, w0⟩ := has_sl (Rec.row false) (Rec.wf) Tryz.underlying37 (by kernel_rfl) (fun r hl h => has_Rec hl h) h0
 have hS := sortNe
 apply FnExactStateOf_ok <;> assumption
end Go.Proofs.Wb

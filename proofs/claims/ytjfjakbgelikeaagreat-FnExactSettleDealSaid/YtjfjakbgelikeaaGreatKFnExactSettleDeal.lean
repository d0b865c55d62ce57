/- The law of whatever arguments. -/
import Derived.Test.YtjfjakbgelikeaaGreatFnExactSettleDealHas
import Derived.Test.YtjfjakbgelikeaaGreatAmSort
import Derived.Test.YtjfjakbgelikeaaGreatLay
set_option linter.all false
set_option maxRecDepth 100000
namespace Go.Proofs.Wb
open Go Go.Am Go.RowKit Go.Proofs Go.Sort Go.Shelf
theorem sortNe : zB5 := by
 intro l hne hl
 have h := Go.Am.sort_str (P := Tryz.prog) (l.map (·.data.toList)) (by simpa using hne) (fun blk off cap w hH hb => Go.Proofs.Any.slices_Sort_string Tryz.lays190 blk off cap _ w hH hb (by rw [List.length_map]; omega))
 have e : ∀ l : List ByteArray, (l.map (·.data.toList)).map (fun x => [T.v (encStr x)]) = strs l := fun l => by rw [List.map_map]; rfl
 rw [e, show Go.Am.sortL (l.map (·.data.toList)) = (zBR l).map (·.data.toList) from zSM l, e] at h
 exact h
theorem law_FnExactSettleDeal (t0 : T) (h0 : zSh Tryz.prog 20 26 t0) : ACall Tryz.prog 3 [t0] (fun r _ => r = .v (.bool true)) := by
 simp only [zSh, Tryz.underlying26] at h0
 obtain ⟨row0, rfl, l0, hh0⟩ := h0
 obtain ⟨x0, rfl, w0⟩ := zWF (n := 12) (l0.trans (by kernel_rfl)) hh0
 have hS := sortNe
 apply zIk <;> assumption
end Go.Proofs.Wb

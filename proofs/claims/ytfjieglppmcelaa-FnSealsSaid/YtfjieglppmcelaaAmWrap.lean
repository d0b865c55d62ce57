/- From the arguments as a row reads them to trees, and back from a contract to the row's step. -/
import Derived.Test.YtfjieglppmcelaaAmFun
import Derived.Test.YtfjieglppmcelaaAmPure2
import Derived.Below
set_option linter.unusedSimpArgs false
set_option linter.unusedVariables false
set_option linter.unusedSectionVars false
namespace Go.Am
open Go Go.RowKit
variable {w : World}
def ofInts (k : IntKind) (l : List Int) : List (List T) := l.map fun n => [.v (.int k n)]
theorem repRows_ints {S : Nat → Prop} {k : IntKind} {arr : Array Value} : ∀ (l : List Int) (off : Nat), (∀ i, i < l.length → arr[off + i]? = some (.int k (l.getD i 0))) → RepRows S w noH (fun i => arr[i]?) off 1 (ofInts k l) []
  | [], off, h => by simp [ofInts, RepRows]
  | n :: l, off, h => by
    simp only [ofInts, List.map_cons, RepRows]
    refine ⟨[], [], rfl, ?_, ?_, rfl⟩
    · simp only [RepRow]
      exact ⟨.int k n, [], [], by simpa using h 0 (by simp), by simp [Rep], rfl, rfl⟩
    · refine repRows_ints l (off + 1) fun i hi => ?_
      have := h (i + 1) (by simpa using hi)
      rw [show off + 1 + i = off + (i + 1) from by omega]
      simpa using this
theorem rep_ints {k : IntKind} {a : Option Addr} {len cap : Nat} {zs : List Int}
    (h : (a = none ∧ len = 0 ∧ cap = 0 ∧ zs = []) ∨ ∃ x, a = some x ∧ len ≤ cap ∧ cap ≤ maxLen ∧ zs.length = cap ∧ (∀ i, i < zs.length → w.cell? (x.add i) = some (.int k (zs.getD i 0))) ∧ ∀ n ∈ zs, (Lit.int k n).wf = true) :
    Rep (fun b => b < w.heap.size) w noH (.sl false 1 (ofInts k (zs.take len))) (.slice a len cap) [] := by
  rcases h with ⟨rfl, rfl, rfl, rfl⟩ | ⟨x, rfl, hl, hm, hz, hcell, hwf⟩
  · simp only [Rep]
    exact ⟨none, 0, by simp [ofInts], .inl ⟨rfl, by simp [ofInts], trivial⟩⟩
  · have hlen : (ofInts k (zs.take len)).length = len := by simp [ofInts]; omega
    simp only [Rep]
    refine ⟨some x, cap, by rw [hlen], ?_⟩
    by_cases h0 : cap = 0
    · refine .inl ⟨h0, ?_, trivial⟩
      rw [← List.length_eq_zero_iff, hlen]; omega
    · obtain ⟨b, off, spot⟩ := x
      have hc := hcell 0 (by omega)
      have hs : spot = none := by simpa [Addr.add] using World.cell?_spot hc
      subst hs
      have hblk : ∃ arr el fr, w.heap[b]? = some (.cells arr el fr) ∧ ∀ i, i < zs.length → arr[off + i]? = some (.int k (zs.getD i 0)) := by
        cases hb : w.heap[b]? with
        | none => simp [World.cell?, Addr.add, hb] at hc
        | some o =>
          cases o with
          | cells arr el fr =>
            refine ⟨arr, el, fr, rfl, fun i hi => ?_⟩
            have := hcell i hi
            rw [add_none] at this
            simpa [World.cell?, hb] using this
          | _ => simp [World.cell?, Addr.add, hb] at hc
      obtain ⟨arr, el, fr, hb, harr⟩ := hblk
      right
      have hlast := harr (cap - 1) (by omega)
      have hsz := (Array.getElem?_eq_some_iff.1 hlast).1
      refine ⟨b, off, arr, el, fr, [], rfl, hb, by rw [hlen]; exact hl, by omega, repRows_ints _ _ fun i hi => ?_, ?_⟩
      · have hi' : i < len := by simp at hi; omega
        rw [harr i (by omega)]
        simp [List.getD, List.getElem?_take, hi']
      · simp only [Held]
        exact ⟨trivial, (Array.getElem?_eq_some_iff.1 hb).1, by simp⟩
theorem below_of_kept {w' : World} (h : Kept [] w w') : Below w.heap.size w w' := ⟨h.os, h.tape, h.output, h.size, fun b hb => h.block b hb (by simp)⟩
/-- A law's contract as the row's step asks for it. -/
theorem ACall.law {P : Program} {f : Nat} {ts : List T} (h : ACall P f ts (fun r _ => r = .v (.bool true))) {vs : Array Value} (hv : vs.size = ts.length) (hr : RepRow (fun b => b < w.heap.size) w noH (fun i => vs[i]?) 0 ts []) :
    Calls P f vs w fun e w' => e = .returned (.bool true) ∧ Below w.heap.size w w' := by
  refine (h w (fun b => b < w.heap.size) [] vs hv hr List.nodup_nil (by simp) (fun _ h => h)).mono ?_
  rintro e w' ⟨rv, r, l, S', Fr, Fa, rfl, rfl, _, hb⟩
  have := hb.res
  simp only [Rep] at this
  exact ⟨by rw [this.1], below_of_kept hb.kept⟩
end Go.Am

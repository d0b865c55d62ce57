import Derived.Test.YtoelnhjecaellaaGreatDoorFnExactFindOrderHas
import Derived.Test.YtoelnhjecaellaaGreatDoorLayI
import Derived.Shelf.Strconv.Itoa3
import Derived.Lib.LaidTab
import Derived.WalkKit
set_option linter.unusedSimpArgs false
set_option linter.unusedVariables false
namespace Go.Proofs.Wb
open Go Go.Am Go.RowKit Go.Proofs Go.Shelf
theorem decD : ∀ (k u : Nat), u < 10 ^ k → 1 ≤ k → Lib.decDigits u = numF k u
  | 0, _, _, h => absurd h (by omega)
  | k + 1, u, hu, _ => by
    rw [Lib.decDigits]
    simp only [numF]
    by_cases h : u < 10
    · rw [dif_pos h, if_pos h]
    · rw [dif_neg h, if_neg h, decD k (u / 10) (by rw [Nat.pow_succ] at hu; omega) (by
        rcases Nat.eq_zero_or_pos k with rfl | h1
        · simp at hu; omega
        · exact h1)]
theorem itoa_dgt (u : Nat) (hu : u < 10 ^ 18) : Lib.itoa (u : Int) = dgt u := by
  rw [Lib.itoa_nonneg, decD 18 u hu (by omega), dgt, numF_eq 18 20 u hu (by omega) (by omega)]
theorem kept_below {F : List Nat} {w w' : Go.World} (hB : Below w.heap.size w w') : Kept F w w' := by
  refine ⟨hB.os, hB.tape, hB.output, hB.size, fun b hb _ => hB.block b hb, fun b arr el fr h => ?_⟩
  have hb : b < w.heap.size := (Array.getElem?_eq_some_iff.1 h).1
  exact ⟨arr, fr, by rw [hB.block b hb]; exact h, rfl⟩
theorem grow_below (w : Go.World) (k : Nat) (os : Array Obj) : Below w.heap.size w (Sort.grow (w.drewN k) os) := by
  have hh : (w.drewN k).heap = w.heap := by simp
  refine ⟨rfl, rfl, rfl, ?_, fun b hb => ?_⟩
  · simp only [Sort.grow, Array.size_append, hh]; omega
  · simp only [Sort.grow, hh]
    rw [Array.getElem?_append_left hb]
theorem tab_pow {w : Go.World} {S : Nat → Prop} (hT : Inv w S) : Lib.TabIs Tryz.prog w "internal/strconv.uint64pow10" .u64 Lib.pow10Tab := by
  obtain ⟨_, arr, el, fr, h1, h2⟩ := hT _ (List.Mem.head _)
  have h3 : arr.toList = Lib.pow10Tab.map fun z => Value.int .u64 z := h2
  have h4 : arr = (Lib.pow10Tab.map fun z => Value.int .u64 z).toArray := by rw [← h3]
  unfold Lib.TabIs World.var?
  rw [show Tryz.prog.globalNamed "internal/strconv.uint64pow10" = some 0 by kernel_rfl]
  simp only [Option.bind_some]
  rw [show w.heap[0]? = some (.cells arr el fr) from h1, h4]
theorem itoaH : ItoaH := by
  intro u hu w S0 F vs hsz hrep hnd hF hS0 hT
  have hrep0 := hrep
  simp only [RepRow, Rep] at hrep
  obtain ⟨y, F1, F2, c1, ⟨rfl, rfl⟩, rfl, rfl⟩ := hrep
  have hvs : vs = #[.int .i64 u] := by
    apply Array.ext
    · simpa using hsz
    · intro i h1 h2
      simp at h2
      subst h2
      rw [Array.getElem?_eq_getElem h1] at c1; simpa using c1
  subst hvs
  have hw : (10 : Nat) ^ 18 = 1000000000000000000 := by decide
  refine (Any.strconv_Itoa Tryz.laysItoa (u : Int) (by omega) (by omega) w (tab_pow hT)).mono ?_
  rintro e w' ⟨rfl, k, os, rfl⟩
  have hB := grow_below w k os
  rw [itoa_dgt u hu]
  refine ⟨_, sD (dgt u), [i64 u], S0, [], [], rfl, rfl, rfl, ?_, ?_, by simp, by simp, fun b hb => ⟨Nat.lt_of_lt_of_le (hS0 b hb) hB.size, .inl hb⟩, fun b h => h, kept_below hB⟩
  · simp only [Rep]; exact ⟨trivial, trivial⟩
  · exact repRow_frame _ hrep0 fun b hb => hB.block b (hb.elim (fun h => (hF b h).2) (hS0 b))
end Go.Proofs.Wb

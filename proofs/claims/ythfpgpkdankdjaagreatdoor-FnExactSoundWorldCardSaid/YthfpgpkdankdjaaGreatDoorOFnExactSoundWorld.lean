/- The law FnExactSoundWorld returns true for every input and leaves its arguments as they were. The tables of the library that its row lists hold what the program's text lays (the card ties them). No other conditions. -/
import Derived.Test.YthfpgpkdankdjaaGreatDoorCards
import Derived.Test.YthfpgpkdankdjaaGreatDoorTie
import Derived.WalkKit
import Derived.ProofKit
import Derived.OpenShut
import Derived.ShutString
import Derived.ChangeOld
import Derived.Below
import Derived.LaidMore
import Derived.Stop.Joined
import Derived.Stop.LaidErr
import Derived.SevenTiedAt
import Derived.Lib.LaidTab
import Derived.Lib.ItoaNum
import Derived.Test.YthfpgpkdankdjaaGreatDoorKFnExactSoundWorld
import Derived.Test.YthfpgpkdankdjaaGreatDoorAmRead
set_option linter.all false
namespace Go.Proofs.YthfpgpkdankdjaaGreatDoor.fnExactSoundWorld
open Go.ChangeShapes Go.WideShapes Go.ChangeAt Go.RowKit
open Go.ChangeMaps (open_string shut_string)
theorem own : ownKnob Tryz.prog.godebug = none := by kernel_rfl
theorem laidOut : laidOutB Tryz.prog = true := by kernel_rfl
theorem door_met (os : Os) (args : Array Value) : laidMetH Tryz.prog Rows.fnExactSoundWorldRow.laid ((World.doorLaid Tryz.prog 62 os).forCall (fun _ _ => 0) ⟨#[], args, []⟩).memory :=
  laidMetH_of_parts3 (fuel := 8) (laidMet_of_run' 8 (by kernel_rfl) (by kernel_rfl)) (by kernel_rfl) (by kernel_rfl)
theorem var_block {P : Program} {w : World} {name : String} {k : Nat} {cs : Array Value} (hg : P.globalNamed name = some k) (h : w.var? P name = some cs) : k < w.heap.size ∧ ∃ arr el fr, w.heap[k]? = some (.cells arr el fr) ∧ arr = cs := by
  unfold World.var? at h
  rw [hg, Option.bind_some] at h
  split at h
  · rename_i c el fr he
    have h2 := Option.some.inj h
    exact ⟨(Array.getElem?_eq_some_iff.1 he).1, _, _, _, he, h2⟩
  · cases h
theorem star : "*" ++ "errors.errorString" = "*errors.errorString" := by decide
theorem rowE (u : TypeId) (h : Tryz.prog.typeName? 3 u = some "*errors.errorString") : u = 404 :=
  typeName_ptr_named (nm := "errors.errorString") (by rw [star]; kernel_rfl) (by kernel_rfl) (by decide) u (by rw [star]; exact h)
/-- What the condition gives the walks. -/
theorem inv_of {w : World} (h : laidMetH Tryz.prog Rows.fnExactSoundWorldRow.laid w) : Go.Am.Inv w fun b => b < w.heap.size := by
  rw [MakeChecks.laidMetH_plain _ _ _ (by kernel_rfl)] at h
  have h1 := Lib.tabIs_of_head (name := "internal/strconv.uint64pow10") (k := .u64) (zs := Lib.pow10Tab) (g := 0) (t := 386) (e := 297) (n := 20) (by kernel_rfl) (by kernel_rfl) (by kernel_rfl) (by kernel_rfl) (by kernel_rfl) (by kernel_rfl) h.tail.tail
  obtain ⟨b1, arr1, el1, fr1, e1, e2⟩ := var_block (k := 0) (by kernel_rfl) h1
  obtain ⟨a0, s0, v0, -, -, -⟩ := laid_sentinel (ti := 331) (tp := 404) (te := 406) (ts := 9) (g := 2) h.tail.tail.tail.tail (by kernel_rfl) (by kernel_rfl) Tryz.underlying331 rowE Tryz.underlying404 Tryz.underlying406 rfl rfl (by kernel_rfl) (by kernel_rfl) (by kernel_rfl)
  obtain ⟨c0, arr2, el2, fr2, f0, g0⟩ := var_block (k := 2) (by kernel_rfl) v0
  obtain ⟨a1, s1, v1, -, -, -⟩ := laid_sentinel (ti := 331) (tp := 404) (te := 406) (ts := 9) (g := 3) h.tail.tail.tail (by kernel_rfl) (by kernel_rfl) Tryz.underlying331 rowE Tryz.underlying404 Tryz.underlying406 rfl rfl (by kernel_rfl) (by kernel_rfl) (by kernel_rfl)
  obtain ⟨c1, arr3, el3, fr3, f1, g1⟩ := var_block (k := 3) (by kernel_rfl) v1
  intro t ht
  rcases List.mem_cons.1 ht with rfl | ht
  · exact ⟨b1, arr1, el1, fr1, e1, by subst e2; rfl⟩
  rcases List.mem_cons.1 ht with rfl | ht
  · exact ⟨c0, arr2, el2, fr2, f0, _, _, by subst g0; rfl⟩
  rcases List.mem_cons.1 ht with rfl | ht
  · exact ⟨c1, arr3, el3, fr3, f1, _, _, by subst g1; rfl⟩
  · cases ht
set_option maxRecDepth 100000 in
theorem lifted (os : Os) (started : os.Started) (H : Type) (enc : TypeId × Value → H) :
    ReturnsInHanded {} Tryz.checked os 3 .any (fun w args => (Rows.fnExactSoundWorldSpec.pre enc Tryz.prog Tryz.f3 [] false w args ∧ laidMetH Tryz.prog Rows.fnExactSoundWorldRow.laid w) ∧ sizedMet enc Tryz.prog Tryz.f3 (OpenSpec.ofChange Rows.fnExactSoundWorldSpec) false w args) (Rows.fnExactSoundWorldSpec.post enc Tryz.prog Tryz.f3 false true false false) := by
  refine returnsInHanded_of_change_and (C := Tryz.checked) (X := fun w _ => laidMetH Tryz.prog Rows.fnExactSoundWorldRow.laid w) (fun _ _ _ hh h => h.of_heap hh) own started (by kernel_rfl) Tryz.func3
    (ChangeSpec.witness_shaped (enc := enc) (C := Tryz.checked) (os := os) (X := fun w _ => laidMetH Tryz.prog Rows.fnExactSoundWorldRow.laid w) false (World.doorLaid Tryz.prog 62 os) #[.agg #[.int .i64 0, .int .i64 0, .slice none 0 0, .slice none 0 0, .slice none 0 0, .slice none 0 0, .slice none 0 0, .slice none 0 0, .slice none 0 0]] 20 rfl (World.shaped_of_RefB (by kernel_rfl) (by kernel_rfl)) (by kernel_rfl) (by kernel_rfl) (by kernel_rfl) (door_met os _)) ?_
  intro W base args ds gs before hval0 hW _ _ hL _
  have hval : ∀ (j : Nat) t v, Tryz.f3.params[j]? = some t → args[j]? = some v → Value.okWide Tryz.prog W .any base t v := hval0
  have hW' := hW
  obtain ⟨p, q, hA0, hV, rfl, hfz, hnd⟩ := hW
  have hA : DataW.TrodAll enc Tryz.prog W 0 (fun _ => true) true Tryz.f3.params.toList args.toList ds p := hA0
  rw [Tryz.params3] at hA hval
  obtain ⟨v0, vs0, d0, ds0, p0, q0, hargs, rfl, rfl, h0, r0⟩ := trodAll_cons hA
  obtain ⟨rfl, rfl, rfl⟩ := trodAll_nil r0
  obtain rfl : args = #[v0] := by cases args; simp_all
  obtain ⟨rfl, rfl⟩ := trodVars_none hV
  have lt0 : ∀ x ∈ p0, x.block < W.heap.size := by obtain ⟨m, hm⟩ := h0; exact DataW.trod_lt m _ _ _ hm
  obtain ⟨t0, s0, e0⟩ := Go.Am.arg_rep 20 (hval 0 30 v0 rfl rfl) h0 (by kernel_rfl)
  clear hA0 hval0
  refine (Go.Am.ACall.law (Go.Proofs.Wb.law_FnExactSoundWorld t0 s0) rfl (by simp only [Go.Am.RepRow]; exact ⟨_, [], [], rfl, e0, rfl, rfl⟩) (inv_of hL)).mono fun e W' ⟨he, bel⟩ => ?_
  subst he
  exact ⟨_, rfl, _, _, _, [], _, [], hW', trodAll_mk1 (shut_bool Tryz.underlying4 _), (trodAll_cons_mk (Below.trod laidOut (by kernel_rfl) (of_decide_eq_true (by kernel_rfl)) h0 bel lt0) trodAll_mk0), rfl, bel.frame _, fun h => by cases h⟩
theorem and_t {a b : Bool} (h : a = true) (k : b = true) : (a && b) = true := by rw [h, k]; rfl
set_option maxHeartbeats 0 in
theorem closed : joinedFacts Tryz.pinned.checked.prog 3 Tryz.f3 Rows.fnExactSoundWorldSpec Rows.fnExactSoundWorldRow = true := by
  unfold joinedFacts
  repeat' (with_reducible refine and_t ?_ ?_)
  all_goals (as_aux_lemma => kernel_rfl)
theorem over : Rows.fnExactSoundWorldRow.holds Tryz.pinned (OpenSpec.ofChange Rows.fnExactSoundWorldSpec) :=
  OpenClaim.holds_of_wide 3 Tryz.f3 rfl rfl rfl rfl rfl rfl rfl ⟨rfl, rfl, rfl, rfl, rfl⟩ rfl rfl rfl rfl rfl (by kernel_rfl) Tryz.func3 closed
    (of_decide_eq_true (by kernel_rfl)) (by unfold Func.isWrapper; first | (rw [if_pos (by decide +kernel)]; kernel_rfl) | (rw [if_neg (by decide +kernel)]; exact ⟨rfl, rfl⟩))
    (fun os started H enc _ => lifted os started H enc)
end Go.Proofs.YthfpgpkdankdjaaGreatDoor.fnExactSoundWorld
namespace Go.Proofs.YthfpgpkdankdjaaGreatDoor
theorem fnExactSoundWorld_holds : Rows.FnExactSoundWorldSaid := fnExactSoundWorld.over
end Go.Proofs.YthfpgpkdankdjaaGreatDoor

/- The law FnExactFindOrder returns true for every input and leaves its arguments as they were. The tables of the library that its row lists hold what the program's text lays (the card ties them). No other conditions. -/
import Derived.Test.YtoelnhjecaellaaGreatDoorCards
import Derived.Test.YtoelnhjecaellaaGreatDoorTie
import Derived.WalkKit
import Derived.ProofKit
import Derived.OpenShut
import Derived.ShutString
import Derived.ChangeOld
import Derived.Below
import Derived.LaidMore
import Derived.Stop.Joined
import Derived.Stop.LaidErr
import Derived.SevenTiedAt
import Derived.Lib.LaidTab
import Derived.Lib.ItoaNum
import Derived.Test.YtoelnhjecaellaaGreatDoorKFnExactFindOrder
import Derived.Test.YtoelnhjecaellaaGreatDoorAmRead
set_option linter.unusedSimpArgs false
set_option linter.unusedVariables false
set_option linter.unusedSectionVars false
namespace Go.Proofs.YtoelnhjecaellaaGreatDoor.fnExactFindOrder
open Go.ChangeShapes Go.WideShapes Go.ChangeAt Go.RowKit
open Go.ChangeMaps (open_string shut_string)
theorem own : ownKnob Tryz.prog.godebug = none := by kernel_rfl
theorem laidOut : laidOutB Tryz.prog = true := by kernel_rfl
theorem door_met (os : Os) (args : Array Value) : laidMetH Tryz.prog Rows.fnExactFindOrderRow.laid ((World.doorLaid Tryz.prog 62 os).forCall (fun _ _ => 0) ⟨#[], args, []⟩).memory :=
  laidMetH_of_parts3 (fuel := 8) (laidMet_of_run' 8 (by kernel_rfl) (by kernel_rfl)) (by kernel_rfl) (by kernel_rfl)
theorem var_block {P : Program} {w : World} {name : String} {k : Nat} {cs : Array Value} (hg : P.globalNamed name = some k) (h : w.var? P name = some cs) : k < w.heap.size ∧ ∃ arr el fr, w.heap[k]? = some (.cells arr el fr) ∧ arr = cs := by
  unfold World.var? at h
  rw [hg, Option.bind_some] at h
  split at h
  · rename_i c el fr he
    have h2 := Option.some.inj h
    exact ⟨(Array.getElem?_eq_some_iff.1 he).1, _, _, _, he, h2⟩
  · cases h
/-- What the condition gives the walks. -/
theorem inv_of {w : World} (h : laidMetH Tryz.prog Rows.fnExactFindOrderRow.laid w) : Go.Am.Inv w fun b => b < w.heap.size := by
  rw [MakeChecks.laidMetH_plain _ _ _ (by kernel_rfl)] at h
  have h1 := Lib.tabIs_of_head (name := "internal/strconv.uint64pow10") (k := .u64) (zs := Lib.pow10Tab) (g := 0) (t := 128) (e := 115) (n := 20) (by kernel_rfl) (by kernel_rfl) (by kernel_rfl) (by kernel_rfl) (by kernel_rfl) (by kernel_rfl) h.tail.tail
  obtain ⟨b1, arr1, el1, fr1, e1, e2⟩ := var_block (k := 0) (by kernel_rfl) h1
  intro t ht
  rcases List.mem_cons.1 ht with rfl | ht
  · exact ⟨b1, arr1, el1, fr1, e1, by subst e2; rfl⟩
  · cases ht
set_option maxRecDepth 100000 in
theorem lifted (os : Os) (started : os.Started) (H : Type) (enc : TypeId × Value → H) :
    ReturnsInHanded {} Tryz.checked os 3 .any (fun w args => (Rows.fnExactFindOrderSpec.pre enc Tryz.prog Tryz.f3 [] false w args ∧ laidMetH Tryz.prog Rows.fnExactFindOrderRow.laid w) ∧ sizedMet enc Tryz.prog Tryz.f3 (OpenSpec.ofChange Rows.fnExactFindOrderSpec) false w args) (Rows.fnExactFindOrderSpec.post enc Tryz.prog Tryz.f3 false true false false) := by
  refine returnsInHanded_of_change_and (C := Tryz.checked) (X := fun w _ => laidMetH Tryz.prog Rows.fnExactFindOrderRow.laid w) (fun _ _ _ hh h => h.of_heap hh) own started (by kernel_rfl) Tryz.func3
    (ChangeSpec.witness_shaped (enc := enc) (C := Tryz.checked) (os := os) (X := fun w _ => laidMetH Tryz.prog Rows.fnExactFindOrderRow.laid w) false (World.doorLaid Tryz.prog 62 os) #[.slice none 0 0] 20 rfl (World.shaped_of_RefB (by kernel_rfl) (by kernel_rfl)) (by kernel_rfl) (by kernel_rfl) (by kernel_rfl) (door_met os _)) ?_
  intro W base args ds gs before hval0 hW _ _ hL _
  have hval : ∀ (j : Nat) t v, Tryz.f3.params[j]? = some t → args[j]? = some v → Value.okWide Tryz.prog W .any base t v := hval0
  have hW' := hW
  obtain ⟨p, q, hA0, hV, rfl, hfz, hnd⟩ := hW
  have hA : DataW.TrodAll enc Tryz.prog W 0 (fun _ => true) true Tryz.f3.params.toList args.toList ds p := hA0
  rw [Tryz.params3] at hA hval
  obtain ⟨v0, vs0, d0, ds0, p0, q0, hargs, rfl, rfl, h0, r0⟩ := trodAll_cons hA
  obtain ⟨rfl, rfl, rfl⟩ := trodAll_nil r0
  obtain rfl : args = #[v0] := by cases args; simp_all
  obtain ⟨rfl, rfl⟩ := trodVars_none hV
  have lt0 : ∀ x ∈ p0, x.block < W.heap.size := by obtain ⟨m, hm⟩ := h0; exact DataW.trod_lt m _ _ _ hm
  obtain ⟨t0, s0, e0⟩ := Go.Am.arg_rep 20 (hval 0 22 v0 rfl rfl) h0 (by kernel_rfl)
  clear hA0 hval0
  refine (Go.Am.ACall.law (Go.Proofs.Wb.law_FnExactFindOrder t0 s0) rfl (by simp only [Go.Am.RepRow]; exact ⟨_, [], [], rfl, e0, rfl, rfl⟩) (inv_of hL)).mono fun e W' ⟨he, bel⟩ => ?_
  subst he
  exact ⟨_, rfl, _, _, _, [], _, [], hW', trodAll_mk1 (shut_bool Tryz.underlying4 _), (trodAll_cons_mk (Below.trod laidOut (by kernel_rfl) (of_decide_eq_true (by kernel_rfl)) h0 bel lt0) trodAll_mk0), rfl, bel.frame _, fun h => by cases h⟩
theorem and_t {a b : Bool} (h : a = true) (k : b = true) : (a && b) = true := by rw [h, k]; rfl
set_option maxHeartbeats 0 in
theorem closed : joinedFacts Tryz.pinned.checked.prog 3 Tryz.f3 Rows.fnExactFindOrderSpec Rows.fnExactFindOrderRow = true := by
  unfold joinedFacts
  repeat' (with_reducible refine and_t ?_ ?_)
  all_goals (as_aux_lemma => kernel_rfl)
theorem over : Rows.fnExactFindOrderRow.holds Tryz.pinned (OpenSpec.ofChange Rows.fnExactFindOrderSpec) :=
  OpenClaim.holds_of_wide 3 Tryz.f3 rfl rfl rfl rfl rfl rfl rfl ⟨rfl, rfl, rfl, rfl, rfl⟩ rfl rfl rfl rfl rfl (by kernel_rfl) Tryz.func3 closed
    (of_decide_eq_true (by kernel_rfl)) (by unfold Func.isWrapper; first | (rw [if_pos (by decide +kernel)]; kernel_rfl) | (rw [if_neg (by decide +kernel)]; exact ⟨rfl, rfl⟩))
    (fun os started H enc _ => lifted os started H enc)
end Go.Proofs.YtoelnhjecaellaaGreatDoor.fnExactFindOrder
namespace Go.Proofs.YtoelnhjecaellaaGreatDoor
theorem fnExactFindOrder_holds : Rows.FnExactFindOrderSaid := fnExactFindOrder.over
theorem fnExactFindOrderCard_holds : Rows.FnExactFindOrderCardSaid :=
  Claim7.holds_tied_plain_at .later [] [.data, .data, .data] true (true, "88e7ab7062247150917f85290b13659aabedd22c19755739ae83408d9b0a7d61") false
    fnExactFindOrder_holds (fun _ h => by cases h) (by kernel_rfl) (fun _ h => by cases h) fnExactFindOrder_row_tie rfl ⟨rfl, rfl⟩ (by kernel_rfl) rfl
    (fun f fn hf hfn => by
      obtain rfl : f = 3 := Option.some.inj ((show Tryz.prog.funcNamed "loop.example/g00850/laws.FnExactFindOrder" = some 3 by kernel_rfl).symm.trans hf) |>.symm
      obtain rfl : fn = Tryz.f3 := (Option.some.inj (Tryz.func3.symm.trans hfn)).symm
      exact ⟨by kernel_rfl, fun j t ht => by
        rw [Tryz.params3] at ht
        have hm : t ∈ [22] := by simpa using Array.mem_of_getElem? ht
        have hall : ([22].all fun u => !Tryz.prog.wantsStandIn u) = true := by kernel_rfl
        exact (show Tryz.prog.wantsStandIn t = false by simpa using List.all_eq_true.1 hall t hm)⟩)
    (by kernel_rfl)
end Go.Proofs.YtoelnhjecaellaaGreatDoor

/- The law FnExactSnapSum returns true for every input and leaves its arguments as they were. The tables of the library that its row lists hold what the program's text lays (the card ties them). No other conditions. -/
import Derived.Test.YthaildflhjfikaaGreatDoorCards
import Derived.Test.YthaildflhjfikaaGreatDoorTie
import Derived.WalkKit
import Derived.ProofKit
import Derived.OpenShut
import Derived.ShutString
import Derived.ChangeOld
import Derived.Below
import Derived.LaidMore
import Derived.Stop.Joined
import Derived.Stop.LaidErr
import Derived.SevenTiedAt
import Derived.Lib.LaidTab
import Derived.Lib.ItoaNum
import Derived.Test.YthaildflhjfikaaGreatDoorKFnExactSnapSum
import Derived.Test.YthaildflhjfikaaGreatDoorAmRead
set_option linter.all false
namespace Go.Proofs.YthaildflhjfikaaGreatDoor.fnExactSnapSum
open Go.ChangeShapes Go.WideShapes Go.ChangeAt Go.RowKit
open Go.ChangeMaps (open_string shut_string)
theorem own : ownKnob Tryz.prog.godebug = none := by kernel_rfl
theorem laidOut : laidOutB Tryz.prog = true := by kernel_rfl
theorem door_met (os : Os) (args : Array Value) : laidMetH Tryz.prog Rows.fnExactSnapSumRow.laid ((World.doorLaid Tryz.prog 62 os).forCall (fun _ _ => 0) ⟨#[], args, []⟩).memory :=
  laidMetH_of_parts3 (fuel := 8) (laidMet_of_run' 8 (by kernel_rfl) (by kernel_rfl)) (by kernel_rfl) (by kernel_rfl)
theorem var_block {P : Program} {w : World} {name : String} {k : Nat} {cs : Array Value} (hg : P.globalNamed name = some k) (h : w.var? P name = some cs) : k < w.heap.size ∧ ∃ arr el fr, w.heap[k]? = some (.cells arr el fr) ∧ arr = cs := by
  unfold World.var? at h
  rw [hg, Option.bind_some] at h
  split at h
  · rename_i c el fr he
    have h2 := Option.some.inj h
    exact ⟨(Array.getElem?_eq_some_iff.1 he).1, _, _, _, he, h2⟩
  · cases h
theorem star : "*" ++ "errors.errorString" = "*errors.errorString" := by decide
theorem rowE (u : TypeId) (h : Tryz.prog.typeName? 3 u = some "*errors.errorString") : u = 305 :=
  typeName_ptr_named (nm := "errors.errorString") (by rw [star]; kernel_rfl) (by kernel_rfl) (by decide) u (by rw [star]; exact h)
/-- What the condition gives the walks. -/
theorem inv_of {w : World} (h : laidMetH Tryz.prog Rows.fnExactSnapSumRow.laid w) : Go.Am.Inv w fun b => b < w.heap.size := by
  rw [MakeChecks.laidMetH_plain _ _ _ (by kernel_rfl)] at h
  have h1 := Lib.tabIs_of_head (name := "internal/strconv.uint64pow10") (k := .u64) (zs := Lib.pow10Tab) (g := 2) (t := 310) (e := 264) (n := 20) (by kernel_rfl) (by kernel_rfl) (by kernel_rfl) (by kernel_rfl) (by kernel_rfl) (by kernel_rfl) h.tail.tail
  obtain ⟨b1, arr1, el1, fr1, e1, e2⟩ := var_block (k := 2) (by kernel_rfl) h1
  obtain ⟨a0, s0, v0, -, -, -⟩ := laid_sentinel (ti := 152) (tp := 305) (te := 307) (ts := 9) (g := 0) h.tail.tail.tail.tail (by kernel_rfl) (by kernel_rfl) Tryz.underlying152 rowE Tryz.underlying305 Tryz.underlying307 rfl rfl (by kernel_rfl) (by kernel_rfl) (by kernel_rfl)
  obtain ⟨c0, arr2, el2, fr2, f0, g0⟩ := var_block (k := 0) (by kernel_rfl) v0
  obtain ⟨a1, s1, v1, -, -, -⟩ := laid_sentinel (ti := 152) (tp := 305) (te := 307) (ts := 9) (g := 1) h.tail.tail.tail (by kernel_rfl) (by kernel_rfl) Tryz.underlying152 rowE Tryz.underlying305 Tryz.underlying307 rfl rfl (by kernel_rfl) (by kernel_rfl) (by kernel_rfl)
  obtain ⟨c1, arr3, el3, fr3, f1, g1⟩ := var_block (k := 1) (by kernel_rfl) v1
  intro t ht
  rcases List.mem_cons.1 ht with rfl | ht
  · exact ⟨b1, arr1, el1, fr1, e1, by subst e2; rfl⟩
  rcases List.mem_cons.1 ht with rfl | ht
  · exact ⟨c0, arr2, el2, fr2, f0, _, _, by subst g0; rfl⟩
  rcases List.mem_cons.1 ht with rfl | ht
  · exact ⟨c1, arr3, el3, fr3, f1, _, _, by subst g1; rfl⟩
  · cases ht
set_option maxRecDepth 100000 in
theorem lifted (os : Os) (started : os.Started) (H : Type) (enc : TypeId × Value → H) :
    ReturnsInHanded {} Tryz.checked os 3 .any (fun w args => (Rows.fnExactSnapSumSpec.pre enc Tryz.prog Tryz.f3 [] false w args ∧ laidMetH Tryz.prog Rows.fnExactSnapSumRow.laid w) ∧ sizedMet enc Tryz.prog Tryz.f3 (OpenSpec.ofChange Rows.fnExactSnapSumSpec) false w args) (Rows.fnExactSnapSumSpec.post enc Tryz.prog Tryz.f3 false true false false) := by
  refine returnsInHanded_of_change_and (C := Tryz.checked) (X := fun w _ => laidMetH Tryz.prog Rows.fnExactSnapSumRow.laid w) (fun _ _ _ hh h => h.of_heap hh) own started (by kernel_rfl) Tryz.func3
    (ChangeSpec.witness_shaped (enc := enc) (C := Tryz.checked) (os := os) (X := fun w _ => laidMetH Tryz.prog Rows.fnExactSnapSumRow.laid w) false (World.doorLaid Tryz.prog 62 os) #[.agg #[.int .i64 0, .int .i64 0, .slice none 0 0, .slice none 0 0, .slice none 0 0, .slice none 0 0, .slice none 0 0, .slice none 0 0, .slice none 0 0], .int .i64 0] 20 rfl (World.shaped_of_RefB (by kernel_rfl) (by kernel_rfl)) (by kernel_rfl) (by kernel_rfl) (by kernel_rfl) (door_met os _)) ?_
  intro W base args ds gs before hval0 hW _ _ hL _
  have hval : ∀ (j : Nat) t v, Tryz.f3.params[j]? = some t → args[j]? = some v → Value.okWide Tryz.prog W .any base t v := hval0
  have hW' := hW
  obtain ⟨p, q, hA0, hV, rfl, hfz, hnd⟩ := hW
  have hA : DataW.TrodAll enc Tryz.prog W 0 (fun _ => true) true Tryz.f3.params.toList args.toList ds p := hA0
  rw [Tryz.params3] at hA hval
  obtain ⟨v0, vs0, d0, ds0, p0, q0, hargs, rfl, rfl, h0, r0⟩ := trodAll_cons hA
  obtain ⟨v1, vs1, d1, ds1, p1, q1, rfl, rfl, rfl, h1, r1⟩ := trodAll_cons r0
  obtain ⟨rfl, rfl, rfl⟩ := trodAll_nil r1
  obtain rfl : args = #[v0, v1] := by cases args; simp_all
  obtain ⟨rfl, rfl⟩ := trodVars_none hV
  have lt0 : ∀ x ∈ p0, x.block < W.heap.size := by obtain ⟨m, hm⟩ := h0; exact DataW.trod_lt m _ _ _ hm
  obtain ⟨t0, s0, e0⟩ := Go.Am.arg_rep 20 (hval 0 30 v0 rfl rfl) h0 (by kernel_rfl)
  have lt1 : ∀ x ∈ p1, x.block < W.heap.size := by obtain ⟨m, hm⟩ := h1; exact DataW.trod_lt m _ _ _ hm
  obtain ⟨t1, s1, e1⟩ := Go.Am.arg_rep 20 (hval 1 3 v1 rfl rfl) h1 (by kernel_rfl)
  clear hA0 hval0
  refine (Go.Am.ACall.law (Go.Proofs.Wb.law_FnExactSnapSum t0 t1 s0 s1) rfl (by simp only [Go.Am.RepRow]; exact ⟨_, [], [], rfl, e0, ⟨_, [], [], rfl, e1, rfl, rfl⟩, rfl⟩) (inv_of hL)).mono fun e W' ⟨he, bel⟩ => ?_
  subst he
  exact ⟨_, rfl, _, _, _, [], _, [], hW', trodAll_mk1 (shut_bool Tryz.underlying4 _), (trodAll_cons_mk (Below.trod laidOut (by kernel_rfl) (of_decide_eq_true (by kernel_rfl)) h0 bel lt0) (trodAll_cons_mk (Below.trod laidOut (by kernel_rfl) (of_decide_eq_true (by kernel_rfl)) h1 bel lt1) trodAll_mk0)), rfl, bel.frame _, fun h => by cases h⟩
theorem and_t {a b : Bool} (h : a = true) (k : b = true) : (a && b) = true := by rw [h, k]; rfl
set_option maxHeartbeats 0 in
theorem closed : joinedFacts Tryz.pinned.checked.prog 3 Tryz.f3 Rows.fnExactSnapSumSpec Rows.fnExactSnapSumRow = true := by
  unfold joinedFacts
  repeat' (with_reducible refine and_t ?_ ?_)
  all_goals (as_aux_lemma => kernel_rfl)
theorem over : Rows.fnExactSnapSumRow.holds Tryz.pinned (OpenSpec.ofChange Rows.fnExactSnapSumSpec) :=
  OpenClaim.holds_of_wide 3 Tryz.f3 rfl rfl rfl rfl rfl rfl rfl ⟨rfl, rfl, rfl, rfl, rfl⟩ rfl rfl rfl rfl rfl (by kernel_rfl) Tryz.func3 closed
    (of_decide_eq_true (by kernel_rfl)) (by unfold Func.isWrapper; first | (rw [if_pos (by decide +kernel)]; kernel_rfl) | (rw [if_neg (by decide +kernel)]; exact ⟨rfl, rfl⟩))
    (fun os started H enc _ => lifted os started H enc)
end Go.Proofs.YthaildflhjfikaaGreatDoor.fnExactSnapSum
namespace Go.Proofs.YthaildflhjfikaaGreatDoor
theorem fnExactSnapSum_holds : Rows.FnExactSnapSumSaid := fnExactSnapSum.over
theorem fnExactSnapSumCard_holds : Rows.FnExactSnapSumCardSaid :=
  Claim7.holds_tied_plain_at .later [] [.data, .data, .data, .sentinel, .sentinel] true (true, "e64610570f76abbbe9aba10a13522497885f1597cb6b2572ffb2672e3ce31e64") true
    fnExactSnapSum_holds (fun _ h => by cases h) (by kernel_rfl) (fun _ h => by cases h) fnExactSnapSum_row_tie rfl ⟨rfl, rfl⟩ (by kernel_rfl) rfl
    (fun f fn hf hfn => by
      obtain rfl : f = 3 := Option.some.inj ((show Tryz.prog.funcNamed "loop.example/g00850/laws.FnExactSnapSum" = some 3 by kernel_rfl).symm.trans hf) |>.symm
      obtain rfl : fn = Tryz.f3 := (Option.some.inj (Tryz.func3.symm.trans hfn)).symm
      exact ⟨by kernel_rfl, fun j t ht => by
        rw [Tryz.params3] at ht
        have hm : t ∈ [30, 3] := by simpa using Array.mem_of_getElem? ht
        have hall : ([30, 3].all fun u => !Tryz.prog.wantsStandIn u) = true := by kernel_rfl
        exact (show Tryz.prog.wantsStandIn t = false by simpa using List.all_eq_true.1 hall t hm)⟩)
    (by kernel_rfl)
end Go.Proofs.YthaildflhjfikaaGreatDoor

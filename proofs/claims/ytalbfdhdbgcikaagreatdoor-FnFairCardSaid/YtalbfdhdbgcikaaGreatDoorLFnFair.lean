/- The law FnFair returns true for every input and leaves its arguments as they were. The tables of the library that its row lists hold what the program's text lays (the card ties them). No other conditions. -/
import Derived.Test.YtalbfdhdbgcikaaGreatDoorCards
import Derived.Test.YtalbfdhdbgcikaaGreatDoorTie
import Derived.WalkKit
import Derived.ProofKit
import Derived.OpenShut
import Derived.ShutString
import Derived.ChangeOld
import Derived.Below
import Derived.LaidMore
import Derived.Stop.Joined
import Derived.Stop.LaidErr
import Derived.SevenTiedAt
import Derived.Lib.LaidTab
import Derived.Lib.ItoaNum
import Derived.Test.YtalbfdhdbgcikaaGreatDoorKFnFair
import Derived.Test.YtalbfdhdbgcikaaGreatDoorAmRead
set_option linter.unusedSimpArgs false
set_option linter.unusedVariables false
set_option linter.unusedSectionVars false
namespace Go.Proofs.YtalbfdhdbgcikaaGreatDoor.fnFair
open Go.ChangeShapes Go.WideShapes Go.ChangeAt Go.RowKit
open Go.ChangeMaps (open_string shut_string)
theorem own : ownKnob Tryz.prog.godebug = none := by kernel_rfl
theorem laidOut : laidOutB Tryz.prog = true := by kernel_rfl
theorem door_met (os : Os) (args : Array Value) : laidMetH Tryz.prog Rows.fnFairRow.laid ((World.doorLaid Tryz.prog 62 os).forCall (fun _ _ => 0) ⟨#[], args, []⟩).memory :=
  laidMetH_of_parts3 (fuel := 8) (laidMet_of_run' 8 (by kernel_rfl) (by kernel_rfl)) (by kernel_rfl) (by kernel_rfl)
theorem var_block {P : Program} {w : World} {name : String} {k : Nat} {cs : Array Value} (hg : P.globalNamed name = some k) (h : w.var? P name = some cs) : k < w.heap.size ∧ ∃ arr el fr, w.heap[k]? = some (.cells arr el fr) ∧ arr = cs := by
  unfold World.var? at h
  rw [hg, Option.bind_some] at h
  split at h
  · rename_i c el fr he
    have h2 := Option.some.inj h
    exact ⟨(Array.getElem?_eq_some_iff.1 he).1, _, _, _, he, h2⟩
  · cases h
theorem star : "*" ++ "errors.errorString" = "*errors.errorString" := by decide
theorem rowE (u : TypeId) (h : Tryz.prog.typeName? 3 u = some "*errors.errorString") : u = 203 :=
  typeName_ptr_named (nm := "errors.errorString") (by rw [star]; kernel_rfl) (by kernel_rfl) (by decide) u (by rw [star]; exact h)
/-- What the condition gives the walks. -/
theorem inv_of {w : World} (h : laidMetH Tryz.prog Rows.fnFairRow.laid w) : Go.Am.Inv w fun b => b < w.heap.size := by
  rw [MakeChecks.laidMetH_plain _ _ _ (by kernel_rfl)] at h
  have h1 := Lib.tabIs_of_head (name := "internal/strconv.uint64pow10") (k := .u64) (zs := Lib.pow10Tab) (g := 0) (t := 189) (e := 162) (n := 20) (by kernel_rfl) (by kernel_rfl) (by kernel_rfl) (by kernel_rfl) (by kernel_rfl) (by kernel_rfl) h.tail.tail
  obtain ⟨b1, arr1, el1, fr1, e1, e2⟩ := var_block (k := 0) (by kernel_rfl) h1
  obtain ⟨a0, s0, v0, -, -, -⟩ := laid_sentinel (ti := 137) (tp := 203) (te := 205) (ts := 9) (g := 1) h.tail.tail.tail.tail (by kernel_rfl) (by kernel_rfl) Tryz.underlying137 rowE Tryz.underlying203 Tryz.underlying205 rfl rfl (by kernel_rfl) (by kernel_rfl) (by kernel_rfl)
  obtain ⟨c0, arr2, el2, fr2, f0, g0⟩ := var_block (k := 1) (by kernel_rfl) v0
  obtain ⟨a1, s1, v1, -, -, -⟩ := laid_sentinel (ti := 137) (tp := 203) (te := 205) (ts := 9) (g := 2) h.tail.tail.tail (by kernel_rfl) (by kernel_rfl) Tryz.underlying137 rowE Tryz.underlying203 Tryz.underlying205 rfl rfl (by kernel_rfl) (by kernel_rfl) (by kernel_rfl)
  obtain ⟨c1, arr3, el3, fr3, f1, g1⟩ := var_block (k := 2) (by kernel_rfl) v1
  intro t ht
  rcases List.mem_cons.1 ht with rfl | ht
  · exact ⟨b1, arr1, el1, fr1, e1, by subst e2; rfl⟩
  rcases List.mem_cons.1 ht with rfl | ht
  · exact ⟨c0, arr2, el2, fr2, f0, _, _, by subst g0; rfl⟩
  rcases List.mem_cons.1 ht with rfl | ht
  · exact ⟨c1, arr3, el3, fr3, f1, _, _, by subst g1; rfl⟩
  · cases ht
set_option maxRecDepth 100000 in
theorem lifted (os : Os) (started : os.Started) (H : Type) (enc : TypeId × Value → H) :
    ReturnsInHanded {} Tryz.checked os 7 .any (fun w args => (Rows.fnFairSpec.pre enc Tryz.prog Tryz.f7 [] false w args ∧ laidMetH Tryz.prog Rows.fnFairRow.laid w) ∧ sizedMet enc Tryz.prog Tryz.f7 (OpenSpec.ofChange Rows.fnFairSpec) false w args) (Rows.fnFairSpec.post enc Tryz.prog Tryz.f7 false true false false) := by
  refine returnsInHanded_of_change_and (C := Tryz.checked) (X := fun w _ => laidMetH Tryz.prog Rows.fnFairRow.laid w) (fun _ _ _ hh h => h.of_heap hh) own started (by kernel_rfl) Tryz.func7
    (ChangeSpec.witness_shaped (enc := enc) (C := Tryz.checked) (os := os) (X := fun w _ => laidMetH Tryz.prog Rows.fnFairRow.laid w) false (World.doorLaid Tryz.prog 62 os) #[.slice none 0 0] 20 rfl (World.shaped_of_RefB (by kernel_rfl) (by kernel_rfl)) (by kernel_rfl) (by kernel_rfl) (by kernel_rfl) (door_met os _)) ?_
  intro W base args ds gs before hval0 hW _ _ hL _
  have hval : ∀ (j : Nat) t v, Tryz.f7.params[j]? = some t → args[j]? = some v → Value.okWide Tryz.prog W .any base t v := hval0
  have hW' := hW
  obtain ⟨p, q, hA0, hV, rfl, hfz, hnd⟩ := hW
  have hA : DataW.TrodAll enc Tryz.prog W 0 (fun _ => true) true Tryz.f7.params.toList args.toList ds p := hA0
  rw [Tryz.params7] at hA hval
  obtain ⟨v0, vs0, d0, ds0, p0, q0, hargs, rfl, rfl, h0, r0⟩ := trodAll_cons hA
  obtain ⟨rfl, rfl, rfl⟩ := trodAll_nil r0
  obtain rfl : args = #[v0] := by cases args; simp_all
  obtain ⟨rfl, rfl⟩ := trodVars_none hV
  have lt0 : ∀ x ∈ p0, x.block < W.heap.size := by obtain ⟨m, hm⟩ := h0; exact DataW.trod_lt m _ _ _ hm
  obtain ⟨t0, s0, e0⟩ := Go.Am.arg_rep 20 (hval 0 44 v0 rfl rfl) h0 (by kernel_rfl)
  clear hA0 hval0
  refine (Go.Am.ACall.law (Go.Proofs.Wb.law_FnFair t0 s0) rfl (by simp only [Go.Am.RepRow]; exact ⟨_, [], [], rfl, e0, rfl, rfl⟩) (inv_of hL)).mono fun e W' ⟨he, bel⟩ => ?_
  subst he
  exact ⟨_, rfl, _, _, _, [], _, [], hW', trodAll_mk1 (shut_bool Tryz.underlying4 _), (trodAll_cons_mk (Below.trod laidOut (by kernel_rfl) (of_decide_eq_true (by kernel_rfl)) h0 bel lt0) trodAll_mk0), rfl, bel.frame _, fun h => by cases h⟩
theorem and_t {a b : Bool} (h : a = true) (k : b = true) : (a && b) = true := by rw [h, k]; rfl
set_option maxHeartbeats 0 in
theorem closed : joinedFacts Tryz.pinned.checked.prog 7 Tryz.f7 Rows.fnFairSpec Rows.fnFairRow = true := by
  unfold joinedFacts
  repeat' (with_reducible refine and_t ?_ ?_)
  all_goals (as_aux_lemma => kernel_rfl)
theorem over : Rows.fnFairRow.holds Tryz.pinned (OpenSpec.ofChange Rows.fnFairSpec) :=
  OpenClaim.holds_of_wide 7 Tryz.f7 rfl rfl rfl rfl rfl rfl rfl ⟨rfl, rfl, rfl, rfl, rfl⟩ rfl rfl rfl rfl rfl (by kernel_rfl) Tryz.func7 closed
    (of_decide_eq_true (by kernel_rfl)) (by unfold Func.isWrapper; first | (rw [if_pos (by decide +kernel)]; kernel_rfl) | (rw [if_neg (by decide +kernel)]; exact ⟨rfl, rfl⟩))
    (fun os started H enc _ => lifted os started H enc)
end Go.Proofs.YtalbfdhdbgcikaaGreatDoor.fnFair
namespace Go.Proofs.YtalbfdhdbgcikaaGreatDoor
theorem fnFair_holds : Rows.FnFairSaid := fnFair.over
theorem fnFairCard_holds : Rows.FnFairCardSaid :=
  Claim7.holds_tied_plain_at .later [] [.data, .data, .data, .sentinel, .sentinel] true (true, "a9d69b8e6b313846c687df7892155e6e207f5f708f11191c5a2d343658c0627c") true
    fnFair_holds (fun _ h => by cases h) (by kernel_rfl) (fun _ h => by cases h) fnFair_row_tie rfl ⟨rfl, rfl⟩ (by kernel_rfl) rfl
    (fun f fn hf hfn => by
      obtain rfl : f = 7 := Option.some.inj ((show Tryz.prog.funcNamed "loop.example/g00850/laws.FnFair" = some 7 by kernel_rfl).symm.trans hf) |>.symm
      obtain rfl : fn = Tryz.f7 := (Option.some.inj (Tryz.func7.symm.trans hfn)).symm
      exact ⟨by kernel_rfl, fun j t ht => by
        rw [Tryz.params7] at ht
        have hm : t ∈ [44] := by simpa using Array.mem_of_getElem? ht
        have hall : ([44].all fun u => !Tryz.prog.wantsStandIn u) = true := by kernel_rfl
        exact (show Tryz.prog.wantsStandIn t = false by simpa using List.all_eq_true.1 hall t hm)⟩)
    (by kernel_rfl)
end Go.Proofs.YtalbfdhdbgcikaaGreatDoor

/- The law FnExactSoundWorld returns true for every input and leaves its arguments as they were. The tables of the library that its row lists hold what the program's text lays (the card ties them). No other conditions. -/
import Derived.Test.YthfpgpkdankdjaaGreatDoorCards
import Derived.Test.YthfpgpkdankdjaaGreatDoorTie
import Derived.WalkKit
import Derived.ProofKit
import Derived.OpenShut
import Derived.ShutString
import Derived.ChangeOld
import Derived.Below
import Derived.LaidMore
import Derived.Stop.Joined
import Derived.Stop.LaidErr
import Derived.SevenTiedAt
import Derived.Lib.LaidTab
import Derived.Lib.ItoaNum
import Derived.Test.YthfpgpkdankdjaaGreatDoorOFnExactSoundWorld
set_option linter.all false
namespace Go.Proofs.YthfpgpkdankdjaaGreatDoor
theorem fnExactSoundWorldCard_holds : Rows.FnExactSoundWorldCardSaid :=
  Claim7.holds_tied_plain_at .later [] [.data, .data, .data, .sentinel, .sentinel] true (true, "1b916117024bfc09b178c0652d315ad32045aebad95986f49e6a8c926223726c") true
    fnExactSoundWorld_holds (fun _ h => by cases h) (by as_aux_lemma => kernel_rfl) (fun _ h => by cases h) fnExactSoundWorld_row_tie rfl ⟨rfl, rfl⟩ (by as_aux_lemma => kernel_rfl) rfl
    (fun f fn hf hfn => by
      obtain rfl : f = 3 := Option.some.inj ((show Tryz.prog.funcNamed "loop.example/g00850/laws.FnExactSoundWorld" = some 3 by as_aux_lemma => kernel_rfl).symm.trans hf) |>.symm
      obtain rfl : fn = Tryz.f3 := (Option.some.inj (Tryz.func3.symm.trans hfn)).symm
      exact ⟨by as_aux_lemma => kernel_rfl, fun j t ht => by
        rw [Tryz.params3] at ht
        have hm : t ∈ [30] := by simpa using Array.mem_of_getElem? ht
        have hall : ([30].all fun u => !Tryz.prog.wantsStandIn u) = true := by as_aux_lemma => kernel_rfl
        exact (show Tryz.prog.wantsStandIn t = false by simpa using List.all_eq_true.1 hall t hm)⟩)
    (by as_aux_lemma => kernel_rfl)
end Go.Proofs.YthfpgpkdankdjaaGreatDoor

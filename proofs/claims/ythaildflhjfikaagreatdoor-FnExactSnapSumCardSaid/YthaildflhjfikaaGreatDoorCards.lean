/-
  DERIVED. GIVEN WITH THE SEED: THE CARDS: each row of YthaildflhjfikaaGreatDoorRows.lean that lists a variable, with what it lists TIED to the program's text (the seventh form; the later family's looks); each row that meets fmt, with fmt's text TOLD by the authors' own Lean function (tested against real Go, not proved from fmt's source: count such statements apart). THE CARD IS WHAT COUNTS. Prove the row's statement (the work); the ties are given (YthaildflhjfikaaGreatDoorTie.lean); close each card by the builder's one call (the guide's Derived/Test/ToyasCard.lean, 'card_holds'). Laid BY PROGRAM, IN A SANDBOX (cutbox-door.mjs). By AI agents, Wed Nov 11 2026. No macro, syntax, notation, axiom, sorry.
-/
import Derived.Test.YthaildflhjfikaaGreatDoorRows
import GoSem.ClaimSeven
namespace Go.Proofs.YthaildflhjfikaaGreatDoor
namespace Rows

/-- THE TIED CARD OF 'laws.FnExactSnapSum'. -/
def fnExactSnapSumCard : Claim7 := { stood := { row := fnExactSnapSumRow, standIns := [], harness := (true, "e64610570f76abbbe9aba10a13522497885f1597cb6b2572ffb2672e3ce31e64"), looks := true }, kinds := [], alts := [], laidByText := true, laidKinds := [.data, .data, .data, .sentinel, .sentinel], laidTests := true, laidLooks := .later }
def FnExactSnapSumCardSaid : Prop := Claim7.holds Tryz.pinned (.plain (OpenSpec.ofChange fnExactSnapSumSpec)) fnExactSnapSumCard

/-- THE SECOND FORM's CARD OF 'laws.FnExactSnapSum'. -/
def fnExactSnapSumUptoCard : Claim7 := { stood := { row := fnExactSnapSumUptoRow, standIns := [], harness := (true, "e64610570f76abbbe9aba10a13522497885f1597cb6b2572ffb2672e3ce31e64"), looks := true }, kinds := [], alts := [], laidByText := true, laidKinds := [.data, .data, .data, .sentinel, .sentinel], laidTests := true, laidLooks := .later }
def FnExactSnapSumUptoCardSaid : Prop := Claim7.holds Tryz.pinned (.plain (OpenSpec.upto fnExactSnapSumSpec)) fnExactSnapSumUptoCard
end Rows
end Go.Proofs.YthaildflhjfikaaGreatDoor

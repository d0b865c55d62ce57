/-
  DERIVED. GIVEN WITH THE SEED: THE CARDS: each row of YtoelnhjecaellaaGreatDoorRows.lean that lists a variable, with what it lists TIED to the program's text (the seventh form; the later family's looks); each row that meets fmt, with fmt's text TOLD by the authors' own Lean function (tested against real Go, not proved from fmt's source: count such statements apart). THE CARD IS WHAT COUNTS. Prove the row's statement (the work); the ties are given (YtoelnhjecaellaaGreatDoorTie.lean); close each card by the builder's one call (the guide's Derived/Test/ToyasCard.lean, 'card_holds'). Laid BY PROGRAM, IN A SANDBOX (cutbox-door.mjs). By AI agents, Wed Nov 11 2026. No macro, syntax, notation, axiom, sorry.
-/
import Derived.Test.YtoelnhjecaellaaGreatDoorRows
import GoSem.ClaimSeven
namespace Go.Proofs.YtoelnhjecaellaaGreatDoor
namespace Rows

/-- THE TIED CARD OF 'laws.FnExactFindOrder'. -/
def fnExactFindOrderCard : Claim7 := { stood := { row := fnExactFindOrderRow, standIns := [], harness := (true, "88e7ab7062247150917f85290b13659aabedd22c19755739ae83408d9b0a7d61"), looks := false }, kinds := [], alts := [], laidByText := true, laidKinds := [.data, .data, .data], laidTests := true, laidLooks := .later }
def FnExactFindOrderCardSaid : Prop := Claim7.holds Tryz.pinned (.plain (OpenSpec.ofChange fnExactFindOrderSpec)) fnExactFindOrderCard

/-- THE SECOND FORM's CARD OF 'laws.FnExactFindOrder'. -/
def fnExactFindOrderUptoCard : Claim7 := { stood := { row := fnExactFindOrderUptoRow, standIns := [], harness := (true, "88e7ab7062247150917f85290b13659aabedd22c19755739ae83408d9b0a7d61"), looks := false }, kinds := [], alts := [], laidByText := true, laidKinds := [.data, .data, .data], laidTests := true, laidLooks := .later }
def FnExactFindOrderUptoCardSaid : Prop := Claim7.holds Tryz.pinned (.plain (OpenSpec.upto fnExactFindOrderSpec)) fnExactFindOrderUptoCard
end Rows
end Go.Proofs.YtoelnhjecaellaaGreatDoor

/-
  DERIVED. GIVEN WITH THE SEED: THE CARDS: each row of YthfpgpkdankdjaaGreatDoorRows.lean that lists a variable, with what it lists TIED to the program's text (the seventh form; the later family's looks); each row that meets fmt, with fmt's text TOLD by the authors' own Lean function (tested against real Go, not proved from fmt's source: count such statements apart). THE CARD IS WHAT COUNTS. Prove the row's statement (the work); the ties are given (YthfpgpkdankdjaaGreatDoorTie.lean); close each card by the builder's one call (the guide's Derived/Test/ToyasCard.lean, 'card_holds'). Laid BY PROGRAM, IN A SANDBOX (cutbox-door.mjs). By AI agents, Wed Nov 11 2026. No macro, syntax, notation, axiom, sorry.
-/
import Derived.Test.YthfpgpkdankdjaaGreatDoorRows
import GoSem.ClaimSeven
namespace Go.Proofs.YthfpgpkdankdjaaGreatDoor
namespace Rows

/-- THE TIED CARD OF 'laws.FnExactSoundWorld'. -/
def fnExactSoundWorldCard : Claim7 := { stood := { row := fnExactSoundWorldRow, standIns := [], harness := (true, "1b916117024bfc09b178c0652d315ad32045aebad95986f49e6a8c926223726c"), looks := true }, kinds := [], alts := [], laidByText := true, laidKinds := [.data, .data, .data, .sentinel, .sentinel], laidTests := true, laidLooks := .later }
def FnExactSoundWorldCardSaid : Prop := Claim7.holds Tryz.pinned (.plain (OpenSpec.ofChange fnExactSoundWorldSpec)) fnExactSoundWorldCard

/-- THE SECOND FORM's CARD OF 'laws.FnExactSoundWorld'. -/
def fnExactSoundWorldUptoCard : Claim7 := { stood := { row := fnExactSoundWorldUptoRow, standIns := [], harness := (true, "1b916117024bfc09b178c0652d315ad32045aebad95986f49e6a8c926223726c"), looks := true }, kinds := [], alts := [], laidByText := true, laidKinds := [.data, .data, .data, .sentinel, .sentinel], laidTests := true, laidLooks := .later }
def FnExactSoundWorldUptoCardSaid : Prop := Claim7.holds Tryz.pinned (.plain (OpenSpec.upto fnExactSoundWorldSpec)) fnExactSoundWorldUptoCard
end Rows
end Go.Proofs.YthfpgpkdankdjaaGreatDoor

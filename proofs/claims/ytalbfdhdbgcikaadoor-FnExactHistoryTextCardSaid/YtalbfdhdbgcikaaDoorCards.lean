/-
  DERIVED. GIVEN WITH THE SEED: THE CARDS: each row of YtalbfdhdbgcikaaDoorRows.lean that lists a variable, with what it lists TIED to the program's text (the seventh form; the later family's looks); each row that meets fmt, with fmt's text TOLD by the authors' own Lean function (tested against real Go, not proved from fmt's source: count such statements apart). THE CARD IS WHAT COUNTS. Prove the row's statement (the work); the ties are given (YtalbfdhdbgcikaaDoorTie.lean); close each card by the builder's one call (the guide's Derived/Test/ToyasCard.lean, 'card_holds'). Laid BY PROGRAM, IN A SANDBOX (cutbox-door.mjs). By AI agents, Wed Nov 11 2026. No macro, syntax, notation, axiom, sorry.
-/
import Derived.Test.YtalbfdhdbgcikaaDoorRows
import GoSem.ClaimSeven
namespace Go.Proofs.YtalbfdhdbgcikaaDoor
namespace Rows

/-- THE TIED CARD OF 'laws.FnExactHistoryText'. -/
def fnExactHistoryTextCard : Claim7 := { stood := { row := fnExactHistoryTextRow, standIns := [], harness := (true, "1363addf22b4b32aee9b332dbb04cf01bcd7c694b11a4fa99fcae273cdf7353a"), looks := false }, kinds := [], alts := [], laidByText := true, laidKinds := [.data, .data, .data], laidTests := true, laidLooks := .later }
def FnExactHistoryTextCardSaid : Prop := Claim7.holds Tryd.pinned (.plain (OpenSpec.ofChange fnExactHistoryTextSpec)) fnExactHistoryTextCard

/-- THE SECOND FORM's CARD OF 'laws.FnExactHistoryText'. -/
def fnExactHistoryTextUptoCard : Claim7 := { stood := { row := fnExactHistoryTextUptoRow, standIns := [], harness := (true, "1363addf22b4b32aee9b332dbb04cf01bcd7c694b11a4fa99fcae273cdf7353a"), looks := false }, kinds := [], alts := [], laidByText := true, laidKinds := [.data, .data, .data], laidTests := true, laidLooks := .later }
def FnExactHistoryTextUptoCardSaid : Prop := Claim7.holds Tryd.pinned (.plain (OpenSpec.upto fnExactHistoryTextSpec)) fnExactHistoryTextUptoCard
end Rows
end Go.Proofs.YtalbfdhdbgcikaaDoor

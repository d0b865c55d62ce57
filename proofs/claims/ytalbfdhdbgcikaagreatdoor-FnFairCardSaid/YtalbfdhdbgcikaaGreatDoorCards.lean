/-
  DERIVED. GIVEN WITH THE SEED: THE CARDS: each row of YtalbfdhdbgcikaaGreatDoorRows.lean that lists a variable, with what it lists TIED to the program's text (the seventh form; the later family's looks); each row that meets fmt, with fmt's text TOLD by the authors' own Lean function (tested against real Go, not proved from fmt's source: count such statements apart). THE CARD IS WHAT COUNTS. Prove the row's statement (the work); the ties are given (YtalbfdhdbgcikaaGreatDoorTie.lean); close each card by the builder's one call (the guide's Derived/Test/ToyasCard.lean, 'card_holds'). Laid BY PROGRAM, IN A SANDBOX (cutbox-door.mjs). By AI agents, Wed Nov 11 2026. No macro, syntax, notation, axiom, sorry.
-/
import Derived.Test.YtalbfdhdbgcikaaGreatDoorRows
import GoSem.ClaimSeven
namespace Go.Proofs.YtalbfdhdbgcikaaGreatDoor
namespace Rows

/-- THE TIED CARD OF 'laws.FnExactStandUp'. -/
def fnExactStandUpCard : Claim7 := { stood := { row := fnExactStandUpRow, standIns := [], harness := (true, "a9d69b8e6b313846c687df7892155e6e207f5f708f11191c5a2d343658c0627c"), looks := true }, kinds := [], alts := [], laidByText := true, laidKinds := [.data, .data, .data], laidTests := true, laidLooks := .later }
def FnExactStandUpCardSaid : Prop := Claim7.holds Tryz.pinned (.plain (OpenSpec.ofChange fnExactStandUpSpec)) fnExactStandUpCard

/-- THE TIED CARD OF 'laws.FnElected'. -/
def fnElectedCard : Claim7 := { stood := { row := fnElectedRow, standIns := [], harness := (true, "a9d69b8e6b313846c687df7892155e6e207f5f708f11191c5a2d343658c0627c"), looks := true }, kinds := [], alts := [], laidByText := true, laidKinds := [.data, .data, .data, .sentinel, .sentinel], laidTests := true, laidLooks := .later }
def FnElectedCardSaid : Prop := Claim7.holds Tryz.pinned (.plain (OpenSpec.ofChange fnElectedSpec)) fnElectedCard

/-- THE TIED CARD OF 'laws.FnExactTickPoll'. -/
def fnExactTickPollCard : Claim7 := { stood := { row := fnExactTickPollRow, standIns := [], harness := (true, "a9d69b8e6b313846c687df7892155e6e207f5f708f11191c5a2d343658c0627c"), looks := true }, kinds := [], alts := [], laidByText := true, laidKinds := [.data, .data, .data, .sentinel, .sentinel], laidTests := true, laidLooks := .later }
def FnExactTickPollCardSaid : Prop := Claim7.holds Tryz.pinned (.plain (OpenSpec.ofChange fnExactTickPollSpec)) fnExactTickPollCard

/-- THE TIED CARD OF 'laws.FnExactPlayPoll'. -/
def fnExactPlayPollCard : Claim7 := { stood := { row := fnExactPlayPollRow, standIns := [], harness := (true, "a9d69b8e6b313846c687df7892155e6e207f5f708f11191c5a2d343658c0627c"), looks := true }, kinds := [], alts := [], laidByText := true, laidKinds := [.data, .data, .data, .sentinel, .sentinel], laidTests := true, laidLooks := .later }
def FnExactPlayPollCardSaid : Prop := Claim7.holds Tryz.pinned (.plain (OpenSpec.ofChange fnExactPlayPollSpec)) fnExactPlayPollCard

/-- THE TIED CARD OF 'laws.FnFair'. -/
def fnFairCard : Claim7 := { stood := { row := fnFairRow, standIns := [], harness := (true, "a9d69b8e6b313846c687df7892155e6e207f5f708f11191c5a2d343658c0627c"), looks := true }, kinds := [], alts := [], laidByText := true, laidKinds := [.data, .data, .data, .sentinel, .sentinel], laidTests := true, laidLooks := .later }
def FnFairCardSaid : Prop := Claim7.holds Tryz.pinned (.plain (OpenSpec.ofChange fnFairSpec)) fnFairCard

/-- THE SECOND FORM's CARD OF 'laws.FnExactStandUp'. -/
def fnExactStandUpUptoCard : Claim7 := { stood := { row := fnExactStandUpUptoRow, standIns := [], harness := (true, "a9d69b8e6b313846c687df7892155e6e207f5f708f11191c5a2d343658c0627c"), looks := true }, kinds := [], alts := [], laidByText := true, laidKinds := [.data, .data, .data], laidTests := true, laidLooks := .later }
def FnExactStandUpUptoCardSaid : Prop := Claim7.holds Tryz.pinned (.plain (OpenSpec.upto fnExactStandUpSpec)) fnExactStandUpUptoCard

/-- THE SECOND FORM's CARD OF 'laws.FnElected'. -/
def fnElectedUptoCard : Claim7 := { stood := { row := fnElectedUptoRow, standIns := [], harness := (true, "a9d69b8e6b313846c687df7892155e6e207f5f708f11191c5a2d343658c0627c"), looks := true }, kinds := [], alts := [], laidByText := true, laidKinds := [.data, .data, .data, .sentinel, .sentinel], laidTests := true, laidLooks := .later }
def FnElectedUptoCardSaid : Prop := Claim7.holds Tryz.pinned (.plain (OpenSpec.upto fnElectedSpec)) fnElectedUptoCard

/-- THE SECOND FORM's CARD OF 'laws.FnExactTickPoll'. -/
def fnExactTickPollUptoCard : Claim7 := { stood := { row := fnExactTickPollUptoRow, standIns := [], harness := (true, "a9d69b8e6b313846c687df7892155e6e207f5f708f11191c5a2d343658c0627c"), looks := true }, kinds := [], alts := [], laidByText := true, laidKinds := [.data, .data, .data, .sentinel, .sentinel], laidTests := true, laidLooks := .later }
def FnExactTickPollUptoCardSaid : Prop := Claim7.holds Tryz.pinned (.plain (OpenSpec.upto fnExactTickPollSpec)) fnExactTickPollUptoCard

/-- THE SECOND FORM's CARD OF 'laws.FnExactPlayPoll'. -/
def fnExactPlayPollUptoCard : Claim7 := { stood := { row := fnExactPlayPollUptoRow, standIns := [], harness := (true, "a9d69b8e6b313846c687df7892155e6e207f5f708f11191c5a2d343658c0627c"), looks := true }, kinds := [], alts := [], laidByText := true, laidKinds := [.data, .data, .data, .sentinel, .sentinel], laidTests := true, laidLooks := .later }
def FnExactPlayPollUptoCardSaid : Prop := Claim7.holds Tryz.pinned (.plain (OpenSpec.upto fnExactPlayPollSpec)) fnExactPlayPollUptoCard

/-- THE SECOND FORM's CARD OF 'laws.FnFair'. -/
def fnFairUptoCard : Claim7 := { stood := { row := fnFairUptoRow, standIns := [], harness := (true, "a9d69b8e6b313846c687df7892155e6e207f5f708f11191c5a2d343658c0627c"), looks := true }, kinds := [], alts := [], laidByText := true, laidKinds := [.data, .data, .data, .sentinel, .sentinel], laidTests := true, laidLooks := .later }
def FnFairUptoCardSaid : Prop := Claim7.holds Tryz.pinned (.plain (OpenSpec.upto fnFairSpec)) fnFairUptoCard
end Rows
end Go.Proofs.YtalbfdhdbgcikaaGreatDoor

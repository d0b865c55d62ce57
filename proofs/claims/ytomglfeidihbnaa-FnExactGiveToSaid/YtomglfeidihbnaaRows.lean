/-
  No cell of these rows narrows 'for every input' (looked for: loops, veiled, ifaces, maps, wideKeys, modest, calm, conditions, laid).
  DERIVED. THE GIVEN ROWS OF THIS SEAT. 6 by the template 'for every input the law returns true; each argument reads behind the call as it read before'; 0 by the template 'total and deterministic' (their statements: YtomglfeidihbnaaTotals.lean).
  GIVEN WITH THE SEED: the statements are not yours to turn. If you find one false, say at which input.
  Laid BY PROGRAM, IN A SANDBOX (cutbox-rows.mjs): the forced cells as the released guide's own fill.sh prints them over the translation d50687a5c6a170ee… (all of the seat's roots in one cut). By AI agents, Wed Nov 11 2026. No macro, syntax, notation, axiom, sorry.
-/
import Derived.Test.YtomglfeidihbnaaChecked
import GoSem.Claim
import GoSem.ClaimJoined
import GoSem.ClaimMapViews
import Derived.JoinedTies
import Derived.KernelRfl
namespace Go.Proofs.Ytomglfeidihbnaa
/- THE CELL 'sum', in the pinned program and in every row, IS THE sha256 OF THE DUMP (.gsa) THAT YtomglfeidihbnaaProg.lean LOADS. Nothing in Lean hashes anything: it is a label: what it is worth is what the hold of that sum in a sandbox is worth. -/
noncomputable def Try.pinned : Pinned := { name := "ytomglfeidihbnaa", sum := "d50687a5c6a170ee63f6bf3fe2485a60174738564fd00ccb6770ac931cf54950", checked := Try.checked }
namespace Rows
def none {H : Type} : Left H := { results := [], args := [] }

/-- 'laws.FnSeals': WHATEVER THE INPUT: true; the input reads as it did. -/
def fnSealsSpec : ChangeSpec := { name := "fnSeals", fn := fun _ => fun
  | [d1, d2] => { results := [.lit (.bool true)], args := [d1, d2] }
  | _ => none }
def fnSealsRow : OpenClaim := { program := "ytomglfeidihbnaa", sum := "d50687a5c6a170ee63f6bf3fe2485a60174738564fd00ccb6770ac931cf54950", func := "loop.example/g00850/laws.FnSeals", spec := "fnSeals", apart := false }
def FnSealsSaid : Prop := fnSealsRow.holds Try.pinned (OpenSpec.ofChange fnSealsSpec)

/-- ITS FALSE NEIGHBOUR: 'it returns false'. Refute it at one input. -/
def fnSealsWrong : ChangeSpec := { name := "fnSeals", fn := fun _ => fun
  | [d1, d2] => { results := [.lit (.bool false)], args := [d1, d2] }
  | _ => none }
def FnSealsWrongFalsely : Prop := fnSealsRow.holds Try.pinned (OpenSpec.ofChange fnSealsWrong)

/-- 'laws.FnFrames': WHATEVER THE INPUT: true; the input reads as it did. -/
def fnFramesSpec : ChangeSpec := { name := "fnFrames", fn := fun _ => fun
  | [d] => { results := [.lit (.bool true)], args := [d] }
  | _ => none }
def fnFramesRow : OpenClaim := { program := "ytomglfeidihbnaa", sum := "d50687a5c6a170ee63f6bf3fe2485a60174738564fd00ccb6770ac931cf54950", func := "loop.example/g00850/laws.FnFrames", spec := "fnFrames", apart := false }
def FnFramesSaid : Prop := fnFramesRow.holds Try.pinned (OpenSpec.ofChange fnFramesSpec)

/-- ITS FALSE NEIGHBOUR: 'it returns false'. Refute it at one input. -/
def fnFramesWrong : ChangeSpec := { name := "fnFrames", fn := fun _ => fun
  | [d] => { results := [.lit (.bool false)], args := [d] }
  | _ => none }
def FnFramesWrongFalsely : Prop := fnFramesRow.holds Try.pinned (OpenSpec.ofChange fnFramesWrong)

/-- 'laws.FnRings': WHATEVER THE INPUT: true; the input reads as it did. -/
def fnRingsSpec : ChangeSpec := { name := "fnRings", fn := fun _ => fun
  | [d1, d2] => { results := [.lit (.bool true)], args := [d1, d2] }
  | _ => none }
def fnRingsRow : OpenClaim := { program := "ytomglfeidihbnaa", sum := "d50687a5c6a170ee63f6bf3fe2485a60174738564fd00ccb6770ac931cf54950", func := "loop.example/g00850/laws.FnRings", spec := "fnRings", unfollowed := true, recurses := true, apart := false }
def FnRingsSaid : Prop := fnRingsRow.holds Try.pinned (OpenSpec.ofChange fnRingsSpec)

/-- ITS FALSE NEIGHBOUR: 'it returns false'. Refute it at one input. -/
def fnRingsWrong : ChangeSpec := { name := "fnRings", fn := fun _ => fun
  | [d1, d2] => { results := [.lit (.bool false)], args := [d1, d2] }
  | _ => none }
def FnRingsWrongFalsely : Prop := fnRingsRow.holds Try.pinned (OpenSpec.ofChange fnRingsWrong)

/-- 'laws.FnMeetings': WHATEVER THE INPUT: true; the input reads as it did. -/
def fnMeetingsSpec : ChangeSpec := { name := "fnMeetings", fn := fun _ => fun
  | [d1, d2] => { results := [.lit (.bool true)], args := [d1, d2] }
  | _ => none }
def fnMeetingsRow : OpenClaim := { program := "ytomglfeidihbnaa", sum := "d50687a5c6a170ee63f6bf3fe2485a60174738564fd00ccb6770ac931cf54950", func := "loop.example/g00850/laws.FnMeetings", spec := "fnMeetings", unfollowed := true, recurses := true, apart := false }
def FnMeetingsSaid : Prop := fnMeetingsRow.holds Try.pinned (OpenSpec.ofChange fnMeetingsSpec)

/-- ITS FALSE NEIGHBOUR: 'it returns false'. Refute it at one input. -/
def fnMeetingsWrong : ChangeSpec := { name := "fnMeetings", fn := fun _ => fun
  | [d1, d2] => { results := [.lit (.bool false)], args := [d1, d2] }
  | _ => none }
def FnMeetingsWrongFalsely : Prop := fnMeetingsRow.holds Try.pinned (OpenSpec.ofChange fnMeetingsWrong)

/-- 'laws.FnExactGiveTo': WHATEVER THE INPUT: true; the input reads as it did. -/
def fnExactGiveToSpec : ChangeSpec := { name := "fnExactGiveTo", fn := fun _ => fun
  | [d1, d2, d3] => { results := [.lit (.bool true)], args := [d1, d2, d3] }
  | _ => none }
def fnExactGiveToRow : OpenClaim := { program := "ytomglfeidihbnaa", sum := "d50687a5c6a170ee63f6bf3fe2485a60174738564fd00ccb6770ac931cf54950", func := "loop.example/g00850/laws.FnExactGiveTo", spec := "fnExactGiveTo", inPlace := ["internal/bytealg.IndexByteString"], unfollowed := true, recurses := true, apart := false }
def FnExactGiveToSaid : Prop := fnExactGiveToRow.holds Try.pinned (OpenSpec.ofChange fnExactGiveToSpec)

/-- ITS FALSE NEIGHBOUR: 'it returns false'. Refute it at one input. -/
def fnExactGiveToWrong : ChangeSpec := { name := "fnExactGiveTo", fn := fun _ => fun
  | [d1, d2, d3] => { results := [.lit (.bool false)], args := [d1, d2, d3] }
  | _ => none }
def FnExactGiveToWrongFalsely : Prop := fnExactGiveToRow.holds Try.pinned (OpenSpec.ofChange fnExactGiveToWrong)

/-- 'laws.FnExactJoinAt': WHATEVER THE INPUT: true; the input reads as it did. -/
def fnExactJoinAtSpec : ChangeSpec := { name := "fnExactJoinAt", fn := fun _ => fun
  | [d1, d2] => { results := [.lit (.bool true)], args := [d1, d2] }
  | _ => none }
def fnExactJoinAtRow : OpenClaim := { program := "ytomglfeidihbnaa", sum := "d50687a5c6a170ee63f6bf3fe2485a60174738564fd00ccb6770ac931cf54950", func := "loop.example/g00850/laws.FnExactJoinAt", spec := "fnExactJoinAt", inPlace := ["internal/bytealg.IndexByteString"], unfollowed := true, recurses := true, apart := false }
def FnExactJoinAtSaid : Prop := fnExactJoinAtRow.holds Try.pinned (OpenSpec.ofChange fnExactJoinAtSpec)

/-- ITS FALSE NEIGHBOUR: 'it returns false'. Refute it at one input. -/
def fnExactJoinAtWrong : ChangeSpec := { name := "fnExactJoinAt", fn := fun _ => fun
  | [d1, d2] => { results := [.lit (.bool false)], args := [d1, d2] }
  | _ => none }
def FnExactJoinAtWrongFalsely : Prop := fnExactJoinAtRow.holds Try.pinned (OpenSpec.ofChange fnExactJoinAtWrong)

/- THE SECOND FORM. 'bulk': how many values and letters a reading holds, each counted each time it is reached (what is shared counts as often as it is met; a slice's spare places count too). A statement '..UptoSaid' is the law's where the arguments, and the package variables that the reading takes, are together of bulk at most 1048576: NARROWER than '..Said'. Prove '..Said' where nothing that the law and all that it calls make is longer than what came in: it says more and counts as full. Else prove '..UptoSaid'. A law counts once. -/
mutual
def uptoBulk {H : Type} : DataW H → Nat
  | .lit (.string bytes) => bytes.length + 1
  | .lit _ => 1
  | .nil => 1
  | .ptr d => uptoBulk d + 1
  | .slice elems spare => uptoBulkAll elems + uptoBulkAll spare + 1
  | .agg parts => uptoBulkAll parts + 1
  | .iface _ d => uptoBulk d + 1
  | .map entries => uptoBulkEntries entries + 1
  | .held _ => 1
def uptoBulkAll {H : Type} : List (DataW H) → Nat
  | [] => 0
  | d :: r => uptoBulk d + uptoBulkAll r
def uptoBulkEntries {H : Type} : List (Lit × DataW H) → Nat
  | [] => 0
  | x :: r => uptoBulkEntry x + uptoBulkEntries r
def uptoBulkEntry {H : Type} : Lit × DataW H → Nat
  | (.string bytes, d) => bytes.length + uptoBulk d + 1
  | (_, d) => uptoBulk d + 1
 end
def uptoSmall : (H : Type) → List (DataW H) → Bool := fun _ ds => decide (uptoBulkAll ds ≤ 1048576)
def OpenSpec.upto (s : _root_.Go.ChangeSpec) : _root_.Go.OpenSpec := { _root_.Go.OpenSpec.ofChange s with cond := some uptoSmall }

/-- 'laws.FnSeals', WHERE WHAT IT READS IS OF BULK AT MOST 1048576: true; the input reads as it did. -/
def fnSealsUptoRow : OpenClaim := { program := "ytomglfeidihbnaa", sum := "d50687a5c6a170ee63f6bf3fe2485a60174738564fd00ccb6770ac931cf54950", func := "loop.example/g00850/laws.FnSeals", spec := "fnSeals", apart := false, narrowed := true }
def FnSealsUptoSaid : Prop := fnSealsUptoRow.holds Try.pinned (OpenSpec.upto fnSealsSpec)

/-- 'laws.FnFrames', WHERE WHAT IT READS IS OF BULK AT MOST 1048576: true; the input reads as it did. -/
def fnFramesUptoRow : OpenClaim := { program := "ytomglfeidihbnaa", sum := "d50687a5c6a170ee63f6bf3fe2485a60174738564fd00ccb6770ac931cf54950", func := "loop.example/g00850/laws.FnFrames", spec := "fnFrames", apart := false, narrowed := true }
def FnFramesUptoSaid : Prop := fnFramesUptoRow.holds Try.pinned (OpenSpec.upto fnFramesSpec)

/-- 'laws.FnRings', WHERE WHAT IT READS IS OF BULK AT MOST 1048576: true; the input reads as it did. -/
def fnRingsUptoRow : OpenClaim := { program := "ytomglfeidihbnaa", sum := "d50687a5c6a170ee63f6bf3fe2485a60174738564fd00ccb6770ac931cf54950", func := "loop.example/g00850/laws.FnRings", spec := "fnRings", unfollowed := true, recurses := true, apart := false, narrowed := true }
def FnRingsUptoSaid : Prop := fnRingsUptoRow.holds Try.pinned (OpenSpec.upto fnRingsSpec)

/-- 'laws.FnMeetings', WHERE WHAT IT READS IS OF BULK AT MOST 1048576: true; the input reads as it did. -/
def fnMeetingsUptoRow : OpenClaim := { program := "ytomglfeidihbnaa", sum := "d50687a5c6a170ee63f6bf3fe2485a60174738564fd00ccb6770ac931cf54950", func := "loop.example/g00850/laws.FnMeetings", spec := "fnMeetings", unfollowed := true, recurses := true, apart := false, narrowed := true }
def FnMeetingsUptoSaid : Prop := fnMeetingsUptoRow.holds Try.pinned (OpenSpec.upto fnMeetingsSpec)

/-- 'laws.FnExactGiveTo', WHERE WHAT IT READS IS OF BULK AT MOST 1048576: true; the input reads as it did. -/
def fnExactGiveToUptoRow : OpenClaim := { program := "ytomglfeidihbnaa", sum := "d50687a5c6a170ee63f6bf3fe2485a60174738564fd00ccb6770ac931cf54950", func := "loop.example/g00850/laws.FnExactGiveTo", spec := "fnExactGiveTo", inPlace := ["internal/bytealg.IndexByteString"], unfollowed := true, recurses := true, apart := false, narrowed := true }
def FnExactGiveToUptoSaid : Prop := fnExactGiveToUptoRow.holds Try.pinned (OpenSpec.upto fnExactGiveToSpec)

/-- 'laws.FnExactJoinAt', WHERE WHAT IT READS IS OF BULK AT MOST 1048576: true; the input reads as it did. -/
def fnExactJoinAtUptoRow : OpenClaim := { program := "ytomglfeidihbnaa", sum := "d50687a5c6a170ee63f6bf3fe2485a60174738564fd00ccb6770ac931cf54950", func := "loop.example/g00850/laws.FnExactJoinAt", spec := "fnExactJoinAt", inPlace := ["internal/bytealg.IndexByteString"], unfollowed := true, recurses := true, apart := false, narrowed := true }
def FnExactJoinAtUptoSaid : Prop := fnExactJoinAtUptoRow.holds Try.pinned (OpenSpec.upto fnExactJoinAtSpec)

end Rows
end Go.Proofs.Ytomglfeidihbnaa

/-
  No cell of these rows narrows 'for every input' (looked for: loops, veiled, ifaces, maps, wideKeys, modest, calm, conditions, laid).
  DERIVED. THE GIVEN ROWS OF THIS SEAT. 5 by the template 'for every input the law returns true; each argument reads behind the call as it read before'; 0 by the template 'total and deterministic' (their statements: YthleienfmfdabaaTotals.lean).
  GIVEN WITH THE SEED: the statements are not yours to turn. If you find one false, say at which input.
  Laid BY PROGRAM, IN A SANDBOX (cutbox-rows.mjs): the forced cells as the released guide's own fill.sh prints them over the translation e36898e591ae9523… (all of the seat's roots in one cut). By AI agents, Wed Nov 11 2026. No macro, syntax, notation, axiom, sorry.
-/
import Derived.Test.YthleienfmfdabaaChecked
import GoSem.Claim
import GoSem.ClaimJoined
import GoSem.ClaimMapViews
import Derived.JoinedTies
import Derived.KernelRfl
namespace Go.Proofs.Ythleienfmfdabaa
/- THE CELL 'sum', in the pinned program and in every row, IS THE sha256 OF THE DUMP (.gsa) THAT YthleienfmfdabaaProg.lean LOADS. Nothing in Lean hashes anything: it is a label: what it is worth is what the hold of that sum in a sandbox is worth. -/
noncomputable def Try.pinned : Pinned := { name := "ythleienfmfdabaa", sum := "e36898e591ae9523f437b42722311d1d3ab174a4edfb090273c98213b4eae0d1", checked := Try.checked }
namespace Rows
def none {H : Type} : Left H := { results := [], args := [] }

/-- 'laws.FnSpans': WHATEVER THE INPUT: true; the input reads as it did. -/
def fnSpansSpec : ChangeSpec := { name := "fnSpans", fn := fun _ => fun
  | [d1, d2] => { results := [.lit (.bool true)], args := [d1, d2] }
  | _ => none }
def fnSpansRow : OpenClaim := { program := "ythleienfmfdabaa", sum := "e36898e591ae9523f437b42722311d1d3ab174a4edfb090273c98213b4eae0d1", func := "loop.example/g00850/laws.FnSpans", spec := "fnSpans", apart := false }
def FnSpansSaid : Prop := fnSpansRow.holds Try.pinned (OpenSpec.ofChange fnSpansSpec)

/-- ITS FALSE NEIGHBOUR: 'it returns false'. Refute it at one input. -/
def fnSpansWrong : ChangeSpec := { name := "fnSpans", fn := fun _ => fun
  | [d1, d2] => { results := [.lit (.bool false)], args := [d1, d2] }
  | _ => none }
def FnSpansWrongFalsely : Prop := fnSpansRow.holds Try.pinned (OpenSpec.ofChange fnSpansWrong)

/-- 'laws.FnExactGoodPlaces': WHATEVER THE INPUT: true; the input reads as it did. -/
def fnExactGoodPlacesSpec : ChangeSpec := { name := "fnExactGoodPlaces", fn := fun _ => fun
  | [d] => { results := [.lit (.bool true)], args := [d] }
  | _ => none }
def fnExactGoodPlacesRow : OpenClaim := { program := "ythleienfmfdabaa", sum := "e36898e591ae9523f437b42722311d1d3ab174a4edfb090273c98213b4eae0d1", func := "loop.example/g00850/laws.FnExactGoodPlaces", spec := "fnExactGoodPlaces", inPlace := ["internal/bytealg.IndexByteString"], unfollowed := true, recurses := true, apart := false }
def FnExactGoodPlacesSaid : Prop := fnExactGoodPlacesRow.holds Try.pinned (OpenSpec.ofChange fnExactGoodPlacesSpec)

/-- ITS FALSE NEIGHBOUR: 'it returns false'. Refute it at one input. -/
def fnExactGoodPlacesWrong : ChangeSpec := { name := "fnExactGoodPlaces", fn := fun _ => fun
  | [d] => { results := [.lit (.bool false)], args := [d] }
  | _ => none }
def FnExactGoodPlacesWrongFalsely : Prop := fnExactGoodPlacesRow.holds Try.pinned (OpenSpec.ofChange fnExactGoodPlacesWrong)

/-- 'laws.FnExactEndsOf': WHATEVER THE INPUT: true; the input reads as it did. -/
def fnExactEndsOfSpec : ChangeSpec := { name := "fnExactEndsOf", fn := fun _ => fun
  | [d1, d2] => { results := [.lit (.bool true)], args := [d1, d2] }
  | _ => none }
def fnExactEndsOfRow : OpenClaim := { program := "ythleienfmfdabaa", sum := "e36898e591ae9523f437b42722311d1d3ab174a4edfb090273c98213b4eae0d1", func := "loop.example/g00850/laws.FnExactEndsOf", spec := "fnExactEndsOf", inPlace := ["internal/bytealg.IndexByteString"], unfollowed := true, recurses := true, apart := false }
def FnExactEndsOfSaid : Prop := fnExactEndsOfRow.holds Try.pinned (OpenSpec.ofChange fnExactEndsOfSpec)

/-- ITS FALSE NEIGHBOUR: 'it returns false'. Refute it at one input. -/
def fnExactEndsOfWrong : ChangeSpec := { name := "fnExactEndsOf", fn := fun _ => fun
  | [d1, d2] => { results := [.lit (.bool false)], args := [d1, d2] }
  | _ => none }
def FnExactEndsOfWrongFalsely : Prop := fnExactEndsOfRow.holds Try.pinned (OpenSpec.ofChange fnExactEndsOfWrong)

/-- 'laws.FnExactRangeOf': WHATEVER THE INPUT: true; the input reads as it did. -/
def fnExactRangeOfSpec : ChangeSpec := { name := "fnExactRangeOf", fn := fun _ => fun
  | [d1, d2] => { results := [.lit (.bool true)], args := [d1, d2] }
  | _ => none }
def fnExactRangeOfRow : OpenClaim := { program := "ythleienfmfdabaa", sum := "e36898e591ae9523f437b42722311d1d3ab174a4edfb090273c98213b4eae0d1", func := "loop.example/g00850/laws.FnExactRangeOf", spec := "fnExactRangeOf", inPlace := ["internal/bytealg.IndexByteString"], unfollowed := true, recurses := true, apart := false }
def FnExactRangeOfSaid : Prop := fnExactRangeOfRow.holds Try.pinned (OpenSpec.ofChange fnExactRangeOfSpec)

/-- ITS FALSE NEIGHBOUR: 'it returns false'. Refute it at one input. -/
def fnExactRangeOfWrong : ChangeSpec := { name := "fnExactRangeOf", fn := fun _ => fun
  | [d1, d2] => { results := [.lit (.bool false)], args := [d1, d2] }
  | _ => none }
def FnExactRangeOfWrongFalsely : Prop := fnExactRangeOfRow.holds Try.pinned (OpenSpec.ofChange fnExactRangeOfWrong)

/-- 'laws.FnExactGroupOf': WHATEVER THE INPUT: true; the input reads as it did. -/
def fnExactGroupOfSpec : ChangeSpec := { name := "fnExactGroupOf", fn := fun _ => fun
  | [d1, d2] => { results := [.lit (.bool true)], args := [d1, d2] }
  | _ => none }
def fnExactGroupOfRow : OpenClaim := { program := "ythleienfmfdabaa", sum := "e36898e591ae9523f437b42722311d1d3ab174a4edfb090273c98213b4eae0d1", func := "loop.example/g00850/laws.FnExactGroupOf", spec := "fnExactGroupOf", inPlace := ["internal/bytealg.IndexByteString"], unfollowed := true, recurses := true, apart := false }
def FnExactGroupOfSaid : Prop := fnExactGroupOfRow.holds Try.pinned (OpenSpec.ofChange fnExactGroupOfSpec)

/-- ITS FALSE NEIGHBOUR: 'it returns false'. Refute it at one input. -/
def fnExactGroupOfWrong : ChangeSpec := { name := "fnExactGroupOf", fn := fun _ => fun
  | [d1, d2] => { results := [.lit (.bool false)], args := [d1, d2] }
  | _ => none }
def FnExactGroupOfWrongFalsely : Prop := fnExactGroupOfRow.holds Try.pinned (OpenSpec.ofChange fnExactGroupOfWrong)

/- THE SECOND FORM. 'bulk': how many values and letters a reading holds, each counted each time it is reached (what is shared counts as often as it is met; a slice's spare places count too). A statement '..UptoSaid' is the law's where the arguments, and the package variables that the reading takes, are together of bulk at most 1048576: NARROWER than '..Said'. Prove '..Said' where nothing that the law and all that it calls make is longer than what came in: it says more and counts as full. Else prove '..UptoSaid'. A law counts once. -/
mutual
def uptoBulk {H : Type} : DataW H → Nat
  | .lit (.string bytes) => bytes.length + 1
  | .lit _ => 1
  | .nil => 1
  | .ptr d => uptoBulk d + 1
  | .slice elems spare => uptoBulkAll elems + uptoBulkAll spare + 1
  | .agg parts => uptoBulkAll parts + 1
  | .iface _ d => uptoBulk d + 1
  | .map entries => uptoBulkEntries entries + 1
  | .held _ => 1
def uptoBulkAll {H : Type} : List (DataW H) → Nat
  | [] => 0
  | d :: r => uptoBulk d + uptoBulkAll r
def uptoBulkEntries {H : Type} : List (Lit × DataW H) → Nat
  | [] => 0
  | x :: r => uptoBulkEntry x + uptoBulkEntries r
def uptoBulkEntry {H : Type} : Lit × DataW H → Nat
  | (.string bytes, d) => bytes.length + uptoBulk d + 1
  | (_, d) => uptoBulk d + 1
 end
def uptoSmall : (H : Type) → List (DataW H) → Bool := fun _ ds => decide (uptoBulkAll ds ≤ 1048576)
def OpenSpec.upto (s : _root_.Go.ChangeSpec) : _root_.Go.OpenSpec := { _root_.Go.OpenSpec.ofChange s with cond := some uptoSmall }

/-- 'laws.FnSpans', WHERE WHAT IT READS IS OF BULK AT MOST 1048576: true; the input reads as it did. -/
def fnSpansUptoRow : OpenClaim := { program := "ythleienfmfdabaa", sum := "e36898e591ae9523f437b42722311d1d3ab174a4edfb090273c98213b4eae0d1", func := "loop.example/g00850/laws.FnSpans", spec := "fnSpans", apart := false, narrowed := true }
def FnSpansUptoSaid : Prop := fnSpansUptoRow.holds Try.pinned (OpenSpec.upto fnSpansSpec)

/-- 'laws.FnExactGoodPlaces', WHERE WHAT IT READS IS OF BULK AT MOST 1048576: true; the input reads as it did. -/
def fnExactGoodPlacesUptoRow : OpenClaim := { program := "ythleienfmfdabaa", sum := "e36898e591ae9523f437b42722311d1d3ab174a4edfb090273c98213b4eae0d1", func := "loop.example/g00850/laws.FnExactGoodPlaces", spec := "fnExactGoodPlaces", inPlace := ["internal/bytealg.IndexByteString"], unfollowed := true, recurses := true, apart := false, narrowed := true }
def FnExactGoodPlacesUptoSaid : Prop := fnExactGoodPlacesUptoRow.holds Try.pinned (OpenSpec.upto fnExactGoodPlacesSpec)

/-- 'laws.FnExactEndsOf', WHERE WHAT IT READS IS OF BULK AT MOST 1048576: true; the input reads as it did. -/
def fnExactEndsOfUptoRow : OpenClaim := { program := "ythleienfmfdabaa", sum := "e36898e591ae9523f437b42722311d1d3ab174a4edfb090273c98213b4eae0d1", func := "loop.example/g00850/laws.FnExactEndsOf", spec := "fnExactEndsOf", inPlace := ["internal/bytealg.IndexByteString"], unfollowed := true, recurses := true, apart := false, narrowed := true }
def FnExactEndsOfUptoSaid : Prop := fnExactEndsOfUptoRow.holds Try.pinned (OpenSpec.upto fnExactEndsOfSpec)

/-- 'laws.FnExactRangeOf', WHERE WHAT IT READS IS OF BULK AT MOST 1048576: true; the input reads as it did. -/
def fnExactRangeOfUptoRow : OpenClaim := { program := "ythleienfmfdabaa", sum := "e36898e591ae9523f437b42722311d1d3ab174a4edfb090273c98213b4eae0d1", func := "loop.example/g00850/laws.FnExactRangeOf", spec := "fnExactRangeOf", inPlace := ["internal/bytealg.IndexByteString"], unfollowed := true, recurses := true, apart := false, narrowed := true }
def FnExactRangeOfUptoSaid : Prop := fnExactRangeOfUptoRow.holds Try.pinned (OpenSpec.upto fnExactRangeOfSpec)

/-- 'laws.FnExactGroupOf', WHERE WHAT IT READS IS OF BULK AT MOST 1048576: true; the input reads as it did. -/
def fnExactGroupOfUptoRow : OpenClaim := { program := "ythleienfmfdabaa", sum := "e36898e591ae9523f437b42722311d1d3ab174a4edfb090273c98213b4eae0d1", func := "loop.example/g00850/laws.FnExactGroupOf", spec := "fnExactGroupOf", inPlace := ["internal/bytealg.IndexByteString"], unfollowed := true, recurses := true, apart := false, narrowed := true }
def FnExactGroupOfUptoSaid : Prop := fnExactGroupOfUptoRow.holds Try.pinned (OpenSpec.upto fnExactGroupOfSpec)

end Rows
end Go.Proofs.Ythleienfmfdabaa

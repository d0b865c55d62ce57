/-
  No cell of these rows narrows 'for every input' (looked for: loops, veiled, ifaces, maps, wideKeys, modest, calm, conditions, laid).
  DERIVED. THE GIVEN ROWS OF THIS SEAT. 5 by the template 'for every input the law returns true; each argument reads behind the call as it read before'; 0 by the template 'total and deterministic' (their statements: YtjfdifmdjlodcaaTotals.lean).
  GIVEN WITH THE SEED: the statements are not yours to turn. If you find one false, say at which input.
  Laid BY PROGRAM, IN A SANDBOX (cutbox-rows.mjs): the forced cells as the released guide's own fill.sh prints them over the translation 365d9892c63343de… (all of the seat's roots in one cut). By AI agents, Wed Nov 11 2026. No macro, syntax, notation, axiom, sorry.
-/
import Derived.Test.YtjfdifmdjlodcaaChecked
import GoSem.Claim
import GoSem.ClaimJoined
import GoSem.ClaimMapViews
import Derived.JoinedTies
import Derived.KernelRfl
namespace Go.Proofs.Ytjfdifmdjlodcaa
/- THE CELL 'sum', in the pinned program and in every row, IS THE sha256 OF THE DUMP (.gsa) THAT YtjfdifmdjlodcaaProg.lean LOADS. Nothing in Lean hashes anything: it is a label: what it is worth is what the hold of that sum in a sandbox is worth. -/
noncomputable def Try.pinned : Pinned := { name := "ytjfdifmdjlodcaa", sum := "365d9892c63343deae570f8f2fee728e9c9d9af0da47a7f33e7678c527564cc8", checked := Try.checked }
namespace Rows
def none {H : Type} : Left H := { results := [], args := [] }

/-- 'laws.FnExactJoinAt': WHATEVER THE INPUT: true; the input reads as it did. -/
def fnExactJoinAtSpec : ChangeSpec := { name := "fnExactJoinAt", fn := fun _ => fun
  | [d1, d2] => { results := [.lit (.bool true)], args := [d1, d2] }
  | _ => none }
def fnExactJoinAtRow : OpenClaim := { program := "ytjfdifmdjlodcaa", sum := "365d9892c63343deae570f8f2fee728e9c9d9af0da47a7f33e7678c527564cc8", func := "loop.example/g00850/laws.FnExactJoinAt", spec := "fnExactJoinAt", inPlace := ["internal/bytealg.IndexByteString"], unfollowed := true, recurses := true, apart := false }
def FnExactJoinAtSaid : Prop := fnExactJoinAtRow.holds Try.pinned (OpenSpec.ofChange fnExactJoinAtSpec)

/-- ITS FALSE NEIGHBOUR: 'it returns false'. Refute it at one input. -/
def fnExactJoinAtWrong : ChangeSpec := { name := "fnExactJoinAt", fn := fun _ => fun
  | [d1, d2] => { results := [.lit (.bool false)], args := [d1, d2] }
  | _ => none }
def FnExactJoinAtWrongFalsely : Prop := fnExactJoinAtRow.holds Try.pinned (OpenSpec.ofChange fnExactJoinAtWrong)

/-- 'laws.FnExactLoseOne': WHATEVER THE INPUT: true; the input reads as it did. -/
def fnExactLoseOneSpec : ChangeSpec := { name := "fnExactLoseOne", fn := fun _ => fun
  | [d1, d2] => { results := [.lit (.bool true)], args := [d1, d2] }
  | _ => none }
def fnExactLoseOneRow : OpenClaim := { program := "ytjfdifmdjlodcaa", sum := "365d9892c63343deae570f8f2fee728e9c9d9af0da47a7f33e7678c527564cc8", func := "loop.example/g00850/laws.FnExactLoseOne", spec := "fnExactLoseOne", unfollowed := true, recurses := true, apart := false }
def FnExactLoseOneSaid : Prop := fnExactLoseOneRow.holds Try.pinned (OpenSpec.ofChange fnExactLoseOneSpec)

/-- ITS FALSE NEIGHBOUR: 'it returns false'. Refute it at one input. -/
def fnExactLoseOneWrong : ChangeSpec := { name := "fnExactLoseOne", fn := fun _ => fun
  | [d1, d2] => { results := [.lit (.bool false)], args := [d1, d2] }
  | _ => none }
def FnExactLoseOneWrongFalsely : Prop := fnExactLoseOneRow.holds Try.pinned (OpenSpec.ofChange fnExactLoseOneWrong)

/-- 'laws.FnExactDoubleOne': WHATEVER THE INPUT: true; the input reads as it did. -/
def fnExactDoubleOneSpec : ChangeSpec := { name := "fnExactDoubleOne", fn := fun _ => fun
  | [d1, d2] => { results := [.lit (.bool true)], args := [d1, d2] }
  | _ => none }
def fnExactDoubleOneRow : OpenClaim := { program := "ytjfdifmdjlodcaa", sum := "365d9892c63343deae570f8f2fee728e9c9d9af0da47a7f33e7678c527564cc8", func := "loop.example/g00850/laws.FnExactDoubleOne", spec := "fnExactDoubleOne", inPlace := ["slices.overlaps[loop.example/g00850/impl.Letter]"], unfollowed := true, recurses := true, apart := false }
def FnExactDoubleOneSaid : Prop := fnExactDoubleOneRow.holds Try.pinned (OpenSpec.ofChange fnExactDoubleOneSpec)

/-- ITS FALSE NEIGHBOUR: 'it returns false'. Refute it at one input. -/
def fnExactDoubleOneWrong : ChangeSpec := { name := "fnExactDoubleOne", fn := fun _ => fun
  | [d1, d2] => { results := [.lit (.bool false)], args := [d1, d2] }
  | _ => none }
def FnExactDoubleOneWrongFalsely : Prop := fnExactDoubleOneRow.holds Try.pinned (OpenSpec.ofChange fnExactDoubleOneWrong)

/-- 'laws.FnExactDelayOne': WHATEVER THE INPUT: true; the input reads as it did. -/
def fnExactDelayOneSpec : ChangeSpec := { name := "fnExactDelayOne", fn := fun _ => fun
  | [d1, d2, d3] => { results := [.lit (.bool true)], args := [d1, d2, d3] }
  | _ => none }
def fnExactDelayOneRow : OpenClaim := { program := "ytjfdifmdjlodcaa", sum := "365d9892c63343deae570f8f2fee728e9c9d9af0da47a7f33e7678c527564cc8", func := "loop.example/g00850/laws.FnExactDelayOne", spec := "fnExactDelayOne", inPlace := ["slices.overlaps[loop.example/g00850/impl.Letter]"], unfollowed := true, recurses := true, apart := false }
def FnExactDelayOneSaid : Prop := fnExactDelayOneRow.holds Try.pinned (OpenSpec.ofChange fnExactDelayOneSpec)

/-- ITS FALSE NEIGHBOUR: 'it returns false'. Refute it at one input. -/
def fnExactDelayOneWrong : ChangeSpec := { name := "fnExactDelayOne", fn := fun _ => fun
  | [d1, d2, d3] => { results := [.lit (.bool false)], args := [d1, d2, d3] }
  | _ => none }
def FnExactDelayOneWrongFalsely : Prop := fnExactDelayOneRow.holds Try.pinned (OpenSpec.ofChange fnExactDelayOneWrong)

/-- 'laws.FnExactSendTo': WHATEVER THE INPUT: true; the input reads as it did. -/
def fnExactSendToSpec : ChangeSpec := { name := "fnExactSendTo", fn := fun _ => fun
  | [d1, d2, d3, d4] => { results := [.lit (.bool true)], args := [d1, d2, d3, d4] }
  | _ => none }
def fnExactSendToRow : OpenClaim := { program := "ytjfdifmdjlodcaa", sum := "365d9892c63343deae570f8f2fee728e9c9d9af0da47a7f33e7678c527564cc8", func := "loop.example/g00850/laws.FnExactSendTo", spec := "fnExactSendTo", inPlace := ["slices.overlaps[loop.example/g00850/impl.Letter]"], unfollowed := true, recurses := true, apart := false }
def FnExactSendToSaid : Prop := fnExactSendToRow.holds Try.pinned (OpenSpec.ofChange fnExactSendToSpec)

/-- ITS FALSE NEIGHBOUR: 'it returns false'. Refute it at one input. -/
def fnExactSendToWrong : ChangeSpec := { name := "fnExactSendTo", fn := fun _ => fun
  | [d1, d2, d3, d4] => { results := [.lit (.bool false)], args := [d1, d2, d3, d4] }
  | _ => none }
def FnExactSendToWrongFalsely : Prop := fnExactSendToRow.holds Try.pinned (OpenSpec.ofChange fnExactSendToWrong)

/- THE SECOND FORM. 'bulk': how many values and letters a reading holds, each counted each time it is reached (what is shared counts as often as it is met; a slice's spare places count too). A statement '..UptoSaid' is the law's where the arguments, and the package variables that the reading takes, are together of bulk at most 1048576: NARROWER than '..Said'. Prove '..Said' where nothing that the law and all that it calls make is longer than what came in: it says more and counts as full. Else prove '..UptoSaid'. A law counts once. -/
mutual
def uptoBulk {H : Type} : DataW H → Nat
  | .lit (.string bytes) => bytes.length + 1
  | .lit _ => 1
  | .nil => 1
  | .ptr d => uptoBulk d + 1
  | .slice elems spare => uptoBulkAll elems + uptoBulkAll spare + 1
  | .agg parts => uptoBulkAll parts + 1
  | .iface _ d => uptoBulk d + 1
  | .map entries => uptoBulkEntries entries + 1
  | .held _ => 1
def uptoBulkAll {H : Type} : List (DataW H) → Nat
  | [] => 0
  | d :: r => uptoBulk d + uptoBulkAll r
def uptoBulkEntries {H : Type} : List (Lit × DataW H) → Nat
  | [] => 0
  | x :: r => uptoBulkEntry x + uptoBulkEntries r
def uptoBulkEntry {H : Type} : Lit × DataW H → Nat
  | (.string bytes, d) => bytes.length + uptoBulk d + 1
  | (_, d) => uptoBulk d + 1
 end
def uptoSmall : (H : Type) → List (DataW H) → Bool := fun _ ds => decide (uptoBulkAll ds ≤ 1048576)
def OpenSpec.upto (s : _root_.Go.ChangeSpec) : _root_.Go.OpenSpec := { _root_.Go.OpenSpec.ofChange s with cond := some uptoSmall }

/-- 'laws.FnExactJoinAt', WHERE WHAT IT READS IS OF BULK AT MOST 1048576: true; the input reads as it did. -/
def fnExactJoinAtUptoRow : OpenClaim := { program := "ytjfdifmdjlodcaa", sum := "365d9892c63343deae570f8f2fee728e9c9d9af0da47a7f33e7678c527564cc8", func := "loop.example/g00850/laws.FnExactJoinAt", spec := "fnExactJoinAt", inPlace := ["internal/bytealg.IndexByteString"], unfollowed := true, recurses := true, apart := false, narrowed := true }
def FnExactJoinAtUptoSaid : Prop := fnExactJoinAtUptoRow.holds Try.pinned (OpenSpec.upto fnExactJoinAtSpec)

/-- 'laws.FnExactLoseOne', WHERE WHAT IT READS IS OF BULK AT MOST 1048576: true; the input reads as it did. -/
def fnExactLoseOneUptoRow : OpenClaim := { program := "ytjfdifmdjlodcaa", sum := "365d9892c63343deae570f8f2fee728e9c9d9af0da47a7f33e7678c527564cc8", func := "loop.example/g00850/laws.FnExactLoseOne", spec := "fnExactLoseOne", unfollowed := true, recurses := true, apart := false, narrowed := true }
def FnExactLoseOneUptoSaid : Prop := fnExactLoseOneUptoRow.holds Try.pinned (OpenSpec.upto fnExactLoseOneSpec)

/-- 'laws.FnExactDoubleOne', WHERE WHAT IT READS IS OF BULK AT MOST 1048576: true; the input reads as it did. -/
def fnExactDoubleOneUptoRow : OpenClaim := { program := "ytjfdifmdjlodcaa", sum := "365d9892c63343deae570f8f2fee728e9c9d9af0da47a7f33e7678c527564cc8", func := "loop.example/g00850/laws.FnExactDoubleOne", spec := "fnExactDoubleOne", inPlace := ["slices.overlaps[loop.example/g00850/impl.Letter]"], unfollowed := true, recurses := true, apart := false, narrowed := true }
def FnExactDoubleOneUptoSaid : Prop := fnExactDoubleOneUptoRow.holds Try.pinned (OpenSpec.upto fnExactDoubleOneSpec)

/-- 'laws.FnExactDelayOne', WHERE WHAT IT READS IS OF BULK AT MOST 1048576: true; the input reads as it did. -/
def fnExactDelayOneUptoRow : OpenClaim := { program := "ytjfdifmdjlodcaa", sum := "365d9892c63343deae570f8f2fee728e9c9d9af0da47a7f33e7678c527564cc8", func := "loop.example/g00850/laws.FnExactDelayOne", spec := "fnExactDelayOne", inPlace := ["slices.overlaps[loop.example/g00850/impl.Letter]"], unfollowed := true, recurses := true, apart := false, narrowed := true }
def FnExactDelayOneUptoSaid : Prop := fnExactDelayOneUptoRow.holds Try.pinned (OpenSpec.upto fnExactDelayOneSpec)

/-- 'laws.FnExactSendTo', WHERE WHAT IT READS IS OF BULK AT MOST 1048576: true; the input reads as it did. -/
def fnExactSendToUptoRow : OpenClaim := { program := "ytjfdifmdjlodcaa", sum := "365d9892c63343deae570f8f2fee728e9c9d9af0da47a7f33e7678c527564cc8", func := "loop.example/g00850/laws.FnExactSendTo", spec := "fnExactSendTo", inPlace := ["slices.overlaps[loop.example/g00850/impl.Letter]"], unfollowed := true, recurses := true, apart := false, narrowed := true }
def FnExactSendToUptoSaid : Prop := fnExactSendToUptoRow.holds Try.pinned (OpenSpec.upto fnExactSendToSpec)

end Rows
end Go.Proofs.Ytjfdifmdjlodcaa

/-
  No cell of these rows narrows 'for every input' (looked for: loops, veiled, ifaces, maps, wideKeys, modest, calm, conditions, laid).
  DERIVED. THE GIVEN ROWS OF THIS SEAT. 11 by the template 'for every input the law returns true; each argument reads behind the call as it read before'; 0 by the template 'total and deterministic' (their statements: YtgnhenfcapbpdaaTotals.lean).
  GIVEN WITH THE SEED: the statements are not yours to turn. If you find one false, say at which input.
  Laid BY PROGRAM, IN A SANDBOX (cutbox-rows.mjs): the forced cells as the released guide's own fill.sh prints them over the translation d4d6e84d4ca4fcfe… (all of the seat's roots in one cut). By AI agents, Wed Nov 11 2026. No macro, syntax, notation, axiom, sorry.
-/
import Derived.Test.YtgnhenfcapbpdaaChecked
import GoSem.Claim
import GoSem.ClaimJoined
import GoSem.ClaimMapViews
import Derived.JoinedTies
import Derived.KernelRfl
namespace Go.Proofs.Ytgnhenfcapbpdaa
/- THE CELL 'sum', in the pinned program and in every row, IS THE sha256 OF THE DUMP (.gsa) THAT YtgnhenfcapbpdaaProg.lean LOADS. Nothing in Lean hashes anything: it is a label: what it is worth is what the hold of that sum in a sandbox is worth. -/
noncomputable def Try.pinned : Pinned := { name := "ytgnhenfcapbpdaa", sum := "d4d6e84d4ca4fcfe4a31ebf3add5106c80cca289c0bd718b3016f8d1db52b9d2", checked := Try.checked }
namespace Rows
def none {H : Type} : Left H := { results := [], args := [] }

/-- 'laws.FnExactSendTo': WHATEVER THE INPUT: true; the input reads as it did. -/
def fnExactSendToSpec : ChangeSpec := { name := "fnExactSendTo", fn := fun _ => fun
  | [d1, d2, d3, d4] => { results := [.lit (.bool true)], args := [d1, d2, d3, d4] }
  | _ => none }
def fnExactSendToRow : OpenClaim := { program := "ytgnhenfcapbpdaa", sum := "d4d6e84d4ca4fcfe4a31ebf3add5106c80cca289c0bd718b3016f8d1db52b9d2", func := "loop.example/g00850/laws.FnExactSendTo", spec := "fnExactSendTo", inPlace := ["slices.overlaps[loop.example/g00850/impl.Letter]"], unfollowed := true, recurses := true, apart := false }
def FnExactSendToSaid : Prop := fnExactSendToRow.holds Try.pinned (OpenSpec.ofChange fnExactSendToSpec)

/-- ITS FALSE NEIGHBOUR: 'it returns false'. Refute it at one input. -/
def fnExactSendToWrong : ChangeSpec := { name := "fnExactSendTo", fn := fun _ => fun
  | [d1, d2, d3, d4] => { results := [.lit (.bool false)], args := [d1, d2, d3, d4] }
  | _ => none }
def FnExactSendToWrongFalsely : Prop := fnExactSendToRow.holds Try.pinned (OpenSpec.ofChange fnExactSendToWrong)

/-- 'laws.FnExactDoubleOne': WHATEVER THE INPUT: true; the input reads as it did. -/
def fnExactDoubleOneSpec : ChangeSpec := { name := "fnExactDoubleOne", fn := fun _ => fun
  | [d1, d2] => { results := [.lit (.bool true)], args := [d1, d2] }
  | _ => none }
def fnExactDoubleOneRow : OpenClaim := { program := "ytgnhenfcapbpdaa", sum := "d4d6e84d4ca4fcfe4a31ebf3add5106c80cca289c0bd718b3016f8d1db52b9d2", func := "loop.example/g00850/laws.FnExactDoubleOne", spec := "fnExactDoubleOne", inPlace := ["slices.overlaps[loop.example/g00850/impl.Letter]"], unfollowed := true, recurses := true, apart := false }
def FnExactDoubleOneSaid : Prop := fnExactDoubleOneRow.holds Try.pinned (OpenSpec.ofChange fnExactDoubleOneSpec)

/-- ITS FALSE NEIGHBOUR: 'it returns false'. Refute it at one input. -/
def fnExactDoubleOneWrong : ChangeSpec := { name := "fnExactDoubleOne", fn := fun _ => fun
  | [d1, d2] => { results := [.lit (.bool false)], args := [d1, d2] }
  | _ => none }
def FnExactDoubleOneWrongFalsely : Prop := fnExactDoubleOneRow.holds Try.pinned (OpenSpec.ofChange fnExactDoubleOneWrong)

/-- 'laws.FnExactDelayOne': WHATEVER THE INPUT: true; the input reads as it did. -/
def fnExactDelayOneSpec : ChangeSpec := { name := "fnExactDelayOne", fn := fun _ => fun
  | [d1, d2, d3] => { results := [.lit (.bool true)], args := [d1, d2, d3] }
  | _ => none }
def fnExactDelayOneRow : OpenClaim := { program := "ytgnhenfcapbpdaa", sum := "d4d6e84d4ca4fcfe4a31ebf3add5106c80cca289c0bd718b3016f8d1db52b9d2", func := "loop.example/g00850/laws.FnExactDelayOne", spec := "fnExactDelayOne", inPlace := ["slices.overlaps[loop.example/g00850/impl.Letter]"], unfollowed := true, recurses := true, apart := false }
def FnExactDelayOneSaid : Prop := fnExactDelayOneRow.holds Try.pinned (OpenSpec.ofChange fnExactDelayOneSpec)

/-- ITS FALSE NEIGHBOUR: 'it returns false'. Refute it at one input. -/
def fnExactDelayOneWrong : ChangeSpec := { name := "fnExactDelayOne", fn := fun _ => fun
  | [d1, d2, d3] => { results := [.lit (.bool false)], args := [d1, d2, d3] }
  | _ => none }
def FnExactDelayOneWrongFalsely : Prop := fnExactDelayOneRow.holds Try.pinned (OpenSpec.ofChange fnExactDelayOneWrong)

/-- 'laws.FnExactLeaderOf': WHATEVER THE INPUT: true; the input reads as it did. -/
def fnExactLeaderOfSpec : ChangeSpec := { name := "fnExactLeaderOf", fn := fun _ => fun
  | [d1, d2] => { results := [.lit (.bool true)], args := [d1, d2] }
  | _ => none }
def fnExactLeaderOfRow : OpenClaim := { program := "ytgnhenfcapbpdaa", sum := "d4d6e84d4ca4fcfe4a31ebf3add5106c80cca289c0bd718b3016f8d1db52b9d2", func := "loop.example/g00850/laws.FnExactLeaderOf", spec := "fnExactLeaderOf", unfollowed := true, recurses := true, apart := false }
def FnExactLeaderOfSaid : Prop := fnExactLeaderOfRow.holds Try.pinned (OpenSpec.ofChange fnExactLeaderOfSpec)

/-- ITS FALSE NEIGHBOUR: 'it returns false'. Refute it at one input. -/
def fnExactLeaderOfWrong : ChangeSpec := { name := "fnExactLeaderOf", fn := fun _ => fun
  | [d1, d2] => { results := [.lit (.bool false)], args := [d1, d2] }
  | _ => none }
def FnExactLeaderOfWrongFalsely : Prop := fnExactLeaderOfRow.holds Try.pinned (OpenSpec.ofChange fnExactLeaderOfWrong)

/-- 'laws.FnExactIsFair': WHATEVER THE INPUT: true; the input reads as it did. -/
def fnExactIsFairSpec : ChangeSpec := { name := "fnExactIsFair", fn := fun _ => fun
  | [d] => { results := [.lit (.bool true)], args := [d] }
  | _ => none }
def fnExactIsFairRow : OpenClaim := { program := "ytgnhenfcapbpdaa", sum := "d4d6e84d4ca4fcfe4a31ebf3add5106c80cca289c0bd718b3016f8d1db52b9d2", func := "loop.example/g00850/laws.FnExactIsFair", spec := "fnExactIsFair", unfollowed := true, recurses := true, apart := false }
def FnExactIsFairSaid : Prop := fnExactIsFairRow.holds Try.pinned (OpenSpec.ofChange fnExactIsFairSpec)

/-- ITS FALSE NEIGHBOUR: 'it returns false'. Refute it at one input. -/
def fnExactIsFairWrong : ChangeSpec := { name := "fnExactIsFair", fn := fun _ => fun
  | [d] => { results := [.lit (.bool false)], args := [d] }
  | _ => none }
def FnExactIsFairWrongFalsely : Prop := fnExactIsFairRow.holds Try.pinned (OpenSpec.ofChange fnExactIsFairWrong)

/-- 'laws.FnExactFallVoter': WHATEVER THE INPUT: true; the input reads as it did. -/
def fnExactFallVoterSpec : ChangeSpec := { name := "fnExactFallVoter", fn := fun _ => fun
  | [d1, d2] => { results := [.lit (.bool true)], args := [d1, d2] }
  | _ => none }
def fnExactFallVoterRow : OpenClaim := { program := "ytgnhenfcapbpdaa", sum := "d4d6e84d4ca4fcfe4a31ebf3add5106c80cca289c0bd718b3016f8d1db52b9d2", func := "loop.example/g00850/laws.FnExactFallVoter", spec := "fnExactFallVoter", unfollowed := true, recurses := true, apart := false }
def FnExactFallVoterSaid : Prop := fnExactFallVoterRow.holds Try.pinned (OpenSpec.ofChange fnExactFallVoterSpec)

/-- ITS FALSE NEIGHBOUR: 'it returns false'. Refute it at one input. -/
def fnExactFallVoterWrong : ChangeSpec := { name := "fnExactFallVoter", fn := fun _ => fun
  | [d1, d2] => { results := [.lit (.bool false)], args := [d1, d2] }
  | _ => none }
def FnExactFallVoterWrongFalsely : Prop := fnExactFallVoterRow.holds Try.pinned (OpenSpec.ofChange fnExactFallVoterWrong)

/-- 'laws.FnFree': WHATEVER THE INPUT: true; the input reads as it did. -/
def fnFreeSpec : ChangeSpec := { name := "fnFree", fn := fun _ => fun
  | [d] => { results := [.lit (.bool true)], args := [d] }
  | _ => none }
def fnFreeRow : OpenClaim := { program := "ytgnhenfcapbpdaa", sum := "d4d6e84d4ca4fcfe4a31ebf3add5106c80cca289c0bd718b3016f8d1db52b9d2", func := "loop.example/g00850/laws.FnFree", spec := "fnFree", unfollowed := true, recurses := true, apart := false }
def FnFreeSaid : Prop := fnFreeRow.holds Try.pinned (OpenSpec.ofChange fnFreeSpec)

/-- ITS FALSE NEIGHBOUR: 'it returns false'. Refute it at one input. -/
def fnFreeWrong : ChangeSpec := { name := "fnFree", fn := fun _ => fun
  | [d] => { results := [.lit (.bool false)], args := [d] }
  | _ => none }
def FnFreeWrongFalsely : Prop := fnFreeRow.holds Try.pinned (OpenSpec.ofChange fnFreeWrong)

/-- 'laws.FnGiven': WHATEVER THE INPUT: true; the input reads as it did. -/
def fnGivenSpec : ChangeSpec := { name := "fnGiven", fn := fun _ => fun
  | [d] => { results := [.lit (.bool true)], args := [d] }
  | _ => none }
def fnGivenRow : OpenClaim := { program := "ytgnhenfcapbpdaa", sum := "d4d6e84d4ca4fcfe4a31ebf3add5106c80cca289c0bd718b3016f8d1db52b9d2", func := "loop.example/g00850/laws.FnGiven", spec := "fnGiven", unfollowed := true, recurses := true, apart := false }
def FnGivenSaid : Prop := fnGivenRow.holds Try.pinned (OpenSpec.ofChange fnGivenSpec)

/-- ITS FALSE NEIGHBOUR: 'it returns false'. Refute it at one input. -/
def fnGivenWrong : ChangeSpec := { name := "fnGiven", fn := fun _ => fun
  | [d] => { results := [.lit (.bool false)], args := [d] }
  | _ => none }
def FnGivenWrongFalsely : Prop := fnGivenRow.holds Try.pinned (OpenSpec.ofChange fnGivenWrong)

/-- 'laws.FnExactPlayWatch': WHATEVER THE INPUT: true; the input reads as it did. -/
def fnExactPlayWatchSpec : ChangeSpec := { name := "fnExactPlayWatch", fn := fun _ => fun
  | [d1, d2] => { results := [.lit (.bool true)], args := [d1, d2] }
  | _ => none }
def fnExactPlayWatchRow : OpenClaim := { program := "ytgnhenfcapbpdaa", sum := "d4d6e84d4ca4fcfe4a31ebf3add5106c80cca289c0bd718b3016f8d1db52b9d2", func := "loop.example/g00850/laws.FnExactPlayWatch", spec := "fnExactPlayWatch", unfollowed := true, recurses := true, apart := false }
def FnExactPlayWatchSaid : Prop := fnExactPlayWatchRow.holds Try.pinned (OpenSpec.ofChange fnExactPlayWatchSpec)

/-- ITS FALSE NEIGHBOUR: 'it returns false'. Refute it at one input. -/
def fnExactPlayWatchWrong : ChangeSpec := { name := "fnExactPlayWatch", fn := fun _ => fun
  | [d1, d2] => { results := [.lit (.bool false)], args := [d1, d2] }
  | _ => none }
def FnExactPlayWatchWrongFalsely : Prop := fnExactPlayWatchRow.holds Try.pinned (OpenSpec.ofChange fnExactPlayWatchWrong)

/-- 'laws.FnSent': WHATEVER THE INPUT: true; the input reads as it did. -/
def fnSentSpec : ChangeSpec := { name := "fnSent", fn := fun _ => fun
  | [d] => { results := [.lit (.bool true)], args := [d] }
  | _ => none }
def fnSentRow : OpenClaim := { program := "ytgnhenfcapbpdaa", sum := "d4d6e84d4ca4fcfe4a31ebf3add5106c80cca289c0bd718b3016f8d1db52b9d2", func := "loop.example/g00850/laws.FnSent", spec := "fnSent", inPlace := ["slices.overlaps[loop.example/g00850/impl.Letter]"], unfollowed := true, recurses := true, apart := false }
def FnSentSaid : Prop := fnSentRow.holds Try.pinned (OpenSpec.ofChange fnSentSpec)

/-- ITS FALSE NEIGHBOUR: 'it returns false'. Refute it at one input. -/
def fnSentWrong : ChangeSpec := { name := "fnSent", fn := fun _ => fun
  | [d] => { results := [.lit (.bool false)], args := [d] }
  | _ => none }
def FnSentWrongFalsely : Prop := fnSentRow.holds Try.pinned (OpenSpec.ofChange fnSentWrong)

/-- 'laws.FnExactIsReady': WHATEVER THE INPUT: true; the input reads as it did. -/
def fnExactIsReadySpec : ChangeSpec := { name := "fnExactIsReady", fn := fun _ => fun
  | [d] => { results := [.lit (.bool true)], args := [d] }
  | _ => none }
def fnExactIsReadyRow : OpenClaim := { program := "ytgnhenfcapbpdaa", sum := "d4d6e84d4ca4fcfe4a31ebf3add5106c80cca289c0bd718b3016f8d1db52b9d2", func := "loop.example/g00850/laws.FnExactIsReady", spec := "fnExactIsReady", inPlace := ["internal/bytealg.IndexByteString"], unfollowed := true, recurses := true, apart := false }
def FnExactIsReadySaid : Prop := fnExactIsReadyRow.holds Try.pinned (OpenSpec.ofChange fnExactIsReadySpec)

/-- ITS FALSE NEIGHBOUR: 'it returns false'. Refute it at one input. -/
def fnExactIsReadyWrong : ChangeSpec := { name := "fnExactIsReady", fn := fun _ => fun
  | [d] => { results := [.lit (.bool false)], args := [d] }
  | _ => none }
def FnExactIsReadyWrongFalsely : Prop := fnExactIsReadyRow.holds Try.pinned (OpenSpec.ofChange fnExactIsReadyWrong)

/- THE SECOND FORM. 'bulk': how many values and letters a reading holds, each counted each time it is reached (what is shared counts as often as it is met; a slice's spare places count too). A statement '..UptoSaid' is the law's where the arguments, and the package variables that the reading takes, are together of bulk at most 1048576: NARROWER than '..Said'. Prove '..Said' where nothing that the law and all that it calls make is longer than what came in: it says more and counts as full. Else prove '..UptoSaid'. A law counts once. -/
mutual
def uptoBulk {H : Type} : DataW H → Nat
  | .lit (.string bytes) => bytes.length + 1
  | .lit _ => 1
  | .nil => 1
  | .ptr d => uptoBulk d + 1
  | .slice elems spare => uptoBulkAll elems + uptoBulkAll spare + 1
  | .agg parts => uptoBulkAll parts + 1
  | .iface _ d => uptoBulk d + 1
  | .map entries => uptoBulkEntries entries + 1
  | .held _ => 1
def uptoBulkAll {H : Type} : List (DataW H) → Nat
  | [] => 0
  | d :: r => uptoBulk d + uptoBulkAll r
def uptoBulkEntries {H : Type} : List (Lit × DataW H) → Nat
  | [] => 0
  | x :: r => uptoBulkEntry x + uptoBulkEntries r
def uptoBulkEntry {H : Type} : Lit × DataW H → Nat
  | (.string bytes, d) => bytes.length + uptoBulk d + 1
  | (_, d) => uptoBulk d + 1
 end
def uptoSmall : (H : Type) → List (DataW H) → Bool := fun _ ds => decide (uptoBulkAll ds ≤ 1048576)
def OpenSpec.upto (s : _root_.Go.ChangeSpec) : _root_.Go.OpenSpec := { _root_.Go.OpenSpec.ofChange s with cond := some uptoSmall }

/-- 'laws.FnExactSendTo', WHERE WHAT IT READS IS OF BULK AT MOST 1048576: true; the input reads as it did. -/
def fnExactSendToUptoRow : OpenClaim := { program := "ytgnhenfcapbpdaa", sum := "d4d6e84d4ca4fcfe4a31ebf3add5106c80cca289c0bd718b3016f8d1db52b9d2", func := "loop.example/g00850/laws.FnExactSendTo", spec := "fnExactSendTo", inPlace := ["slices.overlaps[loop.example/g00850/impl.Letter]"], unfollowed := true, recurses := true, apart := false, narrowed := true }
def FnExactSendToUptoSaid : Prop := fnExactSendToUptoRow.holds Try.pinned (OpenSpec.upto fnExactSendToSpec)

/-- 'laws.FnExactDoubleOne', WHERE WHAT IT READS IS OF BULK AT MOST 1048576: true; the input reads as it did. -/
def fnExactDoubleOneUptoRow : OpenClaim := { program := "ytgnhenfcapbpdaa", sum := "d4d6e84d4ca4fcfe4a31ebf3add5106c80cca289c0bd718b3016f8d1db52b9d2", func := "loop.example/g00850/laws.FnExactDoubleOne", spec := "fnExactDoubleOne", inPlace := ["slices.overlaps[loop.example/g00850/impl.Letter]"], unfollowed := true, recurses := true, apart := false, narrowed := true }
def FnExactDoubleOneUptoSaid : Prop := fnExactDoubleOneUptoRow.holds Try.pinned (OpenSpec.upto fnExactDoubleOneSpec)

/-- 'laws.FnExactDelayOne', WHERE WHAT IT READS IS OF BULK AT MOST 1048576: true; the input reads as it did. -/
def fnExactDelayOneUptoRow : OpenClaim := { program := "ytgnhenfcapbpdaa", sum := "d4d6e84d4ca4fcfe4a31ebf3add5106c80cca289c0bd718b3016f8d1db52b9d2", func := "loop.example/g00850/laws.FnExactDelayOne", spec := "fnExactDelayOne", inPlace := ["slices.overlaps[loop.example/g00850/impl.Letter]"], unfollowed := true, recurses := true, apart := false, narrowed := true }
def FnExactDelayOneUptoSaid : Prop := fnExactDelayOneUptoRow.holds Try.pinned (OpenSpec.upto fnExactDelayOneSpec)

/-- 'laws.FnExactLeaderOf', WHERE WHAT IT READS IS OF BULK AT MOST 1048576: true; the input reads as it did. -/
def fnExactLeaderOfUptoRow : OpenClaim := { program := "ytgnhenfcapbpdaa", sum := "d4d6e84d4ca4fcfe4a31ebf3add5106c80cca289c0bd718b3016f8d1db52b9d2", func := "loop.example/g00850/laws.FnExactLeaderOf", spec := "fnExactLeaderOf", unfollowed := true, recurses := true, apart := false, narrowed := true }
def FnExactLeaderOfUptoSaid : Prop := fnExactLeaderOfUptoRow.holds Try.pinned (OpenSpec.upto fnExactLeaderOfSpec)

/-- 'laws.FnExactIsFair', WHERE WHAT IT READS IS OF BULK AT MOST 1048576: true; the input reads as it did. -/
def fnExactIsFairUptoRow : OpenClaim := { program := "ytgnhenfcapbpdaa", sum := "d4d6e84d4ca4fcfe4a31ebf3add5106c80cca289c0bd718b3016f8d1db52b9d2", func := "loop.example/g00850/laws.FnExactIsFair", spec := "fnExactIsFair", unfollowed := true, recurses := true, apart := false, narrowed := true }
def FnExactIsFairUptoSaid : Prop := fnExactIsFairUptoRow.holds Try.pinned (OpenSpec.upto fnExactIsFairSpec)

/-- 'laws.FnExactFallVoter', WHERE WHAT IT READS IS OF BULK AT MOST 1048576: true; the input reads as it did. -/
def fnExactFallVoterUptoRow : OpenClaim := { program := "ytgnhenfcapbpdaa", sum := "d4d6e84d4ca4fcfe4a31ebf3add5106c80cca289c0bd718b3016f8d1db52b9d2", func := "loop.example/g00850/laws.FnExactFallVoter", spec := "fnExactFallVoter", unfollowed := true, recurses := true, apart := false, narrowed := true }
def FnExactFallVoterUptoSaid : Prop := fnExactFallVoterUptoRow.holds Try.pinned (OpenSpec.upto fnExactFallVoterSpec)

/-- 'laws.FnFree', WHERE WHAT IT READS IS OF BULK AT MOST 1048576: true; the input reads as it did. -/
def fnFreeUptoRow : OpenClaim := { program := "ytgnhenfcapbpdaa", sum := "d4d6e84d4ca4fcfe4a31ebf3add5106c80cca289c0bd718b3016f8d1db52b9d2", func := "loop.example/g00850/laws.FnFree", spec := "fnFree", unfollowed := true, recurses := true, apart := false, narrowed := true }
def FnFreeUptoSaid : Prop := fnFreeUptoRow.holds Try.pinned (OpenSpec.upto fnFreeSpec)

/-- 'laws.FnGiven', WHERE WHAT IT READS IS OF BULK AT MOST 1048576: true; the input reads as it did. -/
def fnGivenUptoRow : OpenClaim := { program := "ytgnhenfcapbpdaa", sum := "d4d6e84d4ca4fcfe4a31ebf3add5106c80cca289c0bd718b3016f8d1db52b9d2", func := "loop.example/g00850/laws.FnGiven", spec := "fnGiven", unfollowed := true, recurses := true, apart := false, narrowed := true }
def FnGivenUptoSaid : Prop := fnGivenUptoRow.holds Try.pinned (OpenSpec.upto fnGivenSpec)

/-- 'laws.FnExactPlayWatch', WHERE WHAT IT READS IS OF BULK AT MOST 1048576: true; the input reads as it did. -/
def fnExactPlayWatchUptoRow : OpenClaim := { program := "ytgnhenfcapbpdaa", sum := "d4d6e84d4ca4fcfe4a31ebf3add5106c80cca289c0bd718b3016f8d1db52b9d2", func := "loop.example/g00850/laws.FnExactPlayWatch", spec := "fnExactPlayWatch", unfollowed := true, recurses := true, apart := false, narrowed := true }
def FnExactPlayWatchUptoSaid : Prop := fnExactPlayWatchUptoRow.holds Try.pinned (OpenSpec.upto fnExactPlayWatchSpec)

/-- 'laws.FnSent', WHERE WHAT IT READS IS OF BULK AT MOST 1048576: true; the input reads as it did. -/
def fnSentUptoRow : OpenClaim := { program := "ytgnhenfcapbpdaa", sum := "d4d6e84d4ca4fcfe4a31ebf3add5106c80cca289c0bd718b3016f8d1db52b9d2", func := "loop.example/g00850/laws.FnSent", spec := "fnSent", inPlace := ["slices.overlaps[loop.example/g00850/impl.Letter]"], unfollowed := true, recurses := true, apart := false, narrowed := true }
def FnSentUptoSaid : Prop := fnSentUptoRow.holds Try.pinned (OpenSpec.upto fnSentSpec)

/-- 'laws.FnExactIsReady', WHERE WHAT IT READS IS OF BULK AT MOST 1048576: true; the input reads as it did. -/
def fnExactIsReadyUptoRow : OpenClaim := { program := "ytgnhenfcapbpdaa", sum := "d4d6e84d4ca4fcfe4a31ebf3add5106c80cca289c0bd718b3016f8d1db52b9d2", func := "loop.example/g00850/laws.FnExactIsReady", spec := "fnExactIsReady", inPlace := ["internal/bytealg.IndexByteString"], unfollowed := true, recurses := true, apart := false, narrowed := true }
def FnExactIsReadyUptoSaid : Prop := fnExactIsReadyUptoRow.holds Try.pinned (OpenSpec.upto fnExactIsReadySpec)

end Rows
end Go.Proofs.Ytgnhenfcapbpdaa

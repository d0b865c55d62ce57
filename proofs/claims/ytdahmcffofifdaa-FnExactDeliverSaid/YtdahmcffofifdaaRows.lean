/-
  No cell of these rows narrows 'for every input' (looked for: loops, veiled, ifaces, maps, wideKeys, modest, calm, conditions, laid).
  DERIVED. THE GIVEN ROWS OF THIS SEAT. 6 by the template 'for every input the law returns true; each argument reads behind the call as it read before'; 0 by the template 'total and deterministic' (their statements: YtdahmcffofifdaaTotals.lean).
  GIVEN WITH THE SEED: the statements are not yours to turn. If you find one false, say at which input.
  Laid BY PROGRAM, IN A SANDBOX (cutbox-rows.mjs): the forced cells as the released guide's own fill.sh prints them over the translation 9368a5c7bdd2215d… (all of the seat's roots in one cut). By AI agents, Wed Nov 11 2026. No macro, syntax, notation, axiom, sorry.
-/
import Derived.Test.YtdahmcffofifdaaChecked
import GoSem.Claim
import GoSem.ClaimJoined
import GoSem.ClaimMapViews
import Derived.JoinedTies
import Derived.KernelRfl
namespace Go.Proofs.Ytdahmcffofifdaa
/- THE CELL 'sum', in the pinned program and in every row, IS THE sha256 OF THE DUMP (.gsa) THAT YtdahmcffofifdaaProg.lean LOADS. Nothing in Lean hashes anything: it is a label: what it is worth is what the hold of that sum in a sandbox is worth. -/
noncomputable def Try.pinned : Pinned := { name := "ytdahmcffofifdaa", sum := "9368a5c7bdd2215d9fc44011de0e3cb14d06c105a6432f42fc052d70416245b1", checked := Try.checked }
namespace Rows
def none {H : Type} : Left H := { results := [], args := [] }

/-- 'laws.FnExactDeedAhead': WHATEVER THE INPUT: true; the input reads as it did. -/
def fnExactDeedAheadSpec : ChangeSpec := { name := "fnExactDeedAhead", fn := fun _ => fun
  | [d1, d2] => { results := [.lit (.bool true)], args := [d1, d2] }
  | _ => none }
def fnExactDeedAheadRow : OpenClaim := { program := "ytdahmcffofifdaa", sum := "9368a5c7bdd2215d9fc44011de0e3cb14d06c105a6432f42fc052d70416245b1", func := "loop.example/g00850/laws.FnExactDeedAhead", spec := "fnExactDeedAhead", inPlace := ["internal/bytealg.IndexByteString"], unfollowed := true, recurses := true, apart := false }
def FnExactDeedAheadSaid : Prop := fnExactDeedAheadRow.holds Try.pinned (OpenSpec.ofChange fnExactDeedAheadSpec)

/-- ITS FALSE NEIGHBOUR: 'it returns false'. Refute it at one input. -/
def fnExactDeedAheadWrong : ChangeSpec := { name := "fnExactDeedAhead", fn := fun _ => fun
  | [d1, d2] => { results := [.lit (.bool false)], args := [d1, d2] }
  | _ => none }
def FnExactDeedAheadWrongFalsely : Prop := fnExactDeedAheadRow.holds Try.pinned (OpenSpec.ofChange fnExactDeedAheadWrong)

/-- 'laws.FnExactDeliver': WHATEVER THE INPUT: true; the input reads as it did. -/
def fnExactDeliverSpec : ChangeSpec := { name := "fnExactDeliver", fn := fun _ => fun
  | [d] => { results := [.lit (.bool true)], args := [d] }
  | _ => none }
def fnExactDeliverRow : OpenClaim := { program := "ytdahmcffofifdaa", sum := "9368a5c7bdd2215d9fc44011de0e3cb14d06c105a6432f42fc052d70416245b1", func := "loop.example/g00850/laws.FnExactDeliver", spec := "fnExactDeliver", unfollowed := true, recurses := true, apart := false }
def FnExactDeliverSaid : Prop := fnExactDeliverRow.holds Try.pinned (OpenSpec.ofChange fnExactDeliverSpec)

/-- ITS FALSE NEIGHBOUR: 'it returns false'. Refute it at one input. -/
def fnExactDeliverWrong : ChangeSpec := { name := "fnExactDeliver", fn := fun _ => fun
  | [d] => { results := [.lit (.bool false)], args := [d] }
  | _ => none }
def FnExactDeliverWrongFalsely : Prop := fnExactDeliverRow.holds Try.pinned (OpenSpec.ofChange fnExactDeliverWrong)

/-- 'laws.FnExactLoseOne': WHATEVER THE INPUT: true; the input reads as it did. -/
def fnExactLoseOneSpec : ChangeSpec := { name := "fnExactLoseOne", fn := fun _ => fun
  | [d1, d2] => { results := [.lit (.bool true)], args := [d1, d2] }
  | _ => none }
def fnExactLoseOneRow : OpenClaim := { program := "ytdahmcffofifdaa", sum := "9368a5c7bdd2215d9fc44011de0e3cb14d06c105a6432f42fc052d70416245b1", func := "loop.example/g00850/laws.FnExactLoseOne", spec := "fnExactLoseOne", unfollowed := true, recurses := true, apart := false }
def FnExactLoseOneSaid : Prop := fnExactLoseOneRow.holds Try.pinned (OpenSpec.ofChange fnExactLoseOneSpec)

/-- ITS FALSE NEIGHBOUR: 'it returns false'. Refute it at one input. -/
def fnExactLoseOneWrong : ChangeSpec := { name := "fnExactLoseOne", fn := fun _ => fun
  | [d1, d2] => { results := [.lit (.bool false)], args := [d1, d2] }
  | _ => none }
def FnExactLoseOneWrongFalsely : Prop := fnExactLoseOneRow.holds Try.pinned (OpenSpec.ofChange fnExactLoseOneWrong)

/-- 'laws.FnExactGoodHistory': WHATEVER THE INPUT: true; the input reads as it did. -/
def fnExactGoodHistorySpec : ChangeSpec := { name := "fnExactGoodHistory", fn := fun _ => fun
  | [d] => { results := [.lit (.bool true)], args := [d] }
  | _ => none }
def fnExactGoodHistoryRow : OpenClaim := { program := "ytdahmcffofifdaa", sum := "9368a5c7bdd2215d9fc44011de0e3cb14d06c105a6432f42fc052d70416245b1", func := "loop.example/g00850/laws.FnExactGoodHistory", spec := "fnExactGoodHistory", inPlace := ["internal/bytealg.IndexByteString"], unfollowed := true, recurses := true, apart := false }
def FnExactGoodHistorySaid : Prop := fnExactGoodHistoryRow.holds Try.pinned (OpenSpec.ofChange fnExactGoodHistorySpec)

/-- ITS FALSE NEIGHBOUR: 'it returns false'. Refute it at one input. -/
def fnExactGoodHistoryWrong : ChangeSpec := { name := "fnExactGoodHistory", fn := fun _ => fun
  | [d] => { results := [.lit (.bool false)], args := [d] }
  | _ => none }
def FnExactGoodHistoryWrongFalsely : Prop := fnExactGoodHistoryRow.holds Try.pinned (OpenSpec.ofChange fnExactGoodHistoryWrong)

/-- 'laws.FnExactTimesFit': WHATEVER THE INPUT: true; the input reads as it did. -/
def fnExactTimesFitSpec : ChangeSpec := { name := "fnExactTimesFit", fn := fun _ => fun
  | [d] => { results := [.lit (.bool true)], args := [d] }
  | _ => none }
def fnExactTimesFitRow : OpenClaim := { program := "ytdahmcffofifdaa", sum := "9368a5c7bdd2215d9fc44011de0e3cb14d06c105a6432f42fc052d70416245b1", func := "loop.example/g00850/laws.FnExactTimesFit", spec := "fnExactTimesFit", inPlace := ["internal/bytealg.IndexByteString"], unfollowed := true, recurses := true, apart := false }
def FnExactTimesFitSaid : Prop := fnExactTimesFitRow.holds Try.pinned (OpenSpec.ofChange fnExactTimesFitSpec)

/-- ITS FALSE NEIGHBOUR: 'it returns false'. Refute it at one input. -/
def fnExactTimesFitWrong : ChangeSpec := { name := "fnExactTimesFit", fn := fun _ => fun
  | [d] => { results := [.lit (.bool false)], args := [d] }
  | _ => none }
def FnExactTimesFitWrongFalsely : Prop := fnExactTimesFitRow.holds Try.pinned (OpenSpec.ofChange fnExactTimesFitWrong)

/-- 'laws.FnExactGoodPoll': WHATEVER THE INPUT: true; the input reads as it did. -/
def fnExactGoodPollSpec : ChangeSpec := { name := "fnExactGoodPoll", fn := fun _ => fun
  | [d] => { results := [.lit (.bool true)], args := [d] }
  | _ => none }
def fnExactGoodPollRow : OpenClaim := { program := "ytdahmcffofifdaa", sum := "9368a5c7bdd2215d9fc44011de0e3cb14d06c105a6432f42fc052d70416245b1", func := "loop.example/g00850/laws.FnExactGoodPoll", spec := "fnExactGoodPoll", unfollowed := true, recurses := true, apart := false }
def FnExactGoodPollSaid : Prop := fnExactGoodPollRow.holds Try.pinned (OpenSpec.ofChange fnExactGoodPollSpec)

/-- ITS FALSE NEIGHBOUR: 'it returns false'. Refute it at one input. -/
def fnExactGoodPollWrong : ChangeSpec := { name := "fnExactGoodPoll", fn := fun _ => fun
  | [d] => { results := [.lit (.bool false)], args := [d] }
  | _ => none }
def FnExactGoodPollWrongFalsely : Prop := fnExactGoodPollRow.holds Try.pinned (OpenSpec.ofChange fnExactGoodPollWrong)

/- THE SECOND FORM. 'bulk': how many values and letters a reading holds, each counted each time it is reached (what is shared counts as often as it is met; a slice's spare places count too). A statement '..UptoSaid' is the law's where the arguments, and the package variables that the reading takes, are together of bulk at most 1048576: NARROWER than '..Said'. Prove '..Said' where nothing that the law and all that it calls make is longer than what came in: it says more and counts as full. Else prove '..UptoSaid'. A law counts once. -/
mutual
def uptoBulk {H : Type} : DataW H → Nat
  | .lit (.string bytes) => bytes.length + 1
  | .lit _ => 1
  | .nil => 1
  | .ptr d => uptoBulk d + 1
  | .slice elems spare => uptoBulkAll elems + uptoBulkAll spare + 1
  | .agg parts => uptoBulkAll parts + 1
  | .iface _ d => uptoBulk d + 1
  | .map entries => uptoBulkEntries entries + 1
  | .held _ => 1
def uptoBulkAll {H : Type} : List (DataW H) → Nat
  | [] => 0
  | d :: r => uptoBulk d + uptoBulkAll r
def uptoBulkEntries {H : Type} : List (Lit × DataW H) → Nat
  | [] => 0
  | x :: r => uptoBulkEntry x + uptoBulkEntries r
def uptoBulkEntry {H : Type} : Lit × DataW H → Nat
  | (.string bytes, d) => bytes.length + uptoBulk d + 1
  | (_, d) => uptoBulk d + 1
 end
def uptoSmall : (H : Type) → List (DataW H) → Bool := fun _ ds => decide (uptoBulkAll ds ≤ 1048576)
def OpenSpec.upto (s : _root_.Go.ChangeSpec) : _root_.Go.OpenSpec := { _root_.Go.OpenSpec.ofChange s with cond := some uptoSmall }

/-- 'laws.FnExactDeedAhead', WHERE WHAT IT READS IS OF BULK AT MOST 1048576: true; the input reads as it did. -/
def fnExactDeedAheadUptoRow : OpenClaim := { program := "ytdahmcffofifdaa", sum := "9368a5c7bdd2215d9fc44011de0e3cb14d06c105a6432f42fc052d70416245b1", func := "loop.example/g00850/laws.FnExactDeedAhead", spec := "fnExactDeedAhead", inPlace := ["internal/bytealg.IndexByteString"], unfollowed := true, recurses := true, apart := false, narrowed := true }
def FnExactDeedAheadUptoSaid : Prop := fnExactDeedAheadUptoRow.holds Try.pinned (OpenSpec.upto fnExactDeedAheadSpec)

/-- 'laws.FnExactDeliver', WHERE WHAT IT READS IS OF BULK AT MOST 1048576: true; the input reads as it did. -/
def fnExactDeliverUptoRow : OpenClaim := { program := "ytdahmcffofifdaa", sum := "9368a5c7bdd2215d9fc44011de0e3cb14d06c105a6432f42fc052d70416245b1", func := "loop.example/g00850/laws.FnExactDeliver", spec := "fnExactDeliver", unfollowed := true, recurses := true, apart := false, narrowed := true }
def FnExactDeliverUptoSaid : Prop := fnExactDeliverUptoRow.holds Try.pinned (OpenSpec.upto fnExactDeliverSpec)

/-- 'laws.FnExactLoseOne', WHERE WHAT IT READS IS OF BULK AT MOST 1048576: true; the input reads as it did. -/
def fnExactLoseOneUptoRow : OpenClaim := { program := "ytdahmcffofifdaa", sum := "9368a5c7bdd2215d9fc44011de0e3cb14d06c105a6432f42fc052d70416245b1", func := "loop.example/g00850/laws.FnExactLoseOne", spec := "fnExactLoseOne", unfollowed := true, recurses := true, apart := false, narrowed := true }
def FnExactLoseOneUptoSaid : Prop := fnExactLoseOneUptoRow.holds Try.pinned (OpenSpec.upto fnExactLoseOneSpec)

/-- 'laws.FnExactGoodHistory', WHERE WHAT IT READS IS OF BULK AT MOST 1048576: true; the input reads as it did. -/
def fnExactGoodHistoryUptoRow : OpenClaim := { program := "ytdahmcffofifdaa", sum := "9368a5c7bdd2215d9fc44011de0e3cb14d06c105a6432f42fc052d70416245b1", func := "loop.example/g00850/laws.FnExactGoodHistory", spec := "fnExactGoodHistory", inPlace := ["internal/bytealg.IndexByteString"], unfollowed := true, recurses := true, apart := false, narrowed := true }
def FnExactGoodHistoryUptoSaid : Prop := fnExactGoodHistoryUptoRow.holds Try.pinned (OpenSpec.upto fnExactGoodHistorySpec)

/-- 'laws.FnExactTimesFit', WHERE WHAT IT READS IS OF BULK AT MOST 1048576: true; the input reads as it did. -/
def fnExactTimesFitUptoRow : OpenClaim := { program := "ytdahmcffofifdaa", sum := "9368a5c7bdd2215d9fc44011de0e3cb14d06c105a6432f42fc052d70416245b1", func := "loop.example/g00850/laws.FnExactTimesFit", spec := "fnExactTimesFit", inPlace := ["internal/bytealg.IndexByteString"], unfollowed := true, recurses := true, apart := false, narrowed := true }
def FnExactTimesFitUptoSaid : Prop := fnExactTimesFitUptoRow.holds Try.pinned (OpenSpec.upto fnExactTimesFitSpec)

/-- 'laws.FnExactGoodPoll', WHERE WHAT IT READS IS OF BULK AT MOST 1048576: true; the input reads as it did. -/
def fnExactGoodPollUptoRow : OpenClaim := { program := "ytdahmcffofifdaa", sum := "9368a5c7bdd2215d9fc44011de0e3cb14d06c105a6432f42fc052d70416245b1", func := "loop.example/g00850/laws.FnExactGoodPoll", spec := "fnExactGoodPoll", unfollowed := true, recurses := true, apart := false, narrowed := true }
def FnExactGoodPollUptoSaid : Prop := fnExactGoodPollUptoRow.holds Try.pinned (OpenSpec.upto fnExactGoodPollSpec)

end Rows
end Go.Proofs.Ytdahmcffofifdaa

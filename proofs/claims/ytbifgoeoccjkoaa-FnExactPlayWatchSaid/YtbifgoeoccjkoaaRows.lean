/-
  No cell of these rows narrows 'for every input' (looked for: loops, veiled, ifaces, maps, wideKeys, modest, calm, conditions, laid).
  DERIVED. THE GIVEN ROWS OF THIS SEAT. 2 by the template 'for every input the law returns true; each argument reads behind the call as it read before'; 0 by the template 'total and deterministic' (their statements: YtbifgoeoccjkoaaTotals.lean).
  GIVEN WITH THE SEED: the statements are not yours to turn. If you find one false, say at which input.
  Laid BY PROGRAM, IN A SANDBOX (cutbox-rows.mjs): the forced cells as the released guide's own fill.sh prints them over the translation a86d5e04fb616634… (all of the seat's roots in one cut). By AI agents, Wed Nov 11 2026. No macro, syntax, notation, axiom, sorry.
-/
import Derived.Test.YtbifgoeoccjkoaaChecked
import GoSem.Claim
import GoSem.ClaimJoined
import GoSem.ClaimMapViews
import Derived.JoinedTies
import Derived.KernelRfl
namespace Go.Proofs.Ytbifgoeoccjkoaa
/- THE CELL 'sum', in the pinned program and in every row, IS THE sha256 OF THE DUMP (.gsa) THAT YtbifgoeoccjkoaaProg.lean LOADS. Nothing in Lean hashes anything: it is a label: what it is worth is what the hold of that sum in a sandbox is worth. -/
noncomputable def Try.pinned : Pinned := { name := "ytbifgoeoccjkoaa", sum := "a86d5e04fb616634207670b1e216b666f02339140bdd6427415545f711bc1c34", checked := Try.checked }
namespace Rows
def none {H : Type} : Left H := { results := [], args := [] }

/-- 'laws.FnExactIsReady': WHATEVER THE INPUT: true; the input reads as it did. -/
def fnExactIsReadySpec : ChangeSpec := { name := "fnExactIsReady", fn := fun _ => fun
  | [d] => { results := [.lit (.bool true)], args := [d] }
  | _ => none }
def fnExactIsReadyRow : OpenClaim := { program := "ytbifgoeoccjkoaa", sum := "a86d5e04fb616634207670b1e216b666f02339140bdd6427415545f711bc1c34", func := "loop.example/g00850/laws.FnExactIsReady", spec := "fnExactIsReady", inPlace := ["internal/bytealg.IndexByteString"], unfollowed := true, recurses := true, apart := false }
def FnExactIsReadySaid : Prop := fnExactIsReadyRow.holds Try.pinned (OpenSpec.ofChange fnExactIsReadySpec)

/-- ITS FALSE NEIGHBOUR: 'it returns false'. Refute it at one input. -/
def fnExactIsReadyWrong : ChangeSpec := { name := "fnExactIsReady", fn := fun _ => fun
  | [d] => { results := [.lit (.bool false)], args := [d] }
  | _ => none }
def FnExactIsReadyWrongFalsely : Prop := fnExactIsReadyRow.holds Try.pinned (OpenSpec.ofChange fnExactIsReadyWrong)

/-- 'laws.FnExactPlayWatch': WHATEVER THE INPUT: true; the input reads as it did. -/
def fnExactPlayWatchSpec : ChangeSpec := { name := "fnExactPlayWatch", fn := fun _ => fun
  | [d1, d2] => { results := [.lit (.bool true)], args := [d1, d2] }
  | _ => none }
def fnExactPlayWatchRow : OpenClaim := { program := "ytbifgoeoccjkoaa", sum := "a86d5e04fb616634207670b1e216b666f02339140bdd6427415545f711bc1c34", func := "loop.example/g00850/laws.FnExactPlayWatch", spec := "fnExactPlayWatch", unfollowed := true, recurses := true, apart := false }
def FnExactPlayWatchSaid : Prop := fnExactPlayWatchRow.holds Try.pinned (OpenSpec.ofChange fnExactPlayWatchSpec)

/-- ITS FALSE NEIGHBOUR: 'it returns false'. Refute it at one input. -/
def fnExactPlayWatchWrong : ChangeSpec := { name := "fnExactPlayWatch", fn := fun _ => fun
  | [d1, d2] => { results := [.lit (.bool false)], args := [d1, d2] }
  | _ => none }
def FnExactPlayWatchWrongFalsely : Prop := fnExactPlayWatchRow.holds Try.pinned (OpenSpec.ofChange fnExactPlayWatchWrong)

/- THE SECOND FORM. 'bulk': how many values and letters a reading holds, each counted each time it is reached (what is shared counts as often as it is met; a slice's spare places count too). A statement '..UptoSaid' is the law's where the arguments, and the package variables that the reading takes, are together of bulk at most 1048576: NARROWER than '..Said'. Prove '..Said' where nothing that the law and all that it calls make is longer than what came in: it says more and counts as full. Else prove '..UptoSaid'. A law counts once. -/
mutual
def uptoBulk {H : Type} : DataW H → Nat
  | .lit (.string bytes) => bytes.length + 1
  | .lit _ => 1
  | .nil => 1
  | .ptr d => uptoBulk d + 1
  | .slice elems spare => uptoBulkAll elems + uptoBulkAll spare + 1
  | .agg parts => uptoBulkAll parts + 1
  | .iface _ d => uptoBulk d + 1
  | .map entries => uptoBulkEntries entries + 1
  | .held _ => 1
def uptoBulkAll {H : Type} : List (DataW H) → Nat
  | [] => 0
  | d :: r => uptoBulk d + uptoBulkAll r
def uptoBulkEntries {H : Type} : List (Lit × DataW H) → Nat
  | [] => 0
  | x :: r => uptoBulkEntry x + uptoBulkEntries r
def uptoBulkEntry {H : Type} : Lit × DataW H → Nat
  | (.string bytes, d) => bytes.length + uptoBulk d + 1
  | (_, d) => uptoBulk d + 1
 end
def uptoSmall : (H : Type) → List (DataW H) → Bool := fun _ ds => decide (uptoBulkAll ds ≤ 1048576)
def OpenSpec.upto (s : _root_.Go.ChangeSpec) : _root_.Go.OpenSpec := { _root_.Go.OpenSpec.ofChange s with cond := some uptoSmall }

/-- 'laws.FnExactIsReady', WHERE WHAT IT READS IS OF BULK AT MOST 1048576: true; the input reads as it did. -/
def fnExactIsReadyUptoRow : OpenClaim := { program := "ytbifgoeoccjkoaa", sum := "a86d5e04fb616634207670b1e216b666f02339140bdd6427415545f711bc1c34", func := "loop.example/g00850/laws.FnExactIsReady", spec := "fnExactIsReady", inPlace := ["internal/bytealg.IndexByteString"], unfollowed := true, recurses := true, apart := false, narrowed := true }
def FnExactIsReadyUptoSaid : Prop := fnExactIsReadyUptoRow.holds Try.pinned (OpenSpec.upto fnExactIsReadySpec)

/-- 'laws.FnExactPlayWatch', WHERE WHAT IT READS IS OF BULK AT MOST 1048576: true; the input reads as it did. -/
def fnExactPlayWatchUptoRow : OpenClaim := { program := "ytbifgoeoccjkoaa", sum := "a86d5e04fb616634207670b1e216b666f02339140bdd6427415545f711bc1c34", func := "loop.example/g00850/laws.FnExactPlayWatch", spec := "fnExactPlayWatch", unfollowed := true, recurses := true, apart := false, narrowed := true }
def FnExactPlayWatchUptoSaid : Prop := fnExactPlayWatchUptoRow.holds Try.pinned (OpenSpec.upto fnExactPlayWatchSpec)

end Rows
end Go.Proofs.Ytbifgoeoccjkoaa

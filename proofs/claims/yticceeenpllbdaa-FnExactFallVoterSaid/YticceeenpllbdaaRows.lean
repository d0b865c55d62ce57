/-
  No cell of these rows narrows 'for every input' (looked for: loops, veiled, ifaces, maps, wideKeys, modest, calm, conditions, laid).
  DERIVED. THE GIVEN ROWS OF THIS SEAT. 3 by the template 'for every input the law returns true; each argument reads behind the call as it read before'; 0 by the template 'total and deterministic' (their statements: YticceeenpllbdaaTotals.lean).
  GIVEN WITH THE SEED: the statements are not yours to turn. If you find one false, say at which input.
  Laid BY PROGRAM, IN A SANDBOX (cutbox-rows.mjs): the forced cells as the released guide's own fill.sh prints them over the translation b14fb1fd5d1665d0… (all of the seat's roots in one cut). By AI agents, Wed Nov 11 2026. No macro, syntax, notation, axiom, sorry.
-/
import Derived.Test.YticceeenpllbdaaChecked
import GoSem.Claim
import GoSem.ClaimJoined
import GoSem.ClaimMapViews
import Derived.JoinedTies
import Derived.KernelRfl
namespace Go.Proofs.Yticceeenpllbdaa
/- THE CELL 'sum', in the pinned program and in every row, IS THE sha256 OF THE DUMP (.gsa) THAT YticceeenpllbdaaProg.lean LOADS. Nothing in Lean hashes anything: it is a label: what it is worth is what the hold of that sum in a sandbox is worth. -/
noncomputable def Try.pinned : Pinned := { name := "yticceeenpllbdaa", sum := "b14fb1fd5d1665d0dab2133ae8aff70ca176818602cfe7357aaba524abccadf9", checked := Try.checked }
namespace Rows
def none {H : Type} : Left H := { results := [], args := [] }

/-- 'laws.FnExactLeaderOf': WHATEVER THE INPUT: true; the input reads as it did. -/
def fnExactLeaderOfSpec : ChangeSpec := { name := "fnExactLeaderOf", fn := fun _ => fun
  | [d1, d2] => { results := [.lit (.bool true)], args := [d1, d2] }
  | _ => none }
def fnExactLeaderOfRow : OpenClaim := { program := "yticceeenpllbdaa", sum := "b14fb1fd5d1665d0dab2133ae8aff70ca176818602cfe7357aaba524abccadf9", func := "loop.example/g00850/laws.FnExactLeaderOf", spec := "fnExactLeaderOf", unfollowed := true, recurses := true, apart := false }
def FnExactLeaderOfSaid : Prop := fnExactLeaderOfRow.holds Try.pinned (OpenSpec.ofChange fnExactLeaderOfSpec)

/-- ITS FALSE NEIGHBOUR: 'it returns false'. Refute it at one input. -/
def fnExactLeaderOfWrong : ChangeSpec := { name := "fnExactLeaderOf", fn := fun _ => fun
  | [d1, d2] => { results := [.lit (.bool false)], args := [d1, d2] }
  | _ => none }
def FnExactLeaderOfWrongFalsely : Prop := fnExactLeaderOfRow.holds Try.pinned (OpenSpec.ofChange fnExactLeaderOfWrong)

/-- 'laws.FnExactIsFair': WHATEVER THE INPUT: true; the input reads as it did. -/
def fnExactIsFairSpec : ChangeSpec := { name := "fnExactIsFair", fn := fun _ => fun
  | [d] => { results := [.lit (.bool true)], args := [d] }
  | _ => none }
def fnExactIsFairRow : OpenClaim := { program := "yticceeenpllbdaa", sum := "b14fb1fd5d1665d0dab2133ae8aff70ca176818602cfe7357aaba524abccadf9", func := "loop.example/g00850/laws.FnExactIsFair", spec := "fnExactIsFair", unfollowed := true, recurses := true, apart := false }
def FnExactIsFairSaid : Prop := fnExactIsFairRow.holds Try.pinned (OpenSpec.ofChange fnExactIsFairSpec)

/-- ITS FALSE NEIGHBOUR: 'it returns false'. Refute it at one input. -/
def fnExactIsFairWrong : ChangeSpec := { name := "fnExactIsFair", fn := fun _ => fun
  | [d] => { results := [.lit (.bool false)], args := [d] }
  | _ => none }
def FnExactIsFairWrongFalsely : Prop := fnExactIsFairRow.holds Try.pinned (OpenSpec.ofChange fnExactIsFairWrong)

/-- 'laws.FnExactFallVoter': WHATEVER THE INPUT: true; the input reads as it did. -/
def fnExactFallVoterSpec : ChangeSpec := { name := "fnExactFallVoter", fn := fun _ => fun
  | [d1, d2] => { results := [.lit (.bool true)], args := [d1, d2] }
  | _ => none }
def fnExactFallVoterRow : OpenClaim := { program := "yticceeenpllbdaa", sum := "b14fb1fd5d1665d0dab2133ae8aff70ca176818602cfe7357aaba524abccadf9", func := "loop.example/g00850/laws.FnExactFallVoter", spec := "fnExactFallVoter", unfollowed := true, recurses := true, apart := false }
def FnExactFallVoterSaid : Prop := fnExactFallVoterRow.holds Try.pinned (OpenSpec.ofChange fnExactFallVoterSpec)

/-- ITS FALSE NEIGHBOUR: 'it returns false'. Refute it at one input. -/
def fnExactFallVoterWrong : ChangeSpec := { name := "fnExactFallVoter", fn := fun _ => fun
  | [d1, d2] => { results := [.lit (.bool false)], args := [d1, d2] }
  | _ => none }
def FnExactFallVoterWrongFalsely : Prop := fnExactFallVoterRow.holds Try.pinned (OpenSpec.ofChange fnExactFallVoterWrong)

/- THE SECOND FORM. 'bulk': how many values and letters a reading holds, each counted each time it is reached (what is shared counts as often as it is met; a slice's spare places count too). A statement '..UptoSaid' is the law's where the arguments, and the package variables that the reading takes, are together of bulk at most 1048576: NARROWER than '..Said'. Prove '..Said' where nothing that the law and all that it calls make is longer than what came in: it says more and counts as full. Else prove '..UptoSaid'. A law counts once. -/
mutual
def uptoBulk {H : Type} : DataW H → Nat
  | .lit (.string bytes) => bytes.length + 1
  | .lit _ => 1
  | .nil => 1
  | .ptr d => uptoBulk d + 1
  | .slice elems spare => uptoBulkAll elems + uptoBulkAll spare + 1
  | .agg parts => uptoBulkAll parts + 1
  | .iface _ d => uptoBulk d + 1
  | .map entries => uptoBulkEntries entries + 1
  | .held _ => 1
def uptoBulkAll {H : Type} : List (DataW H) → Nat
  | [] => 0
  | d :: r => uptoBulk d + uptoBulkAll r
def uptoBulkEntries {H : Type} : List (Lit × DataW H) → Nat
  | [] => 0
  | x :: r => uptoBulkEntry x + uptoBulkEntries r
def uptoBulkEntry {H : Type} : Lit × DataW H → Nat
  | (.string bytes, d) => bytes.length + uptoBulk d + 1
  | (_, d) => uptoBulk d + 1
 end
def uptoSmall : (H : Type) → List (DataW H) → Bool := fun _ ds => decide (uptoBulkAll ds ≤ 1048576)
def OpenSpec.upto (s : _root_.Go.ChangeSpec) : _root_.Go.OpenSpec := { _root_.Go.OpenSpec.ofChange s with cond := some uptoSmall }

/-- 'laws.FnExactLeaderOf', WHERE WHAT IT READS IS OF BULK AT MOST 1048576: true; the input reads as it did. -/
def fnExactLeaderOfUptoRow : OpenClaim := { program := "yticceeenpllbdaa", sum := "b14fb1fd5d1665d0dab2133ae8aff70ca176818602cfe7357aaba524abccadf9", func := "loop.example/g00850/laws.FnExactLeaderOf", spec := "fnExactLeaderOf", unfollowed := true, recurses := true, apart := false, narrowed := true }
def FnExactLeaderOfUptoSaid : Prop := fnExactLeaderOfUptoRow.holds Try.pinned (OpenSpec.upto fnExactLeaderOfSpec)

/-- 'laws.FnExactIsFair', WHERE WHAT IT READS IS OF BULK AT MOST 1048576: true; the input reads as it did. -/
def fnExactIsFairUptoRow : OpenClaim := { program := "yticceeenpllbdaa", sum := "b14fb1fd5d1665d0dab2133ae8aff70ca176818602cfe7357aaba524abccadf9", func := "loop.example/g00850/laws.FnExactIsFair", spec := "fnExactIsFair", unfollowed := true, recurses := true, apart := false, narrowed := true }
def FnExactIsFairUptoSaid : Prop := fnExactIsFairUptoRow.holds Try.pinned (OpenSpec.upto fnExactIsFairSpec)

/-- 'laws.FnExactFallVoter', WHERE WHAT IT READS IS OF BULK AT MOST 1048576: true; the input reads as it did. -/
def fnExactFallVoterUptoRow : OpenClaim := { program := "yticceeenpllbdaa", sum := "b14fb1fd5d1665d0dab2133ae8aff70ca176818602cfe7357aaba524abccadf9", func := "loop.example/g00850/laws.FnExactFallVoter", spec := "fnExactFallVoter", unfollowed := true, recurses := true, apart := false, narrowed := true }
def FnExactFallVoterUptoSaid : Prop := fnExactFallVoterUptoRow.holds Try.pinned (OpenSpec.upto fnExactFallVoterSpec)

end Rows
end Go.Proofs.Yticceeenpllbdaa

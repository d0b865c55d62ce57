/-
  No cell of these rows narrows 'for every input' (looked for: loops, veiled, ifaces, maps, wideKeys, modest, calm, conditions, laid).
  DERIVED. THE GIVEN ROWS OF THIS SEAT. 2 by the template 'for every input the law returns true; each argument reads behind the call as it read before'; 0 by the template 'total and deterministic' (their statements: YtjchgajhlpognaaTotals.lean).
  GIVEN WITH THE SEED: the statements are not yours to turn. If you find one false, say at which input.
  Laid BY PROGRAM, IN A SANDBOX (cutbox-rows.mjs): the forced cells as the released guide's own fill.sh prints them over the translation 0277d27057a84dc9… (all of the seat's roots in one cut). By AI agents, Wed Nov 11 2026. No macro, syntax, notation, axiom, sorry.
-/
import Derived.Test.YtjchgajhlpognaaChecked
import GoSem.Claim
import GoSem.ClaimJoined
import GoSem.ClaimMapViews
import Derived.JoinedTies
import Derived.KernelRfl
namespace Go.Proofs.Ytjchgajhlpognaa
/- THE CELL 'sum', in the pinned program and in every row, IS THE sha256 OF THE DUMP (.gsa) THAT YtjchgajhlpognaaProg.lean LOADS. Nothing in Lean hashes anything: it is a label: what it is worth is what the hold of that sum in a sandbox is worth. -/
noncomputable def Try.pinned : Pinned := { name := "ytjchgajhlpognaa", sum := "0277d27057a84dc9ace105ee23688c6e369f0f094cf002c1640700fabb4c2941", checked := Try.checked }
namespace Rows
def none {H : Type} : Left H := { results := [], args := [] }

/-- 'laws.FnFree': WHATEVER THE INPUT: true; the input reads as it did. -/
def fnFreeSpec : ChangeSpec := { name := "fnFree", fn := fun _ => fun
  | [d] => { results := [.lit (.bool true)], args := [d] }
  | _ => none }
def fnFreeRow : OpenClaim := { program := "ytjchgajhlpognaa", sum := "0277d27057a84dc9ace105ee23688c6e369f0f094cf002c1640700fabb4c2941", func := "loop.example/g00850/laws.FnFree", spec := "fnFree", unfollowed := true, recurses := true, apart := false }
def FnFreeSaid : Prop := fnFreeRow.holds Try.pinned (OpenSpec.ofChange fnFreeSpec)

/-- ITS FALSE NEIGHBOUR: 'it returns false'. Refute it at one input. -/
def fnFreeWrong : ChangeSpec := { name := "fnFree", fn := fun _ => fun
  | [d] => { results := [.lit (.bool false)], args := [d] }
  | _ => none }
def FnFreeWrongFalsely : Prop := fnFreeRow.holds Try.pinned (OpenSpec.ofChange fnFreeWrong)

/-- 'laws.FnGiven': WHATEVER THE INPUT: true; the input reads as it did. -/
def fnGivenSpec : ChangeSpec := { name := "fnGiven", fn := fun _ => fun
  | [d] => { results := [.lit (.bool true)], args := [d] }
  | _ => none }
def fnGivenRow : OpenClaim := { program := "ytjchgajhlpognaa", sum := "0277d27057a84dc9ace105ee23688c6e369f0f094cf002c1640700fabb4c2941", func := "loop.example/g00850/laws.FnGiven", spec := "fnGiven", unfollowed := true, recurses := true, apart := false }
def FnGivenSaid : Prop := fnGivenRow.holds Try.pinned (OpenSpec.ofChange fnGivenSpec)

/-- ITS FALSE NEIGHBOUR: 'it returns false'. Refute it at one input. -/
def fnGivenWrong : ChangeSpec := { name := "fnGiven", fn := fun _ => fun
  | [d] => { results := [.lit (.bool false)], args := [d] }
  | _ => none }
def FnGivenWrongFalsely : Prop := fnGivenRow.holds Try.pinned (OpenSpec.ofChange fnGivenWrong)

/- THE SECOND FORM. 'bulk': how many values and letters a reading holds, each counted each time it is reached (what is shared counts as often as it is met; a slice's spare places count too). A statement '..UptoSaid' is the law's where the arguments, and the package variables that the reading takes, are together of bulk at most 1048576: NARROWER than '..Said'. Prove '..Said' where nothing that the law and all that it calls make is longer than what came in: it says more and counts as full. Else prove '..UptoSaid'. A law counts once. -/
mutual
def uptoBulk {H : Type} : DataW H → Nat
  | .lit (.string bytes) => bytes.length + 1
  | .lit _ => 1
  | .nil => 1
  | .ptr d => uptoBulk d + 1
  | .slice elems spare => uptoBulkAll elems + uptoBulkAll spare + 1
  | .agg parts => uptoBulkAll parts + 1
  | .iface _ d => uptoBulk d + 1
  | .map entries => uptoBulkEntries entries + 1
  | .held _ => 1
def uptoBulkAll {H : Type} : List (DataW H) → Nat
  | [] => 0
  | d :: r => uptoBulk d + uptoBulkAll r
def uptoBulkEntries {H : Type} : List (Lit × DataW H) → Nat
  | [] => 0
  | x :: r => uptoBulkEntry x + uptoBulkEntries r
def uptoBulkEntry {H : Type} : Lit × DataW H → Nat
  | (.string bytes, d) => bytes.length + uptoBulk d + 1
  | (_, d) => uptoBulk d + 1
 end
def uptoSmall : (H : Type) → List (DataW H) → Bool := fun _ ds => decide (uptoBulkAll ds ≤ 1048576)
def OpenSpec.upto (s : _root_.Go.ChangeSpec) : _root_.Go.OpenSpec := { _root_.Go.OpenSpec.ofChange s with cond := some uptoSmall }

/-- 'laws.FnFree', WHERE WHAT IT READS IS OF BULK AT MOST 1048576: true; the input reads as it did. -/
def fnFreeUptoRow : OpenClaim := { program := "ytjchgajhlpognaa", sum := "0277d27057a84dc9ace105ee23688c6e369f0f094cf002c1640700fabb4c2941", func := "loop.example/g00850/laws.FnFree", spec := "fnFree", unfollowed := true, recurses := true, apart := false, narrowed := true }
def FnFreeUptoSaid : Prop := fnFreeUptoRow.holds Try.pinned (OpenSpec.upto fnFreeSpec)

/-- 'laws.FnGiven', WHERE WHAT IT READS IS OF BULK AT MOST 1048576: true; the input reads as it did. -/
def fnGivenUptoRow : OpenClaim := { program := "ytjchgajhlpognaa", sum := "0277d27057a84dc9ace105ee23688c6e369f0f094cf002c1640700fabb4c2941", func := "loop.example/g00850/laws.FnGiven", spec := "fnGiven", unfollowed := true, recurses := true, apart := false, narrowed := true }
def FnGivenUptoSaid : Prop := fnGivenUptoRow.holds Try.pinned (OpenSpec.upto fnGivenSpec)

end Rows
end Go.Proofs.Ytjchgajhlpognaa

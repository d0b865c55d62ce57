/-
  No cell of these rows narrows 'for every input' (looked for: loops, veiled, ifaces, maps, wideKeys, modest, calm, conditions, laid).
  DERIVED. THE GIVEN ROWS OF THIS SEAT. 4 by the template 'for every input the law returns true; each argument reads behind the call as it read before'; 0 by the template 'total and deterministic' (their statements: YtpfgmidkclompaaTotals.lean).
  GIVEN WITH THE SEED: the statements are not yours to turn. If you find one false, say at which input.
  Laid BY PROGRAM, IN A SANDBOX (cutbox-rows.mjs): the forced cells as the released guide's own fill.sh prints them over the translation 6ad81afb0e2aebb2… (all of the seat's roots in one cut). By AI agents, Wed Nov 11 2026. No macro, syntax, notation, axiom, sorry.
-/
import Derived.Test.YtpfgmidkclompaaChecked
import GoSem.Claim
import GoSem.ClaimJoined
import GoSem.ClaimMapViews
import Derived.JoinedTies
import Derived.KernelRfl
namespace Go.Proofs.Ytpfgmidkclompaa
/- THE CELL 'sum', in the pinned program and in every row, IS THE sha256 OF THE DUMP (.gsa) THAT YtpfgmidkclompaaProg.lean LOADS. Nothing in Lean hashes anything: it is a label: what it is worth is what the hold of that sum in a sandbox is worth. -/
noncomputable def Try.pinned : Pinned := { name := "ytpfgmidkclompaa", sum := "6ad81afb0e2aebb248472b3f52581774038bbf0bf62eb12fe3d070c6b4672fba", checked := Try.checked }
namespace Rows
def none {H : Type} : Left H := { results := [], args := [] }

/-- 'laws.FnExactOrderByTime': WHATEVER THE INPUT: true; the input reads as it did. -/
def fnExactOrderByTimeSpec : ChangeSpec := { name := "fnExactOrderByTime", fn := fun _ => fun
  | [d] => { results := [.lit (.bool true)], args := [d] }
  | _ => none }
def fnExactOrderByTimeRow : OpenClaim := { program := "ytpfgmidkclompaa", sum := "6ad81afb0e2aebb248472b3f52581774038bbf0bf62eb12fe3d070c6b4672fba", func := "loop.example/g00850/laws.FnExactOrderByTime", spec := "fnExactOrderByTime", inPlace := ["internal/bytealg.IndexByteString"], unfollowed := true, recurses := true, apart := false }
def FnExactOrderByTimeSaid : Prop := fnExactOrderByTimeRow.holds Try.pinned (OpenSpec.ofChange fnExactOrderByTimeSpec)

/-- ITS FALSE NEIGHBOUR: 'it returns false'. Refute it at one input. -/
def fnExactOrderByTimeWrong : ChangeSpec := { name := "fnExactOrderByTime", fn := fun _ => fun
  | [d] => { results := [.lit (.bool false)], args := [d] }
  | _ => none }
def FnExactOrderByTimeWrongFalsely : Prop := fnExactOrderByTimeRow.holds Try.pinned (OpenSpec.ofChange fnExactOrderByTimeWrong)

/-- 'laws.FnExactSeenBy': WHATEVER THE INPUT: true; the input reads as it did. -/
def fnExactSeenBySpec : ChangeSpec := { name := "fnExactSeenBy", fn := fun _ => fun
  | [d1, d2] => { results := [.lit (.bool true)], args := [d1, d2] }
  | _ => none }
def fnExactSeenByRow : OpenClaim := { program := "ytpfgmidkclompaa", sum := "6ad81afb0e2aebb248472b3f52581774038bbf0bf62eb12fe3d070c6b4672fba", func := "loop.example/g00850/laws.FnExactSeenBy", spec := "fnExactSeenBy", inPlace := ["internal/bytealg.IndexByteString"], unfollowed := true, recurses := true, apart := false }
def FnExactSeenBySaid : Prop := fnExactSeenByRow.holds Try.pinned (OpenSpec.ofChange fnExactSeenBySpec)

/-- ITS FALSE NEIGHBOUR: 'it returns false'. Refute it at one input. -/
def fnExactSeenByWrong : ChangeSpec := { name := "fnExactSeenBy", fn := fun _ => fun
  | [d1, d2] => { results := [.lit (.bool false)], args := [d1, d2] }
  | _ => none }
def FnExactSeenByWrongFalsely : Prop := fnExactSeenByRow.holds Try.pinned (OpenSpec.ofChange fnExactSeenByWrong)

/-- 'laws.FnExactPlayOrder': WHATEVER THE INPUT: true; the input reads as it did. -/
def fnExactPlayOrderSpec : ChangeSpec := { name := "fnExactPlayOrder", fn := fun _ => fun
  | [d1, d2] => { results := [.lit (.bool true)], args := [d1, d2] }
  | _ => none }
def fnExactPlayOrderRow : OpenClaim := { program := "ytpfgmidkclompaa", sum := "6ad81afb0e2aebb248472b3f52581774038bbf0bf62eb12fe3d070c6b4672fba", func := "loop.example/g00850/laws.FnExactPlayOrder", spec := "fnExactPlayOrder", inPlace := ["internal/bytealg.IndexByteString", "slices.overlaps[loop.example/g00850/impl.Write]"], unfollowed := true, recurses := true, apart := false }
def FnExactPlayOrderSaid : Prop := fnExactPlayOrderRow.holds Try.pinned (OpenSpec.ofChange fnExactPlayOrderSpec)

/-- ITS FALSE NEIGHBOUR: 'it returns false'. Refute it at one input. -/
def fnExactPlayOrderWrong : ChangeSpec := { name := "fnExactPlayOrder", fn := fun _ => fun
  | [d1, d2] => { results := [.lit (.bool false)], args := [d1, d2] }
  | _ => none }
def FnExactPlayOrderWrongFalsely : Prop := fnExactPlayOrderRow.holds Try.pinned (OpenSpec.ofChange fnExactPlayOrderWrong)

/-- 'laws.FnExactIsWitness': WHATEVER THE INPUT: true; the input reads as it did. -/
def fnExactIsWitnessSpec : ChangeSpec := { name := "fnExactIsWitness", fn := fun _ => fun
  | [d1, d2] => { results := [.lit (.bool true)], args := [d1, d2] }
  | _ => none }
def fnExactIsWitnessRow : OpenClaim := { program := "ytpfgmidkclompaa", sum := "6ad81afb0e2aebb248472b3f52581774038bbf0bf62eb12fe3d070c6b4672fba", func := "loop.example/g00850/laws.FnExactIsWitness", spec := "fnExactIsWitness", inPlace := ["internal/bytealg.IndexByteString", "slices.overlaps[loop.example/g00850/impl.Write]"], unfollowed := true, recurses := true, apart := false }
def FnExactIsWitnessSaid : Prop := fnExactIsWitnessRow.holds Try.pinned (OpenSpec.ofChange fnExactIsWitnessSpec)

/-- ITS FALSE NEIGHBOUR: 'it returns false'. Refute it at one input. -/
def fnExactIsWitnessWrong : ChangeSpec := { name := "fnExactIsWitness", fn := fun _ => fun
  | [d1, d2] => { results := [.lit (.bool false)], args := [d1, d2] }
  | _ => none }
def FnExactIsWitnessWrongFalsely : Prop := fnExactIsWitnessRow.holds Try.pinned (OpenSpec.ofChange fnExactIsWitnessWrong)

/- THE SECOND FORM. 'bulk': how many values and letters a reading holds, each counted each time it is reached (what is shared counts as often as it is met; a slice's spare places count too). A statement '..UptoSaid' is the law's where the arguments, and the package variables that the reading takes, are together of bulk at most 1048576: NARROWER than '..Said'. Prove '..Said' where nothing that the law and all that it calls make is longer than what came in: it says more and counts as full. Else prove '..UptoSaid'. A law counts once. -/
mutual
def uptoBulk {H : Type} : DataW H → Nat
  | .lit (.string bytes) => bytes.length + 1
  | .lit _ => 1
  | .nil => 1
  | .ptr d => uptoBulk d + 1
  | .slice elems spare => uptoBulkAll elems + uptoBulkAll spare + 1
  | .agg parts => uptoBulkAll parts + 1
  | .iface _ d => uptoBulk d + 1
  | .map entries => uptoBulkEntries entries + 1
  | .held _ => 1
def uptoBulkAll {H : Type} : List (DataW H) → Nat
  | [] => 0
  | d :: r => uptoBulk d + uptoBulkAll r
def uptoBulkEntries {H : Type} : List (Lit × DataW H) → Nat
  | [] => 0
  | x :: r => uptoBulkEntry x + uptoBulkEntries r
def uptoBulkEntry {H : Type} : Lit × DataW H → Nat
  | (.string bytes, d) => bytes.length + uptoBulk d + 1
  | (_, d) => uptoBulk d + 1
 end
def uptoSmall : (H : Type) → List (DataW H) → Bool := fun _ ds => decide (uptoBulkAll ds ≤ 1048576)
def OpenSpec.upto (s : _root_.Go.ChangeSpec) : _root_.Go.OpenSpec := { _root_.Go.OpenSpec.ofChange s with cond := some uptoSmall }

/-- 'laws.FnExactOrderByTime', WHERE WHAT IT READS IS OF BULK AT MOST 1048576: true; the input reads as it did. -/
def fnExactOrderByTimeUptoRow : OpenClaim := { program := "ytpfgmidkclompaa", sum := "6ad81afb0e2aebb248472b3f52581774038bbf0bf62eb12fe3d070c6b4672fba", func := "loop.example/g00850/laws.FnExactOrderByTime", spec := "fnExactOrderByTime", inPlace := ["internal/bytealg.IndexByteString"], unfollowed := true, recurses := true, apart := false, narrowed := true }
def FnExactOrderByTimeUptoSaid : Prop := fnExactOrderByTimeUptoRow.holds Try.pinned (OpenSpec.upto fnExactOrderByTimeSpec)

/-- 'laws.FnExactSeenBy', WHERE WHAT IT READS IS OF BULK AT MOST 1048576: true; the input reads as it did. -/
def fnExactSeenByUptoRow : OpenClaim := { program := "ytpfgmidkclompaa", sum := "6ad81afb0e2aebb248472b3f52581774038bbf0bf62eb12fe3d070c6b4672fba", func := "loop.example/g00850/laws.FnExactSeenBy", spec := "fnExactSeenBy", inPlace := ["internal/bytealg.IndexByteString"], unfollowed := true, recurses := true, apart := false, narrowed := true }
def FnExactSeenByUptoSaid : Prop := fnExactSeenByUptoRow.holds Try.pinned (OpenSpec.upto fnExactSeenBySpec)

/-- 'laws.FnExactPlayOrder', WHERE WHAT IT READS IS OF BULK AT MOST 1048576: true; the input reads as it did. -/
def fnExactPlayOrderUptoRow : OpenClaim := { program := "ytpfgmidkclompaa", sum := "6ad81afb0e2aebb248472b3f52581774038bbf0bf62eb12fe3d070c6b4672fba", func := "loop.example/g00850/laws.FnExactPlayOrder", spec := "fnExactPlayOrder", inPlace := ["internal/bytealg.IndexByteString", "slices.overlaps[loop.example/g00850/impl.Write]"], unfollowed := true, recurses := true, apart := false, narrowed := true }
def FnExactPlayOrderUptoSaid : Prop := fnExactPlayOrderUptoRow.holds Try.pinned (OpenSpec.upto fnExactPlayOrderSpec)

/-- 'laws.FnExactIsWitness', WHERE WHAT IT READS IS OF BULK AT MOST 1048576: true; the input reads as it did. -/
def fnExactIsWitnessUptoRow : OpenClaim := { program := "ytpfgmidkclompaa", sum := "6ad81afb0e2aebb248472b3f52581774038bbf0bf62eb12fe3d070c6b4672fba", func := "loop.example/g00850/laws.FnExactIsWitness", spec := "fnExactIsWitness", inPlace := ["internal/bytealg.IndexByteString", "slices.overlaps[loop.example/g00850/impl.Write]"], unfollowed := true, recurses := true, apart := false, narrowed := true }
def FnExactIsWitnessUptoSaid : Prop := fnExactIsWitnessUptoRow.holds Try.pinned (OpenSpec.upto fnExactIsWitnessSpec)

end Rows
end Go.Proofs.Ytpfgmidkclompaa

/-
  No cell of these rows narrows 'for every input' (looked for: loops, veiled, ifaces, maps, wideKeys, modest, calm, conditions, laid).
  DERIVED. THE GIVEN ROWS OF THIS SEAT. 8 by the template 'for every input the law returns true; each argument reads behind the call as it read before'; 0 by the template 'total and deterministic' (their statements: YtmnhmohndgkalaaTotals.lean).
  GIVEN WITH THE SEED: the statements are not yours to turn. If you find one false, say at which input.
  Laid BY PROGRAM, IN A SANDBOX (cutbox-rows.mjs): the forced cells as the released guide's own fill.sh prints them over the translation 6f4d402e44c4eac3… (all of the seat's roots in one cut). By AI agents, Wed Nov 11 2026. No macro, syntax, notation, axiom, sorry.
-/
import Derived.Test.YtmnhmohndgkalaaChecked
import GoSem.Claim
import GoSem.ClaimJoined
import GoSem.ClaimMapViews
import Derived.JoinedTies
import Derived.KernelRfl
namespace Go.Proofs.Ytmnhmohndgkalaa
/- THE CELL 'sum', in the pinned program and in every row, IS THE sha256 OF THE DUMP (.gsa) THAT YtmnhmohndgkalaaProg.lean LOADS. Nothing in Lean hashes anything: it is a label: what it is worth is what the hold of that sum in a sandbox is worth. -/
noncomputable def Try.pinned : Pinned := { name := "ytmnhmohndgkalaa", sum := "6f4d402e44c4eac3cd6a2d976821ce0aff8d13c6f6474d68ce9ddc9b7fff398a", checked := Try.checked }
namespace Rows
def none {H : Type} : Left H := { results := [], args := [] }

/-- 'laws.FnExactCommute': WHATEVER THE INPUT: true; the input reads as it did. -/
def fnExactCommuteSpec : ChangeSpec := { name := "fnExactCommute", fn := fun _ => fun
  | [d1, d2] => { results := [.lit (.bool true)], args := [d1, d2] }
  | _ => none }
def fnExactCommuteRow : OpenClaim := { program := "ytmnhmohndgkalaa", sum := "6f4d402e44c4eac3cd6a2d976821ce0aff8d13c6f6474d68ce9ddc9b7fff398a", func := "loop.example/g00850/laws.FnExactCommute", spec := "fnExactCommute", inPlace := ["internal/bytealg.IndexByteString"], unfollowed := true, recurses := true, apart := false }
def FnExactCommuteSaid : Prop := fnExactCommuteRow.holds Try.pinned (OpenSpec.ofChange fnExactCommuteSpec)

/-- ITS FALSE NEIGHBOUR: 'it returns false'. Refute it at one input. -/
def fnExactCommuteWrong : ChangeSpec := { name := "fnExactCommute", fn := fun _ => fun
  | [d1, d2] => { results := [.lit (.bool false)], args := [d1, d2] }
  | _ => none }
def FnExactCommuteWrongFalsely : Prop := fnExactCommuteRow.holds Try.pinned (OpenSpec.ofChange fnExactCommuteWrong)

/-- 'laws.FnExactCountOrders': WHATEVER THE INPUT: true; the input reads as it did. -/
def fnExactCountOrdersSpec : ChangeSpec := { name := "fnExactCountOrders", fn := fun _ => fun
  | [d] => { results := [.lit (.bool true)], args := [d] }
  | _ => none }
def fnExactCountOrdersRow : OpenClaim := { program := "ytmnhmohndgkalaa", sum := "6f4d402e44c4eac3cd6a2d976821ce0aff8d13c6f6474d68ce9ddc9b7fff398a", func := "loop.example/g00850/laws.FnExactCountOrders", spec := "fnExactCountOrders", inPlace := ["internal/bytealg.IndexByteString"], unfollowed := true, recurses := true, apart := false }
def FnExactCountOrdersSaid : Prop := fnExactCountOrdersRow.holds Try.pinned (OpenSpec.ofChange fnExactCountOrdersSpec)

/-- ITS FALSE NEIGHBOUR: 'it returns false'. Refute it at one input. -/
def fnExactCountOrdersWrong : ChangeSpec := { name := "fnExactCountOrders", fn := fun _ => fun
  | [d] => { results := [.lit (.bool false)], args := [d] }
  | _ => none }
def FnExactCountOrdersWrongFalsely : Prop := fnExactCountOrdersRow.holds Try.pinned (OpenSpec.ofChange fnExactCountOrdersWrong)

/-- 'laws.FnExactKeepsOrder': WHATEVER THE INPUT: true; the input reads as it did. -/
def fnExactKeepsOrderSpec : ChangeSpec := { name := "fnExactKeepsOrder", fn := fun _ => fun
  | [d1, d2] => { results := [.lit (.bool true)], args := [d1, d2] }
  | _ => none }
def fnExactKeepsOrderRow : OpenClaim := { program := "ytmnhmohndgkalaa", sum := "6f4d402e44c4eac3cd6a2d976821ce0aff8d13c6f6474d68ce9ddc9b7fff398a", func := "loop.example/g00850/laws.FnExactKeepsOrder", spec := "fnExactKeepsOrder", inPlace := ["internal/bytealg.IndexByteString"], unfollowed := true, recurses := true, apart := false }
def FnExactKeepsOrderSaid : Prop := fnExactKeepsOrderRow.holds Try.pinned (OpenSpec.ofChange fnExactKeepsOrderSpec)

/-- ITS FALSE NEIGHBOUR: 'it returns false'. Refute it at one input. -/
def fnExactKeepsOrderWrong : ChangeSpec := { name := "fnExactKeepsOrder", fn := fun _ => fun
  | [d1, d2] => { results := [.lit (.bool false)], args := [d1, d2] }
  | _ => none }
def FnExactKeepsOrderWrongFalsely : Prop := fnExactKeepsOrderRow.holds Try.pinned (OpenSpec.ofChange fnExactKeepsOrderWrong)

/-- 'laws.FnExactSwapNear': WHATEVER THE INPUT: true; the input reads as it did. -/
def fnExactSwapNearSpec : ChangeSpec := { name := "fnExactSwapNear", fn := fun _ => fun
  | [d1, d2, d3] => { results := [.lit (.bool true)], args := [d1, d2, d3] }
  | _ => none }
def fnExactSwapNearRow : OpenClaim := { program := "ytmnhmohndgkalaa", sum := "6f4d402e44c4eac3cd6a2d976821ce0aff8d13c6f6474d68ce9ddc9b7fff398a", func := "loop.example/g00850/laws.FnExactSwapNear", spec := "fnExactSwapNear", inPlace := ["internal/bytealg.IndexByteString"], unfollowed := true, recurses := true, apart := false }
def FnExactSwapNearSaid : Prop := fnExactSwapNearRow.holds Try.pinned (OpenSpec.ofChange fnExactSwapNearSpec)

/-- ITS FALSE NEIGHBOUR: 'it returns false'. Refute it at one input. -/
def fnExactSwapNearWrong : ChangeSpec := { name := "fnExactSwapNear", fn := fun _ => fun
  | [d1, d2, d3] => { results := [.lit (.bool false)], args := [d1, d2, d3] }
  | _ => none }
def FnExactSwapNearWrongFalsely : Prop := fnExactSwapNearRow.holds Try.pinned (OpenSpec.ofChange fnExactSwapNearWrong)

/-- 'laws.FnExactOrderByTime': WHATEVER THE INPUT: true; the input reads as it did. -/
def fnExactOrderByTimeSpec : ChangeSpec := { name := "fnExactOrderByTime", fn := fun _ => fun
  | [d] => { results := [.lit (.bool true)], args := [d] }
  | _ => none }
def fnExactOrderByTimeRow : OpenClaim := { program := "ytmnhmohndgkalaa", sum := "6f4d402e44c4eac3cd6a2d976821ce0aff8d13c6f6474d68ce9ddc9b7fff398a", func := "loop.example/g00850/laws.FnExactOrderByTime", spec := "fnExactOrderByTime", inPlace := ["internal/bytealg.IndexByteString"], unfollowed := true, recurses := true, apart := false }
def FnExactOrderByTimeSaid : Prop := fnExactOrderByTimeRow.holds Try.pinned (OpenSpec.ofChange fnExactOrderByTimeSpec)

/-- ITS FALSE NEIGHBOUR: 'it returns false'. Refute it at one input. -/
def fnExactOrderByTimeWrong : ChangeSpec := { name := "fnExactOrderByTime", fn := fun _ => fun
  | [d] => { results := [.lit (.bool false)], args := [d] }
  | _ => none }
def FnExactOrderByTimeWrongFalsely : Prop := fnExactOrderByTimeRow.holds Try.pinned (OpenSpec.ofChange fnExactOrderByTimeWrong)

/-- 'laws.FnExactSeenBy': WHATEVER THE INPUT: true; the input reads as it did. -/
def fnExactSeenBySpec : ChangeSpec := { name := "fnExactSeenBy", fn := fun _ => fun
  | [d1, d2] => { results := [.lit (.bool true)], args := [d1, d2] }
  | _ => none }
def fnExactSeenByRow : OpenClaim := { program := "ytmnhmohndgkalaa", sum := "6f4d402e44c4eac3cd6a2d976821ce0aff8d13c6f6474d68ce9ddc9b7fff398a", func := "loop.example/g00850/laws.FnExactSeenBy", spec := "fnExactSeenBy", inPlace := ["internal/bytealg.IndexByteString"], unfollowed := true, recurses := true, apart := false }
def FnExactSeenBySaid : Prop := fnExactSeenByRow.holds Try.pinned (OpenSpec.ofChange fnExactSeenBySpec)

/-- ITS FALSE NEIGHBOUR: 'it returns false'. Refute it at one input. -/
def fnExactSeenByWrong : ChangeSpec := { name := "fnExactSeenBy", fn := fun _ => fun
  | [d1, d2] => { results := [.lit (.bool false)], args := [d1, d2] }
  | _ => none }
def FnExactSeenByWrongFalsely : Prop := fnExactSeenByRow.holds Try.pinned (OpenSpec.ofChange fnExactSeenByWrong)

/-- 'laws.FnExactIsWitness': WHATEVER THE INPUT: true; the input reads as it did. -/
def fnExactIsWitnessSpec : ChangeSpec := { name := "fnExactIsWitness", fn := fun _ => fun
  | [d1, d2] => { results := [.lit (.bool true)], args := [d1, d2] }
  | _ => none }
def fnExactIsWitnessRow : OpenClaim := { program := "ytmnhmohndgkalaa", sum := "6f4d402e44c4eac3cd6a2d976821ce0aff8d13c6f6474d68ce9ddc9b7fff398a", func := "loop.example/g00850/laws.FnExactIsWitness", spec := "fnExactIsWitness", inPlace := ["internal/bytealg.IndexByteString", "slices.overlaps[loop.example/g00850/impl.Write]"], unfollowed := true, recurses := true, apart := false }
def FnExactIsWitnessSaid : Prop := fnExactIsWitnessRow.holds Try.pinned (OpenSpec.ofChange fnExactIsWitnessSpec)

/-- ITS FALSE NEIGHBOUR: 'it returns false'. Refute it at one input. -/
def fnExactIsWitnessWrong : ChangeSpec := { name := "fnExactIsWitness", fn := fun _ => fun
  | [d1, d2] => { results := [.lit (.bool false)], args := [d1, d2] }
  | _ => none }
def FnExactIsWitnessWrongFalsely : Prop := fnExactIsWitnessRow.holds Try.pinned (OpenSpec.ofChange fnExactIsWitnessWrong)

/-- 'laws.FnExactPlayOrder': WHATEVER THE INPUT: true; the input reads as it did. -/
def fnExactPlayOrderSpec : ChangeSpec := { name := "fnExactPlayOrder", fn := fun _ => fun
  | [d1, d2] => { results := [.lit (.bool true)], args := [d1, d2] }
  | _ => none }
def fnExactPlayOrderRow : OpenClaim := { program := "ytmnhmohndgkalaa", sum := "6f4d402e44c4eac3cd6a2d976821ce0aff8d13c6f6474d68ce9ddc9b7fff398a", func := "loop.example/g00850/laws.FnExactPlayOrder", spec := "fnExactPlayOrder", inPlace := ["internal/bytealg.IndexByteString", "slices.overlaps[loop.example/g00850/impl.Write]"], unfollowed := true, recurses := true, apart := false }
def FnExactPlayOrderSaid : Prop := fnExactPlayOrderRow.holds Try.pinned (OpenSpec.ofChange fnExactPlayOrderSpec)

/-- ITS FALSE NEIGHBOUR: 'it returns false'. Refute it at one input. -/
def fnExactPlayOrderWrong : ChangeSpec := { name := "fnExactPlayOrder", fn := fun _ => fun
  | [d1, d2] => { results := [.lit (.bool false)], args := [d1, d2] }
  | _ => none }
def FnExactPlayOrderWrongFalsely : Prop := fnExactPlayOrderRow.holds Try.pinned (OpenSpec.ofChange fnExactPlayOrderWrong)

/- THE SECOND FORM. 'bulk': how many values and letters a reading holds, each counted each time it is reached (what is shared counts as often as it is met; a slice's spare places count too). A statement '..UptoSaid' is the law's where the arguments, and the package variables that the reading takes, are together of bulk at most 1048576: NARROWER than '..Said'. Prove '..Said' where nothing that the law and all that it calls make is longer than what came in: it says more and counts as full. Else prove '..UptoSaid'. A law counts once. -/
mutual
def uptoBulk {H : Type} : DataW H → Nat
  | .lit (.string bytes) => bytes.length + 1
  | .lit _ => 1
  | .nil => 1
  | .ptr d => uptoBulk d + 1
  | .slice elems spare => uptoBulkAll elems + uptoBulkAll spare + 1
  | .agg parts => uptoBulkAll parts + 1
  | .iface _ d => uptoBulk d + 1
  | .map entries => uptoBulkEntries entries + 1
  | .held _ => 1
def uptoBulkAll {H : Type} : List (DataW H) → Nat
  | [] => 0
  | d :: r => uptoBulk d + uptoBulkAll r
def uptoBulkEntries {H : Type} : List (Lit × DataW H) → Nat
  | [] => 0
  | x :: r => uptoBulkEntry x + uptoBulkEntries r
def uptoBulkEntry {H : Type} : Lit × DataW H → Nat
  | (.string bytes, d) => bytes.length + uptoBulk d + 1
  | (_, d) => uptoBulk d + 1
 end
def uptoSmall : (H : Type) → List (DataW H) → Bool := fun _ ds => decide (uptoBulkAll ds ≤ 1048576)
def OpenSpec.upto (s : _root_.Go.ChangeSpec) : _root_.Go.OpenSpec := { _root_.Go.OpenSpec.ofChange s with cond := some uptoSmall }

/-- 'laws.FnExactCommute', WHERE WHAT IT READS IS OF BULK AT MOST 1048576: true; the input reads as it did. -/
def fnExactCommuteUptoRow : OpenClaim := { program := "ytmnhmohndgkalaa", sum := "6f4d402e44c4eac3cd6a2d976821ce0aff8d13c6f6474d68ce9ddc9b7fff398a", func := "loop.example/g00850/laws.FnExactCommute", spec := "fnExactCommute", inPlace := ["internal/bytealg.IndexByteString"], unfollowed := true, recurses := true, apart := false, narrowed := true }
def FnExactCommuteUptoSaid : Prop := fnExactCommuteUptoRow.holds Try.pinned (OpenSpec.upto fnExactCommuteSpec)

/-- 'laws.FnExactCountOrders', WHERE WHAT IT READS IS OF BULK AT MOST 1048576: true; the input reads as it did. -/
def fnExactCountOrdersUptoRow : OpenClaim := { program := "ytmnhmohndgkalaa", sum := "6f4d402e44c4eac3cd6a2d976821ce0aff8d13c6f6474d68ce9ddc9b7fff398a", func := "loop.example/g00850/laws.FnExactCountOrders", spec := "fnExactCountOrders", inPlace := ["internal/bytealg.IndexByteString"], unfollowed := true, recurses := true, apart := false, narrowed := true }
def FnExactCountOrdersUptoSaid : Prop := fnExactCountOrdersUptoRow.holds Try.pinned (OpenSpec.upto fnExactCountOrdersSpec)

/-- 'laws.FnExactKeepsOrder', WHERE WHAT IT READS IS OF BULK AT MOST 1048576: true; the input reads as it did. -/
def fnExactKeepsOrderUptoRow : OpenClaim := { program := "ytmnhmohndgkalaa", sum := "6f4d402e44c4eac3cd6a2d976821ce0aff8d13c6f6474d68ce9ddc9b7fff398a", func := "loop.example/g00850/laws.FnExactKeepsOrder", spec := "fnExactKeepsOrder", inPlace := ["internal/bytealg.IndexByteString"], unfollowed := true, recurses := true, apart := false, narrowed := true }
def FnExactKeepsOrderUptoSaid : Prop := fnExactKeepsOrderUptoRow.holds Try.pinned (OpenSpec.upto fnExactKeepsOrderSpec)

/-- 'laws.FnExactSwapNear', WHERE WHAT IT READS IS OF BULK AT MOST 1048576: true; the input reads as it did. -/
def fnExactSwapNearUptoRow : OpenClaim := { program := "ytmnhmohndgkalaa", sum := "6f4d402e44c4eac3cd6a2d976821ce0aff8d13c6f6474d68ce9ddc9b7fff398a", func := "loop.example/g00850/laws.FnExactSwapNear", spec := "fnExactSwapNear", inPlace := ["internal/bytealg.IndexByteString"], unfollowed := true, recurses := true, apart := false, narrowed := true }
def FnExactSwapNearUptoSaid : Prop := fnExactSwapNearUptoRow.holds Try.pinned (OpenSpec.upto fnExactSwapNearSpec)

/-- 'laws.FnExactOrderByTime', WHERE WHAT IT READS IS OF BULK AT MOST 1048576: true; the input reads as it did. -/
def fnExactOrderByTimeUptoRow : OpenClaim := { program := "ytmnhmohndgkalaa", sum := "6f4d402e44c4eac3cd6a2d976821ce0aff8d13c6f6474d68ce9ddc9b7fff398a", func := "loop.example/g00850/laws.FnExactOrderByTime", spec := "fnExactOrderByTime", inPlace := ["internal/bytealg.IndexByteString"], unfollowed := true, recurses := true, apart := false, narrowed := true }
def FnExactOrderByTimeUptoSaid : Prop := fnExactOrderByTimeUptoRow.holds Try.pinned (OpenSpec.upto fnExactOrderByTimeSpec)

/-- 'laws.FnExactSeenBy', WHERE WHAT IT READS IS OF BULK AT MOST 1048576: true; the input reads as it did. -/
def fnExactSeenByUptoRow : OpenClaim := { program := "ytmnhmohndgkalaa", sum := "6f4d402e44c4eac3cd6a2d976821ce0aff8d13c6f6474d68ce9ddc9b7fff398a", func := "loop.example/g00850/laws.FnExactSeenBy", spec := "fnExactSeenBy", inPlace := ["internal/bytealg.IndexByteString"], unfollowed := true, recurses := true, apart := false, narrowed := true }
def FnExactSeenByUptoSaid : Prop := fnExactSeenByUptoRow.holds Try.pinned (OpenSpec.upto fnExactSeenBySpec)

/-- 'laws.FnExactIsWitness', WHERE WHAT IT READS IS OF BULK AT MOST 1048576: true; the input reads as it did. -/
def fnExactIsWitnessUptoRow : OpenClaim := { program := "ytmnhmohndgkalaa", sum := "6f4d402e44c4eac3cd6a2d976821ce0aff8d13c6f6474d68ce9ddc9b7fff398a", func := "loop.example/g00850/laws.FnExactIsWitness", spec := "fnExactIsWitness", inPlace := ["internal/bytealg.IndexByteString", "slices.overlaps[loop.example/g00850/impl.Write]"], unfollowed := true, recurses := true, apart := false, narrowed := true }
def FnExactIsWitnessUptoSaid : Prop := fnExactIsWitnessUptoRow.holds Try.pinned (OpenSpec.upto fnExactIsWitnessSpec)

/-- 'laws.FnExactPlayOrder', WHERE WHAT IT READS IS OF BULK AT MOST 1048576: true; the input reads as it did. -/
def fnExactPlayOrderUptoRow : OpenClaim := { program := "ytmnhmohndgkalaa", sum := "6f4d402e44c4eac3cd6a2d976821ce0aff8d13c6f6474d68ce9ddc9b7fff398a", func := "loop.example/g00850/laws.FnExactPlayOrder", spec := "fnExactPlayOrder", inPlace := ["internal/bytealg.IndexByteString", "slices.overlaps[loop.example/g00850/impl.Write]"], unfollowed := true, recurses := true, apart := false, narrowed := true }
def FnExactPlayOrderUptoSaid : Prop := fnExactPlayOrderUptoRow.holds Try.pinned (OpenSpec.upto fnExactPlayOrderSpec)

end Rows
end Go.Proofs.Ytmnhmohndgkalaa

/-
  No cell of these rows narrows 'for every input' (looked for: loops, veiled, ifaces, maps, wideKeys, modest, calm, conditions, laid).
  DERIVED. THE GIVEN ROWS OF THIS SEAT. 5 by the template 'for every input the law returns true; each argument reads behind the call as it read before'; 0 by the template 'total and deterministic' (their statements: YtlcebphcohneaaaGreatTotals.lean).
  GIVEN WITH THE SEED: the statements are not yours to turn. If you find one false, say at which input.
  Laid BY PROGRAM, IN A SANDBOX (cutbox-rows.mjs): the forced cells as the released guide's own fill.sh prints them over the translation cddb5bff1d5b8014… (all of the seat's roots in one cut). By AI agents, Wed Nov 11 2026. No macro, syntax, notation, axiom, sorry.
-/
import Derived.Test.YtlcebphcohneaaaGreatChecked
import GoSem.Claim
import GoSem.ClaimJoined
import GoSem.ClaimMapViews
import Derived.JoinedTies
import Derived.KernelRfl
namespace Go.Proofs.YtlcebphcohneaaaGreat
/- THE CELL 'sum', in the pinned program and in every row, IS THE sha256 OF THE DUMP (.gsa) THAT YtlcebphcohneaaaGreatProg.lean LOADS. Nothing in Lean hashes anything: it is a label: what it is worth is what the hold of that sum in a sandbox is worth. -/
noncomputable def Tryz.pinned : Pinned := { name := "ytlcebphcohneaaagreat", sum := "cddb5bff1d5b8014d726255295635a88e3f9f1f7cbc91eadee1e71ea43115ee7", checked := Tryz.checked }
namespace Rows
def none {H : Type} : Left H := { results := [], args := [] }

/-- 'laws.FnExactReplicaKnows': WHATEVER THE INPUT: true; the input reads as it did. -/
def fnExactReplicaKnowsSpec : ChangeSpec := { name := "fnExactReplicaKnows", fn := fun _ => fun
  | [d1, d2, d3] => { results := [.lit (.bool true)], args := [d1, d2, d3] }
  | _ => none }
def fnExactReplicaKnowsRow : OpenClaim := { program := "ytlcebphcohneaaagreat", sum := "cddb5bff1d5b8014d726255295635a88e3f9f1f7cbc91eadee1e71ea43115ee7", func := "loop.example/g00850/laws.FnExactReplicaKnows", spec := "fnExactReplicaKnows", inPlace := ["internal/bytealg.IndexByteString", "slices.overlaps[loop.example/g00850/impl.Cell]", "slices.overlaps[loop.example/g00850/impl.Told]", "slices.overlaps[loop.example/g00850/impl.Held]"], unfollowed := true, recurses := true, apart := false }
def FnExactReplicaKnowsSaid : Prop := fnExactReplicaKnowsRow.holds Tryz.pinned (OpenSpec.ofChange fnExactReplicaKnowsSpec)

/-- ITS FALSE NEIGHBOUR: 'it returns false'. Refute it at one input. -/
def fnExactReplicaKnowsWrong : ChangeSpec := { name := "fnExactReplicaKnows", fn := fun _ => fun
  | [d1, d2, d3] => { results := [.lit (.bool false)], args := [d1, d2, d3] }
  | _ => none }
def FnExactReplicaKnowsWrongFalsely : Prop := fnExactReplicaKnowsRow.holds Tryz.pinned (OpenSpec.ofChange fnExactReplicaKnowsWrong)

/-- 'laws.FnExactReplicaLook': WHATEVER THE INPUT: true; the input reads as it did. -/
def fnExactReplicaLookSpec : ChangeSpec := { name := "fnExactReplicaLook", fn := fun _ => fun
  | [d1, d2, d3, d4] => { results := [.lit (.bool true)], args := [d1, d2, d3, d4] }
  | _ => none }
def fnExactReplicaLookRow : OpenClaim := { program := "ytlcebphcohneaaagreat", sum := "cddb5bff1d5b8014d726255295635a88e3f9f1f7cbc91eadee1e71ea43115ee7", func := "loop.example/g00850/laws.FnExactReplicaLook", spec := "fnExactReplicaLook", inPlace := ["internal/bytealg.IndexByteString", "slices.overlaps[loop.example/g00850/impl.Cell]", "slices.overlaps[loop.example/g00850/impl.Told]", "slices.overlaps[loop.example/g00850/impl.Held]"], unfollowed := true, recurses := true, apart := false }
def FnExactReplicaLookSaid : Prop := fnExactReplicaLookRow.holds Tryz.pinned (OpenSpec.ofChange fnExactReplicaLookSpec)

/-- ITS FALSE NEIGHBOUR: 'it returns false'. Refute it at one input. -/
def fnExactReplicaLookWrong : ChangeSpec := { name := "fnExactReplicaLook", fn := fun _ => fun
  | [d1, d2, d3, d4] => { results := [.lit (.bool false)], args := [d1, d2, d3, d4] }
  | _ => none }
def FnExactReplicaLookWrongFalsely : Prop := fnExactReplicaLookRow.holds Tryz.pinned (OpenSpec.ofChange fnExactReplicaLookWrong)

/-- 'laws.FnExactStateOf': WHATEVER THE INPUT: true; the input reads as it did. -/
def fnExactStateOfSpec : ChangeSpec := { name := "fnExactStateOf", fn := fun _ => fun
  | [d] => { results := [.lit (.bool true)], args := [d] }
  | _ => none }
def fnExactStateOfRow : OpenClaim := { program := "ytlcebphcohneaaagreat", sum := "cddb5bff1d5b8014d726255295635a88e3f9f1f7cbc91eadee1e71ea43115ee7", func := "loop.example/g00850/laws.FnExactStateOf", spec := "fnExactStateOf", inPlace := ["internal/bytealg.IndexByteString", "slices.overlaps[loop.example/g00850/impl.Cell]", "slices.overlaps[loop.example/g00850/impl.Told]", "slices.overlaps[loop.example/g00850/impl.Held]"], unfollowed := true, recurses := true, apart := false }
def FnExactStateOfSaid : Prop := fnExactStateOfRow.holds Tryz.pinned (OpenSpec.ofChange fnExactStateOfSpec)

/-- ITS FALSE NEIGHBOUR: 'it returns false'. Refute it at one input. -/
def fnExactStateOfWrong : ChangeSpec := { name := "fnExactStateOf", fn := fun _ => fun
  | [d] => { results := [.lit (.bool false)], args := [d] }
  | _ => none }
def FnExactStateOfWrongFalsely : Prop := fnExactStateOfRow.holds Tryz.pinned (OpenSpec.ofChange fnExactStateOfWrong)

/-- 'laws.FnExactApplyRec': WHATEVER THE INPUT: true; the input reads as it did. -/
def fnExactApplyRecSpec : ChangeSpec := { name := "fnExactApplyRec", fn := fun _ => fun
  | [d1, d2] => { results := [.lit (.bool true)], args := [d1, d2] }
  | _ => none }
def fnExactApplyRecRow : OpenClaim := { program := "ytlcebphcohneaaagreat", sum := "cddb5bff1d5b8014d726255295635a88e3f9f1f7cbc91eadee1e71ea43115ee7", func := "loop.example/g00850/laws.FnExactApplyRec", spec := "fnExactApplyRec", inPlace := ["internal/bytealg.IndexByteString", "slices.overlaps[loop.example/g00850/impl.Cell]", "slices.overlaps[loop.example/g00850/impl.Told]", "slices.overlaps[loop.example/g00850/impl.Held]"], unfollowed := true, recurses := true, apart := false }
def FnExactApplyRecSaid : Prop := fnExactApplyRecRow.holds Tryz.pinned (OpenSpec.ofChange fnExactApplyRecSpec)

/-- ITS FALSE NEIGHBOUR: 'it returns false'. Refute it at one input. -/
def fnExactApplyRecWrong : ChangeSpec := { name := "fnExactApplyRec", fn := fun _ => fun
  | [d1, d2] => { results := [.lit (.bool false)], args := [d1, d2] }
  | _ => none }
def FnExactApplyRecWrongFalsely : Prop := fnExactApplyRecRow.holds Tryz.pinned (OpenSpec.ofChange fnExactApplyRecWrong)

/-- 'laws.FnExactSureState': WHATEVER THE INPUT: true; the input reads as it did. -/
def fnExactSureStateSpec : ChangeSpec := { name := "fnExactSureState", fn := fun _ => fun
  | [d] => { results := [.lit (.bool true)], args := [d] }
  | _ => none }
def fnExactSureStateRow : OpenClaim := { program := "ytlcebphcohneaaagreat", sum := "cddb5bff1d5b8014d726255295635a88e3f9f1f7cbc91eadee1e71ea43115ee7", func := "loop.example/g00850/laws.FnExactSureState", spec := "fnExactSureState", inPlace := ["internal/bytealg.IndexByteString", "slices.overlaps[loop.example/g00850/impl.Cell]", "slices.overlaps[loop.example/g00850/impl.Told]", "slices.overlaps[loop.example/g00850/impl.Held]"], unfollowed := true, recurses := true, apart := false }
def FnExactSureStateSaid : Prop := fnExactSureStateRow.holds Tryz.pinned (OpenSpec.ofChange fnExactSureStateSpec)

/-- ITS FALSE NEIGHBOUR: 'it returns false'. Refute it at one input. -/
def fnExactSureStateWrong : ChangeSpec := { name := "fnExactSureState", fn := fun _ => fun
  | [d] => { results := [.lit (.bool false)], args := [d] }
  | _ => none }
def FnExactSureStateWrongFalsely : Prop := fnExactSureStateRow.holds Tryz.pinned (OpenSpec.ofChange fnExactSureStateWrong)

/- THE SECOND FORM. 'bulk': how many values and letters a reading holds, each counted each time it is reached (what is shared counts as often as it is met; a slice's spare places count too). A statement '..UptoSaid' is the law's where the arguments, and the package variables that the reading takes, are together of bulk at most 1048576: NARROWER than '..Said'. Prove '..Said' where nothing that the law and all that it calls make is longer than what came in: it says more and counts as full. Else prove '..UptoSaid'. A law counts once. -/
mutual
def uptoBulk {H : Type} : DataW H → Nat
  | .lit (.string bytes) => bytes.length + 1
  | .lit _ => 1
  | .nil => 1
  | .ptr d => uptoBulk d + 1
  | .slice elems spare => uptoBulkAll elems + uptoBulkAll spare + 1
  | .agg parts => uptoBulkAll parts + 1
  | .iface _ d => uptoBulk d + 1
  | .map entries => uptoBulkEntries entries + 1
  | .held _ => 1
def uptoBulkAll {H : Type} : List (DataW H) → Nat
  | [] => 0
  | d :: r => uptoBulk d + uptoBulkAll r
def uptoBulkEntries {H : Type} : List (Lit × DataW H) → Nat
  | [] => 0
  | x :: r => uptoBulkEntry x + uptoBulkEntries r
def uptoBulkEntry {H : Type} : Lit × DataW H → Nat
  | (.string bytes, d) => bytes.length + uptoBulk d + 1
  | (_, d) => uptoBulk d + 1
 end
def uptoSmall : (H : Type) → List (DataW H) → Bool := fun _ ds => decide (uptoBulkAll ds ≤ 1048576)
def OpenSpec.upto (s : _root_.Go.ChangeSpec) : _root_.Go.OpenSpec := { _root_.Go.OpenSpec.ofChange s with cond := some uptoSmall }

/-- 'laws.FnExactReplicaKnows', WHERE WHAT IT READS IS OF BULK AT MOST 1048576: true; the input reads as it did. -/
def fnExactReplicaKnowsUptoRow : OpenClaim := { program := "ytlcebphcohneaaagreat", sum := "cddb5bff1d5b8014d726255295635a88e3f9f1f7cbc91eadee1e71ea43115ee7", func := "loop.example/g00850/laws.FnExactReplicaKnows", spec := "fnExactReplicaKnows", inPlace := ["internal/bytealg.IndexByteString", "slices.overlaps[loop.example/g00850/impl.Cell]", "slices.overlaps[loop.example/g00850/impl.Told]", "slices.overlaps[loop.example/g00850/impl.Held]"], unfollowed := true, recurses := true, apart := false, narrowed := true }
def FnExactReplicaKnowsUptoSaid : Prop := fnExactReplicaKnowsUptoRow.holds Tryz.pinned (OpenSpec.upto fnExactReplicaKnowsSpec)

/-- 'laws.FnExactReplicaLook', WHERE WHAT IT READS IS OF BULK AT MOST 1048576: true; the input reads as it did. -/
def fnExactReplicaLookUptoRow : OpenClaim := { program := "ytlcebphcohneaaagreat", sum := "cddb5bff1d5b8014d726255295635a88e3f9f1f7cbc91eadee1e71ea43115ee7", func := "loop.example/g00850/laws.FnExactReplicaLook", spec := "fnExactReplicaLook", inPlace := ["internal/bytealg.IndexByteString", "slices.overlaps[loop.example/g00850/impl.Cell]", "slices.overlaps[loop.example/g00850/impl.Told]", "slices.overlaps[loop.example/g00850/impl.Held]"], unfollowed := true, recurses := true, apart := false, narrowed := true }
def FnExactReplicaLookUptoSaid : Prop := fnExactReplicaLookUptoRow.holds Tryz.pinned (OpenSpec.upto fnExactReplicaLookSpec)

/-- 'laws.FnExactStateOf', WHERE WHAT IT READS IS OF BULK AT MOST 1048576: true; the input reads as it did. -/
def fnExactStateOfUptoRow : OpenClaim := { program := "ytlcebphcohneaaagreat", sum := "cddb5bff1d5b8014d726255295635a88e3f9f1f7cbc91eadee1e71ea43115ee7", func := "loop.example/g00850/laws.FnExactStateOf", spec := "fnExactStateOf", inPlace := ["internal/bytealg.IndexByteString", "slices.overlaps[loop.example/g00850/impl.Cell]", "slices.overlaps[loop.example/g00850/impl.Told]", "slices.overlaps[loop.example/g00850/impl.Held]"], unfollowed := true, recurses := true, apart := false, narrowed := true }
def FnExactStateOfUptoSaid : Prop := fnExactStateOfUptoRow.holds Tryz.pinned (OpenSpec.upto fnExactStateOfSpec)

/-- 'laws.FnExactApplyRec', WHERE WHAT IT READS IS OF BULK AT MOST 1048576: true; the input reads as it did. -/
def fnExactApplyRecUptoRow : OpenClaim := { program := "ytlcebphcohneaaagreat", sum := "cddb5bff1d5b8014d726255295635a88e3f9f1f7cbc91eadee1e71ea43115ee7", func := "loop.example/g00850/laws.FnExactApplyRec", spec := "fnExactApplyRec", inPlace := ["internal/bytealg.IndexByteString", "slices.overlaps[loop.example/g00850/impl.Cell]", "slices.overlaps[loop.example/g00850/impl.Told]", "slices.overlaps[loop.example/g00850/impl.Held]"], unfollowed := true, recurses := true, apart := false, narrowed := true }
def FnExactApplyRecUptoSaid : Prop := fnExactApplyRecUptoRow.holds Tryz.pinned (OpenSpec.upto fnExactApplyRecSpec)

/-- 'laws.FnExactSureState', WHERE WHAT IT READS IS OF BULK AT MOST 1048576: true; the input reads as it did. -/
def fnExactSureStateUptoRow : OpenClaim := { program := "ytlcebphcohneaaagreat", sum := "cddb5bff1d5b8014d726255295635a88e3f9f1f7cbc91eadee1e71ea43115ee7", func := "loop.example/g00850/laws.FnExactSureState", spec := "fnExactSureState", inPlace := ["internal/bytealg.IndexByteString", "slices.overlaps[loop.example/g00850/impl.Cell]", "slices.overlaps[loop.example/g00850/impl.Told]", "slices.overlaps[loop.example/g00850/impl.Held]"], unfollowed := true, recurses := true, apart := false, narrowed := true }
def FnExactSureStateUptoSaid : Prop := fnExactSureStateUptoRow.holds Tryz.pinned (OpenSpec.upto fnExactSureStateSpec)

end Rows
end Go.Proofs.YtlcebphcohneaaaGreat

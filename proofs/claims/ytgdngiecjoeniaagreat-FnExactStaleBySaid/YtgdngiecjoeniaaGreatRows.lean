/-
  No cell of these rows narrows 'for every input' (looked for: loops, veiled, ifaces, maps, wideKeys, modest, calm, conditions, laid).
  DERIVED. THE GIVEN ROWS OF THIS SEAT. 4 by the template 'for every input the law returns true; each argument reads behind the call as it read before'; 0 by the template 'total and deterministic' (their statements: YtgdngiecjoeniaaGreatTotals.lean).
  GIVEN WITH THE SEED: the statements are not yours to turn. If you find one false, say at which input.
  Laid BY PROGRAM, IN A SANDBOX (cutbox-rows.mjs): the forced cells as the released guide's own fill.sh prints them over the translation 16bfc025ab2575f3… (all of the seat's roots in one cut). By AI agents, Wed Nov 11 2026. No macro, syntax, notation, axiom, sorry.
-/
import Derived.Test.YtgdngiecjoeniaaGreatChecked
import GoSem.Claim
import GoSem.ClaimJoined
import GoSem.ClaimMapViews
import Derived.JoinedTies
import Derived.KernelRfl
namespace Go.Proofs.YtgdngiecjoeniaaGreat
/- THE CELL 'sum', in the pinned program and in every row, IS THE sha256 OF THE DUMP (.gsa) THAT YtgdngiecjoeniaaGreatProg.lean LOADS. Nothing in Lean hashes anything: it is a label: what it is worth is what the hold of that sum in a sandbox is worth. -/
noncomputable def Tryz.pinned : Pinned := { name := "ytgdngiecjoeniaagreat", sum := "16bfc025ab2575f369990e04419c9a5e5f5dec13a3c233c1caa979bb24d07069", checked := Tryz.checked }
namespace Rows
def none {H : Type} : Left H := { results := [], args := [] }

/-- 'laws.FnExactStaleBy': WHATEVER THE INPUT: true; the input reads as it did. -/
def fnExactStaleBySpec : ChangeSpec := { name := "fnExactStaleBy", fn := fun _ => fun
  | [d1, d2, d3] => { results := [.lit (.bool true)], args := [d1, d2, d3] }
  | _ => none }
def fnExactStaleByRow : OpenClaim := { program := "ytgdngiecjoeniaagreat", sum := "16bfc025ab2575f369990e04419c9a5e5f5dec13a3c233c1caa979bb24d07069", func := "loop.example/g00850/laws.FnExactStaleBy", spec := "fnExactStaleBy", inPlace := ["internal/bytealg.IndexByteString", "slices.overlaps[loop.example/g00850/impl.Cell]", "slices.overlaps[loop.example/g00850/impl.Told]", "slices.overlaps[loop.example/g00850/impl.Held]"], unfollowed := true, recurses := true, apart := false }
def FnExactStaleBySaid : Prop := fnExactStaleByRow.holds Tryz.pinned (OpenSpec.ofChange fnExactStaleBySpec)

/-- ITS FALSE NEIGHBOUR: 'it returns false'. Refute it at one input. -/
def fnExactStaleByWrong : ChangeSpec := { name := "fnExactStaleBy", fn := fun _ => fun
  | [d1, d2, d3] => { results := [.lit (.bool false)], args := [d1, d2, d3] }
  | _ => none }
def FnExactStaleByWrongFalsely : Prop := fnExactStaleByRow.holds Tryz.pinned (OpenSpec.ofChange fnExactStaleByWrong)

/-- 'laws.FnExactQuietWorld': WHATEVER THE INPUT: true; the input reads as it did. -/
def fnExactQuietWorldSpec : ChangeSpec := { name := "fnExactQuietWorld", fn := fun _ => fun
  | [d] => { results := [.lit (.bool true)], args := [d] }
  | _ => none }
def fnExactQuietWorldRow : OpenClaim := { program := "ytgdngiecjoeniaagreat", sum := "16bfc025ab2575f369990e04419c9a5e5f5dec13a3c233c1caa979bb24d07069", func := "loop.example/g00850/laws.FnExactQuietWorld", spec := "fnExactQuietWorld", inPlace := ["internal/bytealg.IndexByteString", "slices.overlaps[loop.example/g00850/impl.Cell]", "slices.overlaps[loop.example/g00850/impl.Told]", "slices.overlaps[loop.example/g00850/impl.Held]"], unfollowed := true, recurses := true, apart := false }
def FnExactQuietWorldSaid : Prop := fnExactQuietWorldRow.holds Tryz.pinned (OpenSpec.ofChange fnExactQuietWorldSpec)

/-- ITS FALSE NEIGHBOUR: 'it returns false'. Refute it at one input. -/
def fnExactQuietWorldWrong : ChangeSpec := { name := "fnExactQuietWorld", fn := fun _ => fun
  | [d] => { results := [.lit (.bool false)], args := [d] }
  | _ => none }
def FnExactQuietWorldWrongFalsely : Prop := fnExactQuietWorldRow.holds Tryz.pinned (OpenSpec.ofChange fnExactQuietWorldWrong)

/-- 'laws.FnExactDecidedIn': WHATEVER THE INPUT: true; the input reads as it did. -/
def fnExactDecidedInSpec : ChangeSpec := { name := "fnExactDecidedIn", fn := fun _ => fun
  | [d1, d2] => { results := [.lit (.bool true)], args := [d1, d2] }
  | _ => none }
def fnExactDecidedInRow : OpenClaim := { program := "ytgdngiecjoeniaagreat", sum := "16bfc025ab2575f369990e04419c9a5e5f5dec13a3c233c1caa979bb24d07069", func := "loop.example/g00850/laws.FnExactDecidedIn", spec := "fnExactDecidedIn", inPlace := ["internal/bytealg.IndexByteString", "slices.overlaps[loop.example/g00850/impl.Cell]", "slices.overlaps[loop.example/g00850/impl.Told]", "slices.overlaps[loop.example/g00850/impl.Held]"], unfollowed := true, recurses := true, apart := false }
def FnExactDecidedInSaid : Prop := fnExactDecidedInRow.holds Tryz.pinned (OpenSpec.ofChange fnExactDecidedInSpec)

/-- ITS FALSE NEIGHBOUR: 'it returns false'. Refute it at one input. -/
def fnExactDecidedInWrong : ChangeSpec := { name := "fnExactDecidedIn", fn := fun _ => fun
  | [d1, d2] => { results := [.lit (.bool false)], args := [d1, d2] }
  | _ => none }
def FnExactDecidedInWrongFalsely : Prop := fnExactDecidedInRow.holds Tryz.pinned (OpenSpec.ofChange fnExactDecidedInWrong)

/-- 'laws.FnExactWorldSettled': WHATEVER THE INPUT: true; the input reads as it did. -/
def fnExactWorldSettledSpec : ChangeSpec := { name := "fnExactWorldSettled", fn := fun _ => fun
  | [d] => { results := [.lit (.bool true)], args := [d] }
  | _ => none }
def fnExactWorldSettledRow : OpenClaim := { program := "ytgdngiecjoeniaagreat", sum := "16bfc025ab2575f369990e04419c9a5e5f5dec13a3c233c1caa979bb24d07069", func := "loop.example/g00850/laws.FnExactWorldSettled", spec := "fnExactWorldSettled", inPlace := ["internal/bytealg.IndexByteString", "slices.overlaps[loop.example/g00850/impl.Cell]", "slices.overlaps[loop.example/g00850/impl.Told]", "slices.overlaps[loop.example/g00850/impl.Held]"], unfollowed := true, recurses := true, apart := false }
def FnExactWorldSettledSaid : Prop := fnExactWorldSettledRow.holds Tryz.pinned (OpenSpec.ofChange fnExactWorldSettledSpec)

/-- ITS FALSE NEIGHBOUR: 'it returns false'. Refute it at one input. -/
def fnExactWorldSettledWrong : ChangeSpec := { name := "fnExactWorldSettled", fn := fun _ => fun
  | [d] => { results := [.lit (.bool false)], args := [d] }
  | _ => none }
def FnExactWorldSettledWrongFalsely : Prop := fnExactWorldSettledRow.holds Tryz.pinned (OpenSpec.ofChange fnExactWorldSettledWrong)

/- THE SECOND FORM. 'bulk': how many values and letters a reading holds, each counted each time it is reached (what is shared counts as often as it is met; a slice's spare places count too). A statement '..UptoSaid' is the law's where the arguments, and the package variables that the reading takes, are together of bulk at most 1048576: NARROWER than '..Said'. Prove '..Said' where nothing that the law and all that it calls make is longer than what came in: it says more and counts as full. Else prove '..UptoSaid'. A law counts once. -/
mutual
def uptoBulk {H : Type} : DataW H → Nat
  | .lit (.string bytes) => bytes.length + 1
  | .lit _ => 1
  | .nil => 1
  | .ptr d => uptoBulk d + 1
  | .slice elems spare => uptoBulkAll elems + uptoBulkAll spare + 1
  | .agg parts => uptoBulkAll parts + 1
  | .iface _ d => uptoBulk d + 1
  | .map entries => uptoBulkEntries entries + 1
  | .held _ => 1
def uptoBulkAll {H : Type} : List (DataW H) → Nat
  | [] => 0
  | d :: r => uptoBulk d + uptoBulkAll r
def uptoBulkEntries {H : Type} : List (Lit × DataW H) → Nat
  | [] => 0
  | x :: r => uptoBulkEntry x + uptoBulkEntries r
def uptoBulkEntry {H : Type} : Lit × DataW H → Nat
  | (.string bytes, d) => bytes.length + uptoBulk d + 1
  | (_, d) => uptoBulk d + 1
 end
def uptoSmall : (H : Type) → List (DataW H) → Bool := fun _ ds => decide (uptoBulkAll ds ≤ 1048576)
def OpenSpec.upto (s : _root_.Go.ChangeSpec) : _root_.Go.OpenSpec := { _root_.Go.OpenSpec.ofChange s with cond := some uptoSmall }

/-- 'laws.FnExactStaleBy', WHERE WHAT IT READS IS OF BULK AT MOST 1048576: true; the input reads as it did. -/
def fnExactStaleByUptoRow : OpenClaim := { program := "ytgdngiecjoeniaagreat", sum := "16bfc025ab2575f369990e04419c9a5e5f5dec13a3c233c1caa979bb24d07069", func := "loop.example/g00850/laws.FnExactStaleBy", spec := "fnExactStaleBy", inPlace := ["internal/bytealg.IndexByteString", "slices.overlaps[loop.example/g00850/impl.Cell]", "slices.overlaps[loop.example/g00850/impl.Told]", "slices.overlaps[loop.example/g00850/impl.Held]"], unfollowed := true, recurses := true, apart := false, narrowed := true }
def FnExactStaleByUptoSaid : Prop := fnExactStaleByUptoRow.holds Tryz.pinned (OpenSpec.upto fnExactStaleBySpec)

/-- 'laws.FnExactQuietWorld', WHERE WHAT IT READS IS OF BULK AT MOST 1048576: true; the input reads as it did. -/
def fnExactQuietWorldUptoRow : OpenClaim := { program := "ytgdngiecjoeniaagreat", sum := "16bfc025ab2575f369990e04419c9a5e5f5dec13a3c233c1caa979bb24d07069", func := "loop.example/g00850/laws.FnExactQuietWorld", spec := "fnExactQuietWorld", inPlace := ["internal/bytealg.IndexByteString", "slices.overlaps[loop.example/g00850/impl.Cell]", "slices.overlaps[loop.example/g00850/impl.Told]", "slices.overlaps[loop.example/g00850/impl.Held]"], unfollowed := true, recurses := true, apart := false, narrowed := true }
def FnExactQuietWorldUptoSaid : Prop := fnExactQuietWorldUptoRow.holds Tryz.pinned (OpenSpec.upto fnExactQuietWorldSpec)

/-- 'laws.FnExactDecidedIn', WHERE WHAT IT READS IS OF BULK AT MOST 1048576: true; the input reads as it did. -/
def fnExactDecidedInUptoRow : OpenClaim := { program := "ytgdngiecjoeniaagreat", sum := "16bfc025ab2575f369990e04419c9a5e5f5dec13a3c233c1caa979bb24d07069", func := "loop.example/g00850/laws.FnExactDecidedIn", spec := "fnExactDecidedIn", inPlace := ["internal/bytealg.IndexByteString", "slices.overlaps[loop.example/g00850/impl.Cell]", "slices.overlaps[loop.example/g00850/impl.Told]", "slices.overlaps[loop.example/g00850/impl.Held]"], unfollowed := true, recurses := true, apart := false, narrowed := true }
def FnExactDecidedInUptoSaid : Prop := fnExactDecidedInUptoRow.holds Tryz.pinned (OpenSpec.upto fnExactDecidedInSpec)

/-- 'laws.FnExactWorldSettled', WHERE WHAT IT READS IS OF BULK AT MOST 1048576: true; the input reads as it did. -/
def fnExactWorldSettledUptoRow : OpenClaim := { program := "ytgdngiecjoeniaagreat", sum := "16bfc025ab2575f369990e04419c9a5e5f5dec13a3c233c1caa979bb24d07069", func := "loop.example/g00850/laws.FnExactWorldSettled", spec := "fnExactWorldSettled", inPlace := ["internal/bytealg.IndexByteString", "slices.overlaps[loop.example/g00850/impl.Cell]", "slices.overlaps[loop.example/g00850/impl.Told]", "slices.overlaps[loop.example/g00850/impl.Held]"], unfollowed := true, recurses := true, apart := false, narrowed := true }
def FnExactWorldSettledUptoSaid : Prop := fnExactWorldSettledUptoRow.holds Tryz.pinned (OpenSpec.upto fnExactWorldSettledSpec)

end Rows
end Go.Proofs.YtgdngiecjoeniaaGreat

/- The types of the laws and their helper functions. -/
import Derived.Test.YtjchgajhlpognaaFnGivenCodes
import Derived.Test.YtjchgajhlpognaaAmSet
set_option linter.unusedSimpArgs false
set_option linter.unusedVariables false
set_option linter.unusedSectionVars false
namespace Go.Proofs.Wb
open Go Go.Am
--@T Clock
structure Clock where
  Off : Int
  deriving DecidableEq, Inhabited
def Clock.row (o : Bool) (x : Clock) : List T := [i64 x.Off]
@[go_sem] theorem Clock.row_eq (o : Bool) (x : Clock) : Clock.row o x = [i64 x.Off] := rfl
def Clock.wf (x : Clock) : Prop := (-9223372036854775808 ≤ x.Off ∧ x.Off ≤ 9223372036854775807)
--@T Lease
structure Lease where
  Who : Int
  From : Int
  Until : Int
  deriving DecidableEq, Inhabited
def Lease.row (o : Bool) (x : Lease) : List T := [i64 x.Who, i64 x.From, i64 x.Until]
@[go_sem] theorem Lease.row_eq (o : Bool) (x : Lease) : Lease.row o x = [i64 x.Who, i64 x.From, i64 x.Until] := rfl
def Lease.wf (x : Lease) : Prop := (-9223372036854775808 ≤ x.Who ∧ x.Who ≤ 9223372036854775807) ∧ (-9223372036854775808 ≤ x.From ∧ x.From ≤ 9223372036854775807) ∧ (-9223372036854775808 ≤ x.Until ∧ x.Until ≤ 9223372036854775807)
--@T Watch
structure Watch where
  True : Int
  Clocks : List Clock
  Given : List Lease
  deriving DecidableEq, Inhabited
def Watch.row (o : Bool) (x : Watch) : List T := [i64 x.True, .sl o 1 (x.Clocks.map (Clock.row o)), .sl o 3 (x.Given.map (Lease.row o))]
@[go_sem] theorem Watch.row_eq (o : Bool) (x : Watch) : Watch.row o x = [i64 x.True, .sl o 1 (x.Clocks.map (Clock.row o)), .sl o 3 (x.Given.map (Lease.row o))] := rfl
def Watch.wf (x : Watch) : Prop := (-9223372036854775808 ≤ x.True ∧ x.True ≤ 9223372036854775807) ∧ (wfL (Clock.wf) x.Clocks) ∧ (wfL (Lease.wf) x.Given)
def Watch.sz (x : Watch) : Nat := x.Clocks.length + x.Given.length
--@T WatchAct
structure WatchAct where
  Kind : Int
  Who : Int
  By : Int
  deriving DecidableEq, Inhabited
def WatchAct.row (o : Bool) (x : WatchAct) : List T := [i64 x.Kind, i64 x.Who, i64 x.By]
@[go_sem] theorem WatchAct.row_eq (o : Bool) (x : WatchAct) : WatchAct.row o x = [i64 x.Kind, i64 x.Who, i64 x.By] := rfl
def WatchAct.wf (x : WatchAct) : Prop := (-9223372036854775808 ≤ x.Kind ∧ x.Kind ≤ 9223372036854775807) ∧ (-9223372036854775808 ≤ x.Who ∧ x.Who ≤ 9223372036854775807) ∧ (-9223372036854775808 ≤ x.By ∧ x.By ≤ 9223372036854775807)
def Clock.lim (x : Clock) : Prop := True
theorem Clock.lim_of {x : Clock} (h : x.wf) : x.lim := by
  exact trivial
def Lease.lim (x : Lease) : Prop := True
theorem Lease.lim_of {x : Lease} (h : x.wf) : x.lim := by
  exact trivial
def Watch.lim (x : Watch) : Prop := (limL (Clock.lim) x.Clocks) ∧ (limL (Lease.lim) x.Given)
theorem Watch.lim_of {x : Watch} (h : x.wf) : x.lim := by
  obtain ⟨w_True, w_Clocks, w_Given⟩ := h
  exact ⟨⟨w_Clocks.1, fun y hy => Clock.lim_of (w_Clocks.2 y hy)⟩, ⟨w_Given.1, fun y hy => Lease.lim_of (w_Given.2 y hy)⟩⟩
theorem Watch.lim_sz {x : Watch} (h : x.sz ≤ 2 ^ 62) : x.lim := by
  unfold Watch.sz at h
  exact ⟨⟨Nat.le_trans (by omega) mx62, fun y hy => trivial⟩, ⟨Nat.le_trans (by omega) mx62, fun y hy => trivial⟩⟩
def WatchAct.lim (x : WatchAct) : Prop := True
theorem WatchAct.lim_of {x : WatchAct} (h : x.wf) : x.lim := by
  exact trivial
end Go.Proofs.Wb

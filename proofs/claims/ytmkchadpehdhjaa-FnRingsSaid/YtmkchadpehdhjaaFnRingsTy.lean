/- The types of the laws and their helper functions. -/
import Derived.Test.YtmkchadpehdhjaaFnRingsCodes
import Derived.Test.YtmkchadpehdhjaaAmSet
set_option linter.unusedSimpArgs false
set_option linter.unusedVariables false
set_option linter.unusedSectionVars false
namespace Go.Proofs.Wb
open Go Go.Am
--@T Clock
structure Clock where
  Off : Int
  deriving DecidableEq, Inhabited
def Clock.row (o : Bool) (x : Clock) : List T := [i64 x.Off]
@[go_sem] theorem Clock.row_eq (o : Bool) (x : Clock) : Clock.row o x = [i64 x.Off] := rfl
def Clock.wf (x : Clock) : Prop := (-9223372036854775808 ≤ x.Off ∧ x.Off ≤ 9223372036854775807)
--@T Span
structure Span where
  Low : Int
  High : Int
  deriving DecidableEq, Inhabited
def Span.row (o : Bool) (x : Span) : List T := [i64 x.Low, i64 x.High]
@[go_sem] theorem Span.row_eq (o : Bool) (x : Span) : Span.row o x = [i64 x.Low, i64 x.High] := rfl
def Span.wf (x : Span) : Prop := (-9223372036854775808 ≤ x.Low ∧ x.Low ≤ 9223372036854775807) ∧ (-9223372036854775808 ≤ x.High ∧ x.High ≤ 9223372036854775807)
def Clock.lim (x : Clock) : Prop := True
theorem Clock.lim_of {x : Clock} (h : x.wf) : x.lim := by
  exact trivial
def Span.lim (x : Span) : Prop := True
theorem Span.lim_of {x : Span} (h : x.wf) : x.lim := by
  exact trivial
end Go.Proofs.Wb

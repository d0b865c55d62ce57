/- The types of the laws and their helper functions. -/
import Derived.Test.YtjdnnijmpnokaaaFnSentCodes
import Derived.Test.YtjdnnijmpnokaaaAmSet
set_option linter.unusedSimpArgs false
set_option linter.unusedVariables false
set_option linter.unusedSectionVars false
namespace Go.Proofs.Wb
open Go Go.Am
--@T Letter
structure Letter where
  From : Int
  To : Int
  Due : Int
  Body : ByteArray
  deriving DecidableEq, Inhabited
def Letter.row (o : Bool) (x : Letter) : List T := [i64 x.From, i64 x.To, i64 x.Due, str x.Body]
@[go_sem] theorem Letter.row_eq (o : Bool) (x : Letter) : Letter.row o x = [i64 x.From, i64 x.To, i64 x.Due, str x.Body] := rfl
def Letter.wf (x : Letter) : Prop := (-9223372036854775808 ≤ x.From ∧ x.From ≤ 9223372036854775807) ∧ (-9223372036854775808 ≤ x.To ∧ x.To ≤ 9223372036854775807) ∧ (-9223372036854775808 ≤ x.Due ∧ x.Due ≤ 9223372036854775807) ∧ (x.Body.size ≤ maxLen)
def Letter.sz (x : Letter) : Nat := x.Body.size
--@T Net
structure Net where
  Now : Int
  Homes : List Int
  Far : Int
  Under : List Letter
  deriving DecidableEq, Inhabited
def Net.row (o : Bool) (x : Net) : List T := [i64 x.Now, .sl o 1 (ints x.Homes), i64 x.Far, .sl o 4 (x.Under.map (Letter.row o))]
@[go_sem] theorem Net.row_eq (o : Bool) (x : Net) : Net.row o x = [i64 x.Now, .sl o 1 (ints x.Homes), i64 x.Far, .sl o 4 (x.Under.map (Letter.row o))] := rfl
def Net.wf (x : Net) : Prop := (-9223372036854775808 ≤ x.Now ∧ x.Now ≤ 9223372036854775807) ∧ (wfL (fun n => -9223372036854775808 ≤ n ∧ n ≤ 9223372036854775807) x.Homes) ∧ (-9223372036854775808 ≤ x.Far ∧ x.Far ≤ 9223372036854775807) ∧ (wfL (Letter.wf) x.Under)
def Net.sz (x : Net) : Nat := x.Homes.length + szL (Letter.sz) x.Under
def Letter.lim (x : Letter) : Prop := True
theorem Letter.lim_of {x : Letter} (h : x.wf) : x.lim := by
  exact trivial
def Net.lim (x : Net) : Prop := (limL (fun _ => True) x.Homes) ∧ (limL (Letter.lim) x.Under)
theorem Net.lim_of {x : Net} (h : x.wf) : x.lim := by
  obtain ⟨w_Now, w_Homes, w_Far, w_Under⟩ := h
  exact ⟨⟨w_Homes.1, fun _ _ => trivial⟩, ⟨w_Under.1, fun y hy => Letter.lim_of (w_Under.2 y hy)⟩⟩
theorem Net.lim_sz {x : Net} (h : x.sz ≤ 2 ^ 62) : x.lim := by
  unfold Net.sz at h
  exact ⟨⟨Nat.le_trans (by omega) mx62, fun y hy => trivial⟩, ⟨Nat.le_trans (szL_len (f := Letter.sz)) (Nat.le_trans (by omega) mx62), fun y hy => trivial⟩⟩
end Go.Proofs.Wb

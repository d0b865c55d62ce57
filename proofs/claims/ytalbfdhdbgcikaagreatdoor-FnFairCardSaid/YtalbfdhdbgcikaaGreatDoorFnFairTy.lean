import Derived.Test.YtalbfdhdbgcikaaGreatDoorFnFairCodes
import Derived.Test.YtalbfdhdbgcikaaGreatDoorFnFairCodes1
import Derived.Test.YtalbfdhdbgcikaaGreatDoorAmRaw
set_option linter.unusedSimpArgs false
set_option linter.unusedVariables false
set_option linter.unusedSectionVars false
namespace Go.Proofs.Wb
open Go Go.Am
structure Letter where
  From : Int
  To : Int
  Due : Int
  Body : ByteArray
  deriving DecidableEq, Inhabited
def Letter.row (o : Bool) (x : Letter) : List T := [i64 x.From, i64 x.To, i64 x.Due, str x.Body]
@[go_sem] theorem Letter.row_eq (o : Bool) (x : Letter) : Letter.row o x = [i64 x.From, i64 x.To, i64 x.Due, str x.Body] := rfl
def Letter.wf (x : Letter) : Prop := (-9223372036854775808 ≤ x.From ∧ x.From ≤ 9223372036854775807) ∧ (-9223372036854775808 ≤ x.To ∧ x.To ≤ 9223372036854775807) ∧ (-9223372036854775808 ≤ x.Due ∧ x.Due ≤ 9223372036854775807) ∧ (x.Body.size ≤ maxLen)
def Letter.sz (x : Letter) : Nat := x.Body.size
structure PollAct where
  Kind : Int
  Who : Int
  By : Int
  deriving DecidableEq, Inhabited
def PollAct.row (o : Bool) (x : PollAct) : List T := [i64 x.Kind, i64 x.Who, i64 x.By]
@[go_sem] theorem PollAct.row_eq (o : Bool) (x : PollAct) : PollAct.row o x = [i64 x.Kind, i64 x.Who, i64 x.By] := rfl
def PollAct.wf (x : PollAct) : Prop := (-9223372036854775808 ≤ x.Kind ∧ x.Kind ≤ 9223372036854775807) ∧ (-9223372036854775808 ≤ x.Who ∧ x.Who ≤ 9223372036854775807) ∧ (-9223372036854775808 ≤ x.By ∧ x.By ≤ 9223372036854775807)
structure Voter where
  Up : Bool
  Term : Int
  For : Int
  Yes : List Int
  Leads : Bool
  deriving DecidableEq, Inhabited
def Voter.row (o : Bool) (x : Voter) : List T := [bl x.Up, i64 x.Term, i64 x.For, .sl o 1 (ints x.Yes), bl x.Leads]
@[go_sem] theorem Voter.row_eq (o : Bool) (x : Voter) : Voter.row o x = [bl x.Up, i64 x.Term, i64 x.For, .sl o 1 (ints x.Yes), bl x.Leads] := rfl
def Voter.wf (x : Voter) : Prop := (-9223372036854775808 ≤ x.Term ∧ x.Term ≤ 9223372036854775807) ∧ (-9223372036854775808 ≤ x.For ∧ x.For ≤ 9223372036854775807) ∧ (wfL (fun n => -9223372036854775808 ≤ n ∧ n ≤ 9223372036854775807) x.Yes)
def Voter.sz (x : Voter) : Nat := x.Yes.length
structure Won where
  Term : Int
  Who : Int
  deriving DecidableEq, Inhabited
def Won.row (o : Bool) (x : Won) : List T := [i64 x.Term, i64 x.Who]
@[go_sem] theorem Won.row_eq (o : Bool) (x : Won) : Won.row o x = [i64 x.Term, i64 x.Who] := rfl
def Won.wf (x : Won) : Prop := (-9223372036854775808 ≤ x.Term ∧ x.Term ≤ 9223372036854775807) ∧ (-9223372036854775808 ≤ x.Who ∧ x.Who ≤ 9223372036854775807)
structure Net where
  Now : Int
  Homes : List Int
  Far : Int
  Under : List Letter
  deriving DecidableEq, Inhabited
def Net.row (o : Bool) (x : Net) : List T := [i64 x.Now, .sl o 1 (ints x.Homes), i64 x.Far, .sl o 4 (x.Under.map (Letter.row o))]
@[go_sem] theorem Net.row_eq (o : Bool) (x : Net) : Net.row o x = [i64 x.Now, .sl o 1 (ints x.Homes), i64 x.Far, .sl o 4 (x.Under.map (Letter.row o))] := rfl
def Net.wf (x : Net) : Prop := (-9223372036854775808 ≤ x.Now ∧ x.Now ≤ 9223372036854775807) ∧ (wfL (fun n => -9223372036854775808 ≤ n ∧ n ≤ 9223372036854775807) x.Homes) ∧ (-9223372036854775808 ≤ x.Far ∧ x.Far ≤ 9223372036854775807) ∧ (wfL (Letter.wf) x.Under)
def Net.sz (x : Net) : Nat := x.Homes.length + szL (Letter.sz) x.Under
structure Poll where
  Voters : List Voter
  Net : Net
  Won : List Won
  deriving DecidableEq, Inhabited
def Poll.row (o : Bool) (x : Poll) : List T := [.sl o 5 (x.Voters.map (Voter.row o)), i64 x.Net.Now, .sl o 1 (ints x.Net.Homes), i64 x.Net.Far, .sl o 4 (x.Net.Under.map (Letter.row o)), .sl o 2 (x.Won.map (Won.row o))]
@[go_sem] theorem Poll.row_eq (o : Bool) (x : Poll) : Poll.row o x = [.sl o 5 (x.Voters.map (Voter.row o)), i64 x.Net.Now, .sl o 1 (ints x.Net.Homes), i64 x.Net.Far, .sl o 4 (x.Net.Under.map (Letter.row o)), .sl o 2 (x.Won.map (Won.row o))] := rfl
def Poll.wf (x : Poll) : Prop := (wfL (Voter.wf) x.Voters) ∧ (x.Net.wf) ∧ (wfL (Won.wf) x.Won)
def Poll.sz (x : Poll) : Nat := szL (Voter.sz) x.Voters + x.Net.sz + x.Won.length
end Go.Proofs.Wb

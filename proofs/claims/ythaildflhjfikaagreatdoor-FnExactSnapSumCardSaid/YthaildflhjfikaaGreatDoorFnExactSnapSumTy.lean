import Derived.Test.YthaildflhjfikaaGreatDoorFnExactSnapSumCodes
import Derived.Test.YthaildflhjfikaaGreatDoorFnExactSnapSumCodes1
import Derived.Test.YthaildflhjfikaaGreatDoorFnExactSnapSumCodes2
import Derived.Test.YthaildflhjfikaaGreatDoorAmRaw
set_option linter.all false
set_option maxHeartbeats 4000000
namespace Go.Proofs.Wb
open Tryz renaming prog → p_
open Go Go.Am
structure Got where
 Key : ByteArray
 Val : ByteArray
 There : Bool
 deriving DecidableEq, Inhabited
def Got.row (o : Bool) (x : Got) : List T := [str x.Key, str x.Val, bl x.There]
@[go_sem] theorem Got.row_eq (o : Bool) (x : Got) : Got.row o x = [str x.Key, str x.Val, bl x.There] := rfl
def Got.wf (x : Got) : Prop := (x.Key.size ≤ maxLen) ∧ (x.Val.size ≤ maxLen)
def Got.sz (x : Got) : Nat := x.Key.size + x.Val.size
structure Lock where
 Key : ByteArray
 Txn : Int
 Write : Bool
 deriving DecidableEq, Inhabited
def Lock.row (o : Bool) (x : Lock) : List T := [str x.Key, i64 x.Txn, bl x.Write]
@[go_sem] theorem Lock.row_eq (o : Bool) (x : Lock) : Lock.row o x = [str x.Key, i64 x.Txn, bl x.Write] := rfl
def Lock.wf (x : Lock) : Prop := (x.Key.size ≤ maxLen) ∧ (-9223372036854775808 ≤ x.Txn ∧ x.Txn ≤ 9223372036854775807)
def Lock.sz (x : Lock) : Nat := x.Key.size
structure Op where
 Kind : Int
 Key : ByteArray
 Val : ByteArray
 By : Int
 deriving DecidableEq, Inhabited
def Op.row (o : Bool) (x : Op) : List T := [i64 x.Kind, str x.Key, str x.Val, i64 x.By]
@[go_sem] theorem Op.row_eq (o : Bool) (x : Op) : Op.row o x = [i64 x.Kind, str x.Key, str x.Val, i64 x.By] := rfl
def Op.wf (x : Op) : Prop := (-9223372036854775808 ≤ x.Kind ∧ x.Kind ≤ 9223372036854775807) ∧ (x.Key.size ≤ maxLen) ∧ (x.Val.size ≤ maxLen) ∧ (-9223372036854775808 ≤ x.By ∧ x.By ≤ 9223372036854775807)
def Op.sz (x : Op) : Nat := x.Key.size + x.Val.size
structure Write where
 Key : ByteArray
 Val : ByteArray
 Gone : Bool
 deriving DecidableEq, Inhabited
def Write.row (o : Bool) (x : Write) : List T := [str x.Key, str x.Val, bl x.Gone]
@[go_sem] theorem Write.row_eq (o : Bool) (x : Write) : Write.row o x = [str x.Key, str x.Val, bl x.Gone] := rfl
def Write.wf (x : Write) : Prop := (x.Key.size ≤ maxLen) ∧ (x.Val.size ≤ maxLen)
def Write.sz (x : Write) : Nat := x.Key.size + x.Val.size
structure Clock where
 Off : Int
 deriving DecidableEq, Inhabited
def Clock.row (o : Bool) (x : Clock) : List T := [i64 x.Off]
@[go_sem] theorem Clock.row_eq (o : Bool) (x : Clock) : Clock.row o x = [i64 x.Off] := rfl
def Clock.wf (x : Clock) : Prop := (-9223372036854775808 ≤ x.Off ∧ x.Off ≤ 9223372036854775807)
structure Rec where
 Kind : Int
 Txn : Int
 Time : Int
 Lead : Int
 Reads : List ByteArray
 Writes : List Write
 Yes : Bool
 deriving DecidableEq, Inhabited
def Rec.row (o : Bool) (x : Rec) : List T := [i64 x.Kind, i64 x.Txn, i64 x.Time, i64 x.Lead, .sl o 1 (strs x.Reads), .sl o 3 (x.Writes.map (Write.row o)), bl x.Yes]
@[go_sem] theorem Rec.row_eq (o : Bool) (x : Rec) : Rec.row o x = [i64 x.Kind, i64 x.Txn, i64 x.Time, i64 x.Lead, .sl o 1 (strs x.Reads), .sl o 3 (x.Writes.map (Write.row o)), bl x.Yes] := rfl
def Rec.wf (x : Rec) : Prop := (-9223372036854775808 ≤ x.Kind ∧ x.Kind ≤ 9223372036854775807) ∧ (-9223372036854775808 ≤ x.Txn ∧ x.Txn ≤ 9223372036854775807) ∧ (-9223372036854775808 ≤ x.Time ∧ x.Time ≤ 9223372036854775807) ∧ (-9223372036854775808 ≤ x.Lead ∧ x.Lead ≤ 9223372036854775807) ∧ (wfL (fun s => s.size ≤ maxLen) x.Reads) ∧ (wfL (Write.wf) x.Writes)
def Rec.sz (x : Rec) : Nat := szL (ByteArray.size) x.Reads + szL (Write.sz) x.Writes
structure WorldLook where
 Node : Int
 Keys : List ByteArray
 Got : List Got
 Time : Int
 Begin : Int
 End : Int
 deriving DecidableEq, Inhabited
def WorldLook.row (o : Bool) (x : WorldLook) : List T := [i64 x.Node, .sl o 1 (strs x.Keys), .sl o 3 (x.Got.map (Got.row o)), i64 x.Time, i64 x.Begin, i64 x.End]
@[go_sem] theorem WorldLook.row_eq (o : Bool) (x : WorldLook) : WorldLook.row o x = [i64 x.Node, .sl o 1 (strs x.Keys), .sl o 3 (x.Got.map (Got.row o)), i64 x.Time, i64 x.Begin, i64 x.End] := rfl
def WorldLook.wf (x : WorldLook) : Prop := (-9223372036854775808 ≤ x.Node ∧ x.Node ≤ 9223372036854775807) ∧ (wfL (fun s => s.size ≤ maxLen) x.Keys) ∧ (wfL (Got.wf) x.Got) ∧ (-9223372036854775808 ≤ x.Time ∧ x.Time ≤ 9223372036854775807) ∧ (-9223372036854775808 ≤ x.Begin ∧ x.Begin ≤ 9223372036854775807) ∧ (-9223372036854775808 ≤ x.End ∧ x.End ≤ 9223372036854775807)
def WorldLook.sz (x : WorldLook) : Nat := szL (ByteArray.size) x.Keys + szL (Got.sz) x.Got
structure WorldTxn where
 Ops : List Op
 Got : List Got
 Terms : List Int
 Begin : Int
 End : Int
 Yes : Bool
 Time : Int
 Dead : Bool
 Put : Bool
 Stopped : Bool
 deriving DecidableEq, Inhabited
def WorldTxn.row (o : Bool) (x : WorldTxn) : List T := [.sl o 4 (x.Ops.map (Op.row o)), .sl o 3 (x.Got.map (Got.row o)), .sl o 1 (ints x.Terms), i64 x.Begin, i64 x.End, bl x.Yes, i64 x.Time, bl x.Dead, bl x.Put, bl x.Stopped]
@[go_sem] theorem WorldTxn.row_eq (o : Bool) (x : WorldTxn) : WorldTxn.row o x = [.sl o 4 (x.Ops.map (Op.row o)), .sl o 3 (x.Got.map (Got.row o)), .sl o 1 (ints x.Terms), i64 x.Begin, i64 x.End, bl x.Yes, i64 x.Time, bl x.Dead, bl x.Put, bl x.Stopped] := rfl
def WorldTxn.wf (x : WorldTxn) : Prop := (wfL (Op.wf) x.Ops) ∧ (wfL (Got.wf) x.Got) ∧ (wfL (fun n => -9223372036854775808 ≤ n ∧ n ≤ 9223372036854775807) x.Terms) ∧ (-9223372036854775808 ≤ x.Begin ∧ x.Begin ≤ 9223372036854775807) ∧ (-9223372036854775808 ≤ x.End ∧ x.End ≤ 9223372036854775807) ∧ (-9223372036854775808 ≤ x.Time ∧ x.Time ≤ 9223372036854775807)
def WorldTxn.sz (x : WorldTxn) : Nat := szL (Op.sz) x.Ops + szL (Got.sz) x.Got + x.Terms.length
structure Entry where
 Term : Int
 Rec : Rec
 deriving DecidableEq, Inhabited
def Entry.row (o : Bool) (x : Entry) : List T := [i64 x.Term, i64 x.Rec.Kind, i64 x.Rec.Txn, i64 x.Rec.Time, i64 x.Rec.Lead, .sl o 1 (strs x.Rec.Reads), .sl o 3 (x.Rec.Writes.map (Write.row o)), bl x.Rec.Yes]
@[go_sem] theorem Entry.row_eq (o : Bool) (x : Entry) : Entry.row o x = [i64 x.Term, i64 x.Rec.Kind, i64 x.Rec.Txn, i64 x.Rec.Time, i64 x.Rec.Lead, .sl o 1 (strs x.Rec.Reads), .sl o 3 (x.Rec.Writes.map (Write.row o)), bl x.Rec.Yes] := rfl
def Entry.wf (x : Entry) : Prop := (-9223372036854775808 ≤ x.Term ∧ x.Term ≤ 9223372036854775807) ∧ (x.Rec.wf)
def Entry.sz (x : Entry) : Nat := x.Rec.sz
structure Replica where
 Up : Bool
 Log : List Entry
 Sure : Int
 deriving DecidableEq, Inhabited
def Replica.row (o : Bool) (x : Replica) : List T := [bl x.Up, .sl o 8 (x.Log.map (Entry.row o)), i64 x.Sure]
@[go_sem] theorem Replica.row_eq (o : Bool) (x : Replica) : Replica.row o x = [bl x.Up, .sl o 8 (x.Log.map (Entry.row o)), i64 x.Sure] := rfl
def Replica.wf (x : Replica) : Prop := (wfL (Entry.wf) x.Log) ∧ (-9223372036854775808 ≤ x.Sure ∧ x.Sure ≤ 9223372036854775807)
def Replica.sz (x : Replica) : Nat := szL (Entry.sz) x.Log
structure Group where
 Reps : List Replica
 Term : Int
 Lead : Int
 deriving DecidableEq, Inhabited
def Group.row (o : Bool) (x : Group) : List T := [.sl o 3 (x.Reps.map (Replica.row o)), i64 x.Term, i64 x.Lead]
@[go_sem] theorem Group.row_eq (o : Bool) (x : Group) : Group.row o x = [.sl o 3 (x.Reps.map (Replica.row o)), i64 x.Term, i64 x.Lead] := rfl
def Group.wf (x : Group) : Prop := (wfL (Replica.wf) x.Reps) ∧ (-9223372036854775808 ≤ x.Term ∧ x.Term ≤ 9223372036854775807) ∧ (-9223372036854775808 ≤ x.Lead ∧ x.Lead ≤ 9223372036854775807)
def Group.sz (x : Group) : Nat := szL (Replica.sz) x.Reps
structure World where
 Now : Int
 Count : Int
 Clocks : List Clock
 Cuts : List ByteArray
 Groups : List Group
 Locks : List (List Lock)
 Promised : List Int
 Txns : List WorldTxn
 Looks : List WorldLook
 deriving DecidableEq, Inhabited
def World.row (o : Bool) (x : World) : List T := [i64 x.Now, i64 x.Count, .sl o 1 (x.Clocks.map (Clock.row o)), .sl o 1 (strs x.Cuts), .sl o 3 (x.Groups.map (Group.row o)), .sl o 1 (x.Locks.map fun y => [.sl o 3 (y.map (Lock.row o))]), .sl o 1 (ints x.Promised), .sl o 10 (x.Txns.map (WorldTxn.row o)), .sl o 6 (x.Looks.map (WorldLook.row o))]
@[go_sem] theorem World.row_eq (o : Bool) (x : World) : World.row o x = [i64 x.Now, i64 x.Count, .sl o 1 (x.Clocks.map (Clock.row o)), .sl o 1 (strs x.Cuts), .sl o 3 (x.Groups.map (Group.row o)), .sl o 1 (x.Locks.map fun y => [.sl o 3 (y.map (Lock.row o))]), .sl o 1 (ints x.Promised), .sl o 10 (x.Txns.map (WorldTxn.row o)), .sl o 6 (x.Looks.map (WorldLook.row o))] := rfl
def World.wf (x : World) : Prop := (-9223372036854775808 ≤ x.Now ∧ x.Now ≤ 9223372036854775807) ∧ (-9223372036854775808 ≤ x.Count ∧ x.Count ≤ 9223372036854775807) ∧ (wfL (Clock.wf) x.Clocks) ∧ (wfL (fun s => s.size ≤ maxLen) x.Cuts) ∧ (wfL (Group.wf) x.Groups) ∧ (wfL (wfL (Lock.wf)) x.Locks) ∧ (wfL (fun n => -9223372036854775808 ≤ n ∧ n ≤ 9223372036854775807) x.Promised) ∧ (wfL (WorldTxn.wf) x.Txns) ∧ (wfL (WorldLook.wf) x.Looks)
def World.sz (x : World) : Nat := x.Clocks.length + szL (ByteArray.size) x.Cuts + szL (Group.sz) x.Groups + szL (szL (Lock.sz)) x.Locks + x.Promised.length + szL (WorldTxn.sz) x.Txns + szL (WorldLook.sz) x.Looks
structure Ver where
 Time : Int
 Val : ByteArray
 Gone : Bool
 deriving DecidableEq, Inhabited
def Ver.row (o : Bool) (x : Ver) : List T := [i64 x.Time, str x.Val, bl x.Gone]
@[go_sem] theorem Ver.row_eq (o : Bool) (x : Ver) : Ver.row o x = [i64 x.Time, str x.Val, bl x.Gone] := rfl
def Ver.wf (x : Ver) : Prop := (-9223372036854775808 ≤ x.Time ∧ x.Time ≤ 9223372036854775807) ∧ (x.Val.size ≤ maxLen)
def Ver.sz (x : Ver) : Nat := x.Val.size
structure Cell where
 Key : ByteArray
 Vers : List Ver
 deriving DecidableEq, Inhabited
def Cell.row (o : Bool) (x : Cell) : List T := [str x.Key, .sl o 3 (x.Vers.map (Ver.row o))]
@[go_sem] theorem Cell.row_eq (o : Bool) (x : Cell) : Cell.row o x = [str x.Key, .sl o 3 (x.Vers.map (Ver.row o))] := rfl
def Cell.wf (x : Cell) : Prop := (x.Key.size ≤ maxLen) ∧ (wfL (Ver.wf) x.Vers)
def Cell.sz (x : Cell) : Nat := x.Key.size + szL (Ver.sz) x.Vers
structure Held where
 Txn : Int
 Time : Int
 Lead : Int
 Reads : List ByteArray
 Writes : List Write
 deriving DecidableEq, Inhabited
def Held.row (o : Bool) (x : Held) : List T := [i64 x.Txn, i64 x.Time, i64 x.Lead, .sl o 1 (strs x.Reads), .sl o 3 (x.Writes.map (Write.row o))]
@[go_sem] theorem Held.row_eq (o : Bool) (x : Held) : Held.row o x = [i64 x.Txn, i64 x.Time, i64 x.Lead, .sl o 1 (strs x.Reads), .sl o 3 (x.Writes.map (Write.row o))] := rfl
def Held.wf (x : Held) : Prop := (-9223372036854775808 ≤ x.Txn ∧ x.Txn ≤ 9223372036854775807) ∧ (-9223372036854775808 ≤ x.Time ∧ x.Time ≤ 9223372036854775807) ∧ (-9223372036854775808 ≤ x.Lead ∧ x.Lead ≤ 9223372036854775807) ∧ (wfL (fun s => s.size ≤ maxLen) x.Reads) ∧ (wfL (Write.wf) x.Writes)
def Held.sz (x : Held) : Nat := szL (ByteArray.size) x.Reads + szL (Write.sz) x.Writes
structure Told where
 Txn : Int
 Yes : Bool
 Time : Int
 deriving DecidableEq, Inhabited
def Told.row (o : Bool) (x : Told) : List T := [i64 x.Txn, bl x.Yes, i64 x.Time]
@[go_sem] theorem Told.row_eq (o : Bool) (x : Told) : Told.row o x = [i64 x.Txn, bl x.Yes, i64 x.Time] := rfl
def Told.wf (x : Told) : Prop := (-9223372036854775808 ≤ x.Txn ∧ x.Txn ≤ 9223372036854775807) ∧ (-9223372036854775808 ≤ x.Time ∧ x.Time ≤ 9223372036854775807)
structure State where
 Floor : Int
 Cells : List Cell
 Held : List Held
 Told : List Told
 deriving DecidableEq, Inhabited
def State.row (o : Bool) (x : State) : List T := [i64 x.Floor, .sl o 2 (x.Cells.map (Cell.row o)), .sl o 5 (x.Held.map (Held.row o)), .sl o 3 (x.Told.map (Told.row o))]
@[go_sem] theorem State.row_eq (o : Bool) (x : State) : State.row o x = [i64 x.Floor, .sl o 2 (x.Cells.map (Cell.row o)), .sl o 5 (x.Held.map (Held.row o)), .sl o 3 (x.Told.map (Told.row o))] := rfl
def State.wf (x : State) : Prop := (-9223372036854775808 ≤ x.Floor ∧ x.Floor ≤ 9223372036854775807) ∧ (wfL (Cell.wf) x.Cells) ∧ (wfL (Held.wf) x.Held) ∧ (wfL (Told.wf) x.Told)
def State.sz (x : State) : Nat := szL (Cell.sz) x.Cells + szL (Held.sz) x.Held + x.Told.length
def Got.lim (x : Got) : Prop := True
theorem Got.lim_of {x : Got} (h : x.wf) : x.lim := by
 exact trivial
def Lock.lim (x : Lock) : Prop := True
theorem Lock.lim_of {x : Lock} (h : x.wf) : x.lim := by
 exact trivial
def Op.lim (x : Op) : Prop := True
theorem Op.lim_of {x : Op} (h : x.wf) : x.lim := by
 exact trivial
def Write.lim (x : Write) : Prop := True
theorem Write.lim_of {x : Write} (h : x.wf) : x.lim := by
 exact trivial
def Clock.lim (x : Clock) : Prop := True
theorem Clock.lim_of {x : Clock} (h : x.wf) : x.lim := by
 exact trivial
def Rec.lim (x : Rec) : Prop := (zA1 (fun _ => True) x.Reads) ∧ (zA1 (Write.lim) x.Writes)
theorem Rec.lim_of {x : Rec} (h : x.wf) : x.lim := by
 obtain ⟨w_Kind, w_Txn, w_Time, w_Lead, w_Reads, w_Writes⟩ := h
 exact ⟨⟨w_Reads.1, fun _ _ => trivial⟩, ⟨w_Writes.1, fun y hy => Write.lim_of (w_Writes.2 y hy)⟩⟩
def WorldLook.lim (x : WorldLook) : Prop := (zA1 (fun _ => True) x.Keys) ∧ (zA1 (Got.lim) x.Got)
theorem WorldLook.lim_of {x : WorldLook} (h : x.wf) : x.lim := by
 obtain ⟨w_Node, w_Keys, w_Got, w_Time, w_Begin, w_End⟩ := h
 exact ⟨⟨w_Keys.1, fun _ _ => trivial⟩, ⟨w_Got.1, fun y hy => Got.lim_of (w_Got.2 y hy)⟩⟩
def WorldTxn.lim (x : WorldTxn) : Prop := (zA1 (Op.lim) x.Ops) ∧ (zA1 (Got.lim) x.Got) ∧ (zA1 (fun _ => True) x.Terms)
theorem WorldTxn.lim_of {x : WorldTxn} (h : x.wf) : x.lim := by
 obtain ⟨w_Ops, w_Got, w_Terms, w_Begin, w_End, w_Time⟩ := h
 exact ⟨⟨w_Ops.1, fun y hy => Op.lim_of (w_Ops.2 y hy)⟩, ⟨w_Got.1, fun y hy => Got.lim_of (w_Got.2 y hy)⟩, ⟨w_Terms.1, fun _ _ => trivial⟩⟩
def Entry.lim (x : Entry) : Prop := (x.Rec.lim)
theorem Entry.lim_of {x : Entry} (h : x.wf) : x.lim := by
 obtain ⟨w_Term, w_Rec⟩ := h
 exact Rec.lim_of w_Rec
def Replica.lim (x : Replica) : Prop := (zA1 (Entry.lim) x.Log)
theorem Replica.lim_of {x : Replica} (h : x.wf) : x.lim := by
 obtain ⟨w_Log, w_Sure⟩ := h
 exact ⟨w_Log.1, fun y hy => Entry.lim_of (w_Log.2 y hy)⟩
def Group.lim (x : Group) : Prop := (zA1 (Replica.lim) x.Reps)
theorem Group.lim_of {x : Group} (h : x.wf) : x.lim := by
 obtain ⟨w_Reps, w_Term, w_Lead⟩ := h
 exact ⟨w_Reps.1, fun y hy => Replica.lim_of (w_Reps.2 y hy)⟩
def World.lim (x : World) : Prop := (zA1 (Clock.lim) x.Clocks) ∧ (zA1 (fun _ => True) x.Cuts) ∧ (zA1 (Group.lim) x.Groups) ∧ (zA1 (zA1 (Lock.lim)) x.Locks) ∧ (zA1 (fun _ => True) x.Promised) ∧ (zA1 (WorldTxn.lim) x.Txns) ∧ (zA1 (WorldLook.lim) x.Looks)
theorem World.lim_of {x : World} (h : x.wf) : x.lim := by
 obtain ⟨w_Now, w_Count, w_Clocks, w_Cuts, w_Groups, w_Locks, w_Promised, w_Txns, w_Looks⟩ := h
 exact ⟨⟨w_Clocks.1, fun y hy => Clock.lim_of (w_Clocks.2 y hy)⟩, ⟨w_Cuts.1, fun _ _ => trivial⟩, ⟨w_Groups.1, fun y hy => Group.lim_of (w_Groups.2 y hy)⟩, ⟨w_Locks.1, fun y3 hy3 => ⟨(w_Locks.2 y3 hy3).1, fun y hy => Lock.lim_of ((w_Locks.2 y3 hy3).2 y hy)⟩⟩, ⟨w_Promised.1, fun _ _ => trivial⟩, ⟨w_Txns.1, fun y hy => WorldTxn.lim_of (w_Txns.2 y hy)⟩, ⟨w_Looks.1, fun y hy => WorldLook.lim_of (w_Looks.2 y hy)⟩⟩
def Ver.lim (x : Ver) : Prop := True
theorem Ver.lim_of {x : Ver} (h : x.wf) : x.lim := by
 exact trivial
def Cell.lim (x : Cell) : Prop := (zA1 (Ver.lim) x.Vers)
theorem Cell.lim_of {x : Cell} (h : x.wf) : x.lim := by
 obtain ⟨w_Key, w_Vers⟩ := h
 exact ⟨w_Vers.1, fun y hy => Ver.lim_of (w_Vers.2 y hy)⟩
def Held.lim (x : Held) : Prop := (zA1 (fun _ => True) x.Reads) ∧ (zA1 (Write.lim) x.Writes)
theorem Held.lim_of {x : Held} (h : x.wf) : x.lim := by
 obtain ⟨w_Txn, w_Time, w_Lead, w_Reads, w_Writes⟩ := h
 exact ⟨⟨w_Reads.1, fun _ _ => trivial⟩, ⟨w_Writes.1, fun y hy => Write.lim_of (w_Writes.2 y hy)⟩⟩
def Told.lim (x : Told) : Prop := True
theorem Told.lim_of {x : Told} (h : x.wf) : x.lim := by
 exact trivial
def State.lim (x : State) : Prop := (zA1 (Cell.lim) x.Cells) ∧ (zA1 (Held.lim) x.Held) ∧ (zA1 (Told.lim) x.Told)
theorem State.lim_of {x : State} (h : x.wf) : x.lim := by
 obtain ⟨w_Floor, w_Cells, w_Held, w_Told⟩ := h
 exact ⟨⟨w_Cells.1, fun y hy => Cell.lim_of (w_Cells.2 y hy)⟩, ⟨w_Held.1, fun y hy => Held.lim_of (w_Held.2 y hy)⟩, ⟨w_Told.1, fun y hy => Told.lim_of (w_Told.2 y hy)⟩⟩
open Go.Proofs.Wb renaming H103 → z0_, Got.sz → z1_ in
theorem zV8 (x : Got) (left : Int) (h0 : 0 ≤ left) (h1 : left ≤ 2 ^ 20) (hw : x.wf) : ACall p_ 103 [.agg (Got.row false x), i64 left]
  (fun r _ => ∃ n : Int, r = i64 n ∧ n ≤ left ∧ (0 ≤ n → n + (x.sz : Nat) = left)) := Q1_
open Go.Proofs.Wb renaming H13 → z0_, C13 → z1_ in
theorem zNI (l : List Int) (left : Int) (h0 : 0 ≤ left) (h1 : left ≤ 2 ^ 20) (hw : wfL (fun n => -9223372036854775808 ≤ n ∧ n ≤ 9223372036854775807) l) : ACall p_ 13 [.sl false 1 (ints l), i64 left]
  (fun r _ => ∃ n : Int, r = i64 n ∧ n ≤ left ∧ (0 ≤ n → n + (l.length : Nat) = left)) := Q2_
theorem zUC (x : Lock) (left : Int) (h0 : 0 ≤ left) (h1 : left ≤ 2 ^ 20) (hw : x.wf) : ACall p_ 59 [.agg (Lock.row false x), i64 left]
  (fun r _ => ∃ n : Int, r = i64 n ∧ n ≤ left ∧ (0 ≤ n → n + (x.sz : Nat) = left)) := by
 obtain ⟨w_Key, w_Txn⟩ := hw
 have hm := zAf
 refine fg H59 fun E hE hH => ?_; simp only [go_sem, hE, hH, C59]
 try refine st ?_; try exact ⟨⟩
 first | refine zAg (fun h => ?_) (fun h => ?_) | refine zAh (fun h => ?_) (fun h => ?_)
 ·have hb := h
  simp only [nf] at h
  try refine sb ?_; try exact ⟨⟩
  exact ⟨_, rfl, by omega, by omega⟩
 have hb := h
 simp only [nf] at h
 try refine sb ?_; try exact ⟨⟩
 have p0 : 0 ≤ left - (x.Key.size : Int) := by omega
 clear h hb
 exact ⟨_, rfl, by omega, fun _ => by unfold Lock.sz; omega⟩
theorem zXH (x : Op) (left : Int) (h0 : 0 ≤ left) (h1 : left ≤ 2 ^ 20) (hw : x.wf) : ACall p_ 102 [.agg (Op.row false x), i64 left]
  (fun r _ => ∃ n : Int, r = i64 n ∧ n ≤ left ∧ (0 ≤ n → n + (x.sz : Nat) = left)) := by
 obtain ⟨w_Kind, w_Key, w_Val, w_By⟩ := hw
 have hm := zAf
 refine fg H102 fun E hE hH => ?_; simp only [go_sem, hE, hH, zLK]
 try refine st ?_; try exact ⟨⟩
 first | refine zAg (fun h => ?_) (fun h => ?_) | refine zAh (fun h => ?_) (fun h => ?_)
 ·have hb := h
  simp only [nf] at h
  try refine sb ?_; try exact ⟨⟩
  exact ⟨_, rfl, by omega, by omega⟩
 have hb := h
 simp only [nf] at h
 try refine sb ?_; try exact ⟨⟩
 have p0 : 0 ≤ left - (x.Key.size : Int) := by omega
 clear h hb
 try refine st ?_; try exact ⟨⟩
 first | refine zAg (fun h => ?_) (fun h => ?_) | refine zAh (fun h => ?_) (fun h => ?_)
 ·have hb := h
  simp only [nf] at h
  try refine sb ?_; try exact ⟨⟩
  exact ⟨_, rfl, by omega, by omega⟩
 have hb := h
 simp only [nf] at h
 try refine sb ?_; try exact ⟨⟩
 have p1 : 0 ≤ (left - (x.Key.size : Int)) - (x.Val.size : Int) := by omega
 clear h hb
 exact ⟨_, rfl, by omega, fun _ => by unfold Op.sz; omega⟩
theorem zF7 (l : List ByteArray) (left : Int) (h0 : 0 ≤ left) (h1 : left ≤ 2 ^ 20) (hw : wfL (fun s => s.size ≤ maxLen) l) : ACall p_ 10 [.sl false 1 (strs l), i64 left]
  (fun r _ => ∃ n : Int, r = i64 n ∧ n ≤ left ∧ (0 ≤ n → n + (szL (ByteArray.size) l : Nat) = left)) := by
 obtain ⟨hl, hx⟩ := hw
 have hm := zAf
 refine fg H10 fun E hE hH => ?_; simp only [go_sem, hE, hH, C10]
 try refine st ?_; try exact ⟨⟩
 repeat' (first | ((with_reducible apply ga) <;> refine gs fun h => ?_) | ((with_reducible apply an); · omega) | refine jn _ ?_ ?_ | (with_reducible first | apply both | apply an | exact ti) | exact fe | refine st ?_ | exact fm | refine s1 ?_)
 ·exact ⟨_, rfl, by omega, by omega⟩
 refine zAs l.length (fun j (n : Int) => ⟨[(0, .sl false 1 (strs l)), (1, i64 n), (5, i64 j)], []⟩) (fun j n => 0 ≤ n ∧ n ≤ left ∧ n + l.length + zG2 (ByteArray.size) l j = left) (left - (l.length : Int)) (by rw [zJd]; omega) ?_
 intro j n hj hI
 obtain ⟨i1, i0, i2⟩ := hI
 try simp only [go_sem, hE, hH, zT9]
 first | refine zAg (fun h => ?_) (fun h => ?_) | refine zAh (fun h => ?_) (fun h => ?_)
 ·have hb := h
  simp only [nf] at h
  have hlt := h; clear h
  have hs := hx _ (zAc hlt)
  try refine sb ?_; try exact ⟨⟩
  repeat refine And.intro (by omega) ?_
  repeat' (first | ((with_reducible apply ga) <;> refine gs fun h => ?_) | ((with_reducible apply an); · omega) | refine jn _ ?_ ?_ | (with_reducible first | apply both | apply an | exact ti) | exact fe | refine st ?_ | exact fm | refine s1 ?_)
  ·exact ⟨_, rfl, by omega, by omega⟩
  ·exact ⟨_, rfl, by omega, by omega, by rw [zJe hlt]; omega⟩
 ·have hb := h
  simp only [nf] at h
  try refine sb ?_; try exact ⟨⟩
  exact ⟨_, rfl, by omega, fun _ => by rw [zKV (by omega)] at i2; rw [show szL (ByteArray.size) l = l.length + (l.map (ByteArray.size)).sum from rfl]; omega⟩
open Go.Proofs.Wb renaming H273 → z0_, Write.sz → z1_ in
theorem zSD (x : Write) (left : Int) (h0 : 0 ≤ left) (h1 : left ≤ 2 ^ 20) (hw : x.wf) : ACall p_ 273 [.agg (Write.row false x), i64 left]
  (fun r _ => ∃ n : Int, r = i64 n ∧ n ≤ left ∧ (0 ≤ n → n + (x.sz : Nat) = left)) := Q1_
open Go.Proofs.Wb renaming H9 → z0_, C9 → z1_ in
theorem zQj (l : List Clock) (left : Int) (h0 : 0 ≤ left) (h1 : left ≤ 2 ^ 20) (hw : wfL (Clock.wf) l) : ACall p_ 9 [.sl false 1 (l.map (Clock.row false)), i64 left]
  (fun r _ => ∃ n : Int, r = i64 n ∧ n ≤ left ∧ (0 ≤ n → n + (l.length : Nat) = left)) := Q2_
open Go.Proofs.Wb renaming H61 → z0_, zJf → z1_, Got.row → z3_, Got.sz → z4_, zHy → z5_, zV8 → z6_ in
open Go.Am renaming k3_ → z2_ in
theorem zNJ (l : List Got) (left : Int) (h0 : 0 ≤ left) (h1 : left ≤ 2 ^ 20) (hw : wfL (Got.wf) l) : ACall p_ 61 [.sl false 3 (l.map (Got.row false)), i64 left]
  (fun r _ => ∃ n : Int, r = i64 n ∧ n ≤ left ∧ (0 ≤ n → n + (szL (Got.sz) l : Nat) = left)) := Q3_
open Go.Proofs.Wb renaming H35 → z0_, zJf → z1_, Lock.row → z3_, Lock.sz → z4_, zHy → z5_, zUC → z6_ in
open Go.Am renaming k3_ → z2_ in
theorem zSE (l : List Lock) (left : Int) (h0 : 0 ≤ left) (h1 : left ≤ 2 ^ 20) (hw : wfL (Lock.wf) l) : ACall p_ 35 [.sl false 3 (l.map (Lock.row false)), i64 left]
  (fun r _ => ∃ n : Int, r = i64 n ∧ n ≤ left ∧ (0 ≤ n → n + (szL (Lock.sz) l : Nat) = left)) := Q3_
open Go.Proofs.Wb renaming H60 → z0_, zJf → z1_, Op.row → z3_, Op.sz → z4_, zHy → z5_, zXH → z6_ in
open Go.Am renaming k4_ → z2_ in
theorem zV9 (l : List Op) (left : Int) (h0 : 0 ≤ left) (h1 : left ≤ 2 ^ 20) (hw : wfL (Op.wf) l) : ACall p_ 60 [.sl false 4 (l.map (Op.row false)), i64 left]
  (fun r _ => ∃ n : Int, r = i64 n ∧ n ≤ left ∧ (0 ≤ n → n + (szL (Op.sz) l : Nat) = left)) := Q3_
open Go.Proofs.Wb renaming H241 → z0_, zJf → z1_, Write.row → z3_, Write.sz → z4_, zHy → z5_, zSD → z6_ in
open Go.Am renaming k3_ → z2_ in
theorem zQk (l : List Write) (left : Int) (h0 : 0 ≤ left) (h1 : left ≤ 2 ^ 20) (hw : wfL (Write.wf) l) : ACall p_ 241 [.sl false 3 (l.map (Write.row false)), i64 left]
  (fun r _ => ∃ n : Int, r = i64 n ∧ n ≤ left ∧ (0 ≤ n → n + (szL (Write.sz) l : Nat) = left)) := Q3_
theorem zQl (l : List (List Lock)) (left : Int) (h0 : 0 ≤ left) (h1 : left ≤ 2 ^ 20) (hw : wfL (wfL (Lock.wf)) l) : ACall p_ 12 [.sl false 1 (l.map fun y => [.sl false 3 (y.map (Lock.row false))]), i64 left]
  (fun r _ => ∃ n : Int, r = i64 n ∧ n ≤ left ∧ (0 ≤ n → n + (szL (szL (Lock.sz)) l : Nat) = left)) := by
 obtain ⟨hl, hx⟩ := hw
 have hm := zAf
 refine fg H12 fun E hE hH => ?_; simp only [go_sem, hE, hH, C12]
 try refine st ?_; try exact ⟨⟩
 repeat' (first | ((with_reducible apply ga) <;> refine gs fun h => ?_) | ((with_reducible apply an); · omega) | refine jn _ ?_ ?_ | (with_reducible first | apply both | apply an | exact ti) | exact fe | refine st ?_ | exact fm | refine s1 ?_)
 ·exact ⟨_, rfl, by omega, by omega⟩
 refine zAs l.length (fun j (n : Int) => ⟨[(0, .sl false 1 (l.map fun y => [.sl false 3 (y.map (Lock.row false))])), (1, i64 n), (5, i64 j)], []⟩) (fun j n => 0 ≤ n ∧ n ≤ left ∧ n + l.length + zG2 (szL (Lock.sz)) l j = left) (left - (l.length : Int)) (by rw [zJd]; omega) ?_
 intro j n hj hI
 obtain ⟨i1, i0, i2⟩ := hI
 try simp only [go_sem, hE, hH, zUa]
 first | refine zAg (fun h => ?_) (fun h => ?_) | refine zAh (fun h => ?_) (fun h => ?_)
 ·have hb := h
  simp only [nf] at h
  have hlt := h; clear h
  have hs := hx _ (zAc hlt)
  try refine sb ?_; try exact ⟨⟩
  repeat refine And.intro (by omega) ?_
  refine zAa ?_; simp (disch := omega) only [go_sem, hE, hH]; refine cvA (zSE (nth l j) n i1 (by omega) hs) ?_
  try simp only [go_sem, hE, hH]
  refine zAF ?_
  rintro r k ⟨q, rfl, q1, q2⟩
  try refine st ?_; try exact ⟨⟩
  repeat' (first | ((with_reducible apply ga) <;> refine gs fun h => ?_) | ((with_reducible apply an); · omega) | refine jn _ ?_ ?_ | (with_reducible first | apply both | apply an | exact ti) | exact fe | refine st ?_ | exact fm | refine s1 ?_)
  ·exact ⟨_, rfl, by omega, by omega⟩
  ·exact ⟨_, rfl, by omega, by omega, by have q2 := q2 (by omega); rw [zJe hlt]; omega⟩
 ·have hb := h
  simp only [nf] at h
  try refine sb ?_; try exact ⟨⟩
  exact ⟨_, rfl, by omega, fun _ => by rw [zKV (by omega)] at i2; rw [show szL (szL (Lock.sz)) l = l.length + (l.map (szL (Lock.sz))).sum from rfl]; omega⟩
theorem zWa (x : Rec) (left : Int) (h0 : 0 ≤ left) (h1 : left ≤ 2 ^ 20) (hw : x.wf) : ACall p_ 206 [.agg (Rec.row false x), i64 left]
  (fun r _ => ∃ n : Int, r = i64 n ∧ n ≤ left ∧ (0 ≤ n → n + (x.sz : Nat) = left)) := by
 obtain ⟨w_Kind, w_Txn, w_Time, w_Lead, w_Reads, w_Writes⟩ := hw
 have hm := zAf
 refine fg H206 fun E hE hH => ?_; simp only [go_sem, hE, hH, zSB]
 refine zAa ?_; simp (disch := omega) only [go_sem, hE, hH]; refine cvA (zF7 _ _ (by omega) (by omega) w_Reads) ?_
 try refine st ?_; try exact ⟨⟩
 refine zAF ?_
 rintro r k ⟨n0, rfl, a0, b0⟩
 try refine st ?_; try exact ⟨⟩
 first | refine zAg (fun h => ?_) (fun h => ?_) | refine zAh (fun h => ?_) (fun h => ?_)
 ·have hb := h
  simp only [nf] at h
  try refine sb ?_; try exact ⟨⟩
  exact ⟨_, rfl, by omega, by omega⟩
 have hb := h
 simp only [nf] at h
 try refine sb ?_; try exact ⟨⟩
 have p0 : 0 ≤ n0 := by omega
 have b0 := b0 p0
 clear h hb
 refine zAa ?_; simp (disch := omega) only [go_sem, hE, hH]; refine cvA (zQk _ _ p0 (by omega) w_Writes) ?_
 try refine st ?_; try exact ⟨⟩
 refine zAF ?_
 rintro r k ⟨n1, rfl, a1, b1⟩
 try refine st ?_; try exact ⟨⟩
 first | refine zAg (fun h => ?_) (fun h => ?_) | refine zAh (fun h => ?_) (fun h => ?_)
 ·have hb := h
  simp only [nf] at h
  try refine sb ?_; try exact ⟨⟩
  exact ⟨_, rfl, by omega, by omega⟩
 have hb := h
 simp only [nf] at h
 try refine sb ?_; try exact ⟨⟩
 have p1 : 0 ≤ n1 := by omega
 have b1 := b1 p1
 clear h hb
 exact ⟨_, rfl, by omega, fun _ => by unfold Rec.sz; omega⟩
theorem zMN (x : WorldLook) (left : Int) (h0 : 0 ≤ left) (h1 : left ≤ 2 ^ 20) (hw : x.wf) : ACall p_ 37 [.agg (WorldLook.row false x), i64 left]
  (fun r _ => ∃ n : Int, r = i64 n ∧ n ≤ left ∧ (0 ≤ n → n + (x.sz : Nat) = left)) := by
 obtain ⟨w_Node, w_Keys, w_Got, w_Time, w_Begin, w_End⟩ := hw
 have hm := zAf
 refine fg H37 fun E hE hH => ?_; simp only [go_sem, hE, hH, zSB]
 refine zAa ?_; simp (disch := omega) only [go_sem, hE, hH]; refine cvA (zF7 _ _ (by omega) (by omega) w_Keys) ?_
 try refine st ?_; try exact ⟨⟩
 refine zAF ?_
 rintro r k ⟨n0, rfl, a0, b0⟩
 try refine st ?_; try exact ⟨⟩
 first | refine zAg (fun h => ?_) (fun h => ?_) | refine zAh (fun h => ?_) (fun h => ?_)
 ·have hb := h
  simp only [nf] at h
  try refine sb ?_; try exact ⟨⟩
  exact ⟨_, rfl, by omega, by omega⟩
 have hb := h
 simp only [nf] at h
 try refine sb ?_; try exact ⟨⟩
 have p0 : 0 ≤ n0 := by omega
 have b0 := b0 p0
 clear h hb
 refine zAa ?_; simp (disch := omega) only [go_sem, hE, hH]; refine cvA (zNJ _ _ p0 (by omega) w_Got) ?_
 try refine st ?_; try exact ⟨⟩
 refine zAF ?_
 rintro r k ⟨n1, rfl, a1, b1⟩
 try refine st ?_; try exact ⟨⟩
 first | refine zAg (fun h => ?_) (fun h => ?_) | refine zAh (fun h => ?_) (fun h => ?_)
 ·have hb := h
  simp only [nf] at h
  try refine sb ?_; try exact ⟨⟩
  exact ⟨_, rfl, by omega, by omega⟩
 have hb := h
 simp only [nf] at h
 try refine sb ?_; try exact ⟨⟩
 have p1 : 0 ≤ n1 := by omega
 have b1 := b1 p1
 clear h hb
 exact ⟨_, rfl, by omega, fun _ => by unfold WorldLook.sz; omega⟩
theorem zN8 (x : WorldTxn) (left : Int) (h0 : 0 ≤ left) (h1 : left ≤ 2 ^ 20) (hw : x.wf) : ACall p_ 36 [.agg (WorldTxn.row false x), i64 left]
  (fun r _ => ∃ n : Int, r = i64 n ∧ n ≤ left ∧ (0 ≤ n → n + (x.sz : Nat) = left)) := by
 obtain ⟨w_Ops, w_Got, w_Terms, w_Begin, w_End, w_Time⟩ := hw
 have hm := zAf
 refine fg H36 fun E hE hH => ?_; simp only [go_sem, hE, hH, C36]
 refine zAa ?_; simp (disch := omega) only [go_sem, hE, hH]; refine cvA (zV9 _ _ (by omega) (by omega) w_Ops) ?_
 try refine st ?_; try exact ⟨⟩
 refine zAF ?_
 rintro r k ⟨n0, rfl, a0, b0⟩
 try refine st ?_; try exact ⟨⟩
 first | refine zAg (fun h => ?_) (fun h => ?_) | refine zAh (fun h => ?_) (fun h => ?_)
 ·have hb := h
  simp only [nf] at h
  try refine sb ?_; try exact ⟨⟩
  exact ⟨_, rfl, by omega, by omega⟩
 have hb := h
 simp only [nf] at h
 try refine sb ?_; try exact ⟨⟩
 have p0 : 0 ≤ n0 := by omega
 have b0 := b0 p0
 clear h hb
 refine zAa ?_; simp (disch := omega) only [go_sem, hE, hH]; refine cvA (zNJ _ _ p0 (by omega) w_Got) ?_
 try refine st ?_; try exact ⟨⟩
 refine zAF ?_
 rintro r k ⟨n1, rfl, a1, b1⟩
 try refine st ?_; try exact ⟨⟩
 first | refine zAg (fun h => ?_) (fun h => ?_) | refine zAh (fun h => ?_) (fun h => ?_)
 ·have hb := h
  simp only [nf] at h
  try refine sb ?_; try exact ⟨⟩
  exact ⟨_, rfl, by omega, by omega⟩
 have hb := h
 simp only [nf] at h
 try refine sb ?_; try exact ⟨⟩
 have p1 : 0 ≤ n1 := by omega
 have b1 := b1 p1
 clear h hb
 refine zAa ?_; simp (disch := omega) only [go_sem, hE, hH]; refine cvA (zNI _ _ p1 (by omega) w_Terms) ?_
 try refine st ?_; try exact ⟨⟩
 refine zAF ?_
 rintro r k ⟨n2, rfl, a2, b2⟩
 try refine st ?_; try exact ⟨⟩
 first | refine zAg (fun h => ?_) (fun h => ?_) | refine zAh (fun h => ?_) (fun h => ?_)
 ·have hb := h
  simp only [nf] at h
  try refine sb ?_; try exact ⟨⟩
  exact ⟨_, rfl, by omega, by omega⟩
 have hb := h
 simp only [nf] at h
 try refine sb ?_; try exact ⟨⟩
 have p2 : 0 ≤ n2 := by omega
 have b2 := b2 p2
 clear h hb
 exact ⟨_, rfl, by omega, fun _ => by unfold WorldTxn.sz; omega⟩
theorem zSF (x : Entry) (left : Int) (h0 : 0 ≤ left) (h1 : left ≤ 2 ^ 20) (hw : x.wf) : ACall p_ 184 [.agg (Entry.row false x), i64 left]
  (fun r _ => ∃ n : Int, r = i64 n ∧ n ≤ left ∧ (0 ≤ n → n + (x.sz : Nat) = left)) := by
 obtain ⟨w_Term, w_Rec⟩ := hw
 have hm := zAf
 refine fg H184 fun E hE hH => ?_; simp only [go_sem, hE, hH, zZE]
 refine zAa ?_; simp (disch := omega) only [go_sem, hE, hH]; refine cvA (zWa _ _ (by omega) (by omega) w_Rec) ?_
 try refine st ?_; try exact ⟨⟩
 refine zAF ?_
 rintro r k ⟨n0, rfl, a0, b0⟩
 try refine st ?_; try exact ⟨⟩
 first | refine zAg (fun h => ?_) (fun h => ?_) | refine zAh (fun h => ?_) (fun h => ?_)
 ·have hb := h
  simp only [nf] at h
  try refine sb ?_; try exact ⟨⟩
  exact ⟨_, rfl, by omega, by omega⟩
 have hb := h
 simp only [nf] at h
 try refine sb ?_; try exact ⟨⟩
 have p0 : 0 ≤ n0 := by omega
 have b0 := b0 p0
 clear h hb
 exact ⟨_, rfl, by omega, fun _ => by unfold Entry.sz; omega⟩
open Go.Proofs.Wb renaming H15 → z0_, zG5 → z1_, WorldLook.row → z3_, WorldLook.sz → z4_, zFL → z5_, zMN → z6_ in
open Go.Am renaming k6_ → z2_ in
theorem zLL (l : List WorldLook) (left : Int) (h0 : 0 ≤ left) (h1 : left ≤ 2 ^ 20) (hw : wfL (WorldLook.wf) l) : ACall p_ 15 [.sl false 6 (l.map (WorldLook.row false)), i64 left]
  (fun r _ => ∃ n : Int, r = i64 n ∧ n ≤ left ∧ (0 ≤ n → n + (szL (WorldLook.sz) l : Nat) = left)) := Q3_
open Go.Proofs.Wb renaming H14 → z0_, zG5 → z1_, WorldTxn.row → z3_, WorldTxn.sz → z4_, zFL → z5_, zN8 → z6_ in
open Go.Am renaming zTF → z2_ in
theorem zMO (l : List WorldTxn) (left : Int) (h0 : 0 ≤ left) (h1 : left ≤ 2 ^ 20) (hw : wfL (WorldTxn.wf) l) : ACall p_ 14 [.sl false 10 (l.map (WorldTxn.row false)), i64 left]
  (fun r _ => ∃ n : Int, r = i64 n ∧ n ≤ left ∧ (0 ≤ n → n + (szL (WorldTxn.sz) l : Nat) = left)) := Q3_
open Go.Proofs.Wb renaming H153 → z0_, zG5 → z1_, Entry.row → z3_, Entry.sz → z4_, zFL → z5_, zSF → z6_ in
open Go.Am renaming k8_ → z2_ in
theorem zQm (l : List Entry) (left : Int) (h0 : 0 ≤ left) (h1 : left ≤ 2 ^ 20) (hw : wfL (Entry.wf) l) : ACall p_ 153 [.sl false 8 (l.map (Entry.row false)), i64 left]
  (fun r _ => ∃ n : Int, r = i64 n ∧ n ≤ left ∧ (0 ≤ n → n + (szL (Entry.sz) l : Nat) = left)) := Q3_
theorem zPy (x : Replica) (left : Int) (h0 : 0 ≤ left) (h1 : left ≤ 2 ^ 20) (hw : x.wf) : ACall p_ 101 [.agg (Replica.row false x), i64 left]
  (fun r _ => ∃ n : Int, r = i64 n ∧ n ≤ left ∧ (0 ≤ n → n + (x.sz : Nat) = left)) := by
 obtain ⟨w_Log, w_Sure⟩ := hw
 have hm := zAf
 refine fg H101 fun E hE hH => ?_; simp only [go_sem, hE, hH, zYS]
 refine zAa ?_; simp (disch := omega) only [go_sem, hE, hH]; refine cvA (zQm _ _ (by omega) (by omega) w_Log) ?_
 try refine st ?_; try exact ⟨⟩
 refine zAF ?_
 rintro r k ⟨n0, rfl, a0, b0⟩
 try refine st ?_; try exact ⟨⟩
 first | refine zAg (fun h => ?_) (fun h => ?_) | refine zAh (fun h => ?_) (fun h => ?_)
 ·have hb := h
  simp only [nf] at h
  try refine sb ?_; try exact ⟨⟩
  exact ⟨_, rfl, by omega, by omega⟩
 have hb := h
 simp only [nf] at h
 try refine sb ?_; try exact ⟨⟩
 have p0 : 0 ≤ n0 := by omega
 have b0 := b0 p0
 clear h hb
 exact ⟨_, rfl, by omega, fun _ => by unfold Replica.sz; omega⟩
open Go.Proofs.Wb renaming H58 → z0_, zG5 → z1_, Replica.row → z3_, Replica.sz → z4_, zFL → z5_, zPy → z6_ in
open Go.Am renaming k3_ → z2_ in
theorem zN9 (l : List Replica) (left : Int) (h0 : 0 ≤ left) (h1 : left ≤ 2 ^ 20) (hw : wfL (Replica.wf) l) : ACall p_ 58 [.sl false 3 (l.map (Replica.row false)), i64 left]
  (fun r _ => ∃ n : Int, r = i64 n ∧ n ≤ left ∧ (0 ≤ n → n + (szL (Replica.sz) l : Nat) = left)) := Q3_
theorem zSG (x : Group) (left : Int) (h0 : 0 ≤ left) (h1 : left ≤ 2 ^ 20) (hw : x.wf) : ACall p_ 34 [.agg (Group.row false x), i64 left]
  (fun r _ => ∃ n : Int, r = i64 n ∧ n ≤ left ∧ (0 ≤ n → n + (x.sz : Nat) = left)) := by
 obtain ⟨w_Reps, w_Term, w_Lead⟩ := hw
 have hm := zAf
 refine fg H34 fun E hE hH => ?_; simp only [go_sem, hE, hH, C34]
 refine zAa ?_; simp (disch := omega) only [go_sem, hE, hH]; refine cvA (zN9 _ _ (by omega) (by omega) w_Reps) ?_
 try refine st ?_; try exact ⟨⟩
 refine zAF ?_
 rintro r k ⟨n0, rfl, a0, b0⟩
 try refine st ?_; try exact ⟨⟩
 first | refine zAg (fun h => ?_) (fun h => ?_) | refine zAh (fun h => ?_) (fun h => ?_)
 ·have hb := h
  simp only [nf] at h
  try refine sb ?_; try exact ⟨⟩
  exact ⟨_, rfl, by omega, by omega⟩
 have hb := h
 simp only [nf] at h
 try refine sb ?_; try exact ⟨⟩
 have p0 : 0 ≤ n0 := by omega
 have b0 := b0 p0
 clear h hb
 exact ⟨_, rfl, by omega, fun _ => by unfold Group.sz; omega⟩
open Go.Proofs.Wb renaming H11 → z0_, zG5 → z1_, Group.row → z3_, Group.sz → z4_, zFL → z5_, zSG → z6_ in
open Go.Am renaming k3_ → z2_ in
theorem zQn (l : List Group) (left : Int) (h0 : 0 ≤ left) (h1 : left ≤ 2 ^ 20) (hw : wfL (Group.wf) l) : ACall p_ 11 [.sl false 3 (l.map (Group.row false)), i64 left]
  (fun r _ => ∃ n : Int, r = i64 n ∧ n ≤ left ∧ (0 ≤ n → n + (szL (Group.sz) l : Nat) = left)) := Q3_
theorem zSH (x : World) (left : Int) (h0 : 0 ≤ left) (h1 : left ≤ 2 ^ 20) (hw : x.wf) : ACall p_ 4 [.agg (World.row false x), i64 left]
  (fun r _ => ∃ n : Int, r = i64 n ∧ n ≤ left ∧ (0 ≤ n → n + (x.sz : Nat) = left)) := by
 obtain ⟨w_Now, w_Count, w_Clocks, w_Cuts, w_Groups, w_Locks, w_Promised, w_Txns, w_Looks⟩ := hw
 have hm := zAf
 refine fg H4 fun E hE hH => ?_; simp only [go_sem, hE, hH, C4]
 refine zAa ?_; simp (disch := omega) only [go_sem, hE, hH]; refine cvA (zQj _ _ (by omega) (by omega) w_Clocks) ?_
 try refine st ?_; try exact ⟨⟩
 refine zAF ?_
 rintro r k ⟨n0, rfl, a0, b0⟩
 try refine st ?_; try exact ⟨⟩
 first | refine zAg (fun h => ?_) (fun h => ?_) | refine zAh (fun h => ?_) (fun h => ?_)
 ·have hb := h
  simp only [nf] at h
  try refine sb ?_; try exact ⟨⟩
  exact ⟨_, rfl, by omega, by omega⟩
 have hb := h
 simp only [nf] at h
 try refine sb ?_; try exact ⟨⟩
 have p0 : 0 ≤ n0 := by omega
 have b0 := b0 p0
 clear h hb
 refine zAa ?_; simp (disch := omega) only [go_sem, hE, hH]; refine cvA (zF7 _ _ p0 (by omega) w_Cuts) ?_
 try refine st ?_; try exact ⟨⟩
 refine zAF ?_
 rintro r k ⟨n1, rfl, a1, b1⟩
 try refine st ?_; try exact ⟨⟩
 first | refine zAg (fun h => ?_) (fun h => ?_) | refine zAh (fun h => ?_) (fun h => ?_)
 ·have hb := h
  simp only [nf] at h
  try refine sb ?_; try exact ⟨⟩
  exact ⟨_, rfl, by omega, by omega⟩
 have hb := h
 simp only [nf] at h
 try refine sb ?_; try exact ⟨⟩
 have p1 : 0 ≤ n1 := by omega
 have b1 := b1 p1
 clear h hb
 refine zAa ?_; simp (disch := omega) only [go_sem, hE, hH]; refine cvA (zQn _ _ p1 (by omega) w_Groups) ?_
 try refine st ?_; try exact ⟨⟩
 refine zAF ?_
 rintro r k ⟨n2, rfl, a2, b2⟩
 try refine st ?_; try exact ⟨⟩
 first | refine zAg (fun h => ?_) (fun h => ?_) | refine zAh (fun h => ?_) (fun h => ?_)
 ·have hb := h
  simp only [nf] at h
  try refine sb ?_; try exact ⟨⟩
  exact ⟨_, rfl, by omega, by omega⟩
 have hb := h
 simp only [nf] at h
 try refine sb ?_; try exact ⟨⟩
 have p2 : 0 ≤ n2 := by omega
 have b2 := b2 p2
 clear h hb
 refine zAa ?_; simp (disch := omega) only [go_sem, hE, hH]; refine cvA (zQl _ _ p2 (by omega) w_Locks) ?_
 try refine st ?_; try exact ⟨⟩
 refine zAF ?_
 rintro r k ⟨n3, rfl, a3, b3⟩
 try refine st ?_; try exact ⟨⟩
 first | refine zAg (fun h => ?_) (fun h => ?_) | refine zAh (fun h => ?_) (fun h => ?_)
 ·have hb := h
  simp only [nf] at h
  try refine sb ?_; try exact ⟨⟩
  exact ⟨_, rfl, by omega, by omega⟩
 have hb := h
 simp only [nf] at h
 try refine sb ?_; try exact ⟨⟩
 have p3 : 0 ≤ n3 := by omega
 have b3 := b3 p3
 clear h hb
 refine zAa ?_; simp (disch := omega) only [go_sem, hE, hH]; refine cvA (zNI _ _ p3 (by omega) w_Promised) ?_
 try refine st ?_; try exact ⟨⟩
 refine zAF ?_
 rintro r k ⟨n4, rfl, a4, b4⟩
 try refine st ?_; try exact ⟨⟩
 first | refine zAg (fun h => ?_) (fun h => ?_) | refine zAh (fun h => ?_) (fun h => ?_)
 ·have hb := h
  simp only [nf] at h
  try refine sb ?_; try exact ⟨⟩
  exact ⟨_, rfl, by omega, by omega⟩
 have hb := h
 simp only [nf] at h
 try refine sb ?_; try exact ⟨⟩
 have p4 : 0 ≤ n4 := by omega
 have b4 := b4 p4
 clear h hb
 refine zAa ?_; simp (disch := omega) only [go_sem, hE, hH]; refine cvA (zMO _ _ p4 (by omega) w_Txns) ?_
 try refine st ?_; try exact ⟨⟩
 refine zAF ?_
 rintro r k ⟨n5, rfl, a5, b5⟩
 try refine st ?_; try exact ⟨⟩
 first | refine zAg (fun h => ?_) (fun h => ?_) | refine zAh (fun h => ?_) (fun h => ?_)
 ·have hb := h
  simp only [nf] at h
  try refine sb ?_; try exact ⟨⟩
  exact ⟨_, rfl, by omega, by omega⟩
 have hb := h
 simp only [nf] at h
 try refine sb ?_; try exact ⟨⟩
 have p5 : 0 ≤ n5 := by omega
 have b5 := b5 p5
 clear h hb
 refine zAa ?_; simp (disch := omega) only [go_sem, hE, hH]; refine cvA (zLL _ _ p5 (by omega) w_Looks) ?_
 try refine st ?_; try exact ⟨⟩
 refine zAF ?_
 rintro r k ⟨n6, rfl, a6, b6⟩
 try refine st ?_; try exact ⟨⟩
 first | refine zAg (fun h => ?_) (fun h => ?_) | refine zAh (fun h => ?_) (fun h => ?_)
 ·have hb := h
  simp only [nf] at h
  try refine sb ?_; try exact ⟨⟩
  exact ⟨_, rfl, by omega, by omega⟩
 have hb := h
 simp only [nf] at h
 try refine sb ?_; try exact ⟨⟩
 have p6 : 0 ≤ n6 := by omega
 have b6 := b6 p6
 clear h hb
 exact ⟨_, rfl, by omega, fun _ => by unfold World.sz; omega⟩
theorem zSI (x : Clock) : ACall p_ 43 [.agg (Clock.row false x)] (fun r _ => r = .agg (Clock.row true x)) := by
 refine fg H43 fun E hE hH => ?_; simp only [go_sem, hE, hH, C43]
 repeat' (first | ((with_reducible apply ga) <;> refine gs fun h => ?_) | ((with_reducible apply an); · omega) | refine jn _ ?_ ?_ | (with_reducible first | apply both | apply an | exact ti) | exact fe | refine st ?_ | exact fm | refine s1 ?_)
open Go.Proofs.Wb renaming Got.sz → z0_, H116 → z1_, zJX → z2_ in
theorem zWb (x : Got) (hs : x.sz ≤ 2 ^ 20) : ACall p_ 116 [.agg (Got.row false x)] (fun r _ => r = .agg (Got.row true x)) := Q4_
theorem zNK (l : List Int) (hl : l.length ≤ 2 ^ 20) : ACall p_ 22 [.sl false 1 (ints l)] (fun r _ => r = .sl true 1 (ints l)) := by
 refine fg H22 fun E hE hH => ?_; simp only [go_sem, hE, hH, C22]
 refine And.intro (by omega) ?_
 rw [zB4 (fun x => [i64 x])]
 refine zAs l.length (fun j (_ : Unit) => ⟨[(0, .sl false 1 (ints l)), (3, .ref 4000000 0 l.length), (4, i64 j)], [(4000000, ⟨1, cpy (fun x => [i64 x]) [i64 0] l j⟩)]⟩) (fun _ _ => True) () trivial ?_
 intro j _ hj _
 try simp only [go_sem, hE, hH, zUd]
 first | refine zAg (fun h => ?_) (fun h => ?_) | refine zAh (fun h => ?_) (fun h => ?_)
 ·have hb := h
  simp only [nf] at h
  have hlt := h; clear h
  try simp (disch := omega) only [go_sem, hE, hH, hb, zAL, zAA]
  repeat' (first | ((with_reducible apply ga) <;> refine gs fun h => ?_) | ((with_reducible apply an); · omega) | refine jn _ ?_ ?_ | (with_reducible first | apply both | apply an | exact ti) | exact fe | refine st ?_ | exact fm | refine s1 ?_)
  try simp (disch := omega) only [go_sem, hE, hH, zAL, zAA]
  repeat refine And.intro (by omega) ?_
  try simp (disch := omega) only [go_sem, hE, hH, zAL, zAA]
  repeat refine And.intro (by omega) ?_
  first | refine ⟨(), ?_, trivial⟩ | refine ⟨(), ?_⟩ | skip
  have hc := zB5 (f := fun x => [i64 x]) (z := [i64 0]) hlt
  rw [hc]
  rfl
 ·have hb := h
  simp only [nf] at h
  try simp (disch := omega) only [go_sem, hE, hH, hb, zCq]
open Go.Proofs.Wb renaming Lock.sz → z0_, H75 → z1_, zJX → z2_ in
theorem zUD (x : Lock) (hs : x.sz ≤ 2 ^ 20) : ACall p_ 75 [.agg (Lock.row false x)] (fun r _ => r = .agg (Lock.row true x)) := Q4_
open Go.Proofs.Wb renaming Op.sz → z0_, H115 → z1_, zY3 → z2_ in
theorem zXI (x : Op) (hs : x.sz ≤ 2 ^ 20) : ACall p_ 115 [.agg (Op.row false x)] (fun r _ => r = .agg (Op.row true x)) := Q4_
theorem zJg (l : List ByteArray) (hl : szL (ByteArray.size) l ≤ 2 ^ 20) : ACall p_ 19 [.sl false 1 (strs l)] (fun r _ => r = .sl true 1 (strs l)) := by
 have hl0 : l.length ≤ 2 ^ 20 := Nat.le_trans zCh hl
 refine fg H19 fun E hE hH => ?_; simp only [go_sem, hE, hH, C19]
 refine And.intro (by omega) ?_
 rw [zB4 (fun x => [str x])]
 refine zAs l.length (fun j (_ : Unit) => ⟨[(0, .sl false 1 (strs l)), (3, .ref 4000000 0 l.length), (4, i64 j)], [(4000000, ⟨1, cpy (fun x => [str x]) [str ⟨⟨[]⟩⟩] l j⟩)]⟩) (fun _ _ => True) () trivial ?_
 intro j _ hj _
 try simp only [go_sem, hE, hH, zUb]
 first | refine zAg (fun h => ?_) (fun h => ?_) | refine zAh (fun h => ?_) (fun h => ?_)
 ·have hb := h
  simp only [nf] at h
  have hlt := h; clear h
  try simp (disch := omega) only [go_sem, hE, hH, hb, zAL, zAA]
  repeat' (first | ((with_reducible apply ga) <;> refine gs fun h => ?_) | ((with_reducible apply an); · omega) | refine jn _ ?_ ?_ | (with_reducible first | apply both | apply an | exact ti) | exact fe | refine st ?_ | exact fm | refine s1 ?_)
  try simp (disch := omega) only [go_sem, hE, hH, zAL, zAA]
  repeat refine And.intro (by omega) ?_
  try simp (disch := omega) only [go_sem, hE, hH, zAL, zAA]
  repeat refine And.intro (by omega) ?_
  first | refine ⟨(), ?_, trivial⟩ | refine ⟨(), ?_⟩ | skip
  have hc := zB5 (f := fun x => [str x]) (z := [str ⟨⟨[]⟩⟩]) hlt
  rw [hc]
  rfl
 ·have hb := h
  simp only [nf] at h
  try simp (disch := omega) only [go_sem, hE, hH, hb, zCq]
open Go.Proofs.Wb renaming Write.sz → z0_, H279 → z1_, zJX → z2_ in
theorem zSJ (x : Write) (hs : x.sz ≤ 2 ^ 20) : ACall p_ 279 [.agg (Write.row false x)] (fun r _ => r = .agg (Write.row true x)) := Q4_
theorem zQo (l : List Clock) (hl : l.length ≤ 2 ^ 20) : ACall p_ 18 [.sl false 1 (l.map (Clock.row false))] (fun r _ => r = .sl true 1 (l.map (Clock.row true))) := by
 refine fg H18 fun E hE hH => ?_; simp only [go_sem, hE, hH, zH5]
 refine And.intro (by omega) ?_
 rw [zB4 (Clock.row true)]
 refine zAs l.length (fun j (_ : Unit) => ⟨[(0, .sl false 1 (l.map (Clock.row false))), (3, .ref 4000000 0 l.length), (4, i64 j)], [(4000000, ⟨1, cpy (Clock.row true) [i64 0] l j⟩)]⟩) (fun _ _ => True) () trivial ?_
 intro j _ hj _
 try simp only [go_sem, hE, hH, zHx]
 first | refine zAg (fun h => ?_) (fun h => ?_) | refine zAh (fun h => ?_) (fun h => ?_)
 ·have hb := h
  simp only [nf] at h
  have hlt := h; clear h
  try simp (disch := omega) only [go_sem, hE, hH, hb, zAL, zAA]
  repeat' (first | ((with_reducible apply ga) <;> refine gs fun h => ?_) | ((with_reducible apply an); · omega) | ((first | refine zAa ?_ | refine cvA (zSI _) ?_); refine st ?_) | refine jn _ ?_ ?_ | (with_reducible first | apply both | apply an | exact ti) | exact fe | refine st ?_ | exact fm | refine s1 ?_)
  try simp (disch := omega) only [go_sem, hE, hH, zAL, zAA]
  repeat refine And.intro (by omega) ?_
  try simp (disch := omega) only [go_sem, hE, hH, zAL, zAA]
  repeat refine And.intro (by omega) ?_
  first | refine ⟨(), ?_, trivial⟩ | refine ⟨(), ?_⟩ | skip
  have hc := zB5 (f := Clock.row true) (z := [i64 0]) hlt
  simp only [Clock.row_eq] at hc ⊢
  rw [hc]
  rfl
 ·have hb := h
  simp only [nf] at h
  try simp (disch := omega) only [go_sem, hE, hH, hb, zCq]
open Go.Proofs.Wb renaming H77 → z0_, Got.row → z1_, Got.sz → z2_, zWb → z3_, Got.row_eq → z4_ in
theorem zNL (l : List Got) (hl : szL (Got.sz) l ≤ 2 ^ 20) : ACall p_ 77 [.sl false 3 (l.map (Got.row false))] (fun r _ => r = .sl true 3 (l.map (Got.row true))) := Q5_
theorem zSK (l : List Lock) (hl : szL (Lock.sz) l ≤ 2 ^ 20) : ACall p_ 45 [.sl false 3 (l.map (Lock.row false))] (fun r _ => r = .sl true 3 (l.map (Lock.row true))) := by
 have hl0 : l.length ≤ 2 ^ 20 := Nat.le_trans zCh hl
 refine fg H45 fun E hE hH => ?_; simp only [go_sem, hE, hH, zH5]
 refine And.intro (by omega) ?_
 rw [zB4 (Lock.row true)]
 refine zAs l.length (fun j (_ : Unit) => ⟨[(0, .sl false 3 (l.map (Lock.row false))), (3, .ref 4000000 0 l.length), (4, i64 j)], [(4000000, ⟨3, cpy (Lock.row true) [str ⟨⟨[]⟩⟩, i64 0, bl false] l j⟩)]⟩) (fun _ _ => True) () trivial ?_
 intro j _ hj _
 try simp only [go_sem, hE, hH, zHx]
 first | refine zAg (fun h => ?_) (fun h => ?_) | refine zAh (fun h => ?_) (fun h => ?_)
 ·have hb := h
  simp only [nf] at h
  have hlt := h; clear h
  have hs := Nat.le_trans (zCp (f := Lock.sz) (zAc hlt)) hl
  try simp (disch := omega) only [go_sem, hE, hH, hb, zAL, zAA]
  repeat' (first | ((with_reducible apply ga) <;> refine gs fun h => ?_) | ((with_reducible apply an); · omega) | ((first | refine zAa ?_ | refine cvA (zUD _ (by assumption)) ?_); refine st ?_) | refine jn _ ?_ ?_ | (with_reducible first | apply both | apply an | exact ti) | exact fe | refine st ?_ | exact fm | refine s1 ?_)
  try simp (disch := omega) only [go_sem, hE, hH, zAL, zAA]
  repeat refine And.intro (by omega) ?_
  try simp (disch := omega) only [go_sem, hE, hH, zAL, zAA]
  repeat refine And.intro (by omega) ?_
  first | refine ⟨(), ?_, trivial⟩ | refine ⟨(), ?_⟩ | skip
  have hc := zB5 (f := Lock.row true) (z := [str ⟨⟨[]⟩⟩, i64 0, bl false]) hlt
  simp only [Lock.row_eq] at hc ⊢
  rw [hc]
  rfl
 ·have hb := h
  simp only [nf] at h
  try simp (disch := omega) only [go_sem, hE, hH, hb, zCq]
theorem zWc (l : List Op) (hl : szL (Op.sz) l ≤ 2 ^ 20) : ACall p_ 76 [.sl false 4 (l.map (Op.row false))] (fun r _ => r = .sl true 4 (l.map (Op.row true))) := by
 have hl0 : l.length ≤ 2 ^ 20 := Nat.le_trans zCh hl
 refine fg H76 fun E hE hH => ?_; simp only [go_sem, hE, hH, zH5]
 refine And.intro (by omega) ?_
 rw [zB4 (Op.row true)]
 refine zAs l.length (fun j (_ : Unit) => ⟨[(0, .sl false 4 (l.map (Op.row false))), (3, .ref 4000000 0 l.length), (4, i64 j)], [(4000000, ⟨4, cpy (Op.row true) [i64 0, str ⟨⟨[]⟩⟩, str ⟨⟨[]⟩⟩, i64 0] l j⟩)]⟩) (fun _ _ => True) () trivial ?_
 intro j _ hj _
 try simp only [go_sem, hE, hH, zHx]
 first | refine zAg (fun h => ?_) (fun h => ?_) | refine zAh (fun h => ?_) (fun h => ?_)
 ·have hb := h
  simp only [nf] at h
  have hlt := h; clear h
  have hs := Nat.le_trans (zCp (f := Op.sz) (zAc hlt)) hl
  try simp (disch := omega) only [go_sem, hE, hH, hb, zAL, zAA]
  repeat' (first | ((with_reducible apply ga) <;> refine gs fun h => ?_) | ((with_reducible apply an); · omega) | ((first | refine zAa ?_ | refine cvA (zXI _ (by assumption)) ?_); refine st ?_) | refine jn _ ?_ ?_ | (with_reducible first | apply both | apply an | exact ti) | exact fe | refine st ?_ | exact fm | refine s1 ?_)
  try simp (disch := omega) only [go_sem, hE, hH, zAL, zAA]
  repeat refine And.intro (by omega) ?_
  try simp (disch := omega) only [go_sem, hE, hH, zAL, zAA]
  repeat refine And.intro (by omega) ?_
  first | refine ⟨(), ?_, trivial⟩ | refine ⟨(), ?_⟩ | skip
  have hc := zB5 (f := Op.row true) (z := [i64 0, str ⟨⟨[]⟩⟩, str ⟨⟨[]⟩⟩, i64 0]) hlt
  simp only [Op.row_eq] at hc ⊢
  rw [hc]
  rfl
 ·have hb := h
  simp only [nf] at h
  try simp (disch := omega) only [go_sem, hE, hH, hb, zCq]
open Go.Proofs.Wb renaming H248 → z0_, Write.row → z1_, Write.sz → z2_, zSJ → z3_, Write.row_eq → z4_ in
theorem zQp (l : List Write) (hl : szL (Write.sz) l ≤ 2 ^ 20) : ACall p_ 248 [.sl false 3 (l.map (Write.row false))] (fun r _ => r = .sl true 3 (l.map (Write.row true))) := Q5_
theorem zQq (l : List (List Lock)) (hl : szL (szL (Lock.sz)) l ≤ 2 ^ 20) : ACall p_ 21 [.sl false 1 (l.map fun y => [.sl false 3 (y.map (Lock.row false))])] (fun r _ => r = .sl true 1 (l.map fun y => [.sl true 3 (y.map (Lock.row true))])) := by
 have hl0 : l.length ≤ 2 ^ 20 := Nat.le_trans zCh hl
 refine fg H21 fun E hE hH => ?_; simp only [go_sem, hE, hH, C21]
 refine And.intro (by omega) ?_
 rw [zB4 (fun y => [.sl true 3 (y.map (Lock.row true))])]
 refine zAs l.length (fun j (_ : Unit) => ⟨[(0, .sl false 1 (l.map fun y => [.sl false 3 (y.map (Lock.row false))])), (3, .ref 4000000 0 l.length), (4, i64 j)], [(4000000, ⟨1, cpy (fun y => [.sl true 3 (y.map (Lock.row true))]) [zAI] l j⟩)]⟩) (fun _ _ => True) () trivial ?_
 intro j _ hj _
 try simp only [go_sem, hE, hH, zUc]
 first | refine zAg (fun h => ?_) (fun h => ?_) | refine zAh (fun h => ?_) (fun h => ?_)
 ·have hb := h
  simp only [nf] at h
  have hlt := h; clear h
  have hs := Nat.le_trans (zCp (f := szL (Lock.sz)) (zAc hlt)) hl
  try simp (disch := omega) only [go_sem, hE, hH, hb, zAL, zAA]
  repeat' (first | ((with_reducible apply ga) <;> refine gs fun h => ?_) | ((with_reducible apply an); · omega) | ((first | refine zAa ?_ | refine cvA (zSK _ (by assumption)) ?_); refine st ?_) | refine jn _ ?_ ?_ | (with_reducible first | apply both | apply an | exact ti) | exact fe | refine st ?_ | exact fm | refine s1 ?_)
  try simp (disch := omega) only [go_sem, hE, hH, zAL, zAA]
  repeat refine And.intro (by omega) ?_
  try simp (disch := omega) only [go_sem, hE, hH, zAL, zAA]
  repeat refine And.intro (by omega) ?_
  first | refine ⟨(), ?_, trivial⟩ | refine ⟨(), ?_⟩ | skip
  have hc := zB5 (f := fun y => [.sl true 3 (y.map (Lock.row true))]) (z := [zAI]) hlt
  rw [hc]
  rfl
 ·have hb := h
  simp only [nf] at h
  try simp (disch := omega) only [go_sem, hE, hH, hb, zCq]
open Go.Proofs.Wb renaming Rec.sz → z0_, H219 → z1_, zZZ → z2_, zQp → z3_ in
theorem zWd (x : Rec) (hs : x.sz ≤ 2 ^ 20) : ACall p_ 219 [.agg (Rec.row false x)] (fun r _ => r = .agg (Rec.row true x)) := Q6_
open Go.Proofs.Wb renaming WorldLook.sz → z0_, H47 → z1_, C47 → z2_, zNL → z3_ in
theorem zMP (x : WorldLook) (hs : x.sz ≤ 2 ^ 20) : ACall p_ 47 [.agg (WorldLook.row false x)] (fun r _ => r = .agg (WorldLook.row true x)) := Q6_
theorem zOa (x : WorldTxn) (hs : x.sz ≤ 2 ^ 20) : ACall p_ 46 [.agg (WorldTxn.row false x)] (fun r _ => r = .agg (WorldTxn.row true x)) := by
 unfold WorldTxn.sz at hs
 refine fg H46 fun E hE hH => ?_; simp only [go_sem, hE, hH, C46]
 repeat' (first | ((with_reducible apply ga) <;> refine gs fun h => ?_) | ((with_reducible apply an); · omega) | ((first | refine zAa ?_ | refine cvA (zWc _ (by omega)) ?_ | refine cvA (zNL _ (by omega)) ?_ | refine cvA (zNK _ (by omega)) ?_); refine st ?_) | refine jn _ ?_ ?_ | (with_reducible first | apply both | apply an | exact ti) | exact fe | refine st ?_ | exact fm | refine s1 ?_)
open Go.Proofs.Wb renaming Entry.sz → z0_, H187 → z1_, zZG → z2_, zWd → z3_ in
theorem zSL (x : Entry) (hs : x.sz ≤ 2 ^ 20) : ACall p_ 187 [.agg (Entry.row false x)] (fun r _ => r = .agg (Entry.row true x)) := Q7_
theorem zLM (l : List WorldLook) (hl : szL (WorldLook.sz) l ≤ 2 ^ 20) : ACall p_ 24 [.sl false 6 (l.map (WorldLook.row false))] (fun r _ => r = .sl true 6 (l.map (WorldLook.row true))) := by
 have hl0 : l.length ≤ 2 ^ 20 := Nat.le_trans zCh hl
 refine fg H24 fun E hE hH => ?_; simp only [go_sem, hE, hH, zG6]
 refine And.intro (by omega) ?_
 rw [zB4 (WorldLook.row true)]
 refine zAs l.length (fun j (_ : Unit) => ⟨[(0, .sl false 6 (l.map (WorldLook.row false))), (3, .ref 4000000 0 l.length), (4, i64 j)], [(4000000, ⟨6, cpy (WorldLook.row true) [i64 0, zAI, zAI, i64 0, i64 0, i64 0] l j⟩)]⟩) (fun _ _ => True) () trivial ?_
 intro j _ hj _
 try simp only [go_sem, hE, hH, zFM]
 first | refine zAg (fun h => ?_) (fun h => ?_) | refine zAh (fun h => ?_) (fun h => ?_)
 ·have hb := h
  simp only [nf] at h
  have hlt := h; clear h
  have hs := Nat.le_trans (zCp (f := WorldLook.sz) (zAc hlt)) hl
  try simp (disch := omega) only [go_sem, hE, hH, hb, zAL, zAA]
  repeat' (first | ((with_reducible apply ga) <;> refine gs fun h => ?_) | ((with_reducible apply an); · omega) | ((first | refine zAa ?_ | refine cvA (zMP _ (by assumption)) ?_); refine st ?_) | refine jn _ ?_ ?_ | (with_reducible first | apply both | apply an | exact ti) | exact fe | refine st ?_ | exact fm | refine s1 ?_)
  try simp (disch := omega) only [go_sem, hE, hH, zAL, zAA]
  repeat refine And.intro (by omega) ?_
  try simp (disch := omega) only [go_sem, hE, hH, zAL, zAA]
  repeat refine And.intro (by omega) ?_
  first | refine ⟨(), ?_, trivial⟩ | refine ⟨(), ?_⟩ | skip
  have hc := zB5 (f := WorldLook.row true) (z := [i64 0, zAI, zAI, i64 0, i64 0, i64 0]) hlt
  simp only [WorldLook.row_eq] at hc ⊢
  rw [hc]
  rfl
 ·have hb := h
  simp only [nf] at h
  try simp (disch := omega) only [go_sem, hE, hH, hb, zCq]
theorem zMQ (l : List WorldTxn) (hl : szL (WorldTxn.sz) l ≤ 2 ^ 20) : ACall p_ 23 [.sl false 10 (l.map (WorldTxn.row false))] (fun r _ => r = .sl true 10 (l.map (WorldTxn.row true))) := by
 have hl0 : l.length ≤ 2 ^ 20 := Nat.le_trans zCh hl
 refine fg H23 fun E hE hH => ?_; simp only [go_sem, hE, hH, zG6]
 refine And.intro (by omega) ?_
 rw [zB4 (WorldTxn.row true)]
 refine zAs l.length (fun j (_ : Unit) => ⟨[(0, .sl false 10 (l.map (WorldTxn.row false))), (3, .ref 4000000 0 l.length), (4, i64 j)], [(4000000, ⟨10, cpy (WorldTxn.row true) [zAI, zAI, zAI, i64 0, i64 0, bl false, i64 0, bl false, bl false, bl false] l j⟩)]⟩) (fun _ _ => True) () trivial ?_
 intro j _ hj _
 try simp only [go_sem, hE, hH, zFM]
 first | refine zAg (fun h => ?_) (fun h => ?_) | refine zAh (fun h => ?_) (fun h => ?_)
 ·have hb := h
  simp only [nf] at h
  have hlt := h; clear h
  have hs := Nat.le_trans (zCp (f := WorldTxn.sz) (zAc hlt)) hl
  try simp (disch := omega) only [go_sem, hE, hH, hb, zAL, zAA]
  repeat' (first | ((with_reducible apply ga) <;> refine gs fun h => ?_) | ((with_reducible apply an); · omega) | ((first | refine zAa ?_ | refine cvA (zOa _ (by assumption)) ?_); refine st ?_) | refine jn _ ?_ ?_ | (with_reducible first | apply both | apply an | exact ti) | exact fe | refine st ?_ | exact fm | refine s1 ?_)
  try simp (disch := omega) only [go_sem, hE, hH, zAL, zAA]
  repeat refine And.intro (by omega) ?_
  try simp (disch := omega) only [go_sem, hE, hH, zAL, zAA]
  repeat refine And.intro (by omega) ?_
  first | refine ⟨(), ?_, trivial⟩ | refine ⟨(), ?_⟩ | skip
  have hc := zB5 (f := WorldTxn.row true) (z := [zAI, zAI, zAI, i64 0, i64 0, bl false, i64 0, bl false, bl false, bl false]) hlt
  simp only [WorldTxn.row_eq] at hc ⊢
  rw [hc]
  rfl
 ·have hb := h
  simp only [nf] at h
  try simp (disch := omega) only [go_sem, hE, hH, hb, zCq]
theorem zQr (l : List Entry) (hl : szL (Entry.sz) l ≤ 2 ^ 20) : ACall p_ 158 [.sl false 8 (l.map (Entry.row false))] (fun r _ => r = .sl true 8 (l.map (Entry.row true))) := by
 have hl0 : l.length ≤ 2 ^ 20 := Nat.le_trans zCh hl
 refine fg H158 fun E hE hH => ?_; simp only [go_sem, hE, hH, zG6]
 refine And.intro (by omega) ?_
 rw [zB4 (Entry.row true)]
 refine zAs l.length (fun j (_ : Unit) => ⟨[(0, .sl false 8 (l.map (Entry.row false))), (3, .ref 4000000 0 l.length), (4, i64 j)], [(4000000, ⟨8, cpy (Entry.row true) [i64 0, i64 0, i64 0, i64 0, i64 0, zAI, zAI, bl false] l j⟩)]⟩) (fun _ _ => True) () trivial ?_
 intro j _ hj _
 try simp only [go_sem, hE, hH, zFM]
 first | refine zAg (fun h => ?_) (fun h => ?_) | refine zAh (fun h => ?_) (fun h => ?_)
 ·have hb := h
  simp only [nf] at h
  have hlt := h; clear h
  have hs := Nat.le_trans (zCp (f := Entry.sz) (zAc hlt)) hl
  try simp (disch := omega) only [go_sem, hE, hH, hb, zAL, zAA]
  repeat' (first | ((with_reducible apply ga) <;> refine gs fun h => ?_) | ((with_reducible apply an); · omega) | ((first | refine zAa ?_ | refine cvA (zSL _ (by assumption)) ?_); refine st ?_) | refine jn _ ?_ ?_ | (with_reducible first | apply both | apply an | exact ti) | exact fe | refine st ?_ | exact fm | refine s1 ?_)
  try simp (disch := omega) only [go_sem, hE, hH, zAL, zAA]
  repeat refine And.intro (by omega) ?_
  try simp (disch := omega) only [go_sem, hE, hH, zAL, zAA]
  repeat refine And.intro (by omega) ?_
  first | refine ⟨(), ?_, trivial⟩ | refine ⟨(), ?_⟩ | skip
  have hc := zB5 (f := Entry.row true) (z := [i64 0, i64 0, i64 0, i64 0, i64 0, zAI, zAI, bl false]) hlt
  simp only [Entry.row_eq] at hc ⊢
  rw [hc]
  rfl
 ·have hb := h
  simp only [nf] at h
  try simp (disch := omega) only [go_sem, hE, hH, hb, zCq]
open Go.Proofs.Wb renaming Replica.sz → z0_, H114 → z1_, zY2 → z2_, zQr → z3_ in
theorem zPz (x : Replica) (hs : x.sz ≤ 2 ^ 20) : ACall p_ 114 [.agg (Replica.row false x)] (fun r _ => r = .agg (Replica.row true x)) := Q7_
theorem zOb (l : List Replica) (hl : szL (Replica.sz) l ≤ 2 ^ 20) : ACall p_ 74 [.sl false 3 (l.map (Replica.row false))] (fun r _ => r = .sl true 3 (l.map (Replica.row true))) := by
 have hl0 : l.length ≤ 2 ^ 20 := Nat.le_trans zCh hl
 refine fg H74 fun E hE hH => ?_; simp only [go_sem, hE, hH, zG6]
 refine And.intro (by omega) ?_
 rw [zB4 (Replica.row true)]
 refine zAs l.length (fun j (_ : Unit) => ⟨[(0, .sl false 3 (l.map (Replica.row false))), (3, .ref 4000000 0 l.length), (4, i64 j)], [(4000000, ⟨3, cpy (Replica.row true) [bl false, zAI, i64 0] l j⟩)]⟩) (fun _ _ => True) () trivial ?_
 intro j _ hj _
 try simp only [go_sem, hE, hH, zFM]
 first | refine zAg (fun h => ?_) (fun h => ?_) | refine zAh (fun h => ?_) (fun h => ?_)
 ·have hb := h
  simp only [nf] at h
  have hlt := h; clear h
  have hs := Nat.le_trans (zCp (f := Replica.sz) (zAc hlt)) hl
  try simp (disch := omega) only [go_sem, hE, hH, hb, zAL, zAA]
  repeat' (first | ((with_reducible apply ga) <;> refine gs fun h => ?_) | ((with_reducible apply an); · omega) | ((first | refine zAa ?_ | refine cvA (zPz _ (by assumption)) ?_); refine st ?_) | refine jn _ ?_ ?_ | (with_reducible first | apply both | apply an | exact ti) | exact fe | refine st ?_ | exact fm | refine s1 ?_)
  try simp (disch := omega) only [go_sem, hE, hH, zAL, zAA]
  repeat refine And.intro (by omega) ?_
  try simp (disch := omega) only [go_sem, hE, hH, zAL, zAA]
  repeat refine And.intro (by omega) ?_
  first | refine ⟨(), ?_, trivial⟩ | refine ⟨(), ?_⟩ | skip
  have hc := zB5 (f := Replica.row true) (z := [bl false, zAI, i64 0]) hlt
  simp only [Replica.row_eq] at hc ⊢
  rw [hc]
  rfl
 ·have hb := h
  simp only [nf] at h
  try simp (disch := omega) only [go_sem, hE, hH, hb, zCq]
open Go.Proofs.Wb renaming Group.sz → z0_, H44 → z1_, C44 → z2_, zOb → z3_ in
theorem zSM (x : Group) (hs : x.sz ≤ 2 ^ 20) : ACall p_ 44 [.agg (Group.row false x)] (fun r _ => r = .agg (Group.row true x)) := Q7_
theorem zQs (l : List Group) (hl : szL (Group.sz) l ≤ 2 ^ 20) : ACall p_ 20 [.sl false 3 (l.map (Group.row false))] (fun r _ => r = .sl true 3 (l.map (Group.row true))) := by
 have hl0 : l.length ≤ 2 ^ 20 := Nat.le_trans zCh hl
 refine fg H20 fun E hE hH => ?_; simp only [go_sem, hE, hH, zG6]
 refine And.intro (by omega) ?_
 rw [zB4 (Group.row true)]
 refine zAs l.length (fun j (_ : Unit) => ⟨[(0, .sl false 3 (l.map (Group.row false))), (3, .ref 4000000 0 l.length), (4, i64 j)], [(4000000, ⟨3, cpy (Group.row true) [zAI, i64 0, i64 0] l j⟩)]⟩) (fun _ _ => True) () trivial ?_
 intro j _ hj _
 try simp only [go_sem, hE, hH, zFM]
 first | refine zAg (fun h => ?_) (fun h => ?_) | refine zAh (fun h => ?_) (fun h => ?_)
 ·have hb := h
  simp only [nf] at h
  have hlt := h; clear h
  have hs := Nat.le_trans (zCp (f := Group.sz) (zAc hlt)) hl
  try simp (disch := omega) only [go_sem, hE, hH, hb, zAL, zAA]
  repeat' (first | ((with_reducible apply ga) <;> refine gs fun h => ?_) | ((with_reducible apply an); · omega) | ((first | refine zAa ?_ | refine cvA (zSM _ (by assumption)) ?_); refine st ?_) | refine jn _ ?_ ?_ | (with_reducible first | apply both | apply an | exact ti) | exact fe | refine st ?_ | exact fm | refine s1 ?_)
  try simp (disch := omega) only [go_sem, hE, hH, zAL, zAA]
  repeat refine And.intro (by omega) ?_
  try simp (disch := omega) only [go_sem, hE, hH, zAL, zAA]
  repeat refine And.intro (by omega) ?_
  first | refine ⟨(), ?_, trivial⟩ | refine ⟨(), ?_⟩ | skip
  have hc := zB5 (f := Group.row true) (z := [zAI, i64 0, i64 0]) hlt
  simp only [Group.row_eq] at hc ⊢
  rw [hc]
  rfl
 ·have hb := h
  simp only [nf] at h
  try simp (disch := omega) only [go_sem, hE, hH, hb, zCq]
theorem zSN (x : World) (hs : x.sz ≤ 2 ^ 20) : ACall p_ 6 [.agg (World.row false x)] (fun r _ => r = .agg (World.row true x)) := by
 unfold World.sz at hs
 refine fg H6 fun E hE hH => ?_; simp only [go_sem, hE, hH, C6]
 repeat' (first | ((with_reducible apply ga) <;> refine gs fun h => ?_) | ((with_reducible apply an); · omega) | ((first | refine zAa ?_ | refine cvA (zQo _ (by omega)) ?_ | refine cvA (zJg _ (by omega)) ?_ | refine cvA (zQs _ (by omega)) ?_ | refine cvA (zQq _ (by omega)) ?_ | refine cvA (zNK _ (by omega)) ?_ | refine cvA (zMQ _ (by omega)) ?_ | refine cvA (zLM _ (by omega)) ?_); refine st ?_) | refine jn _ ?_ ?_ | (with_reducible first | apply both | apply an | exact ti) | exact fe | refine st ?_ | exact fm | refine s1 ?_)
theorem zSO (x y : Clock) (hl : x.lim) : ACall p_ 53 [.agg (Clock.row false x), .agg (Clock.row false y)] (fun r _ => r = bl (decide (x = y))) := by
 obtain ⟨x_Off⟩ := x
 obtain ⟨y_Off⟩ := y
 refine fg H53 fun E hE hH => ?_; simp only [go_sem, hE, hH, C53]
 repeat' (first | ((with_reducible apply ga) <;> refine gs fun h => ?_) | ((with_reducible apply an); · omega) | refine jn _ ?_ ?_ | (with_reducible first | apply both | apply an | exact ti) | exact fe | refine st ?_ | exact fm | refine s1 ?_)
 all_goals simp_all [Clock.mk.injEq]
theorem zWe (x y : Got) (hl : x.lim) : ACall p_ 152 [.agg (Got.row false x), .agg (Got.row false y)] (fun r _ => r = bl (decide (x = y))) := by
 obtain ⟨x_Key, x_Val, x_There⟩ := x
 obtain ⟨y_Key, y_Val, y_There⟩ := y
 refine fg H152 fun E hE hH => ?_; simp only [go_sem, hE, hH, zJY]
 repeat' (first | ((with_reducible apply ga) <;> refine gs fun h => ?_) | ((with_reducible apply an); · omega) | refine jn _ ?_ ?_ | (with_reducible first | apply both | apply an | exact ti) | exact fe | refine st ?_ | exact fm | refine s1 ?_)
 all_goals simp_all [Got.mk.injEq]
open Go.Proofs.Wb renaming H31 → z0_ in
open Go.Am renaming ints → z1_ in
theorem zNM (l m : List Int) (hl : zA1 (fun _ => True) l) : ACall p_ 31 [.sl false 1 (ints l), .sl false 1 (ints m)] (fun r _ => r = bl (decide (l = m))) := Q8_
theorem zUE (x y : Lock) (hl : x.lim) : ACall p_ 98 [.agg (Lock.row false x), .agg (Lock.row false y)] (fun r _ => r = bl (decide (x = y))) := by
 obtain ⟨x_Key, x_Txn, x_Write⟩ := x
 obtain ⟨y_Key, y_Txn, y_Write⟩ := y
 refine fg H98 fun E hE hH => ?_; simp only [go_sem, hE, hH, zJY]
 repeat' (first | ((with_reducible apply ga) <;> refine gs fun h => ?_) | ((with_reducible apply an); · omega) | refine jn _ ?_ ?_ | (with_reducible first | apply both | apply an | exact ti) | exact fe | refine st ?_ | exact fm | refine s1 ?_)
 all_goals simp_all [Lock.mk.injEq]
theorem zXJ (x y : Op) (hl : x.lim) : ACall p_ 151 [.agg (Op.row false x), .agg (Op.row false y)] (fun r _ => r = bl (decide (x = y))) := by
 obtain ⟨x_Kind, x_Key, x_Val, x_By⟩ := x
 obtain ⟨y_Kind, y_Key, y_Val, y_By⟩ := y
 refine fg H151 fun E hE hH => ?_; simp only [go_sem, hE, hH, zZq]
 repeat' (first | ((with_reducible apply ga) <;> refine gs fun h => ?_) | ((with_reducible apply an); · omega) | refine jn _ ?_ ?_ | (with_reducible first | apply both | apply an | exact ti) | exact fe | refine st ?_ | exact fm | refine s1 ?_)
 all_goals simp_all [Op.mk.injEq]
open Go.Proofs.Wb renaming H28 → z0_ in
open Go.Am renaming strs → z1_ in
theorem zF8 (l m : List ByteArray) (hl : zA1 (fun _ => True) l) : ACall p_ 28 [.sl false 1 (strs l), .sl false 1 (strs m)] (fun r _ => r = bl (decide (l = m))) := Q8_
theorem zSP (x y : Write) (hl : x.lim) : ACall p_ 296 [.agg (Write.row false x), .agg (Write.row false y)] (fun r _ => r = bl (decide (x = y))) := by
 obtain ⟨x_Key, x_Val, x_Gone⟩ := x
 obtain ⟨y_Key, y_Val, y_Gone⟩ := y
 refine fg H296 fun E hE hH => ?_; simp only [go_sem, hE, hH, zJY]
 repeat' (first | ((with_reducible apply ga) <;> refine gs fun h => ?_) | ((with_reducible apply an); · omega) | refine jn _ ?_ ?_ | (with_reducible first | apply both | apply an | exact ti) | exact fe | refine st ?_ | exact fm | refine s1 ?_)
 all_goals simp_all [Write.mk.injEq]
open Go.Proofs.Wb renaming H27 → z0_, zG7 → z1_, Clock.row → z3_, zFN → z4_, zSO → z5_ in
open Go.Am renaming k1_ → z2_ in
theorem zQt (l m : List Clock) (hl : zA1 (Clock.lim) l) : ACall p_ 27 [.sl false 1 (l.map (Clock.row false)), .sl false 1 (m.map (Clock.row false))] (fun r _ => r = bl (decide (l = m))) := Q9_
open Go.Proofs.Wb renaming H100 → z0_, zG7 → z1_, Got.row → z3_, zFN → z4_, zWe → z5_ in
open Go.Am renaming k3_ → z2_ in
theorem zNN (l m : List Got) (hl : zA1 (Got.lim) l) : ACall p_ 100 [.sl false 3 (l.map (Got.row false)), .sl false 3 (m.map (Got.row false))] (fun r _ => r = bl (decide (l = m))) := Q9_
open Go.Proofs.Wb renaming H55 → z0_, zG7 → z1_, Lock.row → z3_, zFN → z4_, zUE → z5_ in
open Go.Am renaming k3_ → z2_ in
theorem zSQ (l m : List Lock) (hl : zA1 (Lock.lim) l) : ACall p_ 55 [.sl false 3 (l.map (Lock.row false)), .sl false 3 (m.map (Lock.row false))] (fun r _ => r = bl (decide (l = m))) := Q9_
open Go.Proofs.Wb renaming H99 → z0_, zG7 → z1_, Op.row → z3_, zFN → z4_, zXJ → z5_ in
open Go.Am renaming k4_ → z2_ in
theorem zWf (l m : List Op) (hl : zA1 (Op.lim) l) : ACall p_ 99 [.sl false 4 (l.map (Op.row false)), .sl false 4 (m.map (Op.row false))] (fun r _ => r = bl (decide (l = m))) := Q9_
open Go.Proofs.Wb renaming H272 → z0_, zG7 → z1_, Write.row → z3_, zFN → z4_, zSP → z5_ in
open Go.Am renaming k3_ → z2_ in
theorem zQu (l m : List Write) (hl : zA1 (Write.lim) l) : ACall p_ 272 [.sl false 3 (l.map (Write.row false)), .sl false 3 (m.map (Write.row false))] (fun r _ => r = bl (decide (l = m))) := Q9_
theorem zQv (l m : List (List Lock)) (hl : zA1 (zA1 (Lock.lim)) l) : ACall p_ 30 [.sl false 1 (l.map fun y => [.sl false 3 (y.map (Lock.row false))]), .sl false 1 (m.map fun y => [.sl false 3 (y.map (Lock.row false))])] (fun r _ => r = bl (decide (l = m))) := by
 obtain ⟨hl, hx⟩ := hl
 have hm := zAf
 refine fg H30 fun E hE hH => ?_; simp only [go_sem, hE, hH, C30]
 repeat' (first | ((with_reducible apply ga) <;> refine gs fun h => ?_) | ((with_reducible apply an); · omega) | refine jn _ ?_ ?_ | (with_reducible first | apply both | apply an | exact ti) | exact fe | refine st ?_ | exact fm | refine s1 ?_)
 ·rw [decide_eq_false (fun e => h (by rw [e]))]
 have hlen : l.length = m.length := by omega
 clear h
 refine zAs l.length (fun j (_ : Unit) => ⟨[(0, .sl false 1 (l.map fun y => [.sl false 3 (y.map (Lock.row false))])), (1, .sl false 1 (m.map fun y => [.sl false 3 (y.map (Lock.row false))])), (5, i64 j)], []⟩) (fun j _ => decide (l = m) = decide (l.drop j = m.drop j)) () (by simp) ?_
 intro j _ hj hI
 try simp only [go_sem, hE, hH, zUe]
 first | refine zAg (fun h => ?_) (fun h => ?_) | refine zAh (fun h => ?_) (fun h => ?_)
 ·have hb := h
  simp only [nf] at h
  have hlt := h; clear h
  have hlm : j < m.length := by omega
  rw [zMD hlt hlm] at hI
  have hs := hx _ (zAc hlt)
  try refine sb ?_; try exact ⟨⟩
  repeat' (first | ((with_reducible apply ga) <;> refine gs fun h => ?_) | ((with_reducible apply an); · omega) | ((first | refine zAa ?_ | refine cvA (zSQ _ _ (by assumption)) ?_); refine st ?_) | refine jn _ ?_ ?_ | (with_reducible first | apply both | apply an | exact ti) | exact fe | refine st ?_ | exact fm | refine s1 ?_)
  ·rw [hI]; simp [h]
  ·exact ⟨(), rfl, by rw [hI]; simp [h]⟩
 ·have hb := h
  simp only [nf] at h
  try refine sb ?_; try exact ⟨⟩
  rw [hI, List.drop_of_length_le (by omega), List.drop_of_length_le (by omega)]
  rfl
theorem zWg (x y : Rec) (hl : x.lim) : ACall p_ 240 [.agg (Rec.row false x), .agg (Rec.row false y)] (fun r _ => r = bl (decide (x = y))) := by
 obtain ⟨l_Reads, l_Writes⟩ := hl
 obtain ⟨x_Kind, x_Txn, x_Time, x_Lead, x_Reads, x_Writes, x_Yes⟩ := x
 obtain ⟨y_Kind, y_Txn, y_Time, y_Lead, y_Reads, y_Writes, y_Yes⟩ := y
 refine fg H240 fun E hE hH => ?_; simp only [go_sem, hE, hH, C240]
 repeat' (first | ((with_reducible apply ga) <;> refine gs fun h => ?_) | ((with_reducible apply an); · omega) | ((first | refine zAa ?_ | refine cvA (zF8 _ _ (by assumption)) ?_ | refine cvA (zQu _ _ (by assumption)) ?_); refine st ?_) | refine jn _ ?_ ?_ | (with_reducible first | apply both | apply an | exact ti) | exact fe | refine st ?_ | exact fm | refine s1 ?_)
 all_goals simp_all [Rec.mk.injEq]
theorem zMR (x y : WorldLook) (hl : x.lim) : ACall p_ 57 [.agg (WorldLook.row false x), .agg (WorldLook.row false y)] (fun r _ => r = bl (decide (x = y))) := by
 obtain ⟨l_Keys, l_Got⟩ := hl
 obtain ⟨x_Node, x_Keys, x_Got, x_Time, x_Begin, x_End⟩ := x
 obtain ⟨y_Node, y_Keys, y_Got, y_Time, y_Begin, y_End⟩ := y
 refine fg H57 fun E hE hH => ?_; simp only [go_sem, hE, hH, C57]
 repeat' (first | ((with_reducible apply ga) <;> refine gs fun h => ?_) | ((with_reducible apply an); · omega) | ((first | refine zAa ?_ | refine cvA (zF8 _ _ (by assumption)) ?_ | refine cvA (zNN _ _ (by assumption)) ?_); refine st ?_) | refine jn _ ?_ ?_ | (with_reducible first | apply both | apply an | exact ti) | exact fe | refine st ?_ | exact fm | refine s1 ?_)
 all_goals simp_all [WorldLook.mk.injEq]
theorem zOc (x y : WorldTxn) (hl : x.lim) : ACall p_ 56 [.agg (WorldTxn.row false x), .agg (WorldTxn.row false y)] (fun r _ => r = bl (decide (x = y))) := by
 obtain ⟨l_Ops, l_Got, l_Terms⟩ := hl
 obtain ⟨x_Ops, x_Got, x_Terms, x_Begin, x_End, x_Yes, x_Time, x_Dead, x_Put, x_Stopped⟩ := x
 obtain ⟨y_Ops, y_Got, y_Terms, y_Begin, y_End, y_Yes, y_Time, y_Dead, y_Put, y_Stopped⟩ := y
 refine fg H56 fun E hE hH => ?_; simp only [go_sem, hE, hH, C56]
 repeat' (first | ((with_reducible apply ga) <;> refine gs fun h => ?_) | ((with_reducible apply an); · omega) | ((first | refine zAa ?_ | refine cvA (zWf _ _ (by assumption)) ?_ | refine cvA (zNN _ _ (by assumption)) ?_ | refine cvA (zNM _ _ (by assumption)) ?_); refine st ?_) | refine jn _ ?_ ?_ | (with_reducible first | apply both | apply an | exact ti) | exact fe | refine st ?_ | exact fm | refine s1 ?_)
 all_goals simp_all [WorldTxn.mk.injEq]
theorem zSR (x y : Entry) (hl : x.lim) : ACall p_ 205 [.agg (Entry.row false x), .agg (Entry.row false y)] (fun r _ => r = bl (decide (x = y))) := by
 have l_Rec := hl; unfold Entry.lim at l_Rec
 obtain ⟨x_Term, x_Rec⟩ := x
 obtain ⟨y_Term, y_Rec⟩ := y
 refine fg H205 fun E hE hH => ?_; simp only [go_sem, hE, hH, zZM]
 repeat' (first | ((with_reducible apply ga) <;> refine gs fun h => ?_) | ((with_reducible apply an); · omega) | ((first | refine zAa ?_ | refine cvA (zWg _ _ (by assumption)) ?_); refine st ?_) | refine jn _ ?_ ?_ | (with_reducible first | apply both | apply an | exact ti) | exact fe | refine st ?_ | exact fm | refine s1 ?_)
 all_goals simp_all [Entry.mk.injEq]
open Go.Proofs.Wb renaming H33 → z0_, zG8 → z1_, WorldLook.row → z3_, zFO → z4_, zMR → z5_ in
open Go.Am renaming k6_ → z2_ in
theorem zLN (l m : List WorldLook) (hl : zA1 (WorldLook.lim) l) : ACall p_ 33 [.sl false 6 (l.map (WorldLook.row false)), .sl false 6 (m.map (WorldLook.row false))] (fun r _ => r = bl (decide (l = m))) := Q9_
open Go.Proofs.Wb renaming H32 → z0_, zG8 → z1_, WorldTxn.row → z3_, zFO → z4_, zOc → z5_ in
open Go.Am renaming zTF → z2_ in
theorem zMS (l m : List WorldTxn) (hl : zA1 (WorldTxn.lim) l) : ACall p_ 32 [.sl false 10 (l.map (WorldTxn.row false)), .sl false 10 (m.map (WorldTxn.row false))] (fun r _ => r = bl (decide (l = m))) := Q9_
open Go.Proofs.Wb renaming H183 → z0_, zG8 → z1_, Entry.row → z3_, zFO → z4_, zSR → z5_ in
open Go.Am renaming k8_ → z2_ in
theorem zQw (l m : List Entry) (hl : zA1 (Entry.lim) l) : ACall p_ 183 [.sl false 8 (l.map (Entry.row false)), .sl false 8 (m.map (Entry.row false))] (fun r _ => r = bl (decide (l = m))) := Q9_
theorem zPA (x y : Replica) (hl : x.lim) : ACall p_ 150 [.agg (Replica.row false x), .agg (Replica.row false y)] (fun r _ => r = bl (decide (x = y))) := by
 have l_Log := hl; unfold Replica.lim at l_Log
 obtain ⟨x_Up, x_Log, x_Sure⟩ := x
 obtain ⟨y_Up, y_Log, y_Sure⟩ := y
 refine fg H150 fun E hE hH => ?_; simp only [go_sem, hE, hH, zZp]
 repeat' (first | ((with_reducible apply ga) <;> refine gs fun h => ?_) | ((with_reducible apply an); · omega) | ((first | refine zAa ?_ | refine cvA (zQw _ _ (by assumption)) ?_); refine st ?_) | refine jn _ ?_ ?_ | (with_reducible first | apply both | apply an | exact ti) | exact fe | refine st ?_ | exact fm | refine s1 ?_)
 all_goals simp_all [Replica.mk.injEq]
open Go.Proofs.Wb renaming H97 → z0_, zG8 → z1_, Replica.row → z3_, zFO → z4_, zPA → z5_ in
open Go.Am renaming k3_ → z2_ in
theorem zOd (l m : List Replica) (hl : zA1 (Replica.lim) l) : ACall p_ 97 [.sl false 3 (l.map (Replica.row false)), .sl false 3 (m.map (Replica.row false))] (fun r _ => r = bl (decide (l = m))) := Q9_
theorem zSS (x y : Group) (hl : x.lim) : ACall p_ 54 [.agg (Group.row false x), .agg (Group.row false y)] (fun r _ => r = bl (decide (x = y))) := by
 have l_Reps := hl; unfold Group.lim at l_Reps
 obtain ⟨x_Reps, x_Term, x_Lead⟩ := x
 obtain ⟨y_Reps, y_Term, y_Lead⟩ := y
 refine fg H54 fun E hE hH => ?_; simp only [go_sem, hE, hH, C54]
 repeat' (first | ((with_reducible apply ga) <;> refine gs fun h => ?_) | ((with_reducible apply an); · omega) | ((first | refine zAa ?_ | refine cvA (zOd _ _ (by assumption)) ?_); refine st ?_) | refine jn _ ?_ ?_ | (with_reducible first | apply both | apply an | exact ti) | exact fe | refine st ?_ | exact fm | refine s1 ?_)
 all_goals simp_all [Group.mk.injEq]
open Go.Proofs.Wb renaming H29 → z0_, zG8 → z1_, Group.row → z3_, zFO → z4_, zSS → z5_ in
open Go.Am renaming k3_ → z2_ in
theorem zQx (l m : List Group) (hl : zA1 (Group.lim) l) : ACall p_ 29 [.sl false 3 (l.map (Group.row false)), .sl false 3 (m.map (Group.row false))] (fun r _ => r = bl (decide (l = m))) := Q9_
theorem zST (x y : World) (hl : x.lim) : ACall p_ 8 [.agg (World.row false x), .agg (World.row false y)] (fun r _ => r = bl (decide (x = y))) := by
 obtain ⟨l_Clocks, l_Cuts, l_Groups, l_Locks, l_Promised, l_Txns, l_Looks⟩ := hl
 obtain ⟨x_Now, x_Count, x_Clocks, x_Cuts, x_Groups, x_Locks, x_Promised, x_Txns, x_Looks⟩ := x
 obtain ⟨y_Now, y_Count, y_Clocks, y_Cuts, y_Groups, y_Locks, y_Promised, y_Txns, y_Looks⟩ := y
 refine fg H8 fun E hE hH => ?_; simp only [go_sem, hE, hH, C8]
 repeat' (first | ((with_reducible apply ga) <;> refine gs fun h => ?_) | ((with_reducible apply an); · omega) | ((first | refine zAa ?_ | refine cvA (zQt _ _ (by assumption)) ?_ | refine cvA (zF8 _ _ (by assumption)) ?_ | refine cvA (zQx _ _ (by assumption)) ?_ | refine cvA (zQv _ _ (by assumption)) ?_ | refine cvA (zNM _ _ (by assumption)) ?_ | refine cvA (zMS _ _ (by assumption)) ?_ | refine cvA (zLN _ _ (by assumption)) ?_); refine st ?_) | refine jn _ ?_ ?_ | (with_reducible first | apply both | apply an | exact ti) | exact fe | refine st ?_ | exact fm | refine s1 ?_)
 all_goals simp_all [World.mk.injEq]
end Go.Proofs.Wb

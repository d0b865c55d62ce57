import Derived.Test.YtpkhdekgoppcmaaGreatFnExactNewWorldCodes
import Derived.Test.YtpkhdekgoppcmaaGreatFnExactNewWorldCodes1
import Derived.Test.YtpkhdekgoppcmaaGreatFnExactNewWorldCodes2
import Derived.Test.YtpkhdekgoppcmaaGreatAmRaw
set_option linter.all false
set_option maxHeartbeats 4000000
namespace Go.Proofs.Wb
open Tryz renaming prog → p_
open Go Go.Am
structure Op where
 Kind : Int
 Key : ByteArray
 Val : ByteArray
 By : Int
 deriving DecidableEq, Inhabited
def Op.row (o : Bool) (x : Op) : List T := [i64 x.Kind, str x.Key, str x.Val, i64 x.By]
@[go_sem] theorem Op.row_eq (o : Bool) (x : Op) : Op.row o x = [i64 x.Kind, str x.Key, str x.Val, i64 x.By] := rfl
def Op.wf (x : Op) : Prop := (-9223372036854775808 ≤ x.Kind ∧ x.Kind ≤ 9223372036854775807) ∧ (x.Key.size ≤ maxLen) ∧ (x.Val.size ≤ maxLen) ∧ (-9223372036854775808 ≤ x.By ∧ x.By ≤ 9223372036854775807)
def Op.sz (x : Op) : Nat := x.Key.size + x.Val.size
structure Clock where
 Off : Int
 deriving DecidableEq, Inhabited
def Clock.row (o : Bool) (x : Clock) : List T := [i64 x.Off]
@[go_sem] theorem Clock.row_eq (o : Bool) (x : Clock) : Clock.row o x = [i64 x.Off] := rfl
def Clock.wf (x : Clock) : Prop := (-9223372036854775808 ≤ x.Off ∧ x.Off ≤ 9223372036854775807)
structure Got where
 Key : ByteArray
 Val : ByteArray
 There : Bool
 deriving DecidableEq, Inhabited
def Got.row (o : Bool) (x : Got) : List T := [str x.Key, str x.Val, bl x.There]
@[go_sem] theorem Got.row_eq (o : Bool) (x : Got) : Got.row o x = [str x.Key, str x.Val, bl x.There] := rfl
def Got.wf (x : Got) : Prop := (x.Key.size ≤ maxLen) ∧ (x.Val.size ≤ maxLen)
def Got.sz (x : Got) : Nat := x.Key.size + x.Val.size
structure Lock where
 Key : ByteArray
 Txn : Int
 Write : Bool
 deriving DecidableEq, Inhabited
def Lock.row (o : Bool) (x : Lock) : List T := [str x.Key, i64 x.Txn, bl x.Write]
@[go_sem] theorem Lock.row_eq (o : Bool) (x : Lock) : Lock.row o x = [str x.Key, i64 x.Txn, bl x.Write] := rfl
def Lock.wf (x : Lock) : Prop := (x.Key.size ≤ maxLen) ∧ (-9223372036854775808 ≤ x.Txn ∧ x.Txn ≤ 9223372036854775807)
def Lock.sz (x : Lock) : Nat := x.Key.size
structure Write where
 Key : ByteArray
 Val : ByteArray
 Gone : Bool
 deriving DecidableEq, Inhabited
def Write.row (o : Bool) (x : Write) : List T := [str x.Key, str x.Val, bl x.Gone]
@[go_sem] theorem Write.row_eq (o : Bool) (x : Write) : Write.row o x = [str x.Key, str x.Val, bl x.Gone] := rfl
def Write.wf (x : Write) : Prop := (x.Key.size ≤ maxLen) ∧ (x.Val.size ≤ maxLen)
def Write.sz (x : Write) : Nat := x.Key.size + x.Val.size
structure Rec where
 Kind : Int
 Txn : Int
 Time : Int
 Lead : Int
 Reads : List ByteArray
 Writes : List Write
 Yes : Bool
 deriving DecidableEq, Inhabited
def Rec.row (o : Bool) (x : Rec) : List T := [i64 x.Kind, i64 x.Txn, i64 x.Time, i64 x.Lead, .sl o 1 (strs x.Reads), .sl o 3 (x.Writes.map (Write.row o)), bl x.Yes]
@[go_sem] theorem Rec.row_eq (o : Bool) (x : Rec) : Rec.row o x = [i64 x.Kind, i64 x.Txn, i64 x.Time, i64 x.Lead, .sl o 1 (strs x.Reads), .sl o 3 (x.Writes.map (Write.row o)), bl x.Yes] := rfl
def Rec.wf (x : Rec) : Prop := (-9223372036854775808 ≤ x.Kind ∧ x.Kind ≤ 9223372036854775807) ∧ (-9223372036854775808 ≤ x.Txn ∧ x.Txn ≤ 9223372036854775807) ∧ (-9223372036854775808 ≤ x.Time ∧ x.Time ≤ 9223372036854775807) ∧ (-9223372036854775808 ≤ x.Lead ∧ x.Lead ≤ 9223372036854775807) ∧ (wfL (fun s => s.size ≤ maxLen) x.Reads) ∧ (wfL (Write.wf) x.Writes)
def Rec.sz (x : Rec) : Nat := szL (ByteArray.size) x.Reads + szL (Write.sz) x.Writes
structure WorldLook where
 Node : Int
 Keys : List ByteArray
 Got : List Got
 Time : Int
 Begin : Int
 End : Int
 deriving DecidableEq, Inhabited
def WorldLook.row (o : Bool) (x : WorldLook) : List T := [i64 x.Node, .sl o 1 (strs x.Keys), .sl o 3 (x.Got.map (Got.row o)), i64 x.Time, i64 x.Begin, i64 x.End]
@[go_sem] theorem WorldLook.row_eq (o : Bool) (x : WorldLook) : WorldLook.row o x = [i64 x.Node, .sl o 1 (strs x.Keys), .sl o 3 (x.Got.map (Got.row o)), i64 x.Time, i64 x.Begin, i64 x.End] := rfl
def WorldLook.wf (x : WorldLook) : Prop := (-9223372036854775808 ≤ x.Node ∧ x.Node ≤ 9223372036854775807) ∧ (wfL (fun s => s.size ≤ maxLen) x.Keys) ∧ (wfL (Got.wf) x.Got) ∧ (-9223372036854775808 ≤ x.Time ∧ x.Time ≤ 9223372036854775807) ∧ (-9223372036854775808 ≤ x.Begin ∧ x.Begin ≤ 9223372036854775807) ∧ (-9223372036854775808 ≤ x.End ∧ x.End ≤ 9223372036854775807)
def WorldLook.sz (x : WorldLook) : Nat := szL (ByteArray.size) x.Keys + szL (Got.sz) x.Got
structure WorldTxn where
 Ops : List Op
 Got : List Got
 Terms : List Int
 Begin : Int
 End : Int
 Yes : Bool
 Time : Int
 Dead : Bool
 Put : Bool
 Stopped : Bool
 deriving DecidableEq, Inhabited
def WorldTxn.row (o : Bool) (x : WorldTxn) : List T := [.sl o 4 (x.Ops.map (Op.row o)), .sl o 3 (x.Got.map (Got.row o)), .sl o 1 (ints x.Terms), i64 x.Begin, i64 x.End, bl x.Yes, i64 x.Time, bl x.Dead, bl x.Put, bl x.Stopped]
@[go_sem] theorem WorldTxn.row_eq (o : Bool) (x : WorldTxn) : WorldTxn.row o x = [.sl o 4 (x.Ops.map (Op.row o)), .sl o 3 (x.Got.map (Got.row o)), .sl o 1 (ints x.Terms), i64 x.Begin, i64 x.End, bl x.Yes, i64 x.Time, bl x.Dead, bl x.Put, bl x.Stopped] := rfl
def WorldTxn.wf (x : WorldTxn) : Prop := (wfL (Op.wf) x.Ops) ∧ (wfL (Got.wf) x.Got) ∧ (wfL (fun n => -9223372036854775808 ≤ n ∧ n ≤ 9223372036854775807) x.Terms) ∧ (-9223372036854775808 ≤ x.Begin ∧ x.Begin ≤ 9223372036854775807) ∧ (-9223372036854775808 ≤ x.End ∧ x.End ≤ 9223372036854775807) ∧ (-9223372036854775808 ≤ x.Time ∧ x.Time ≤ 9223372036854775807)
def WorldTxn.sz (x : WorldTxn) : Nat := szL (Op.sz) x.Ops + szL (Got.sz) x.Got + x.Terms.length
structure Entry where
 Term : Int
 Rec : Rec
 deriving DecidableEq, Inhabited
def Entry.row (o : Bool) (x : Entry) : List T := [i64 x.Term, i64 x.Rec.Kind, i64 x.Rec.Txn, i64 x.Rec.Time, i64 x.Rec.Lead, .sl o 1 (strs x.Rec.Reads), .sl o 3 (x.Rec.Writes.map (Write.row o)), bl x.Rec.Yes]
@[go_sem] theorem Entry.row_eq (o : Bool) (x : Entry) : Entry.row o x = [i64 x.Term, i64 x.Rec.Kind, i64 x.Rec.Txn, i64 x.Rec.Time, i64 x.Rec.Lead, .sl o 1 (strs x.Rec.Reads), .sl o 3 (x.Rec.Writes.map (Write.row o)), bl x.Rec.Yes] := rfl
def Entry.wf (x : Entry) : Prop := (-9223372036854775808 ≤ x.Term ∧ x.Term ≤ 9223372036854775807) ∧ (x.Rec.wf)
def Entry.sz (x : Entry) : Nat := x.Rec.sz
structure Replica where
 Up : Bool
 Log : List Entry
 Sure : Int
 deriving DecidableEq, Inhabited
def Replica.row (o : Bool) (x : Replica) : List T := [bl x.Up, .sl o 8 (x.Log.map (Entry.row o)), i64 x.Sure]
@[go_sem] theorem Replica.row_eq (o : Bool) (x : Replica) : Replica.row o x = [bl x.Up, .sl o 8 (x.Log.map (Entry.row o)), i64 x.Sure] := rfl
def Replica.wf (x : Replica) : Prop := (wfL (Entry.wf) x.Log) ∧ (-9223372036854775808 ≤ x.Sure ∧ x.Sure ≤ 9223372036854775807)
def Replica.sz (x : Replica) : Nat := szL (Entry.sz) x.Log
structure Group where
 Reps : List Replica
 Term : Int
 Lead : Int
 deriving DecidableEq, Inhabited
def Group.row (o : Bool) (x : Group) : List T := [.sl o 3 (x.Reps.map (Replica.row o)), i64 x.Term, i64 x.Lead]
@[go_sem] theorem Group.row_eq (o : Bool) (x : Group) : Group.row o x = [.sl o 3 (x.Reps.map (Replica.row o)), i64 x.Term, i64 x.Lead] := rfl
def Group.wf (x : Group) : Prop := (wfL (Replica.wf) x.Reps) ∧ (-9223372036854775808 ≤ x.Term ∧ x.Term ≤ 9223372036854775807) ∧ (-9223372036854775808 ≤ x.Lead ∧ x.Lead ≤ 9223372036854775807)
def Group.sz (x : Group) : Nat := szL (Replica.sz) x.Reps
structure World where
 Now : Int
 Count : Int
 Clocks : List Clock
 Cuts : List ByteArray
 Groups : List Group
 Locks : List (List Lock)
 Promised : List Int
 Txns : List WorldTxn
 Looks : List WorldLook
 deriving DecidableEq, Inhabited
def World.row (o : Bool) (x : World) : List T := [i64 x.Now, i64 x.Count, .sl o 1 (x.Clocks.map (Clock.row o)), .sl o 1 (strs x.Cuts), .sl o 3 (x.Groups.map (Group.row o)), .sl o 1 (x.Locks.map fun y => [.sl o 3 (y.map (Lock.row o))]), .sl o 1 (ints x.Promised), .sl o 10 (x.Txns.map (WorldTxn.row o)), .sl o 6 (x.Looks.map (WorldLook.row o))]
@[go_sem] theorem World.row_eq (o : Bool) (x : World) : World.row o x = [i64 x.Now, i64 x.Count, .sl o 1 (x.Clocks.map (Clock.row o)), .sl o 1 (strs x.Cuts), .sl o 3 (x.Groups.map (Group.row o)), .sl o 1 (x.Locks.map fun y => [.sl o 3 (y.map (Lock.row o))]), .sl o 1 (ints x.Promised), .sl o 10 (x.Txns.map (WorldTxn.row o)), .sl o 6 (x.Looks.map (WorldLook.row o))] := rfl
def World.wf (x : World) : Prop := (-9223372036854775808 ≤ x.Now ∧ x.Now ≤ 9223372036854775807) ∧ (-9223372036854775808 ≤ x.Count ∧ x.Count ≤ 9223372036854775807) ∧ (wfL (Clock.wf) x.Clocks) ∧ (wfL (fun s => s.size ≤ maxLen) x.Cuts) ∧ (wfL (Group.wf) x.Groups) ∧ (wfL (wfL (Lock.wf)) x.Locks) ∧ (wfL (fun n => -9223372036854775808 ≤ n ∧ n ≤ 9223372036854775807) x.Promised) ∧ (wfL (WorldTxn.wf) x.Txns) ∧ (wfL (WorldLook.wf) x.Looks)
def World.sz (x : World) : Nat := x.Clocks.length + szL (ByteArray.size) x.Cuts + szL (Group.sz) x.Groups + szL (szL (Lock.sz)) x.Locks + x.Promised.length + szL (WorldTxn.sz) x.Txns + szL (WorldLook.sz) x.Looks
structure Ver where
 Time : Int
 Val : ByteArray
 Gone : Bool
 deriving DecidableEq, Inhabited
def Ver.row (o : Bool) (x : Ver) : List T := [i64 x.Time, str x.Val, bl x.Gone]
@[go_sem] theorem Ver.row_eq (o : Bool) (x : Ver) : Ver.row o x = [i64 x.Time, str x.Val, bl x.Gone] := rfl
def Ver.wf (x : Ver) : Prop := (-9223372036854775808 ≤ x.Time ∧ x.Time ≤ 9223372036854775807) ∧ (x.Val.size ≤ maxLen)
def Ver.sz (x : Ver) : Nat := x.Val.size
structure Cell where
 Key : ByteArray
 Vers : List Ver
 deriving DecidableEq, Inhabited
def Cell.row (o : Bool) (x : Cell) : List T := [str x.Key, .sl o 3 (x.Vers.map (Ver.row o))]
@[go_sem] theorem Cell.row_eq (o : Bool) (x : Cell) : Cell.row o x = [str x.Key, .sl o 3 (x.Vers.map (Ver.row o))] := rfl
def Cell.wf (x : Cell) : Prop := (x.Key.size ≤ maxLen) ∧ (wfL (Ver.wf) x.Vers)
def Cell.sz (x : Cell) : Nat := x.Key.size + szL (Ver.sz) x.Vers
structure Held where
 Txn : Int
 Time : Int
 Lead : Int
 Reads : List ByteArray
 Writes : List Write
 deriving DecidableEq, Inhabited
def Held.row (o : Bool) (x : Held) : List T := [i64 x.Txn, i64 x.Time, i64 x.Lead, .sl o 1 (strs x.Reads), .sl o 3 (x.Writes.map (Write.row o))]
@[go_sem] theorem Held.row_eq (o : Bool) (x : Held) : Held.row o x = [i64 x.Txn, i64 x.Time, i64 x.Lead, .sl o 1 (strs x.Reads), .sl o 3 (x.Writes.map (Write.row o))] := rfl
def Held.wf (x : Held) : Prop := (-9223372036854775808 ≤ x.Txn ∧ x.Txn ≤ 9223372036854775807) ∧ (-9223372036854775808 ≤ x.Time ∧ x.Time ≤ 9223372036854775807) ∧ (-9223372036854775808 ≤ x.Lead ∧ x.Lead ≤ 9223372036854775807) ∧ (wfL (fun s => s.size ≤ maxLen) x.Reads) ∧ (wfL (Write.wf) x.Writes)
def Held.sz (x : Held) : Nat := szL (ByteArray.size) x.Reads + szL (Write.sz) x.Writes
structure Told where
 Txn : Int
 Yes : Bool
 Time : Int
 deriving DecidableEq, Inhabited
def Told.row (o : Bool) (x : Told) : List T := [i64 x.Txn, bl x.Yes, i64 x.Time]
@[go_sem] theorem Told.row_eq (o : Bool) (x : Told) : Told.row o x = [i64 x.Txn, bl x.Yes, i64 x.Time] := rfl
def Told.wf (x : Told) : Prop := (-9223372036854775808 ≤ x.Txn ∧ x.Txn ≤ 9223372036854775807) ∧ (-9223372036854775808 ≤ x.Time ∧ x.Time ≤ 9223372036854775807)
structure State where
 Floor : Int
 Cells : List Cell
 Held : List Held
 Told : List Told
 deriving DecidableEq, Inhabited
def State.row (o : Bool) (x : State) : List T := [i64 x.Floor, .sl o 2 (x.Cells.map (Cell.row o)), .sl o 5 (x.Held.map (Held.row o)), .sl o 3 (x.Told.map (Told.row o))]
@[go_sem] theorem State.row_eq (o : Bool) (x : State) : State.row o x = [i64 x.Floor, .sl o 2 (x.Cells.map (Cell.row o)), .sl o 5 (x.Held.map (Held.row o)), .sl o 3 (x.Told.map (Told.row o))] := rfl
def State.wf (x : State) : Prop := (-9223372036854775808 ≤ x.Floor ∧ x.Floor ≤ 9223372036854775807) ∧ (wfL (Cell.wf) x.Cells) ∧ (wfL (Held.wf) x.Held) ∧ (wfL (Told.wf) x.Told)
def State.sz (x : State) : Nat := szL (Cell.sz) x.Cells + szL (Held.sz) x.Held + x.Told.length
def Op.lim (x : Op) : Prop := True
theorem Op.lim_of {x : Op} (h : x.wf) : x.lim := by
 exact trivial
def Clock.lim (x : Clock) : Prop := True
theorem Clock.lim_of {x : Clock} (h : x.wf) : x.lim := by
 exact trivial
def Got.lim (x : Got) : Prop := True
theorem Got.lim_of {x : Got} (h : x.wf) : x.lim := by
 exact trivial
def Lock.lim (x : Lock) : Prop := True
theorem Lock.lim_of {x : Lock} (h : x.wf) : x.lim := by
 exact trivial
def Write.lim (x : Write) : Prop := True
theorem Write.lim_of {x : Write} (h : x.wf) : x.lim := by
 exact trivial
def Rec.lim (x : Rec) : Prop := (limL (fun _ => True) x.Reads) ∧ (limL (Write.lim) x.Writes)
theorem Rec.lim_of {x : Rec} (h : x.wf) : x.lim := by
 obtain ⟨w_Kind, w_Txn, w_Time, w_Lead, w_Reads, w_Writes⟩ := h
 exact ⟨⟨w_Reads.1, fun _ _ => trivial⟩, ⟨w_Writes.1, fun y hy => Write.lim_of (w_Writes.2 y hy)⟩⟩
open Go.Proofs.Wb renaming Rec.sz → z0_, Write.sz → z1_ in
theorem Rec.lim_sz {x : Rec} (h : x.sz ≤ 2 ^ 62) : x.lim := Q1_
def WorldLook.lim (x : WorldLook) : Prop := (limL (fun _ => True) x.Keys) ∧ (limL (Got.lim) x.Got)
theorem WorldLook.lim_of {x : WorldLook} (h : x.wf) : x.lim := by
 obtain ⟨w_Node, w_Keys, w_Got, w_Time, w_Begin, w_End⟩ := h
 exact ⟨⟨w_Keys.1, fun _ _ => trivial⟩, ⟨w_Got.1, fun y hy => Got.lim_of (w_Got.2 y hy)⟩⟩
open Go.Proofs.Wb renaming WorldLook.sz → z0_, Got.sz → z1_ in
theorem WorldLook.lim_sz {x : WorldLook} (h : x.sz ≤ 2 ^ 62) : x.lim := Q1_
def WorldTxn.lim (x : WorldTxn) : Prop := (limL (Op.lim) x.Ops) ∧ (limL (Got.lim) x.Got) ∧ (limL (fun _ => True) x.Terms)
theorem WorldTxn.lim_of {x : WorldTxn} (h : x.wf) : x.lim := by
 obtain ⟨w_Ops, w_Got, w_Terms, w_Begin, w_End, w_Time⟩ := h
 exact ⟨⟨w_Ops.1, fun y hy => Op.lim_of (w_Ops.2 y hy)⟩, ⟨w_Got.1, fun y hy => Got.lim_of (w_Got.2 y hy)⟩, ⟨w_Terms.1, fun _ _ => trivial⟩⟩
theorem WorldTxn.lim_sz {x : WorldTxn} (h : x.sz ≤ 2 ^ 62) : x.lim := by
 unfold WorldTxn.sz at h
 exact ⟨⟨Nat.le_trans (szL_len (f := Op.sz)) (Nat.le_trans (by omega) mx62), fun y hy => trivial⟩, ⟨Nat.le_trans (szL_len (f := Got.sz)) (Nat.le_trans (by omega) mx62), fun y hy => trivial⟩, ⟨Nat.le_trans (by omega) mx62, fun y hy => trivial⟩⟩
def Entry.lim (x : Entry) : Prop := (x.Rec.lim)
theorem Entry.lim_of {x : Entry} (h : x.wf) : x.lim := by
 obtain ⟨w_Term, w_Rec⟩ := h
 exact Rec.lim_of w_Rec
theorem Entry.lim_sz {x : Entry} (h : x.sz ≤ 2 ^ 62) : x.lim := by
 unfold Entry.sz at h
 exact Rec.lim_sz (by omega)
def Replica.lim (x : Replica) : Prop := (limL (Entry.lim) x.Log)
theorem Replica.lim_of {x : Replica} (h : x.wf) : x.lim := by
 obtain ⟨w_Log, w_Sure⟩ := h
 exact ⟨w_Log.1, fun y hy => Entry.lim_of (w_Log.2 y hy)⟩
theorem Replica.lim_sz {x : Replica} (h : x.sz ≤ 2 ^ 62) : x.lim := by
 unfold Replica.sz at h
 exact ⟨Nat.le_trans (szL_len (f := Entry.sz)) (Nat.le_trans (by omega) mx62), fun y hy => Entry.lim_sz (Nat.le_trans (szL_mem (f := Entry.sz) hy) (by omega))⟩
def Group.lim (x : Group) : Prop := (limL (Replica.lim) x.Reps)
theorem Group.lim_of {x : Group} (h : x.wf) : x.lim := by
 obtain ⟨w_Reps, w_Term, w_Lead⟩ := h
 exact ⟨w_Reps.1, fun y hy => Replica.lim_of (w_Reps.2 y hy)⟩
theorem Group.lim_sz {x : Group} (h : x.sz ≤ 2 ^ 62) : x.lim := by
 unfold Group.sz at h
 exact ⟨Nat.le_trans (szL_len (f := Replica.sz)) (Nat.le_trans (by omega) mx62), fun y hy => Replica.lim_sz (Nat.le_trans (szL_mem (f := Replica.sz) hy) (by omega))⟩
def World.lim (x : World) : Prop := (limL (Clock.lim) x.Clocks) ∧ (limL (fun _ => True) x.Cuts) ∧ (limL (Group.lim) x.Groups) ∧ (limL (limL (Lock.lim)) x.Locks) ∧ (limL (fun _ => True) x.Promised) ∧ (limL (WorldTxn.lim) x.Txns) ∧ (limL (WorldLook.lim) x.Looks)
theorem World.lim_of {x : World} (h : x.wf) : x.lim := by
 obtain ⟨w_Now, w_Count, w_Clocks, w_Cuts, w_Groups, w_Locks, w_Promised, w_Txns, w_Looks⟩ := h
 exact ⟨⟨w_Clocks.1, fun y hy => Clock.lim_of (w_Clocks.2 y hy)⟩, ⟨w_Cuts.1, fun _ _ => trivial⟩, ⟨w_Groups.1, fun y hy => Group.lim_of (w_Groups.2 y hy)⟩, ⟨w_Locks.1, fun y3 hy3 => ⟨(w_Locks.2 y3 hy3).1, fun y hy => Lock.lim_of ((w_Locks.2 y3 hy3).2 y hy)⟩⟩, ⟨w_Promised.1, fun _ _ => trivial⟩, ⟨w_Txns.1, fun y hy => WorldTxn.lim_of (w_Txns.2 y hy)⟩, ⟨w_Looks.1, fun y hy => WorldLook.lim_of (w_Looks.2 y hy)⟩⟩
theorem World.lim_sz {x : World} (h : x.sz ≤ 2 ^ 62) : x.lim := by
 unfold World.sz at h
 exact ⟨⟨Nat.le_trans (by omega) mx62, fun y hy => trivial⟩, ⟨Nat.le_trans (szL_len (f := ByteArray.size)) (Nat.le_trans (by omega) mx62), fun y hy => trivial⟩, ⟨Nat.le_trans (szL_len (f := Group.sz)) (Nat.le_trans (by omega) mx62), fun y hy => Group.lim_sz (Nat.le_trans (szL_mem (f := Group.sz) hy) (by omega))⟩, ⟨Nat.le_trans (szL_len (f := szL (Lock.sz))) (Nat.le_trans (by omega) mx62), fun y hy => ⟨Nat.le_trans (szL_len (f := Lock.sz)) (Nat.le_trans (Nat.le_trans (szL_mem (f := szL (Lock.sz)) hy) (by omega)) mx62), fun y hy => trivial⟩⟩, ⟨Nat.le_trans (by omega) mx62, fun y hy => trivial⟩, ⟨Nat.le_trans (szL_len (f := WorldTxn.sz)) (Nat.le_trans (by omega) mx62), fun y hy => WorldTxn.lim_sz (Nat.le_trans (szL_mem (f := WorldTxn.sz) hy) (by omega))⟩, ⟨Nat.le_trans (szL_len (f := WorldLook.sz)) (Nat.le_trans (by omega) mx62), fun y hy => WorldLook.lim_sz (Nat.le_trans (szL_mem (f := WorldLook.sz) hy) (by omega))⟩⟩
def Ver.lim (x : Ver) : Prop := True
theorem Ver.lim_of {x : Ver} (h : x.wf) : x.lim := by
 exact trivial
def Cell.lim (x : Cell) : Prop := (limL (Ver.lim) x.Vers)
theorem Cell.lim_of {x : Cell} (h : x.wf) : x.lim := by
 obtain ⟨w_Key, w_Vers⟩ := h
 exact ⟨w_Vers.1, fun y hy => Ver.lim_of (w_Vers.2 y hy)⟩
theorem Cell.lim_sz {x : Cell} (h : x.sz ≤ 2 ^ 62) : x.lim := by
 unfold Cell.sz at h
 exact ⟨Nat.le_trans (szL_len (f := Ver.sz)) (Nat.le_trans (by omega) mx62), fun y hy => trivial⟩
def Held.lim (x : Held) : Prop := (limL (fun _ => True) x.Reads) ∧ (limL (Write.lim) x.Writes)
theorem Held.lim_of {x : Held} (h : x.wf) : x.lim := by
 obtain ⟨w_Txn, w_Time, w_Lead, w_Reads, w_Writes⟩ := h
 exact ⟨⟨w_Reads.1, fun _ _ => trivial⟩, ⟨w_Writes.1, fun y hy => Write.lim_of (w_Writes.2 y hy)⟩⟩
open Go.Proofs.Wb renaming Held.sz → z0_, Write.sz → z1_ in
theorem Held.lim_sz {x : Held} (h : x.sz ≤ 2 ^ 62) : x.lim := Q1_
def Told.lim (x : Told) : Prop := True
theorem Told.lim_of {x : Told} (h : x.wf) : x.lim := by
 exact trivial
def State.lim (x : State) : Prop := (limL (Cell.lim) x.Cells) ∧ (limL (Held.lim) x.Held) ∧ (limL (Told.lim) x.Told)
theorem State.lim_of {x : State} (h : x.wf) : x.lim := by
 obtain ⟨w_Floor, w_Cells, w_Held, w_Told⟩ := h
 exact ⟨⟨w_Cells.1, fun y hy => Cell.lim_of (w_Cells.2 y hy)⟩, ⟨w_Held.1, fun y hy => Held.lim_of (w_Held.2 y hy)⟩, ⟨w_Told.1, fun y hy => Told.lim_of (w_Told.2 y hy)⟩⟩
theorem State.lim_sz {x : State} (h : x.sz ≤ 2 ^ 62) : x.lim := by
 unfold State.sz at h
 exact ⟨⟨Nat.le_trans (szL_len (f := Cell.sz)) (Nat.le_trans (by omega) mx62), fun y hy => Cell.lim_sz (Nat.le_trans (szL_mem (f := Cell.sz) hy) (by omega))⟩, ⟨Nat.le_trans (szL_len (f := Held.sz)) (Nat.le_trans (by omega) mx62), fun y hy => Held.lim_sz (Nat.le_trans (szL_mem (f := Held.sz) hy) (by omega))⟩, ⟨Nat.le_trans (by omega) mx62, fun y hy => trivial⟩⟩
theorem szOp_ok (x : Op) (left : Int) (h0 : 0 ≤ left) (h1 : left ≤ 2 ^ 20) (hw : x.wf) : ACall p_ 63 [.agg (Op.row false x), i64 left]
  (fun r _ => ∃ n : Int, r = i64 n ∧ n ≤ left ∧ (0 ≤ n → n + (x.sz : Nat) = left)) := by
 obtain ⟨w_Kind, w_Key, w_Val, w_By⟩ := hw
 have hm := mx_eq
 refine fg H63 fun E hE hH => ?_; simp only [go_sem, hE, hH, C63]
 try refine st ?_; try exact ⟨⟩
 first | refine gd_t (fun h => ?_) (fun h => ?_) | refine gd_f (fun h => ?_) (fun h => ?_)
 ·have hb := h
  simp only [nf] at h
  try refine sb ?_; try exact ⟨⟩
  exact ⟨_, rfl, by omega, by omega⟩
 have hb := h
 simp only [nf] at h
 try refine sb ?_; try exact ⟨⟩
 have p0 : 0 ≤ left - (x.Key.size : Int) := by omega
 clear h hb
 try refine st ?_; try exact ⟨⟩
 first | refine gd_t (fun h => ?_) (fun h => ?_) | refine gd_f (fun h => ?_) (fun h => ?_)
 ·have hb := h
  simp only [nf] at h
  try refine sb ?_; try exact ⟨⟩
  exact ⟨_, rfl, by omega, by omega⟩
 have hb := h
 simp only [nf] at h
 try refine sb ?_; try exact ⟨⟩
 have p1 : 0 ≤ (left - (x.Key.size : Int)) - (x.Val.size : Int) := by omega
 clear h hb
 exact ⟨_, rfl, by omega, fun _ => by unfold Op.sz; omega⟩
theorem szStringS_ok (l : List ByteArray) (left : Int) (h0 : 0 ≤ left) (h1 : left ≤ 2 ^ 20) (hw : wfL (fun s => s.size ≤ maxLen) l) : ACall p_ 4 [.sl false 1 (strs l), i64 left]
  (fun r _ => ∃ n : Int, r = i64 n ∧ n ≤ left ∧ (0 ≤ n → n + (szL (ByteArray.size) l : Nat) = left)) := by
 obtain ⟨hl, hx⟩ := hw
 have hm := mx_eq
 refine fg H4 fun E hE hH => ?_; simp only [go_sem, hE, hH, C4]
 try refine st ?_; try exact ⟨⟩
 repeat' (first | ((with_reducible apply ga) <;> refine gs fun h => ?_) | ((with_reducible apply an); · omega) | refine jn _ ?_ ?_ | (with_reducible first | apply both | apply an | exact ti) | exact fe | refine st ?_ | exact fm | refine s1 ?_)
 ·exact ⟨_, rfl, by omega, by omega⟩
 refine loopN l.length (fun j (n : Int) => ⟨[(0, .sl false 1 (strs l)), (1, i64 n), (5, i64 j)], []⟩) (fun j n => 0 ≤ n ∧ n ≤ left ∧ n + l.length + psum (ByteArray.size) l j = left) (left - (l.length : Int)) (by rw [psum_zero]; omega) ?_
 intro j n hj hI
 obtain ⟨i1, i0, i2⟩ := hI
 try simp only [go_sem, hE, hH, C4_l1]
 first | refine gd_t (fun h => ?_) (fun h => ?_) | refine gd_f (fun h => ?_) (fun h => ?_)
 ·have hb := h
  simp only [nf] at h
  have hlt := h; clear h
  have hs := hx _ (nth_mem hlt)
  try refine sb ?_; try exact ⟨⟩
  repeat refine And.intro (by omega) ?_
  repeat' (first | ((with_reducible apply ga) <;> refine gs fun h => ?_) | ((with_reducible apply an); · omega) | refine jn _ ?_ ?_ | (with_reducible first | apply both | apply an | exact ti) | exact fe | refine st ?_ | exact fm | refine s1 ?_)
  ·exact ⟨_, rfl, by omega, by omega⟩
  ·exact ⟨_, rfl, by omega, by omega, by rw [psum_succ hlt]; omega⟩
 ·have hb := h
  simp only [nf] at h
  try refine sb ?_; try exact ⟨⟩
  exact ⟨_, rfl, by omega, fun _ => by rw [psum_all (by omega)] at i2; rw [show szL (ByteArray.size) l = l.length + (l.map (ByteArray.size)).sum from rfl]; omega⟩
theorem szOpS_ok (l : List Op) (left : Int) (h0 : 0 ≤ left) (h1 : left ≤ 2 ^ 20) (hw : wfL (Op.wf) l) : ACall p_ 21 [.sl false 4 (l.map (Op.row false)), i64 left]
  (fun r _ => ∃ n : Int, r = i64 n ∧ n ≤ left ∧ (0 ≤ n → n + (szL (Op.sz) l : Nat) = left)) := by
 obtain ⟨hl, hx⟩ := hw
 have hm := mx_eq
 refine fg H21 fun E hE hH => ?_; simp only [go_sem, hE, hH, C21]
 try refine st ?_; try exact ⟨⟩
 repeat' (first | ((with_reducible apply ga) <;> refine gs fun h => ?_) | ((with_reducible apply an); · omega) | refine jn _ ?_ ?_ | (with_reducible first | apply both | apply an | exact ti) | exact fe | refine st ?_ | exact fm | refine s1 ?_)
 ·exact ⟨_, rfl, by omega, by omega⟩
 refine loopN l.length (fun j (n : Int) => ⟨[(0, .sl false 4 (l.map (Op.row false))), (1, i64 n), (5, i64 j)], []⟩) (fun j n => 0 ≤ n ∧ n ≤ left ∧ n + l.length + psum (Op.sz) l j = left) (left - (l.length : Int)) (by rw [psum_zero]; omega) ?_
 intro j n hj hI
 obtain ⟨i1, i0, i2⟩ := hI
 try simp only [go_sem, hE, hH, C21_l1]
 first | refine gd_t (fun h => ?_) (fun h => ?_) | refine gd_f (fun h => ?_) (fun h => ?_)
 ·have hb := h
  simp only [nf] at h
  have hlt := h; clear h
  have hs := hx _ (nth_mem hlt)
  try refine sb ?_; try exact ⟨⟩
  repeat refine And.intro (by omega) ?_
  refine ok_view ?_; simp (disch := omega) only [go_sem, hE, hH]; refine cvA (szOp_ok (nth l j) n i1 (by omega) hs) ?_
  try simp only [go_sem, hE, hH]
  refine aftV_intro ?_
  rintro r k ⟨q, rfl, q1, q2⟩
  try refine st ?_; try exact ⟨⟩
  repeat' (first | ((with_reducible apply ga) <;> refine gs fun h => ?_) | ((with_reducible apply an); · omega) | refine jn _ ?_ ?_ | (with_reducible first | apply both | apply an | exact ti) | exact fe | refine st ?_ | exact fm | refine s1 ?_)
  ·exact ⟨_, rfl, by omega, by omega⟩
  ·exact ⟨_, rfl, by omega, by omega, by have q2 := q2 (by omega); rw [psum_succ hlt]; omega⟩
 ·have hb := h
  simp only [nf] at h
  try refine sb ?_; try exact ⟨⟩
  exact ⟨_, rfl, by omega, fun _ => by rw [psum_all (by omega)] at i2; rw [show szL (Op.sz) l = l.length + (l.map (Op.sz)).sum from rfl]; omega⟩
theorem szStringSS_ok (l : List (List ByteArray)) (left : Int) (h0 : 0 ≤ left) (h1 : left ≤ 2 ^ 20) (hw : wfL (wfL (fun s => s.size ≤ maxLen)) l) : ACall p_ 6 [.sl false 1 (l.map fun y => [.sl false 1 (strs y)]), i64 left]
  (fun r _ => ∃ n : Int, r = i64 n ∧ n ≤ left ∧ (0 ≤ n → n + (szL (szL (ByteArray.size)) l : Nat) = left)) := by
 obtain ⟨hl, hx⟩ := hw
 have hm := mx_eq
 refine fg H6 fun E hE hH => ?_; simp only [go_sem, hE, hH, T1_x]
 try refine st ?_; try exact ⟨⟩
 repeat' (first | ((with_reducible apply ga) <;> refine gs fun h => ?_) | ((with_reducible apply an); · omega) | refine jn _ ?_ ?_ | (with_reducible first | apply both | apply an | exact ti) | exact fe | refine st ?_ | exact fm | refine s1 ?_)
 ·exact ⟨_, rfl, by omega, by omega⟩
 refine loopN l.length (fun j (n : Int) => ⟨[(0, .sl false 1 (l.map fun y => [.sl false 1 (strs y)])), (1, i64 n), (5, i64 j)], []⟩) (fun j n => 0 ≤ n ∧ n ≤ left ∧ n + l.length + psum (szL (ByteArray.size)) l j = left) (left - (l.length : Int)) (by rw [psum_zero]; omega) ?_
 intro j n hj hI
 obtain ⟨i1, i0, i2⟩ := hI
 try simp only [go_sem, hE, hH, T1_x_l1]
 first | refine gd_t (fun h => ?_) (fun h => ?_) | refine gd_f (fun h => ?_) (fun h => ?_)
 ·have hb := h
  simp only [nf] at h
  have hlt := h; clear h
  have hs := hx _ (nth_mem hlt)
  try refine sb ?_; try exact ⟨⟩
  repeat refine And.intro (by omega) ?_
  refine ok_view ?_; simp (disch := omega) only [go_sem, hE, hH]; refine cvA (szStringS_ok (nth l j) n i1 (by omega) hs) ?_
  try simp only [go_sem, hE, hH]
  refine aftV_intro ?_
  rintro r k ⟨q, rfl, q1, q2⟩
  try refine st ?_; try exact ⟨⟩
  repeat' (first | ((with_reducible apply ga) <;> refine gs fun h => ?_) | ((with_reducible apply an); · omega) | refine jn _ ?_ ?_ | (with_reducible first | apply both | apply an | exact ti) | exact fe | refine st ?_ | exact fm | refine s1 ?_)
  ·exact ⟨_, rfl, by omega, by omega⟩
  ·exact ⟨_, rfl, by omega, by omega, by have q2 := q2 (by omega); rw [psum_succ hlt]; omega⟩
 ·have hb := h
  simp only [nf] at h
  try refine sb ?_; try exact ⟨⟩
  exact ⟨_, rfl, by omega, fun _ => by rw [psum_all (by omega)] at i2; rw [show szL (szL (ByteArray.size)) l = l.length + (l.map (szL (ByteArray.size))).sum from rfl]; omega⟩
theorem szOpSS_ok (l : List (List Op)) (left : Int) (h0 : 0 ≤ left) (h1 : left ≤ 2 ^ 20) (hw : wfL (wfL (Op.wf)) l) : ACall p_ 5 [.sl false 1 (l.map fun y => [.sl false 4 (y.map (Op.row false))]), i64 left]
  (fun r _ => ∃ n : Int, r = i64 n ∧ n ≤ left ∧ (0 ≤ n → n + (szL (szL (Op.sz)) l : Nat) = left)) := by
 obtain ⟨hl, hx⟩ := hw
 have hm := mx_eq
 refine fg H5 fun E hE hH => ?_; simp only [go_sem, hE, hH, T1_x]
 try refine st ?_; try exact ⟨⟩
 repeat' (first | ((with_reducible apply ga) <;> refine gs fun h => ?_) | ((with_reducible apply an); · omega) | refine jn _ ?_ ?_ | (with_reducible first | apply both | apply an | exact ti) | exact fe | refine st ?_ | exact fm | refine s1 ?_)
 ·exact ⟨_, rfl, by omega, by omega⟩
 refine loopN l.length (fun j (n : Int) => ⟨[(0, .sl false 1 (l.map fun y => [.sl false 4 (y.map (Op.row false))])), (1, i64 n), (5, i64 j)], []⟩) (fun j n => 0 ≤ n ∧ n ≤ left ∧ n + l.length + psum (szL (Op.sz)) l j = left) (left - (l.length : Int)) (by rw [psum_zero]; omega) ?_
 intro j n hj hI
 obtain ⟨i1, i0, i2⟩ := hI
 try simp only [go_sem, hE, hH, T1_x_l1]
 first | refine gd_t (fun h => ?_) (fun h => ?_) | refine gd_f (fun h => ?_) (fun h => ?_)
 ·have hb := h
  simp only [nf] at h
  have hlt := h; clear h
  have hs := hx _ (nth_mem hlt)
  try refine sb ?_; try exact ⟨⟩
  repeat refine And.intro (by omega) ?_
  refine ok_view ?_; simp (disch := omega) only [go_sem, hE, hH]; refine cvA (szOpS_ok (nth l j) n i1 (by omega) hs) ?_
  try simp only [go_sem, hE, hH]
  refine aftV_intro ?_
  rintro r k ⟨q, rfl, q1, q2⟩
  try refine st ?_; try exact ⟨⟩
  repeat' (first | ((with_reducible apply ga) <;> refine gs fun h => ?_) | ((with_reducible apply an); · omega) | refine jn _ ?_ ?_ | (with_reducible first | apply both | apply an | exact ti) | exact fe | refine st ?_ | exact fm | refine s1 ?_)
  ·exact ⟨_, rfl, by omega, by omega⟩
  ·exact ⟨_, rfl, by omega, by omega, by have q2 := q2 (by omega); rw [psum_succ hlt]; omega⟩
 ·have hb := h
  simp only [nf] at h
  try refine sb ?_; try exact ⟨⟩
  exact ⟨_, rfl, by omega, fun _ => by rw [psum_all (by omega)] at i2; rw [show szL (szL (Op.sz)) l = l.length + (l.map (szL (Op.sz))).sum from rfl]; omega⟩
theorem toOp_ok (x : Op) (hs : x.sz ≤ 2 ^ 20) : ACall p_ 74 [.agg (Op.row false x)] (fun r _ => r = .agg (Op.row true x)) := by
 unfold Op.sz at hs
 refine fg H74 fun E hE hH => ?_; simp only [go_sem, hE, hH, C74]
 repeat' (first | ((with_reducible apply ga) <;> refine gs fun h => ?_) | ((with_reducible apply an); · omega) | refine jn _ ?_ ?_ | (with_reducible first | apply both | apply an | exact ti) | exact fe | refine st ?_ | exact fm | refine s1 ?_)
theorem toStringS_ok (l : List ByteArray) (hl : szL (ByteArray.size) l ≤ 2 ^ 20) : ACall p_ 8 [.sl false 1 (strs l)] (fun r _ => r = .sl true 1 (strs l)) := by
 have hl0 : l.length ≤ 2 ^ 20 := Nat.le_trans szL_len hl
 refine fg H8 fun E hE hH => ?_; simp only [go_sem, hE, hH, C8]
 refine And.intro (by omega) ?_
 rw [cpy_zero (fun x => [str x])]
 refine loopN l.length (fun j (_ : Unit) => ⟨[(0, .sl false 1 (strs l)), (3, .ref 4000000 0 l.length), (4, i64 j)], [(4000000, ⟨1, cpy (fun x => [str x]) [str ⟨⟨[]⟩⟩] l j⟩)]⟩) (fun _ _ => True) () trivial ?_
 intro j _ hj _
 try simp only [go_sem, hE, hH, C8_l1]
 first | refine gd_t (fun h => ?_) (fun h => ?_) | refine gd_f (fun h => ?_) (fun h => ?_)
 ·have hb := h
  simp only [nf] at h
  have hlt := h; clear h
  try simp (disch := omega) only [go_sem, hE, hH, hb, cpy_at, cpy_len]
  repeat' (first | ((with_reducible apply ga) <;> refine gs fun h => ?_) | ((with_reducible apply an); · omega) | refine jn _ ?_ ?_ | (with_reducible first | apply both | apply an | exact ti) | exact fe | refine st ?_ | exact fm | refine s1 ?_)
  try simp (disch := omega) only [go_sem, hE, hH, cpy_at, cpy_len]
  repeat refine And.intro (by omega) ?_
  try simp (disch := omega) only [go_sem, hE, hH, cpy_at, cpy_len]
  repeat refine And.intro (by omega) ?_
  first | refine ⟨(), ?_, trivial⟩ | refine ⟨(), ?_⟩ | skip
  have hc := cpy_step (f := fun x => [str x]) (z := [str ⟨⟨[]⟩⟩]) hlt
  rw [hc]
  rfl
 ·have hb := h
  simp only [nf] at h
  try simp (disch := omega) only [go_sem, hE, hH, hb, cpy_end]
theorem toOpS_ok (l : List Op) (hl : szL (Op.sz) l ≤ 2 ^ 20) : ACall p_ 29 [.sl false 4 (l.map (Op.row false))] (fun r _ => r = .sl true 4 (l.map (Op.row true))) := by
 have hl0 : l.length ≤ 2 ^ 20 := Nat.le_trans szL_len hl
 refine fg H29 fun E hE hH => ?_; simp only [go_sem, hE, hH, C29]
 refine And.intro (by omega) ?_
 rw [cpy_zero (Op.row true)]
 refine loopN l.length (fun j (_ : Unit) => ⟨[(0, .sl false 4 (l.map (Op.row false))), (3, .ref 4000000 0 l.length), (4, i64 j)], [(4000000, ⟨4, cpy (Op.row true) [i64 0, str ⟨⟨[]⟩⟩, str ⟨⟨[]⟩⟩, i64 0] l j⟩)]⟩) (fun _ _ => True) () trivial ?_
 intro j _ hj _
 try simp only [go_sem, hE, hH, C29_l1]
 first | refine gd_t (fun h => ?_) (fun h => ?_) | refine gd_f (fun h => ?_) (fun h => ?_)
 ·have hb := h
  simp only [nf] at h
  have hlt := h; clear h
  have hs := Nat.le_trans (szL_mem (f := Op.sz) (nth_mem hlt)) hl
  try simp (disch := omega) only [go_sem, hE, hH, hb, cpy_at, cpy_len]
  repeat' (first | ((with_reducible apply ga) <;> refine gs fun h => ?_) | ((with_reducible apply an); · omega) | ((first | refine ok_view ?_ | refine cvA (toOp_ok _ (by assumption)) ?_); refine st ?_) | refine jn _ ?_ ?_ | (with_reducible first | apply both | apply an | exact ti) | exact fe | refine st ?_ | exact fm | refine s1 ?_)
  try simp (disch := omega) only [go_sem, hE, hH, cpy_at, cpy_len]
  repeat refine And.intro (by omega) ?_
  try simp (disch := omega) only [go_sem, hE, hH, cpy_at, cpy_len]
  repeat refine And.intro (by omega) ?_
  first | refine ⟨(), ?_, trivial⟩ | refine ⟨(), ?_⟩ | skip
  have hc := cpy_step (f := Op.row true) (z := [i64 0, str ⟨⟨[]⟩⟩, str ⟨⟨[]⟩⟩, i64 0]) hlt
  simp only [Op.row_eq] at hc ⊢
  rw [hc]
  rfl
 ·have hb := h
  simp only [nf] at h
  try simp (disch := omega) only [go_sem, hE, hH, hb, cpy_end]
theorem toStringSS_ok (l : List (List ByteArray)) (hl : szL (szL (ByteArray.size)) l ≤ 2 ^ 20) : ACall p_ 10 [.sl false 1 (l.map fun y => [.sl false 1 (strs y)])] (fun r _ => r = .sl true 1 (l.map fun y => [.sl true 1 (strs y)])) := by
 have hl0 : l.length ≤ 2 ^ 20 := Nat.le_trans szL_len hl
 refine fg H10 fun E hE hH => ?_; simp only [go_sem, hE, hH, T2_x]
 refine And.intro (by omega) ?_
 rw [cpy_zero (fun y => [.sl true 1 (strs y)])]
 refine loopN l.length (fun j (_ : Unit) => ⟨[(0, .sl false 1 (l.map fun y => [.sl false 1 (strs y)])), (3, .ref 4000000 0 l.length), (4, i64 j)], [(4000000, ⟨1, cpy (fun y => [.sl true 1 (strs y)]) [nils] l j⟩)]⟩) (fun _ _ => True) () trivial ?_
 intro j _ hj _
 try simp only [go_sem, hE, hH, T2_x_l1]
 first | refine gd_t (fun h => ?_) (fun h => ?_) | refine gd_f (fun h => ?_) (fun h => ?_)
 ·have hb := h
  simp only [nf] at h
  have hlt := h; clear h
  have hs := Nat.le_trans (szL_mem (f := szL (ByteArray.size)) (nth_mem hlt)) hl
  try simp (disch := omega) only [go_sem, hE, hH, hb, cpy_at, cpy_len]
  repeat' (first | ((with_reducible apply ga) <;> refine gs fun h => ?_) | ((with_reducible apply an); · omega) | ((first | refine ok_view ?_ | refine cvA (toStringS_ok _ (by assumption)) ?_); refine st ?_) | refine jn _ ?_ ?_ | (with_reducible first | apply both | apply an | exact ti) | exact fe | refine st ?_ | exact fm | refine s1 ?_)
  try simp (disch := omega) only [go_sem, hE, hH, cpy_at, cpy_len]
  repeat refine And.intro (by omega) ?_
  try simp (disch := omega) only [go_sem, hE, hH, cpy_at, cpy_len]
  repeat refine And.intro (by omega) ?_
  first | refine ⟨(), ?_, trivial⟩ | refine ⟨(), ?_⟩ | skip
  have hc := cpy_step (f := fun y => [.sl true 1 (strs y)]) (z := [nils]) hlt
  rw [hc]
  rfl
 ·have hb := h
  simp only [nf] at h
  try simp (disch := omega) only [go_sem, hE, hH, hb, cpy_end]
theorem toOpSS_ok (l : List (List Op)) (hl : szL (szL (Op.sz)) l ≤ 2 ^ 20) : ACall p_ 9 [.sl false 1 (l.map fun y => [.sl false 4 (y.map (Op.row false))])] (fun r _ => r = .sl true 1 (l.map fun y => [.sl true 4 (y.map (Op.row true))])) := by
 have hl0 : l.length ≤ 2 ^ 20 := Nat.le_trans szL_len hl
 refine fg H9 fun E hE hH => ?_; simp only [go_sem, hE, hH, T2_x]
 refine And.intro (by omega) ?_
 rw [cpy_zero (fun y => [.sl true 4 (y.map (Op.row true))])]
 refine loopN l.length (fun j (_ : Unit) => ⟨[(0, .sl false 1 (l.map fun y => [.sl false 4 (y.map (Op.row false))])), (3, .ref 4000000 0 l.length), (4, i64 j)], [(4000000, ⟨1, cpy (fun y => [.sl true 4 (y.map (Op.row true))]) [nils] l j⟩)]⟩) (fun _ _ => True) () trivial ?_
 intro j _ hj _
 try simp only [go_sem, hE, hH, T2_x_l1]
 first | refine gd_t (fun h => ?_) (fun h => ?_) | refine gd_f (fun h => ?_) (fun h => ?_)
 ·have hb := h
  simp only [nf] at h
  have hlt := h; clear h
  have hs := Nat.le_trans (szL_mem (f := szL (Op.sz)) (nth_mem hlt)) hl
  try simp (disch := omega) only [go_sem, hE, hH, hb, cpy_at, cpy_len]
  repeat' (first | ((with_reducible apply ga) <;> refine gs fun h => ?_) | ((with_reducible apply an); · omega) | ((first | refine ok_view ?_ | refine cvA (toOpS_ok _ (by assumption)) ?_); refine st ?_) | refine jn _ ?_ ?_ | (with_reducible first | apply both | apply an | exact ti) | exact fe | refine st ?_ | exact fm | refine s1 ?_)
  try simp (disch := omega) only [go_sem, hE, hH, cpy_at, cpy_len]
  repeat refine And.intro (by omega) ?_
  try simp (disch := omega) only [go_sem, hE, hH, cpy_at, cpy_len]
  repeat refine And.intro (by omega) ?_
  first | refine ⟨(), ?_, trivial⟩ | refine ⟨(), ?_⟩ | skip
  have hc := cpy_step (f := fun y => [.sl true 4 (y.map (Op.row true))]) (z := [nils]) hlt
  rw [hc]
  rfl
 ·have hb := h
  simp only [nf] at h
  try simp (disch := omega) only [go_sem, hE, hH, hb, cpy_end]
theorem eqClock_ok (x y : Clock) (hl : x.lim) : ACall p_ 87 [.agg (Clock.row false x), .agg (Clock.row false y)] (fun r _ => r = bl (decide (x = y))) := by
 obtain ⟨x_Off⟩ := x
 obtain ⟨y_Off⟩ := y
 refine fg H87 fun E hE hH => ?_; simp only [go_sem, hE, hH, C87]
 repeat' (first | ((with_reducible apply ga) <;> refine gs fun h => ?_) | ((with_reducible apply an); · omega) | refine jn _ ?_ ?_ | (with_reducible first | apply both | apply an | exact ti) | exact fe | refine st ?_ | exact fm | refine s1 ?_)
 all_goals simp_all [Clock.mk.injEq]
theorem eqGot_ok (x y : Got) (hl : x.lim) : ACall p_ 163 [.agg (Got.row false x), .agg (Got.row false y)] (fun r _ => r = bl (decide (x = y))) := by
 obtain ⟨x_Key, x_Val, x_There⟩ := x
 obtain ⟨y_Key, y_Val, y_There⟩ := y
 refine fg H163 fun E hE hH => ?_; simp only [go_sem, hE, hH, T14_x]
 repeat' (first | ((with_reducible apply ga) <;> refine gs fun h => ?_) | ((with_reducible apply an); · omega) | refine jn _ ?_ ?_ | (with_reducible first | apply both | apply an | exact ti) | exact fe | refine st ?_ | exact fm | refine s1 ?_)
 all_goals simp_all [Got.mk.injEq]
open Go.Proofs.Wb renaming H44 → z0_ in
open Go.Am renaming ints → z1_ in
theorem eqIntS_ok (l m : List Int) (hl : limL (fun _ => True) l) : ACall p_ 44 [.sl false 1 (ints l), .sl false 1 (ints m)] (fun r _ => r = bl (decide (l = m))) := Q2_
theorem eqLock_ok (x y : Lock) (hl : x.lim) : ACall p_ 129 [.agg (Lock.row false x), .agg (Lock.row false y)] (fun r _ => r = bl (decide (x = y))) := by
 obtain ⟨x_Key, x_Txn, x_Write⟩ := x
 obtain ⟨y_Key, y_Txn, y_Write⟩ := y
 refine fg H129 fun E hE hH => ?_; simp only [go_sem, hE, hH, T14_x]
 repeat' (first | ((with_reducible apply ga) <;> refine gs fun h => ?_) | ((with_reducible apply an); · omega) | refine jn _ ?_ ?_ | (with_reducible first | apply both | apply an | exact ti) | exact fe | refine st ?_ | exact fm | refine s1 ?_)
 all_goals simp_all [Lock.mk.injEq]
theorem eqOp_ok (x y : Op) (hl : x.lim) : ACall p_ 92 [.agg (Op.row false x), .agg (Op.row false y)] (fun r _ => r = bl (decide (x = y))) := by
 obtain ⟨x_Kind, x_Key, x_Val, x_By⟩ := x
 obtain ⟨y_Kind, y_Key, y_Val, y_By⟩ := y
 refine fg H92 fun E hE hH => ?_; simp only [go_sem, hE, hH, C92]
 repeat' (first | ((with_reducible apply ga) <;> refine gs fun h => ?_) | ((with_reducible apply an); · omega) | refine jn _ ?_ ?_ | (with_reducible first | apply both | apply an | exact ti) | exact fe | refine st ?_ | exact fm | refine s1 ?_)
 all_goals simp_all [Op.mk.injEq]
open Go.Proofs.Wb renaming H13 → z0_ in
open Go.Am renaming strs → z1_ in
theorem eqStringS_ok (l m : List ByteArray) (hl : limL (fun _ => True) l) : ACall p_ 13 [.sl false 1 (strs l), .sl false 1 (strs m)] (fun r _ => r = bl (decide (l = m))) := Q2_
theorem eqWrite_ok (x y : Write) (hl : x.lim) : ACall p_ 294 [.agg (Write.row false x), .agg (Write.row false y)] (fun r _ => r = bl (decide (x = y))) := by
 obtain ⟨x_Key, x_Val, x_Gone⟩ := x
 obtain ⟨y_Key, y_Val, y_Gone⟩ := y
 refine fg H294 fun E hE hH => ?_; simp only [go_sem, hE, hH, T14_x]
 repeat' (first | ((with_reducible apply ga) <;> refine gs fun h => ?_) | ((with_reducible apply an); · omega) | refine jn _ ?_ ?_ | (with_reducible first | apply both | apply an | exact ti) | exact fe | refine st ?_ | exact fm | refine s1 ?_)
 all_goals simp_all [Write.mk.injEq]
open Go.Proofs.Wb renaming H41 → z0_, T8_x → z1_, Clock.row → z3_, T8_x_l1 → z4_, eqClock_ok → z5_ in
open Go.Am renaming k1_ → z2_ in
theorem eqClockS_ok (l m : List Clock) (hl : limL (Clock.lim) l) : ACall p_ 41 [.sl false 1 (l.map (Clock.row false)), .sl false 1 (m.map (Clock.row false))] (fun r _ => r = bl (decide (l = m))) := Q3_
open Go.Proofs.Wb renaming H130 → z0_, T8_x → z1_, Got.row → z3_, T8_x_l1 → z4_, eqGot_ok → z5_ in
open Go.Am renaming k3_ → z2_ in
theorem eqGotS_ok (l m : List Got) (hl : limL (Got.lim) l) : ACall p_ 130 [.sl false 3 (l.map (Got.row false)), .sl false 3 (m.map (Got.row false))] (fun r _ => r = bl (decide (l = m))) := Q3_
open Go.Proofs.Wb renaming H89 → z0_, T8_x → z1_, Lock.row → z3_, T8_x_l1 → z4_, eqLock_ok → z5_ in
open Go.Am renaming k3_ → z2_ in
theorem eqLockS_ok (l m : List Lock) (hl : limL (Lock.lim) l) : ACall p_ 89 [.sl false 3 (l.map (Lock.row false)), .sl false 3 (m.map (Lock.row false))] (fun r _ => r = bl (decide (l = m))) := Q3_
open Go.Proofs.Wb renaming H47 → z0_, T8_x → z1_, Op.row → z3_, T8_x_l1 → z4_, eqOp_ok → z5_ in
open Go.Am renaming k4_ → z2_ in
theorem eqOpS_ok (l m : List Op) (hl : limL (Op.lim) l) : ACall p_ 47 [.sl false 4 (l.map (Op.row false)), .sl false 4 (m.map (Op.row false))] (fun r _ => r = bl (decide (l = m))) := Q3_
theorem eqStringSS_ok (l m : List (List ByteArray)) (hl : limL (limL (fun _ => True)) l) : ACall p_ 15 [.sl false 1 (l.map fun y => [.sl false 1 (strs y)]), .sl false 1 (m.map fun y => [.sl false 1 (strs y)])] (fun r _ => r = bl (decide (l = m))) := by
 obtain ⟨hl, hx⟩ := hl
 have hm := mx_eq
 refine fg H15 fun E hE hH => ?_; simp only [go_sem, hE, hH, T4_x]
 repeat' (first | ((with_reducible apply ga) <;> refine gs fun h => ?_) | ((with_reducible apply an); · omega) | refine jn _ ?_ ?_ | (with_reducible first | apply both | apply an | exact ti) | exact fe | refine st ?_ | exact fm | refine s1 ?_)
 ·rw [decide_eq_false (fun e => h (by rw [e]))]
 have hlen : l.length = m.length := by omega
 clear h
 refine loopN l.length (fun j (_ : Unit) => ⟨[(0, .sl false 1 (l.map fun y => [.sl false 1 (strs y)])), (1, .sl false 1 (m.map fun y => [.sl false 1 (strs y)])), (5, i64 j)], []⟩) (fun j _ => decide (l = m) = decide (l.drop j = m.drop j)) () (by simp) ?_
 intro j _ hj hI
 try simp only [go_sem, hE, hH, T4_x_l1]
 first | refine gd_t (fun h => ?_) (fun h => ?_) | refine gd_f (fun h => ?_) (fun h => ?_)
 ·have hb := h
  simp only [nf] at h
  have hlt := h; clear h
  have hlm : j < m.length := by omega
  rw [drop_eq hlt hlm] at hI
  have hs := hx _ (nth_mem hlt)
  try refine sb ?_; try exact ⟨⟩
  repeat' (first | ((with_reducible apply ga) <;> refine gs fun h => ?_) | ((with_reducible apply an); · omega) | ((first | refine ok_view ?_ | refine cvA (eqStringS_ok _ _ (by assumption)) ?_); refine st ?_) | refine jn _ ?_ ?_ | (with_reducible first | apply both | apply an | exact ti) | exact fe | refine st ?_ | exact fm | refine s1 ?_)
  ·rw [hI]; simp [h]
  ·exact ⟨(), rfl, by rw [hI]; simp [h]⟩
 ·have hb := h
  simp only [nf] at h
  try refine sb ?_; try exact ⟨⟩
  rw [hI, List.drop_of_length_le (by omega), List.drop_of_length_le (by omega)]
  rfl
open Go.Proofs.Wb renaming H282 → z0_, T8_x → z1_, Write.row → z3_, T8_x_l1 → z4_, eqWrite_ok → z5_ in
open Go.Am renaming k3_ → z2_ in
theorem eqWriteS_ok (l m : List Write) (hl : limL (Write.lim) l) : ACall p_ 282 [.sl false 3 (l.map (Write.row false)), .sl false 3 (m.map (Write.row false))] (fun r _ => r = bl (decide (l = m))) := Q3_
open Go.Proofs.Wb renaming H43 → z0_, Lock.row → z2_, eqLockS_ok → z3_ in
open Go.Am renaming k3_ → z1_ in
theorem eqLockSS_ok (l m : List (List Lock)) (hl : limL (limL (Lock.lim)) l) : ACall p_ 43 [.sl false 1 (l.map fun y => [.sl false 3 (y.map (Lock.row false))]), .sl false 1 (m.map fun y => [.sl false 3 (y.map (Lock.row false))])] (fun r _ => r = bl (decide (l = m))) := Q4_
open Go.Proofs.Wb renaming H14 → z0_, Op.row → z2_, eqOpS_ok → z3_ in
open Go.Am renaming k4_ → z1_ in
theorem eqOpSS_ok (l m : List (List Op)) (hl : limL (limL (Op.lim)) l) : ACall p_ 14 [.sl false 1 (l.map fun y => [.sl false 4 (y.map (Op.row false))]), .sl false 1 (m.map fun y => [.sl false 4 (y.map (Op.row false))])] (fun r _ => r = bl (decide (l = m))) := Q4_
theorem eqRec_ok (x y : Rec) (hl : x.lim) : ACall p_ 255 [.agg (Rec.row false x), .agg (Rec.row false y)] (fun r _ => r = bl (decide (x = y))) := by
 obtain ⟨l_Reads, l_Writes⟩ := hl
 obtain ⟨x_Kind, x_Txn, x_Time, x_Lead, x_Reads, x_Writes, x_Yes⟩ := x
 obtain ⟨y_Kind, y_Txn, y_Time, y_Lead, y_Reads, y_Writes, y_Yes⟩ := y
 refine fg H255 fun E hE hH => ?_; simp only [go_sem, hE, hH, C255]
 repeat' (first | ((with_reducible apply ga) <;> refine gs fun h => ?_) | ((with_reducible apply an); · omega) | ((first | refine ok_view ?_ | refine cvA (eqStringS_ok _ _ (by assumption)) ?_ | refine cvA (eqWriteS_ok _ _ (by assumption)) ?_); refine st ?_) | refine jn _ ?_ ?_ | (with_reducible first | apply both | apply an | exact ti) | exact fe | refine st ?_ | exact fm | refine s1 ?_)
 all_goals simp_all [Rec.mk.injEq]
theorem eqWorldLook_ok (x y : WorldLook) (hl : x.lim) : ACall p_ 91 [.agg (WorldLook.row false x), .agg (WorldLook.row false y)] (fun r _ => r = bl (decide (x = y))) := by
 obtain ⟨l_Keys, l_Got⟩ := hl
 obtain ⟨x_Node, x_Keys, x_Got, x_Time, x_Begin, x_End⟩ := x
 obtain ⟨y_Node, y_Keys, y_Got, y_Time, y_Begin, y_End⟩ := y
 refine fg H91 fun E hE hH => ?_; simp only [go_sem, hE, hH, C91]
 repeat' (first | ((with_reducible apply ga) <;> refine gs fun h => ?_) | ((with_reducible apply an); · omega) | ((first | refine ok_view ?_ | refine cvA (eqStringS_ok _ _ (by assumption)) ?_ | refine cvA (eqGotS_ok _ _ (by assumption)) ?_); refine st ?_) | refine jn _ ?_ ?_ | (with_reducible first | apply both | apply an | exact ti) | exact fe | refine st ?_ | exact fm | refine s1 ?_)
 all_goals simp_all [WorldLook.mk.injEq]
theorem eqWorldTxn_ok (x y : WorldTxn) (hl : x.lim) : ACall p_ 90 [.agg (WorldTxn.row false x), .agg (WorldTxn.row false y)] (fun r _ => r = bl (decide (x = y))) := by
 obtain ⟨l_Ops, l_Got, l_Terms⟩ := hl
 obtain ⟨x_Ops, x_Got, x_Terms, x_Begin, x_End, x_Yes, x_Time, x_Dead, x_Put, x_Stopped⟩ := x
 obtain ⟨y_Ops, y_Got, y_Terms, y_Begin, y_End, y_Yes, y_Time, y_Dead, y_Put, y_Stopped⟩ := y
 refine fg H90 fun E hE hH => ?_; simp only [go_sem, hE, hH, C90]
 repeat' (first | ((with_reducible apply ga) <;> refine gs fun h => ?_) | ((with_reducible apply an); · omega) | ((first | refine ok_view ?_ | refine cvA (eqOpS_ok _ _ (by assumption)) ?_ | refine cvA (eqGotS_ok _ _ (by assumption)) ?_ | refine cvA (eqIntS_ok _ _ (by assumption)) ?_); refine st ?_) | refine jn _ ?_ ?_ | (with_reducible first | apply both | apply an | exact ti) | exact fe | refine st ?_ | exact fm | refine s1 ?_)
 all_goals simp_all [WorldTxn.mk.injEq]
theorem eqEntry_ok (x y : Entry) (hl : x.lim) : ACall p_ 225 [.agg (Entry.row false x), .agg (Entry.row false y)] (fun r _ => r = bl (decide (x = y))) := by
 have l_Rec := hl; unfold Entry.lim at l_Rec
 obtain ⟨x_Term, x_Rec⟩ := x
 obtain ⟨y_Term, y_Rec⟩ := y
 refine fg H225 fun E hE hH => ?_; simp only [go_sem, hE, hH, C225]
 repeat' (first | ((with_reducible apply ga) <;> refine gs fun h => ?_) | ((with_reducible apply an); · omega) | ((first | refine ok_view ?_ | refine cvA (eqRec_ok _ _ (by assumption)) ?_); refine st ?_) | refine jn _ ?_ ?_ | (with_reducible first | apply both | apply an | exact ti) | exact fe | refine st ?_ | exact fm | refine s1 ?_)
 all_goals simp_all [Entry.mk.injEq]
open Go.Proofs.Wb renaming H46 → z0_, T9_x → z1_, WorldLook.row → z3_, T9_x_l1 → z4_, eqWorldLook_ok → z5_ in
open Go.Am renaming k6_ → z2_ in
theorem eqWorldLookS_ok (l m : List WorldLook) (hl : limL (WorldLook.lim) l) : ACall p_ 46 [.sl false 6 (l.map (WorldLook.row false)), .sl false 6 (m.map (WorldLook.row false))] (fun r _ => r = bl (decide (l = m))) := Q3_
open Go.Proofs.Wb renaming H45 → z0_, T9_x → z1_, WorldTxn.row → z3_, T9_x_l1 → z4_, eqWorldTxn_ok → z5_ in
open Go.Am renaming k10_ → z2_ in
theorem eqWorldTxnS_ok (l m : List WorldTxn) (hl : limL (WorldTxn.lim) l) : ACall p_ 45 [.sl false 10 (l.map (WorldTxn.row false)), .sl false 10 (m.map (WorldTxn.row false))] (fun r _ => r = bl (decide (l = m))) := Q3_
open Go.Proofs.Wb renaming H192 → z0_, T9_x → z1_, Entry.row → z3_, T9_x_l1 → z4_, eqEntry_ok → z5_ in
open Go.Am renaming k8_ → z2_ in
theorem eqEntryS_ok (l m : List Entry) (hl : limL (Entry.lim) l) : ACall p_ 192 [.sl false 8 (l.map (Entry.row false)), .sl false 8 (m.map (Entry.row false))] (fun r _ => r = bl (decide (l = m))) := Q3_
theorem eqReplica_ok (x y : Replica) (hl : x.lim) : ACall p_ 162 [.agg (Replica.row false x), .agg (Replica.row false y)] (fun r _ => r = bl (decide (x = y))) := by
 have l_Log := hl; unfold Replica.lim at l_Log
 obtain ⟨x_Up, x_Log, x_Sure⟩ := x
 obtain ⟨y_Up, y_Log, y_Sure⟩ := y
 refine fg H162 fun E hE hH => ?_; simp only [go_sem, hE, hH, C162]
 repeat' (first | ((with_reducible apply ga) <;> refine gs fun h => ?_) | ((with_reducible apply an); · omega) | ((first | refine ok_view ?_ | refine cvA (eqEntryS_ok _ _ (by assumption)) ?_); refine st ?_) | refine jn _ ?_ ?_ | (with_reducible first | apply both | apply an | exact ti) | exact fe | refine st ?_ | exact fm | refine s1 ?_)
 all_goals simp_all [Replica.mk.injEq]
open Go.Proofs.Wb renaming H128 → z0_, T9_x → z1_, Replica.row → z3_, T9_x_l1 → z4_, eqReplica_ok → z5_ in
open Go.Am renaming k3_ → z2_ in
theorem eqReplicaS_ok (l m : List Replica) (hl : limL (Replica.lim) l) : ACall p_ 128 [.sl false 3 (l.map (Replica.row false)), .sl false 3 (m.map (Replica.row false))] (fun r _ => r = bl (decide (l = m))) := Q3_
theorem eqGroup_ok (x y : Group) (hl : x.lim) : ACall p_ 88 [.agg (Group.row false x), .agg (Group.row false y)] (fun r _ => r = bl (decide (x = y))) := by
 have l_Reps := hl; unfold Group.lim at l_Reps
 obtain ⟨x_Reps, x_Term, x_Lead⟩ := x
 obtain ⟨y_Reps, y_Term, y_Lead⟩ := y
 refine fg H88 fun E hE hH => ?_; simp only [go_sem, hE, hH, C88]
 repeat' (first | ((with_reducible apply ga) <;> refine gs fun h => ?_) | ((with_reducible apply an); · omega) | ((first | refine ok_view ?_ | refine cvA (eqReplicaS_ok _ _ (by assumption)) ?_); refine st ?_) | refine jn _ ?_ ?_ | (with_reducible first | apply both | apply an | exact ti) | exact fe | refine st ?_ | exact fm | refine s1 ?_)
 all_goals simp_all [Group.mk.injEq]
open Go.Proofs.Wb renaming H42 → z0_, T9_x → z1_, Group.row → z3_, T9_x_l1 → z4_, eqGroup_ok → z5_ in
open Go.Am renaming k3_ → z2_ in
theorem eqGroupS_ok (l m : List Group) (hl : limL (Group.lim) l) : ACall p_ 42 [.sl false 3 (l.map (Group.row false)), .sl false 3 (m.map (Group.row false))] (fun r _ => r = bl (decide (l = m))) := Q3_
theorem eqWorld_ok (x y : World) (hl : x.lim) : ACall p_ 12 [.agg (World.row false x), .agg (World.row false y)] (fun r _ => r = bl (decide (x = y))) := by
 obtain ⟨l_Clocks, l_Cuts, l_Groups, l_Locks, l_Promised, l_Txns, l_Looks⟩ := hl
 obtain ⟨x_Now, x_Count, x_Clocks, x_Cuts, x_Groups, x_Locks, x_Promised, x_Txns, x_Looks⟩ := x
 obtain ⟨y_Now, y_Count, y_Clocks, y_Cuts, y_Groups, y_Locks, y_Promised, y_Txns, y_Looks⟩ := y
 refine fg H12 fun E hE hH => ?_; simp only [go_sem, hE, hH, C12]
 repeat' (first | ((with_reducible apply ga) <;> refine gs fun h => ?_) | ((with_reducible apply an); · omega) | ((first | refine ok_view ?_ | refine cvA (eqClockS_ok _ _ (by assumption)) ?_ | refine cvA (eqStringS_ok _ _ (by assumption)) ?_ | refine cvA (eqGroupS_ok _ _ (by assumption)) ?_ | refine cvA (eqLockSS_ok _ _ (by assumption)) ?_ | refine cvA (eqIntS_ok _ _ (by assumption)) ?_ | refine cvA (eqWorldTxnS_ok _ _ (by assumption)) ?_ | refine cvA (eqWorldLookS_ok _ _ (by assumption)) ?_); refine st ?_) | refine jn _ ?_ ?_ | (with_reducible first | apply both | apply an | exact ti) | exact fe | refine st ?_ | exact fm | refine s1 ?_)
 all_goals simp_all [World.mk.injEq]
end Go.Proofs.Wb

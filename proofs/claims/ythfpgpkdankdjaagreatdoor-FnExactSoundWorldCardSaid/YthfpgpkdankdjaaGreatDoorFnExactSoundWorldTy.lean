import Derived.Test.YthfpgpkdankdjaaGreatDoorFnExactSoundWorldCodes
import Derived.Test.YthfpgpkdankdjaaGreatDoorFnExactSoundWorldCodes1
import Derived.Test.YthfpgpkdankdjaaGreatDoorFnExactSoundWorldCodes2
import Derived.Test.YthfpgpkdankdjaaGreatDoorFnExactSoundWorldCodes3
import Derived.Test.YthfpgpkdankdjaaGreatDoorAmRaw
set_option linter.all false
set_option maxHeartbeats 4000000
namespace Go.Proofs.Wb
open Tryz renaming prog→p_
open Go Go.Am
structure Got where
 Key:ByteArray
 Val:ByteArray
 There:Bool
 deriving DecidableEq,Inhabited
def Got.row (o:Bool) (x:Got):List T:=[str x.Key,str x.Val,bl x.There]
@[go_sem] theorem Got.row_eq (o:Bool) (x:Got):Got.row o x=[str x.Key,str x.Val,bl x.There]:=rfl
def Got.wf (x:Got):Prop:=(x.Key.size≤maxLen)∧(x.Val.size≤maxLen)
def Got.sz (x:Got):Nat:=x.Key.size+x.Val.size
structure Lock where
 Key:ByteArray
 Txn:Int
 Write:Bool
 deriving DecidableEq,Inhabited
def Lock.row (o:Bool) (x:Lock):List T:=[str x.Key,i64 x.Txn,bl x.Write]
@[go_sem] theorem Lock.row_eq (o:Bool) (x:Lock):Lock.row o x=[str x.Key,i64 x.Txn,bl x.Write]:=rfl
def Lock.wf (x:Lock):Prop:=(x.Key.size≤maxLen)∧(-9223372036854775808≤x.Txn∧x.Txn≤9223372036854775807)
def Lock.sz (x:Lock):Nat:=x.Key.size
structure Op where
 Kind:Int
 Key:ByteArray
 Val:ByteArray
 By:Int
 deriving DecidableEq,Inhabited
def Op.row (o:Bool) (x:Op):List T:=[i64 x.Kind,str x.Key,str x.Val,i64 x.By]
@[go_sem] theorem Op.row_eq (o:Bool) (x:Op):Op.row o x=[i64 x.Kind,str x.Key,str x.Val,i64 x.By]:=rfl
def Op.wf (x:Op):Prop:=(-9223372036854775808≤x.Kind∧x.Kind≤9223372036854775807)∧(x.Key.size≤maxLen)∧(x.Val.size≤maxLen)∧(-9223372036854775808≤x.By∧x.By≤9223372036854775807)
def Op.sz (x:Op):Nat:=x.Key.size+x.Val.size
structure Write where
 Key:ByteArray
 Val:ByteArray
 Gone:Bool
 deriving DecidableEq,Inhabited
def Write.row (o:Bool) (x:Write):List T:=[str x.Key,str x.Val,bl x.Gone]
@[go_sem] theorem Write.row_eq (o:Bool) (x:Write):Write.row o x=[str x.Key,str x.Val,bl x.Gone]:=rfl
def Write.wf (x:Write):Prop:=(x.Key.size≤maxLen)∧(x.Val.size≤maxLen)
def Write.sz (x:Write):Nat:=x.Key.size+x.Val.size
structure Clock where
 Off:Int
 deriving DecidableEq,Inhabited
def Clock.row (o:Bool) (x:Clock):List T:=[i64 x.Off]
@[go_sem] theorem Clock.row_eq (o:Bool) (x:Clock):Clock.row o x=[i64 x.Off]:=rfl
def Clock.wf (x:Clock):Prop:=(-9223372036854775808≤x.Off∧x.Off≤9223372036854775807)
structure Rec where
 Kind:Int
 Txn:Int
 Time:Int
 Lead:Int
 Reads:List ByteArray
 Writes:List Write
 Yes:Bool
 deriving DecidableEq,Inhabited
def Rec.row (o:Bool) (x:Rec):List T:=[i64 x.Kind,i64 x.Txn,i64 x.Time,i64 x.Lead, .sl o 1 (strs x.Reads), .sl o 3 (x.Writes.map (Write.row o)),bl x.Yes]
attribute [go_sem] Rec.row
def Rec.wf (x:Rec):Prop:=(-9223372036854775808≤x.Kind∧x.Kind≤9223372036854775807)∧(-9223372036854775808≤x.Txn∧x.Txn≤9223372036854775807)∧(-9223372036854775808≤x.Time∧x.Time≤9223372036854775807)∧(-9223372036854775808≤x.Lead∧x.Lead≤9223372036854775807)∧(wfL (fun s=>s.size≤maxLen) x.Reads)∧(wfL (Write.wf) x.Writes)
def Rec.sz (x:Rec):Nat:=szL (ByteArray.size) x.Reads+szL (Write.sz) x.Writes
structure WorldLook where
 Node:Int
 Keys:List ByteArray
 Got:List Got
 Time:Int
 Begin:Int
 End:Int
 deriving DecidableEq,Inhabited
def WorldLook.row (o:Bool) (x:WorldLook):List T:=[i64 x.Node, .sl o 1 (strs x.Keys), .sl o 3 (x.Got.map (Got.row o)),i64 x.Time,i64 x.Begin,i64 x.End]
@[go_sem] theorem WorldLook.row_eq (o:Bool) (x:WorldLook):WorldLook.row o x=[i64 x.Node, .sl o 1 (strs x.Keys), .sl o 3 (x.Got.map (Got.row o)),i64 x.Time,i64 x.Begin,i64 x.End]:=rfl
def WorldLook.wf (x:WorldLook):Prop:=(-9223372036854775808≤x.Node∧x.Node≤9223372036854775807)∧(wfL (fun s=>s.size≤maxLen) x.Keys)∧(wfL (Got.wf) x.Got)∧(-9223372036854775808≤x.Time∧x.Time≤9223372036854775807)∧(-9223372036854775808≤x.Begin∧x.Begin≤9223372036854775807)∧(-9223372036854775808≤x.End∧x.End≤9223372036854775807)
def WorldLook.sz (x:WorldLook):Nat:=szL (ByteArray.size) x.Keys+szL (Got.sz) x.Got
structure WorldTxn where
 Ops:List Op
 Got:List Got
 Terms:List Int
 Begin:Int
 End:Int
 Yes:Bool
 Time:Int
 Dead:Bool
 Put:Bool
 Stopped:Bool
 deriving DecidableEq,Inhabited
def WorldTxn.row (o:Bool) (x:WorldTxn):List T:=[.sl o 4 (x.Ops.map (Op.row o)), .sl o 3 (x.Got.map (Got.row o)), .sl o 1 (ints x.Terms),i64 x.Begin,i64 x.End,bl x.Yes,i64 x.Time,bl x.Dead,bl x.Put,bl x.Stopped]
@[go_sem] theorem WorldTxn.row_eq (o:Bool) (x:WorldTxn):WorldTxn.row o x=[.sl o 4 (x.Ops.map (Op.row o)), .sl o 3 (x.Got.map (Got.row o)), .sl o 1 (ints x.Terms),i64 x.Begin,i64 x.End,bl x.Yes,i64 x.Time,bl x.Dead,bl x.Put,bl x.Stopped]:=rfl
def WorldTxn.wf (x:WorldTxn):Prop:=(wfL (Op.wf) x.Ops)∧(wfL (Got.wf) x.Got)∧(wfL (fun n=> -9223372036854775808≤n∧n≤9223372036854775807) x.Terms)∧(-9223372036854775808≤x.Begin∧x.Begin≤9223372036854775807)∧(-9223372036854775808≤x.End∧x.End≤9223372036854775807)∧(-9223372036854775808≤x.Time∧x.Time≤9223372036854775807)
def WorldTxn.sz (x:WorldTxn):Nat:=szL (Op.sz) x.Ops+szL (Got.sz) x.Got+x.Terms.length
structure Entry where
 Term:Int
 Rec:Rec
 deriving DecidableEq,Inhabited
def Entry.row (o:Bool) (x:Entry):List T:=[i64 x.Term,i64 x.Rec.Kind,i64 x.Rec.Txn,i64 x.Rec.Time,i64 x.Rec.Lead, .sl o 1 (strs x.Rec.Reads), .sl o 3 (x.Rec.Writes.map (Write.row o)),bl x.Rec.Yes]
@[go_sem] theorem Entry.row_eq (o:Bool) (x:Entry):Entry.row o x=[i64 x.Term,i64 x.Rec.Kind,i64 x.Rec.Txn,i64 x.Rec.Time,i64 x.Rec.Lead, .sl o 1 (strs x.Rec.Reads), .sl o 3 (x.Rec.Writes.map (Write.row o)),bl x.Rec.Yes]:=rfl
def Entry.wf (x:Entry):Prop:=(-9223372036854775808≤x.Term∧x.Term≤9223372036854775807)∧(x.Rec.wf)
def Entry.sz (x:Entry):Nat:=x.Rec.sz
structure Replica where
 Up:Bool
 Log:List Entry
 Sure:Int
 deriving DecidableEq,Inhabited
def Replica.row (o:Bool) (x:Replica):List T:=[bl x.Up, .sl o 8 (x.Log.map (Entry.row o)),i64 x.Sure]
@[go_sem] theorem Replica.row_eq (o:Bool) (x:Replica):Replica.row o x=[bl x.Up, .sl o 8 (x.Log.map (Entry.row o)),i64 x.Sure]:=rfl
def Replica.wf (x:Replica):Prop:=(wfL (Entry.wf) x.Log)∧(-9223372036854775808≤x.Sure∧x.Sure≤9223372036854775807)
def Replica.sz (x:Replica):Nat:=szL (Entry.sz) x.Log
structure Group where
 Reps:List Replica
 Term:Int
 Lead:Int
 deriving DecidableEq,Inhabited
def Group.row (o:Bool) (x:Group):List T:=[.sl o 3 (x.Reps.map (Replica.row o)),i64 x.Term,i64 x.Lead]
@[go_sem] theorem Group.row_eq (o:Bool) (x:Group):Group.row o x=[.sl o 3 (x.Reps.map (Replica.row o)),i64 x.Term,i64 x.Lead]:=rfl
def Group.wf (x:Group):Prop:=(wfL (Replica.wf) x.Reps)∧(-9223372036854775808≤x.Term∧x.Term≤9223372036854775807)∧(-9223372036854775808≤x.Lead∧x.Lead≤9223372036854775807)
def Group.sz (x:Group):Nat:=szL (Replica.sz) x.Reps
structure World where
 Now:Int
 Count:Int
 Clocks:List Clock
 Cuts:List ByteArray
 Groups:List Group
 Locks:List (List Lock)
 Promised:List Int
 Txns:List WorldTxn
 Looks:List WorldLook
 deriving DecidableEq,Inhabited
def World.row (o:Bool) (x:World):List T:=[i64 x.Now,i64 x.Count, .sl o 1 (x.Clocks.map (Clock.row o)), .sl o 1 (strs x.Cuts), .sl o 3 (x.Groups.map (Group.row o)), .sl o 1 (x.Locks.map fun y=>[.sl o 3 (y.map (Lock.row o))]), .sl o 1 (ints x.Promised), .sl o 10 (x.Txns.map (WorldTxn.row o)), .sl o 6 (x.Looks.map (WorldLook.row o))]
attribute [go_sem] World.row
def World.wf (x:World):Prop:=(-9223372036854775808≤x.Now∧x.Now≤9223372036854775807)∧(-9223372036854775808≤x.Count∧x.Count≤9223372036854775807)∧(wfL (Clock.wf) x.Clocks)∧(wfL (fun s=>s.size≤maxLen) x.Cuts)∧(wfL (Group.wf) x.Groups)∧(wfL (wfL (Lock.wf)) x.Locks)∧(wfL (fun n=> -9223372036854775808≤n∧n≤9223372036854775807) x.Promised)∧(wfL (WorldTxn.wf) x.Txns)∧(wfL (WorldLook.wf) x.Looks)
def World.sz (x:World):Nat:=x.Clocks.length+szL (ByteArray.size) x.Cuts+szL (Group.sz) x.Groups+szL (szL (Lock.sz)) x.Locks+x.Promised.length+szL (WorldTxn.sz) x.Txns+szL (WorldLook.sz) x.Looks
structure Ver where
 Time:Int
 Val:ByteArray
 Gone:Bool
 deriving DecidableEq,Inhabited
def Ver.row (o:Bool) (x:Ver):List T:=[i64 x.Time,str x.Val,bl x.Gone]
@[go_sem] theorem Ver.row_eq (o:Bool) (x:Ver):Ver.row o x=[i64 x.Time,str x.Val,bl x.Gone]:=rfl
def Ver.wf (x:Ver):Prop:=(-9223372036854775808≤x.Time∧x.Time≤9223372036854775807)∧(x.Val.size≤maxLen)
def Ver.sz (x:Ver):Nat:=x.Val.size
structure Cell where
 Key:ByteArray
 Vers:List Ver
 deriving DecidableEq,Inhabited
def Cell.row (o:Bool) (x:Cell):List T:=[str x.Key, .sl o 3 (x.Vers.map (Ver.row o))]
@[go_sem] theorem Cell.row_eq (o:Bool) (x:Cell):Cell.row o x=[str x.Key, .sl o 3 (x.Vers.map (Ver.row o))]:=rfl
def Cell.wf (x:Cell):Prop:=(x.Key.size≤maxLen)∧(wfL (Ver.wf) x.Vers)
def Cell.sz (x:Cell):Nat:=x.Key.size+szL (Ver.sz) x.Vers
structure Held where
 Txn:Int
 Time:Int
 Lead:Int
 Reads:List ByteArray
 Writes:List Write
 deriving DecidableEq,Inhabited
def Held.row (o:Bool) (x:Held):List T:=[i64 x.Txn,i64 x.Time,i64 x.Lead, .sl o 1 (strs x.Reads), .sl o 3 (x.Writes.map (Write.row o))]
@[go_sem] theorem Held.row_eq (o:Bool) (x:Held):Held.row o x=[i64 x.Txn,i64 x.Time,i64 x.Lead, .sl o 1 (strs x.Reads), .sl o 3 (x.Writes.map (Write.row o))]:=rfl
def Held.wf (x:Held):Prop:=(-9223372036854775808≤x.Txn∧x.Txn≤9223372036854775807)∧(-9223372036854775808≤x.Time∧x.Time≤9223372036854775807)∧(-9223372036854775808≤x.Lead∧x.Lead≤9223372036854775807)∧(wfL (fun s=>s.size≤maxLen) x.Reads)∧(wfL (Write.wf) x.Writes)
def Held.sz (x:Held):Nat:=szL (ByteArray.size) x.Reads+szL (Write.sz) x.Writes
structure Told where
 Txn:Int
 Yes:Bool
 Time:Int
 deriving DecidableEq,Inhabited
def Told.row (o:Bool) (x:Told):List T:=[i64 x.Txn,bl x.Yes,i64 x.Time]
attribute [go_sem] Told.row
def Told.wf (x:Told):Prop:=(-9223372036854775808≤x.Txn∧x.Txn≤9223372036854775807)∧(-9223372036854775808≤x.Time∧x.Time≤9223372036854775807)
structure State where
 Floor:Int
 Cells:List Cell
 Held:List Held
 Told:List Told
 deriving DecidableEq,Inhabited
def State.row (o:Bool) (x:State):List T:=[i64 x.Floor, .sl o 2 (x.Cells.map (Cell.row o)), .sl o 5 (x.Held.map (Held.row o)), .sl o 3 (x.Told.map (Told.row o))]
attribute [go_sem] State.row
def State.wf (x:State):Prop:=(-9223372036854775808≤x.Floor∧x.Floor≤9223372036854775807)∧(wfL (Cell.wf) x.Cells)∧(wfL (Held.wf) x.Held)∧(wfL (Told.wf) x.Told)
def State.sz (x:State):Nat:=szL (Cell.sz) x.Cells+szL (Held.sz) x.Held+x.Told.length
def Got.lim (x:Got):Prop:=True
theorem Got.lim_of {x:Got} (h:x.wf):x.lim:=by
 exact trivial
def Lock.lim (x:Lock):Prop:=True
theorem Lock.lim_of {x:Lock} (h:x.wf):x.lim:=by
 exact trivial
def Op.lim (x:Op):Prop:=True
theorem Op.lim_of {x:Op} (h:x.wf):x.lim:=by
 exact trivial
def Write.lim (x:Write):Prop:=True
theorem Write.lim_of {x:Write} (h:x.wf):x.lim:=by
 exact trivial
def Clock.lim (x:Clock):Prop:=True
theorem Clock.lim_of {x:Clock} (h:x.wf):x.lim:=by
 exact trivial
def Rec.lim (x:Rec):Prop:=(zA2 (fun _=>True) x.Reads)∧(zA2 (Write.lim) x.Writes)
theorem Rec.lim_of {x:Rec} (h:x.wf):x.lim:=by
 obtain ⟨w_Kind,w_Txn,w_Time,w_Lead,w_Reads,w_Writes⟩:=h
 exact ⟨⟨w_Reads.1,fun _ _=>trivial⟩,⟨w_Writes.1,fun y hy=>Write.lim_of (w_Writes.2 y hy)⟩⟩
def WorldLook.lim (x:WorldLook):Prop:=(zA2 (fun _=>True) x.Keys)∧(zA2 (Got.lim) x.Got)
theorem WorldLook.lim_of {x:WorldLook} (h:x.wf):x.lim:=by
 obtain ⟨w_Node,w_Keys,w_Got,w_Time,w_Begin,w_End⟩:=h
 exact ⟨⟨w_Keys.1,fun _ _=>trivial⟩,⟨w_Got.1,fun y hy=>Got.lim_of (w_Got.2 y hy)⟩⟩
def WorldTxn.lim (x:WorldTxn):Prop:=(zA2 (Op.lim) x.Ops)∧(zA2 (Got.lim) x.Got)∧(zA2 (fun _=>True) x.Terms)
theorem WorldTxn.lim_of {x:WorldTxn} (h:x.wf):x.lim:=by
 obtain ⟨w_Ops,w_Got,w_Terms,w_Begin,w_End,w_Time⟩:=h
 exact ⟨⟨w_Ops.1,fun y hy=>Op.lim_of (w_Ops.2 y hy)⟩,⟨w_Got.1,fun y hy=>Got.lim_of (w_Got.2 y hy)⟩,⟨w_Terms.1,fun _ _=>trivial⟩⟩
def Entry.lim (x:Entry):Prop:=(x.Rec.lim)
theorem Entry.lim_of {x:Entry} (h:x.wf):x.lim:=by
 obtain ⟨w_Term,w_Rec⟩:=h
 exact Rec.lim_of w_Rec
def Replica.lim (x:Replica):Prop:=(zA2 (Entry.lim) x.Log)
theorem Replica.lim_of {x:Replica} (h:x.wf):x.lim:=by
 obtain ⟨w_Log,w_Sure⟩:=h
 exact ⟨w_Log.1,fun y hy=>Entry.lim_of (w_Log.2 y hy)⟩
def Group.lim (x:Group):Prop:=(zA2 (Replica.lim) x.Reps)
theorem Group.lim_of {x:Group} (h:x.wf):x.lim:=by
 obtain ⟨w_Reps,w_Term,w_Lead⟩:=h
 exact ⟨w_Reps.1,fun y hy=>Replica.lim_of (w_Reps.2 y hy)⟩
def World.lim (x:World):Prop:=(zA2 (Clock.lim) x.Clocks)∧(zA2 (fun _=>True) x.Cuts)∧(zA2 (Group.lim) x.Groups)∧(zA2 (zA2 (Lock.lim)) x.Locks)∧(zA2 (fun _=>True) x.Promised)∧(zA2 (WorldTxn.lim) x.Txns)∧(zA2 (WorldLook.lim) x.Looks)
theorem World.lim_of {x:World} (h:x.wf):x.lim:=by
 obtain ⟨w_Now,w_Count,w_Clocks,w_Cuts,w_Groups,w_Locks,w_Promised,w_Txns,w_Looks⟩:=h
 exact ⟨⟨w_Clocks.1,fun y hy=>Clock.lim_of (w_Clocks.2 y hy)⟩,⟨w_Cuts.1,fun _ _=>trivial⟩,⟨w_Groups.1,fun y hy=>Group.lim_of (w_Groups.2 y hy)⟩,⟨w_Locks.1,fun y3 hy3=>⟨(w_Locks.2 y3 hy3).1,fun y hy=>Lock.lim_of ((w_Locks.2 y3 hy3).2 y hy)⟩⟩,⟨w_Promised.1,fun _ _=>trivial⟩,⟨w_Txns.1,fun y hy=>WorldTxn.lim_of (w_Txns.2 y hy)⟩,⟨w_Looks.1,fun y hy=>WorldLook.lim_of (w_Looks.2 y hy)⟩⟩
def Ver.lim (x:Ver):Prop:=True
theorem Ver.lim_of {x:Ver} (h:x.wf):x.lim:=by
 exact trivial
def Cell.lim (x:Cell):Prop:=(zA2 (Ver.lim) x.Vers)
theorem Cell.lim_of {x:Cell} (h:x.wf):x.lim:=by
 obtain ⟨w_Key,w_Vers⟩:=h
 exact ⟨w_Vers.1,fun y hy=>Ver.lim_of (w_Vers.2 y hy)⟩
def Held.lim (x:Held):Prop:=(zA2 (fun _=>True) x.Reads)∧(zA2 (Write.lim) x.Writes)
theorem Held.lim_of {x:Held} (h:x.wf):x.lim:=by
 obtain ⟨w_Txn,w_Time,w_Lead,w_Reads,w_Writes⟩:=h
 exact ⟨⟨w_Reads.1,fun _ _=>trivial⟩,⟨w_Writes.1,fun y hy=>Write.lim_of (w_Writes.2 y hy)⟩⟩
def Told.lim (x:Told):Prop:=True
theorem Told.lim_of {x:Told} (h:x.wf):x.lim:=by
 exact trivial
def State.lim (x:State):Prop:=(zA2 (Cell.lim) x.Cells)∧(zA2 (Held.lim) x.Held)∧(zA2 (Told.lim) x.Told)
theorem State.lim_of {x:State} (h:x.wf):x.lim:=by
 obtain ⟨w_Floor,w_Cells,w_Held,w_Told⟩:=h
 exact ⟨⟨w_Cells.1,fun y hy=>Cell.lim_of (w_Cells.2 y hy)⟩,⟨w_Held.1,fun y hy=>Held.lim_of (w_Held.2 y hy)⟩,⟨w_Told.1,fun y hy=>Told.lim_of (w_Told.2 y hy)⟩⟩
open Go.Proofs.Wb renaming H159→z0_,Got.sz→z1_ in
theorem zY5 (x:Got) (left:Int) (h0:0≤left) (h1:left≤2^20) (hw:x.wf):ACall p_ 159 [.agg (Got.row false x),i64 left]
  (fun r _=>∃ n:Int,r=i64 n∧n≤left∧(0≤n→n+(x.sz:Nat)=left)):=Q1_
open Go.Proofs.Wb renaming H13→z0_ in
theorem zPw (l:List Int) (left:Int) (h0:0≤left) (h1:left≤2^20) (hw:wfL (fun n=> -9223372036854775808≤n∧n≤9223372036854775807) l):ACall p_ 13 [.sl false 1 (ints l),i64 left]
  (fun r _=>∃ n:Int,r=i64 n∧n≤left∧(0≤n→n+(l.length:Nat)=left)):=Q2_
theorem zXj (x:Lock) (left:Int) (h0:0≤left) (h1:left≤2^20) (hw:x.wf):ACall p_ 99 [.agg (Lock.row false x),i64 left]
  (fun r _=>∃ n:Int,r=i64 n∧n≤left∧(0≤n→n+(x.sz:Nat)=left)):=by
 obtain ⟨w_Key,w_Txn⟩:=hw
 have hm:=zAd
 refine fg H99 fun E hE hH=> ?_
 try refine st ?_;try exact ⟨⟩
 refine gG (fun h=> ?_) (fun h=> ?_)
 ·have hb:=h
  simp only [nf] at h
  try refine sb ?_;try exact ⟨⟩
  exact ⟨_,rfl,by omega,by omega⟩
 have hb:=h
 simp only [nf] at h
 try refine sb ?_;try exact ⟨⟩
 have p0:0≤left-(x.Key.size:Int):=by omega
 clear h hb
 exact ⟨_,rfl,by omega,fun _=>by unfold Lock.sz;omega⟩
theorem zAaY (x:Op) (left:Int) (h0:0≤left) (h1:left≤2^20) (hw:x.wf):ACall p_ 158 [.agg (Op.row false x),i64 left]
  (fun r _=>∃ n:Int,r=i64 n∧n≤left∧(0≤n→n+(x.sz:Nat)=left)):=by
 obtain ⟨w_Kind,w_Key,w_Val,w_By⟩:=hw
 have hm:=zAd
 refine fg H158 fun E hE hH=> ?_
 try refine st ?_;try exact ⟨⟩
 refine gG (fun h=> ?_) (fun h=> ?_)
 ·have hb:=h
  simp only [nf] at h
  try refine sb ?_;try exact ⟨⟩
  exact ⟨_,rfl,by omega,by omega⟩
 have hb:=h
 simp only [nf] at h
 try refine sb ?_;try exact ⟨⟩
 have p0:0≤left-(x.Key.size:Int):=by omega
 clear h hb
 try refine st ?_;try exact ⟨⟩
 refine gG (fun h=> ?_) (fun h=> ?_)
 ·have hb:=h
  simp only [nf] at h
  try refine sb ?_;try exact ⟨⟩
  exact ⟨_,rfl,by omega,by omega⟩
 have hb:=h
 simp only [nf] at h
 try refine sb ?_;try exact ⟨⟩
 have p1:0≤(left-(x.Key.size:Int))-(x.Val.size:Int):=by omega
 clear h hb
 exact ⟨_,rfl,by omega,fun _=>by unfold Op.sz;omega⟩
theorem zG5 (l:List ByteArray) (left:Int) (h0:0≤left) (h1:left≤2^20) (hw:wfL (fun s=>s.size≤maxLen) l):ACall p_ 10 [.sl false 1 (strs l),i64 left]
  (fun r _=>∃ n:Int,r=i64 n∧n≤left∧(0≤n→n+(szL (ByteArray.size) l:Nat)=left)):=by
 obtain ⟨hl,hx⟩:=hw
 have hm:=zAd
 refine fg H10 fun E hE hH=> ?_
 try refine st ?_;try exact ⟨⟩
 repeat' (first|(refine qz ?_ ?_<;>intro h)|refine qy ?_|refine jn _ ?_ ?_|refine qu ?_ ?_|exact qe|refine qw ?_|fail)
 ·exact ⟨_,rfl,by omega,by omega⟩
 refine zAi l.length (fun j (n:Int)=>⟨[(0, .sl false 1 (strs l)),(1,i64 n),(5,i64 j)],[]⟩) (fun j n=>0≤n∧n≤left∧n+l.length+zHY (ByteArray.size) l j=left) (left-(l.length:Int)) (by rw [zKj];omega) ?_
 intro j n hj hI
 obtain ⟨i1,i0,i2⟩:=hI
 try simp only [go_sem,hE,hH,zWH]
 refine gG (fun h=> ?_) (fun h=> ?_)
 ·have hb:=h
  simp only [nf] at h
  have hlt:=h;clear h
  have hs:=hx _ (zAc hlt)
  try refine sb ?_;try exact ⟨⟩
  repeat refine And.intro (by omega) ?_
  repeat' (first|(refine qz ?_ ?_<;>intro h)|refine qy ?_|refine jn _ ?_ ?_|refine qu ?_ ?_|exact qe|refine qw ?_|fail)
  ·exact ⟨_,rfl,by omega,by omega⟩
  ·exact ⟨_,rfl,by omega,by omega,by rw [zKk hlt];omega⟩
 ·have hb:=h
  simp only [nf] at h
  try refine sb ?_;try exact ⟨⟩
  exact ⟨_,rfl,by omega,fun _=>by rw [zL9 (by omega)] at i2;rw [show szL (ByteArray.size) l=l.length+(l.map (ByteArray.size)).sum from rfl];omega⟩
open Go.Proofs.Wb renaming H345→z0_,Write.sz→z1_ in
theorem zU9 (x:Write) (left:Int) (h0:0≤left) (h1:left≤2^20) (hw:x.wf):ACall p_ 345 [.agg (Write.row false x),i64 left]
  (fun r _=>∃ n:Int,r=i64 n∧n≤left∧(0≤n→n+(x.sz:Nat)=left)):=Q1_
open Go.Proofs.Wb renaming H9→z0_ in
theorem zSv (l:List Clock) (left:Int) (h0:0≤left) (h1:left≤2^20) (hw:wfL (Clock.wf) l):ACall p_ 9 [.sl false 1 (l.map (Clock.row false)),i64 left]
  (fun r _=>∃ n:Int,r=i64 n∧n≤left∧(0≤n→n+(l.length:Nat)=left)):=Q2_
open Go.Proofs.Wb renaming H101→z0_,Got.row→z2_,Got.sz→z3_,zIt→z4_,zY5→z5_ in
open Go.Am renaming k3_→z1_ in
theorem zPx (l:List Got) (left:Int) (h0:0≤left) (h1:left≤2^20) (hw:wfL (Got.wf) l):ACall p_ 101 [.sl false 3 (l.map (Got.row false)),i64 left]
  (fun r _=>∃ n:Int,r=i64 n∧n≤left∧(0≤n→n+(szL (Got.sz) l:Nat)=left)):=Q3_
open Go.Proofs.Wb renaming H42→z0_,Lock.row→z2_,Lock.sz→z3_,zIt→z4_,zXj→z5_ in
open Go.Am renaming k3_→z1_ in
theorem zVa (l:List Lock) (left:Int) (h0:0≤left) (h1:left≤2^20) (hw:wfL (Lock.wf) l):ACall p_ 42 [.sl false 3 (l.map (Lock.row false)),i64 left]
  (fun r _=>∃ n:Int,r=i64 n∧n≤left∧(0≤n→n+(szL (Lock.sz) l:Nat)=left)):=Q3_
open Go.Proofs.Wb renaming H100→z0_,Op.row→z2_,Op.sz→z3_,zIt→z4_,zAaY→z5_ in
open Go.Am renaming k4_→z1_ in
theorem zY6 (l:List Op) (left:Int) (h0:0≤left) (h1:left≤2^20) (hw:wfL (Op.wf) l):ACall p_ 100 [.sl false 4 (l.map (Op.row false)),i64 left]
  (fun r _=>∃ n:Int,r=i64 n∧n≤left∧(0≤n→n+(szL (Op.sz) l:Nat)=left)):=Q3_
open Go.Proofs.Wb renaming H320→z0_,Write.row→z2_,Write.sz→z3_,zIt→z4_,zU9→z5_ in
open Go.Am renaming k3_→z1_ in
theorem zSw (l:List Write) (left:Int) (h0:0≤left) (h1:left≤2^20) (hw:wfL (Write.wf) l):ACall p_ 320 [.sl false 3 (l.map (Write.row false)),i64 left]
  (fun r _=>∃ n:Int,r=i64 n∧n≤left∧(0≤n→n+(szL (Write.sz) l:Nat)=left)):=Q3_
theorem zSx (l:List (List Lock)) (left:Int) (h0:0≤left) (h1:left≤2^20) (hw:wfL (wfL (Lock.wf)) l):ACall p_ 12 [.sl false 1 (l.map fun y=>[.sl false 3 (y.map (Lock.row false))]),i64 left]
  (fun r _=>∃ n:Int,r=i64 n∧n≤left∧(0≤n→n+(szL (szL (Lock.sz)) l:Nat)=left)):=by
 obtain ⟨hl,hx⟩:=hw
 have hm:=zAd
 refine fg H12 fun E hE hH=> ?_
 try refine st ?_;try exact ⟨⟩
 repeat' (first|(refine qz ?_ ?_<;>intro h)|refine qy ?_|refine jn _ ?_ ?_|refine qu ?_ ?_|exact qe|refine qw ?_|fail)
 ·exact ⟨_,rfl,by omega,by omega⟩
 refine zAi l.length (fun j (n:Int)=>⟨[(0, .sl false 1 (l.map fun y=>[.sl false 3 (y.map (Lock.row false))])),(1,i64 n),(5,i64 j)],[]⟩) (fun j n=>0≤n∧n≤left∧n+l.length+zHY (szL (Lock.sz)) l j=left) (left-(l.length:Int)) (by rw [zKj];omega) ?_
 intro j n hj hI
 obtain ⟨i1,i0,i2⟩:=hI
 try simp only [go_sem,hE,hH,zWI]
 refine gG (fun h=> ?_) (fun h=> ?_)
 ·have hb:=h
  simp only [nf] at h
  have hlt:=h;clear h
  have hs:=hx _ (zAc hlt)
  try refine sb ?_;try exact ⟨⟩
  repeat refine And.intro (by omega) ?_
  refine zAE ?_;simp (disch:=omega) only [go_sem,hE,hH];refine cvA (zVa (nth l j) n i1 (by omega) hs) ?_
  try simp only [go_sem,hE,hH]
  refine zAH ?_
  rintro r k ⟨q,rfl,q1,q2⟩
  try refine st ?_;try exact ⟨⟩
  repeat' (first|(refine qz ?_ ?_<;>intro h)|refine qy ?_|refine jn _ ?_ ?_|refine qu ?_ ?_|exact qe|refine qw ?_|fail)
  ·exact ⟨_,rfl,by omega,by omega⟩
  ·exact ⟨_,rfl,by omega,by omega,by have q2:=q2 (by omega);rw [zKk hlt];omega⟩
 ·have hb:=h
  simp only [nf] at h
  try refine sb ?_;try exact ⟨⟩
  exact ⟨_,rfl,by omega,fun _=>by rw [zL9 (by omega)] at i2;rw [show szL (szL (Lock.sz)) l=l.length+(l.map (szL (Lock.sz))).sum from rfl];omega⟩
theorem zY7 (x:Rec) (left:Int) (h0:0≤left) (h1:left≤2^20) (hw:x.wf):ACall p_ 289 [.agg (Rec.row false x),i64 left]
  (fun r _=>∃ n:Int,r=i64 n∧n≤left∧(0≤n→n+(x.sz:Nat)=left)):=by
 obtain ⟨w_Kind,w_Txn,w_Time,w_Lead,w_Reads,w_Writes⟩:=hw
 have hm:=zAd
 refine fg H289 fun E hE hH=> ?_;refine st ?_
 refine zAE ?_;simp (disch:=omega) only [go_sem,hE,hH];refine cvA (zG5 _ _ (by omega) (by omega) w_Reads) ?_
 try refine st ?_;try exact ⟨⟩
 refine zAH ?_
 rintro r k ⟨n0,rfl,a0,b0⟩
 try refine st ?_;try exact ⟨⟩
 refine gG (fun h=> ?_) (fun h=> ?_)
 ·have hb:=h
  simp only [nf] at h
  try refine sb ?_;try exact ⟨⟩
  exact ⟨_,rfl,by omega,by omega⟩
 have hb:=h
 simp only [nf] at h
 try refine sb ?_;try exact ⟨⟩
 have p0:0≤n0:=by omega
 have b0:=b0 p0
 clear h hb
 refine zAE ?_;simp (disch:=omega) only [go_sem,hE,hH];refine cvA (zSw _ _ p0 (by omega) w_Writes) ?_
 try refine st ?_;try exact ⟨⟩
 refine zAH ?_
 rintro r k ⟨n1,rfl,a1,b1⟩
 try refine st ?_;try exact ⟨⟩
 refine gG (fun h=> ?_) (fun h=> ?_)
 ·have hb:=h
  simp only [nf] at h
  try refine sb ?_;try exact ⟨⟩
  exact ⟨_,rfl,by omega,by omega⟩
 have hb:=h
 simp only [nf] at h
 try refine sb ?_;try exact ⟨⟩
 have p1:0≤n1:=by omega
 have b1:=b1 p1
 clear h hb
 exact ⟨_,rfl,by omega,fun _=>by unfold Rec.sz;omega⟩
theorem zOm (x:WorldLook) (left:Int) (h0:0≤left) (h1:left≤2^20) (hw:x.wf):ACall p_ 44 [.agg (WorldLook.row false x),i64 left]
  (fun r _=>∃ n:Int,r=i64 n∧n≤left∧(0≤n→n+(x.sz:Nat)=left)):=by
 obtain ⟨w_Node,w_Keys,w_Got,w_Time,w_Begin,w_End⟩:=hw
 have hm:=zAd
 refine fg H44 fun E hE hH=> ?_;refine st ?_
 refine zAE ?_;simp (disch:=omega) only [go_sem,hE,hH];refine cvA (zG5 _ _ (by omega) (by omega) w_Keys) ?_
 try refine st ?_;try exact ⟨⟩
 refine zAH ?_
 rintro r k ⟨n0,rfl,a0,b0⟩
 try refine st ?_;try exact ⟨⟩
 refine gG (fun h=> ?_) (fun h=> ?_)
 ·have hb:=h
  simp only [nf] at h
  try refine sb ?_;try exact ⟨⟩
  exact ⟨_,rfl,by omega,by omega⟩
 have hb:=h
 simp only [nf] at h
 try refine sb ?_;try exact ⟨⟩
 have p0:0≤n0:=by omega
 have b0:=b0 p0
 clear h hb
 refine zAE ?_;simp (disch:=omega) only [go_sem,hE,hH];refine cvA (zPx _ _ p0 (by omega) w_Got) ?_
 try refine st ?_;try exact ⟨⟩
 refine zAH ?_
 rintro r k ⟨n1,rfl,a1,b1⟩
 try refine st ?_;try exact ⟨⟩
 refine gG (fun h=> ?_) (fun h=> ?_)
 ·have hb:=h
  simp only [nf] at h
  try refine sb ?_;try exact ⟨⟩
  exact ⟨_,rfl,by omega,by omega⟩
 have hb:=h
 simp only [nf] at h
 try refine sb ?_;try exact ⟨⟩
 have p1:0≤n1:=by omega
 have b1:=b1 p1
 clear h hb
 exact ⟨_,rfl,by omega,fun _=>by unfold WorldLook.sz;omega⟩
theorem zP0 (x:WorldTxn) (left:Int) (h0:0≤left) (h1:left≤2^20) (hw:x.wf):ACall p_ 43 [.agg (WorldTxn.row false x),i64 left]
  (fun r _=>∃ n:Int,r=i64 n∧n≤left∧(0≤n→n+(x.sz:Nat)=left)):=by
 obtain ⟨w_Ops,w_Got,w_Terms,w_Begin,w_End,w_Time⟩:=hw
 have hm:=zAd
 refine fg H43 fun E hE hH=> ?_;refine st ?_
 refine zAE ?_;simp (disch:=omega) only [go_sem,hE,hH];refine cvA (zY6 _ _ (by omega) (by omega) w_Ops) ?_
 try refine st ?_;try exact ⟨⟩
 refine zAH ?_
 rintro r k ⟨n0,rfl,a0,b0⟩
 try refine st ?_;try exact ⟨⟩
 refine gG (fun h=> ?_) (fun h=> ?_)
 ·have hb:=h
  simp only [nf] at h
  try refine sb ?_;try exact ⟨⟩
  exact ⟨_,rfl,by omega,by omega⟩
 have hb:=h
 simp only [nf] at h
 try refine sb ?_;try exact ⟨⟩
 have p0:0≤n0:=by omega
 have b0:=b0 p0
 clear h hb
 refine zAE ?_;simp (disch:=omega) only [go_sem,hE,hH];refine cvA (zPx _ _ p0 (by omega) w_Got) ?_
 try refine st ?_;try exact ⟨⟩
 refine zAH ?_
 rintro r k ⟨n1,rfl,a1,b1⟩
 try refine st ?_;try exact ⟨⟩
 refine gG (fun h=> ?_) (fun h=> ?_)
 ·have hb:=h
  simp only [nf] at h
  try refine sb ?_;try exact ⟨⟩
  exact ⟨_,rfl,by omega,by omega⟩
 have hb:=h
 simp only [nf] at h
 try refine sb ?_;try exact ⟨⟩
 have p1:0≤n1:=by omega
 have b1:=b1 p1
 clear h hb
 refine zAE ?_;simp (disch:=omega) only [go_sem,hE,hH];refine cvA (zPw _ _ p1 (by omega) w_Terms) ?_
 try refine st ?_;try exact ⟨⟩
 refine zAH ?_
 rintro r k ⟨n2,rfl,a2,b2⟩
 try refine st ?_;try exact ⟨⟩
 refine gG (fun h=> ?_) (fun h=> ?_)
 ·have hb:=h
  simp only [nf] at h
  try refine sb ?_;try exact ⟨⟩
  exact ⟨_,rfl,by omega,by omega⟩
 have hb:=h
 simp only [nf] at h
 try refine sb ?_;try exact ⟨⟩
 have p2:0≤n2:=by omega
 have b2:=b2 p2
 clear h hb
 exact ⟨_,rfl,by omega,fun _=>by unfold WorldTxn.sz;omega⟩
theorem zVb (x:Entry) (left:Int) (h0:0≤left) (h1:left≤2^20) (hw:x.wf):ACall p_ 250 [.agg (Entry.row false x),i64 left]
  (fun r _=>∃ n:Int,r=i64 n∧n≤left∧(0≤n→n+(x.sz:Nat)=left)):=by
 obtain ⟨w_Term,w_Rec⟩:=hw
 have hm:=zAd
 refine fg H250 fun E hE hH=> ?_;refine st ?_
 refine zAE ?_;simp (disch:=omega) only [go_sem,hE,hH];refine cvA (zY7 _ _ (by omega) (by omega) w_Rec) ?_
 try refine st ?_;try exact ⟨⟩
 refine zAH ?_
 rintro r k ⟨n0,rfl,a0,b0⟩
 try refine st ?_;try exact ⟨⟩
 refine gG (fun h=> ?_) (fun h=> ?_)
 ·have hb:=h
  simp only [nf] at h
  try refine sb ?_;try exact ⟨⟩
  exact ⟨_,rfl,by omega,by omega⟩
 have hb:=h
 simp only [nf] at h
 try refine sb ?_;try exact ⟨⟩
 have p0:0≤n0:=by omega
 have b0:=b0 p0
 clear h hb
 exact ⟨_,rfl,by omega,fun _=>by unfold Entry.sz;omega⟩
open Go.Proofs.Wb renaming H15→z0_,WorldLook.row→z2_,WorldLook.sz→z3_,zGK→z4_,zOm→z5_ in
open Go.Am renaming k6_→z1_ in
theorem zMZ (l:List WorldLook) (left:Int) (h0:0≤left) (h1:left≤2^20) (hw:wfL (WorldLook.wf) l):ACall p_ 15 [.sl false 6 (l.map (WorldLook.row false)),i64 left]
  (fun r _=>∃ n:Int,r=i64 n∧n≤left∧(0≤n→n+(szL (WorldLook.sz) l:Nat)=left)):=Q3_
open Go.Proofs.Wb renaming H14→z0_,WorldTxn.row→z2_,WorldTxn.sz→z3_,zGK→z4_,zP0→z5_ in
open Go.Am renaming zWe→z1_ in
theorem zOn (l:List WorldTxn) (left:Int) (h0:0≤left) (h1:left≤2^20) (hw:wfL (WorldTxn.wf) l):ACall p_ 14 [.sl false 10 (l.map (WorldTxn.row false)),i64 left]
  (fun r _=>∃ n:Int,r=i64 n∧n≤left∧(0≤n→n+(szL (WorldTxn.sz) l:Nat)=left)):=Q3_
open Go.Proofs.Wb renaming H205→z0_,Entry.row→z2_,Entry.sz→z3_,zGK→z4_,zVb→z5_ in
open Go.Am renaming k8_→z1_ in
theorem zSy (l:List Entry) (left:Int) (h0:0≤left) (h1:left≤2^20) (hw:wfL (Entry.wf) l):ACall p_ 205 [.sl false 8 (l.map (Entry.row false)),i64 left]
  (fun r _=>∃ n:Int,r=i64 n∧n≤left∧(0≤n→n+(szL (Entry.sz) l:Nat)=left)):=Q3_
theorem zRA (x:Replica) (left:Int) (h0:0≤left) (h1:left≤2^20) (hw:x.wf):ACall p_ 157 [.agg (Replica.row false x),i64 left]
  (fun r _=>∃ n:Int,r=i64 n∧n≤left∧(0≤n→n+(x.sz:Nat)=left)):=by
 obtain ⟨w_Log,w_Sure⟩:=hw
 have hm:=zAd
 refine fg H157 fun E hE hH=> ?_;refine st ?_
 refine zAE ?_;simp (disch:=omega) only [go_sem,hE,hH];refine cvA (zSy _ _ (by omega) (by omega) w_Log) ?_
 try refine st ?_;try exact ⟨⟩
 refine zAH ?_
 rintro r k ⟨n0,rfl,a0,b0⟩
 try refine st ?_;try exact ⟨⟩
 refine gG (fun h=> ?_) (fun h=> ?_)
 ·have hb:=h
  simp only [nf] at h
  try refine sb ?_;try exact ⟨⟩
  exact ⟨_,rfl,by omega,by omega⟩
 have hb:=h
 simp only [nf] at h
 try refine sb ?_;try exact ⟨⟩
 have p0:0≤n0:=by omega
 have b0:=b0 p0
 clear h hb
 exact ⟨_,rfl,by omega,fun _=>by unfold Replica.sz;omega⟩
open Go.Proofs.Wb renaming H98→z0_,Replica.row→z2_,Replica.sz→z3_,zGK→z4_,zRA→z5_ in
open Go.Am renaming k3_→z1_ in
theorem zP1 (l:List Replica) (left:Int) (h0:0≤left) (h1:left≤2^20) (hw:wfL (Replica.wf) l):ACall p_ 98 [.sl false 3 (l.map (Replica.row false)),i64 left]
  (fun r _=>∃ n:Int,r=i64 n∧n≤left∧(0≤n→n+(szL (Replica.sz) l:Nat)=left)):=Q3_
theorem zVc (x:Group) (left:Int) (h0:0≤left) (h1:left≤2^20) (hw:x.wf):ACall p_ 41 [.agg (Group.row false x),i64 left]
  (fun r _=>∃ n:Int,r=i64 n∧n≤left∧(0≤n→n+(x.sz:Nat)=left)):=by
 obtain ⟨w_Reps,w_Term,w_Lead⟩:=hw
 have hm:=zAd
 refine fg H41 fun E hE hH=> ?_;refine st ?_
 refine zAE ?_;simp (disch:=omega) only [go_sem,hE,hH];refine cvA (zP1 _ _ (by omega) (by omega) w_Reps) ?_
 try refine st ?_;try exact ⟨⟩
 refine zAH ?_
 rintro r k ⟨n0,rfl,a0,b0⟩
 try refine st ?_;try exact ⟨⟩
 refine gG (fun h=> ?_) (fun h=> ?_)
 ·have hb:=h
  simp only [nf] at h
  try refine sb ?_;try exact ⟨⟩
  exact ⟨_,rfl,by omega,by omega⟩
 have hb:=h
 simp only [nf] at h
 try refine sb ?_;try exact ⟨⟩
 have p0:0≤n0:=by omega
 have b0:=b0 p0
 clear h hb
 exact ⟨_,rfl,by omega,fun _=>by unfold Group.sz;omega⟩
open Go.Proofs.Wb renaming H11→z0_,Group.row→z2_,Group.sz→z3_,zGK→z4_,zVc→z5_ in
open Go.Am renaming k3_→z1_ in
theorem zSz (l:List Group) (left:Int) (h0:0≤left) (h1:left≤2^20) (hw:wfL (Group.wf) l):ACall p_ 11 [.sl false 3 (l.map (Group.row false)),i64 left]
  (fun r _=>∃ n:Int,r=i64 n∧n≤left∧(0≤n→n+(szL (Group.sz) l:Nat)=left)):=Q3_
theorem zVd (x:World) (left:Int) (h0:0≤left) (h1:left≤2^20) (hw:x.wf):ACall p_ 4 [.agg (World.row false x),i64 left]
  (fun r _=>∃ n:Int,r=i64 n∧n≤left∧(0≤n→n+(x.sz:Nat)=left)):=by
 obtain ⟨w_Now,w_Count,w_Clocks,w_Cuts,w_Groups,w_Locks,w_Promised,w_Txns,w_Looks⟩:=hw
 have hm:=zAd
 refine fg H4 fun E hE hH=> ?_;refine st ?_
 refine zAE ?_;simp (disch:=omega) only [go_sem,hE,hH];refine cvA (zSv _ _ (by omega) (by omega) w_Clocks) ?_
 try refine st ?_;try exact ⟨⟩
 refine zAH ?_
 rintro r k ⟨n0,rfl,a0,b0⟩
 try refine st ?_;try exact ⟨⟩
 refine gG (fun h=> ?_) (fun h=> ?_)
 ·have hb:=h
  simp only [nf] at h
  try refine sb ?_;try exact ⟨⟩
  exact ⟨_,rfl,by omega,by omega⟩
 have hb:=h
 simp only [nf] at h
 try refine sb ?_;try exact ⟨⟩
 have p0:0≤n0:=by omega
 have b0:=b0 p0
 clear h hb
 refine zAE ?_;simp (disch:=omega) only [go_sem,hE,hH];refine cvA (zG5 _ _ p0 (by omega) w_Cuts) ?_
 try refine st ?_;try exact ⟨⟩
 refine zAH ?_
 rintro r k ⟨n1,rfl,a1,b1⟩
 try refine st ?_;try exact ⟨⟩
 refine gG (fun h=> ?_) (fun h=> ?_)
 ·have hb:=h
  simp only [nf] at h
  try refine sb ?_;try exact ⟨⟩
  exact ⟨_,rfl,by omega,by omega⟩
 have hb:=h
 simp only [nf] at h
 try refine sb ?_;try exact ⟨⟩
 have p1:0≤n1:=by omega
 have b1:=b1 p1
 clear h hb
 refine zAE ?_;simp (disch:=omega) only [go_sem,hE,hH];refine cvA (zSz _ _ p1 (by omega) w_Groups) ?_
 try refine st ?_;try exact ⟨⟩
 refine zAH ?_
 rintro r k ⟨n2,rfl,a2,b2⟩
 try refine st ?_;try exact ⟨⟩
 refine gG (fun h=> ?_) (fun h=> ?_)
 ·have hb:=h
  simp only [nf] at h
  try refine sb ?_;try exact ⟨⟩
  exact ⟨_,rfl,by omega,by omega⟩
 have hb:=h
 simp only [nf] at h
 try refine sb ?_;try exact ⟨⟩
 have p2:0≤n2:=by omega
 have b2:=b2 p2
 clear h hb
 refine zAE ?_;simp (disch:=omega) only [go_sem,hE,hH];refine cvA (zSx _ _ p2 (by omega) w_Locks) ?_
 try refine st ?_;try exact ⟨⟩
 refine zAH ?_
 rintro r k ⟨n3,rfl,a3,b3⟩
 try refine st ?_;try exact ⟨⟩
 refine gG (fun h=> ?_) (fun h=> ?_)
 ·have hb:=h
  simp only [nf] at h
  try refine sb ?_;try exact ⟨⟩
  exact ⟨_,rfl,by omega,by omega⟩
 have hb:=h
 simp only [nf] at h
 try refine sb ?_;try exact ⟨⟩
 have p3:0≤n3:=by omega
 have b3:=b3 p3
 clear h hb
 refine zAE ?_;simp (disch:=omega) only [go_sem,hE,hH];refine cvA (zPw _ _ p3 (by omega) w_Promised) ?_
 try refine st ?_;try exact ⟨⟩
 refine zAH ?_
 rintro r k ⟨n4,rfl,a4,b4⟩
 try refine st ?_;try exact ⟨⟩
 refine gG (fun h=> ?_) (fun h=> ?_)
 ·have hb:=h
  simp only [nf] at h
  try refine sb ?_;try exact ⟨⟩
  exact ⟨_,rfl,by omega,by omega⟩
 have hb:=h
 simp only [nf] at h
 try refine sb ?_;try exact ⟨⟩
 have p4:0≤n4:=by omega
 have b4:=b4 p4
 clear h hb
 refine zAE ?_;simp (disch:=omega) only [go_sem,hE,hH];refine cvA (zOn _ _ p4 (by omega) w_Txns) ?_
 try refine st ?_;try exact ⟨⟩
 refine zAH ?_
 rintro r k ⟨n5,rfl,a5,b5⟩
 try refine st ?_;try exact ⟨⟩
 refine gG (fun h=> ?_) (fun h=> ?_)
 ·have hb:=h
  simp only [nf] at h
  try refine sb ?_;try exact ⟨⟩
  exact ⟨_,rfl,by omega,by omega⟩
 have hb:=h
 simp only [nf] at h
 try refine sb ?_;try exact ⟨⟩
 have p5:0≤n5:=by omega
 have b5:=b5 p5
 clear h hb
 refine zAE ?_;simp (disch:=omega) only [go_sem,hE,hH];refine cvA (zMZ _ _ p5 (by omega) w_Looks) ?_
 try refine st ?_;try exact ⟨⟩
 refine zAH ?_
 rintro r k ⟨n6,rfl,a6,b6⟩
 try refine st ?_;try exact ⟨⟩
 refine gG (fun h=> ?_) (fun h=> ?_)
 ·have hb:=h
  simp only [nf] at h
  try refine sb ?_;try exact ⟨⟩
  exact ⟨_,rfl,by omega,by omega⟩
 have hb:=h
 simp only [nf] at h
 try refine sb ?_;try exact ⟨⟩
 have p6:0≤n6:=by omega
 have b6:=b6 p6
 clear h hb
 exact ⟨_,rfl,by omega,fun _=>by unfold World.sz;omega⟩
theorem zVe (x:Clock):ACall p_ 63 [.agg (Clock.row false x)] (fun r _=>r= .agg (Clock.row true x)):=by
 refine fg H63 fun E hE hH=> ?_
 repeat' (first|(refine qz ?_ ?_<;>intro h)|refine qy ?_|refine jn _ ?_ ?_|refine qu ?_ ?_|exact qe|refine qw ?_|fail)
open Go.Proofs.Wb renaming Got.sz→z0_,H174→z1_ in
theorem zY8 (x:Got) (hs:x.sz≤2^20):ACall p_ 174 [.agg (Got.row false x)] (fun r _=>r= .agg (Got.row true x)):=Q4_
theorem zPy (l:List Int) (hl:l.length≤2^20):ACall p_ 25 [.sl false 1 (ints l)] (fun r _=>r= .sl true 1 (ints l)):=by
 refine fg H25 fun E hE hH=> ?_;refine st ?_
 refine And.intro (by omega) ?_
 rw [zCk (fun x=>[i64 x])]
 refine zAi l.length (fun j (_:Unit)=>⟨[(0, .sl false 1 (ints l)),(3, .ref 4000000 0 l.length),(4,i64 j)],[(4000000,⟨1,cpy (fun x=>[i64 x]) [i64 0] l j⟩)]⟩) (fun _ _=>True) () trivial ?_
 intro j _ hj _
 try simp only [go_sem,hE,hH,zWU]
 refine gG (fun h=> ?_) (fun h=> ?_)
 ·have hb:=h
  simp only [nf] at h
  have hlt:=h;clear h
  try simp (disch:=omega) only [go_sem,hE,hH,hb,zAR,zAC]
  repeat' (first|(refine qz ?_ ?_<;>intro h)|refine qy ?_|refine jn _ ?_ ?_|refine qu ?_ ?_|exact qe|refine qw ?_|fail)
  try simp (disch:=omega) only [go_sem,hE,hH,zAR,zAC]
  repeat refine And.intro (by omega) ?_
  try simp (disch:=omega) only [go_sem,hE,hH,zAR,zAC]
  repeat refine And.intro (by omega) ?_
  first|refine ⟨(), ?_,trivial⟩|refine ⟨(), ?_⟩|skip
  have hc:=zCl (f:=fun x=>[i64 x]) (z:=[i64 0]) hlt
  rw [hc]
  rfl
 ·have hb:=h
  simp only [nf] at h
  try simp (disch:=omega) only [go_sem,hE,hH,hb,zCN]
open Go.Proofs.Wb renaming Lock.sz→z0_,H118→z1_ in
theorem zXk (x:Lock) (hs:x.sz≤2^20):ACall p_ 118 [.agg (Lock.row false x)] (fun r _=>r= .agg (Lock.row true x)):=Q4_
open Go.Proofs.Wb renaming Op.sz→z0_,H173→z1_ in
theorem zAaZ (x:Op) (hs:x.sz≤2^20):ACall p_ 173 [.agg (Op.row false x)] (fun r _=>r= .agg (Op.row true x)):=Q4_
theorem zG6 (l:List ByteArray) (hl:szL (ByteArray.size) l≤2^20):ACall p_ 22 [.sl false 1 (strs l)] (fun r _=>r= .sl true 1 (strs l)):=by
 have hl0:l.length≤2^20:=Nat.le_trans zCz hl
 refine fg H22 fun E hE hH=> ?_;refine st ?_
 refine And.intro (by omega) ?_
 rw [zCk (fun x=>[str x])]
 refine zAi l.length (fun j (_:Unit)=>⟨[(0, .sl false 1 (strs l)),(3, .ref 4000000 0 l.length),(4,i64 j)],[(4000000,⟨1,cpy (fun x=>[str x]) [str ⟨⟨[]⟩⟩] l j⟩)]⟩) (fun _ _=>True) () trivial ?_
 intro j _ hj _
 try simp only [go_sem,hE,hH,zWS]
 refine gG (fun h=> ?_) (fun h=> ?_)
 ·have hb:=h
  simp only [nf] at h
  have hlt:=h;clear h
  try simp (disch:=omega) only [go_sem,hE,hH,hb,zAR,zAC]
  repeat' (first|(refine qz ?_ ?_<;>intro h)|refine qy ?_|refine jn _ ?_ ?_|refine qu ?_ ?_|exact qe|refine qw ?_|fail)
  try simp (disch:=omega) only [go_sem,hE,hH,zAR,zAC]
  repeat refine And.intro (by omega) ?_
  try simp (disch:=omega) only [go_sem,hE,hH,zAR,zAC]
  repeat refine And.intro (by omega) ?_
  first|refine ⟨(), ?_,trivial⟩|refine ⟨(), ?_⟩|skip
  have hc:=zCl (f:=fun x=>[str x]) (z:=[str ⟨⟨[]⟩⟩]) hlt
  rw [hc]
  rfl
 ·have hb:=h
  simp only [nf] at h
  try simp (disch:=omega) only [go_sem,hE,hH,hb,zCN]
open Go.Proofs.Wb renaming Write.sz→z0_,H346→z1_ in
theorem zVf (x:Write) (hs:x.sz≤2^20):ACall p_ 346 [.agg (Write.row false x)] (fun r _=>r= .agg (Write.row true x)):=Q4_
theorem zSA (l:List Clock) (hl:l.length≤2^20):ACall p_ 21 [.sl false 1 (l.map (Clock.row false))] (fun r _=>r= .sl true 1 (l.map (Clock.row true))):=by
 refine fg H21 fun E hE hH=> ?_;refine st ?_
 refine And.intro (by omega) ?_
 rw [zCk (Clock.row true)]
 refine zAi l.length (fun j (_:Unit)=>⟨[(0, .sl false 1 (l.map (Clock.row false))),(3, .ref 4000000 0 l.length),(4,i64 j)],[(4000000,⟨1,cpy (Clock.row true) [i64 0] l j⟩)]⟩) (fun _ _=>True) () trivial ?_
 intro j _ hj _
 try simp only [go_sem,hE,hH,zIs]
 refine gG (fun h=> ?_) (fun h=> ?_)
 ·have hb:=h
  simp only [nf] at h
  have hlt:=h;clear h
  try simp (disch:=omega) only [go_sem,hE,hH,hb,zAR,zAC]
  repeat' (first|(refine qz ?_ ?_<;>intro h)|refine qy ?_|refine qo ?_|refine cq (zVe _) ?_|refine jn _ ?_ ?_|refine qu ?_ ?_|exact qe|refine qw ?_|fail)
  try simp (disch:=omega) only [go_sem,hE,hH,zAR,zAC]
  repeat refine And.intro (by omega) ?_
  try simp (disch:=omega) only [go_sem,hE,hH,zAR,zAC]
  repeat refine And.intro (by omega) ?_
  first|refine ⟨(), ?_,trivial⟩|refine ⟨(), ?_⟩|skip
  have hc:=zCl (f:=Clock.row true) (z:=[i64 0]) hlt
  simp only [Clock.row_eq] at hc ⊢
  rw [hc]
  rfl
 ·have hb:=h
  simp only [nf] at h
  try simp (disch:=omega) only [go_sem,hE,hH,hb,zCN]
open Go.Proofs.Wb renaming H120→z0_,Got.row→z1_,Got.sz→z2_,zY8→z3_,Got.row_eq→z4_ in
theorem zPz (l:List Got) (hl:szL (Got.sz) l≤2^20):ACall p_ 120 [.sl false 3 (l.map (Got.row false))] (fun r _=>r= .sl true 3 (l.map (Got.row true))):=Q5_
theorem zVg (l:List Lock) (hl:szL (Lock.sz) l≤2^20):ACall p_ 65 [.sl false 3 (l.map (Lock.row false))] (fun r _=>r= .sl true 3 (l.map (Lock.row true))):=by
 have hl0:l.length≤2^20:=Nat.le_trans zCz hl
 refine fg H65 fun E hE hH=> ?_;refine st ?_
 refine And.intro (by omega) ?_
 rw [zCk (Lock.row true)]
 refine zAi l.length (fun j (_:Unit)=>⟨[(0, .sl false 3 (l.map (Lock.row false))),(3, .ref 4000000 0 l.length),(4,i64 j)],[(4000000,⟨3,cpy (Lock.row true) [str ⟨⟨[]⟩⟩,i64 0,bl false] l j⟩)]⟩) (fun _ _=>True) () trivial ?_
 intro j _ hj _
 try simp only [go_sem,hE,hH,zIs]
 refine gG (fun h=> ?_) (fun h=> ?_)
 ·have hb:=h
  simp only [nf] at h
  have hlt:=h;clear h
  have hs:=Nat.le_trans (zCM (f:=Lock.sz) (zAc hlt)) hl
  try simp (disch:=omega) only [go_sem,hE,hH,hb,zAR,zAC]
  repeat' (first|(refine qz ?_ ?_<;>intro h)|refine qy ?_|refine qo ?_|refine cq (zXk _ (by assumption)) ?_|refine jn _ ?_ ?_|refine qu ?_ ?_|exact qe|refine qw ?_|fail)
  try simp (disch:=omega) only [go_sem,hE,hH,zAR,zAC]
  repeat refine And.intro (by omega) ?_
  try simp (disch:=omega) only [go_sem,hE,hH,zAR,zAC]
  repeat refine And.intro (by omega) ?_
  first|refine ⟨(), ?_,trivial⟩|refine ⟨(), ?_⟩|skip
  have hc:=zCl (f:=Lock.row true) (z:=[str ⟨⟨[]⟩⟩,i64 0,bl false]) hlt
  simp only [Lock.row_eq] at hc ⊢
  rw [hc]
  rfl
 ·have hb:=h
  simp only [nf] at h
  try simp (disch:=omega) only [go_sem,hE,hH,hb,zCN]
theorem zY9 (l:List Op) (hl:szL (Op.sz) l≤2^20):ACall p_ 119 [.sl false 4 (l.map (Op.row false))] (fun r _=>r= .sl true 4 (l.map (Op.row true))):=by
 have hl0:l.length≤2^20:=Nat.le_trans zCz hl
 refine fg H119 fun E hE hH=> ?_;refine st ?_
 refine And.intro (by omega) ?_
 rw [zCk (Op.row true)]
 refine zAi l.length (fun j (_:Unit)=>⟨[(0, .sl false 4 (l.map (Op.row false))),(3, .ref 4000000 0 l.length),(4,i64 j)],[(4000000,⟨4,cpy (Op.row true) [i64 0,str ⟨⟨[]⟩⟩,str ⟨⟨[]⟩⟩,i64 0] l j⟩)]⟩) (fun _ _=>True) () trivial ?_
 intro j _ hj _
 try simp only [go_sem,hE,hH,zIs]
 refine gG (fun h=> ?_) (fun h=> ?_)
 ·have hb:=h
  simp only [nf] at h
  have hlt:=h;clear h
  have hs:=Nat.le_trans (zCM (f:=Op.sz) (zAc hlt)) hl
  try simp (disch:=omega) only [go_sem,hE,hH,hb,zAR,zAC]
  repeat' (first|(refine qz ?_ ?_<;>intro h)|refine qy ?_|refine qo ?_|refine cq (zAaZ _ (by assumption)) ?_|refine jn _ ?_ ?_|refine qu ?_ ?_|exact qe|refine qw ?_|fail)
  try simp (disch:=omega) only [go_sem,hE,hH,zAR,zAC]
  repeat refine And.intro (by omega) ?_
  try simp (disch:=omega) only [go_sem,hE,hH,zAR,zAC]
  repeat refine And.intro (by omega) ?_
  first|refine ⟨(), ?_,trivial⟩|refine ⟨(), ?_⟩|skip
  have hc:=zCl (f:=Op.row true) (z:=[i64 0,str ⟨⟨[]⟩⟩,str ⟨⟨[]⟩⟩,i64 0]) hlt
  simp only [Op.row_eq] at hc ⊢
  rw [hc]
  rfl
 ·have hb:=h
  simp only [nf] at h
  try simp (disch:=omega) only [go_sem,hE,hH,hb,zCN]
open Go.Proofs.Wb renaming H321→z0_,Write.row→z1_,Write.sz→z2_,zVf→z3_,Write.row_eq→z4_ in
theorem zSB (l:List Write) (hl:szL (Write.sz) l≤2^20):ACall p_ 321 [.sl false 3 (l.map (Write.row false))] (fun r _=>r= .sl true 3 (l.map (Write.row true))):=Q5_
theorem zSC (l:List (List Lock)) (hl:szL (szL (Lock.sz)) l≤2^20):ACall p_ 24 [.sl false 1 (l.map fun y=>[.sl false 3 (y.map (Lock.row false))])] (fun r _=>r= .sl true 1 (l.map fun y=>[.sl true 3 (y.map (Lock.row true))])):=by
 have hl0:l.length≤2^20:=Nat.le_trans zCz hl
 refine fg H24 fun E hE hH=> ?_;refine st ?_
 refine And.intro (by omega) ?_
 rw [zCk (fun y=>[.sl true 3 (y.map (Lock.row true))])]
 refine zAi l.length (fun j (_:Unit)=>⟨[(0, .sl false 1 (l.map fun y=>[.sl false 3 (y.map (Lock.row false))])),(3, .ref 4000000 0 l.length),(4,i64 j)],[(4000000,⟨1,cpy (fun y=>[.sl true 3 (y.map (Lock.row true))]) [zAB] l j⟩)]⟩) (fun _ _=>True) () trivial ?_
 intro j _ hj _
 try simp only [go_sem,hE,hH,zWT]
 refine gG (fun h=> ?_) (fun h=> ?_)
 ·have hb:=h
  simp only [nf] at h
  have hlt:=h;clear h
  have hs:=Nat.le_trans (zCM (f:=szL (Lock.sz)) (zAc hlt)) hl
  try simp (disch:=omega) only [go_sem,hE,hH,hb,zAR,zAC]
  repeat' (first|(refine qz ?_ ?_<;>intro h)|refine qy ?_|refine qo ?_|refine cq (zVg _ (by assumption)) ?_|refine jn _ ?_ ?_|refine qu ?_ ?_|exact qe|refine qw ?_|fail)
  try simp (disch:=omega) only [go_sem,hE,hH,zAR,zAC]
  repeat refine And.intro (by omega) ?_
  try simp (disch:=omega) only [go_sem,hE,hH,zAR,zAC]
  repeat refine And.intro (by omega) ?_
  first|refine ⟨(), ?_,trivial⟩|refine ⟨(), ?_⟩|skip
  have hc:=zCl (f:=fun y=>[.sl true 3 (y.map (Lock.row true))]) (z:=[zAB]) hlt
  rw [hc]
  rfl
 ·have hb:=h
  simp only [nf] at h
  try simp (disch:=omega) only [go_sem,hE,hH,hb,zCN]
theorem zZa (x:Rec) (hs:x.sz≤2^20):ACall p_ 294 [.agg (Rec.row false x)] (fun r _=>r= .agg (Rec.row true x)):=by
 unfold Rec.sz at hs
 refine fg H294 fun E hE hH=> ?_
 repeat' (first|(refine qz ?_ ?_<;>intro h)|refine qy ?_|refine qo ?_|refine cq (zG6 _ (by omega)) ?_|refine cq (zSB _ (by omega)) ?_|refine jn _ ?_ ?_|refine qu ?_ ?_|exact qe|refine qw ?_|fail)
theorem zOo (x:WorldLook) (hs:x.sz≤2^20):ACall p_ 67 [.agg (WorldLook.row false x)] (fun r _=>r= .agg (WorldLook.row true x)):=by
 unfold WorldLook.sz at hs
 refine fg H67 fun E hE hH=> ?_
 repeat' (first|(refine qz ?_ ?_<;>intro h)|refine qy ?_|refine qo ?_|refine cq (zG6 _ (by omega)) ?_|refine cq (zPz _ (by omega)) ?_|refine jn _ ?_ ?_|refine qu ?_ ?_|exact qe|refine qw ?_|fail)
theorem zP2 (x:WorldTxn) (hs:x.sz≤2^20):ACall p_ 66 [.agg (WorldTxn.row false x)] (fun r _=>r= .agg (WorldTxn.row true x)):=by
 unfold WorldTxn.sz at hs
 refine fg H66 fun E hE hH=> ?_
 repeat' (first|(refine qz ?_ ?_<;>intro h)|refine qy ?_|refine qo ?_|refine cq (zY9 _ (by omega)) ?_|refine cq (zPz _ (by omega)) ?_|refine cq (zPy _ (by omega)) ?_|refine jn _ ?_ ?_|refine qu ?_ ?_|exact qe|refine qw ?_|fail)
open Go.Proofs.Wb renaming Entry.sz→z0_,H260→z1_,zZa→z2_ in
theorem zVh (x:Entry) (hs:x.sz≤2^20):ACall p_ 260 [.agg (Entry.row false x)] (fun r _=>r= .agg (Entry.row true x)):=Q6_
theorem zM0 (l:List WorldLook) (hl:szL (WorldLook.sz) l≤2^20):ACall p_ 27 [.sl false 6 (l.map (WorldLook.row false))] (fun r _=>r= .sl true 6 (l.map (WorldLook.row true))):=by
 have hl0:l.length≤2^20:=Nat.le_trans zCz hl
 refine fg H27 fun E hE hH=> ?_;refine st ?_
 refine And.intro (by omega) ?_
 rw [zCk (WorldLook.row true)]
 refine zAi l.length (fun j (_:Unit)=>⟨[(0, .sl false 6 (l.map (WorldLook.row false))),(3, .ref 4000000 0 l.length),(4,i64 j)],[(4000000,⟨6,cpy (WorldLook.row true) [i64 0,zAB,zAB,i64 0,i64 0,i64 0] l j⟩)]⟩) (fun _ _=>True) () trivial ?_
 intro j _ hj _
 try simp only [go_sem,hE,hH,zGL]
 refine gG (fun h=> ?_) (fun h=> ?_)
 ·have hb:=h
  simp only [nf] at h
  have hlt:=h;clear h
  have hs:=Nat.le_trans (zCM (f:=WorldLook.sz) (zAc hlt)) hl
  try simp (disch:=omega) only [go_sem,hE,hH,hb,zAR,zAC]
  repeat' (first|(refine qz ?_ ?_<;>intro h)|refine qy ?_|refine qo ?_|refine cq (zOo _ (by assumption)) ?_|refine jn _ ?_ ?_|refine qu ?_ ?_|exact qe|refine qw ?_|fail)
  try simp (disch:=omega) only [go_sem,hE,hH,zAR,zAC]
  repeat refine And.intro (by omega) ?_
  try simp (disch:=omega) only [go_sem,hE,hH,zAR,zAC]
  repeat refine And.intro (by omega) ?_
  first|refine ⟨(), ?_,trivial⟩|refine ⟨(), ?_⟩|skip
  have hc:=zCl (f:=WorldLook.row true) (z:=[i64 0,zAB,zAB,i64 0,i64 0,i64 0]) hlt
  simp only [WorldLook.row_eq] at hc ⊢
  rw [hc]
  rfl
 ·have hb:=h
  simp only [nf] at h
  try simp (disch:=omega) only [go_sem,hE,hH,hb,zCN]
theorem zOp (l:List WorldTxn) (hl:szL (WorldTxn.sz) l≤2^20):ACall p_ 26 [.sl false 10 (l.map (WorldTxn.row false))] (fun r _=>r= .sl true 10 (l.map (WorldTxn.row true))):=by
 have hl0:l.length≤2^20:=Nat.le_trans zCz hl
 refine fg H26 fun E hE hH=> ?_;refine st ?_
 refine And.intro (by omega) ?_
 rw [zCk (WorldTxn.row true)]
 refine zAi l.length (fun j (_:Unit)=>⟨[(0, .sl false 10 (l.map (WorldTxn.row false))),(3, .ref 4000000 0 l.length),(4,i64 j)],[(4000000,⟨10,cpy (WorldTxn.row true) [zAB,zAB,zAB,i64 0,i64 0,bl false,i64 0,bl false,bl false,bl false] l j⟩)]⟩) (fun _ _=>True) () trivial ?_
 intro j _ hj _
 try simp only [go_sem,hE,hH,zGL]
 refine gG (fun h=> ?_) (fun h=> ?_)
 ·have hb:=h
  simp only [nf] at h
  have hlt:=h;clear h
  have hs:=Nat.le_trans (zCM (f:=WorldTxn.sz) (zAc hlt)) hl
  try simp (disch:=omega) only [go_sem,hE,hH,hb,zAR,zAC]
  repeat' (first|(refine qz ?_ ?_<;>intro h)|refine qy ?_|refine qo ?_|refine cq (zP2 _ (by assumption)) ?_|refine jn _ ?_ ?_|refine qu ?_ ?_|exact qe|refine qw ?_|fail)
  try simp (disch:=omega) only [go_sem,hE,hH,zAR,zAC]
  repeat refine And.intro (by omega) ?_
  try simp (disch:=omega) only [go_sem,hE,hH,zAR,zAC]
  repeat refine And.intro (by omega) ?_
  first|refine ⟨(), ?_,trivial⟩|refine ⟨(), ?_⟩|skip
  have hc:=zCl (f:=WorldTxn.row true) (z:=[zAB,zAB,zAB,i64 0,i64 0,bl false,i64 0,bl false,bl false,bl false]) hlt
  simp only [WorldTxn.row_eq] at hc ⊢
  rw [hc]
  rfl
 ·have hb:=h
  simp only [nf] at h
  try simp (disch:=omega) only [go_sem,hE,hH,hb,zCN]
theorem zSD (l:List Entry) (hl:szL (Entry.sz) l≤2^20):ACall p_ 216 [.sl false 8 (l.map (Entry.row false))] (fun r _=>r= .sl true 8 (l.map (Entry.row true))):=by
 have hl0:l.length≤2^20:=Nat.le_trans zCz hl
 refine fg H216 fun E hE hH=> ?_;refine st ?_
 refine And.intro (by omega) ?_
 rw [zCk (Entry.row true)]
 refine zAi l.length (fun j (_:Unit)=>⟨[(0, .sl false 8 (l.map (Entry.row false))),(3, .ref 4000000 0 l.length),(4,i64 j)],[(4000000,⟨8,cpy (Entry.row true) [i64 0,i64 0,i64 0,i64 0,i64 0,zAB,zAB,bl false] l j⟩)]⟩) (fun _ _=>True) () trivial ?_
 intro j _ hj _
 try simp only [go_sem,hE,hH,zGL]
 refine gG (fun h=> ?_) (fun h=> ?_)
 ·have hb:=h
  simp only [nf] at h
  have hlt:=h;clear h
  have hs:=Nat.le_trans (zCM (f:=Entry.sz) (zAc hlt)) hl
  try simp (disch:=omega) only [go_sem,hE,hH,hb,zAR,zAC]
  repeat' (first|(refine qz ?_ ?_<;>intro h)|refine qy ?_|refine qo ?_|refine cq (zVh _ (by assumption)) ?_|refine jn _ ?_ ?_|refine qu ?_ ?_|exact qe|refine qw ?_|fail)
  try simp (disch:=omega) only [go_sem,hE,hH,zAR,zAC]
  repeat refine And.intro (by omega) ?_
  try simp (disch:=omega) only [go_sem,hE,hH,zAR,zAC]
  repeat refine And.intro (by omega) ?_
  first|refine ⟨(), ?_,trivial⟩|refine ⟨(), ?_⟩|skip
  have hc:=zCl (f:=Entry.row true) (z:=[i64 0,i64 0,i64 0,i64 0,i64 0,zAB,zAB,bl false]) hlt
  simp only [Entry.row_eq] at hc ⊢
  rw [hc]
  rfl
 ·have hb:=h
  simp only [nf] at h
  try simp (disch:=omega) only [go_sem,hE,hH,hb,zCN]
open Go.Proofs.Wb renaming Replica.sz→z0_,H172→z1_,zSD→z2_ in
theorem zRB (x:Replica) (hs:x.sz≤2^20):ACall p_ 172 [.agg (Replica.row false x)] (fun r _=>r= .agg (Replica.row true x)):=Q6_
theorem zP3 (l:List Replica) (hl:szL (Replica.sz) l≤2^20):ACall p_ 117 [.sl false 3 (l.map (Replica.row false))] (fun r _=>r= .sl true 3 (l.map (Replica.row true))):=by
 have hl0:l.length≤2^20:=Nat.le_trans zCz hl
 refine fg H117 fun E hE hH=> ?_;refine st ?_
 refine And.intro (by omega) ?_
 rw [zCk (Replica.row true)]
 refine zAi l.length (fun j (_:Unit)=>⟨[(0, .sl false 3 (l.map (Replica.row false))),(3, .ref 4000000 0 l.length),(4,i64 j)],[(4000000,⟨3,cpy (Replica.row true) [bl false,zAB,i64 0] l j⟩)]⟩) (fun _ _=>True) () trivial ?_
 intro j _ hj _
 try simp only [go_sem,hE,hH,zGL]
 refine gG (fun h=> ?_) (fun h=> ?_)
 ·have hb:=h
  simp only [nf] at h
  have hlt:=h;clear h
  have hs:=Nat.le_trans (zCM (f:=Replica.sz) (zAc hlt)) hl
  try simp (disch:=omega) only [go_sem,hE,hH,hb,zAR,zAC]
  repeat' (first|(refine qz ?_ ?_<;>intro h)|refine qy ?_|refine qo ?_|refine cq (zRB _ (by assumption)) ?_|refine jn _ ?_ ?_|refine qu ?_ ?_|exact qe|refine qw ?_|fail)
  try simp (disch:=omega) only [go_sem,hE,hH,zAR,zAC]
  repeat refine And.intro (by omega) ?_
  try simp (disch:=omega) only [go_sem,hE,hH,zAR,zAC]
  repeat refine And.intro (by omega) ?_
  first|refine ⟨(), ?_,trivial⟩|refine ⟨(), ?_⟩|skip
  have hc:=zCl (f:=Replica.row true) (z:=[bl false,zAB,i64 0]) hlt
  simp only [Replica.row_eq] at hc ⊢
  rw [hc]
  rfl
 ·have hb:=h
  simp only [nf] at h
  try simp (disch:=omega) only [go_sem,hE,hH,hb,zCN]
open Go.Proofs.Wb renaming Group.sz→z0_,H64→z1_,zP3→z2_ in
theorem zVi (x:Group) (hs:x.sz≤2^20):ACall p_ 64 [.agg (Group.row false x)] (fun r _=>r= .agg (Group.row true x)):=Q6_
theorem zSE (l:List Group) (hl:szL (Group.sz) l≤2^20):ACall p_ 23 [.sl false 3 (l.map (Group.row false))] (fun r _=>r= .sl true 3 (l.map (Group.row true))):=by
 have hl0:l.length≤2^20:=Nat.le_trans zCz hl
 refine fg H23 fun E hE hH=> ?_;refine st ?_
 refine And.intro (by omega) ?_
 rw [zCk (Group.row true)]
 refine zAi l.length (fun j (_:Unit)=>⟨[(0, .sl false 3 (l.map (Group.row false))),(3, .ref 4000000 0 l.length),(4,i64 j)],[(4000000,⟨3,cpy (Group.row true) [zAB,i64 0,i64 0] l j⟩)]⟩) (fun _ _=>True) () trivial ?_
 intro j _ hj _
 try simp only [go_sem,hE,hH,zGL]
 refine gG (fun h=> ?_) (fun h=> ?_)
 ·have hb:=h
  simp only [nf] at h
  have hlt:=h;clear h
  have hs:=Nat.le_trans (zCM (f:=Group.sz) (zAc hlt)) hl
  try simp (disch:=omega) only [go_sem,hE,hH,hb,zAR,zAC]
  repeat' (first|(refine qz ?_ ?_<;>intro h)|refine qy ?_|refine qo ?_|refine cq (zVi _ (by assumption)) ?_|refine jn _ ?_ ?_|refine qu ?_ ?_|exact qe|refine qw ?_|fail)
  try simp (disch:=omega) only [go_sem,hE,hH,zAR,zAC]
  repeat refine And.intro (by omega) ?_
  try simp (disch:=omega) only [go_sem,hE,hH,zAR,zAC]
  repeat refine And.intro (by omega) ?_
  first|refine ⟨(), ?_,trivial⟩|refine ⟨(), ?_⟩|skip
  have hc:=zCl (f:=Group.row true) (z:=[zAB,i64 0,i64 0]) hlt
  simp only [Group.row_eq] at hc ⊢
  rw [hc]
  rfl
 ·have hb:=h
  simp only [nf] at h
  try simp (disch:=omega) only [go_sem,hE,hH,hb,zCN]
theorem zVj (x:World) (hs:x.sz≤2^20):ACall p_ 6 [.agg (World.row false x)] (fun r _=>r= .agg (World.row true x)):=by
 unfold World.sz at hs
 refine fg H6 fun E hE hH=> ?_
 repeat' (first|(refine qz ?_ ?_<;>intro h)|refine qy ?_|refine qo ?_|refine cq (zSA _ (by omega)) ?_|refine cq (zG6 _ (by omega)) ?_|refine cq (zSE _ (by omega)) ?_|refine cq (zSC _ (by omega)) ?_|refine cq (zPy _ (by omega)) ?_|refine cq (zOp _ (by omega)) ?_|refine cq (zM0 _ (by omega)) ?_|refine jn _ ?_ ?_|refine qu ?_ ?_|exact qe|refine qw ?_|fail)
theorem zVk (x y:Clock) (hl:x.lim):ACall p_ 93 [.agg (Clock.row false x), .agg (Clock.row false y)] (fun r _=>r=bl (decide (x=y))):=by
 obtain ⟨x_Off⟩:=x
 obtain ⟨y_Off⟩:=y
 refine fg H93 fun E hE hH=> ?_
 repeat' (first|(refine qz ?_ ?_<;>intro h)|refine qy ?_|refine jn _ ?_ ?_|refine qu ?_ ?_|exact qe|refine qw ?_|fail)
 all_goals simp_all [Clock.mk.injEq]
theorem zZb (x y:Got) (hl:x.lim):ACall p_ 204 [.agg (Got.row false x), .agg (Got.row false y)] (fun r _=>r=bl (decide (x=y))):=by
 obtain ⟨x_Key,x_Val,x_There⟩:=x
 obtain ⟨y_Key,y_Val,y_There⟩:=y
 refine fg H204 fun E hE hH=> ?_
 repeat' (first|(refine qz ?_ ?_<;>intro h)|refine qy ?_|refine jn _ ?_ ?_|refine qu ?_ ?_|exact qe|refine qw ?_|fail)
 all_goals simp_all [Got.mk.injEq]
open Go.Proofs.Wb renaming H38→z0_ in
open Go.Am renaming ints→z1_ in
theorem zPA (l m:List Int) (hl:zA2 (fun _=>True) l):ACall p_ 38 [.sl false 1 (ints l), .sl false 1 (ints m)] (fun r _=>r=bl (decide (l=m))):=Q7_
theorem zXl (x y:Lock) (hl:x.lim):ACall p_ 154 [.agg (Lock.row false x), .agg (Lock.row false y)] (fun r _=>r=bl (decide (x=y))):=by
 obtain ⟨x_Key,x_Txn,x_Write⟩:=x
 obtain ⟨y_Key,y_Txn,y_Write⟩:=y
 refine fg H154 fun E hE hH=> ?_
 repeat' (first|(refine qz ?_ ?_<;>intro h)|refine qy ?_|refine jn _ ?_ ?_|refine qu ?_ ?_|exact qe|refine qw ?_|fail)
 all_goals simp_all [Lock.mk.injEq]
theorem zAa0 (x y:Op) (hl:x.lim):ACall p_ 203 [.agg (Op.row false x), .agg (Op.row false y)] (fun r _=>r=bl (decide (x=y))):=by
 obtain ⟨x_Kind,x_Key,x_Val,x_By⟩:=x
 obtain ⟨y_Kind,y_Key,y_Val,y_By⟩:=y
 refine fg H203 fun E hE hH=> ?_
 repeat' (first|(refine qz ?_ ?_<;>intro h)|refine qy ?_|refine jn _ ?_ ?_|refine qu ?_ ?_|exact qe|refine qw ?_|fail)
 all_goals simp_all [Op.mk.injEq]
open Go.Proofs.Wb renaming H35→z0_ in
open Go.Am renaming strs→z1_ in
theorem zG7 (l m:List ByteArray) (hl:zA2 (fun _=>True) l):ACall p_ 35 [.sl false 1 (strs l), .sl false 1 (strs m)] (fun r _=>r=bl (decide (l=m))):=Q7_
theorem zVl (x y:Write) (hl:x.lim):ACall p_ 359 [.agg (Write.row false x), .agg (Write.row false y)] (fun r _=>r=bl (decide (x=y))):=by
 obtain ⟨x_Key,x_Val,x_Gone⟩:=x
 obtain ⟨y_Key,y_Val,y_Gone⟩:=y
 refine fg H359 fun E hE hH=> ?_
 repeat' (first|(refine qz ?_ ?_<;>intro h)|refine qy ?_|refine jn _ ?_ ?_|refine qu ?_ ?_|exact qe|refine qw ?_|fail)
 all_goals simp_all [Write.mk.injEq]
open Go.Proofs.Wb renaming H34→z0_,Clock.row→z2_,zGM→z3_,zVk→z4_ in
open Go.Am renaming k1_→z1_ in
theorem zSF (l m:List Clock) (hl:zA2 (Clock.lim) l):ACall p_ 34 [.sl false 1 (l.map (Clock.row false)), .sl false 1 (m.map (Clock.row false))] (fun r _=>r=bl (decide (l=m))):=Q8_
open Go.Proofs.Wb renaming H156→z0_,Got.row→z2_,zGM→z3_,zZb→z4_ in
open Go.Am renaming k3_→z1_ in
theorem zPB (l m:List Got) (hl:zA2 (Got.lim) l):ACall p_ 156 [.sl false 3 (l.map (Got.row false)), .sl false 3 (m.map (Got.row false))] (fun r _=>r=bl (decide (l=m))):=Q8_
open Go.Proofs.Wb renaming H95→z0_,Lock.row→z2_,zGM→z3_,zXl→z4_ in
open Go.Am renaming k3_→z1_ in
theorem zVm (l m:List Lock) (hl:zA2 (Lock.lim) l):ACall p_ 95 [.sl false 3 (l.map (Lock.row false)), .sl false 3 (m.map (Lock.row false))] (fun r _=>r=bl (decide (l=m))):=Q8_
open Go.Proofs.Wb renaming H155→z0_,Op.row→z2_,zGM→z3_,zAa0→z4_ in
open Go.Am renaming k4_→z1_ in
theorem zZc (l m:List Op) (hl:zA2 (Op.lim) l):ACall p_ 155 [.sl false 4 (l.map (Op.row false)), .sl false 4 (m.map (Op.row false))] (fun r _=>r=bl (decide (l=m))):=Q8_
open Go.Proofs.Wb renaming H344→z0_,Write.row→z2_,zGM→z3_,zVl→z4_ in
open Go.Am renaming k3_→z1_ in
theorem zSG (l m:List Write) (hl:zA2 (Write.lim) l):ACall p_ 344 [.sl false 3 (l.map (Write.row false)), .sl false 3 (m.map (Write.row false))] (fun r _=>r=bl (decide (l=m))):=Q8_
theorem zSH (l m:List (List Lock)) (hl:zA2 (zA2 (Lock.lim)) l):ACall p_ 37 [.sl false 1 (l.map fun y=>[.sl false 3 (y.map (Lock.row false))]), .sl false 1 (m.map fun y=>[.sl false 3 (y.map (Lock.row false))])] (fun r _=>r=bl (decide (l=m))):=by
 obtain ⟨hl,hx⟩:=hl
 have hm:=zAd
 refine fg H37 fun E hE hH=> ?_
 repeat' (first|(refine qz ?_ ?_<;>intro h)|refine qy ?_|refine jn _ ?_ ?_|refine qu ?_ ?_|exact qe|refine qw ?_|fail)
 ·rw [decide_eq_false (fun e=>h (by rw [e]))]
 have hlen:l.length=m.length:=by omega
 clear h
 refine zAi l.length (fun j (_:Unit)=>⟨[(0, .sl false 1 (l.map fun y=>[.sl false 3 (y.map (Lock.row false))])),(1, .sl false 1 (m.map fun y=>[.sl false 3 (y.map (Lock.row false))])),(5,i64 j)],[]⟩) (fun j _=>decide (l=m)=decide (l.drop j=m.drop j)) () (by simp) ?_
 intro j _ hj hI
 try simp only [go_sem,hE,hH,zW2]
 refine gG (fun h=> ?_) (fun h=> ?_)
 ·have hb:=h
  simp only [nf] at h
  have hlt:=h;clear h
  have hlm:j<m.length:=by omega
  rw [zN9 hlt hlm] at hI
  have hs:=hx _ (zAc hlt)
  try refine sb ?_;try exact ⟨⟩
  repeat' (first|(refine qz ?_ ?_<;>intro h)|refine qy ?_|refine qo ?_|refine cq (zVm _ _ (by assumption)) ?_|refine jn _ ?_ ?_|refine qu ?_ ?_|exact qe|refine qw ?_|fail)
  ·rw [hI];simp [h]
  ·exact ⟨(),rfl,by rw [hI];simp [h]⟩
 ·have hb:=h
  simp only [nf] at h
  try refine sb ?_;try exact ⟨⟩
  rw [hI,List.drop_of_length_le (by omega),List.drop_of_length_le (by omega)]
  rfl
theorem zZd (x y:Rec) (hl:x.lim):ACall p_ 319 [.agg (Rec.row false x), .agg (Rec.row false y)] (fun r _=>r=bl (decide (x=y))):=by
 obtain ⟨l_Reads,l_Writes⟩:=hl
 obtain ⟨x_Kind,x_Txn,x_Time,x_Lead,x_Reads,x_Writes,x_Yes⟩:=x
 obtain ⟨y_Kind,y_Txn,y_Time,y_Lead,y_Reads,y_Writes,y_Yes⟩:=y
 refine fg H319 fun E hE hH=> ?_
 repeat' (first|(refine qz ?_ ?_<;>intro h)|refine qy ?_|refine qo ?_|refine cq (zG7 _ _ (by assumption)) ?_|refine cq (zSG _ _ (by assumption)) ?_|refine jn _ ?_ ?_|refine qu ?_ ?_|exact qe|refine qw ?_|fail)
 all_goals simp_all [Rec.mk.injEq]
theorem zOq (x y:WorldLook) (hl:x.lim):ACall p_ 97 [.agg (WorldLook.row false x), .agg (WorldLook.row false y)] (fun r _=>r=bl (decide (x=y))):=by
 obtain ⟨l_Keys,l_Got⟩:=hl
 obtain ⟨x_Node,x_Keys,x_Got,x_Time,x_Begin,x_End⟩:=x
 obtain ⟨y_Node,y_Keys,y_Got,y_Time,y_Begin,y_End⟩:=y
 refine fg H97 fun E hE hH=> ?_
 repeat' (first|(refine qz ?_ ?_<;>intro h)|refine qy ?_|refine qo ?_|refine cq (zG7 _ _ (by assumption)) ?_|refine cq (zPB _ _ (by assumption)) ?_|refine jn _ ?_ ?_|refine qu ?_ ?_|exact qe|refine qw ?_|fail)
 all_goals simp_all [WorldLook.mk.injEq]
theorem zP4 (x y:WorldTxn) (hl:x.lim):ACall p_ 96 [.agg (WorldTxn.row false x), .agg (WorldTxn.row false y)] (fun r _=>r=bl (decide (x=y))):=by
 obtain ⟨l_Ops,l_Got,l_Terms⟩:=hl
 obtain ⟨x_Ops,x_Got,x_Terms,x_Begin,x_End,x_Yes,x_Time,x_Dead,x_Put,x_Stopped⟩:=x
 obtain ⟨y_Ops,y_Got,y_Terms,y_Begin,y_End,y_Yes,y_Time,y_Dead,y_Put,y_Stopped⟩:=y
 refine fg H96 fun E hE hH=> ?_
 repeat' (first|(refine qz ?_ ?_<;>intro h)|refine qy ?_|refine qo ?_|refine cq (zZc _ _ (by assumption)) ?_|refine cq (zPB _ _ (by assumption)) ?_|refine cq (zPA _ _ (by assumption)) ?_|refine jn _ ?_ ?_|refine qu ?_ ?_|exact qe|refine qw ?_|fail)
 all_goals simp_all [WorldTxn.mk.injEq]
theorem zVn (x y:Entry) (hl:x.lim):ACall p_ 288 [.agg (Entry.row false x), .agg (Entry.row false y)] (fun r _=>r=bl (decide (x=y))):=by
 have l_Rec:=hl;unfold Entry.lim at l_Rec
 obtain ⟨x_Term,x_Rec⟩:=x
 obtain ⟨y_Term,y_Rec⟩:=y
 refine fg H288 fun E hE hH=> ?_
 repeat' (first|(refine qz ?_ ?_<;>intro h)|refine qy ?_|refine qo ?_|refine cq (zZd _ _ (by assumption)) ?_|refine jn _ ?_ ?_|refine qu ?_ ?_|exact qe|refine qw ?_|fail)
 all_goals simp_all [Entry.mk.injEq]
open Go.Proofs.Wb renaming H40→z0_,WorldLook.row→z2_,zGN→z3_,zOq→z4_ in
open Go.Am renaming k6_→z1_ in
theorem zM1 (l m:List WorldLook) (hl:zA2 (WorldLook.lim) l):ACall p_ 40 [.sl false 6 (l.map (WorldLook.row false)), .sl false 6 (m.map (WorldLook.row false))] (fun r _=>r=bl (decide (l=m))):=Q8_
open Go.Proofs.Wb renaming H39→z0_,WorldTxn.row→z2_,zGN→z3_,zP4→z4_ in
open Go.Am renaming zWe→z1_ in
theorem zOr (l m:List WorldTxn) (hl:zA2 (WorldTxn.lim) l):ACall p_ 39 [.sl false 10 (l.map (WorldTxn.row false)), .sl false 10 (m.map (WorldTxn.row false))] (fun r _=>r=bl (decide (l=m))):=Q8_
open Go.Proofs.Wb renaming H249→z0_,Entry.row→z2_,zGN→z3_,zVn→z4_ in
open Go.Am renaming k8_→z1_ in
theorem zSI (l m:List Entry) (hl:zA2 (Entry.lim) l):ACall p_ 249 [.sl false 8 (l.map (Entry.row false)), .sl false 8 (m.map (Entry.row false))] (fun r _=>r=bl (decide (l=m))):=Q8_
theorem zRC (x y:Replica) (hl:x.lim):ACall p_ 202 [.agg (Replica.row false x), .agg (Replica.row false y)] (fun r _=>r=bl (decide (x=y))):=by
 have l_Log:=hl;unfold Replica.lim at l_Log
 obtain ⟨x_Up,x_Log,x_Sure⟩:=x
 obtain ⟨y_Up,y_Log,y_Sure⟩:=y
 refine fg H202 fun E hE hH=> ?_
 repeat' (first|(refine qz ?_ ?_<;>intro h)|refine qy ?_|refine qo ?_|refine cq (zSI _ _ (by assumption)) ?_|refine jn _ ?_ ?_|refine qu ?_ ?_|exact qe|refine qw ?_|fail)
 all_goals simp_all [Replica.mk.injEq]
open Go.Proofs.Wb renaming H153→z0_,Replica.row→z2_,zGN→z3_,zRC→z4_ in
open Go.Am renaming k3_→z1_ in
theorem zP5 (l m:List Replica) (hl:zA2 (Replica.lim) l):ACall p_ 153 [.sl false 3 (l.map (Replica.row false)), .sl false 3 (m.map (Replica.row false))] (fun r _=>r=bl (decide (l=m))):=Q8_
theorem zVo (x y:Group) (hl:x.lim):ACall p_ 94 [.agg (Group.row false x), .agg (Group.row false y)] (fun r _=>r=bl (decide (x=y))):=by
 have l_Reps:=hl;unfold Group.lim at l_Reps
 obtain ⟨x_Reps,x_Term,x_Lead⟩:=x
 obtain ⟨y_Reps,y_Term,y_Lead⟩:=y
 refine fg H94 fun E hE hH=> ?_
 repeat' (first|(refine qz ?_ ?_<;>intro h)|refine qy ?_|refine qo ?_|refine cq (zP5 _ _ (by assumption)) ?_|refine jn _ ?_ ?_|refine qu ?_ ?_|exact qe|refine qw ?_|fail)
 all_goals simp_all [Group.mk.injEq]
open Go.Proofs.Wb renaming H36→z0_,Group.row→z2_,zGN→z3_,zVo→z4_ in
open Go.Am renaming k3_→z1_ in
theorem zSJ (l m:List Group) (hl:zA2 (Group.lim) l):ACall p_ 36 [.sl false 3 (l.map (Group.row false)), .sl false 3 (m.map (Group.row false))] (fun r _=>r=bl (decide (l=m))):=Q8_
theorem zVp (x y:World) (hl:x.lim):ACall p_ 8 [.agg (World.row false x), .agg (World.row false y)] (fun r _=>r=bl (decide (x=y))):=by
 obtain ⟨l_Clocks,l_Cuts,l_Groups,l_Locks,l_Promised,l_Txns,l_Looks⟩:=hl
 obtain ⟨x_Now,x_Count,x_Clocks,x_Cuts,x_Groups,x_Locks,x_Promised,x_Txns,x_Looks⟩:=x
 obtain ⟨y_Now,y_Count,y_Clocks,y_Cuts,y_Groups,y_Locks,y_Promised,y_Txns,y_Looks⟩:=y
 refine fg H8 fun E hE hH=> ?_
 repeat' (first|(refine qz ?_ ?_<;>intro h)|refine qy ?_|refine qo ?_|refine cq (zSF _ _ (by assumption)) ?_|refine cq (zG7 _ _ (by assumption)) ?_|refine cq (zSJ _ _ (by assumption)) ?_|refine cq (zSH _ _ (by assumption)) ?_|refine cq (zPA _ _ (by assumption)) ?_|refine cq (zOr _ _ (by assumption)) ?_|refine cq (zM1 _ _ (by assumption)) ?_|refine jn _ ?_ ?_|refine qu ?_ ?_|exact qe|refine qw ?_|fail)
 all_goals simp_all [World.mk.injEq]
end Go.Proofs.Wb

import Derived.Test.YtlcebphcohneaaaGreatFnExactReplicaLookCodes
import Derived.Test.YtlcebphcohneaaaGreatFnExactReplicaLookCodes1
import Derived.Test.YtlcebphcohneaaaGreatAmRaw
set_option linter.unusedSimpArgs false
set_option linter.unusedVariables false
set_option linter.unusedSectionVars false
namespace Go.Proofs.Wb
open Go Go.Am
structure Ver where
 Time : Int
 Val : ByteArray
 Gone : Bool
 deriving DecidableEq, Inhabited
def Ver.row (o : Bool) (x : Ver) : List T := [i64 x.Time, str x.Val, bl x.Gone]
@[go_sem] theorem Ver.row_eq (o : Bool) (x : Ver) : Ver.row o x = [i64 x.Time, str x.Val, bl x.Gone] := rfl
def Ver.wf (x : Ver) : Prop := (-9223372036854775808 ≤ x.Time ∧ x.Time ≤ 9223372036854775807) ∧ (x.Val.size ≤ maxLen)
def Ver.sz (x : Ver) : Nat := x.Val.size
structure Write where
 Key : ByteArray
 Val : ByteArray
 Gone : Bool
 deriving DecidableEq, Inhabited
def Write.row (o : Bool) (x : Write) : List T := [str x.Key, str x.Val, bl x.Gone]
@[go_sem] theorem Write.row_eq (o : Bool) (x : Write) : Write.row o x = [str x.Key, str x.Val, bl x.Gone] := rfl
def Write.wf (x : Write) : Prop := (x.Key.size ≤ maxLen) ∧ (x.Val.size ≤ maxLen)
def Write.sz (x : Write) : Nat := x.Key.size + x.Val.size
structure Told where
 Txn : Int
 Yes : Bool
 Time : Int
 deriving DecidableEq, Inhabited
def Told.row (o : Bool) (x : Told) : List T := [i64 x.Txn, bl x.Yes, i64 x.Time]
@[go_sem] theorem Told.row_eq (o : Bool) (x : Told) : Told.row o x = [i64 x.Txn, bl x.Yes, i64 x.Time] := rfl
def Told.wf (x : Told) : Prop := (-9223372036854775808 ≤ x.Txn ∧ x.Txn ≤ 9223372036854775807) ∧ (-9223372036854775808 ≤ x.Time ∧ x.Time ≤ 9223372036854775807)
structure Cell where
 Key : ByteArray
 Vers : List Ver
 deriving DecidableEq, Inhabited
def Cell.row (o : Bool) (x : Cell) : List T := [str x.Key, .sl o 3 (x.Vers.map (Ver.row o))]
@[go_sem] theorem Cell.row_eq (o : Bool) (x : Cell) : Cell.row o x = [str x.Key, .sl o 3 (x.Vers.map (Ver.row o))] := rfl
def Cell.wf (x : Cell) : Prop := (x.Key.size ≤ maxLen) ∧ (wfL (Ver.wf) x.Vers)
def Cell.sz (x : Cell) : Nat := x.Key.size + szL (Ver.sz) x.Vers
structure Held where
 Txn : Int
 Time : Int
 Lead : Int
 Reads : List ByteArray
 Writes : List Write
 deriving DecidableEq, Inhabited
def Held.row (o : Bool) (x : Held) : List T := [i64 x.Txn, i64 x.Time, i64 x.Lead, .sl o 1 (strs x.Reads), .sl o 3 (x.Writes.map (Write.row o))]
@[go_sem] theorem Held.row_eq (o : Bool) (x : Held) : Held.row o x = [i64 x.Txn, i64 x.Time, i64 x.Lead, .sl o 1 (strs x.Reads), .sl o 3 (x.Writes.map (Write.row o))] := rfl
def Held.wf (x : Held) : Prop := (-9223372036854775808 ≤ x.Txn ∧ x.Txn ≤ 9223372036854775807) ∧ (-9223372036854775808 ≤ x.Time ∧ x.Time ≤ 9223372036854775807) ∧ (-9223372036854775808 ≤ x.Lead ∧ x.Lead ≤ 9223372036854775807) ∧ (wfL (fun s => s.size ≤ maxLen) x.Reads) ∧ (wfL (Write.wf) x.Writes)
def Held.sz (x : Held) : Nat := szL (ByteArray.size) x.Reads + szL (Write.sz) x.Writes
structure Rec where
 Kind : Int
 Txn : Int
 Time : Int
 Lead : Int
 Reads : List ByteArray
 Writes : List Write
 Yes : Bool
 deriving DecidableEq, Inhabited
def Rec.row (o : Bool) (x : Rec) : List T := [i64 x.Kind, i64 x.Txn, i64 x.Time, i64 x.Lead, .sl o 1 (strs x.Reads), .sl o 3 (x.Writes.map (Write.row o)), bl x.Yes]
@[go_sem] theorem Rec.row_eq (o : Bool) (x : Rec) : Rec.row o x = [i64 x.Kind, i64 x.Txn, i64 x.Time, i64 x.Lead, .sl o 1 (strs x.Reads), .sl o 3 (x.Writes.map (Write.row o)), bl x.Yes] := rfl
def Rec.wf (x : Rec) : Prop := (-9223372036854775808 ≤ x.Kind ∧ x.Kind ≤ 9223372036854775807) ∧ (-9223372036854775808 ≤ x.Txn ∧ x.Txn ≤ 9223372036854775807) ∧ (-9223372036854775808 ≤ x.Time ∧ x.Time ≤ 9223372036854775807) ∧ (-9223372036854775808 ≤ x.Lead ∧ x.Lead ≤ 9223372036854775807) ∧ (wfL (fun s => s.size ≤ maxLen) x.Reads) ∧ (wfL (Write.wf) x.Writes)
def Rec.sz (x : Rec) : Nat := szL (ByteArray.size) x.Reads + szL (Write.sz) x.Writes
structure Entry where
 Term : Int
 Rec : Rec
 deriving DecidableEq, Inhabited
def Entry.row (o : Bool) (x : Entry) : List T := [i64 x.Term, i64 x.Rec.Kind, i64 x.Rec.Txn, i64 x.Rec.Time, i64 x.Rec.Lead, .sl o 1 (strs x.Rec.Reads), .sl o 3 (x.Rec.Writes.map (Write.row o)), bl x.Rec.Yes]
@[go_sem] theorem Entry.row_eq (o : Bool) (x : Entry) : Entry.row o x = [i64 x.Term, i64 x.Rec.Kind, i64 x.Rec.Txn, i64 x.Rec.Time, i64 x.Rec.Lead, .sl o 1 (strs x.Rec.Reads), .sl o 3 (x.Rec.Writes.map (Write.row o)), bl x.Rec.Yes] := rfl
def Entry.wf (x : Entry) : Prop := (-9223372036854775808 ≤ x.Term ∧ x.Term ≤ 9223372036854775807) ∧ (x.Rec.wf)
def Entry.sz (x : Entry) : Nat := x.Rec.sz
structure State where
 Floor : Int
 Cells : List Cell
 Held : List Held
 Told : List Told
 deriving DecidableEq, Inhabited
def State.row (o : Bool) (x : State) : List T := [i64 x.Floor, .sl o 2 (x.Cells.map (Cell.row o)), .sl o 5 (x.Held.map (Held.row o)), .sl o 3 (x.Told.map (Told.row o))]
@[go_sem] theorem State.row_eq (o : Bool) (x : State) : State.row o x = [i64 x.Floor, .sl o 2 (x.Cells.map (Cell.row o)), .sl o 5 (x.Held.map (Held.row o)), .sl o 3 (x.Told.map (Told.row o))] := rfl
def State.wf (x : State) : Prop := (-9223372036854775808 ≤ x.Floor ∧ x.Floor ≤ 9223372036854775807) ∧ (wfL (Cell.wf) x.Cells) ∧ (wfL (Held.wf) x.Held) ∧ (wfL (Told.wf) x.Told)
def State.sz (x : State) : Nat := szL (Cell.sz) x.Cells + szL (Held.sz) x.Held + x.Told.length
structure Replica where
 Up : Bool
 Log : List Entry
 Sure : Int
 deriving DecidableEq, Inhabited
def Replica.row (o : Bool) (x : Replica) : List T := [bl x.Up, .sl o 8 (x.Log.map (Entry.row o)), i64 x.Sure]
@[go_sem] theorem Replica.row_eq (o : Bool) (x : Replica) : Replica.row o x = [bl x.Up, .sl o 8 (x.Log.map (Entry.row o)), i64 x.Sure] := rfl
def Replica.wf (x : Replica) : Prop := (wfL (Entry.wf) x.Log) ∧ (-9223372036854775808 ≤ x.Sure ∧ x.Sure ≤ 9223372036854775807)
def Replica.sz (x : Replica) : Nat := szL (Entry.sz) x.Log
structure Group where
 Reps : List Replica
 Term : Int
 Lead : Int
 deriving DecidableEq, Inhabited
def Group.row (o : Bool) (x : Group) : List T := [.sl o 3 (x.Reps.map (Replica.row o)), i64 x.Term, i64 x.Lead]
@[go_sem] theorem Group.row_eq (o : Bool) (x : Group) : Group.row o x = [.sl o 3 (x.Reps.map (Replica.row o)), i64 x.Term, i64 x.Lead] := rfl
def Group.wf (x : Group) : Prop := (wfL (Replica.wf) x.Reps) ∧ (-9223372036854775808 ≤ x.Term ∧ x.Term ≤ 9223372036854775807) ∧ (-9223372036854775808 ≤ x.Lead ∧ x.Lead ≤ 9223372036854775807)
def Group.sz (x : Group) : Nat := szL (Replica.sz) x.Reps
def Ver.lim (x : Ver) : Prop := True
theorem Ver.lim_of {x : Ver} (h : x.wf) : x.lim := by
 exact trivial
def Write.lim (x : Write) : Prop := True
theorem Write.lim_of {x : Write} (h : x.wf) : x.lim := by
 exact trivial
def Told.lim (x : Told) : Prop := True
theorem Told.lim_of {x : Told} (h : x.wf) : x.lim := by
 exact trivial
def Cell.lim (x : Cell) : Prop := (limL (Ver.lim) x.Vers)
theorem Cell.lim_of {x : Cell} (h : x.wf) : x.lim := by
 obtain ⟨w_Key, w_Vers⟩ := h
 exact ⟨w_Vers.1, fun y hy => Ver.lim_of (w_Vers.2 y hy)⟩
def Held.lim (x : Held) : Prop := (limL (fun _ => True) x.Reads) ∧ (limL (Write.lim) x.Writes)
theorem Held.lim_of {x : Held} (h : x.wf) : x.lim := by
 obtain ⟨w_Txn, w_Time, w_Lead, w_Reads, w_Writes⟩ := h
 exact ⟨⟨w_Reads.1, fun _ _ => trivial⟩, ⟨w_Writes.1, fun y hy => Write.lim_of (w_Writes.2 y hy)⟩⟩
def Rec.lim (x : Rec) : Prop := (limL (fun _ => True) x.Reads) ∧ (limL (Write.lim) x.Writes)
theorem Rec.lim_of {x : Rec} (h : x.wf) : x.lim := by
 obtain ⟨w_Kind, w_Txn, w_Time, w_Lead, w_Reads, w_Writes⟩ := h
 exact ⟨⟨w_Reads.1, fun _ _ => trivial⟩, ⟨w_Writes.1, fun y hy => Write.lim_of (w_Writes.2 y hy)⟩⟩
def Entry.lim (x : Entry) : Prop := (x.Rec.lim)
theorem Entry.lim_of {x : Entry} (h : x.wf) : x.lim := by
 obtain ⟨w_Term, w_Rec⟩ := h
 exact Rec.lim_of w_Rec
def State.lim (x : State) : Prop := (limL (Cell.lim) x.Cells) ∧ (limL (Held.lim) x.Held) ∧ (limL (Told.lim) x.Told)
theorem State.lim_of {x : State} (h : x.wf) : x.lim := by
 obtain ⟨w_Floor, w_Cells, w_Held, w_Told⟩ := h
 exact ⟨⟨w_Cells.1, fun y hy => Cell.lim_of (w_Cells.2 y hy)⟩, ⟨w_Held.1, fun y hy => Held.lim_of (w_Held.2 y hy)⟩, ⟨w_Told.1, fun y hy => Told.lim_of (w_Told.2 y hy)⟩⟩
def Replica.lim (x : Replica) : Prop := (limL (Entry.lim) x.Log)
theorem Replica.lim_of {x : Replica} (h : x.wf) : x.lim := by
 obtain ⟨w_Log, w_Sure⟩ := h
 exact ⟨w_Log.1, fun y hy => Entry.lim_of (w_Log.2 y hy)⟩
def Group.lim (x : Group) : Prop := (limL (Replica.lim) x.Reps)
theorem Group.lim_of {x : Group} (h : x.wf) : x.lim := by
 obtain ⟨w_Reps, w_Term, w_Lead⟩ := h
 exact ⟨w_Reps.1, fun y hy => Replica.lim_of (w_Reps.2 y hy)⟩
theorem szStringS_ok (l : List ByteArray) (left : Int) (h0 : 0 ≤ left) (h1 : left ≤ 2 ^ 20) (hw : wfL (fun s => s.size ≤ maxLen) l) : ACall Tryz.prog 72 [.sl false 1 (strs l), i64 left]
  (fun r _ => ∃ n : Int, r = i64 n ∧ n ≤ left ∧ (0 ≤ n → n + (szL (ByteArray.size) l : Nat) = left)) := by
 obtain ⟨hl, hx⟩ := hw
 have hm := mx_eq
 refine fi H72 fun E hE hH => ?_; simp only [go_sem] at hE hH; simp only [go_sem, hE, hH, C72]
 try simp (disch := omega) only [go_sem, hE, hH]
 repeat' (first | ((with_reducible first | refine gd_t ?_ ?_ | refine gd_f ?_ ?_) <;> (intro h; have hb := h; (try simp only [nf] at h); refine sb ?_; (try clear hb))) | ((with_reducible refine And.intro ?_ ?_); · omega) | refine jn _ ?_ ?_ | (with_reducible first | refine both ?_ ?_ | refine And.intro ?_ ?_) | exact fe | refine st ?_ | exact fm | refine s1 ?_ | (with_reducible exact True.intro) | fail)
 ·exact ⟨_, rfl, by omega, by omega⟩
 refine loopN l.length (fun j (n : Int) => ⟨[(0, .sl false 1 (strs l)), (1, i64 n), (5, i64 j)], []⟩) (fun j n => 0 ≤ n ∧ n ≤ left ∧ n + l.length + psum (ByteArray.size) l j = left) (left - (l.length : Int)) (by rw [psum_zero]; omega) ?_
 intro j n hj hI
 obtain ⟨i1, i0, i2⟩ := hI
 try simp only [go_sem, hE, hH, C72_l1]
 first | refine gd_t (fun h => ?_) (fun h => ?_) | refine gd_f (fun h => ?_) (fun h => ?_)
 ·have hb := h
  simp only [nf] at h
  have hlt := h; clear h
  have hs := hx _ (nth_mem hlt)
  try simp (disch := omega) only [go_sem, hE, hH, hb]
  repeat refine And.intro (by omega) ?_
  repeat' (first | ((with_reducible first | refine gd_t ?_ ?_ | refine gd_f ?_ ?_) <;> (intro h; have hb := h; (try simp only [nf] at h); refine sb ?_; (try clear hb))) | ((with_reducible refine And.intro ?_ ?_); · omega) | refine jn _ ?_ ?_ | (with_reducible first | refine both ?_ ?_ | refine And.intro ?_ ?_) | exact fe | refine st ?_ | exact fm | refine s1 ?_ | (with_reducible exact True.intro) | fail)
  ·exact ⟨_, rfl, by omega, by omega⟩
  ·exact ⟨_, rfl, by omega, by omega, by rw [psum_succ hlt]; omega⟩
 ·have hb := h
  simp only [nf] at h
  try simp (disch := omega) only [go_sem, hE, hH, hb]
  exact ⟨_, rfl, by omega, fun _ => by rw [psum_all (by omega)] at i2; rw [show szL (ByteArray.size) l = l.length + (l.map (ByteArray.size)).sum from rfl]; omega⟩
theorem szWrite_ok (x : Write) (left : Int) (h0 : 0 ≤ left) (h1 : left ≤ 2 ^ 20) (hw : x.wf) : ACall Tryz.prog 124 [.agg (Write.row false x), i64 left]
  (fun r _ => ∃ n : Int, r = i64 n ∧ n ≤ left ∧ (0 ≤ n → n + (x.sz : Nat) = left)) := by
 obtain ⟨w_Key, w_Val⟩ := hw
 have hm := mx_eq
 refine fi H124 fun E hE hH => ?_; simp only [go_sem] at hE hH; simp only [go_sem, hE, hH, C124]
 try simp (disch := omega) only [go_sem, hE, hH]
 first | refine gd_t (fun h => ?_) (fun h => ?_) | refine gd_f (fun h => ?_) (fun h => ?_)
 ·have hb := h
  simp only [nf] at h
  try simp (disch := omega) only [go_sem, hE, hH, hb]
  exact ⟨_, rfl, by omega, by omega⟩
 have hb := h
 simp only [nf] at h
 try simp (disch := omega) only [go_sem, hE, hH, hb]
 have p0 : 0 ≤ left - (x.Key.size : Int) := by omega
 clear h hb
 try simp (disch := omega) only [go_sem, hE, hH]
 first | refine gd_t (fun h => ?_) (fun h => ?_) | refine gd_f (fun h => ?_) (fun h => ?_)
 ·have hb := h
  simp only [nf] at h
  try simp (disch := omega) only [go_sem, hE, hH, hb]
  exact ⟨_, rfl, by omega, by omega⟩
 have hb := h
 simp only [nf] at h
 try simp (disch := omega) only [go_sem, hE, hH, hb]
 have p1 : 0 ≤ (left - (x.Key.size : Int)) - (x.Val.size : Int) := by omega
 clear h hb
 exact ⟨_, rfl, by omega, fun _ => by unfold Write.sz; omega⟩
open Go.Proofs.Wb renaming H73 → z0_, C73 → z1_, Write.row → z3_, Write.sz → z4_, C73_l1 → z5_, szWrite_ok → z6_ in
open Go.Am renaming k3_ → z2_ in
theorem szWriteS_ok (l : List Write) (left : Int) (h0 : 0 ≤ left) (h1 : left ≤ 2 ^ 20) (hw : wfL (Write.wf) l) : ACall Tryz.prog 73 [.sl false 3 (l.map (Write.row false)), i64 left]
  (fun r _ => ∃ n : Int, r = i64 n ∧ n ≤ left ∧ (0 ≤ n → n + (szL (Write.sz) l : Nat) = left)) := Q1_
theorem szRec_ok (x : Rec) (left : Int) (h0 : 0 ≤ left) (h1 : left ≤ 2 ^ 20) (hw : x.wf) : ACall Tryz.prog 28 [.agg (Rec.row false x), i64 left]
  (fun r _ => ∃ n : Int, r = i64 n ∧ n ≤ left ∧ (0 ≤ n → n + (x.sz : Nat) = left)) := by
 obtain ⟨w_Kind, w_Txn, w_Time, w_Lead, w_Reads, w_Writes⟩ := hw
 have hm := mx_eq
 refine fi H28 fun E hE hH => ?_; simp only [go_sem] at hE hH; simp only [go_sem, hE, hH, C28]
 refine ok_view ?_; simp (disch := omega) only [go_sem, hE, hH]; refine cvA (szStringS_ok _ _ (by omega) (by omega) w_Reads) ?_
 try simp (disch := omega) only [go_sem, hE, hH]
 refine aftV_intro ?_
 rintro r k ⟨n0, rfl, a0, b0⟩
 try simp (disch := omega) only [go_sem, hE, hH]
 first | refine gd_t (fun h => ?_) (fun h => ?_) | refine gd_f (fun h => ?_) (fun h => ?_)
 ·have hb := h
  simp only [nf] at h
  try simp (disch := omega) only [go_sem, hE, hH, hb]
  exact ⟨_, rfl, by omega, by omega⟩
 have hb := h
 simp only [nf] at h
 try simp (disch := omega) only [go_sem, hE, hH, hb]
 have p0 : 0 ≤ n0 := by omega
 have b0 := b0 p0
 clear h hb
 refine ok_view ?_; simp (disch := omega) only [go_sem, hE, hH]; refine cvA (szWriteS_ok _ _ p0 (by omega) w_Writes) ?_
 try simp (disch := omega) only [go_sem, hE, hH]
 refine aftV_intro ?_
 rintro r k ⟨n1, rfl, a1, b1⟩
 try simp (disch := omega) only [go_sem, hE, hH]
 first | refine gd_t (fun h => ?_) (fun h => ?_) | refine gd_f (fun h => ?_) (fun h => ?_)
 ·have hb := h
  simp only [nf] at h
  try simp (disch := omega) only [go_sem, hE, hH, hb]
  exact ⟨_, rfl, by omega, by omega⟩
 have hb := h
 simp only [nf] at h
 try simp (disch := omega) only [go_sem, hE, hH, hb]
 have p1 : 0 ≤ n1 := by omega
 have b1 := b1 p1
 clear h hb
 exact ⟨_, rfl, by omega, fun _ => by unfold Rec.sz; omega⟩
theorem szEntry_ok (x : Entry) (left : Int) (h0 : 0 ≤ left) (h1 : left ≤ 2 ^ 20) (hw : x.wf) : ACall Tryz.prog 209 [.agg (Entry.row false x), i64 left]
  (fun r _ => ∃ n : Int, r = i64 n ∧ n ≤ left ∧ (0 ≤ n → n + (x.sz : Nat) = left)) := by
 obtain ⟨w_Term, w_Rec⟩ := hw
 have hm := mx_eq
 refine fi H209 fun E hE hH => ?_; simp only [go_sem] at hE hH; simp only [go_sem, hE, hH, C209]
 refine ok_view ?_; simp (disch := omega) only [go_sem, hE, hH]; refine cvA (szRec_ok _ _ (by omega) (by omega) w_Rec) ?_
 try simp (disch := omega) only [go_sem, hE, hH]
 refine aftV_intro ?_
 rintro r k ⟨n0, rfl, a0, b0⟩
 try simp (disch := omega) only [go_sem, hE, hH]
 first | refine gd_t (fun h => ?_) (fun h => ?_) | refine gd_f (fun h => ?_) (fun h => ?_)
 ·have hb := h
  simp only [nf] at h
  try simp (disch := omega) only [go_sem, hE, hH, hb]
  exact ⟨_, rfl, by omega, by omega⟩
 have hb := h
 simp only [nf] at h
 try simp (disch := omega) only [go_sem, hE, hH, hb]
 have p0 : 0 ≤ n0 := by omega
 have b0 := b0 p0
 clear h hb
 exact ⟨_, rfl, by omega, fun _ => by unfold Entry.sz; omega⟩
open Go.Proofs.Wb renaming H160 → z0_, T1_x → z1_, Entry.row → z3_, Entry.sz → z4_, T1_x_l1 → z5_, szEntry_ok → z6_ in
open Go.Am renaming k8_ → z2_ in
theorem szEntryS_ok (l : List Entry) (left : Int) (h0 : 0 ≤ left) (h1 : left ≤ 2 ^ 20) (hw : wfL (Entry.wf) l) : ACall Tryz.prog 160 [.sl false 8 (l.map (Entry.row false)), i64 left]
  (fun r _ => ∃ n : Int, r = i64 n ∧ n ≤ left ∧ (0 ≤ n → n + (szL (Entry.sz) l : Nat) = left)) := Q1_
theorem szReplica_ok (x : Replica) (left : Int) (h0 : 0 ≤ left) (h1 : left ≤ 2 ^ 20) (hw : x.wf) : ACall Tryz.prog 90 [.agg (Replica.row false x), i64 left]
  (fun r _ => ∃ n : Int, r = i64 n ∧ n ≤ left ∧ (0 ≤ n → n + (x.sz : Nat) = left)) := by
 obtain ⟨w_Log, w_Sure⟩ := hw
 have hm := mx_eq
 refine fi H90 fun E hE hH => ?_; simp only [go_sem] at hE hH; simp only [go_sem, hE, hH, C90]
 refine ok_view ?_; simp (disch := omega) only [go_sem, hE, hH]; refine cvA (szEntryS_ok _ _ (by omega) (by omega) w_Log) ?_
 try simp (disch := omega) only [go_sem, hE, hH]
 refine aftV_intro ?_
 rintro r k ⟨n0, rfl, a0, b0⟩
 try simp (disch := omega) only [go_sem, hE, hH]
 first | refine gd_t (fun h => ?_) (fun h => ?_) | refine gd_f (fun h => ?_) (fun h => ?_)
 ·have hb := h
  simp only [nf] at h
  try simp (disch := omega) only [go_sem, hE, hH, hb]
  exact ⟨_, rfl, by omega, by omega⟩
 have hb := h
 simp only [nf] at h
 try simp (disch := omega) only [go_sem, hE, hH, hb]
 have p0 : 0 ≤ n0 := by omega
 have b0 := b0 p0
 clear h hb
 exact ⟨_, rfl, by omega, fun _ => by unfold Replica.sz; omega⟩
open Go.Proofs.Wb renaming H38 → z0_, T1_x → z1_, Replica.row → z3_, Replica.sz → z4_, T1_x_l1 → z5_, szReplica_ok → z6_ in
open Go.Am renaming k3_ → z2_ in
theorem szReplicaS_ok (l : List Replica) (left : Int) (h0 : 0 ≤ left) (h1 : left ≤ 2 ^ 20) (hw : wfL (Replica.wf) l) : ACall Tryz.prog 38 [.sl false 3 (l.map (Replica.row false)), i64 left]
  (fun r _ => ∃ n : Int, r = i64 n ∧ n ≤ left ∧ (0 ≤ n → n + (szL (Replica.sz) l : Nat) = left)) := Q1_
theorem szGroup_ok (x : Group) (left : Int) (h0 : 0 ≤ left) (h1 : left ≤ 2 ^ 20) (hw : x.wf) : ACall Tryz.prog 8 [.agg (Group.row false x), i64 left]
  (fun r _ => ∃ n : Int, r = i64 n ∧ n ≤ left ∧ (0 ≤ n → n + (x.sz : Nat) = left)) := by
 obtain ⟨w_Reps, w_Term, w_Lead⟩ := hw
 have hm := mx_eq
 refine fi H8 fun E hE hH => ?_; simp only [go_sem] at hE hH; simp only [go_sem, hE, hH, C8]
 refine ok_view ?_; simp (disch := omega) only [go_sem, hE, hH]; refine cvA (szReplicaS_ok _ _ (by omega) (by omega) w_Reps) ?_
 try simp (disch := omega) only [go_sem, hE, hH]
 refine aftV_intro ?_
 rintro r k ⟨n0, rfl, a0, b0⟩
 try simp (disch := omega) only [go_sem, hE, hH]
 first | refine gd_t (fun h => ?_) (fun h => ?_) | refine gd_f (fun h => ?_) (fun h => ?_)
 ·have hb := h
  simp only [nf] at h
  try simp (disch := omega) only [go_sem, hE, hH, hb]
  exact ⟨_, rfl, by omega, by omega⟩
 have hb := h
 simp only [nf] at h
 try simp (disch := omega) only [go_sem, hE, hH, hb]
 have p0 : 0 ≤ n0 := by omega
 have b0 := b0 p0
 clear h hb
 exact ⟨_, rfl, by omega, fun _ => by unfold Group.sz; omega⟩
theorem toStringS_ok (l : List ByteArray) (hl : szL (ByteArray.size) l ≤ 2 ^ 20) : ACall Tryz.prog 79 [.sl false 1 (strs l)] (fun r _ => r = .sl true 1 (strs l)) := by
 have hl0 : l.length ≤ 2 ^ 20 := Nat.le_trans szL_len hl
 refine fi H79 fun E hE hH => ?_; simp only [go_sem] at hE hH; simp only [go_sem, hE, hH, C79]
 refine And.intro (by omega) ?_
 rw [cpy_zero (fun x => [str x])]
 refine loopN l.length (fun j (_ : Unit) => ⟨[(0, .sl false 1 (strs l)), (3, .ref 4000000 0 l.length), (4, i64 j)], [(4000000, ⟨1, cpy (fun x => [str x]) [str ⟨⟨[]⟩⟩] l j⟩)]⟩) (fun _ _ => True) () trivial ?_
 intro j _ hj _
 try simp only [go_sem, hE, hH, C79_l1]
 first | refine gd_t (fun h => ?_) (fun h => ?_) | refine gd_f (fun h => ?_) (fun h => ?_)
 ·have hb := h
  simp only [nf] at h
  have hlt := h; clear h
  try simp (disch := omega) only [go_sem, hE, hH, hb, cpy_at, cpy_len]
  repeat' (first | ((with_reducible first | refine gd_t ?_ ?_ | refine gd_f ?_ ?_) <;> (intro h; have hb := h; (try simp only [nf] at h); refine sb ?_; (try clear hb))) | ((with_reducible refine And.intro ?_ ?_); · omega) | refine jn _ ?_ ?_ | (with_reducible first | refine both ?_ ?_ | refine And.intro ?_ ?_) | exact fe | refine st ?_ | exact fm | refine s1 ?_ | (with_reducible exact True.intro) | fail)
  try try simp (disch := omega) only [go_sem, hE, hH, cpy_at, cpy_len]
  repeat refine And.intro (by omega) ?_
  try try simp (disch := omega) only [go_sem, hE, hH, cpy_at, cpy_len]
  repeat refine And.intro (by omega) ?_
  first | refine ⟨(), ?_, trivial⟩ | refine ⟨(), ?_⟩ | skip
  have hc := cpy_step (f := fun x => [str x]) (z := [str ⟨⟨[]⟩⟩]) hlt
  rw [hc]
  rfl
 ·have hb := h
  simp only [nf] at h
  try simp (disch := omega) only [go_sem, hE, hH, hb, cpy_end]
theorem toWrite_ok (x : Write) (hs : x.sz ≤ 2 ^ 20) : ACall Tryz.prog 141 [.agg (Write.row false x)] (fun r _ => r = .agg (Write.row true x)) := by
 unfold Write.sz at hs
 refine fi H141 fun E hE hH => ?_; simp only [go_sem] at hE hH; simp only [go_sem, hE, hH, C141]
 repeat' (first | ((with_reducible first | refine gd_t ?_ ?_ | refine gd_f ?_ ?_) <;> (intro h; have hb := h; (try simp only [nf] at h); refine sb ?_; (try clear hb))) | ((with_reducible refine And.intro ?_ ?_); · omega) | refine jn _ ?_ ?_ | (with_reducible first | refine both ?_ ?_ | refine And.intro ?_ ?_) | exact fe | refine st ?_ | exact fm | refine s1 ?_ | (with_reducible exact True.intro) | fail)
theorem toWriteS_ok (l : List Write) (hl : szL (Write.sz) l ≤ 2 ^ 20) : ACall Tryz.prog 80 [.sl false 3 (l.map (Write.row false))] (fun r _ => r = .sl true 3 (l.map (Write.row true))) := by
 have hl0 : l.length ≤ 2 ^ 20 := Nat.le_trans szL_len hl
 refine fi H80 fun E hE hH => ?_; simp only [go_sem] at hE hH; simp only [go_sem, hE, hH, C80]
 refine And.intro (by omega) ?_
 rw [cpy_zero (Write.row true)]
 refine loopN l.length (fun j (_ : Unit) => ⟨[(0, .sl false 3 (l.map (Write.row false))), (3, .ref 4000000 0 l.length), (4, i64 j)], [(4000000, ⟨3, cpy (Write.row true) [str ⟨⟨[]⟩⟩, str ⟨⟨[]⟩⟩, bl false] l j⟩)]⟩) (fun _ _ => True) () trivial ?_
 intro j _ hj _
 try simp only [go_sem, hE, hH, C80_l1]
 first | refine gd_t (fun h => ?_) (fun h => ?_) | refine gd_f (fun h => ?_) (fun h => ?_)
 ·have hb := h
  simp only [nf] at h
  have hlt := h; clear h
  have hs := Nat.le_trans (szL_mem (f := Write.sz) (nth_mem hlt)) hl
  try simp (disch := omega) only [go_sem, hE, hH, hb, cpy_at, cpy_len]
  repeat' (first | ((with_reducible first | refine gd_t ?_ ?_ | refine gd_f ?_ ?_) <;> (intro h; have hb := h; (try simp only [nf] at h); refine sb ?_; (try clear hb))) | ((with_reducible refine And.intro ?_ ?_); · omega) | ((first | refine ok_view ?_ | refine cvA (toWrite_ok _ (by assumption)) ?_); refine st ?_) | refine jn _ ?_ ?_ | (with_reducible first | refine both ?_ ?_ | refine And.intro ?_ ?_) | exact fe | refine st ?_ | exact fm | refine s1 ?_ | (with_reducible exact True.intro) | fail)
  try try simp (disch := omega) only [go_sem, hE, hH, cpy_at, cpy_len]
  repeat refine And.intro (by omega) ?_
  try try simp (disch := omega) only [go_sem, hE, hH, cpy_at, cpy_len]
  repeat refine And.intro (by omega) ?_
  first | refine ⟨(), ?_, trivial⟩ | refine ⟨(), ?_⟩ | skip
  have hc := cpy_step (f := Write.row true) (z := [str ⟨⟨[]⟩⟩, str ⟨⟨[]⟩⟩, bl false]) hlt
  simp only [Write.row_eq] at hc ⊢
  rw [hc]
  rfl
 ·have hb := h
  simp only [nf] at h
  try simp (disch := omega) only [go_sem, hE, hH, hb, cpy_end]
theorem toRec_ok (x : Rec) (hs : x.sz ≤ 2 ^ 20) : ACall Tryz.prog 31 [.agg (Rec.row false x)] (fun r _ => r = .agg (Rec.row true x)) := by
 unfold Rec.sz at hs
 refine fi H31 fun E hE hH => ?_; simp only [go_sem] at hE hH; simp only [go_sem, hE, hH, C31]
 repeat' (first | ((with_reducible first | refine gd_t ?_ ?_ | refine gd_f ?_ ?_) <;> (intro h; have hb := h; (try simp only [nf] at h); refine sb ?_; (try clear hb))) | ((with_reducible refine And.intro ?_ ?_); · omega) | ((first | refine ok_view ?_ | refine cvA (toStringS_ok _ (by omega)) ?_ | refine cvA (toWriteS_ok _ (by omega)) ?_); refine st ?_) | refine jn _ ?_ ?_ | (with_reducible first | refine both ?_ ?_ | refine And.intro ?_ ?_) | exact fe | refine st ?_ | exact fm | refine s1 ?_ | (with_reducible exact True.intro) | fail)
open Go.Proofs.Wb renaming Entry.sz → z0_, H210 → z1_, C210 → z2_, toRec_ok → z3_ in
theorem toEntry_ok (x : Entry) (hs : x.sz ≤ 2 ^ 20) : ACall Tryz.prog 210 [.agg (Entry.row false x)] (fun r _ => r = .agg (Entry.row true x)) := Q2_
theorem toEntryS_ok (l : List Entry) (hl : szL (Entry.sz) l ≤ 2 ^ 20) : ACall Tryz.prog 161 [.sl false 8 (l.map (Entry.row false))] (fun r _ => r = .sl true 8 (l.map (Entry.row true))) := by
 have hl0 : l.length ≤ 2 ^ 20 := Nat.le_trans szL_len hl
 refine fi H161 fun E hE hH => ?_; simp only [go_sem] at hE hH; simp only [go_sem, hE, hH, T2_x]
 refine And.intro (by omega) ?_
 rw [cpy_zero (Entry.row true)]
 refine loopN l.length (fun j (_ : Unit) => ⟨[(0, .sl false 8 (l.map (Entry.row false))), (3, .ref 4000000 0 l.length), (4, i64 j)], [(4000000, ⟨8, cpy (Entry.row true) [i64 0, i64 0, i64 0, i64 0, i64 0, nils, nils, bl false] l j⟩)]⟩) (fun _ _ => True) () trivial ?_
 intro j _ hj _
 try simp only [go_sem, hE, hH, T2_x_l1]
 first | refine gd_t (fun h => ?_) (fun h => ?_) | refine gd_f (fun h => ?_) (fun h => ?_)
 ·have hb := h
  simp only [nf] at h
  have hlt := h; clear h
  have hs := Nat.le_trans (szL_mem (f := Entry.sz) (nth_mem hlt)) hl
  try simp (disch := omega) only [go_sem, hE, hH, hb, cpy_at, cpy_len]
  repeat' (first | ((with_reducible first | refine gd_t ?_ ?_ | refine gd_f ?_ ?_) <;> (intro h; have hb := h; (try simp only [nf] at h); refine sb ?_; (try clear hb))) | ((with_reducible refine And.intro ?_ ?_); · omega) | ((first | refine ok_view ?_ | refine cvA (toEntry_ok _ (by assumption)) ?_); refine st ?_) | refine jn _ ?_ ?_ | (with_reducible first | refine both ?_ ?_ | refine And.intro ?_ ?_) | exact fe | refine st ?_ | exact fm | refine s1 ?_ | (with_reducible exact True.intro) | fail)
  try try simp (disch := omega) only [go_sem, hE, hH, cpy_at, cpy_len]
  repeat refine And.intro (by omega) ?_
  try try simp (disch := omega) only [go_sem, hE, hH, cpy_at, cpy_len]
  repeat refine And.intro (by omega) ?_
  first | refine ⟨(), ?_, trivial⟩ | refine ⟨(), ?_⟩ | skip
  have hc := cpy_step (f := Entry.row true) (z := [i64 0, i64 0, i64 0, i64 0, i64 0, nils, nils, bl false]) hlt
  simp only [Entry.row_eq] at hc ⊢
  rw [hc]
  rfl
 ·have hb := h
  simp only [nf] at h
  try simp (disch := omega) only [go_sem, hE, hH, hb, cpy_end]
open Go.Proofs.Wb renaming Replica.sz → z0_, H94 → z1_, C94 → z2_, toEntryS_ok → z3_ in
theorem toReplica_ok (x : Replica) (hs : x.sz ≤ 2 ^ 20) : ACall Tryz.prog 94 [.agg (Replica.row false x)] (fun r _ => r = .agg (Replica.row true x)) := Q2_
theorem toReplicaS_ok (l : List Replica) (hl : szL (Replica.sz) l ≤ 2 ^ 20) : ACall Tryz.prog 43 [.sl false 3 (l.map (Replica.row false))] (fun r _ => r = .sl true 3 (l.map (Replica.row true))) := by
 have hl0 : l.length ≤ 2 ^ 20 := Nat.le_trans szL_len hl
 refine fi H43 fun E hE hH => ?_; simp only [go_sem] at hE hH; simp only [go_sem, hE, hH, T2_x]
 refine And.intro (by omega) ?_
 rw [cpy_zero (Replica.row true)]
 refine loopN l.length (fun j (_ : Unit) => ⟨[(0, .sl false 3 (l.map (Replica.row false))), (3, .ref 4000000 0 l.length), (4, i64 j)], [(4000000, ⟨3, cpy (Replica.row true) [bl false, nils, i64 0] l j⟩)]⟩) (fun _ _ => True) () trivial ?_
 intro j _ hj _
 try simp only [go_sem, hE, hH, T2_x_l1]
 first | refine gd_t (fun h => ?_) (fun h => ?_) | refine gd_f (fun h => ?_) (fun h => ?_)
 ·have hb := h
  simp only [nf] at h
  have hlt := h; clear h
  have hs := Nat.le_trans (szL_mem (f := Replica.sz) (nth_mem hlt)) hl
  try simp (disch := omega) only [go_sem, hE, hH, hb, cpy_at, cpy_len]
  repeat' (first | ((with_reducible first | refine gd_t ?_ ?_ | refine gd_f ?_ ?_) <;> (intro h; have hb := h; (try simp only [nf] at h); refine sb ?_; (try clear hb))) | ((with_reducible refine And.intro ?_ ?_); · omega) | ((first | refine ok_view ?_ | refine cvA (toReplica_ok _ (by assumption)) ?_); refine st ?_) | refine jn _ ?_ ?_ | (with_reducible first | refine both ?_ ?_ | refine And.intro ?_ ?_) | exact fe | refine st ?_ | exact fm | refine s1 ?_ | (with_reducible exact True.intro) | fail)
  try try simp (disch := omega) only [go_sem, hE, hH, cpy_at, cpy_len]
  repeat refine And.intro (by omega) ?_
  try try simp (disch := omega) only [go_sem, hE, hH, cpy_at, cpy_len]
  repeat refine And.intro (by omega) ?_
  first | refine ⟨(), ?_, trivial⟩ | refine ⟨(), ?_⟩ | skip
  have hc := cpy_step (f := Replica.row true) (z := [bl false, nils, i64 0]) hlt
  simp only [Replica.row_eq] at hc ⊢
  rw [hc]
  rfl
 ·have hb := h
  simp only [nf] at h
  try simp (disch := omega) only [go_sem, hE, hH, hb, cpy_end]
open Go.Proofs.Wb renaming Group.sz → z0_, H10 → z1_, C10 → z2_, toReplicaS_ok → z3_ in
theorem toGroup_ok (x : Group) (hs : x.sz ≤ 2 ^ 20) : ACall Tryz.prog 10 [.agg (Group.row false x)] (fun r _ => r = .agg (Group.row true x)) := Q2_
theorem eqStringS_ok (l m : List ByteArray) (hl : limL (fun _ => True) l) : ACall Tryz.prog 83 [.sl false 1 (strs l), .sl false 1 (strs m)] (fun r _ => r = bl (decide (l = m))) := by
 obtain ⟨hl, hx⟩ := hl
 have hm := mx_eq
 refine fi H83 fun E hE hH => ?_; simp only [go_sem] at hE hH; simp only [go_sem, hE, hH, C83]
 repeat' (first | ((with_reducible first | refine gd_t ?_ ?_ | refine gd_f ?_ ?_) <;> (intro h; have hb := h; (try simp only [nf] at h); refine sb ?_; (try clear hb))) | ((with_reducible refine And.intro ?_ ?_); · omega) | refine jn _ ?_ ?_ | (with_reducible first | refine both ?_ ?_ | refine And.intro ?_ ?_) | exact fe | refine st ?_ | exact fm | refine s1 ?_ | (with_reducible exact True.intro) | fail)
 ·rw [decide_eq_false (fun e => h (by rw [e]))]
 have hlen : l.length = m.length := by omega
 clear h
 refine loopN l.length (fun j (_ : Unit) => ⟨[(0, .sl false 1 (strs l)), (1, .sl false 1 (strs m)), (5, i64 j)], []⟩) (fun j _ => decide (l = m) = decide (l.drop j = m.drop j)) () (by simp) ?_
 intro j _ hj hI
 try simp only [go_sem, hE, hH, C83_l1]
 first | refine gd_t (fun h => ?_) (fun h => ?_) | refine gd_f (fun h => ?_) (fun h => ?_)
 ·have hb := h
  simp only [nf] at h
  have hlt := h; clear h
  have hlm : j < m.length := by omega
  rw [drop_eq hlt hlm] at hI
  try simp (disch := omega) only [go_sem, hE, hH, hb]
  repeat' (first | ((with_reducible first | refine gd_t ?_ ?_ | refine gd_f ?_ ?_) <;> (intro h; have hb := h; (try simp only [nf] at h); refine sb ?_; (try clear hb))) | ((with_reducible refine And.intro ?_ ?_); · omega) | refine jn _ ?_ ?_ | (with_reducible first | refine both ?_ ?_ | refine And.intro ?_ ?_) | exact fe | refine st ?_ | exact fm | refine s1 ?_ | (with_reducible exact True.intro) | fail)
  ·rw [hI]; simp [h]
  ·exact ⟨(), rfl, by rw [hI]; simp [h]⟩
 ·have hb := h
  simp only [nf] at h
  try simp (disch := omega) only [go_sem, hE, hH, hb]
  rw [hI, List.drop_of_length_le (by omega), List.drop_of_length_le (by omega)]
  rfl
theorem eqWrite_ok (x y : Write) (hl : x.lim) : ACall Tryz.prog 152 [.agg (Write.row false x), .agg (Write.row false y)] (fun r _ => r = bl (decide (x = y))) := by
 obtain ⟨x_Key, x_Val, x_Gone⟩ := x
 obtain ⟨y_Key, y_Val, y_Gone⟩ := y
 refine fi H152 fun E hE hH => ?_; simp only [go_sem] at hE hH; simp only [go_sem, hE, hH, C152]
 repeat' (first | ((with_reducible first | refine gd_t ?_ ?_ | refine gd_f ?_ ?_) <;> (intro h; have hb := h; (try simp only [nf] at h); refine sb ?_; (try clear hb))) | ((with_reducible refine And.intro ?_ ?_); · omega) | refine jn _ ?_ ?_ | (with_reducible first | refine both ?_ ?_ | refine And.intro ?_ ?_) | exact fe | refine st ?_ | exact fm | refine s1 ?_ | (with_reducible exact True.intro) | fail)
 all_goals simp_all [Write.mk.injEq]
open Go.Proofs.Wb renaming H84 → z0_, C84 → z1_, Write.row → z3_, C84_l1 → z4_, eqWrite_ok → z5_ in
open Go.Am renaming k3_ → z2_ in
theorem eqWriteS_ok (l m : List Write) (hl : limL (Write.lim) l) : ACall Tryz.prog 84 [.sl false 3 (l.map (Write.row false)), .sl false 3 (m.map (Write.row false))] (fun r _ => r = bl (decide (l = m))) := Q3_
theorem eqRec_ok (x y : Rec) (hl : x.lim) : ACall Tryz.prog 33 [.agg (Rec.row false x), .agg (Rec.row false y)] (fun r _ => r = bl (decide (x = y))) := by
 obtain ⟨l_Reads, l_Writes⟩ := hl
 obtain ⟨x_Kind, x_Txn, x_Time, x_Lead, x_Reads, x_Writes, x_Yes⟩ := x
 obtain ⟨y_Kind, y_Txn, y_Time, y_Lead, y_Reads, y_Writes, y_Yes⟩ := y
 refine fi H33 fun E hE hH => ?_; simp only [go_sem] at hE hH; simp only [go_sem, hE, hH, C33]
 repeat' (first | ((with_reducible first | refine gd_t ?_ ?_ | refine gd_f ?_ ?_) <;> (intro h; have hb := h; (try simp only [nf] at h); refine sb ?_; (try clear hb))) | ((with_reducible refine And.intro ?_ ?_); · omega) | ((first | refine ok_view ?_ | refine cvA (eqStringS_ok _ _ (by assumption)) ?_ | refine cvA (eqWriteS_ok _ _ (by assumption)) ?_); refine st ?_) | refine jn _ ?_ ?_ | (with_reducible first | refine both ?_ ?_ | refine And.intro ?_ ?_) | exact fe | refine st ?_ | exact fm | refine s1 ?_ | (with_reducible exact True.intro) | fail)
 all_goals simp_all [Rec.mk.injEq]
theorem eqEntry_ok (x y : Entry) (hl : x.lim) : ACall Tryz.prog 211 [.agg (Entry.row false x), .agg (Entry.row false y)] (fun r _ => r = bl (decide (x = y))) := by
 have l_Rec := hl; unfold Entry.lim at l_Rec
 obtain ⟨x_Term, x_Rec⟩ := x
 obtain ⟨y_Term, y_Rec⟩ := y
 refine fi H211 fun E hE hH => ?_; simp only [go_sem] at hE hH; simp only [go_sem, hE, hH, C211]
 repeat' (first | ((with_reducible first | refine gd_t ?_ ?_ | refine gd_f ?_ ?_) <;> (intro h; have hb := h; (try simp only [nf] at h); refine sb ?_; (try clear hb))) | ((with_reducible refine And.intro ?_ ?_); · omega) | ((first | refine ok_view ?_ | refine cvA (eqRec_ok _ _ (by assumption)) ?_); refine st ?_) | refine jn _ ?_ ?_ | (with_reducible first | refine both ?_ ?_ | refine And.intro ?_ ?_) | exact fe | refine st ?_ | exact fm | refine s1 ?_ | (with_reducible exact True.intro) | fail)
 all_goals simp_all [Entry.mk.injEq]
open Go.Proofs.Wb renaming H162 → z0_, T3_x → z1_, Entry.row → z3_, T3_x_l1 → z4_, eqEntry_ok → z5_ in
open Go.Am renaming k8_ → z2_ in
theorem eqEntryS_ok (l m : List Entry) (hl : limL (Entry.lim) l) : ACall Tryz.prog 162 [.sl false 8 (l.map (Entry.row false)), .sl false 8 (m.map (Entry.row false))] (fun r _ => r = bl (decide (l = m))) := Q3_
theorem eqReplica_ok (x y : Replica) (hl : x.lim) : ACall Tryz.prog 99 [.agg (Replica.row false x), .agg (Replica.row false y)] (fun r _ => r = bl (decide (x = y))) := by
 have l_Log := hl; unfold Replica.lim at l_Log
 obtain ⟨x_Up, x_Log, x_Sure⟩ := x
 obtain ⟨y_Up, y_Log, y_Sure⟩ := y
 refine fi H99 fun E hE hH => ?_; simp only [go_sem] at hE hH; simp only [go_sem, hE, hH, C99]
 repeat' (first | ((with_reducible first | refine gd_t ?_ ?_ | refine gd_f ?_ ?_) <;> (intro h; have hb := h; (try simp only [nf] at h); refine sb ?_; (try clear hb))) | ((with_reducible refine And.intro ?_ ?_); · omega) | ((first | refine ok_view ?_ | refine cvA (eqEntryS_ok _ _ (by assumption)) ?_); refine st ?_) | refine jn _ ?_ ?_ | (with_reducible first | refine both ?_ ?_ | refine And.intro ?_ ?_) | exact fe | refine st ?_ | exact fm | refine s1 ?_ | (with_reducible exact True.intro) | fail)
 all_goals simp_all [Replica.mk.injEq]
open Go.Proofs.Wb renaming H47 → z0_, T3_x → z1_, Replica.row → z3_, T3_x_l1 → z4_, eqReplica_ok → z5_ in
open Go.Am renaming k3_ → z2_ in
theorem eqReplicaS_ok (l m : List Replica) (hl : limL (Replica.lim) l) : ACall Tryz.prog 47 [.sl false 3 (l.map (Replica.row false)), .sl false 3 (m.map (Replica.row false))] (fun r _ => r = bl (decide (l = m))) := Q3_
theorem eqGroup_ok (x y : Group) (hl : x.lim) : ACall Tryz.prog 12 [.agg (Group.row false x), .agg (Group.row false y)] (fun r _ => r = bl (decide (x = y))) := by
 have l_Reps := hl; unfold Group.lim at l_Reps
 obtain ⟨x_Reps, x_Term, x_Lead⟩ := x
 obtain ⟨y_Reps, y_Term, y_Lead⟩ := y
 refine fi H12 fun E hE hH => ?_; simp only [go_sem] at hE hH; simp only [go_sem, hE, hH, C12]
 repeat' (first | ((with_reducible first | refine gd_t ?_ ?_ | refine gd_f ?_ ?_) <;> (intro h; have hb := h; (try simp only [nf] at h); refine sb ?_; (try clear hb))) | ((with_reducible refine And.intro ?_ ?_); · omega) | ((first | refine ok_view ?_ | refine cvA (eqReplicaS_ok _ _ (by assumption)) ?_); refine st ?_) | refine jn _ ?_ ?_ | (with_reducible first | refine both ?_ ?_ | refine And.intro ?_ ?_) | exact fe | refine st ?_ | exact fm | refine s1 ?_ | (with_reducible exact True.intro) | fail)
 all_goals simp_all [Group.mk.injEq]
end Go.Proofs.Wb

/- The types of the laws and their helper functions. -/
import Derived.Test.YtfnbfkgbflfkdaaGreatFnExactGoodWorldCodes1
import Derived.Test.YtfnbfkgbflfkdaaGreatAmSet
set_option linter.unusedSimpArgs false
set_option linter.unusedVariables false
set_option linter.unusedSectionVars false
namespace Go.Proofs.Wb
open Go Go.Am
--@T Got
structure Got where
  Key : ByteArray
  Val : ByteArray
  There : Bool
  deriving DecidableEq, Inhabited
def Got.row (o : Bool) (x : Got) : List T := [str x.Key, str x.Val, bl x.There]
@[go_sem] theorem Got.row_eq (o : Bool) (x : Got) : Got.row o x = [str x.Key, str x.Val, bl x.There] := rfl
def Got.wf (x : Got) : Prop := (x.Key.size ≤ maxLen) ∧ (x.Val.size ≤ maxLen)
def Got.sz (x : Got) : Nat := x.Key.size + x.Val.size
--@T Lock
structure Lock where
  Key : ByteArray
  Txn : Int
  Write : Bool
  deriving DecidableEq, Inhabited
def Lock.row (o : Bool) (x : Lock) : List T := [str x.Key, i64 x.Txn, bl x.Write]
@[go_sem] theorem Lock.row_eq (o : Bool) (x : Lock) : Lock.row o x = [str x.Key, i64 x.Txn, bl x.Write] := rfl
def Lock.wf (x : Lock) : Prop := (x.Key.size ≤ maxLen) ∧ (-9223372036854775808 ≤ x.Txn ∧ x.Txn ≤ 9223372036854775807)
def Lock.sz (x : Lock) : Nat := x.Key.size
--@T Op
structure Op where
  Kind : Int
  Key : ByteArray
  Val : ByteArray
  By : Int
  deriving DecidableEq, Inhabited
def Op.row (o : Bool) (x : Op) : List T := [i64 x.Kind, str x.Key, str x.Val, i64 x.By]
@[go_sem] theorem Op.row_eq (o : Bool) (x : Op) : Op.row o x = [i64 x.Kind, str x.Key, str x.Val, i64 x.By] := rfl
def Op.wf (x : Op) : Prop := (-9223372036854775808 ≤ x.Kind ∧ x.Kind ≤ 9223372036854775807) ∧ (x.Key.size ≤ maxLen) ∧ (x.Val.size ≤ maxLen) ∧ (-9223372036854775808 ≤ x.By ∧ x.By ≤ 9223372036854775807)
def Op.sz (x : Op) : Nat := x.Key.size + x.Val.size
--@T Write
structure Write where
  Key : ByteArray
  Val : ByteArray
  Gone : Bool
  deriving DecidableEq, Inhabited
def Write.row (o : Bool) (x : Write) : List T := [str x.Key, str x.Val, bl x.Gone]
@[go_sem] theorem Write.row_eq (o : Bool) (x : Write) : Write.row o x = [str x.Key, str x.Val, bl x.Gone] := rfl
def Write.wf (x : Write) : Prop := (x.Key.size ≤ maxLen) ∧ (x.Val.size ≤ maxLen)
def Write.sz (x : Write) : Nat := x.Key.size + x.Val.size
--@T Clock
structure Clock where
  Off : Int
  deriving DecidableEq, Inhabited
def Clock.row (o : Bool) (x : Clock) : List T := [i64 x.Off]
@[go_sem] theorem Clock.row_eq (o : Bool) (x : Clock) : Clock.row o x = [i64 x.Off] := rfl
def Clock.wf (x : Clock) : Prop := (-9223372036854775808 ≤ x.Off ∧ x.Off ≤ 9223372036854775807)
--@T Rec
structure Rec where
  Kind : Int
  Txn : Int
  Time : Int
  Lead : Int
  Reads : List ByteArray
  Writes : List Write
  Yes : Bool
  deriving DecidableEq, Inhabited
def Rec.row (o : Bool) (x : Rec) : List T := [i64 x.Kind, i64 x.Txn, i64 x.Time, i64 x.Lead, .sl o 1 (strs x.Reads), .sl o 3 (x.Writes.map (Write.row o)), bl x.Yes]
@[go_sem] theorem Rec.row_eq (o : Bool) (x : Rec) : Rec.row o x = [i64 x.Kind, i64 x.Txn, i64 x.Time, i64 x.Lead, .sl o 1 (strs x.Reads), .sl o 3 (x.Writes.map (Write.row o)), bl x.Yes] := rfl
def Rec.wf (x : Rec) : Prop := (-9223372036854775808 ≤ x.Kind ∧ x.Kind ≤ 9223372036854775807) ∧ (-9223372036854775808 ≤ x.Txn ∧ x.Txn ≤ 9223372036854775807) ∧ (-9223372036854775808 ≤ x.Time ∧ x.Time ≤ 9223372036854775807) ∧ (-9223372036854775808 ≤ x.Lead ∧ x.Lead ≤ 9223372036854775807) ∧ (wfL (fun s => s.size ≤ maxLen) x.Reads) ∧ (wfL (Write.wf) x.Writes)
def Rec.sz (x : Rec) : Nat := szL (ByteArray.size) x.Reads + szL (Write.sz) x.Writes
--@T WorldLook
structure WorldLook where
  Node : Int
  Keys : List ByteArray
  Got : List Got
  Time : Int
  Begin : Int
  End : Int
  deriving DecidableEq, Inhabited
def WorldLook.row (o : Bool) (x : WorldLook) : List T := [i64 x.Node, .sl o 1 (strs x.Keys), .sl o 3 (x.Got.map (Got.row o)), i64 x.Time, i64 x.Begin, i64 x.End]
@[go_sem] theorem WorldLook.row_eq (o : Bool) (x : WorldLook) : WorldLook.row o x = [i64 x.Node, .sl o 1 (strs x.Keys), .sl o 3 (x.Got.map (Got.row o)), i64 x.Time, i64 x.Begin, i64 x.End] := rfl
def WorldLook.wf (x : WorldLook) : Prop := (-9223372036854775808 ≤ x.Node ∧ x.Node ≤ 9223372036854775807) ∧ (wfL (fun s => s.size ≤ maxLen) x.Keys) ∧ (wfL (Got.wf) x.Got) ∧ (-9223372036854775808 ≤ x.Time ∧ x.Time ≤ 9223372036854775807) ∧ (-9223372036854775808 ≤ x.Begin ∧ x.Begin ≤ 9223372036854775807) ∧ (-9223372036854775808 ≤ x.End ∧ x.End ≤ 9223372036854775807)
def WorldLook.sz (x : WorldLook) : Nat := szL (ByteArray.size) x.Keys + szL (Got.sz) x.Got
--@T WorldTxn
structure WorldTxn where
  Ops : List Op
  Got : List Got
  Terms : List Int
  Begin : Int
  End : Int
  Yes : Bool
  Time : Int
  Dead : Bool
  Put : Bool
  Stopped : Bool
  deriving DecidableEq, Inhabited
def WorldTxn.row (o : Bool) (x : WorldTxn) : List T := [.sl o 4 (x.Ops.map (Op.row o)), .sl o 3 (x.Got.map (Got.row o)), .sl o 1 (ints x.Terms), i64 x.Begin, i64 x.End, bl x.Yes, i64 x.Time, bl x.Dead, bl x.Put, bl x.Stopped]
@[go_sem] theorem WorldTxn.row_eq (o : Bool) (x : WorldTxn) : WorldTxn.row o x = [.sl o 4 (x.Ops.map (Op.row o)), .sl o 3 (x.Got.map (Got.row o)), .sl o 1 (ints x.Terms), i64 x.Begin, i64 x.End, bl x.Yes, i64 x.Time, bl x.Dead, bl x.Put, bl x.Stopped] := rfl
def WorldTxn.wf (x : WorldTxn) : Prop := (wfL (Op.wf) x.Ops) ∧ (wfL (Got.wf) x.Got) ∧ (wfL (fun n => -9223372036854775808 ≤ n ∧ n ≤ 9223372036854775807) x.Terms) ∧ (-9223372036854775808 ≤ x.Begin ∧ x.Begin ≤ 9223372036854775807) ∧ (-9223372036854775808 ≤ x.End ∧ x.End ≤ 9223372036854775807) ∧ (-9223372036854775808 ≤ x.Time ∧ x.Time ≤ 9223372036854775807)
def WorldTxn.sz (x : WorldTxn) : Nat := szL (Op.sz) x.Ops + szL (Got.sz) x.Got + x.Terms.length
--@T Entry
structure Entry where
  Term : Int
  Rec : Rec
  deriving DecidableEq, Inhabited
def Entry.row (o : Bool) (x : Entry) : List T := [i64 x.Term, i64 x.Rec.Kind, i64 x.Rec.Txn, i64 x.Rec.Time, i64 x.Rec.Lead, .sl o 1 (strs x.Rec.Reads), .sl o 3 (x.Rec.Writes.map (Write.row o)), bl x.Rec.Yes]
@[go_sem] theorem Entry.row_eq (o : Bool) (x : Entry) : Entry.row o x = [i64 x.Term, i64 x.Rec.Kind, i64 x.Rec.Txn, i64 x.Rec.Time, i64 x.Rec.Lead, .sl o 1 (strs x.Rec.Reads), .sl o 3 (x.Rec.Writes.map (Write.row o)), bl x.Rec.Yes] := rfl
def Entry.wf (x : Entry) : Prop := (-9223372036854775808 ≤ x.Term ∧ x.Term ≤ 9223372036854775807) ∧ (x.Rec.wf)
def Entry.sz (x : Entry) : Nat := x.Rec.sz
--@T Replica
structure Replica where
  Up : Bool
  Log : List Entry
  Sure : Int
  deriving DecidableEq, Inhabited
def Replica.row (o : Bool) (x : Replica) : List T := [bl x.Up, .sl o 8 (x.Log.map (Entry.row o)), i64 x.Sure]
@[go_sem] theorem Replica.row_eq (o : Bool) (x : Replica) : Replica.row o x = [bl x.Up, .sl o 8 (x.Log.map (Entry.row o)), i64 x.Sure] := rfl
def Replica.wf (x : Replica) : Prop := (wfL (Entry.wf) x.Log) ∧ (-9223372036854775808 ≤ x.Sure ∧ x.Sure ≤ 9223372036854775807)
def Replica.sz (x : Replica) : Nat := szL (Entry.sz) x.Log
--@T Group
structure Group where
  Reps : List Replica
  Term : Int
  Lead : Int
  deriving DecidableEq, Inhabited
def Group.row (o : Bool) (x : Group) : List T := [.sl o 3 (x.Reps.map (Replica.row o)), i64 x.Term, i64 x.Lead]
@[go_sem] theorem Group.row_eq (o : Bool) (x : Group) : Group.row o x = [.sl o 3 (x.Reps.map (Replica.row o)), i64 x.Term, i64 x.Lead] := rfl
def Group.wf (x : Group) : Prop := (wfL (Replica.wf) x.Reps) ∧ (-9223372036854775808 ≤ x.Term ∧ x.Term ≤ 9223372036854775807) ∧ (-9223372036854775808 ≤ x.Lead ∧ x.Lead ≤ 9223372036854775807)
def Group.sz (x : Group) : Nat := szL (Replica.sz) x.Reps
--@T World
structure World where
  Now : Int
  Count : Int
  Clocks : List Clock
  Cuts : List ByteArray
  Groups : List Group
  Locks : List (List Lock)
  Promised : List Int
  Txns : List WorldTxn
  Looks : List WorldLook
  deriving DecidableEq, Inhabited
def World.row (o : Bool) (x : World) : List T := [i64 x.Now, i64 x.Count, .sl o 1 (x.Clocks.map (Clock.row o)), .sl o 1 (strs x.Cuts), .sl o 3 (x.Groups.map (Group.row o)), .sl o 1 (x.Locks.map fun y => [.sl o 3 (y.map (Lock.row o))]), .sl o 1 (ints x.Promised), .sl o 10 (x.Txns.map (WorldTxn.row o)), .sl o 6 (x.Looks.map (WorldLook.row o))]
@[go_sem] theorem World.row_eq (o : Bool) (x : World) : World.row o x = [i64 x.Now, i64 x.Count, .sl o 1 (x.Clocks.map (Clock.row o)), .sl o 1 (strs x.Cuts), .sl o 3 (x.Groups.map (Group.row o)), .sl o 1 (x.Locks.map fun y => [.sl o 3 (y.map (Lock.row o))]), .sl o 1 (ints x.Promised), .sl o 10 (x.Txns.map (WorldTxn.row o)), .sl o 6 (x.Looks.map (WorldLook.row o))] := rfl
def World.wf (x : World) : Prop := (-9223372036854775808 ≤ x.Now ∧ x.Now ≤ 9223372036854775807) ∧ (-9223372036854775808 ≤ x.Count ∧ x.Count ≤ 9223372036854775807) ∧ (wfL (Clock.wf) x.Clocks) ∧ (wfL (fun s => s.size ≤ maxLen) x.Cuts) ∧ (wfL (Group.wf) x.Groups) ∧ (wfL (wfL (Lock.wf)) x.Locks) ∧ (wfL (fun n => -9223372036854775808 ≤ n ∧ n ≤ 9223372036854775807) x.Promised) ∧ (wfL (WorldTxn.wf) x.Txns) ∧ (wfL (WorldLook.wf) x.Looks)
def World.sz (x : World) : Nat := x.Clocks.length + szL (ByteArray.size) x.Cuts + szL (Group.sz) x.Groups + szL (szL (Lock.sz)) x.Locks + x.Promised.length + szL (WorldTxn.sz) x.Txns + szL (WorldLook.sz) x.Looks
def Got.lim (x : Got) : Prop := True
theorem Got.lim_of {x : Got} (h : x.wf) : x.lim := by
  exact trivial
def Lock.lim (x : Lock) : Prop := True
theorem Lock.lim_of {x : Lock} (h : x.wf) : x.lim := by
  exact trivial
def Op.lim (x : Op) : Prop := True
theorem Op.lim_of {x : Op} (h : x.wf) : x.lim := by
  exact trivial
def Write.lim (x : Write) : Prop := True
theorem Write.lim_of {x : Write} (h : x.wf) : x.lim := by
  exact trivial
def Clock.lim (x : Clock) : Prop := True
theorem Clock.lim_of {x : Clock} (h : x.wf) : x.lim := by
  exact trivial
def Rec.lim (x : Rec) : Prop := (limL (fun _ => True) x.Reads) ∧ (limL (Write.lim) x.Writes)
theorem Rec.lim_of {x : Rec} (h : x.wf) : x.lim := by
  obtain ⟨w_Kind, w_Txn, w_Time, w_Lead, w_Reads, w_Writes⟩ := h
  exact ⟨⟨w_Reads.1, fun _ _ => trivial⟩, ⟨w_Writes.1, fun y hy => Write.lim_of (w_Writes.2 y hy)⟩⟩
theorem Rec.lim_sz {x : Rec} (h : x.sz ≤ 2 ^ 62) : x.lim := by
  unfold Rec.sz at h
  exact ⟨⟨Nat.le_trans (szL_len (f := ByteArray.size)) (Nat.le_trans (by omega) mx62), fun y hy => trivial⟩, ⟨Nat.le_trans (szL_len (f := Write.sz)) (Nat.le_trans (by omega) mx62), fun y hy => trivial⟩⟩
def WorldLook.lim (x : WorldLook) : Prop := (limL (fun _ => True) x.Keys) ∧ (limL (Got.lim) x.Got)
theorem WorldLook.lim_of {x : WorldLook} (h : x.wf) : x.lim := by
  obtain ⟨w_Node, w_Keys, w_Got, w_Time, w_Begin, w_End⟩ := h
  exact ⟨⟨w_Keys.1, fun _ _ => trivial⟩, ⟨w_Got.1, fun y hy => Got.lim_of (w_Got.2 y hy)⟩⟩
theorem WorldLook.lim_sz {x : WorldLook} (h : x.sz ≤ 2 ^ 62) : x.lim := by
  unfold WorldLook.sz at h
  exact ⟨⟨Nat.le_trans (szL_len (f := ByteArray.size)) (Nat.le_trans (by omega) mx62), fun y hy => trivial⟩, ⟨Nat.le_trans (szL_len (f := Got.sz)) (Nat.le_trans (by omega) mx62), fun y hy => trivial⟩⟩
def WorldTxn.lim (x : WorldTxn) : Prop := (limL (Op.lim) x.Ops) ∧ (limL (Got.lim) x.Got) ∧ (limL (fun _ => True) x.Terms)
theorem WorldTxn.lim_of {x : WorldTxn} (h : x.wf) : x.lim := by
  obtain ⟨w_Ops, w_Got, w_Terms, w_Begin, w_End, w_Time⟩ := h
  exact ⟨⟨w_Ops.1, fun y hy => Op.lim_of (w_Ops.2 y hy)⟩, ⟨w_Got.1, fun y hy => Got.lim_of (w_Got.2 y hy)⟩, ⟨w_Terms.1, fun _ _ => trivial⟩⟩
theorem WorldTxn.lim_sz {x : WorldTxn} (h : x.sz ≤ 2 ^ 62) : x.lim := by
  unfold WorldTxn.sz at h
  exact ⟨⟨Nat.le_trans (szL_len (f := Op.sz)) (Nat.le_trans (by omega) mx62), fun y hy => trivial⟩, ⟨Nat.le_trans (szL_len (f := Got.sz)) (Nat.le_trans (by omega) mx62), fun y hy => trivial⟩, ⟨Nat.le_trans (by omega) mx62, fun y hy => trivial⟩⟩
def Entry.lim (x : Entry) : Prop := (x.Rec.lim)
theorem Entry.lim_of {x : Entry} (h : x.wf) : x.lim := by
  obtain ⟨w_Term, w_Rec⟩ := h
  exact Rec.lim_of w_Rec
theorem Entry.lim_sz {x : Entry} (h : x.sz ≤ 2 ^ 62) : x.lim := by
  unfold Entry.sz at h
  exact Rec.lim_sz (by omega)
def Replica.lim (x : Replica) : Prop := (limL (Entry.lim) x.Log)
theorem Replica.lim_of {x : Replica} (h : x.wf) : x.lim := by
  obtain ⟨w_Log, w_Sure⟩ := h
  exact ⟨w_Log.1, fun y hy => Entry.lim_of (w_Log.2 y hy)⟩
theorem Replica.lim_sz {x : Replica} (h : x.sz ≤ 2 ^ 62) : x.lim := by
  unfold Replica.sz at h
  exact ⟨Nat.le_trans (szL_len (f := Entry.sz)) (Nat.le_trans (by omega) mx62), fun y hy => Entry.lim_sz (Nat.le_trans (szL_mem (f := Entry.sz) hy) (by omega))⟩
def Group.lim (x : Group) : Prop := (limL (Replica.lim) x.Reps)
theorem Group.lim_of {x : Group} (h : x.wf) : x.lim := by
  obtain ⟨w_Reps, w_Term, w_Lead⟩ := h
  exact ⟨w_Reps.1, fun y hy => Replica.lim_of (w_Reps.2 y hy)⟩
theorem Group.lim_sz {x : Group} (h : x.sz ≤ 2 ^ 62) : x.lim := by
  unfold Group.sz at h
  exact ⟨Nat.le_trans (szL_len (f := Replica.sz)) (Nat.le_trans (by omega) mx62), fun y hy => Replica.lim_sz (Nat.le_trans (szL_mem (f := Replica.sz) hy) (by omega))⟩
def World.lim (x : World) : Prop := (limL (Clock.lim) x.Clocks) ∧ (limL (fun _ => True) x.Cuts) ∧ (limL (Group.lim) x.Groups) ∧ (limL (limL (Lock.lim)) x.Locks) ∧ (limL (fun _ => True) x.Promised) ∧ (limL (WorldTxn.lim) x.Txns) ∧ (limL (WorldLook.lim) x.Looks)
theorem World.lim_of {x : World} (h : x.wf) : x.lim := by
  obtain ⟨w_Now, w_Count, w_Clocks, w_Cuts, w_Groups, w_Locks, w_Promised, w_Txns, w_Looks⟩ := h
  exact ⟨⟨w_Clocks.1, fun y hy => Clock.lim_of (w_Clocks.2 y hy)⟩, ⟨w_Cuts.1, fun _ _ => trivial⟩, ⟨w_Groups.1, fun y hy => Group.lim_of (w_Groups.2 y hy)⟩, ⟨w_Locks.1, fun y3 hy3 => ⟨(w_Locks.2 y3 hy3).1, fun y hy => Lock.lim_of ((w_Locks.2 y3 hy3).2 y hy)⟩⟩, ⟨w_Promised.1, fun _ _ => trivial⟩, ⟨w_Txns.1, fun y hy => WorldTxn.lim_of (w_Txns.2 y hy)⟩, ⟨w_Looks.1, fun y hy => WorldLook.lim_of (w_Looks.2 y hy)⟩⟩
theorem World.lim_sz {x : World} (h : x.sz ≤ 2 ^ 62) : x.lim := by
  unfold World.sz at h
  exact ⟨⟨Nat.le_trans (by omega) mx62, fun y hy => trivial⟩, ⟨Nat.le_trans (szL_len (f := ByteArray.size)) (Nat.le_trans (by omega) mx62), fun y hy => trivial⟩, ⟨Nat.le_trans (szL_len (f := Group.sz)) (Nat.le_trans (by omega) mx62), fun y hy => Group.lim_sz (Nat.le_trans (szL_mem (f := Group.sz) hy) (by omega))⟩, ⟨Nat.le_trans (szL_len (f := szL (Lock.sz))) (Nat.le_trans (by omega) mx62), fun y hy => ⟨Nat.le_trans (szL_len (f := Lock.sz)) (Nat.le_trans (Nat.le_trans (szL_mem (f := szL (Lock.sz)) hy) (by omega)) mx62), fun y hy => trivial⟩⟩, ⟨Nat.le_trans (by omega) mx62, fun y hy => trivial⟩, ⟨Nat.le_trans (szL_len (f := WorldTxn.sz)) (Nat.le_trans (by omega) mx62), fun y hy => WorldTxn.lim_sz (Nat.le_trans (szL_mem (f := WorldTxn.sz) hy) (by omega))⟩, ⟨Nat.le_trans (szL_len (f := WorldLook.sz)) (Nat.le_trans (by omega) mx62), fun y hy => WorldLook.lim_sz (Nat.le_trans (szL_mem (f := WorldLook.sz) hy) (by omega))⟩⟩
theorem szGot_ok (x : Got) (left : Int) (h0 : 0 ≤ left) (h1 : left ≤ 2 ^ 20) (hw : x.wf) : ACall Tryz.prog n_laws_szGot [.agg (Got.row false x), i64 left]
    (fun r _ => ∃ n : Int, r = i64 n ∧ n ≤ left ∧ (0 ≤ n → n + (x.sz : Nat) = left)) := by
  obtain ⟨w_Key, w_Val⟩ := hw
  have hm := mx_eq
  refine fn_in h_laws_szGot r_laws_szGot ⟨by simp only [go_sem], fun E hE hH => ?_⟩; simp only [go_sem] at hE hH; simp only [go_sem, hE, hH, c_laws_szGot]
  try simp (disch := omega) only [go_sem, hE, hH]
  first | refine gd_t (fun h => ?_) (fun h => ?_) | refine gd_f (fun h => ?_) (fun h => ?_)
  · have hb := h
    simp only [nf, beq_iff_eq, bne_iff_ne, beq_eq_false_iff_ne, bne_eq_false_iff_eq] at h
    try simp (disch := omega) only [go_sem, hE, hH, hb]
    exact ⟨_, rfl, by omega, by omega⟩
  have hb := h
  simp only [nf, beq_iff_eq, bne_iff_ne, beq_eq_false_iff_ne, bne_eq_false_iff_eq] at h
  try simp (disch := omega) only [go_sem, hE, hH, hb]
  have p0 : 0 ≤ left - (x.Key.size : Int) := by omega
  clear h hb
  try simp (disch := omega) only [go_sem, hE, hH]
  first | refine gd_t (fun h => ?_) (fun h => ?_) | refine gd_f (fun h => ?_) (fun h => ?_)
  · have hb := h
    simp only [nf, beq_iff_eq, bne_iff_ne, beq_eq_false_iff_ne, bne_eq_false_iff_eq] at h
    try simp (disch := omega) only [go_sem, hE, hH, hb]
    exact ⟨_, rfl, by omega, by omega⟩
  have hb := h
  simp only [nf, beq_iff_eq, bne_iff_ne, beq_eq_false_iff_ne, bne_eq_false_iff_eq] at h
  try simp (disch := omega) only [go_sem, hE, hH, hb]
  have p1 : 0 ≤ (left - (x.Key.size : Int)) - (x.Val.size : Int) := by omega
  clear h hb
  exact ⟨_, rfl, by omega, fun _ => by unfold Got.sz; omega⟩
theorem szIntS_ok (l : List Int) (left : Int) (h0 : 0 ≤ left) (h1 : left ≤ 2 ^ 20) (hw : wfL (fun n => -9223372036854775808 ≤ n ∧ n ≤ 9223372036854775807) l) : ACall Tryz.prog n_laws_szIntS [.sl false 1 (ints l), i64 left]
    (fun r _ => ∃ n : Int, r = i64 n ∧ n ≤ left ∧ (0 ≤ n → n + (l.length : Nat) = left)) := by
  obtain ⟨hl, hx⟩ := hw
  have hm := mx_eq
  refine fn_in h_laws_szIntS r_laws_szIntS ⟨by simp only [go_sem], fun E hE hH => ?_⟩; simp only [go_sem] at hE hH; simp only [go_sem, hE, hH, c_laws_szIntS]
  try simp (disch := omega) only [go_sem, hE, hH]
  repeat' (first | ((with_reducible first | refine gd_t ?_ ?_ | refine gd_f ?_ ?_) <;> (intro h; have hb := h; (try simp only [nf, beq_iff_eq, bne_iff_ne, beq_eq_false_iff_ne, bne_eq_false_iff_eq] at h); simp (disch := omega) only [go_sem, hE, hH, hb]; (try clear hb))) | ((with_reducible refine And.intro ?_ ?_); · omega) | (refine jn _ ?_ ?_) | (with_reducible refine both ?_ ?_) | (with_reducible refine And.intro ?_ ?_) | (refine fin_eq ?_; (try (simp (disch := omega) only [go_sem, hE, hH])); first | done | rfl) | (simp (disch := omega) only [go_sem, hE, hH]) | ((first | apply noMLL_sE | apply pk_sE) <;> (simp only [go_sem, hE, hH]; done)) | (simp only [go_sem, hE, hH]) | fail)
  · exact ⟨_, rfl, by omega, by omega⟩
  · exact ⟨_, rfl, by omega, by omega⟩
theorem szLock_ok (x : Lock) (left : Int) (h0 : 0 ≤ left) (h1 : left ≤ 2 ^ 20) (hw : x.wf) : ACall Tryz.prog n_laws_szLock [.agg (Lock.row false x), i64 left]
    (fun r _ => ∃ n : Int, r = i64 n ∧ n ≤ left ∧ (0 ≤ n → n + (x.sz : Nat) = left)) := by
  obtain ⟨w_Key, w_Txn⟩ := hw
  have hm := mx_eq
  refine fn_in h_laws_szLock r_laws_szLock ⟨by simp only [go_sem], fun E hE hH => ?_⟩; simp only [go_sem] at hE hH; simp only [go_sem, hE, hH, c_laws_szLock]
  try simp (disch := omega) only [go_sem, hE, hH]
  first | refine gd_t (fun h => ?_) (fun h => ?_) | refine gd_f (fun h => ?_) (fun h => ?_)
  · have hb := h
    simp only [nf, beq_iff_eq, bne_iff_ne, beq_eq_false_iff_ne, bne_eq_false_iff_eq] at h
    try simp (disch := omega) only [go_sem, hE, hH, hb]
    exact ⟨_, rfl, by omega, by omega⟩
  have hb := h
  simp only [nf, beq_iff_eq, bne_iff_ne, beq_eq_false_iff_ne, bne_eq_false_iff_eq] at h
  try simp (disch := omega) only [go_sem, hE, hH, hb]
  have p0 : 0 ≤ left - (x.Key.size : Int) := by omega
  clear h hb
  exact ⟨_, rfl, by omega, fun _ => by unfold Lock.sz; omega⟩
theorem szOp_ok (x : Op) (left : Int) (h0 : 0 ≤ left) (h1 : left ≤ 2 ^ 20) (hw : x.wf) : ACall Tryz.prog n_laws_szOp [.agg (Op.row false x), i64 left]
    (fun r _ => ∃ n : Int, r = i64 n ∧ n ≤ left ∧ (0 ≤ n → n + (x.sz : Nat) = left)) := by
  obtain ⟨w_Kind, w_Key, w_Val, w_By⟩ := hw
  have hm := mx_eq
  refine fn_in h_laws_szOp r_laws_szOp ⟨by simp only [go_sem], fun E hE hH => ?_⟩; simp only [go_sem] at hE hH; simp only [go_sem, hE, hH, c_laws_szOp]
  try simp (disch := omega) only [go_sem, hE, hH]
  first | refine gd_t (fun h => ?_) (fun h => ?_) | refine gd_f (fun h => ?_) (fun h => ?_)
  · have hb := h
    simp only [nf, beq_iff_eq, bne_iff_ne, beq_eq_false_iff_ne, bne_eq_false_iff_eq] at h
    try simp (disch := omega) only [go_sem, hE, hH, hb]
    exact ⟨_, rfl, by omega, by omega⟩
  have hb := h
  simp only [nf, beq_iff_eq, bne_iff_ne, beq_eq_false_iff_ne, bne_eq_false_iff_eq] at h
  try simp (disch := omega) only [go_sem, hE, hH, hb]
  have p0 : 0 ≤ left - (x.Key.size : Int) := by omega
  clear h hb
  try simp (disch := omega) only [go_sem, hE, hH]
  first | refine gd_t (fun h => ?_) (fun h => ?_) | refine gd_f (fun h => ?_) (fun h => ?_)
  · have hb := h
    simp only [nf, beq_iff_eq, bne_iff_ne, beq_eq_false_iff_ne, bne_eq_false_iff_eq] at h
    try simp (disch := omega) only [go_sem, hE, hH, hb]
    exact ⟨_, rfl, by omega, by omega⟩
  have hb := h
  simp only [nf, beq_iff_eq, bne_iff_ne, beq_eq_false_iff_ne, bne_eq_false_iff_eq] at h
  try simp (disch := omega) only [go_sem, hE, hH, hb]
  have p1 : 0 ≤ (left - (x.Key.size : Int)) - (x.Val.size : Int) := by omega
  clear h hb
  exact ⟨_, rfl, by omega, fun _ => by unfold Op.sz; omega⟩
theorem szStringS_ok (l : List ByteArray) (left : Int) (h0 : 0 ≤ left) (h1 : left ≤ 2 ^ 20) (hw : wfL (fun s => s.size ≤ maxLen) l) : ACall Tryz.prog n_laws_szStringS [.sl false 1 (strs l), i64 left]
    (fun r _ => ∃ n : Int, r = i64 n ∧ n ≤ left ∧ (0 ≤ n → n + (szL (ByteArray.size) l : Nat) = left)) := by
  obtain ⟨hl, hx⟩ := hw
  have hm := mx_eq
  refine fn_in h_laws_szStringS r_laws_szStringS ⟨by simp only [go_sem], fun E hE hH => ?_⟩; simp only [go_sem] at hE hH; simp only [go_sem, hE, hH, c_laws_szStringS]
  try simp (disch := omega) only [go_sem, hE, hH]
  repeat' (first | ((with_reducible first | refine gd_t ?_ ?_ | refine gd_f ?_ ?_) <;> (intro h; have hb := h; (try simp only [nf, beq_iff_eq, bne_iff_ne, beq_eq_false_iff_ne, bne_eq_false_iff_eq] at h); simp (disch := omega) only [go_sem, hE, hH, hb]; (try clear hb))) | ((with_reducible refine And.intro ?_ ?_); · omega) | (refine jn _ ?_ ?_) | (with_reducible refine both ?_ ?_) | (with_reducible refine And.intro ?_ ?_) | (refine fin_eq ?_; (try (simp (disch := omega) only [go_sem, hE, hH])); first | done | rfl) | (simp (disch := omega) only [go_sem, hE, hH]) | ((first | apply noMLL_sE | apply pk_sE) <;> (simp only [go_sem, hE, hH]; done)) | (simp only [go_sem, hE, hH]) | fail)
  · exact ⟨_, rfl, by omega, by omega⟩
  refine loopN l.length (fun j (n : Int) => ⟨[(0, .sl false 1 (strs l)), (1, i64 n), (5, i64 j)], []⟩) (fun j n => 0 ≤ n ∧ n ≤ left ∧ n + l.length + psum (ByteArray.size) l j = left) (left - (l.length : Int)) (by rw [psum_zero]; omega) ?_
  intro j n hj hI
  obtain ⟨i1, i0, i2⟩ := hI
  try simp only [go_sem, hE, hH, c_laws_szStringS_l1]
  first | refine gd_t (fun h => ?_) (fun h => ?_) | refine gd_f (fun h => ?_) (fun h => ?_)
  · have hb := h
    simp only [nf, beq_iff_eq, bne_iff_ne, beq_eq_false_iff_ne, bne_eq_false_iff_eq] at h
    have hlt := h; clear h
    have hs := hx _ (nth_mem hlt)
    try simp (disch := omega) only [go_sem, hE, hH, hb]
    repeat refine And.intro (by omega) ?_
    repeat' (first | ((with_reducible first | refine gd_t ?_ ?_ | refine gd_f ?_ ?_) <;> (intro h; have hb := h; (try simp only [nf, beq_iff_eq, bne_iff_ne, beq_eq_false_iff_ne, bne_eq_false_iff_eq] at h); simp (disch := omega) only [go_sem, hE, hH, hb]; (try clear hb))) | ((with_reducible refine And.intro ?_ ?_); · omega) | (refine jn _ ?_ ?_) | (with_reducible refine both ?_ ?_) | (with_reducible refine And.intro ?_ ?_) | (refine fin_eq ?_; (try (simp (disch := omega) only [go_sem, hE, hH])); first | done | rfl) | (simp (disch := omega) only [go_sem, hE, hH]) | ((first | apply noMLL_sE | apply pk_sE) <;> (simp only [go_sem, hE, hH]; done)) | (simp only [go_sem, hE, hH]) | fail)
    · exact ⟨_, rfl, by omega, by omega⟩
    · exact ⟨_, rfl, by omega, by omega, by rw [psum_succ hlt]; omega⟩
  · have hb := h
    simp only [nf, beq_iff_eq, bne_iff_ne, beq_eq_false_iff_ne, bne_eq_false_iff_eq] at h
    try simp (disch := omega) only [go_sem, hE, hH, hb]
    exact ⟨_, rfl, by omega, fun _ => by rw [psum_all (by omega)] at i2; rw [show szL (ByteArray.size) l = l.length + (l.map (ByteArray.size)).sum from rfl]; omega⟩
theorem szWrite_ok (x : Write) (left : Int) (h0 : 0 ≤ left) (h1 : left ≤ 2 ^ 20) (hw : x.wf) : ACall Tryz.prog n_laws_szWrite [.agg (Write.row false x), i64 left]
    (fun r _ => ∃ n : Int, r = i64 n ∧ n ≤ left ∧ (0 ≤ n → n + (x.sz : Nat) = left)) := by
  obtain ⟨w_Key, w_Val⟩ := hw
  have hm := mx_eq
  refine fn_in h_laws_szWrite r_laws_szWrite ⟨by simp only [go_sem], fun E hE hH => ?_⟩; simp only [go_sem] at hE hH; simp only [go_sem, hE, hH, c_laws_szWrite]
  try simp (disch := omega) only [go_sem, hE, hH]
  first | refine gd_t (fun h => ?_) (fun h => ?_) | refine gd_f (fun h => ?_) (fun h => ?_)
  · have hb := h
    simp only [nf, beq_iff_eq, bne_iff_ne, beq_eq_false_iff_ne, bne_eq_false_iff_eq] at h
    try simp (disch := omega) only [go_sem, hE, hH, hb]
    exact ⟨_, rfl, by omega, by omega⟩
  have hb := h
  simp only [nf, beq_iff_eq, bne_iff_ne, beq_eq_false_iff_ne, bne_eq_false_iff_eq] at h
  try simp (disch := omega) only [go_sem, hE, hH, hb]
  have p0 : 0 ≤ left - (x.Key.size : Int) := by omega
  clear h hb
  try simp (disch := omega) only [go_sem, hE, hH]
  first | refine gd_t (fun h => ?_) (fun h => ?_) | refine gd_f (fun h => ?_) (fun h => ?_)
  · have hb := h
    simp only [nf, beq_iff_eq, bne_iff_ne, beq_eq_false_iff_ne, bne_eq_false_iff_eq] at h
    try simp (disch := omega) only [go_sem, hE, hH, hb]
    exact ⟨_, rfl, by omega, by omega⟩
  have hb := h
  simp only [nf, beq_iff_eq, bne_iff_ne, beq_eq_false_iff_ne, bne_eq_false_iff_eq] at h
  try simp (disch := omega) only [go_sem, hE, hH, hb]
  have p1 : 0 ≤ (left - (x.Key.size : Int)) - (x.Val.size : Int) := by omega
  clear h hb
  exact ⟨_, rfl, by omega, fun _ => by unfold Write.sz; omega⟩
theorem szClockS_ok (l : List Clock) (left : Int) (h0 : 0 ≤ left) (h1 : left ≤ 2 ^ 20) (hw : wfL (Clock.wf) l) : ACall Tryz.prog n_laws_szClockS [.sl false 1 (l.map (Clock.row false)), i64 left]
    (fun r _ => ∃ n : Int, r = i64 n ∧ n ≤ left ∧ (0 ≤ n → n + (l.length : Nat) = left)) := by
  obtain ⟨hl, hx⟩ := hw
  have hm := mx_eq
  refine fn_in h_laws_szClockS r_laws_szClockS ⟨by simp only [go_sem], fun E hE hH => ?_⟩; simp only [go_sem] at hE hH; simp only [go_sem, hE, hH, c_laws_szClockS]
  try simp (disch := omega) only [go_sem, hE, hH]
  repeat' (first | ((with_reducible first | refine gd_t ?_ ?_ | refine gd_f ?_ ?_) <;> (intro h; have hb := h; (try simp only [nf, beq_iff_eq, bne_iff_ne, beq_eq_false_iff_ne, bne_eq_false_iff_eq] at h); simp (disch := omega) only [go_sem, hE, hH, hb]; (try clear hb))) | ((with_reducible refine And.intro ?_ ?_); · omega) | (refine jn _ ?_ ?_) | (with_reducible refine both ?_ ?_) | (with_reducible refine And.intro ?_ ?_) | (refine fin_eq ?_; (try (simp (disch := omega) only [go_sem, hE, hH])); first | done | rfl) | (simp (disch := omega) only [go_sem, hE, hH]) | ((first | apply noMLL_sE | apply pk_sE) <;> (simp only [go_sem, hE, hH]; done)) | (simp only [go_sem, hE, hH]) | fail)
  · exact ⟨_, rfl, by omega, by omega⟩
  · exact ⟨_, rfl, by omega, by omega⟩
theorem szGotS_ok (l : List Got) (left : Int) (h0 : 0 ≤ left) (h1 : left ≤ 2 ^ 20) (hw : wfL (Got.wf) l) : ACall Tryz.prog n_laws_szGotS [.sl false 3 (l.map (Got.row false)), i64 left]
    (fun r _ => ∃ n : Int, r = i64 n ∧ n ≤ left ∧ (0 ≤ n → n + (szL (Got.sz) l : Nat) = left)) := by
  obtain ⟨hl, hx⟩ := hw
  have hm := mx_eq
  refine fn_in h_laws_szGotS r_laws_szGotS ⟨by simp only [go_sem], fun E hE hH => ?_⟩; simp only [go_sem] at hE hH; simp only [go_sem, hE, hH, c_laws_szGotS]
  try simp (disch := omega) only [go_sem, hE, hH]
  repeat' (first | ((with_reducible first | refine gd_t ?_ ?_ | refine gd_f ?_ ?_) <;> (intro h; have hb := h; (try simp only [nf, beq_iff_eq, bne_iff_ne, beq_eq_false_iff_ne, bne_eq_false_iff_eq] at h); simp (disch := omega) only [go_sem, hE, hH, hb]; (try clear hb))) | ((with_reducible refine And.intro ?_ ?_); · omega) | (refine jn _ ?_ ?_) | (with_reducible refine both ?_ ?_) | (with_reducible refine And.intro ?_ ?_) | (refine fin_eq ?_; (try (simp (disch := omega) only [go_sem, hE, hH])); first | done | rfl) | (simp (disch := omega) only [go_sem, hE, hH]) | ((first | apply noMLL_sE | apply pk_sE) <;> (simp only [go_sem, hE, hH]; done)) | (simp only [go_sem, hE, hH]) | fail)
  · exact ⟨_, rfl, by omega, by omega⟩
  refine loopN l.length (fun j (n : Int) => ⟨[(0, .sl false 3 (l.map (Got.row false))), (1, i64 n), (5, i64 j)], []⟩) (fun j n => 0 ≤ n ∧ n ≤ left ∧ n + l.length + psum (Got.sz) l j = left) (left - (l.length : Int)) (by rw [psum_zero]; omega) ?_
  intro j n hj hI
  obtain ⟨i1, i0, i2⟩ := hI
  try simp only [go_sem, hE, hH, c_laws_szGotS_l1]
  first | refine gd_t (fun h => ?_) (fun h => ?_) | refine gd_f (fun h => ?_) (fun h => ?_)
  · have hb := h
    simp only [nf, beq_iff_eq, bne_iff_ne, beq_eq_false_iff_ne, bne_eq_false_iff_eq] at h
    have hlt := h; clear h
    have hs := hx _ (nth_mem hlt)
    try simp (disch := omega) only [go_sem, hE, hH, hb]
    repeat refine And.intro (by omega) ?_
    refine ok_view ?_; simp (disch := omega) only [go_sem, hE, hH]; refine cvA (szGot_ok (nth l j) n i1 (by omega) hs) ?_
    try simp only [go_sem, hE, hH]
    refine aftV_intro ?_
    rintro r k ⟨q, rfl, q1, q2⟩
    try simp (disch := omega) only [go_sem, hE, hH]
    repeat' (first | ((with_reducible first | refine gd_t ?_ ?_ | refine gd_f ?_ ?_) <;> (intro h; have hb := h; (try simp only [nf, beq_iff_eq, bne_iff_ne, beq_eq_false_iff_ne, bne_eq_false_iff_eq] at h); simp (disch := omega) only [go_sem, hE, hH, hb]; (try clear hb))) | ((with_reducible refine And.intro ?_ ?_); · omega) | (refine jn _ ?_ ?_) | (with_reducible refine both ?_ ?_) | (with_reducible refine And.intro ?_ ?_) | (refine fin_eq ?_; (try (simp (disch := omega) only [go_sem, hE, hH])); first | done | rfl) | (simp (disch := omega) only [go_sem, hE, hH]) | ((first | apply noMLL_sE | apply pk_sE) <;> (simp only [go_sem, hE, hH]; done)) | (simp only [go_sem, hE, hH]) | fail)
    · exact ⟨_, rfl, by omega, by omega⟩
    · exact ⟨_, rfl, by omega, by omega, by have q2 := q2 (by omega); rw [psum_succ hlt]; omega⟩
  · have hb := h
    simp only [nf, beq_iff_eq, bne_iff_ne, beq_eq_false_iff_ne, bne_eq_false_iff_eq] at h
    try simp (disch := omega) only [go_sem, hE, hH, hb]
    exact ⟨_, rfl, by omega, fun _ => by rw [psum_all (by omega)] at i2; rw [show szL (Got.sz) l = l.length + (l.map (Got.sz)).sum from rfl]; omega⟩
theorem szLockS_ok (l : List Lock) (left : Int) (h0 : 0 ≤ left) (h1 : left ≤ 2 ^ 20) (hw : wfL (Lock.wf) l) : ACall Tryz.prog n_laws_szLockS [.sl false 3 (l.map (Lock.row false)), i64 left]
    (fun r _ => ∃ n : Int, r = i64 n ∧ n ≤ left ∧ (0 ≤ n → n + (szL (Lock.sz) l : Nat) = left)) := by
  obtain ⟨hl, hx⟩ := hw
  have hm := mx_eq
  refine fn_in h_laws_szLockS r_laws_szLockS ⟨by simp only [go_sem], fun E hE hH => ?_⟩; simp only [go_sem] at hE hH; simp only [go_sem, hE, hH, c_laws_szLockS]
  try simp (disch := omega) only [go_sem, hE, hH]
  repeat' (first | ((with_reducible first | refine gd_t ?_ ?_ | refine gd_f ?_ ?_) <;> (intro h; have hb := h; (try simp only [nf, beq_iff_eq, bne_iff_ne, beq_eq_false_iff_ne, bne_eq_false_iff_eq] at h); simp (disch := omega) only [go_sem, hE, hH, hb]; (try clear hb))) | ((with_reducible refine And.intro ?_ ?_); · omega) | (refine jn _ ?_ ?_) | (with_reducible refine both ?_ ?_) | (with_reducible refine And.intro ?_ ?_) | (refine fin_eq ?_; (try (simp (disch := omega) only [go_sem, hE, hH])); first | done | rfl) | (simp (disch := omega) only [go_sem, hE, hH]) | ((first | apply noMLL_sE | apply pk_sE) <;> (simp only [go_sem, hE, hH]; done)) | (simp only [go_sem, hE, hH]) | fail)
  · exact ⟨_, rfl, by omega, by omega⟩
  refine loopN l.length (fun j (n : Int) => ⟨[(0, .sl false 3 (l.map (Lock.row false))), (1, i64 n), (5, i64 j)], []⟩) (fun j n => 0 ≤ n ∧ n ≤ left ∧ n + l.length + psum (Lock.sz) l j = left) (left - (l.length : Int)) (by rw [psum_zero]; omega) ?_
  intro j n hj hI
  obtain ⟨i1, i0, i2⟩ := hI
  try simp only [go_sem, hE, hH, c_laws_szLockS_l1]
  first | refine gd_t (fun h => ?_) (fun h => ?_) | refine gd_f (fun h => ?_) (fun h => ?_)
  · have hb := h
    simp only [nf, beq_iff_eq, bne_iff_ne, beq_eq_false_iff_ne, bne_eq_false_iff_eq] at h
    have hlt := h; clear h
    have hs := hx _ (nth_mem hlt)
    try simp (disch := omega) only [go_sem, hE, hH, hb]
    repeat refine And.intro (by omega) ?_
    refine ok_view ?_; simp (disch := omega) only [go_sem, hE, hH]; refine cvA (szLock_ok (nth l j) n i1 (by omega) hs) ?_
    try simp only [go_sem, hE, hH]
    refine aftV_intro ?_
    rintro r k ⟨q, rfl, q1, q2⟩
    try simp (disch := omega) only [go_sem, hE, hH]
    repeat' (first | ((with_reducible first | refine gd_t ?_ ?_ | refine gd_f ?_ ?_) <;> (intro h; have hb := h; (try simp only [nf, beq_iff_eq, bne_iff_ne, beq_eq_false_iff_ne, bne_eq_false_iff_eq] at h); simp (disch := omega) only [go_sem, hE, hH, hb]; (try clear hb))) | ((with_reducible refine And.intro ?_ ?_); · omega) | (refine jn _ ?_ ?_) | (with_reducible refine both ?_ ?_) | (with_reducible refine And.intro ?_ ?_) | (refine fin_eq ?_; (try (simp (disch := omega) only [go_sem, hE, hH])); first | done | rfl) | (simp (disch := omega) only [go_sem, hE, hH]) | ((first | apply noMLL_sE | apply pk_sE) <;> (simp only [go_sem, hE, hH]; done)) | (simp only [go_sem, hE, hH]) | fail)
    · exact ⟨_, rfl, by omega, by omega⟩
    · exact ⟨_, rfl, by omega, by omega, by have q2 := q2 (by omega); rw [psum_succ hlt]; omega⟩
  · have hb := h
    simp only [nf, beq_iff_eq, bne_iff_ne, beq_eq_false_iff_ne, bne_eq_false_iff_eq] at h
    try simp (disch := omega) only [go_sem, hE, hH, hb]
    exact ⟨_, rfl, by omega, fun _ => by rw [psum_all (by omega)] at i2; rw [show szL (Lock.sz) l = l.length + (l.map (Lock.sz)).sum from rfl]; omega⟩
theorem szOpS_ok (l : List Op) (left : Int) (h0 : 0 ≤ left) (h1 : left ≤ 2 ^ 20) (hw : wfL (Op.wf) l) : ACall Tryz.prog n_laws_szOpS [.sl false 4 (l.map (Op.row false)), i64 left]
    (fun r _ => ∃ n : Int, r = i64 n ∧ n ≤ left ∧ (0 ≤ n → n + (szL (Op.sz) l : Nat) = left)) := by
  obtain ⟨hl, hx⟩ := hw
  have hm := mx_eq
  refine fn_in h_laws_szOpS r_laws_szOpS ⟨by simp only [go_sem], fun E hE hH => ?_⟩; simp only [go_sem] at hE hH; simp only [go_sem, hE, hH, c_laws_szOpS]
  try simp (disch := omega) only [go_sem, hE, hH]
  repeat' (first | ((with_reducible first | refine gd_t ?_ ?_ | refine gd_f ?_ ?_) <;> (intro h; have hb := h; (try simp only [nf, beq_iff_eq, bne_iff_ne, beq_eq_false_iff_ne, bne_eq_false_iff_eq] at h); simp (disch := omega) only [go_sem, hE, hH, hb]; (try clear hb))) | ((with_reducible refine And.intro ?_ ?_); · omega) | (refine jn _ ?_ ?_) | (with_reducible refine both ?_ ?_) | (with_reducible refine And.intro ?_ ?_) | (refine fin_eq ?_; (try (simp (disch := omega) only [go_sem, hE, hH])); first | done | rfl) | (simp (disch := omega) only [go_sem, hE, hH]) | ((first | apply noMLL_sE | apply pk_sE) <;> (simp only [go_sem, hE, hH]; done)) | (simp only [go_sem, hE, hH]) | fail)
  · exact ⟨_, rfl, by omega, by omega⟩
  refine loopN l.length (fun j (n : Int) => ⟨[(0, .sl false 4 (l.map (Op.row false))), (1, i64 n), (5, i64 j)], []⟩) (fun j n => 0 ≤ n ∧ n ≤ left ∧ n + l.length + psum (Op.sz) l j = left) (left - (l.length : Int)) (by rw [psum_zero]; omega) ?_
  intro j n hj hI
  obtain ⟨i1, i0, i2⟩ := hI
  try simp only [go_sem, hE, hH, c_laws_szOpS_l1]
  first | refine gd_t (fun h => ?_) (fun h => ?_) | refine gd_f (fun h => ?_) (fun h => ?_)
  · have hb := h
    simp only [nf, beq_iff_eq, bne_iff_ne, beq_eq_false_iff_ne, bne_eq_false_iff_eq] at h
    have hlt := h; clear h
    have hs := hx _ (nth_mem hlt)
    try simp (disch := omega) only [go_sem, hE, hH, hb]
    repeat refine And.intro (by omega) ?_
    refine ok_view ?_; simp (disch := omega) only [go_sem, hE, hH]; refine cvA (szOp_ok (nth l j) n i1 (by omega) hs) ?_
    try simp only [go_sem, hE, hH]
    refine aftV_intro ?_
    rintro r k ⟨q, rfl, q1, q2⟩
    try simp (disch := omega) only [go_sem, hE, hH]
    repeat' (first | ((with_reducible first | refine gd_t ?_ ?_ | refine gd_f ?_ ?_) <;> (intro h; have hb := h; (try simp only [nf, beq_iff_eq, bne_iff_ne, beq_eq_false_iff_ne, bne_eq_false_iff_eq] at h); simp (disch := omega) only [go_sem, hE, hH, hb]; (try clear hb))) | ((with_reducible refine And.intro ?_ ?_); · omega) | (refine jn _ ?_ ?_) | (with_reducible refine both ?_ ?_) | (with_reducible refine And.intro ?_ ?_) | (refine fin_eq ?_; (try (simp (disch := omega) only [go_sem, hE, hH])); first | done | rfl) | (simp (disch := omega) only [go_sem, hE, hH]) | ((first | apply noMLL_sE | apply pk_sE) <;> (simp only [go_sem, hE, hH]; done)) | (simp only [go_sem, hE, hH]) | fail)
    · exact ⟨_, rfl, by omega, by omega⟩
    · exact ⟨_, rfl, by omega, by omega, by have q2 := q2 (by omega); rw [psum_succ hlt]; omega⟩
  · have hb := h
    simp only [nf, beq_iff_eq, bne_iff_ne, beq_eq_false_iff_ne, bne_eq_false_iff_eq] at h
    try simp (disch := omega) only [go_sem, hE, hH, hb]
    exact ⟨_, rfl, by omega, fun _ => by rw [psum_all (by omega)] at i2; rw [show szL (Op.sz) l = l.length + (l.map (Op.sz)).sum from rfl]; omega⟩
theorem szWriteS_ok (l : List Write) (left : Int) (h0 : 0 ≤ left) (h1 : left ≤ 2 ^ 20) (hw : wfL (Write.wf) l) : ACall Tryz.prog n_laws_szWriteS [.sl false 3 (l.map (Write.row false)), i64 left]
    (fun r _ => ∃ n : Int, r = i64 n ∧ n ≤ left ∧ (0 ≤ n → n + (szL (Write.sz) l : Nat) = left)) := by
  obtain ⟨hl, hx⟩ := hw
  have hm := mx_eq
  refine fn_in h_laws_szWriteS r_laws_szWriteS ⟨by simp only [go_sem], fun E hE hH => ?_⟩; simp only [go_sem] at hE hH; simp only [go_sem, hE, hH, c_laws_szWriteS]
  try simp (disch := omega) only [go_sem, hE, hH]
  repeat' (first | ((with_reducible first | refine gd_t ?_ ?_ | refine gd_f ?_ ?_) <;> (intro h; have hb := h; (try simp only [nf, beq_iff_eq, bne_iff_ne, beq_eq_false_iff_ne, bne_eq_false_iff_eq] at h); simp (disch := omega) only [go_sem, hE, hH, hb]; (try clear hb))) | ((with_reducible refine And.intro ?_ ?_); · omega) | (refine jn _ ?_ ?_) | (with_reducible refine both ?_ ?_) | (with_reducible refine And.intro ?_ ?_) | (refine fin_eq ?_; (try (simp (disch := omega) only [go_sem, hE, hH])); first | done | rfl) | (simp (disch := omega) only [go_sem, hE, hH]) | ((first | apply noMLL_sE | apply pk_sE) <;> (simp only [go_sem, hE, hH]; done)) | (simp only [go_sem, hE, hH]) | fail)
  · exact ⟨_, rfl, by omega, by omega⟩
  refine loopN l.length (fun j (n : Int) => ⟨[(0, .sl false 3 (l.map (Write.row false))), (1, i64 n), (5, i64 j)], []⟩) (fun j n => 0 ≤ n ∧ n ≤ left ∧ n + l.length + psum (Write.sz) l j = left) (left - (l.length : Int)) (by rw [psum_zero]; omega) ?_
  intro j n hj hI
  obtain ⟨i1, i0, i2⟩ := hI
  try simp only [go_sem, hE, hH, c_laws_szWriteS_l1]
  first | refine gd_t (fun h => ?_) (fun h => ?_) | refine gd_f (fun h => ?_) (fun h => ?_)
  · have hb := h
    simp only [nf, beq_iff_eq, bne_iff_ne, beq_eq_false_iff_ne, bne_eq_false_iff_eq] at h
    have hlt := h; clear h
    have hs := hx _ (nth_mem hlt)
    try simp (disch := omega) only [go_sem, hE, hH, hb]
    repeat refine And.intro (by omega) ?_
    refine ok_view ?_; simp (disch := omega) only [go_sem, hE, hH]; refine cvA (szWrite_ok (nth l j) n i1 (by omega) hs) ?_
    try simp only [go_sem, hE, hH]
    refine aftV_intro ?_
    rintro r k ⟨q, rfl, q1, q2⟩
    try simp (disch := omega) only [go_sem, hE, hH]
    repeat' (first | ((with_reducible first | refine gd_t ?_ ?_ | refine gd_f ?_ ?_) <;> (intro h; have hb := h; (try simp only [nf, beq_iff_eq, bne_iff_ne, beq_eq_false_iff_ne, bne_eq_false_iff_eq] at h); simp (disch := omega) only [go_sem, hE, hH, hb]; (try clear hb))) | ((with_reducible refine And.intro ?_ ?_); · omega) | (refine jn _ ?_ ?_) | (with_reducible refine both ?_ ?_) | (with_reducible refine And.intro ?_ ?_) | (refine fin_eq ?_; (try (simp (disch := omega) only [go_sem, hE, hH])); first | done | rfl) | (simp (disch := omega) only [go_sem, hE, hH]) | ((first | apply noMLL_sE | apply pk_sE) <;> (simp only [go_sem, hE, hH]; done)) | (simp only [go_sem, hE, hH]) | fail)
    · exact ⟨_, rfl, by omega, by omega⟩
    · exact ⟨_, rfl, by omega, by omega, by have q2 := q2 (by omega); rw [psum_succ hlt]; omega⟩
  · have hb := h
    simp only [nf, beq_iff_eq, bne_iff_ne, beq_eq_false_iff_ne, bne_eq_false_iff_eq] at h
    try simp (disch := omega) only [go_sem, hE, hH, hb]
    exact ⟨_, rfl, by omega, fun _ => by rw [psum_all (by omega)] at i2; rw [show szL (Write.sz) l = l.length + (l.map (Write.sz)).sum from rfl]; omega⟩
theorem szLockSS_ok (l : List (List Lock)) (left : Int) (h0 : 0 ≤ left) (h1 : left ≤ 2 ^ 20) (hw : wfL (wfL (Lock.wf)) l) : ACall Tryz.prog n_laws_szLockSS [.sl false 1 (l.map fun y => [.sl false 3 (y.map (Lock.row false))]), i64 left]
    (fun r _ => ∃ n : Int, r = i64 n ∧ n ≤ left ∧ (0 ≤ n → n + (szL (szL (Lock.sz)) l : Nat) = left)) := by
  obtain ⟨hl, hx⟩ := hw
  have hm := mx_eq
  refine fn_in h_laws_szLockSS r_laws_szLockSS ⟨by simp only [go_sem], fun E hE hH => ?_⟩; simp only [go_sem] at hE hH; simp only [go_sem, hE, hH, c_laws_szLockSS]
  try simp (disch := omega) only [go_sem, hE, hH]
  repeat' (first | ((with_reducible first | refine gd_t ?_ ?_ | refine gd_f ?_ ?_) <;> (intro h; have hb := h; (try simp only [nf, beq_iff_eq, bne_iff_ne, beq_eq_false_iff_ne, bne_eq_false_iff_eq] at h); simp (disch := omega) only [go_sem, hE, hH, hb]; (try clear hb))) | ((with_reducible refine And.intro ?_ ?_); · omega) | (refine jn _ ?_ ?_) | (with_reducible refine both ?_ ?_) | (with_reducible refine And.intro ?_ ?_) | (refine fin_eq ?_; (try (simp (disch := omega) only [go_sem, hE, hH])); first | done | rfl) | (simp (disch := omega) only [go_sem, hE, hH]) | ((first | apply noMLL_sE | apply pk_sE) <;> (simp only [go_sem, hE, hH]; done)) | (simp only [go_sem, hE, hH]) | fail)
  · exact ⟨_, rfl, by omega, by omega⟩
  refine loopN l.length (fun j (n : Int) => ⟨[(0, .sl false 1 (l.map fun y => [.sl false 3 (y.map (Lock.row false))])), (1, i64 n), (5, i64 j)], []⟩) (fun j n => 0 ≤ n ∧ n ≤ left ∧ n + l.length + psum (szL (Lock.sz)) l j = left) (left - (l.length : Int)) (by rw [psum_zero]; omega) ?_
  intro j n hj hI
  obtain ⟨i1, i0, i2⟩ := hI
  try simp only [go_sem, hE, hH, c_laws_szLockSS_l1]
  first | refine gd_t (fun h => ?_) (fun h => ?_) | refine gd_f (fun h => ?_) (fun h => ?_)
  · have hb := h
    simp only [nf, beq_iff_eq, bne_iff_ne, beq_eq_false_iff_ne, bne_eq_false_iff_eq] at h
    have hlt := h; clear h
    have hs := hx _ (nth_mem hlt)
    try simp (disch := omega) only [go_sem, hE, hH, hb]
    repeat refine And.intro (by omega) ?_
    refine ok_view ?_; simp (disch := omega) only [go_sem, hE, hH]; refine cvA (szLockS_ok (nth l j) n i1 (by omega) hs) ?_
    try simp only [go_sem, hE, hH]
    refine aftV_intro ?_
    rintro r k ⟨q, rfl, q1, q2⟩
    try simp (disch := omega) only [go_sem, hE, hH]
    repeat' (first | ((with_reducible first | refine gd_t ?_ ?_ | refine gd_f ?_ ?_) <;> (intro h; have hb := h; (try simp only [nf, beq_iff_eq, bne_iff_ne, beq_eq_false_iff_ne, bne_eq_false_iff_eq] at h); simp (disch := omega) only [go_sem, hE, hH, hb]; (try clear hb))) | ((with_reducible refine And.intro ?_ ?_); · omega) | (refine jn _ ?_ ?_) | (with_reducible refine both ?_ ?_) | (with_reducible refine And.intro ?_ ?_) | (refine fin_eq ?_; (try (simp (disch := omega) only [go_sem, hE, hH])); first | done | rfl) | (simp (disch := omega) only [go_sem, hE, hH]) | ((first | apply noMLL_sE | apply pk_sE) <;> (simp only [go_sem, hE, hH]; done)) | (simp only [go_sem, hE, hH]) | fail)
    · exact ⟨_, rfl, by omega, by omega⟩
    · exact ⟨_, rfl, by omega, by omega, by have q2 := q2 (by omega); rw [psum_succ hlt]; omega⟩
  · have hb := h
    simp only [nf, beq_iff_eq, bne_iff_ne, beq_eq_false_iff_ne, bne_eq_false_iff_eq] at h
    try simp (disch := omega) only [go_sem, hE, hH, hb]
    exact ⟨_, rfl, by omega, fun _ => by rw [psum_all (by omega)] at i2; rw [show szL (szL (Lock.sz)) l = l.length + (l.map (szL (Lock.sz))).sum from rfl]; omega⟩
theorem szRec_ok (x : Rec) (left : Int) (h0 : 0 ≤ left) (h1 : left ≤ 2 ^ 20) (hw : x.wf) : ACall Tryz.prog n_laws_szRec [.agg (Rec.row false x), i64 left]
    (fun r _ => ∃ n : Int, r = i64 n ∧ n ≤ left ∧ (0 ≤ n → n + (x.sz : Nat) = left)) := by
  obtain ⟨w_Kind, w_Txn, w_Time, w_Lead, w_Reads, w_Writes⟩ := hw
  have hm := mx_eq
  refine fn_in h_laws_szRec r_laws_szRec ⟨by simp only [go_sem], fun E hE hH => ?_⟩; simp only [go_sem] at hE hH; simp only [go_sem, hE, hH, c_laws_szRec]
  refine ok_view ?_; simp (disch := omega) only [go_sem, hE, hH]; refine cvA (szStringS_ok _ _ (by omega) (by omega) w_Reads) ?_
  try simp (disch := omega) only [go_sem, hE, hH]
  refine aftV_intro ?_
  rintro r k ⟨n0, rfl, a0, b0⟩
  try simp (disch := omega) only [go_sem, hE, hH]
  first | refine gd_t (fun h => ?_) (fun h => ?_) | refine gd_f (fun h => ?_) (fun h => ?_)
  · have hb := h
    simp only [nf, beq_iff_eq, bne_iff_ne, beq_eq_false_iff_ne, bne_eq_false_iff_eq] at h
    try simp (disch := omega) only [go_sem, hE, hH, hb]
    exact ⟨_, rfl, by omega, by omega⟩
  have hb := h
  simp only [nf, beq_iff_eq, bne_iff_ne, beq_eq_false_iff_ne, bne_eq_false_iff_eq] at h
  try simp (disch := omega) only [go_sem, hE, hH, hb]
  have p0 : 0 ≤ n0 := by omega
  have b0 := b0 p0
  clear h hb
  refine ok_view ?_; simp (disch := omega) only [go_sem, hE, hH]; refine cvA (szWriteS_ok _ _ p0 (by omega) w_Writes) ?_
  try simp (disch := omega) only [go_sem, hE, hH]
  refine aftV_intro ?_
  rintro r k ⟨n1, rfl, a1, b1⟩
  try simp (disch := omega) only [go_sem, hE, hH]
  first | refine gd_t (fun h => ?_) (fun h => ?_) | refine gd_f (fun h => ?_) (fun h => ?_)
  · have hb := h
    simp only [nf, beq_iff_eq, bne_iff_ne, beq_eq_false_iff_ne, bne_eq_false_iff_eq] at h
    try simp (disch := omega) only [go_sem, hE, hH, hb]
    exact ⟨_, rfl, by omega, by omega⟩
  have hb := h
  simp only [nf, beq_iff_eq, bne_iff_ne, beq_eq_false_iff_ne, bne_eq_false_iff_eq] at h
  try simp (disch := omega) only [go_sem, hE, hH, hb]
  have p1 : 0 ≤ n1 := by omega
  have b1 := b1 p1
  clear h hb
  exact ⟨_, rfl, by omega, fun _ => by unfold Rec.sz; omega⟩
theorem szWorldLook_ok (x : WorldLook) (left : Int) (h0 : 0 ≤ left) (h1 : left ≤ 2 ^ 20) (hw : x.wf) : ACall Tryz.prog n_laws_szWorldLook [.agg (WorldLook.row false x), i64 left]
    (fun r _ => ∃ n : Int, r = i64 n ∧ n ≤ left ∧ (0 ≤ n → n + (x.sz : Nat) = left)) := by
  obtain ⟨w_Node, w_Keys, w_Got, w_Time, w_Begin, w_End⟩ := hw
  have hm := mx_eq
  refine fn_in h_laws_szWorldLook r_laws_szWorldLook ⟨by simp only [go_sem], fun E hE hH => ?_⟩; simp only [go_sem] at hE hH; simp only [go_sem, hE, hH, c_laws_szWorldLook]
  refine ok_view ?_; simp (disch := omega) only [go_sem, hE, hH]; refine cvA (szStringS_ok _ _ (by omega) (by omega) w_Keys) ?_
  try simp (disch := omega) only [go_sem, hE, hH]
  refine aftV_intro ?_
  rintro r k ⟨n0, rfl, a0, b0⟩
  try simp (disch := omega) only [go_sem, hE, hH]
  first | refine gd_t (fun h => ?_) (fun h => ?_) | refine gd_f (fun h => ?_) (fun h => ?_)
  · have hb := h
    simp only [nf, beq_iff_eq, bne_iff_ne, beq_eq_false_iff_ne, bne_eq_false_iff_eq] at h
    try simp (disch := omega) only [go_sem, hE, hH, hb]
    exact ⟨_, rfl, by omega, by omega⟩
  have hb := h
  simp only [nf, beq_iff_eq, bne_iff_ne, beq_eq_false_iff_ne, bne_eq_false_iff_eq] at h
  try simp (disch := omega) only [go_sem, hE, hH, hb]
  have p0 : 0 ≤ n0 := by omega
  have b0 := b0 p0
  clear h hb
  refine ok_view ?_; simp (disch := omega) only [go_sem, hE, hH]; refine cvA (szGotS_ok _ _ p0 (by omega) w_Got) ?_
  try simp (disch := omega) only [go_sem, hE, hH]
  refine aftV_intro ?_
  rintro r k ⟨n1, rfl, a1, b1⟩
  try simp (disch := omega) only [go_sem, hE, hH]
  first | refine gd_t (fun h => ?_) (fun h => ?_) | refine gd_f (fun h => ?_) (fun h => ?_)
  · have hb := h
    simp only [nf, beq_iff_eq, bne_iff_ne, beq_eq_false_iff_ne, bne_eq_false_iff_eq] at h
    try simp (disch := omega) only [go_sem, hE, hH, hb]
    exact ⟨_, rfl, by omega, by omega⟩
  have hb := h
  simp only [nf, beq_iff_eq, bne_iff_ne, beq_eq_false_iff_ne, bne_eq_false_iff_eq] at h
  try simp (disch := omega) only [go_sem, hE, hH, hb]
  have p1 : 0 ≤ n1 := by omega
  have b1 := b1 p1
  clear h hb
  exact ⟨_, rfl, by omega, fun _ => by unfold WorldLook.sz; omega⟩
theorem szWorldTxn_ok (x : WorldTxn) (left : Int) (h0 : 0 ≤ left) (h1 : left ≤ 2 ^ 20) (hw : x.wf) : ACall Tryz.prog n_laws_szWorldTxn [.agg (WorldTxn.row false x), i64 left]
    (fun r _ => ∃ n : Int, r = i64 n ∧ n ≤ left ∧ (0 ≤ n → n + (x.sz : Nat) = left)) := by
  obtain ⟨w_Ops, w_Got, w_Terms, w_Begin, w_End, w_Time⟩ := hw
  have hm := mx_eq
  refine fn_in h_laws_szWorldTxn r_laws_szWorldTxn ⟨by simp only [go_sem], fun E hE hH => ?_⟩; simp only [go_sem] at hE hH; simp only [go_sem, hE, hH, c_laws_szWorldTxn]
  refine ok_view ?_; simp (disch := omega) only [go_sem, hE, hH]; refine cvA (szOpS_ok _ _ (by omega) (by omega) w_Ops) ?_
  try simp (disch := omega) only [go_sem, hE, hH]
  refine aftV_intro ?_
  rintro r k ⟨n0, rfl, a0, b0⟩
  try simp (disch := omega) only [go_sem, hE, hH]
  first | refine gd_t (fun h => ?_) (fun h => ?_) | refine gd_f (fun h => ?_) (fun h => ?_)
  · have hb := h
    simp only [nf, beq_iff_eq, bne_iff_ne, beq_eq_false_iff_ne, bne_eq_false_iff_eq] at h
    try simp (disch := omega) only [go_sem, hE, hH, hb]
    exact ⟨_, rfl, by omega, by omega⟩
  have hb := h
  simp only [nf, beq_iff_eq, bne_iff_ne, beq_eq_false_iff_ne, bne_eq_false_iff_eq] at h
  try simp (disch := omega) only [go_sem, hE, hH, hb]
  have p0 : 0 ≤ n0 := by omega
  have b0 := b0 p0
  clear h hb
  refine ok_view ?_; simp (disch := omega) only [go_sem, hE, hH]; refine cvA (szGotS_ok _ _ p0 (by omega) w_Got) ?_
  try simp (disch := omega) only [go_sem, hE, hH]
  refine aftV_intro ?_
  rintro r k ⟨n1, rfl, a1, b1⟩
  try simp (disch := omega) only [go_sem, hE, hH]
  first | refine gd_t (fun h => ?_) (fun h => ?_) | refine gd_f (fun h => ?_) (fun h => ?_)
  · have hb := h
    simp only [nf, beq_iff_eq, bne_iff_ne, beq_eq_false_iff_ne, bne_eq_false_iff_eq] at h
    try simp (disch := omega) only [go_sem, hE, hH, hb]
    exact ⟨_, rfl, by omega, by omega⟩
  have hb := h
  simp only [nf, beq_iff_eq, bne_iff_ne, beq_eq_false_iff_ne, bne_eq_false_iff_eq] at h
  try simp (disch := omega) only [go_sem, hE, hH, hb]
  have p1 : 0 ≤ n1 := by omega
  have b1 := b1 p1
  clear h hb
  refine ok_view ?_; simp (disch := omega) only [go_sem, hE, hH]; refine cvA (szIntS_ok _ _ p1 (by omega) w_Terms) ?_
  try simp (disch := omega) only [go_sem, hE, hH]
  refine aftV_intro ?_
  rintro r k ⟨n2, rfl, a2, b2⟩
  try simp (disch := omega) only [go_sem, hE, hH]
  first | refine gd_t (fun h => ?_) (fun h => ?_) | refine gd_f (fun h => ?_) (fun h => ?_)
  · have hb := h
    simp only [nf, beq_iff_eq, bne_iff_ne, beq_eq_false_iff_ne, bne_eq_false_iff_eq] at h
    try simp (disch := omega) only [go_sem, hE, hH, hb]
    exact ⟨_, rfl, by omega, by omega⟩
  have hb := h
  simp only [nf, beq_iff_eq, bne_iff_ne, beq_eq_false_iff_ne, bne_eq_false_iff_eq] at h
  try simp (disch := omega) only [go_sem, hE, hH, hb]
  have p2 : 0 ≤ n2 := by omega
  have b2 := b2 p2
  clear h hb
  exact ⟨_, rfl, by omega, fun _ => by unfold WorldTxn.sz; omega⟩
theorem szEntry_ok (x : Entry) (left : Int) (h0 : 0 ≤ left) (h1 : left ≤ 2 ^ 20) (hw : x.wf) : ACall Tryz.prog n_laws_szEntry [.agg (Entry.row false x), i64 left]
    (fun r _ => ∃ n : Int, r = i64 n ∧ n ≤ left ∧ (0 ≤ n → n + (x.sz : Nat) = left)) := by
  obtain ⟨w_Term, w_Rec⟩ := hw
  have hm := mx_eq
  refine fn_in h_laws_szEntry r_laws_szEntry ⟨by simp only [go_sem], fun E hE hH => ?_⟩; simp only [go_sem] at hE hH; simp only [go_sem, hE, hH, c_laws_szEntry]
  refine ok_view ?_; simp (disch := omega) only [go_sem, hE, hH]; refine cvA (szRec_ok _ _ (by omega) (by omega) w_Rec) ?_
  try simp (disch := omega) only [go_sem, hE, hH]
  refine aftV_intro ?_
  rintro r k ⟨n0, rfl, a0, b0⟩
  try simp (disch := omega) only [go_sem, hE, hH]
  first | refine gd_t (fun h => ?_) (fun h => ?_) | refine gd_f (fun h => ?_) (fun h => ?_)
  · have hb := h
    simp only [nf, beq_iff_eq, bne_iff_ne, beq_eq_false_iff_ne, bne_eq_false_iff_eq] at h
    try simp (disch := omega) only [go_sem, hE, hH, hb]
    exact ⟨_, rfl, by omega, by omega⟩
  have hb := h
  simp only [nf, beq_iff_eq, bne_iff_ne, beq_eq_false_iff_ne, bne_eq_false_iff_eq] at h
  try simp (disch := omega) only [go_sem, hE, hH, hb]
  have p0 : 0 ≤ n0 := by omega
  have b0 := b0 p0
  clear h hb
  exact ⟨_, rfl, by omega, fun _ => by unfold Entry.sz; omega⟩
theorem szWorldLookS_ok (l : List WorldLook) (left : Int) (h0 : 0 ≤ left) (h1 : left ≤ 2 ^ 20) (hw : wfL (WorldLook.wf) l) : ACall Tryz.prog n_laws_szWorldLookS [.sl false 6 (l.map (WorldLook.row false)), i64 left]
    (fun r _ => ∃ n : Int, r = i64 n ∧ n ≤ left ∧ (0 ≤ n → n + (szL (WorldLook.sz) l : Nat) = left)) := by
  obtain ⟨hl, hx⟩ := hw
  have hm := mx_eq
  refine fn_in h_laws_szWorldLookS r_laws_szWorldLookS ⟨by simp only [go_sem], fun E hE hH => ?_⟩; simp only [go_sem] at hE hH; simp only [go_sem, hE, hH, c_laws_szWorldLookS]
  try simp (disch := omega) only [go_sem, hE, hH]
  repeat' (first | ((with_reducible first | refine gd_t ?_ ?_ | refine gd_f ?_ ?_) <;> (intro h; have hb := h; (try simp only [nf, beq_iff_eq, bne_iff_ne, beq_eq_false_iff_ne, bne_eq_false_iff_eq] at h); simp (disch := omega) only [go_sem, hE, hH, hb]; (try clear hb))) | ((with_reducible refine And.intro ?_ ?_); · omega) | (refine jn _ ?_ ?_) | (with_reducible refine both ?_ ?_) | (with_reducible refine And.intro ?_ ?_) | (refine fin_eq ?_; (try (simp (disch := omega) only [go_sem, hE, hH])); first | done | rfl) | (simp (disch := omega) only [go_sem, hE, hH]) | ((first | apply noMLL_sE | apply pk_sE) <;> (simp only [go_sem, hE, hH]; done)) | (simp only [go_sem, hE, hH]) | fail)
  · exact ⟨_, rfl, by omega, by omega⟩
  refine loopN l.length (fun j (n : Int) => ⟨[(0, .sl false 6 (l.map (WorldLook.row false))), (1, i64 n), (5, i64 j)], []⟩) (fun j n => 0 ≤ n ∧ n ≤ left ∧ n + l.length + psum (WorldLook.sz) l j = left) (left - (l.length : Int)) (by rw [psum_zero]; omega) ?_
  intro j n hj hI
  obtain ⟨i1, i0, i2⟩ := hI
  try simp only [go_sem, hE, hH, c_laws_szWorldLookS_l1]
  first | refine gd_t (fun h => ?_) (fun h => ?_) | refine gd_f (fun h => ?_) (fun h => ?_)
  · have hb := h
    simp only [nf, beq_iff_eq, bne_iff_ne, beq_eq_false_iff_ne, bne_eq_false_iff_eq] at h
    have hlt := h; clear h
    have hs := hx _ (nth_mem hlt)
    try simp (disch := omega) only [go_sem, hE, hH, hb]
    repeat refine And.intro (by omega) ?_
    refine ok_view ?_; simp (disch := omega) only [go_sem, hE, hH]; refine cvA (szWorldLook_ok (nth l j) n i1 (by omega) hs) ?_
    try simp only [go_sem, hE, hH]
    refine aftV_intro ?_
    rintro r k ⟨q, rfl, q1, q2⟩
    try simp (disch := omega) only [go_sem, hE, hH]
    repeat' (first | ((with_reducible first | refine gd_t ?_ ?_ | refine gd_f ?_ ?_) <;> (intro h; have hb := h; (try simp only [nf, beq_iff_eq, bne_iff_ne, beq_eq_false_iff_ne, bne_eq_false_iff_eq] at h); simp (disch := omega) only [go_sem, hE, hH, hb]; (try clear hb))) | ((with_reducible refine And.intro ?_ ?_); · omega) | (refine jn _ ?_ ?_) | (with_reducible refine both ?_ ?_) | (with_reducible refine And.intro ?_ ?_) | (refine fin_eq ?_; (try (simp (disch := omega) only [go_sem, hE, hH])); first | done | rfl) | (simp (disch := omega) only [go_sem, hE, hH]) | ((first | apply noMLL_sE | apply pk_sE) <;> (simp only [go_sem, hE, hH]; done)) | (simp only [go_sem, hE, hH]) | fail)
    · exact ⟨_, rfl, by omega, by omega⟩
    · exact ⟨_, rfl, by omega, by omega, by have q2 := q2 (by omega); rw [psum_succ hlt]; omega⟩
  · have hb := h
    simp only [nf, beq_iff_eq, bne_iff_ne, beq_eq_false_iff_ne, bne_eq_false_iff_eq] at h
    try simp (disch := omega) only [go_sem, hE, hH, hb]
    exact ⟨_, rfl, by omega, fun _ => by rw [psum_all (by omega)] at i2; rw [show szL (WorldLook.sz) l = l.length + (l.map (WorldLook.sz)).sum from rfl]; omega⟩
theorem szWorldTxnS_ok (l : List WorldTxn) (left : Int) (h0 : 0 ≤ left) (h1 : left ≤ 2 ^ 20) (hw : wfL (WorldTxn.wf) l) : ACall Tryz.prog n_laws_szWorldTxnS [.sl false 10 (l.map (WorldTxn.row false)), i64 left]
    (fun r _ => ∃ n : Int, r = i64 n ∧ n ≤ left ∧ (0 ≤ n → n + (szL (WorldTxn.sz) l : Nat) = left)) := by
  obtain ⟨hl, hx⟩ := hw
  have hm := mx_eq
  refine fn_in h_laws_szWorldTxnS r_laws_szWorldTxnS ⟨by simp only [go_sem], fun E hE hH => ?_⟩; simp only [go_sem] at hE hH; simp only [go_sem, hE, hH, c_laws_szWorldTxnS]
  try simp (disch := omega) only [go_sem, hE, hH]
  repeat' (first | ((with_reducible first | refine gd_t ?_ ?_ | refine gd_f ?_ ?_) <;> (intro h; have hb := h; (try simp only [nf, beq_iff_eq, bne_iff_ne, beq_eq_false_iff_ne, bne_eq_false_iff_eq] at h); simp (disch := omega) only [go_sem, hE, hH, hb]; (try clear hb))) | ((with_reducible refine And.intro ?_ ?_); · omega) | (refine jn _ ?_ ?_) | (with_reducible refine both ?_ ?_) | (with_reducible refine And.intro ?_ ?_) | (refine fin_eq ?_; (try (simp (disch := omega) only [go_sem, hE, hH])); first | done | rfl) | (simp (disch := omega) only [go_sem, hE, hH]) | ((first | apply noMLL_sE | apply pk_sE) <;> (simp only [go_sem, hE, hH]; done)) | (simp only [go_sem, hE, hH]) | fail)
  · exact ⟨_, rfl, by omega, by omega⟩
  refine loopN l.length (fun j (n : Int) => ⟨[(0, .sl false 10 (l.map (WorldTxn.row false))), (1, i64 n), (5, i64 j)], []⟩) (fun j n => 0 ≤ n ∧ n ≤ left ∧ n + l.length + psum (WorldTxn.sz) l j = left) (left - (l.length : Int)) (by rw [psum_zero]; omega) ?_
  intro j n hj hI
  obtain ⟨i1, i0, i2⟩ := hI
  try simp only [go_sem, hE, hH, c_laws_szWorldTxnS_l1]
  first | refine gd_t (fun h => ?_) (fun h => ?_) | refine gd_f (fun h => ?_) (fun h => ?_)
  · have hb := h
    simp only [nf, beq_iff_eq, bne_iff_ne, beq_eq_false_iff_ne, bne_eq_false_iff_eq] at h
    have hlt := h; clear h
    have hs := hx _ (nth_mem hlt)
    try simp (disch := omega) only [go_sem, hE, hH, hb]
    repeat refine And.intro (by omega) ?_
    refine ok_view ?_; simp (disch := omega) only [go_sem, hE, hH]; refine cvA (szWorldTxn_ok (nth l j) n i1 (by omega) hs) ?_
    try simp only [go_sem, hE, hH]
    refine aftV_intro ?_
    rintro r k ⟨q, rfl, q1, q2⟩
    try simp (disch := omega) only [go_sem, hE, hH]
    repeat' (first | ((with_reducible first | refine gd_t ?_ ?_ | refine gd_f ?_ ?_) <;> (intro h; have hb := h; (try simp only [nf, beq_iff_eq, bne_iff_ne, beq_eq_false_iff_ne, bne_eq_false_iff_eq] at h); simp (disch := omega) only [go_sem, hE, hH, hb]; (try clear hb))) | ((with_reducible refine And.intro ?_ ?_); · omega) | (refine jn _ ?_ ?_) | (with_reducible refine both ?_ ?_) | (with_reducible refine And.intro ?_ ?_) | (refine fin_eq ?_; (try (simp (disch := omega) only [go_sem, hE, hH])); first | done | rfl) | (simp (disch := omega) only [go_sem, hE, hH]) | ((first | apply noMLL_sE | apply pk_sE) <;> (simp only [go_sem, hE, hH]; done)) | (simp only [go_sem, hE, hH]) | fail)
    · exact ⟨_, rfl, by omega, by omega⟩
    · exact ⟨_, rfl, by omega, by omega, by have q2 := q2 (by omega); rw [psum_succ hlt]; omega⟩
  · have hb := h
    simp only [nf, beq_iff_eq, bne_iff_ne, beq_eq_false_iff_ne, bne_eq_false_iff_eq] at h
    try simp (disch := omega) only [go_sem, hE, hH, hb]
    exact ⟨_, rfl, by omega, fun _ => by rw [psum_all (by omega)] at i2; rw [show szL (WorldTxn.sz) l = l.length + (l.map (WorldTxn.sz)).sum from rfl]; omega⟩
theorem szEntryS_ok (l : List Entry) (left : Int) (h0 : 0 ≤ left) (h1 : left ≤ 2 ^ 20) (hw : wfL (Entry.wf) l) : ACall Tryz.prog n_laws_szEntryS [.sl false 8 (l.map (Entry.row false)), i64 left]
    (fun r _ => ∃ n : Int, r = i64 n ∧ n ≤ left ∧ (0 ≤ n → n + (szL (Entry.sz) l : Nat) = left)) := by
  obtain ⟨hl, hx⟩ := hw
  have hm := mx_eq
  refine fn_in h_laws_szEntryS r_laws_szEntryS ⟨by simp only [go_sem], fun E hE hH => ?_⟩; simp only [go_sem] at hE hH; simp only [go_sem, hE, hH, c_laws_szEntryS]
  try simp (disch := omega) only [go_sem, hE, hH]
  repeat' (first | ((with_reducible first | refine gd_t ?_ ?_ | refine gd_f ?_ ?_) <;> (intro h; have hb := h; (try simp only [nf, beq_iff_eq, bne_iff_ne, beq_eq_false_iff_ne, bne_eq_false_iff_eq] at h); simp (disch := omega) only [go_sem, hE, hH, hb]; (try clear hb))) | ((with_reducible refine And.intro ?_ ?_); · omega) | (refine jn _ ?_ ?_) | (with_reducible refine both ?_ ?_) | (with_reducible refine And.intro ?_ ?_) | (refine fin_eq ?_; (try (simp (disch := omega) only [go_sem, hE, hH])); first | done | rfl) | (simp (disch := omega) only [go_sem, hE, hH]) | ((first | apply noMLL_sE | apply pk_sE) <;> (simp only [go_sem, hE, hH]; done)) | (simp only [go_sem, hE, hH]) | fail)
  · exact ⟨_, rfl, by omega, by omega⟩
  refine loopN l.length (fun j (n : Int) => ⟨[(0, .sl false 8 (l.map (Entry.row false))), (1, i64 n), (5, i64 j)], []⟩) (fun j n => 0 ≤ n ∧ n ≤ left ∧ n + l.length + psum (Entry.sz) l j = left) (left - (l.length : Int)) (by rw [psum_zero]; omega) ?_
  intro j n hj hI
  obtain ⟨i1, i0, i2⟩ := hI
  try simp only [go_sem, hE, hH, c_laws_szEntryS_l1]
  first | refine gd_t (fun h => ?_) (fun h => ?_) | refine gd_f (fun h => ?_) (fun h => ?_)
  · have hb := h
    simp only [nf, beq_iff_eq, bne_iff_ne, beq_eq_false_iff_ne, bne_eq_false_iff_eq] at h
    have hlt := h; clear h
    have hs := hx _ (nth_mem hlt)
    try simp (disch := omega) only [go_sem, hE, hH, hb]
    repeat refine And.intro (by omega) ?_
    refine ok_view ?_; simp (disch := omega) only [go_sem, hE, hH]; refine cvA (szEntry_ok (nth l j) n i1 (by omega) hs) ?_
    try simp only [go_sem, hE, hH]
    refine aftV_intro ?_
    rintro r k ⟨q, rfl, q1, q2⟩
    try simp (disch := omega) only [go_sem, hE, hH]
    repeat' (first | ((with_reducible first | refine gd_t ?_ ?_ | refine gd_f ?_ ?_) <;> (intro h; have hb := h; (try simp only [nf, beq_iff_eq, bne_iff_ne, beq_eq_false_iff_ne, bne_eq_false_iff_eq] at h); simp (disch := omega) only [go_sem, hE, hH, hb]; (try clear hb))) | ((with_reducible refine And.intro ?_ ?_); · omega) | (refine jn _ ?_ ?_) | (with_reducible refine both ?_ ?_) | (with_reducible refine And.intro ?_ ?_) | (refine fin_eq ?_; (try (simp (disch := omega) only [go_sem, hE, hH])); first | done | rfl) | (simp (disch := omega) only [go_sem, hE, hH]) | ((first | apply noMLL_sE | apply pk_sE) <;> (simp only [go_sem, hE, hH]; done)) | (simp only [go_sem, hE, hH]) | fail)
    · exact ⟨_, rfl, by omega, by omega⟩
    · exact ⟨_, rfl, by omega, by omega, by have q2 := q2 (by omega); rw [psum_succ hlt]; omega⟩
  · have hb := h
    simp only [nf, beq_iff_eq, bne_iff_ne, beq_eq_false_iff_ne, bne_eq_false_iff_eq] at h
    try simp (disch := omega) only [go_sem, hE, hH, hb]
    exact ⟨_, rfl, by omega, fun _ => by rw [psum_all (by omega)] at i2; rw [show szL (Entry.sz) l = l.length + (l.map (Entry.sz)).sum from rfl]; omega⟩
theorem szReplica_ok (x : Replica) (left : Int) (h0 : 0 ≤ left) (h1 : left ≤ 2 ^ 20) (hw : x.wf) : ACall Tryz.prog n_laws_szReplica [.agg (Replica.row false x), i64 left]
    (fun r _ => ∃ n : Int, r = i64 n ∧ n ≤ left ∧ (0 ≤ n → n + (x.sz : Nat) = left)) := by
  obtain ⟨w_Log, w_Sure⟩ := hw
  have hm := mx_eq
  refine fn_in h_laws_szReplica r_laws_szReplica ⟨by simp only [go_sem], fun E hE hH => ?_⟩; simp only [go_sem] at hE hH; simp only [go_sem, hE, hH, c_laws_szReplica]
  refine ok_view ?_; simp (disch := omega) only [go_sem, hE, hH]; refine cvA (szEntryS_ok _ _ (by omega) (by omega) w_Log) ?_
  try simp (disch := omega) only [go_sem, hE, hH]
  refine aftV_intro ?_
  rintro r k ⟨n0, rfl, a0, b0⟩
  try simp (disch := omega) only [go_sem, hE, hH]
  first | refine gd_t (fun h => ?_) (fun h => ?_) | refine gd_f (fun h => ?_) (fun h => ?_)
  · have hb := h
    simp only [nf, beq_iff_eq, bne_iff_ne, beq_eq_false_iff_ne, bne_eq_false_iff_eq] at h
    try simp (disch := omega) only [go_sem, hE, hH, hb]
    exact ⟨_, rfl, by omega, by omega⟩
  have hb := h
  simp only [nf, beq_iff_eq, bne_iff_ne, beq_eq_false_iff_ne, bne_eq_false_iff_eq] at h
  try simp (disch := omega) only [go_sem, hE, hH, hb]
  have p0 : 0 ≤ n0 := by omega
  have b0 := b0 p0
  clear h hb
  exact ⟨_, rfl, by omega, fun _ => by unfold Replica.sz; omega⟩
theorem szReplicaS_ok (l : List Replica) (left : Int) (h0 : 0 ≤ left) (h1 : left ≤ 2 ^ 20) (hw : wfL (Replica.wf) l) : ACall Tryz.prog n_laws_szReplicaS [.sl false 3 (l.map (Replica.row false)), i64 left]
    (fun r _ => ∃ n : Int, r = i64 n ∧ n ≤ left ∧ (0 ≤ n → n + (szL (Replica.sz) l : Nat) = left)) := by
  obtain ⟨hl, hx⟩ := hw
  have hm := mx_eq
  refine fn_in h_laws_szReplicaS r_laws_szReplicaS ⟨by simp only [go_sem], fun E hE hH => ?_⟩; simp only [go_sem] at hE hH; simp only [go_sem, hE, hH, c_laws_szReplicaS]
  try simp (disch := omega) only [go_sem, hE, hH]
  repeat' (first | ((with_reducible first | refine gd_t ?_ ?_ | refine gd_f ?_ ?_) <;> (intro h; have hb := h; (try simp only [nf, beq_iff_eq, bne_iff_ne, beq_eq_false_iff_ne, bne_eq_false_iff_eq] at h); simp (disch := omega) only [go_sem, hE, hH, hb]; (try clear hb))) | ((with_reducible refine And.intro ?_ ?_); · omega) | (refine jn _ ?_ ?_) | (with_reducible refine both ?_ ?_) | (with_reducible refine And.intro ?_ ?_) | (refine fin_eq ?_; (try (simp (disch := omega) only [go_sem, hE, hH])); first | done | rfl) | (simp (disch := omega) only [go_sem, hE, hH]) | ((first | apply noMLL_sE | apply pk_sE) <;> (simp only [go_sem, hE, hH]; done)) | (simp only [go_sem, hE, hH]) | fail)
  · exact ⟨_, rfl, by omega, by omega⟩
  refine loopN l.length (fun j (n : Int) => ⟨[(0, .sl false 3 (l.map (Replica.row false))), (1, i64 n), (5, i64 j)], []⟩) (fun j n => 0 ≤ n ∧ n ≤ left ∧ n + l.length + psum (Replica.sz) l j = left) (left - (l.length : Int)) (by rw [psum_zero]; omega) ?_
  intro j n hj hI
  obtain ⟨i1, i0, i2⟩ := hI
  try simp only [go_sem, hE, hH, c_laws_szReplicaS_l1]
  first | refine gd_t (fun h => ?_) (fun h => ?_) | refine gd_f (fun h => ?_) (fun h => ?_)
  · have hb := h
    simp only [nf, beq_iff_eq, bne_iff_ne, beq_eq_false_iff_ne, bne_eq_false_iff_eq] at h
    have hlt := h; clear h
    have hs := hx _ (nth_mem hlt)
    try simp (disch := omega) only [go_sem, hE, hH, hb]
    repeat refine And.intro (by omega) ?_
    refine ok_view ?_; simp (disch := omega) only [go_sem, hE, hH]; refine cvA (szReplica_ok (nth l j) n i1 (by omega) hs) ?_
    try simp only [go_sem, hE, hH]
    refine aftV_intro ?_
    rintro r k ⟨q, rfl, q1, q2⟩
    try simp (disch := omega) only [go_sem, hE, hH]
    repeat' (first | ((with_reducible first | refine gd_t ?_ ?_ | refine gd_f ?_ ?_) <;> (intro h; have hb := h; (try simp only [nf, beq_iff_eq, bne_iff_ne, beq_eq_false_iff_ne, bne_eq_false_iff_eq] at h); simp (disch := omega) only [go_sem, hE, hH, hb]; (try clear hb))) | ((with_reducible refine And.intro ?_ ?_); · omega) | (refine jn _ ?_ ?_) | (with_reducible refine both ?_ ?_) | (with_reducible refine And.intro ?_ ?_) | (refine fin_eq ?_; (try (simp (disch := omega) only [go_sem, hE, hH])); first | done | rfl) | (simp (disch := omega) only [go_sem, hE, hH]) | ((first | apply noMLL_sE | apply pk_sE) <;> (simp only [go_sem, hE, hH]; done)) | (simp only [go_sem, hE, hH]) | fail)
    · exact ⟨_, rfl, by omega, by omega⟩
    · exact ⟨_, rfl, by omega, by omega, by have q2 := q2 (by omega); rw [psum_succ hlt]; omega⟩
  · have hb := h
    simp only [nf, beq_iff_eq, bne_iff_ne, beq_eq_false_iff_ne, bne_eq_false_iff_eq] at h
    try simp (disch := omega) only [go_sem, hE, hH, hb]
    exact ⟨_, rfl, by omega, fun _ => by rw [psum_all (by omega)] at i2; rw [show szL (Replica.sz) l = l.length + (l.map (Replica.sz)).sum from rfl]; omega⟩
theorem szGroup_ok (x : Group) (left : Int) (h0 : 0 ≤ left) (h1 : left ≤ 2 ^ 20) (hw : x.wf) : ACall Tryz.prog n_laws_szGroup [.agg (Group.row false x), i64 left]
    (fun r _ => ∃ n : Int, r = i64 n ∧ n ≤ left ∧ (0 ≤ n → n + (x.sz : Nat) = left)) := by
  obtain ⟨w_Reps, w_Term, w_Lead⟩ := hw
  have hm := mx_eq
  refine fn_in h_laws_szGroup r_laws_szGroup ⟨by simp only [go_sem], fun E hE hH => ?_⟩; simp only [go_sem] at hE hH; simp only [go_sem, hE, hH, c_laws_szGroup]
  refine ok_view ?_; simp (disch := omega) only [go_sem, hE, hH]; refine cvA (szReplicaS_ok _ _ (by omega) (by omega) w_Reps) ?_
  try simp (disch := omega) only [go_sem, hE, hH]
  refine aftV_intro ?_
  rintro r k ⟨n0, rfl, a0, b0⟩
  try simp (disch := omega) only [go_sem, hE, hH]
  first | refine gd_t (fun h => ?_) (fun h => ?_) | refine gd_f (fun h => ?_) (fun h => ?_)
  · have hb := h
    simp only [nf, beq_iff_eq, bne_iff_ne, beq_eq_false_iff_ne, bne_eq_false_iff_eq] at h
    try simp (disch := omega) only [go_sem, hE, hH, hb]
    exact ⟨_, rfl, by omega, by omega⟩
  have hb := h
  simp only [nf, beq_iff_eq, bne_iff_ne, beq_eq_false_iff_ne, bne_eq_false_iff_eq] at h
  try simp (disch := omega) only [go_sem, hE, hH, hb]
  have p0 : 0 ≤ n0 := by omega
  have b0 := b0 p0
  clear h hb
  exact ⟨_, rfl, by omega, fun _ => by unfold Group.sz; omega⟩
theorem szGroupS_ok (l : List Group) (left : Int) (h0 : 0 ≤ left) (h1 : left ≤ 2 ^ 20) (hw : wfL (Group.wf) l) : ACall Tryz.prog n_laws_szGroupS [.sl false 3 (l.map (Group.row false)), i64 left]
    (fun r _ => ∃ n : Int, r = i64 n ∧ n ≤ left ∧ (0 ≤ n → n + (szL (Group.sz) l : Nat) = left)) := by
  obtain ⟨hl, hx⟩ := hw
  have hm := mx_eq
  refine fn_in h_laws_szGroupS r_laws_szGroupS ⟨by simp only [go_sem], fun E hE hH => ?_⟩; simp only [go_sem] at hE hH; simp only [go_sem, hE, hH, c_laws_szGroupS]
  try simp (disch := omega) only [go_sem, hE, hH]
  repeat' (first | ((with_reducible first | refine gd_t ?_ ?_ | refine gd_f ?_ ?_) <;> (intro h; have hb := h; (try simp only [nf, beq_iff_eq, bne_iff_ne, beq_eq_false_iff_ne, bne_eq_false_iff_eq] at h); simp (disch := omega) only [go_sem, hE, hH, hb]; (try clear hb))) | ((with_reducible refine And.intro ?_ ?_); · omega) | (refine jn _ ?_ ?_) | (with_reducible refine both ?_ ?_) | (with_reducible refine And.intro ?_ ?_) | (refine fin_eq ?_; (try (simp (disch := omega) only [go_sem, hE, hH])); first | done | rfl) | (simp (disch := omega) only [go_sem, hE, hH]) | ((first | apply noMLL_sE | apply pk_sE) <;> (simp only [go_sem, hE, hH]; done)) | (simp only [go_sem, hE, hH]) | fail)
  · exact ⟨_, rfl, by omega, by omega⟩
  refine loopN l.length (fun j (n : Int) => ⟨[(0, .sl false 3 (l.map (Group.row false))), (1, i64 n), (5, i64 j)], []⟩) (fun j n => 0 ≤ n ∧ n ≤ left ∧ n + l.length + psum (Group.sz) l j = left) (left - (l.length : Int)) (by rw [psum_zero]; omega) ?_
  intro j n hj hI
  obtain ⟨i1, i0, i2⟩ := hI
  try simp only [go_sem, hE, hH, c_laws_szGroupS_l1]
  first | refine gd_t (fun h => ?_) (fun h => ?_) | refine gd_f (fun h => ?_) (fun h => ?_)
  · have hb := h
    simp only [nf, beq_iff_eq, bne_iff_ne, beq_eq_false_iff_ne, bne_eq_false_iff_eq] at h
    have hlt := h; clear h
    have hs := hx _ (nth_mem hlt)
    try simp (disch := omega) only [go_sem, hE, hH, hb]
    repeat refine And.intro (by omega) ?_
    refine ok_view ?_; simp (disch := omega) only [go_sem, hE, hH]; refine cvA (szGroup_ok (nth l j) n i1 (by omega) hs) ?_
    try simp only [go_sem, hE, hH]
    refine aftV_intro ?_
    rintro r k ⟨q, rfl, q1, q2⟩
    try simp (disch := omega) only [go_sem, hE, hH]
    repeat' (first | ((with_reducible first | refine gd_t ?_ ?_ | refine gd_f ?_ ?_) <;> (intro h; have hb := h; (try simp only [nf, beq_iff_eq, bne_iff_ne, beq_eq_false_iff_ne, bne_eq_false_iff_eq] at h); simp (disch := omega) only [go_sem, hE, hH, hb]; (try clear hb))) | ((with_reducible refine And.intro ?_ ?_); · omega) | (refine jn _ ?_ ?_) | (with_reducible refine both ?_ ?_) | (with_reducible refine And.intro ?_ ?_) | (refine fin_eq ?_; (try (simp (disch := omega) only [go_sem, hE, hH])); first | done | rfl) | (simp (disch := omega) only [go_sem, hE, hH]) | ((first | apply noMLL_sE | apply pk_sE) <;> (simp only [go_sem, hE, hH]; done)) | (simp only [go_sem, hE, hH]) | fail)
    · exact ⟨_, rfl, by omega, by omega⟩
    · exact ⟨_, rfl, by omega, by omega, by have q2 := q2 (by omega); rw [psum_succ hlt]; omega⟩
  · have hb := h
    simp only [nf, beq_iff_eq, bne_iff_ne, beq_eq_false_iff_ne, bne_eq_false_iff_eq] at h
    try simp (disch := omega) only [go_sem, hE, hH, hb]
    exact ⟨_, rfl, by omega, fun _ => by rw [psum_all (by omega)] at i2; rw [show szL (Group.sz) l = l.length + (l.map (Group.sz)).sum from rfl]; omega⟩
theorem szWorld_ok (x : World) (left : Int) (h0 : 0 ≤ left) (h1 : left ≤ 2 ^ 20) (hw : x.wf) : ACall Tryz.prog n_laws_szWorld [.agg (World.row false x), i64 left]
    (fun r _ => ∃ n : Int, r = i64 n ∧ n ≤ left ∧ (0 ≤ n → n + (x.sz : Nat) = left)) := by
  obtain ⟨w_Now, w_Count, w_Clocks, w_Cuts, w_Groups, w_Locks, w_Promised, w_Txns, w_Looks⟩ := hw
  have hm := mx_eq
  refine fn_in h_laws_szWorld r_laws_szWorld ⟨by simp only [go_sem], fun E hE hH => ?_⟩; simp only [go_sem] at hE hH; simp only [go_sem, hE, hH, c_laws_szWorld]
  refine ok_view ?_; simp (disch := omega) only [go_sem, hE, hH]; refine cvA (szClockS_ok _ _ (by omega) (by omega) w_Clocks) ?_
  try simp (disch := omega) only [go_sem, hE, hH]
  refine aftV_intro ?_
  rintro r k ⟨n0, rfl, a0, b0⟩
  try simp (disch := omega) only [go_sem, hE, hH]
  first | refine gd_t (fun h => ?_) (fun h => ?_) | refine gd_f (fun h => ?_) (fun h => ?_)
  · have hb := h
    simp only [nf, beq_iff_eq, bne_iff_ne, beq_eq_false_iff_ne, bne_eq_false_iff_eq] at h
    try simp (disch := omega) only [go_sem, hE, hH, hb]
    exact ⟨_, rfl, by omega, by omega⟩
  have hb := h
  simp only [nf, beq_iff_eq, bne_iff_ne, beq_eq_false_iff_ne, bne_eq_false_iff_eq] at h
  try simp (disch := omega) only [go_sem, hE, hH, hb]
  have p0 : 0 ≤ n0 := by omega
  have b0 := b0 p0
  clear h hb
  refine ok_view ?_; simp (disch := omega) only [go_sem, hE, hH]; refine cvA (szStringS_ok _ _ p0 (by omega) w_Cuts) ?_
  try simp (disch := omega) only [go_sem, hE, hH]
  refine aftV_intro ?_
  rintro r k ⟨n1, rfl, a1, b1⟩
  try simp (disch := omega) only [go_sem, hE, hH]
  first | refine gd_t (fun h => ?_) (fun h => ?_) | refine gd_f (fun h => ?_) (fun h => ?_)
  · have hb := h
    simp only [nf, beq_iff_eq, bne_iff_ne, beq_eq_false_iff_ne, bne_eq_false_iff_eq] at h
    try simp (disch := omega) only [go_sem, hE, hH, hb]
    exact ⟨_, rfl, by omega, by omega⟩
  have hb := h
  simp only [nf, beq_iff_eq, bne_iff_ne, beq_eq_false_iff_ne, bne_eq_false_iff_eq] at h
  try simp (disch := omega) only [go_sem, hE, hH, hb]
  have p1 : 0 ≤ n1 := by omega
  have b1 := b1 p1
  clear h hb
  refine ok_view ?_; simp (disch := omega) only [go_sem, hE, hH]; refine cvA (szGroupS_ok _ _ p1 (by omega) w_Groups) ?_
  try simp (disch := omega) only [go_sem, hE, hH]
  refine aftV_intro ?_
  rintro r k ⟨n2, rfl, a2, b2⟩
  try simp (disch := omega) only [go_sem, hE, hH]
  first | refine gd_t (fun h => ?_) (fun h => ?_) | refine gd_f (fun h => ?_) (fun h => ?_)
  · have hb := h
    simp only [nf, beq_iff_eq, bne_iff_ne, beq_eq_false_iff_ne, bne_eq_false_iff_eq] at h
    try simp (disch := omega) only [go_sem, hE, hH, hb]
    exact ⟨_, rfl, by omega, by omega⟩
  have hb := h
  simp only [nf, beq_iff_eq, bne_iff_ne, beq_eq_false_iff_ne, bne_eq_false_iff_eq] at h
  try simp (disch := omega) only [go_sem, hE, hH, hb]
  have p2 : 0 ≤ n2 := by omega
  have b2 := b2 p2
  clear h hb
  refine ok_view ?_; simp (disch := omega) only [go_sem, hE, hH]; refine cvA (szLockSS_ok _ _ p2 (by omega) w_Locks) ?_
  try simp (disch := omega) only [go_sem, hE, hH]
  refine aftV_intro ?_
  rintro r k ⟨n3, rfl, a3, b3⟩
  try simp (disch := omega) only [go_sem, hE, hH]
  first | refine gd_t (fun h => ?_) (fun h => ?_) | refine gd_f (fun h => ?_) (fun h => ?_)
  · have hb := h
    simp only [nf, beq_iff_eq, bne_iff_ne, beq_eq_false_iff_ne, bne_eq_false_iff_eq] at h
    try simp (disch := omega) only [go_sem, hE, hH, hb]
    exact ⟨_, rfl, by omega, by omega⟩
  have hb := h
  simp only [nf, beq_iff_eq, bne_iff_ne, beq_eq_false_iff_ne, bne_eq_false_iff_eq] at h
  try simp (disch := omega) only [go_sem, hE, hH, hb]
  have p3 : 0 ≤ n3 := by omega
  have b3 := b3 p3
  clear h hb
  refine ok_view ?_; simp (disch := omega) only [go_sem, hE, hH]; refine cvA (szIntS_ok _ _ p3 (by omega) w_Promised) ?_
  try simp (disch := omega) only [go_sem, hE, hH]
  refine aftV_intro ?_
  rintro r k ⟨n4, rfl, a4, b4⟩
  try simp (disch := omega) only [go_sem, hE, hH]
  first | refine gd_t (fun h => ?_) (fun h => ?_) | refine gd_f (fun h => ?_) (fun h => ?_)
  · have hb := h
    simp only [nf, beq_iff_eq, bne_iff_ne, beq_eq_false_iff_ne, bne_eq_false_iff_eq] at h
    try simp (disch := omega) only [go_sem, hE, hH, hb]
    exact ⟨_, rfl, by omega, by omega⟩
  have hb := h
  simp only [nf, beq_iff_eq, bne_iff_ne, beq_eq_false_iff_ne, bne_eq_false_iff_eq] at h
  try simp (disch := omega) only [go_sem, hE, hH, hb]
  have p4 : 0 ≤ n4 := by omega
  have b4 := b4 p4
  clear h hb
  refine ok_view ?_; simp (disch := omega) only [go_sem, hE, hH]; refine cvA (szWorldTxnS_ok _ _ p4 (by omega) w_Txns) ?_
  try simp (disch := omega) only [go_sem, hE, hH]
  refine aftV_intro ?_
  rintro r k ⟨n5, rfl, a5, b5⟩
  try simp (disch := omega) only [go_sem, hE, hH]
  first | refine gd_t (fun h => ?_) (fun h => ?_) | refine gd_f (fun h => ?_) (fun h => ?_)
  · have hb := h
    simp only [nf, beq_iff_eq, bne_iff_ne, beq_eq_false_iff_ne, bne_eq_false_iff_eq] at h
    try simp (disch := omega) only [go_sem, hE, hH, hb]
    exact ⟨_, rfl, by omega, by omega⟩
  have hb := h
  simp only [nf, beq_iff_eq, bne_iff_ne, beq_eq_false_iff_ne, bne_eq_false_iff_eq] at h
  try simp (disch := omega) only [go_sem, hE, hH, hb]
  have p5 : 0 ≤ n5 := by omega
  have b5 := b5 p5
  clear h hb
  refine ok_view ?_; simp (disch := omega) only [go_sem, hE, hH]; refine cvA (szWorldLookS_ok _ _ p5 (by omega) w_Looks) ?_
  try simp (disch := omega) only [go_sem, hE, hH]
  refine aftV_intro ?_
  rintro r k ⟨n6, rfl, a6, b6⟩
  try simp (disch := omega) only [go_sem, hE, hH]
  first | refine gd_t (fun h => ?_) (fun h => ?_) | refine gd_f (fun h => ?_) (fun h => ?_)
  · have hb := h
    simp only [nf, beq_iff_eq, bne_iff_ne, beq_eq_false_iff_ne, bne_eq_false_iff_eq] at h
    try simp (disch := omega) only [go_sem, hE, hH, hb]
    exact ⟨_, rfl, by omega, by omega⟩
  have hb := h
  simp only [nf, beq_iff_eq, bne_iff_ne, beq_eq_false_iff_ne, bne_eq_false_iff_eq] at h
  try simp (disch := omega) only [go_sem, hE, hH, hb]
  have p6 : 0 ≤ n6 := by omega
  have b6 := b6 p6
  clear h hb
  exact ⟨_, rfl, by omega, fun _ => by unfold World.sz; omega⟩
theorem toClock_ok (x : Clock) : ACall Tryz.prog n_laws_toClock [.agg (Clock.row false x)] (fun r _ => r = .agg (Clock.row true x)) := by
  refine fn_in h_laws_toClock r_laws_toClock ⟨by simp only [go_sem], fun E hE hH => ?_⟩; simp only [go_sem] at hE hH; simp only [go_sem, hE, hH, c_laws_toClock]
  repeat' (first | ((with_reducible first | refine gd_t ?_ ?_ | refine gd_f ?_ ?_) <;> (intro h; have hb := h; (try simp only [nf, beq_iff_eq, bne_iff_ne, beq_eq_false_iff_ne, bne_eq_false_iff_eq] at h); simp (disch := omega) only [go_sem, hE, hH, hb]; (try clear hb))) | ((with_reducible refine And.intro ?_ ?_); · omega) | (refine jn _ ?_ ?_) | (with_reducible refine both ?_ ?_) | (with_reducible refine And.intro ?_ ?_) | (refine fin_eq ?_; (try (simp (disch := omega) only [go_sem, hE, hH])); first | done | rfl) | (simp (disch := omega) only [go_sem, hE, hH]) | ((first | apply noMLL_sE | apply pk_sE) <;> (simp only [go_sem, hE, hH]; done)) | (simp only [go_sem, hE, hH]) | fail)
theorem toGot_ok (x : Got) (hs : x.sz ≤ 2 ^ 20) : ACall Tryz.prog n_laws_toGot [.agg (Got.row false x)] (fun r _ => r = .agg (Got.row true x)) := by
  unfold Got.sz at hs
  refine fn_in h_laws_toGot r_laws_toGot ⟨by simp only [go_sem], fun E hE hH => ?_⟩; simp only [go_sem] at hE hH; simp only [go_sem, hE, hH, c_laws_toGot]
  repeat' (first | ((with_reducible first | refine gd_t ?_ ?_ | refine gd_f ?_ ?_) <;> (intro h; have hb := h; (try simp only [nf, beq_iff_eq, bne_iff_ne, beq_eq_false_iff_ne, bne_eq_false_iff_eq] at h); simp (disch := omega) only [go_sem, hE, hH, hb]; (try clear hb))) | ((with_reducible refine And.intro ?_ ?_); · omega) | (refine jn _ ?_ ?_) | (with_reducible refine both ?_ ?_) | (with_reducible refine And.intro ?_ ?_) | (refine fin_eq ?_; (try (simp (disch := omega) only [go_sem, hE, hH])); first | done | rfl) | (simp (disch := omega) only [go_sem, hE, hH]) | ((first | apply noMLL_sE | apply pk_sE) <;> (simp only [go_sem, hE, hH]; done)) | (simp only [go_sem, hE, hH]) | fail)
theorem toIntS_ok (l : List Int) (hl : l.length ≤ 2 ^ 20) : ACall Tryz.prog n_laws_toIntS [.sl false 1 (ints l)] (fun r _ => r = .sl true 1 (ints l)) := by
  refine fn_in h_laws_toIntS r_laws_toIntS ⟨by simp only [go_sem], fun E hE hH => ?_⟩; simp only [go_sem] at hE hH; simp only [go_sem, hE, hH, c_laws_toIntS]
  refine And.intro (by omega) ?_
  rw [cpy_zero (fun x => [i64 x])]
  refine loopN l.length (fun j (_ : Unit) => ⟨[(0, .sl false 1 (ints l)), (3, .ref 4000000 0 l.length), (4, i64 j)], [(4000000, ⟨1, cpy (fun x => [i64 x]) [i64 0] l j⟩)]⟩) (fun _ _ => True) () trivial ?_
  intro j _ hj _
  try simp only [go_sem, hE, hH, c_laws_toIntS_l1]
  first | refine gd_t (fun h => ?_) (fun h => ?_) | refine gd_f (fun h => ?_) (fun h => ?_)
  · have hb := h
    simp only [nf, beq_iff_eq, bne_iff_ne, beq_eq_false_iff_ne, bne_eq_false_iff_eq] at h
    have hlt := h; clear h
    try simp (disch := omega) only [go_sem, hE, hH, hb, cpy_at, cpy_len]
    repeat' (first | ((with_reducible first | refine gd_t ?_ ?_ | refine gd_f ?_ ?_) <;> (intro h; have hb := h; (try simp only [nf, beq_iff_eq, bne_iff_ne, beq_eq_false_iff_ne, bne_eq_false_iff_eq] at h); simp (disch := omega) only [go_sem, hE, hH, hb]; (try clear hb))) | ((with_reducible refine And.intro ?_ ?_); · omega) | (refine jn _ ?_ ?_) | (with_reducible refine both ?_ ?_) | (with_reducible refine And.intro ?_ ?_) | (refine fin_eq ?_; (try (simp (disch := omega) only [go_sem, hE, hH])); first | done | rfl) | (simp (disch := omega) only [go_sem, hE, hH]) | ((first | apply noMLL_sE | apply pk_sE) <;> (simp only [go_sem, hE, hH]; done)) | (simp only [go_sem, hE, hH]) | fail)
    try try simp (disch := omega) only [go_sem, hE, hH, cpy_at, cpy_len]
    repeat refine And.intro (by omega) ?_
    try try simp (disch := omega) only [go_sem, hE, hH, cpy_at, cpy_len]
    repeat refine And.intro (by omega) ?_
    first | refine ⟨(), ?_, trivial⟩ | refine ⟨(), ?_⟩ | skip
    have hc := cpy_step (f := fun x => [i64 x]) (z := [i64 0]) hlt
    rw [hc]
    rfl
  · have hb := h
    simp only [nf, beq_iff_eq, bne_iff_ne, beq_eq_false_iff_ne, bne_eq_false_iff_eq] at h
    try simp (disch := omega) only [go_sem, hE, hH, hb, cpy_end]
theorem toLock_ok (x : Lock) (hs : x.sz ≤ 2 ^ 20) : ACall Tryz.prog n_laws_toLock [.agg (Lock.row false x)] (fun r _ => r = .agg (Lock.row true x)) := by
  unfold Lock.sz at hs
  refine fn_in h_laws_toLock r_laws_toLock ⟨by simp only [go_sem], fun E hE hH => ?_⟩; simp only [go_sem] at hE hH; simp only [go_sem, hE, hH, c_laws_toLock]
  repeat' (first | ((with_reducible first | refine gd_t ?_ ?_ | refine gd_f ?_ ?_) <;> (intro h; have hb := h; (try simp only [nf, beq_iff_eq, bne_iff_ne, beq_eq_false_iff_ne, bne_eq_false_iff_eq] at h); simp (disch := omega) only [go_sem, hE, hH, hb]; (try clear hb))) | ((with_reducible refine And.intro ?_ ?_); · omega) | (refine jn _ ?_ ?_) | (with_reducible refine both ?_ ?_) | (with_reducible refine And.intro ?_ ?_) | (refine fin_eq ?_; (try (simp (disch := omega) only [go_sem, hE, hH])); first | done | rfl) | (simp (disch := omega) only [go_sem, hE, hH]) | ((first | apply noMLL_sE | apply pk_sE) <;> (simp only [go_sem, hE, hH]; done)) | (simp only [go_sem, hE, hH]) | fail)
theorem toOp_ok (x : Op) (hs : x.sz ≤ 2 ^ 20) : ACall Tryz.prog n_laws_toOp [.agg (Op.row false x)] (fun r _ => r = .agg (Op.row true x)) := by
  unfold Op.sz at hs
  refine fn_in h_laws_toOp r_laws_toOp ⟨by simp only [go_sem], fun E hE hH => ?_⟩; simp only [go_sem] at hE hH; simp only [go_sem, hE, hH, c_laws_toOp]
  repeat' (first | ((with_reducible first | refine gd_t ?_ ?_ | refine gd_f ?_ ?_) <;> (intro h; have hb := h; (try simp only [nf, beq_iff_eq, bne_iff_ne, beq_eq_false_iff_ne, bne_eq_false_iff_eq] at h); simp (disch := omega) only [go_sem, hE, hH, hb]; (try clear hb))) | ((with_reducible refine And.intro ?_ ?_); · omega) | (refine jn _ ?_ ?_) | (with_reducible refine both ?_ ?_) | (with_reducible refine And.intro ?_ ?_) | (refine fin_eq ?_; (try (simp (disch := omega) only [go_sem, hE, hH])); first | done | rfl) | (simp (disch := omega) only [go_sem, hE, hH]) | ((first | apply noMLL_sE | apply pk_sE) <;> (simp only [go_sem, hE, hH]; done)) | (simp only [go_sem, hE, hH]) | fail)
theorem toStringS_ok (l : List ByteArray) (hl : szL (ByteArray.size) l ≤ 2 ^ 20) : ACall Tryz.prog n_laws_toStringS [.sl false 1 (strs l)] (fun r _ => r = .sl true 1 (strs l)) := by
  have hl0 : l.length ≤ 2 ^ 20 := Nat.le_trans szL_len hl
  refine fn_in h_laws_toStringS r_laws_toStringS ⟨by simp only [go_sem], fun E hE hH => ?_⟩; simp only [go_sem] at hE hH; simp only [go_sem, hE, hH, c_laws_toStringS]
  refine And.intro (by omega) ?_
  rw [cpy_zero (fun x => [str x])]
  refine loopN l.length (fun j (_ : Unit) => ⟨[(0, .sl false 1 (strs l)), (3, .ref 4000000 0 l.length), (4, i64 j)], [(4000000, ⟨1, cpy (fun x => [str x]) [str ⟨⟨[]⟩⟩] l j⟩)]⟩) (fun _ _ => True) () trivial ?_
  intro j _ hj _
  try simp only [go_sem, hE, hH, c_laws_toStringS_l1]
  first | refine gd_t (fun h => ?_) (fun h => ?_) | refine gd_f (fun h => ?_) (fun h => ?_)
  · have hb := h
    simp only [nf, beq_iff_eq, bne_iff_ne, beq_eq_false_iff_ne, bne_eq_false_iff_eq] at h
    have hlt := h; clear h
    try simp (disch := omega) only [go_sem, hE, hH, hb, cpy_at, cpy_len]
    repeat' (first | ((with_reducible first | refine gd_t ?_ ?_ | refine gd_f ?_ ?_) <;> (intro h; have hb := h; (try simp only [nf, beq_iff_eq, bne_iff_ne, beq_eq_false_iff_ne, bne_eq_false_iff_eq] at h); simp (disch := omega) only [go_sem, hE, hH, hb]; (try clear hb))) | ((with_reducible refine And.intro ?_ ?_); · omega) | (refine jn _ ?_ ?_) | (with_reducible refine both ?_ ?_) | (with_reducible refine And.intro ?_ ?_) | (refine fin_eq ?_; (try (simp (disch := omega) only [go_sem, hE, hH])); first | done | rfl) | (simp (disch := omega) only [go_sem, hE, hH]) | ((first | apply noMLL_sE | apply pk_sE) <;> (simp only [go_sem, hE, hH]; done)) | (simp only [go_sem, hE, hH]) | fail)
    try try simp (disch := omega) only [go_sem, hE, hH, cpy_at, cpy_len]
    repeat refine And.intro (by omega) ?_
    try try simp (disch := omega) only [go_sem, hE, hH, cpy_at, cpy_len]
    repeat refine And.intro (by omega) ?_
    first | refine ⟨(), ?_, trivial⟩ | refine ⟨(), ?_⟩ | skip
    have hc := cpy_step (f := fun x => [str x]) (z := [str ⟨⟨[]⟩⟩]) hlt
    rw [hc]
    rfl
  · have hb := h
    simp only [nf, beq_iff_eq, bne_iff_ne, beq_eq_false_iff_ne, bne_eq_false_iff_eq] at h
    try simp (disch := omega) only [go_sem, hE, hH, hb, cpy_end]
theorem toWrite_ok (x : Write) (hs : x.sz ≤ 2 ^ 20) : ACall Tryz.prog n_laws_toWrite [.agg (Write.row false x)] (fun r _ => r = .agg (Write.row true x)) := by
  unfold Write.sz at hs
  refine fn_in h_laws_toWrite r_laws_toWrite ⟨by simp only [go_sem], fun E hE hH => ?_⟩; simp only [go_sem] at hE hH; simp only [go_sem, hE, hH, c_laws_toWrite]
  repeat' (first | ((with_reducible first | refine gd_t ?_ ?_ | refine gd_f ?_ ?_) <;> (intro h; have hb := h; (try simp only [nf, beq_iff_eq, bne_iff_ne, beq_eq_false_iff_ne, bne_eq_false_iff_eq] at h); simp (disch := omega) only [go_sem, hE, hH, hb]; (try clear hb))) | ((with_reducible refine And.intro ?_ ?_); · omega) | (refine jn _ ?_ ?_) | (with_reducible refine both ?_ ?_) | (with_reducible refine And.intro ?_ ?_) | (refine fin_eq ?_; (try (simp (disch := omega) only [go_sem, hE, hH])); first | done | rfl) | (simp (disch := omega) only [go_sem, hE, hH]) | ((first | apply noMLL_sE | apply pk_sE) <;> (simp only [go_sem, hE, hH]; done)) | (simp only [go_sem, hE, hH]) | fail)
theorem toClockS_ok (l : List Clock) (hl : l.length ≤ 2 ^ 20) : ACall Tryz.prog n_laws_toClockS [.sl false 1 (l.map (Clock.row false))] (fun r _ => r = .sl true 1 (l.map (Clock.row true))) := by
  refine fn_in h_laws_toClockS r_laws_toClockS ⟨by simp only [go_sem], fun E hE hH => ?_⟩; simp only [go_sem] at hE hH; simp only [go_sem, hE, hH, c_laws_toClockS]
  refine And.intro (by omega) ?_
  rw [cpy_zero (Clock.row true)]
  refine loopN l.length (fun j (_ : Unit) => ⟨[(0, .sl false 1 (l.map (Clock.row false))), (3, .ref 4000000 0 l.length), (4, i64 j)], [(4000000, ⟨1, cpy (Clock.row true) [i64 0] l j⟩)]⟩) (fun _ _ => True) () trivial ?_
  intro j _ hj _
  try simp only [go_sem, hE, hH, c_laws_toClockS_l1]
  first | refine gd_t (fun h => ?_) (fun h => ?_) | refine gd_f (fun h => ?_) (fun h => ?_)
  · have hb := h
    simp only [nf, beq_iff_eq, bne_iff_ne, beq_eq_false_iff_ne, bne_eq_false_iff_eq] at h
    have hlt := h; clear h
    try simp (disch := omega) only [go_sem, hE, hH, hb, cpy_at, cpy_len]
    repeat' (first | ((with_reducible first | refine gd_t ?_ ?_ | refine gd_f ?_ ?_) <;> (intro h; have hb := h; (try simp only [nf, beq_iff_eq, bne_iff_ne, beq_eq_false_iff_ne, bne_eq_false_iff_eq] at h); simp (disch := omega) only [go_sem, hE, hH, hb]; (try clear hb))) | ((with_reducible refine And.intro ?_ ?_); · omega) | ((first | refine ok_view ?_ | refine cvA (toClock_ok _) ?_); simp (disch := omega) only [go_sem, hE, hH]) | (refine jn _ ?_ ?_) | (with_reducible refine both ?_ ?_) | (with_reducible refine And.intro ?_ ?_) | (refine fin_eq ?_; (try (simp (disch := omega) only [go_sem, hE, hH])); first | done | rfl) | (simp (disch := omega) only [go_sem, hE, hH]) | ((first | apply noMLL_sE | apply pk_sE) <;> (simp only [go_sem, hE, hH]; done)) | (simp only [go_sem, hE, hH]) | fail)
    try try simp (disch := omega) only [go_sem, hE, hH, cpy_at, cpy_len]
    repeat refine And.intro (by omega) ?_
    try try simp (disch := omega) only [go_sem, hE, hH, cpy_at, cpy_len]
    repeat refine And.intro (by omega) ?_
    first | refine ⟨(), ?_, trivial⟩ | refine ⟨(), ?_⟩ | skip
    have hc := cpy_step (f := Clock.row true) (z := [i64 0]) hlt
    simp only [Clock.row_eq] at hc ⊢
    rw [hc]
    rfl
  · have hb := h
    simp only [nf, beq_iff_eq, bne_iff_ne, beq_eq_false_iff_ne, bne_eq_false_iff_eq] at h
    try simp (disch := omega) only [go_sem, hE, hH, hb, cpy_end]
theorem toGotS_ok (l : List Got) (hl : szL (Got.sz) l ≤ 2 ^ 20) : ACall Tryz.prog n_laws_toGotS [.sl false 3 (l.map (Got.row false))] (fun r _ => r = .sl true 3 (l.map (Got.row true))) := by
  have hl0 : l.length ≤ 2 ^ 20 := Nat.le_trans szL_len hl
  refine fn_in h_laws_toGotS r_laws_toGotS ⟨by simp only [go_sem], fun E hE hH => ?_⟩; simp only [go_sem] at hE hH; simp only [go_sem, hE, hH, c_laws_toGotS]
  refine And.intro (by omega) ?_
  rw [cpy_zero (Got.row true)]
  refine loopN l.length (fun j (_ : Unit) => ⟨[(0, .sl false 3 (l.map (Got.row false))), (3, .ref 4000000 0 l.length), (4, i64 j)], [(4000000, ⟨3, cpy (Got.row true) [str ⟨⟨[]⟩⟩, str ⟨⟨[]⟩⟩, bl false] l j⟩)]⟩) (fun _ _ => True) () trivial ?_
  intro j _ hj _
  try simp only [go_sem, hE, hH, c_laws_toGotS_l1]
  first | refine gd_t (fun h => ?_) (fun h => ?_) | refine gd_f (fun h => ?_) (fun h => ?_)
  · have hb := h
    simp only [nf, beq_iff_eq, bne_iff_ne, beq_eq_false_iff_ne, bne_eq_false_iff_eq] at h
    have hlt := h; clear h
    have hs := Nat.le_trans (szL_mem (f := Got.sz) (nth_mem hlt)) hl
    try simp (disch := omega) only [go_sem, hE, hH, hb, cpy_at, cpy_len]
    repeat' (first | ((with_reducible first | refine gd_t ?_ ?_ | refine gd_f ?_ ?_) <;> (intro h; have hb := h; (try simp only [nf, beq_iff_eq, bne_iff_ne, beq_eq_false_iff_ne, bne_eq_false_iff_eq] at h); simp (disch := omega) only [go_sem, hE, hH, hb]; (try clear hb))) | ((with_reducible refine And.intro ?_ ?_); · omega) | ((first | refine ok_view ?_ | refine cvA (toGot_ok _ (by assumption)) ?_); simp (disch := omega) only [go_sem, hE, hH]) | (refine jn _ ?_ ?_) | (with_reducible refine both ?_ ?_) | (with_reducible refine And.intro ?_ ?_) | (refine fin_eq ?_; (try (simp (disch := omega) only [go_sem, hE, hH])); first | done | rfl) | (simp (disch := omega) only [go_sem, hE, hH]) | ((first | apply noMLL_sE | apply pk_sE) <;> (simp only [go_sem, hE, hH]; done)) | (simp only [go_sem, hE, hH]) | fail)
    try try simp (disch := omega) only [go_sem, hE, hH, cpy_at, cpy_len]
    repeat refine And.intro (by omega) ?_
    try try simp (disch := omega) only [go_sem, hE, hH, cpy_at, cpy_len]
    repeat refine And.intro (by omega) ?_
    first | refine ⟨(), ?_, trivial⟩ | refine ⟨(), ?_⟩ | skip
    have hc := cpy_step (f := Got.row true) (z := [str ⟨⟨[]⟩⟩, str ⟨⟨[]⟩⟩, bl false]) hlt
    simp only [Got.row_eq] at hc ⊢
    rw [hc]
    rfl
  · have hb := h
    simp only [nf, beq_iff_eq, bne_iff_ne, beq_eq_false_iff_ne, bne_eq_false_iff_eq] at h
    try simp (disch := omega) only [go_sem, hE, hH, hb, cpy_end]
theorem toLockS_ok (l : List Lock) (hl : szL (Lock.sz) l ≤ 2 ^ 20) : ACall Tryz.prog n_laws_toLockS [.sl false 3 (l.map (Lock.row false))] (fun r _ => r = .sl true 3 (l.map (Lock.row true))) := by
  have hl0 : l.length ≤ 2 ^ 20 := Nat.le_trans szL_len hl
  refine fn_in h_laws_toLockS r_laws_toLockS ⟨by simp only [go_sem], fun E hE hH => ?_⟩; simp only [go_sem] at hE hH; simp only [go_sem, hE, hH, c_laws_toLockS]
  refine And.intro (by omega) ?_
  rw [cpy_zero (Lock.row true)]
  refine loopN l.length (fun j (_ : Unit) => ⟨[(0, .sl false 3 (l.map (Lock.row false))), (3, .ref 4000000 0 l.length), (4, i64 j)], [(4000000, ⟨3, cpy (Lock.row true) [str ⟨⟨[]⟩⟩, i64 0, bl false] l j⟩)]⟩) (fun _ _ => True) () trivial ?_
  intro j _ hj _
  try simp only [go_sem, hE, hH, c_laws_toLockS_l1]
  first | refine gd_t (fun h => ?_) (fun h => ?_) | refine gd_f (fun h => ?_) (fun h => ?_)
  · have hb := h
    simp only [nf, beq_iff_eq, bne_iff_ne, beq_eq_false_iff_ne, bne_eq_false_iff_eq] at h
    have hlt := h; clear h
    have hs := Nat.le_trans (szL_mem (f := Lock.sz) (nth_mem hlt)) hl
    try simp (disch := omega) only [go_sem, hE, hH, hb, cpy_at, cpy_len]
    repeat' (first | ((with_reducible first | refine gd_t ?_ ?_ | refine gd_f ?_ ?_) <;> (intro h; have hb := h; (try simp only [nf, beq_iff_eq, bne_iff_ne, beq_eq_false_iff_ne, bne_eq_false_iff_eq] at h); simp (disch := omega) only [go_sem, hE, hH, hb]; (try clear hb))) | ((with_reducible refine And.intro ?_ ?_); · omega) | ((first | refine ok_view ?_ | refine cvA (toLock_ok _ (by assumption)) ?_); simp (disch := omega) only [go_sem, hE, hH]) | (refine jn _ ?_ ?_) | (with_reducible refine both ?_ ?_) | (with_reducible refine And.intro ?_ ?_) | (refine fin_eq ?_; (try (simp (disch := omega) only [go_sem, hE, hH])); first | done | rfl) | (simp (disch := omega) only [go_sem, hE, hH]) | ((first | apply noMLL_sE | apply pk_sE) <;> (simp only [go_sem, hE, hH]; done)) | (simp only [go_sem, hE, hH]) | fail)
    try try simp (disch := omega) only [go_sem, hE, hH, cpy_at, cpy_len]
    repeat refine And.intro (by omega) ?_
    try try simp (disch := omega) only [go_sem, hE, hH, cpy_at, cpy_len]
    repeat refine And.intro (by omega) ?_
    first | refine ⟨(), ?_, trivial⟩ | refine ⟨(), ?_⟩ | skip
    have hc := cpy_step (f := Lock.row true) (z := [str ⟨⟨[]⟩⟩, i64 0, bl false]) hlt
    simp only [Lock.row_eq] at hc ⊢
    rw [hc]
    rfl
  · have hb := h
    simp only [nf, beq_iff_eq, bne_iff_ne, beq_eq_false_iff_ne, bne_eq_false_iff_eq] at h
    try simp (disch := omega) only [go_sem, hE, hH, hb, cpy_end]
theorem toOpS_ok (l : List Op) (hl : szL (Op.sz) l ≤ 2 ^ 20) : ACall Tryz.prog n_laws_toOpS [.sl false 4 (l.map (Op.row false))] (fun r _ => r = .sl true 4 (l.map (Op.row true))) := by
  have hl0 : l.length ≤ 2 ^ 20 := Nat.le_trans szL_len hl
  refine fn_in h_laws_toOpS r_laws_toOpS ⟨by simp only [go_sem], fun E hE hH => ?_⟩; simp only [go_sem] at hE hH; simp only [go_sem, hE, hH, c_laws_toOpS]
  refine And.intro (by omega) ?_
  rw [cpy_zero (Op.row true)]
  refine loopN l.length (fun j (_ : Unit) => ⟨[(0, .sl false 4 (l.map (Op.row false))), (3, .ref 4000000 0 l.length), (4, i64 j)], [(4000000, ⟨4, cpy (Op.row true) [i64 0, str ⟨⟨[]⟩⟩, str ⟨⟨[]⟩⟩, i64 0] l j⟩)]⟩) (fun _ _ => True) () trivial ?_
  intro j _ hj _
  try simp only [go_sem, hE, hH, c_laws_toOpS_l1]
  first | refine gd_t (fun h => ?_) (fun h => ?_) | refine gd_f (fun h => ?_) (fun h => ?_)
  · have hb := h
    simp only [nf, beq_iff_eq, bne_iff_ne, beq_eq_false_iff_ne, bne_eq_false_iff_eq] at h
    have hlt := h; clear h
    have hs := Nat.le_trans (szL_mem (f := Op.sz) (nth_mem hlt)) hl
    try simp (disch := omega) only [go_sem, hE, hH, hb, cpy_at, cpy_len]
    repeat' (first | ((with_reducible first | refine gd_t ?_ ?_ | refine gd_f ?_ ?_) <;> (intro h; have hb := h; (try simp only [nf, beq_iff_eq, bne_iff_ne, beq_eq_false_iff_ne, bne_eq_false_iff_eq] at h); simp (disch := omega) only [go_sem, hE, hH, hb]; (try clear hb))) | ((with_reducible refine And.intro ?_ ?_); · omega) | ((first | refine ok_view ?_ | refine cvA (toOp_ok _ (by assumption)) ?_); simp (disch := omega) only [go_sem, hE, hH]) | (refine jn _ ?_ ?_) | (with_reducible refine both ?_ ?_) | (with_reducible refine And.intro ?_ ?_) | (refine fin_eq ?_; (try (simp (disch := omega) only [go_sem, hE, hH])); first | done | rfl) | (simp (disch := omega) only [go_sem, hE, hH]) | ((first | apply noMLL_sE | apply pk_sE) <;> (simp only [go_sem, hE, hH]; done)) | (simp only [go_sem, hE, hH]) | fail)
    try try simp (disch := omega) only [go_sem, hE, hH, cpy_at, cpy_len]
    repeat refine And.intro (by omega) ?_
    try try simp (disch := omega) only [go_sem, hE, hH, cpy_at, cpy_len]
    repeat refine And.intro (by omega) ?_
    first | refine ⟨(), ?_, trivial⟩ | refine ⟨(), ?_⟩ | skip
    have hc := cpy_step (f := Op.row true) (z := [i64 0, str ⟨⟨[]⟩⟩, str ⟨⟨[]⟩⟩, i64 0]) hlt
    simp only [Op.row_eq] at hc ⊢
    rw [hc]
    rfl
  · have hb := h
    simp only [nf, beq_iff_eq, bne_iff_ne, beq_eq_false_iff_ne, bne_eq_false_iff_eq] at h
    try simp (disch := omega) only [go_sem, hE, hH, hb, cpy_end]
theorem toWriteS_ok (l : List Write) (hl : szL (Write.sz) l ≤ 2 ^ 20) : ACall Tryz.prog n_laws_toWriteS [.sl false 3 (l.map (Write.row false))] (fun r _ => r = .sl true 3 (l.map (Write.row true))) := by
  have hl0 : l.length ≤ 2 ^ 20 := Nat.le_trans szL_len hl
  refine fn_in h_laws_toWriteS r_laws_toWriteS ⟨by simp only [go_sem], fun E hE hH => ?_⟩; simp only [go_sem] at hE hH; simp only [go_sem, hE, hH, c_laws_toWriteS]
  refine And.intro (by omega) ?_
  rw [cpy_zero (Write.row true)]
  refine loopN l.length (fun j (_ : Unit) => ⟨[(0, .sl false 3 (l.map (Write.row false))), (3, .ref 4000000 0 l.length), (4, i64 j)], [(4000000, ⟨3, cpy (Write.row true) [str ⟨⟨[]⟩⟩, str ⟨⟨[]⟩⟩, bl false] l j⟩)]⟩) (fun _ _ => True) () trivial ?_
  intro j _ hj _
  try simp only [go_sem, hE, hH, c_laws_toWriteS_l1]
  first | refine gd_t (fun h => ?_) (fun h => ?_) | refine gd_f (fun h => ?_) (fun h => ?_)
  · have hb := h
    simp only [nf, beq_iff_eq, bne_iff_ne, beq_eq_false_iff_ne, bne_eq_false_iff_eq] at h
    have hlt := h; clear h
    have hs := Nat.le_trans (szL_mem (f := Write.sz) (nth_mem hlt)) hl
    try simp (disch := omega) only [go_sem, hE, hH, hb, cpy_at, cpy_len]
    repeat' (first | ((with_reducible first | refine gd_t ?_ ?_ | refine gd_f ?_ ?_) <;> (intro h; have hb := h; (try simp only [nf, beq_iff_eq, bne_iff_ne, beq_eq_false_iff_ne, bne_eq_false_iff_eq] at h); simp (disch := omega) only [go_sem, hE, hH, hb]; (try clear hb))) | ((with_reducible refine And.intro ?_ ?_); · omega) | ((first | refine ok_view ?_ | refine cvA (toWrite_ok _ (by assumption)) ?_); simp (disch := omega) only [go_sem, hE, hH]) | (refine jn _ ?_ ?_) | (with_reducible refine both ?_ ?_) | (with_reducible refine And.intro ?_ ?_) | (refine fin_eq ?_; (try (simp (disch := omega) only [go_sem, hE, hH])); first | done | rfl) | (simp (disch := omega) only [go_sem, hE, hH]) | ((first | apply noMLL_sE | apply pk_sE) <;> (simp only [go_sem, hE, hH]; done)) | (simp only [go_sem, hE, hH]) | fail)
    try try simp (disch := omega) only [go_sem, hE, hH, cpy_at, cpy_len]
    repeat refine And.intro (by omega) ?_
    try try simp (disch := omega) only [go_sem, hE, hH, cpy_at, cpy_len]
    repeat refine And.intro (by omega) ?_
    first | refine ⟨(), ?_, trivial⟩ | refine ⟨(), ?_⟩ | skip
    have hc := cpy_step (f := Write.row true) (z := [str ⟨⟨[]⟩⟩, str ⟨⟨[]⟩⟩, bl false]) hlt
    simp only [Write.row_eq] at hc ⊢
    rw [hc]
    rfl
  · have hb := h
    simp only [nf, beq_iff_eq, bne_iff_ne, beq_eq_false_iff_ne, bne_eq_false_iff_eq] at h
    try simp (disch := omega) only [go_sem, hE, hH, hb, cpy_end]
theorem toLockSS_ok (l : List (List Lock)) (hl : szL (szL (Lock.sz)) l ≤ 2 ^ 20) : ACall Tryz.prog n_laws_toLockSS [.sl false 1 (l.map fun y => [.sl false 3 (y.map (Lock.row false))])] (fun r _ => r = .sl true 1 (l.map fun y => [.sl true 3 (y.map (Lock.row true))])) := by
  have hl0 : l.length ≤ 2 ^ 20 := Nat.le_trans szL_len hl
  refine fn_in h_laws_toLockSS r_laws_toLockSS ⟨by simp only [go_sem], fun E hE hH => ?_⟩; simp only [go_sem] at hE hH; simp only [go_sem, hE, hH, c_laws_toLockSS]
  refine And.intro (by omega) ?_
  rw [cpy_zero (fun y => [.sl true 3 (y.map (Lock.row true))])]
  refine loopN l.length (fun j (_ : Unit) => ⟨[(0, .sl false 1 (l.map fun y => [.sl false 3 (y.map (Lock.row false))])), (3, .ref 4000000 0 l.length), (4, i64 j)], [(4000000, ⟨1, cpy (fun y => [.sl true 3 (y.map (Lock.row true))]) [nils] l j⟩)]⟩) (fun _ _ => True) () trivial ?_
  intro j _ hj _
  try simp only [go_sem, hE, hH, c_laws_toLockSS_l1]
  first | refine gd_t (fun h => ?_) (fun h => ?_) | refine gd_f (fun h => ?_) (fun h => ?_)
  · have hb := h
    simp only [nf, beq_iff_eq, bne_iff_ne, beq_eq_false_iff_ne, bne_eq_false_iff_eq] at h
    have hlt := h; clear h
    have hs := Nat.le_trans (szL_mem (f := szL (Lock.sz)) (nth_mem hlt)) hl
    try simp (disch := omega) only [go_sem, hE, hH, hb, cpy_at, cpy_len]
    repeat' (first | ((with_reducible first | refine gd_t ?_ ?_ | refine gd_f ?_ ?_) <;> (intro h; have hb := h; (try simp only [nf, beq_iff_eq, bne_iff_ne, beq_eq_false_iff_ne, bne_eq_false_iff_eq] at h); simp (disch := omega) only [go_sem, hE, hH, hb]; (try clear hb))) | ((with_reducible refine And.intro ?_ ?_); · omega) | ((first | refine ok_view ?_ | refine cvA (toLockS_ok _ (by assumption)) ?_); simp (disch := omega) only [go_sem, hE, hH]) | (refine jn _ ?_ ?_) | (with_reducible refine both ?_ ?_) | (with_reducible refine And.intro ?_ ?_) | (refine fin_eq ?_; (try (simp (disch := omega) only [go_sem, hE, hH])); first | done | rfl) | (simp (disch := omega) only [go_sem, hE, hH]) | ((first | apply noMLL_sE | apply pk_sE) <;> (simp only [go_sem, hE, hH]; done)) | (simp only [go_sem, hE, hH]) | fail)
    try try simp (disch := omega) only [go_sem, hE, hH, cpy_at, cpy_len]
    repeat refine And.intro (by omega) ?_
    try try simp (disch := omega) only [go_sem, hE, hH, cpy_at, cpy_len]
    repeat refine And.intro (by omega) ?_
    first | refine ⟨(), ?_, trivial⟩ | refine ⟨(), ?_⟩ | skip
    have hc := cpy_step (f := fun y => [.sl true 3 (y.map (Lock.row true))]) (z := [nils]) hlt
    rw [hc]
    rfl
  · have hb := h
    simp only [nf, beq_iff_eq, bne_iff_ne, beq_eq_false_iff_ne, bne_eq_false_iff_eq] at h
    try simp (disch := omega) only [go_sem, hE, hH, hb, cpy_end]
theorem toRec_ok (x : Rec) (hs : x.sz ≤ 2 ^ 20) : ACall Tryz.prog n_laws_toRec [.agg (Rec.row false x)] (fun r _ => r = .agg (Rec.row true x)) := by
  unfold Rec.sz at hs
  refine fn_in h_laws_toRec r_laws_toRec ⟨by simp only [go_sem], fun E hE hH => ?_⟩; simp only [go_sem] at hE hH; simp only [go_sem, hE, hH, c_laws_toRec]
  repeat' (first | ((with_reducible first | refine gd_t ?_ ?_ | refine gd_f ?_ ?_) <;> (intro h; have hb := h; (try simp only [nf, beq_iff_eq, bne_iff_ne, beq_eq_false_iff_ne, bne_eq_false_iff_eq] at h); simp (disch := omega) only [go_sem, hE, hH, hb]; (try clear hb))) | ((with_reducible refine And.intro ?_ ?_); · omega) | ((first | refine ok_view ?_ | refine cvA (toStringS_ok _ (by omega)) ?_ | refine cvA (toWriteS_ok _ (by omega)) ?_); simp (disch := omega) only [go_sem, hE, hH]) | (refine jn _ ?_ ?_) | (with_reducible refine both ?_ ?_) | (with_reducible refine And.intro ?_ ?_) | (refine fin_eq ?_; (try (simp (disch := omega) only [go_sem, hE, hH])); first | done | rfl) | (simp (disch := omega) only [go_sem, hE, hH]) | ((first | apply noMLL_sE | apply pk_sE) <;> (simp only [go_sem, hE, hH]; done)) | (simp only [go_sem, hE, hH]) | fail)
theorem toWorldLook_ok (x : WorldLook) (hs : x.sz ≤ 2 ^ 20) : ACall Tryz.prog n_laws_toWorldLook [.agg (WorldLook.row false x)] (fun r _ => r = .agg (WorldLook.row true x)) := by
  unfold WorldLook.sz at hs
  refine fn_in h_laws_toWorldLook r_laws_toWorldLook ⟨by simp only [go_sem], fun E hE hH => ?_⟩; simp only [go_sem] at hE hH; simp only [go_sem, hE, hH, c_laws_toWorldLook]
  repeat' (first | ((with_reducible first | refine gd_t ?_ ?_ | refine gd_f ?_ ?_) <;> (intro h; have hb := h; (try simp only [nf, beq_iff_eq, bne_iff_ne, beq_eq_false_iff_ne, bne_eq_false_iff_eq] at h); simp (disch := omega) only [go_sem, hE, hH, hb]; (try clear hb))) | ((with_reducible refine And.intro ?_ ?_); · omega) | ((first | refine ok_view ?_ | refine cvA (toStringS_ok _ (by omega)) ?_ | refine cvA (toGotS_ok _ (by omega)) ?_); simp (disch := omega) only [go_sem, hE, hH]) | (refine jn _ ?_ ?_) | (with_reducible refine both ?_ ?_) | (with_reducible refine And.intro ?_ ?_) | (refine fin_eq ?_; (try (simp (disch := omega) only [go_sem, hE, hH])); first | done | rfl) | (simp (disch := omega) only [go_sem, hE, hH]) | ((first | apply noMLL_sE | apply pk_sE) <;> (simp only [go_sem, hE, hH]; done)) | (simp only [go_sem, hE, hH]) | fail)
theorem toWorldTxn_ok (x : WorldTxn) (hs : x.sz ≤ 2 ^ 20) : ACall Tryz.prog n_laws_toWorldTxn [.agg (WorldTxn.row false x)] (fun r _ => r = .agg (WorldTxn.row true x)) := by
  unfold WorldTxn.sz at hs
  refine fn_in h_laws_toWorldTxn r_laws_toWorldTxn ⟨by simp only [go_sem], fun E hE hH => ?_⟩; simp only [go_sem] at hE hH; simp only [go_sem, hE, hH, c_laws_toWorldTxn]
  repeat' (first | ((with_reducible first | refine gd_t ?_ ?_ | refine gd_f ?_ ?_) <;> (intro h; have hb := h; (try simp only [nf, beq_iff_eq, bne_iff_ne, beq_eq_false_iff_ne, bne_eq_false_iff_eq] at h); simp (disch := omega) only [go_sem, hE, hH, hb]; (try clear hb))) | ((with_reducible refine And.intro ?_ ?_); · omega) | ((first | refine ok_view ?_ | refine cvA (toOpS_ok _ (by omega)) ?_ | refine cvA (toGotS_ok _ (by omega)) ?_ | refine cvA (toIntS_ok _ (by omega)) ?_); simp (disch := omega) only [go_sem, hE, hH]) | (refine jn _ ?_ ?_) | (with_reducible refine both ?_ ?_) | (with_reducible refine And.intro ?_ ?_) | (refine fin_eq ?_; (try (simp (disch := omega) only [go_sem, hE, hH])); first | done | rfl) | (simp (disch := omega) only [go_sem, hE, hH]) | ((first | apply noMLL_sE | apply pk_sE) <;> (simp only [go_sem, hE, hH]; done)) | (simp only [go_sem, hE, hH]) | fail)
theorem toEntry_ok (x : Entry) (hs : x.sz ≤ 2 ^ 20) : ACall Tryz.prog n_laws_toEntry [.agg (Entry.row false x)] (fun r _ => r = .agg (Entry.row true x)) := by
  unfold Entry.sz at hs
  refine fn_in h_laws_toEntry r_laws_toEntry ⟨by simp only [go_sem], fun E hE hH => ?_⟩; simp only [go_sem] at hE hH; simp only [go_sem, hE, hH, c_laws_toEntry]
  repeat' (first | ((with_reducible first | refine gd_t ?_ ?_ | refine gd_f ?_ ?_) <;> (intro h; have hb := h; (try simp only [nf, beq_iff_eq, bne_iff_ne, beq_eq_false_iff_ne, bne_eq_false_iff_eq] at h); simp (disch := omega) only [go_sem, hE, hH, hb]; (try clear hb))) | ((with_reducible refine And.intro ?_ ?_); · omega) | ((first | refine ok_view ?_ | refine cvA (toRec_ok _ (by omega)) ?_); simp (disch := omega) only [go_sem, hE, hH]) | (refine jn _ ?_ ?_) | (with_reducible refine both ?_ ?_) | (with_reducible refine And.intro ?_ ?_) | (refine fin_eq ?_; (try (simp (disch := omega) only [go_sem, hE, hH])); first | done | rfl) | (simp (disch := omega) only [go_sem, hE, hH]) | ((first | apply noMLL_sE | apply pk_sE) <;> (simp only [go_sem, hE, hH]; done)) | (simp only [go_sem, hE, hH]) | fail)
theorem toWorldLookS_ok (l : List WorldLook) (hl : szL (WorldLook.sz) l ≤ 2 ^ 20) : ACall Tryz.prog n_laws_toWorldLookS [.sl false 6 (l.map (WorldLook.row false))] (fun r _ => r = .sl true 6 (l.map (WorldLook.row true))) := by
  have hl0 : l.length ≤ 2 ^ 20 := Nat.le_trans szL_len hl
  refine fn_in h_laws_toWorldLookS r_laws_toWorldLookS ⟨by simp only [go_sem], fun E hE hH => ?_⟩; simp only [go_sem] at hE hH; simp only [go_sem, hE, hH, c_laws_toWorldLookS]
  refine And.intro (by omega) ?_
  rw [cpy_zero (WorldLook.row true)]
  refine loopN l.length (fun j (_ : Unit) => ⟨[(0, .sl false 6 (l.map (WorldLook.row false))), (3, .ref 4000000 0 l.length), (4, i64 j)], [(4000000, ⟨6, cpy (WorldLook.row true) [i64 0, nils, nils, i64 0, i64 0, i64 0] l j⟩)]⟩) (fun _ _ => True) () trivial ?_
  intro j _ hj _
  try simp only [go_sem, hE, hH, c_laws_toWorldLookS_l1]
  first | refine gd_t (fun h => ?_) (fun h => ?_) | refine gd_f (fun h => ?_) (fun h => ?_)
  · have hb := h
    simp only [nf, beq_iff_eq, bne_iff_ne, beq_eq_false_iff_ne, bne_eq_false_iff_eq] at h
    have hlt := h; clear h
    have hs := Nat.le_trans (szL_mem (f := WorldLook.sz) (nth_mem hlt)) hl
    try simp (disch := omega) only [go_sem, hE, hH, hb, cpy_at, cpy_len]
    repeat' (first | ((with_reducible first | refine gd_t ?_ ?_ | refine gd_f ?_ ?_) <;> (intro h; have hb := h; (try simp only [nf, beq_iff_eq, bne_iff_ne, beq_eq_false_iff_ne, bne_eq_false_iff_eq] at h); simp (disch := omega) only [go_sem, hE, hH, hb]; (try clear hb))) | ((with_reducible refine And.intro ?_ ?_); · omega) | ((first | refine ok_view ?_ | refine cvA (toWorldLook_ok _ (by assumption)) ?_); simp (disch := omega) only [go_sem, hE, hH]) | (refine jn _ ?_ ?_) | (with_reducible refine both ?_ ?_) | (with_reducible refine And.intro ?_ ?_) | (refine fin_eq ?_; (try (simp (disch := omega) only [go_sem, hE, hH])); first | done | rfl) | (simp (disch := omega) only [go_sem, hE, hH]) | ((first | apply noMLL_sE | apply pk_sE) <;> (simp only [go_sem, hE, hH]; done)) | (simp only [go_sem, hE, hH]) | fail)
    try try simp (disch := omega) only [go_sem, hE, hH, cpy_at, cpy_len]
    repeat refine And.intro (by omega) ?_
    try try simp (disch := omega) only [go_sem, hE, hH, cpy_at, cpy_len]
    repeat refine And.intro (by omega) ?_
    first | refine ⟨(), ?_, trivial⟩ | refine ⟨(), ?_⟩ | skip
    have hc := cpy_step (f := WorldLook.row true) (z := [i64 0, nils, nils, i64 0, i64 0, i64 0]) hlt
    simp only [WorldLook.row_eq] at hc ⊢
    rw [hc]
    rfl
  · have hb := h
    simp only [nf, beq_iff_eq, bne_iff_ne, beq_eq_false_iff_ne, bne_eq_false_iff_eq] at h
    try simp (disch := omega) only [go_sem, hE, hH, hb, cpy_end]
theorem toWorldTxnS_ok (l : List WorldTxn) (hl : szL (WorldTxn.sz) l ≤ 2 ^ 20) : ACall Tryz.prog n_laws_toWorldTxnS [.sl false 10 (l.map (WorldTxn.row false))] (fun r _ => r = .sl true 10 (l.map (WorldTxn.row true))) := by
  have hl0 : l.length ≤ 2 ^ 20 := Nat.le_trans szL_len hl
  refine fn_in h_laws_toWorldTxnS r_laws_toWorldTxnS ⟨by simp only [go_sem], fun E hE hH => ?_⟩; simp only [go_sem] at hE hH; simp only [go_sem, hE, hH, c_laws_toWorldTxnS]
  refine And.intro (by omega) ?_
  rw [cpy_zero (WorldTxn.row true)]
  refine loopN l.length (fun j (_ : Unit) => ⟨[(0, .sl false 10 (l.map (WorldTxn.row false))), (3, .ref 4000000 0 l.length), (4, i64 j)], [(4000000, ⟨10, cpy (WorldTxn.row true) [nils, nils, nils, i64 0, i64 0, bl false, i64 0, bl false, bl false, bl false] l j⟩)]⟩) (fun _ _ => True) () trivial ?_
  intro j _ hj _
  try simp only [go_sem, hE, hH, c_laws_toWorldTxnS_l1]
  first | refine gd_t (fun h => ?_) (fun h => ?_) | refine gd_f (fun h => ?_) (fun h => ?_)
  · have hb := h
    simp only [nf, beq_iff_eq, bne_iff_ne, beq_eq_false_iff_ne, bne_eq_false_iff_eq] at h
    have hlt := h; clear h
    have hs := Nat.le_trans (szL_mem (f := WorldTxn.sz) (nth_mem hlt)) hl
    try simp (disch := omega) only [go_sem, hE, hH, hb, cpy_at, cpy_len]
    repeat' (first | ((with_reducible first | refine gd_t ?_ ?_ | refine gd_f ?_ ?_) <;> (intro h; have hb := h; (try simp only [nf, beq_iff_eq, bne_iff_ne, beq_eq_false_iff_ne, bne_eq_false_iff_eq] at h); simp (disch := omega) only [go_sem, hE, hH, hb]; (try clear hb))) | ((with_reducible refine And.intro ?_ ?_); · omega) | ((first | refine ok_view ?_ | refine cvA (toWorldTxn_ok _ (by assumption)) ?_); simp (disch := omega) only [go_sem, hE, hH]) | (refine jn _ ?_ ?_) | (with_reducible refine both ?_ ?_) | (with_reducible refine And.intro ?_ ?_) | (refine fin_eq ?_; (try (simp (disch := omega) only [go_sem, hE, hH])); first | done | rfl) | (simp (disch := omega) only [go_sem, hE, hH]) | ((first | apply noMLL_sE | apply pk_sE) <;> (simp only [go_sem, hE, hH]; done)) | (simp only [go_sem, hE, hH]) | fail)
    try try simp (disch := omega) only [go_sem, hE, hH, cpy_at, cpy_len]
    repeat refine And.intro (by omega) ?_
    try try simp (disch := omega) only [go_sem, hE, hH, cpy_at, cpy_len]
    repeat refine And.intro (by omega) ?_
    first | refine ⟨(), ?_, trivial⟩ | refine ⟨(), ?_⟩ | skip
    have hc := cpy_step (f := WorldTxn.row true) (z := [nils, nils, nils, i64 0, i64 0, bl false, i64 0, bl false, bl false, bl false]) hlt
    simp only [WorldTxn.row_eq] at hc ⊢
    rw [hc]
    rfl
  · have hb := h
    simp only [nf, beq_iff_eq, bne_iff_ne, beq_eq_false_iff_ne, bne_eq_false_iff_eq] at h
    try simp (disch := omega) only [go_sem, hE, hH, hb, cpy_end]
theorem toEntryS_ok (l : List Entry) (hl : szL (Entry.sz) l ≤ 2 ^ 20) : ACall Tryz.prog n_laws_toEntryS [.sl false 8 (l.map (Entry.row false))] (fun r _ => r = .sl true 8 (l.map (Entry.row true))) := by
  have hl0 : l.length ≤ 2 ^ 20 := Nat.le_trans szL_len hl
  refine fn_in h_laws_toEntryS r_laws_toEntryS ⟨by simp only [go_sem], fun E hE hH => ?_⟩; simp only [go_sem] at hE hH; simp only [go_sem, hE, hH, c_laws_toEntryS]
  refine And.intro (by omega) ?_
  rw [cpy_zero (Entry.row true)]
  refine loopN l.length (fun j (_ : Unit) => ⟨[(0, .sl false 8 (l.map (Entry.row false))), (3, .ref 4000000 0 l.length), (4, i64 j)], [(4000000, ⟨8, cpy (Entry.row true) [i64 0, i64 0, i64 0, i64 0, i64 0, nils, nils, bl false] l j⟩)]⟩) (fun _ _ => True) () trivial ?_
  intro j _ hj _
  try simp only [go_sem, hE, hH, c_laws_toEntryS_l1]
  first | refine gd_t (fun h => ?_) (fun h => ?_) | refine gd_f (fun h => ?_) (fun h => ?_)
  · have hb := h
    simp only [nf, beq_iff_eq, bne_iff_ne, beq_eq_false_iff_ne, bne_eq_false_iff_eq] at h
    have hlt := h; clear h
    have hs := Nat.le_trans (szL_mem (f := Entry.sz) (nth_mem hlt)) hl
    try simp (disch := omega) only [go_sem, hE, hH, hb, cpy_at, cpy_len]
    repeat' (first | ((with_reducible first | refine gd_t ?_ ?_ | refine gd_f ?_ ?_) <;> (intro h; have hb := h; (try simp only [nf, beq_iff_eq, bne_iff_ne, beq_eq_false_iff_ne, bne_eq_false_iff_eq] at h); simp (disch := omega) only [go_sem, hE, hH, hb]; (try clear hb))) | ((with_reducible refine And.intro ?_ ?_); · omega) | ((first | refine ok_view ?_ | refine cvA (toEntry_ok _ (by assumption)) ?_); simp (disch := omega) only [go_sem, hE, hH]) | (refine jn _ ?_ ?_) | (with_reducible refine both ?_ ?_) | (with_reducible refine And.intro ?_ ?_) | (refine fin_eq ?_; (try (simp (disch := omega) only [go_sem, hE, hH])); first | done | rfl) | (simp (disch := omega) only [go_sem, hE, hH]) | ((first | apply noMLL_sE | apply pk_sE) <;> (simp only [go_sem, hE, hH]; done)) | (simp only [go_sem, hE, hH]) | fail)
    try try simp (disch := omega) only [go_sem, hE, hH, cpy_at, cpy_len]
    repeat refine And.intro (by omega) ?_
    try try simp (disch := omega) only [go_sem, hE, hH, cpy_at, cpy_len]
    repeat refine And.intro (by omega) ?_
    first | refine ⟨(), ?_, trivial⟩ | refine ⟨(), ?_⟩ | skip
    have hc := cpy_step (f := Entry.row true) (z := [i64 0, i64 0, i64 0, i64 0, i64 0, nils, nils, bl false]) hlt
    simp only [Entry.row_eq] at hc ⊢
    rw [hc]
    rfl
  · have hb := h
    simp only [nf, beq_iff_eq, bne_iff_ne, beq_eq_false_iff_ne, bne_eq_false_iff_eq] at h
    try simp (disch := omega) only [go_sem, hE, hH, hb, cpy_end]
theorem toReplica_ok (x : Replica) (hs : x.sz ≤ 2 ^ 20) : ACall Tryz.prog n_laws_toReplica [.agg (Replica.row false x)] (fun r _ => r = .agg (Replica.row true x)) := by
  unfold Replica.sz at hs
  refine fn_in h_laws_toReplica r_laws_toReplica ⟨by simp only [go_sem], fun E hE hH => ?_⟩; simp only [go_sem] at hE hH; simp only [go_sem, hE, hH, c_laws_toReplica]
  repeat' (first | ((with_reducible first | refine gd_t ?_ ?_ | refine gd_f ?_ ?_) <;> (intro h; have hb := h; (try simp only [nf, beq_iff_eq, bne_iff_ne, beq_eq_false_iff_ne, bne_eq_false_iff_eq] at h); simp (disch := omega) only [go_sem, hE, hH, hb]; (try clear hb))) | ((with_reducible refine And.intro ?_ ?_); · omega) | ((first | refine ok_view ?_ | refine cvA (toEntryS_ok _ (by omega)) ?_); simp (disch := omega) only [go_sem, hE, hH]) | (refine jn _ ?_ ?_) | (with_reducible refine both ?_ ?_) | (with_reducible refine And.intro ?_ ?_) | (refine fin_eq ?_; (try (simp (disch := omega) only [go_sem, hE, hH])); first | done | rfl) | (simp (disch := omega) only [go_sem, hE, hH]) | ((first | apply noMLL_sE | apply pk_sE) <;> (simp only [go_sem, hE, hH]; done)) | (simp only [go_sem, hE, hH]) | fail)
theorem toReplicaS_ok (l : List Replica) (hl : szL (Replica.sz) l ≤ 2 ^ 20) : ACall Tryz.prog n_laws_toReplicaS [.sl false 3 (l.map (Replica.row false))] (fun r _ => r = .sl true 3 (l.map (Replica.row true))) := by
  have hl0 : l.length ≤ 2 ^ 20 := Nat.le_trans szL_len hl
  refine fn_in h_laws_toReplicaS r_laws_toReplicaS ⟨by simp only [go_sem], fun E hE hH => ?_⟩; simp only [go_sem] at hE hH; simp only [go_sem, hE, hH, c_laws_toReplicaS]
  refine And.intro (by omega) ?_
  rw [cpy_zero (Replica.row true)]
  refine loopN l.length (fun j (_ : Unit) => ⟨[(0, .sl false 3 (l.map (Replica.row false))), (3, .ref 4000000 0 l.length), (4, i64 j)], [(4000000, ⟨3, cpy (Replica.row true) [bl false, nils, i64 0] l j⟩)]⟩) (fun _ _ => True) () trivial ?_
  intro j _ hj _
  try simp only [go_sem, hE, hH, c_laws_toReplicaS_l1]
  first | refine gd_t (fun h => ?_) (fun h => ?_) | refine gd_f (fun h => ?_) (fun h => ?_)
  · have hb := h
    simp only [nf, beq_iff_eq, bne_iff_ne, beq_eq_false_iff_ne, bne_eq_false_iff_eq] at h
    have hlt := h; clear h
    have hs := Nat.le_trans (szL_mem (f := Replica.sz) (nth_mem hlt)) hl
    try simp (disch := omega) only [go_sem, hE, hH, hb, cpy_at, cpy_len]
    repeat' (first | ((with_reducible first | refine gd_t ?_ ?_ | refine gd_f ?_ ?_) <;> (intro h; have hb := h; (try simp only [nf, beq_iff_eq, bne_iff_ne, beq_eq_false_iff_ne, bne_eq_false_iff_eq] at h); simp (disch := omega) only [go_sem, hE, hH, hb]; (try clear hb))) | ((with_reducible refine And.intro ?_ ?_); · omega) | ((first | refine ok_view ?_ | refine cvA (toReplica_ok _ (by assumption)) ?_); simp (disch := omega) only [go_sem, hE, hH]) | (refine jn _ ?_ ?_) | (with_reducible refine both ?_ ?_) | (with_reducible refine And.intro ?_ ?_) | (refine fin_eq ?_; (try (simp (disch := omega) only [go_sem, hE, hH])); first | done | rfl) | (simp (disch := omega) only [go_sem, hE, hH]) | ((first | apply noMLL_sE | apply pk_sE) <;> (simp only [go_sem, hE, hH]; done)) | (simp only [go_sem, hE, hH]) | fail)
    try try simp (disch := omega) only [go_sem, hE, hH, cpy_at, cpy_len]
    repeat refine And.intro (by omega) ?_
    try try simp (disch := omega) only [go_sem, hE, hH, cpy_at, cpy_len]
    repeat refine And.intro (by omega) ?_
    first | refine ⟨(), ?_, trivial⟩ | refine ⟨(), ?_⟩ | skip
    have hc := cpy_step (f := Replica.row true) (z := [bl false, nils, i64 0]) hlt
    simp only [Replica.row_eq] at hc ⊢
    rw [hc]
    rfl
  · have hb := h
    simp only [nf, beq_iff_eq, bne_iff_ne, beq_eq_false_iff_ne, bne_eq_false_iff_eq] at h
    try simp (disch := omega) only [go_sem, hE, hH, hb, cpy_end]
theorem toGroup_ok (x : Group) (hs : x.sz ≤ 2 ^ 20) : ACall Tryz.prog n_laws_toGroup [.agg (Group.row false x)] (fun r _ => r = .agg (Group.row true x)) := by
  unfold Group.sz at hs
  refine fn_in h_laws_toGroup r_laws_toGroup ⟨by simp only [go_sem], fun E hE hH => ?_⟩; simp only [go_sem] at hE hH; simp only [go_sem, hE, hH, c_laws_toGroup]
  repeat' (first | ((with_reducible first | refine gd_t ?_ ?_ | refine gd_f ?_ ?_) <;> (intro h; have hb := h; (try simp only [nf, beq_iff_eq, bne_iff_ne, beq_eq_false_iff_ne, bne_eq_false_iff_eq] at h); simp (disch := omega) only [go_sem, hE, hH, hb]; (try clear hb))) | ((with_reducible refine And.intro ?_ ?_); · omega) | ((first | refine ok_view ?_ | refine cvA (toReplicaS_ok _ (by omega)) ?_); simp (disch := omega) only [go_sem, hE, hH]) | (refine jn _ ?_ ?_) | (with_reducible refine both ?_ ?_) | (with_reducible refine And.intro ?_ ?_) | (refine fin_eq ?_; (try (simp (disch := omega) only [go_sem, hE, hH])); first | done | rfl) | (simp (disch := omega) only [go_sem, hE, hH]) | ((first | apply noMLL_sE | apply pk_sE) <;> (simp only [go_sem, hE, hH]; done)) | (simp only [go_sem, hE, hH]) | fail)
theorem toGroupS_ok (l : List Group) (hl : szL (Group.sz) l ≤ 2 ^ 20) : ACall Tryz.prog n_laws_toGroupS [.sl false 3 (l.map (Group.row false))] (fun r _ => r = .sl true 3 (l.map (Group.row true))) := by
  have hl0 : l.length ≤ 2 ^ 20 := Nat.le_trans szL_len hl
  refine fn_in h_laws_toGroupS r_laws_toGroupS ⟨by simp only [go_sem], fun E hE hH => ?_⟩; simp only [go_sem] at hE hH; simp only [go_sem, hE, hH, c_laws_toGroupS]
  refine And.intro (by omega) ?_
  rw [cpy_zero (Group.row true)]
  refine loopN l.length (fun j (_ : Unit) => ⟨[(0, .sl false 3 (l.map (Group.row false))), (3, .ref 4000000 0 l.length), (4, i64 j)], [(4000000, ⟨3, cpy (Group.row true) [nils, i64 0, i64 0] l j⟩)]⟩) (fun _ _ => True) () trivial ?_
  intro j _ hj _
  try simp only [go_sem, hE, hH, c_laws_toGroupS_l1]
  first | refine gd_t (fun h => ?_) (fun h => ?_) | refine gd_f (fun h => ?_) (fun h => ?_)
  · have hb := h
    simp only [nf, beq_iff_eq, bne_iff_ne, beq_eq_false_iff_ne, bne_eq_false_iff_eq] at h
    have hlt := h; clear h
    have hs := Nat.le_trans (szL_mem (f := Group.sz) (nth_mem hlt)) hl
    try simp (disch := omega) only [go_sem, hE, hH, hb, cpy_at, cpy_len]
    repeat' (first | ((with_reducible first | refine gd_t ?_ ?_ | refine gd_f ?_ ?_) <;> (intro h; have hb := h; (try simp only [nf, beq_iff_eq, bne_iff_ne, beq_eq_false_iff_ne, bne_eq_false_iff_eq] at h); simp (disch := omega) only [go_sem, hE, hH, hb]; (try clear hb))) | ((with_reducible refine And.intro ?_ ?_); · omega) | ((first | refine ok_view ?_ | refine cvA (toGroup_ok _ (by assumption)) ?_); simp (disch := omega) only [go_sem, hE, hH]) | (refine jn _ ?_ ?_) | (with_reducible refine both ?_ ?_) | (with_reducible refine And.intro ?_ ?_) | (refine fin_eq ?_; (try (simp (disch := omega) only [go_sem, hE, hH])); first | done | rfl) | (simp (disch := omega) only [go_sem, hE, hH]) | ((first | apply noMLL_sE | apply pk_sE) <;> (simp only [go_sem, hE, hH]; done)) | (simp only [go_sem, hE, hH]) | fail)
    try try simp (disch := omega) only [go_sem, hE, hH, cpy_at, cpy_len]
    repeat refine And.intro (by omega) ?_
    try try simp (disch := omega) only [go_sem, hE, hH, cpy_at, cpy_len]
    repeat refine And.intro (by omega) ?_
    first | refine ⟨(), ?_, trivial⟩ | refine ⟨(), ?_⟩ | skip
    have hc := cpy_step (f := Group.row true) (z := [nils, i64 0, i64 0]) hlt
    simp only [Group.row_eq] at hc ⊢
    rw [hc]
    rfl
  · have hb := h
    simp only [nf, beq_iff_eq, bne_iff_ne, beq_eq_false_iff_ne, bne_eq_false_iff_eq] at h
    try simp (disch := omega) only [go_sem, hE, hH, hb, cpy_end]
theorem toWorld_ok (x : World) (hs : x.sz ≤ 2 ^ 20) : ACall Tryz.prog n_laws_toWorld [.agg (World.row false x)] (fun r _ => r = .agg (World.row true x)) := by
  unfold World.sz at hs
  refine fn_in h_laws_toWorld r_laws_toWorld ⟨by simp only [go_sem], fun E hE hH => ?_⟩; simp only [go_sem] at hE hH; simp only [go_sem, hE, hH, c_laws_toWorld]
  repeat' (first | ((with_reducible first | refine gd_t ?_ ?_ | refine gd_f ?_ ?_) <;> (intro h; have hb := h; (try simp only [nf, beq_iff_eq, bne_iff_ne, beq_eq_false_iff_ne, bne_eq_false_iff_eq] at h); simp (disch := omega) only [go_sem, hE, hH, hb]; (try clear hb))) | ((with_reducible refine And.intro ?_ ?_); · omega) | ((first | refine ok_view ?_ | refine cvA (toClockS_ok _ (by omega)) ?_ | refine cvA (toStringS_ok _ (by omega)) ?_ | refine cvA (toGroupS_ok _ (by omega)) ?_ | refine cvA (toLockSS_ok _ (by omega)) ?_ | refine cvA (toIntS_ok _ (by omega)) ?_ | refine cvA (toWorldTxnS_ok _ (by omega)) ?_ | refine cvA (toWorldLookS_ok _ (by omega)) ?_); simp (disch := omega) only [go_sem, hE, hH]) | (refine jn _ ?_ ?_) | (with_reducible refine both ?_ ?_) | (with_reducible refine And.intro ?_ ?_) | (refine fin_eq ?_; (try (simp (disch := omega) only [go_sem, hE, hH])); first | done | rfl) | (simp (disch := omega) only [go_sem, hE, hH]) | ((first | apply noMLL_sE | apply pk_sE) <;> (simp only [go_sem, hE, hH]; done)) | (simp only [go_sem, hE, hH]) | fail)
theorem eqClock_ok (x y : Clock) (hl : x.lim) : ACall Tryz.prog n_laws_eqClock [.agg (Clock.row false x), .agg (Clock.row false y)] (fun r _ => r = bl (decide (x = y))) := by
  obtain ⟨x_Off⟩ := x
  obtain ⟨y_Off⟩ := y
  refine fn_in h_laws_eqClock r_laws_eqClock ⟨by simp only [go_sem], fun E hE hH => ?_⟩; simp only [go_sem] at hE hH; simp only [go_sem, hE, hH, c_laws_eqClock]
  repeat' (first | ((with_reducible first | refine gd_t ?_ ?_ | refine gd_f ?_ ?_) <;> (intro h; have hb := h; (try simp only [nf, beq_iff_eq, bne_iff_ne, beq_eq_false_iff_ne, bne_eq_false_iff_eq] at h); simp (disch := omega) only [go_sem, hE, hH, hb]; (try clear hb))) | ((with_reducible refine And.intro ?_ ?_); · omega) | (refine jn _ ?_ ?_) | (with_reducible refine both ?_ ?_) | (with_reducible refine And.intro ?_ ?_) | (refine fin_eq ?_; (try (simp (disch := omega) only [go_sem, hE, hH])); first | done | rfl) | (simp (disch := omega) only [go_sem, hE, hH]) | ((first | apply noMLL_sE | apply pk_sE) <;> (simp only [go_sem, hE, hH]; done)) | (simp only [go_sem, hE, hH]) | fail)
  all_goals simp_all [Clock.mk.injEq]
theorem eqGot_ok (x y : Got) (hl : x.lim) : ACall Tryz.prog n_laws_eqGot [.agg (Got.row false x), .agg (Got.row false y)] (fun r _ => r = bl (decide (x = y))) := by
  obtain ⟨x_Key, x_Val, x_There⟩ := x
  obtain ⟨y_Key, y_Val, y_There⟩ := y
  refine fn_in h_laws_eqGot r_laws_eqGot ⟨by simp only [go_sem], fun E hE hH => ?_⟩; simp only [go_sem] at hE hH; simp only [go_sem, hE, hH, c_laws_eqGot]
  repeat' (first | ((with_reducible first | refine gd_t ?_ ?_ | refine gd_f ?_ ?_) <;> (intro h; have hb := h; (try simp only [nf, beq_iff_eq, bne_iff_ne, beq_eq_false_iff_ne, bne_eq_false_iff_eq] at h); simp (disch := omega) only [go_sem, hE, hH, hb]; (try clear hb))) | ((with_reducible refine And.intro ?_ ?_); · omega) | (refine jn _ ?_ ?_) | (with_reducible refine both ?_ ?_) | (with_reducible refine And.intro ?_ ?_) | (refine fin_eq ?_; (try (simp (disch := omega) only [go_sem, hE, hH])); first | done | rfl) | (simp (disch := omega) only [go_sem, hE, hH]) | ((first | apply noMLL_sE | apply pk_sE) <;> (simp only [go_sem, hE, hH]; done)) | (simp only [go_sem, hE, hH]) | fail)
  all_goals simp_all [Got.mk.injEq]
theorem eqIntS_ok (l m : List Int) (hl : limL (fun _ => True) l) : ACall Tryz.prog n_laws_eqIntS [.sl false 1 (ints l), .sl false 1 (ints m)] (fun r _ => r = bl (decide (l = m))) := by
  obtain ⟨hl, hx⟩ := hl
  have hm := mx_eq
  refine fn_in h_laws_eqIntS r_laws_eqIntS ⟨by simp only [go_sem], fun E hE hH => ?_⟩; simp only [go_sem] at hE hH; simp only [go_sem, hE, hH, c_laws_eqIntS]
  repeat' (first | ((with_reducible first | refine gd_t ?_ ?_ | refine gd_f ?_ ?_) <;> (intro h; have hb := h; (try simp only [nf, beq_iff_eq, bne_iff_ne, beq_eq_false_iff_ne, bne_eq_false_iff_eq] at h); simp (disch := omega) only [go_sem, hE, hH, hb]; (try clear hb))) | ((with_reducible refine And.intro ?_ ?_); · omega) | (refine jn _ ?_ ?_) | (with_reducible refine both ?_ ?_) | (with_reducible refine And.intro ?_ ?_) | (refine fin_eq ?_; (try (simp (disch := omega) only [go_sem, hE, hH])); first | done | rfl) | (simp (disch := omega) only [go_sem, hE, hH]) | ((first | apply noMLL_sE | apply pk_sE) <;> (simp only [go_sem, hE, hH]; done)) | (simp only [go_sem, hE, hH]) | fail)
  · rw [decide_eq_false (fun e => h (by rw [e]))]
  have hlen : l.length = m.length := by omega
  clear h
  refine loopN l.length (fun j (_ : Unit) => ⟨[(0, .sl false 1 (ints l)), (1, .sl false 1 (ints m)), (5, i64 j)], []⟩) (fun j _ => decide (l = m) = decide (l.drop j = m.drop j)) () (by simp) ?_
  intro j _ hj hI
  try simp only [go_sem, hE, hH, c_laws_eqIntS_l1]
  first | refine gd_t (fun h => ?_) (fun h => ?_) | refine gd_f (fun h => ?_) (fun h => ?_)
  · have hb := h
    simp only [nf, beq_iff_eq, bne_iff_ne, beq_eq_false_iff_ne, bne_eq_false_iff_eq] at h
    have hlt := h; clear h
    have hlm : j < m.length := by omega
    rw [drop_eq hlt hlm] at hI
    try simp (disch := omega) only [go_sem, hE, hH, hb]
    repeat' (first | ((with_reducible first | refine gd_t ?_ ?_ | refine gd_f ?_ ?_) <;> (intro h; have hb := h; (try simp only [nf, beq_iff_eq, bne_iff_ne, beq_eq_false_iff_ne, bne_eq_false_iff_eq] at h); simp (disch := omega) only [go_sem, hE, hH, hb]; (try clear hb))) | ((with_reducible refine And.intro ?_ ?_); · omega) | (refine jn _ ?_ ?_) | (with_reducible refine both ?_ ?_) | (with_reducible refine And.intro ?_ ?_) | (refine fin_eq ?_; (try (simp (disch := omega) only [go_sem, hE, hH])); first | done | rfl) | (simp (disch := omega) only [go_sem, hE, hH]) | ((first | apply noMLL_sE | apply pk_sE) <;> (simp only [go_sem, hE, hH]; done)) | (simp only [go_sem, hE, hH]) | fail)
    · rw [hI]; simp [h]
    · exact ⟨(), rfl, by rw [hI]; simp [h]⟩
  · have hb := h
    simp only [nf, beq_iff_eq, bne_iff_ne, beq_eq_false_iff_ne, bne_eq_false_iff_eq] at h
    try simp (disch := omega) only [go_sem, hE, hH, hb]
    rw [hI, List.drop_of_length_le (by omega), List.drop_of_length_le (by omega)]
    rfl
theorem eqLock_ok (x y : Lock) (hl : x.lim) : ACall Tryz.prog n_laws_eqLock [.agg (Lock.row false x), .agg (Lock.row false y)] (fun r _ => r = bl (decide (x = y))) := by
  obtain ⟨x_Key, x_Txn, x_Write⟩ := x
  obtain ⟨y_Key, y_Txn, y_Write⟩ := y
  refine fn_in h_laws_eqLock r_laws_eqLock ⟨by simp only [go_sem], fun E hE hH => ?_⟩; simp only [go_sem] at hE hH; simp only [go_sem, hE, hH, c_laws_eqLock]
  repeat' (first | ((with_reducible first | refine gd_t ?_ ?_ | refine gd_f ?_ ?_) <;> (intro h; have hb := h; (try simp only [nf, beq_iff_eq, bne_iff_ne, beq_eq_false_iff_ne, bne_eq_false_iff_eq] at h); simp (disch := omega) only [go_sem, hE, hH, hb]; (try clear hb))) | ((with_reducible refine And.intro ?_ ?_); · omega) | (refine jn _ ?_ ?_) | (with_reducible refine both ?_ ?_) | (with_reducible refine And.intro ?_ ?_) | (refine fin_eq ?_; (try (simp (disch := omega) only [go_sem, hE, hH])); first | done | rfl) | (simp (disch := omega) only [go_sem, hE, hH]) | ((first | apply noMLL_sE | apply pk_sE) <;> (simp only [go_sem, hE, hH]; done)) | (simp only [go_sem, hE, hH]) | fail)
  all_goals simp_all [Lock.mk.injEq]
theorem eqOp_ok (x y : Op) (hl : x.lim) : ACall Tryz.prog n_laws_eqOp [.agg (Op.row false x), .agg (Op.row false y)] (fun r _ => r = bl (decide (x = y))) := by
  obtain ⟨x_Kind, x_Key, x_Val, x_By⟩ := x
  obtain ⟨y_Kind, y_Key, y_Val, y_By⟩ := y
  refine fn_in h_laws_eqOp r_laws_eqOp ⟨by simp only [go_sem], fun E hE hH => ?_⟩; simp only [go_sem] at hE hH; simp only [go_sem, hE, hH, c_laws_eqOp]
  repeat' (first | ((with_reducible first | refine gd_t ?_ ?_ | refine gd_f ?_ ?_) <;> (intro h; have hb := h; (try simp only [nf, beq_iff_eq, bne_iff_ne, beq_eq_false_iff_ne, bne_eq_false_iff_eq] at h); simp (disch := omega) only [go_sem, hE, hH, hb]; (try clear hb))) | ((with_reducible refine And.intro ?_ ?_); · omega) | (refine jn _ ?_ ?_) | (with_reducible refine both ?_ ?_) | (with_reducible refine And.intro ?_ ?_) | (refine fin_eq ?_; (try (simp (disch := omega) only [go_sem, hE, hH])); first | done | rfl) | (simp (disch := omega) only [go_sem, hE, hH]) | ((first | apply noMLL_sE | apply pk_sE) <;> (simp only [go_sem, hE, hH]; done)) | (simp only [go_sem, hE, hH]) | fail)
  all_goals simp_all [Op.mk.injEq]
theorem eqStringS_ok (l m : List ByteArray) (hl : limL (fun _ => True) l) : ACall Tryz.prog n_laws_eqStringS [.sl false 1 (strs l), .sl false 1 (strs m)] (fun r _ => r = bl (decide (l = m))) := by
  obtain ⟨hl, hx⟩ := hl
  have hm := mx_eq
  refine fn_in h_laws_eqStringS r_laws_eqStringS ⟨by simp only [go_sem], fun E hE hH => ?_⟩; simp only [go_sem] at hE hH; simp only [go_sem, hE, hH, c_laws_eqStringS]
  repeat' (first | ((with_reducible first | refine gd_t ?_ ?_ | refine gd_f ?_ ?_) <;> (intro h; have hb := h; (try simp only [nf, beq_iff_eq, bne_iff_ne, beq_eq_false_iff_ne, bne_eq_false_iff_eq] at h); simp (disch := omega) only [go_sem, hE, hH, hb]; (try clear hb))) | ((with_reducible refine And.intro ?_ ?_); · omega) | (refine jn _ ?_ ?_) | (with_reducible refine both ?_ ?_) | (with_reducible refine And.intro ?_ ?_) | (refine fin_eq ?_; (try (simp (disch := omega) only [go_sem, hE, hH])); first | done | rfl) | (simp (disch := omega) only [go_sem, hE, hH]) | ((first | apply noMLL_sE | apply pk_sE) <;> (simp only [go_sem, hE, hH]; done)) | (simp only [go_sem, hE, hH]) | fail)
  · rw [decide_eq_false (fun e => h (by rw [e]))]
  have hlen : l.length = m.length := by omega
  clear h
  refine loopN l.length (fun j (_ : Unit) => ⟨[(0, .sl false 1 (strs l)), (1, .sl false 1 (strs m)), (5, i64 j)], []⟩) (fun j _ => decide (l = m) = decide (l.drop j = m.drop j)) () (by simp) ?_
  intro j _ hj hI
  try simp only [go_sem, hE, hH, c_laws_eqStringS_l1]
  first | refine gd_t (fun h => ?_) (fun h => ?_) | refine gd_f (fun h => ?_) (fun h => ?_)
  · have hb := h
    simp only [nf, beq_iff_eq, bne_iff_ne, beq_eq_false_iff_ne, bne_eq_false_iff_eq] at h
    have hlt := h; clear h
    have hlm : j < m.length := by omega
    rw [drop_eq hlt hlm] at hI
    try simp (disch := omega) only [go_sem, hE, hH, hb]
    repeat' (first | ((with_reducible first | refine gd_t ?_ ?_ | refine gd_f ?_ ?_) <;> (intro h; have hb := h; (try simp only [nf, beq_iff_eq, bne_iff_ne, beq_eq_false_iff_ne, bne_eq_false_iff_eq] at h); simp (disch := omega) only [go_sem, hE, hH, hb]; (try clear hb))) | ((with_reducible refine And.intro ?_ ?_); · omega) | (refine jn _ ?_ ?_) | (with_reducible refine both ?_ ?_) | (with_reducible refine And.intro ?_ ?_) | (refine fin_eq ?_; (try (simp (disch := omega) only [go_sem, hE, hH])); first | done | rfl) | (simp (disch := omega) only [go_sem, hE, hH]) | ((first | apply noMLL_sE | apply pk_sE) <;> (simp only [go_sem, hE, hH]; done)) | (simp only [go_sem, hE, hH]) | fail)
    · rw [hI]; simp [h]
    · exact ⟨(), rfl, by rw [hI]; simp [h]⟩
  · have hb := h
    simp only [nf, beq_iff_eq, bne_iff_ne, beq_eq_false_iff_ne, bne_eq_false_iff_eq] at h
    try simp (disch := omega) only [go_sem, hE, hH, hb]
    rw [hI, List.drop_of_length_le (by omega), List.drop_of_length_le (by omega)]
    rfl
theorem eqWrite_ok (x y : Write) (hl : x.lim) : ACall Tryz.prog n_laws_eqWrite [.agg (Write.row false x), .agg (Write.row false y)] (fun r _ => r = bl (decide (x = y))) := by
  obtain ⟨x_Key, x_Val, x_Gone⟩ := x
  obtain ⟨y_Key, y_Val, y_Gone⟩ := y
  refine fn_in h_laws_eqWrite r_laws_eqWrite ⟨by simp only [go_sem], fun E hE hH => ?_⟩; simp only [go_sem] at hE hH; simp only [go_sem, hE, hH, c_laws_eqWrite]
  repeat' (first | ((with_reducible first | refine gd_t ?_ ?_ | refine gd_f ?_ ?_) <;> (intro h; have hb := h; (try simp only [nf, beq_iff_eq, bne_iff_ne, beq_eq_false_iff_ne, bne_eq_false_iff_eq] at h); simp (disch := omega) only [go_sem, hE, hH, hb]; (try clear hb))) | ((with_reducible refine And.intro ?_ ?_); · omega) | (refine jn _ ?_ ?_) | (with_reducible refine both ?_ ?_) | (with_reducible refine And.intro ?_ ?_) | (refine fin_eq ?_; (try (simp (disch := omega) only [go_sem, hE, hH])); first | done | rfl) | (simp (disch := omega) only [go_sem, hE, hH]) | ((first | apply noMLL_sE | apply pk_sE) <;> (simp only [go_sem, hE, hH]; done)) | (simp only [go_sem, hE, hH]) | fail)
  all_goals simp_all [Write.mk.injEq]
theorem eqClockS_ok (l m : List Clock) (hl : limL (Clock.lim) l) : ACall Tryz.prog n_laws_eqClockS [.sl false 1 (l.map (Clock.row false)), .sl false 1 (m.map (Clock.row false))] (fun r _ => r = bl (decide (l = m))) := by
  obtain ⟨hl, hx⟩ := hl
  have hm := mx_eq
  refine fn_in h_laws_eqClockS r_laws_eqClockS ⟨by simp only [go_sem], fun E hE hH => ?_⟩; simp only [go_sem] at hE hH; simp only [go_sem, hE, hH, c_laws_eqClockS]
  repeat' (first | ((with_reducible first | refine gd_t ?_ ?_ | refine gd_f ?_ ?_) <;> (intro h; have hb := h; (try simp only [nf, beq_iff_eq, bne_iff_ne, beq_eq_false_iff_ne, bne_eq_false_iff_eq] at h); simp (disch := omega) only [go_sem, hE, hH, hb]; (try clear hb))) | ((with_reducible refine And.intro ?_ ?_); · omega) | (refine jn _ ?_ ?_) | (with_reducible refine both ?_ ?_) | (with_reducible refine And.intro ?_ ?_) | (refine fin_eq ?_; (try (simp (disch := omega) only [go_sem, hE, hH])); first | done | rfl) | (simp (disch := omega) only [go_sem, hE, hH]) | ((first | apply noMLL_sE | apply pk_sE) <;> (simp only [go_sem, hE, hH]; done)) | (simp only [go_sem, hE, hH]) | fail)
  · rw [decide_eq_false (fun e => h (by rw [e]))]
  have hlen : l.length = m.length := by omega
  clear h
  refine loopN l.length (fun j (_ : Unit) => ⟨[(0, .sl false 1 (l.map (Clock.row false))), (1, .sl false 1 (m.map (Clock.row false))), (5, i64 j)], []⟩) (fun j _ => decide (l = m) = decide (l.drop j = m.drop j)) () (by simp) ?_
  intro j _ hj hI
  try simp only [go_sem, hE, hH, c_laws_eqClockS_l1]
  first | refine gd_t (fun h => ?_) (fun h => ?_) | refine gd_f (fun h => ?_) (fun h => ?_)
  · have hb := h
    simp only [nf, beq_iff_eq, bne_iff_ne, beq_eq_false_iff_ne, bne_eq_false_iff_eq] at h
    have hlt := h; clear h
    have hlm : j < m.length := by omega
    rw [drop_eq hlt hlm] at hI
    have hs := hx _ (nth_mem hlt)
    try simp (disch := omega) only [go_sem, hE, hH, hb]
    repeat' (first | ((with_reducible first | refine gd_t ?_ ?_ | refine gd_f ?_ ?_) <;> (intro h; have hb := h; (try simp only [nf, beq_iff_eq, bne_iff_ne, beq_eq_false_iff_ne, bne_eq_false_iff_eq] at h); simp (disch := omega) only [go_sem, hE, hH, hb]; (try clear hb))) | ((with_reducible refine And.intro ?_ ?_); · omega) | ((first | refine ok_view ?_ | refine cvA (eqClock_ok _ _ (by assumption)) ?_); simp (disch := omega) only [go_sem, hE, hH]) | (refine jn _ ?_ ?_) | (with_reducible refine both ?_ ?_) | (with_reducible refine And.intro ?_ ?_) | (refine fin_eq ?_; (try (simp (disch := omega) only [go_sem, hE, hH])); first | done | rfl) | (simp (disch := omega) only [go_sem, hE, hH]) | ((first | apply noMLL_sE | apply pk_sE) <;> (simp only [go_sem, hE, hH]; done)) | (simp only [go_sem, hE, hH]) | fail)
    · rw [hI]; simp [h]
    · exact ⟨(), rfl, by rw [hI]; simp [h]⟩
  · have hb := h
    simp only [nf, beq_iff_eq, bne_iff_ne, beq_eq_false_iff_ne, bne_eq_false_iff_eq] at h
    try simp (disch := omega) only [go_sem, hE, hH, hb]
    rw [hI, List.drop_of_length_le (by omega), List.drop_of_length_le (by omega)]
    rfl
theorem eqGotS_ok (l m : List Got) (hl : limL (Got.lim) l) : ACall Tryz.prog n_laws_eqGotS [.sl false 3 (l.map (Got.row false)), .sl false 3 (m.map (Got.row false))] (fun r _ => r = bl (decide (l = m))) := by
  obtain ⟨hl, hx⟩ := hl
  have hm := mx_eq
  refine fn_in h_laws_eqGotS r_laws_eqGotS ⟨by simp only [go_sem], fun E hE hH => ?_⟩; simp only [go_sem] at hE hH; simp only [go_sem, hE, hH, c_laws_eqGotS]
  repeat' (first | ((with_reducible first | refine gd_t ?_ ?_ | refine gd_f ?_ ?_) <;> (intro h; have hb := h; (try simp only [nf, beq_iff_eq, bne_iff_ne, beq_eq_false_iff_ne, bne_eq_false_iff_eq] at h); simp (disch := omega) only [go_sem, hE, hH, hb]; (try clear hb))) | ((with_reducible refine And.intro ?_ ?_); · omega) | (refine jn _ ?_ ?_) | (with_reducible refine both ?_ ?_) | (with_reducible refine And.intro ?_ ?_) | (refine fin_eq ?_; (try (simp (disch := omega) only [go_sem, hE, hH])); first | done | rfl) | (simp (disch := omega) only [go_sem, hE, hH]) | ((first | apply noMLL_sE | apply pk_sE) <;> (simp only [go_sem, hE, hH]; done)) | (simp only [go_sem, hE, hH]) | fail)
  · rw [decide_eq_false (fun e => h (by rw [e]))]
  have hlen : l.length = m.length := by omega
  clear h
  refine loopN l.length (fun j (_ : Unit) => ⟨[(0, .sl false 3 (l.map (Got.row false))), (1, .sl false 3 (m.map (Got.row false))), (5, i64 j)], []⟩) (fun j _ => decide (l = m) = decide (l.drop j = m.drop j)) () (by simp) ?_
  intro j _ hj hI
  try simp only [go_sem, hE, hH, c_laws_eqGotS_l1]
  first | refine gd_t (fun h => ?_) (fun h => ?_) | refine gd_f (fun h => ?_) (fun h => ?_)
  · have hb := h
    simp only [nf, beq_iff_eq, bne_iff_ne, beq_eq_false_iff_ne, bne_eq_false_iff_eq] at h
    have hlt := h; clear h
    have hlm : j < m.length := by omega
    rw [drop_eq hlt hlm] at hI
    have hs := hx _ (nth_mem hlt)
    try simp (disch := omega) only [go_sem, hE, hH, hb]
    repeat' (first | ((with_reducible first | refine gd_t ?_ ?_ | refine gd_f ?_ ?_) <;> (intro h; have hb := h; (try simp only [nf, beq_iff_eq, bne_iff_ne, beq_eq_false_iff_ne, bne_eq_false_iff_eq] at h); simp (disch := omega) only [go_sem, hE, hH, hb]; (try clear hb))) | ((with_reducible refine And.intro ?_ ?_); · omega) | ((first | refine ok_view ?_ | refine cvA (eqGot_ok _ _ (by assumption)) ?_); simp (disch := omega) only [go_sem, hE, hH]) | (refine jn _ ?_ ?_) | (with_reducible refine both ?_ ?_) | (with_reducible refine And.intro ?_ ?_) | (refine fin_eq ?_; (try (simp (disch := omega) only [go_sem, hE, hH])); first | done | rfl) | (simp (disch := omega) only [go_sem, hE, hH]) | ((first | apply noMLL_sE | apply pk_sE) <;> (simp only [go_sem, hE, hH]; done)) | (simp only [go_sem, hE, hH]) | fail)
    · rw [hI]; simp [h]
    · exact ⟨(), rfl, by rw [hI]; simp [h]⟩
  · have hb := h
    simp only [nf, beq_iff_eq, bne_iff_ne, beq_eq_false_iff_ne, bne_eq_false_iff_eq] at h
    try simp (disch := omega) only [go_sem, hE, hH, hb]
    rw [hI, List.drop_of_length_le (by omega), List.drop_of_length_le (by omega)]
    rfl
theorem eqLockS_ok (l m : List Lock) (hl : limL (Lock.lim) l) : ACall Tryz.prog n_laws_eqLockS [.sl false 3 (l.map (Lock.row false)), .sl false 3 (m.map (Lock.row false))] (fun r _ => r = bl (decide (l = m))) := by
  obtain ⟨hl, hx⟩ := hl
  have hm := mx_eq
  refine fn_in h_laws_eqLockS r_laws_eqLockS ⟨by simp only [go_sem], fun E hE hH => ?_⟩; simp only [go_sem] at hE hH; simp only [go_sem, hE, hH, c_laws_eqLockS]
  repeat' (first | ((with_reducible first | refine gd_t ?_ ?_ | refine gd_f ?_ ?_) <;> (intro h; have hb := h; (try simp only [nf, beq_iff_eq, bne_iff_ne, beq_eq_false_iff_ne, bne_eq_false_iff_eq] at h); simp (disch := omega) only [go_sem, hE, hH, hb]; (try clear hb))) | ((with_reducible refine And.intro ?_ ?_); · omega) | (refine jn _ ?_ ?_) | (with_reducible refine both ?_ ?_) | (with_reducible refine And.intro ?_ ?_) | (refine fin_eq ?_; (try (simp (disch := omega) only [go_sem, hE, hH])); first | done | rfl) | (simp (disch := omega) only [go_sem, hE, hH]) | ((first | apply noMLL_sE | apply pk_sE) <;> (simp only [go_sem, hE, hH]; done)) | (simp only [go_sem, hE, hH]) | fail)
  · rw [decide_eq_false (fun e => h (by rw [e]))]
  have hlen : l.length = m.length := by omega
  clear h
  refine loopN l.length (fun j (_ : Unit) => ⟨[(0, .sl false 3 (l.map (Lock.row false))), (1, .sl false 3 (m.map (Lock.row false))), (5, i64 j)], []⟩) (fun j _ => decide (l = m) = decide (l.drop j = m.drop j)) () (by simp) ?_
  intro j _ hj hI
  try simp only [go_sem, hE, hH, c_laws_eqLockS_l1]
  first | refine gd_t (fun h => ?_) (fun h => ?_) | refine gd_f (fun h => ?_) (fun h => ?_)
  · have hb := h
    simp only [nf, beq_iff_eq, bne_iff_ne, beq_eq_false_iff_ne, bne_eq_false_iff_eq] at h
    have hlt := h; clear h
    have hlm : j < m.length := by omega
    rw [drop_eq hlt hlm] at hI
    have hs := hx _ (nth_mem hlt)
    try simp (disch := omega) only [go_sem, hE, hH, hb]
    repeat' (first | ((with_reducible first | refine gd_t ?_ ?_ | refine gd_f ?_ ?_) <;> (intro h; have hb := h; (try simp only [nf, beq_iff_eq, bne_iff_ne, beq_eq_false_iff_ne, bne_eq_false_iff_eq] at h); simp (disch := omega) only [go_sem, hE, hH, hb]; (try clear hb))) | ((with_reducible refine And.intro ?_ ?_); · omega) | ((first | refine ok_view ?_ | refine cvA (eqLock_ok _ _ (by assumption)) ?_); simp (disch := omega) only [go_sem, hE, hH]) | (refine jn _ ?_ ?_) | (with_reducible refine both ?_ ?_) | (with_reducible refine And.intro ?_ ?_) | (refine fin_eq ?_; (try (simp (disch := omega) only [go_sem, hE, hH])); first | done | rfl) | (simp (disch := omega) only [go_sem, hE, hH]) | ((first | apply noMLL_sE | apply pk_sE) <;> (simp only [go_sem, hE, hH]; done)) | (simp only [go_sem, hE, hH]) | fail)
    · rw [hI]; simp [h]
    · exact ⟨(), rfl, by rw [hI]; simp [h]⟩
  · have hb := h
    simp only [nf, beq_iff_eq, bne_iff_ne, beq_eq_false_iff_ne, bne_eq_false_iff_eq] at h
    try simp (disch := omega) only [go_sem, hE, hH, hb]
    rw [hI, List.drop_of_length_le (by omega), List.drop_of_length_le (by omega)]
    rfl
theorem eqOpS_ok (l m : List Op) (hl : limL (Op.lim) l) : ACall Tryz.prog n_laws_eqOpS [.sl false 4 (l.map (Op.row false)), .sl false 4 (m.map (Op.row false))] (fun r _ => r = bl (decide (l = m))) := by
  obtain ⟨hl, hx⟩ := hl
  have hm := mx_eq
  refine fn_in h_laws_eqOpS r_laws_eqOpS ⟨by simp only [go_sem], fun E hE hH => ?_⟩; simp only [go_sem] at hE hH; simp only [go_sem, hE, hH, c_laws_eqOpS]
  repeat' (first | ((with_reducible first | refine gd_t ?_ ?_ | refine gd_f ?_ ?_) <;> (intro h; have hb := h; (try simp only [nf, beq_iff_eq, bne_iff_ne, beq_eq_false_iff_ne, bne_eq_false_iff_eq] at h); simp (disch := omega) only [go_sem, hE, hH, hb]; (try clear hb))) | ((with_reducible refine And.intro ?_ ?_); · omega) | (refine jn _ ?_ ?_) | (with_reducible refine both ?_ ?_) | (with_reducible refine And.intro ?_ ?_) | (refine fin_eq ?_; (try (simp (disch := omega) only [go_sem, hE, hH])); first | done | rfl) | (simp (disch := omega) only [go_sem, hE, hH]) | ((first | apply noMLL_sE | apply pk_sE) <;> (simp only [go_sem, hE, hH]; done)) | (simp only [go_sem, hE, hH]) | fail)
  · rw [decide_eq_false (fun e => h (by rw [e]))]
  have hlen : l.length = m.length := by omega
  clear h
  refine loopN l.length (fun j (_ : Unit) => ⟨[(0, .sl false 4 (l.map (Op.row false))), (1, .sl false 4 (m.map (Op.row false))), (5, i64 j)], []⟩) (fun j _ => decide (l = m) = decide (l.drop j = m.drop j)) () (by simp) ?_
  intro j _ hj hI
  try simp only [go_sem, hE, hH, c_laws_eqOpS_l1]
  first | refine gd_t (fun h => ?_) (fun h => ?_) | refine gd_f (fun h => ?_) (fun h => ?_)
  · have hb := h
    simp only [nf, beq_iff_eq, bne_iff_ne, beq_eq_false_iff_ne, bne_eq_false_iff_eq] at h
    have hlt := h; clear h
    have hlm : j < m.length := by omega
    rw [drop_eq hlt hlm] at hI
    have hs := hx _ (nth_mem hlt)
    try simp (disch := omega) only [go_sem, hE, hH, hb]
    repeat' (first | ((with_reducible first | refine gd_t ?_ ?_ | refine gd_f ?_ ?_) <;> (intro h; have hb := h; (try simp only [nf, beq_iff_eq, bne_iff_ne, beq_eq_false_iff_ne, bne_eq_false_iff_eq] at h); simp (disch := omega) only [go_sem, hE, hH, hb]; (try clear hb))) | ((with_reducible refine And.intro ?_ ?_); · omega) | ((first | refine ok_view ?_ | refine cvA (eqOp_ok _ _ (by assumption)) ?_); simp (disch := omega) only [go_sem, hE, hH]) | (refine jn _ ?_ ?_) | (with_reducible refine both ?_ ?_) | (with_reducible refine And.intro ?_ ?_) | (refine fin_eq ?_; (try (simp (disch := omega) only [go_sem, hE, hH])); first | done | rfl) | (simp (disch := omega) only [go_sem, hE, hH]) | ((first | apply noMLL_sE | apply pk_sE) <;> (simp only [go_sem, hE, hH]; done)) | (simp only [go_sem, hE, hH]) | fail)
    · rw [hI]; simp [h]
    · exact ⟨(), rfl, by rw [hI]; simp [h]⟩
  · have hb := h
    simp only [nf, beq_iff_eq, bne_iff_ne, beq_eq_false_iff_ne, bne_eq_false_iff_eq] at h
    try simp (disch := omega) only [go_sem, hE, hH, hb]
    rw [hI, List.drop_of_length_le (by omega), List.drop_of_length_le (by omega)]
    rfl
theorem eqWriteS_ok (l m : List Write) (hl : limL (Write.lim) l) : ACall Tryz.prog n_laws_eqWriteS [.sl false 3 (l.map (Write.row false)), .sl false 3 (m.map (Write.row false))] (fun r _ => r = bl (decide (l = m))) := by
  obtain ⟨hl, hx⟩ := hl
  have hm := mx_eq
  refine fn_in h_laws_eqWriteS r_laws_eqWriteS ⟨by simp only [go_sem], fun E hE hH => ?_⟩; simp only [go_sem] at hE hH; simp only [go_sem, hE, hH, c_laws_eqWriteS]
  repeat' (first | ((with_reducible first | refine gd_t ?_ ?_ | refine gd_f ?_ ?_) <;> (intro h; have hb := h; (try simp only [nf, beq_iff_eq, bne_iff_ne, beq_eq_false_iff_ne, bne_eq_false_iff_eq] at h); simp (disch := omega) only [go_sem, hE, hH, hb]; (try clear hb))) | ((with_reducible refine And.intro ?_ ?_); · omega) | (refine jn _ ?_ ?_) | (with_reducible refine both ?_ ?_) | (with_reducible refine And.intro ?_ ?_) | (refine fin_eq ?_; (try (simp (disch := omega) only [go_sem, hE, hH])); first | done | rfl) | (simp (disch := omega) only [go_sem, hE, hH]) | ((first | apply noMLL_sE | apply pk_sE) <;> (simp only [go_sem, hE, hH]; done)) | (simp only [go_sem, hE, hH]) | fail)
  · rw [decide_eq_false (fun e => h (by rw [e]))]
  have hlen : l.length = m.length := by omega
  clear h
  refine loopN l.length (fun j (_ : Unit) => ⟨[(0, .sl false 3 (l.map (Write.row false))), (1, .sl false 3 (m.map (Write.row false))), (5, i64 j)], []⟩) (fun j _ => decide (l = m) = decide (l.drop j = m.drop j)) () (by simp) ?_
  intro j _ hj hI
  try simp only [go_sem, hE, hH, c_laws_eqWriteS_l1]
  first | refine gd_t (fun h => ?_) (fun h => ?_) | refine gd_f (fun h => ?_) (fun h => ?_)
  · have hb := h
    simp only [nf, beq_iff_eq, bne_iff_ne, beq_eq_false_iff_ne, bne_eq_false_iff_eq] at h
    have hlt := h; clear h
    have hlm : j < m.length := by omega
    rw [drop_eq hlt hlm] at hI
    have hs := hx _ (nth_mem hlt)
    try simp (disch := omega) only [go_sem, hE, hH, hb]
    repeat' (first | ((with_reducible first | refine gd_t ?_ ?_ | refine gd_f ?_ ?_) <;> (intro h; have hb := h; (try simp only [nf, beq_iff_eq, bne_iff_ne, beq_eq_false_iff_ne, bne_eq_false_iff_eq] at h); simp (disch := omega) only [go_sem, hE, hH, hb]; (try clear hb))) | ((with_reducible refine And.intro ?_ ?_); · omega) | ((first | refine ok_view ?_ | refine cvA (eqWrite_ok _ _ (by assumption)) ?_); simp (disch := omega) only [go_sem, hE, hH]) | (refine jn _ ?_ ?_) | (with_reducible refine both ?_ ?_) | (with_reducible refine And.intro ?_ ?_) | (refine fin_eq ?_; (try (simp (disch := omega) only [go_sem, hE, hH])); first | done | rfl) | (simp (disch := omega) only [go_sem, hE, hH]) | ((first | apply noMLL_sE | apply pk_sE) <;> (simp only [go_sem, hE, hH]; done)) | (simp only [go_sem, hE, hH]) | fail)
    · rw [hI]; simp [h]
    · exact ⟨(), rfl, by rw [hI]; simp [h]⟩
  · have hb := h
    simp only [nf, beq_iff_eq, bne_iff_ne, beq_eq_false_iff_ne, bne_eq_false_iff_eq] at h
    try simp (disch := omega) only [go_sem, hE, hH, hb]
    rw [hI, List.drop_of_length_le (by omega), List.drop_of_length_le (by omega)]
    rfl
theorem eqLockSS_ok (l m : List (List Lock)) (hl : limL (limL (Lock.lim)) l) : ACall Tryz.prog n_laws_eqLockSS [.sl false 1 (l.map fun y => [.sl false 3 (y.map (Lock.row false))]), .sl false 1 (m.map fun y => [.sl false 3 (y.map (Lock.row false))])] (fun r _ => r = bl (decide (l = m))) := by
  obtain ⟨hl, hx⟩ := hl
  have hm := mx_eq
  refine fn_in h_laws_eqLockSS r_laws_eqLockSS ⟨by simp only [go_sem], fun E hE hH => ?_⟩; simp only [go_sem] at hE hH; simp only [go_sem, hE, hH, c_laws_eqLockSS]
  repeat' (first | ((with_reducible first | refine gd_t ?_ ?_ | refine gd_f ?_ ?_) <;> (intro h; have hb := h; (try simp only [nf, beq_iff_eq, bne_iff_ne, beq_eq_false_iff_ne, bne_eq_false_iff_eq] at h); simp (disch := omega) only [go_sem, hE, hH, hb]; (try clear hb))) | ((with_reducible refine And.intro ?_ ?_); · omega) | (refine jn _ ?_ ?_) | (with_reducible refine both ?_ ?_) | (with_reducible refine And.intro ?_ ?_) | (refine fin_eq ?_; (try (simp (disch := omega) only [go_sem, hE, hH])); first | done | rfl) | (simp (disch := omega) only [go_sem, hE, hH]) | ((first | apply noMLL_sE | apply pk_sE) <;> (simp only [go_sem, hE, hH]; done)) | (simp only [go_sem, hE, hH]) | fail)
  · rw [decide_eq_false (fun e => h (by rw [e]))]
  have hlen : l.length = m.length := by omega
  clear h
  refine loopN l.length (fun j (_ : Unit) => ⟨[(0, .sl false 1 (l.map fun y => [.sl false 3 (y.map (Lock.row false))])), (1, .sl false 1 (m.map fun y => [.sl false 3 (y.map (Lock.row false))])), (5, i64 j)], []⟩) (fun j _ => decide (l = m) = decide (l.drop j = m.drop j)) () (by simp) ?_
  intro j _ hj hI
  try simp only [go_sem, hE, hH, c_laws_eqLockSS_l1]
  first | refine gd_t (fun h => ?_) (fun h => ?_) | refine gd_f (fun h => ?_) (fun h => ?_)
  · have hb := h
    simp only [nf, beq_iff_eq, bne_iff_ne, beq_eq_false_iff_ne, bne_eq_false_iff_eq] at h
    have hlt := h; clear h
    have hlm : j < m.length := by omega
    rw [drop_eq hlt hlm] at hI
    have hs := hx _ (nth_mem hlt)
    try simp (disch := omega) only [go_sem, hE, hH, hb]
    repeat' (first | ((with_reducible first | refine gd_t ?_ ?_ | refine gd_f ?_ ?_) <;> (intro h; have hb := h; (try simp only [nf, beq_iff_eq, bne_iff_ne, beq_eq_false_iff_ne, bne_eq_false_iff_eq] at h); simp (disch := omega) only [go_sem, hE, hH, hb]; (try clear hb))) | ((with_reducible refine And.intro ?_ ?_); · omega) | ((first | refine ok_view ?_ | refine cvA (eqLockS_ok _ _ (by assumption)) ?_); simp (disch := omega) only [go_sem, hE, hH]) | (refine jn _ ?_ ?_) | (with_reducible refine both ?_ ?_) | (with_reducible refine And.intro ?_ ?_) | (refine fin_eq ?_; (try (simp (disch := omega) only [go_sem, hE, hH])); first | done | rfl) | (simp (disch := omega) only [go_sem, hE, hH]) | ((first | apply noMLL_sE | apply pk_sE) <;> (simp only [go_sem, hE, hH]; done)) | (simp only [go_sem, hE, hH]) | fail)
    · rw [hI]; simp [h]
    · exact ⟨(), rfl, by rw [hI]; simp [h]⟩
  · have hb := h
    simp only [nf, beq_iff_eq, bne_iff_ne, beq_eq_false_iff_ne, bne_eq_false_iff_eq] at h
    try simp (disch := omega) only [go_sem, hE, hH, hb]
    rw [hI, List.drop_of_length_le (by omega), List.drop_of_length_le (by omega)]
    rfl
theorem eqRec_ok (x y : Rec) (hl : x.lim) : ACall Tryz.prog n_laws_eqRec [.agg (Rec.row false x), .agg (Rec.row false y)] (fun r _ => r = bl (decide (x = y))) := by
  obtain ⟨l_Reads, l_Writes⟩ := hl
  obtain ⟨x_Kind, x_Txn, x_Time, x_Lead, x_Reads, x_Writes, x_Yes⟩ := x
  obtain ⟨y_Kind, y_Txn, y_Time, y_Lead, y_Reads, y_Writes, y_Yes⟩ := y
  refine fn_in h_laws_eqRec r_laws_eqRec ⟨by simp only [go_sem], fun E hE hH => ?_⟩; simp only [go_sem] at hE hH; simp only [go_sem, hE, hH, c_laws_eqRec]
  repeat' (first | ((with_reducible first | refine gd_t ?_ ?_ | refine gd_f ?_ ?_) <;> (intro h; have hb := h; (try simp only [nf, beq_iff_eq, bne_iff_ne, beq_eq_false_iff_ne, bne_eq_false_iff_eq] at h); simp (disch := omega) only [go_sem, hE, hH, hb]; (try clear hb))) | ((with_reducible refine And.intro ?_ ?_); · omega) | ((first | refine ok_view ?_ | refine cvA (eqStringS_ok _ _ (by assumption)) ?_ | refine cvA (eqWriteS_ok _ _ (by assumption)) ?_); simp (disch := omega) only [go_sem, hE, hH]) | (refine jn _ ?_ ?_) | (with_reducible refine both ?_ ?_) | (with_reducible refine And.intro ?_ ?_) | (refine fin_eq ?_; (try (simp (disch := omega) only [go_sem, hE, hH])); first | done | rfl) | (simp (disch := omega) only [go_sem, hE, hH]) | ((first | apply noMLL_sE | apply pk_sE) <;> (simp only [go_sem, hE, hH]; done)) | (simp only [go_sem, hE, hH]) | fail)
  all_goals simp_all [Rec.mk.injEq]
theorem eqWorldLook_ok (x y : WorldLook) (hl : x.lim) : ACall Tryz.prog n_laws_eqWorldLook [.agg (WorldLook.row false x), .agg (WorldLook.row false y)] (fun r _ => r = bl (decide (x = y))) := by
  obtain ⟨l_Keys, l_Got⟩ := hl
  obtain ⟨x_Node, x_Keys, x_Got, x_Time, x_Begin, x_End⟩ := x
  obtain ⟨y_Node, y_Keys, y_Got, y_Time, y_Begin, y_End⟩ := y
  refine fn_in h_laws_eqWorldLook r_laws_eqWorldLook ⟨by simp only [go_sem], fun E hE hH => ?_⟩; simp only [go_sem] at hE hH; simp only [go_sem, hE, hH, c_laws_eqWorldLook]
  repeat' (first | ((with_reducible first | refine gd_t ?_ ?_ | refine gd_f ?_ ?_) <;> (intro h; have hb := h; (try simp only [nf, beq_iff_eq, bne_iff_ne, beq_eq_false_iff_ne, bne_eq_false_iff_eq] at h); simp (disch := omega) only [go_sem, hE, hH, hb]; (try clear hb))) | ((with_reducible refine And.intro ?_ ?_); · omega) | ((first | refine ok_view ?_ | refine cvA (eqStringS_ok _ _ (by assumption)) ?_ | refine cvA (eqGotS_ok _ _ (by assumption)) ?_); simp (disch := omega) only [go_sem, hE, hH]) | (refine jn _ ?_ ?_) | (with_reducible refine both ?_ ?_) | (with_reducible refine And.intro ?_ ?_) | (refine fin_eq ?_; (try (simp (disch := omega) only [go_sem, hE, hH])); first | done | rfl) | (simp (disch := omega) only [go_sem, hE, hH]) | ((first | apply noMLL_sE | apply pk_sE) <;> (simp only [go_sem, hE, hH]; done)) | (simp only [go_sem, hE, hH]) | fail)
  all_goals simp_all [WorldLook.mk.injEq]
theorem eqWorldTxn_ok (x y : WorldTxn) (hl : x.lim) : ACall Tryz.prog n_laws_eqWorldTxn [.agg (WorldTxn.row false x), .agg (WorldTxn.row false y)] (fun r _ => r = bl (decide (x = y))) := by
  obtain ⟨l_Ops, l_Got, l_Terms⟩ := hl
  obtain ⟨x_Ops, x_Got, x_Terms, x_Begin, x_End, x_Yes, x_Time, x_Dead, x_Put, x_Stopped⟩ := x
  obtain ⟨y_Ops, y_Got, y_Terms, y_Begin, y_End, y_Yes, y_Time, y_Dead, y_Put, y_Stopped⟩ := y
  refine fn_in h_laws_eqWorldTxn r_laws_eqWorldTxn ⟨by simp only [go_sem], fun E hE hH => ?_⟩; simp only [go_sem] at hE hH; simp only [go_sem, hE, hH, c_laws_eqWorldTxn]
  repeat' (first | ((with_reducible first | refine gd_t ?_ ?_ | refine gd_f ?_ ?_) <;> (intro h; have hb := h; (try simp only [nf, beq_iff_eq, bne_iff_ne, beq_eq_false_iff_ne, bne_eq_false_iff_eq] at h); simp (disch := omega) only [go_sem, hE, hH, hb]; (try clear hb))) | ((with_reducible refine And.intro ?_ ?_); · omega) | ((first | refine ok_view ?_ | refine cvA (eqOpS_ok _ _ (by assumption)) ?_ | refine cvA (eqGotS_ok _ _ (by assumption)) ?_ | refine cvA (eqIntS_ok _ _ (by assumption)) ?_); simp (disch := omega) only [go_sem, hE, hH]) | (refine jn _ ?_ ?_) | (with_reducible refine both ?_ ?_) | (with_reducible refine And.intro ?_ ?_) | (refine fin_eq ?_; (try (simp (disch := omega) only [go_sem, hE, hH])); first | done | rfl) | (simp (disch := omega) only [go_sem, hE, hH]) | ((first | apply noMLL_sE | apply pk_sE) <;> (simp only [go_sem, hE, hH]; done)) | (simp only [go_sem, hE, hH]) | fail)
  all_goals simp_all [WorldTxn.mk.injEq]
theorem eqEntry_ok (x y : Entry) (hl : x.lim) : ACall Tryz.prog n_laws_eqEntry [.agg (Entry.row false x), .agg (Entry.row false y)] (fun r _ => r = bl (decide (x = y))) := by
  have l_Rec := hl; unfold Entry.lim at l_Rec
  obtain ⟨x_Term, x_Rec⟩ := x
  obtain ⟨y_Term, y_Rec⟩ := y
  refine fn_in h_laws_eqEntry r_laws_eqEntry ⟨by simp only [go_sem], fun E hE hH => ?_⟩; simp only [go_sem] at hE hH; simp only [go_sem, hE, hH, c_laws_eqEntry]
  repeat' (first | ((with_reducible first | refine gd_t ?_ ?_ | refine gd_f ?_ ?_) <;> (intro h; have hb := h; (try simp only [nf, beq_iff_eq, bne_iff_ne, beq_eq_false_iff_ne, bne_eq_false_iff_eq] at h); simp (disch := omega) only [go_sem, hE, hH, hb]; (try clear hb))) | ((with_reducible refine And.intro ?_ ?_); · omega) | ((first | refine ok_view ?_ | refine cvA (eqRec_ok _ _ (by assumption)) ?_); simp (disch := omega) only [go_sem, hE, hH]) | (refine jn _ ?_ ?_) | (with_reducible refine both ?_ ?_) | (with_reducible refine And.intro ?_ ?_) | (refine fin_eq ?_; (try (simp (disch := omega) only [go_sem, hE, hH])); first | done | rfl) | (simp (disch := omega) only [go_sem, hE, hH]) | ((first | apply noMLL_sE | apply pk_sE) <;> (simp only [go_sem, hE, hH]; done)) | (simp only [go_sem, hE, hH]) | fail)
  all_goals simp_all [Entry.mk.injEq]
theorem eqWorldLookS_ok (l m : List WorldLook) (hl : limL (WorldLook.lim) l) : ACall Tryz.prog n_laws_eqWorldLookS [.sl false 6 (l.map (WorldLook.row false)), .sl false 6 (m.map (WorldLook.row false))] (fun r _ => r = bl (decide (l = m))) := by
  obtain ⟨hl, hx⟩ := hl
  have hm := mx_eq
  refine fn_in h_laws_eqWorldLookS r_laws_eqWorldLookS ⟨by simp only [go_sem], fun E hE hH => ?_⟩; simp only [go_sem] at hE hH; simp only [go_sem, hE, hH, c_laws_eqWorldLookS]
  repeat' (first | ((with_reducible first | refine gd_t ?_ ?_ | refine gd_f ?_ ?_) <;> (intro h; have hb := h; (try simp only [nf, beq_iff_eq, bne_iff_ne, beq_eq_false_iff_ne, bne_eq_false_iff_eq] at h); simp (disch := omega) only [go_sem, hE, hH, hb]; (try clear hb))) | ((with_reducible refine And.intro ?_ ?_); · omega) | (refine jn _ ?_ ?_) | (with_reducible refine both ?_ ?_) | (with_reducible refine And.intro ?_ ?_) | (refine fin_eq ?_; (try (simp (disch := omega) only [go_sem, hE, hH])); first | done | rfl) | (simp (disch := omega) only [go_sem, hE, hH]) | ((first | apply noMLL_sE | apply pk_sE) <;> (simp only [go_sem, hE, hH]; done)) | (simp only [go_sem, hE, hH]) | fail)
  · rw [decide_eq_false (fun e => h (by rw [e]))]
  have hlen : l.length = m.length := by omega
  clear h
  refine loopN l.length (fun j (_ : Unit) => ⟨[(0, .sl false 6 (l.map (WorldLook.row false))), (1, .sl false 6 (m.map (WorldLook.row false))), (5, i64 j)], []⟩) (fun j _ => decide (l = m) = decide (l.drop j = m.drop j)) () (by simp) ?_
  intro j _ hj hI
  try simp only [go_sem, hE, hH, c_laws_eqWorldLookS_l1]
  first | refine gd_t (fun h => ?_) (fun h => ?_) | refine gd_f (fun h => ?_) (fun h => ?_)
  · have hb := h
    simp only [nf, beq_iff_eq, bne_iff_ne, beq_eq_false_iff_ne, bne_eq_false_iff_eq] at h
    have hlt := h; clear h
    have hlm : j < m.length := by omega
    rw [drop_eq hlt hlm] at hI
    have hs := hx _ (nth_mem hlt)
    try simp (disch := omega) only [go_sem, hE, hH, hb]
    repeat' (first | ((with_reducible first | refine gd_t ?_ ?_ | refine gd_f ?_ ?_) <;> (intro h; have hb := h; (try simp only [nf, beq_iff_eq, bne_iff_ne, beq_eq_false_iff_ne, bne_eq_false_iff_eq] at h); simp (disch := omega) only [go_sem, hE, hH, hb]; (try clear hb))) | ((with_reducible refine And.intro ?_ ?_); · omega) | ((first | refine ok_view ?_ | refine cvA (eqWorldLook_ok _ _ (by assumption)) ?_); simp (disch := omega) only [go_sem, hE, hH]) | (refine jn _ ?_ ?_) | (with_reducible refine both ?_ ?_) | (with_reducible refine And.intro ?_ ?_) | (refine fin_eq ?_; (try (simp (disch := omega) only [go_sem, hE, hH])); first | done | rfl) | (simp (disch := omega) only [go_sem, hE, hH]) | ((first | apply noMLL_sE | apply pk_sE) <;> (simp only [go_sem, hE, hH]; done)) | (simp only [go_sem, hE, hH]) | fail)
    · rw [hI]; simp [h]
    · exact ⟨(), rfl, by rw [hI]; simp [h]⟩
  · have hb := h
    simp only [nf, beq_iff_eq, bne_iff_ne, beq_eq_false_iff_ne, bne_eq_false_iff_eq] at h
    try simp (disch := omega) only [go_sem, hE, hH, hb]
    rw [hI, List.drop_of_length_le (by omega), List.drop_of_length_le (by omega)]
    rfl
theorem eqWorldTxnS_ok (l m : List WorldTxn) (hl : limL (WorldTxn.lim) l) : ACall Tryz.prog n_laws_eqWorldTxnS [.sl false 10 (l.map (WorldTxn.row false)), .sl false 10 (m.map (WorldTxn.row false))] (fun r _ => r = bl (decide (l = m))) := by
  obtain ⟨hl, hx⟩ := hl
  have hm := mx_eq
  refine fn_in h_laws_eqWorldTxnS r_laws_eqWorldTxnS ⟨by simp only [go_sem], fun E hE hH => ?_⟩; simp only [go_sem] at hE hH; simp only [go_sem, hE, hH, c_laws_eqWorldTxnS]
  repeat' (first | ((with_reducible first | refine gd_t ?_ ?_ | refine gd_f ?_ ?_) <;> (intro h; have hb := h; (try simp only [nf, beq_iff_eq, bne_iff_ne, beq_eq_false_iff_ne, bne_eq_false_iff_eq] at h); simp (disch := omega) only [go_sem, hE, hH, hb]; (try clear hb))) | ((with_reducible refine And.intro ?_ ?_); · omega) | (refine jn _ ?_ ?_) | (with_reducible refine both ?_ ?_) | (with_reducible refine And.intro ?_ ?_) | (refine fin_eq ?_; (try (simp (disch := omega) only [go_sem, hE, hH])); first | done | rfl) | (simp (disch := omega) only [go_sem, hE, hH]) | ((first | apply noMLL_sE | apply pk_sE) <;> (simp only [go_sem, hE, hH]; done)) | (simp only [go_sem, hE, hH]) | fail)
  · rw [decide_eq_false (fun e => h (by rw [e]))]
  have hlen : l.length = m.length := by omega
  clear h
  refine loopN l.length (fun j (_ : Unit) => ⟨[(0, .sl false 10 (l.map (WorldTxn.row false))), (1, .sl false 10 (m.map (WorldTxn.row false))), (5, i64 j)], []⟩) (fun j _ => decide (l = m) = decide (l.drop j = m.drop j)) () (by simp) ?_
  intro j _ hj hI
  try simp only [go_sem, hE, hH, c_laws_eqWorldTxnS_l1]
  first | refine gd_t (fun h => ?_) (fun h => ?_) | refine gd_f (fun h => ?_) (fun h => ?_)
  · have hb := h
    simp only [nf, beq_iff_eq, bne_iff_ne, beq_eq_false_iff_ne, bne_eq_false_iff_eq] at h
    have hlt := h; clear h
    have hlm : j < m.length := by omega
    rw [drop_eq hlt hlm] at hI
    have hs := hx _ (nth_mem hlt)
    try simp (disch := omega) only [go_sem, hE, hH, hb]
    repeat' (first | ((with_reducible first | refine gd_t ?_ ?_ | refine gd_f ?_ ?_) <;> (intro h; have hb := h; (try simp only [nf, beq_iff_eq, bne_iff_ne, beq_eq_false_iff_ne, bne_eq_false_iff_eq] at h); simp (disch := omega) only [go_sem, hE, hH, hb]; (try clear hb))) | ((with_reducible refine And.intro ?_ ?_); · omega) | ((first | refine ok_view ?_ | refine cvA (eqWorldTxn_ok _ _ (by assumption)) ?_); simp (disch := omega) only [go_sem, hE, hH]) | (refine jn _ ?_ ?_) | (with_reducible refine both ?_ ?_) | (with_reducible refine And.intro ?_ ?_) | (refine fin_eq ?_; (try (simp (disch := omega) only [go_sem, hE, hH])); first | done | rfl) | (simp (disch := omega) only [go_sem, hE, hH]) | ((first | apply noMLL_sE | apply pk_sE) <;> (simp only [go_sem, hE, hH]; done)) | (simp only [go_sem, hE, hH]) | fail)
    · rw [hI]; simp [h]
    · exact ⟨(), rfl, by rw [hI]; simp [h]⟩
  · have hb := h
    simp only [nf, beq_iff_eq, bne_iff_ne, beq_eq_false_iff_ne, bne_eq_false_iff_eq] at h
    try simp (disch := omega) only [go_sem, hE, hH, hb]
    rw [hI, List.drop_of_length_le (by omega), List.drop_of_length_le (by omega)]
    rfl
theorem eqEntryS_ok (l m : List Entry) (hl : limL (Entry.lim) l) : ACall Tryz.prog n_laws_eqEntryS [.sl false 8 (l.map (Entry.row false)), .sl false 8 (m.map (Entry.row false))] (fun r _ => r = bl (decide (l = m))) := by
  obtain ⟨hl, hx⟩ := hl
  have hm := mx_eq
  refine fn_in h_laws_eqEntryS r_laws_eqEntryS ⟨by simp only [go_sem], fun E hE hH => ?_⟩; simp only [go_sem] at hE hH; simp only [go_sem, hE, hH, c_laws_eqEntryS]
  repeat' (first | ((with_reducible first | refine gd_t ?_ ?_ | refine gd_f ?_ ?_) <;> (intro h; have hb := h; (try simp only [nf, beq_iff_eq, bne_iff_ne, beq_eq_false_iff_ne, bne_eq_false_iff_eq] at h); simp (disch := omega) only [go_sem, hE, hH, hb]; (try clear hb))) | ((with_reducible refine And.intro ?_ ?_); · omega) | (refine jn _ ?_ ?_) | (with_reducible refine both ?_ ?_) | (with_reducible refine And.intro ?_ ?_) | (refine fin_eq ?_; (try (simp (disch := omega) only [go_sem, hE, hH])); first | done | rfl) | (simp (disch := omega) only [go_sem, hE, hH]) | ((first | apply noMLL_sE | apply pk_sE) <;> (simp only [go_sem, hE, hH]; done)) | (simp only [go_sem, hE, hH]) | fail)
  · rw [decide_eq_false (fun e => h (by rw [e]))]
  have hlen : l.length = m.length := by omega
  clear h
  refine loopN l.length (fun j (_ : Unit) => ⟨[(0, .sl false 8 (l.map (Entry.row false))), (1, .sl false 8 (m.map (Entry.row false))), (5, i64 j)], []⟩) (fun j _ => decide (l = m) = decide (l.drop j = m.drop j)) () (by simp) ?_
  intro j _ hj hI
  try simp only [go_sem, hE, hH, c_laws_eqEntryS_l1]
  first | refine gd_t (fun h => ?_) (fun h => ?_) | refine gd_f (fun h => ?_) (fun h => ?_)
  · have hb := h
    simp only [nf, beq_iff_eq, bne_iff_ne, beq_eq_false_iff_ne, bne_eq_false_iff_eq] at h
    have hlt := h; clear h
    have hlm : j < m.length := by omega
    rw [drop_eq hlt hlm] at hI
    have hs := hx _ (nth_mem hlt)
    try simp (disch := omega) only [go_sem, hE, hH, hb]
    repeat' (first | ((with_reducible first | refine gd_t ?_ ?_ | refine gd_f ?_ ?_) <;> (intro h; have hb := h; (try simp only [nf, beq_iff_eq, bne_iff_ne, beq_eq_false_iff_ne, bne_eq_false_iff_eq] at h); simp (disch := omega) only [go_sem, hE, hH, hb]; (try clear hb))) | ((with_reducible refine And.intro ?_ ?_); · omega) | ((first | refine ok_view ?_ | refine cvA (eqEntry_ok _ _ (by assumption)) ?_); simp (disch := omega) only [go_sem, hE, hH]) | (refine jn _ ?_ ?_) | (with_reducible refine both ?_ ?_) | (with_reducible refine And.intro ?_ ?_) | (refine fin_eq ?_; (try (simp (disch := omega) only [go_sem, hE, hH])); first | done | rfl) | (simp (disch := omega) only [go_sem, hE, hH]) | ((first | apply noMLL_sE | apply pk_sE) <;> (simp only [go_sem, hE, hH]; done)) | (simp only [go_sem, hE, hH]) | fail)
    · rw [hI]; simp [h]
    · exact ⟨(), rfl, by rw [hI]; simp [h]⟩
  · have hb := h
    simp only [nf, beq_iff_eq, bne_iff_ne, beq_eq_false_iff_ne, bne_eq_false_iff_eq] at h
    try simp (disch := omega) only [go_sem, hE, hH, hb]
    rw [hI, List.drop_of_length_le (by omega), List.drop_of_length_le (by omega)]
    rfl
theorem eqReplica_ok (x y : Replica) (hl : x.lim) : ACall Tryz.prog n_laws_eqReplica [.agg (Replica.row false x), .agg (Replica.row false y)] (fun r _ => r = bl (decide (x = y))) := by
  have l_Log := hl; unfold Replica.lim at l_Log
  obtain ⟨x_Up, x_Log, x_Sure⟩ := x
  obtain ⟨y_Up, y_Log, y_Sure⟩ := y
  refine fn_in h_laws_eqReplica r_laws_eqReplica ⟨by simp only [go_sem], fun E hE hH => ?_⟩; simp only [go_sem] at hE hH; simp only [go_sem, hE, hH, c_laws_eqReplica]
  repeat' (first | ((with_reducible first | refine gd_t ?_ ?_ | refine gd_f ?_ ?_) <;> (intro h; have hb := h; (try simp only [nf, beq_iff_eq, bne_iff_ne, beq_eq_false_iff_ne, bne_eq_false_iff_eq] at h); simp (disch := omega) only [go_sem, hE, hH, hb]; (try clear hb))) | ((with_reducible refine And.intro ?_ ?_); · omega) | ((first | refine ok_view ?_ | refine cvA (eqEntryS_ok _ _ (by assumption)) ?_); simp (disch := omega) only [go_sem, hE, hH]) | (refine jn _ ?_ ?_) | (with_reducible refine both ?_ ?_) | (with_reducible refine And.intro ?_ ?_) | (refine fin_eq ?_; (try (simp (disch := omega) only [go_sem, hE, hH])); first | done | rfl) | (simp (disch := omega) only [go_sem, hE, hH]) | ((first | apply noMLL_sE | apply pk_sE) <;> (simp only [go_sem, hE, hH]; done)) | (simp only [go_sem, hE, hH]) | fail)
  all_goals simp_all [Replica.mk.injEq]
theorem eqReplicaS_ok (l m : List Replica) (hl : limL (Replica.lim) l) : ACall Tryz.prog n_laws_eqReplicaS [.sl false 3 (l.map (Replica.row false)), .sl false 3 (m.map (Replica.row false))] (fun r _ => r = bl (decide (l = m))) := by
  obtain ⟨hl, hx⟩ := hl
  have hm := mx_eq
  refine fn_in h_laws_eqReplicaS r_laws_eqReplicaS ⟨by simp only [go_sem], fun E hE hH => ?_⟩; simp only [go_sem] at hE hH; simp only [go_sem, hE, hH, c_laws_eqReplicaS]
  repeat' (first | ((with_reducible first | refine gd_t ?_ ?_ | refine gd_f ?_ ?_) <;> (intro h; have hb := h; (try simp only [nf, beq_iff_eq, bne_iff_ne, beq_eq_false_iff_ne, bne_eq_false_iff_eq] at h); simp (disch := omega) only [go_sem, hE, hH, hb]; (try clear hb))) | ((with_reducible refine And.intro ?_ ?_); · omega) | (refine jn _ ?_ ?_) | (with_reducible refine both ?_ ?_) | (with_reducible refine And.intro ?_ ?_) | (refine fin_eq ?_; (try (simp (disch := omega) only [go_sem, hE, hH])); first | done | rfl) | (simp (disch := omega) only [go_sem, hE, hH]) | ((first | apply noMLL_sE | apply pk_sE) <;> (simp only [go_sem, hE, hH]; done)) | (simp only [go_sem, hE, hH]) | fail)
  · rw [decide_eq_false (fun e => h (by rw [e]))]
  have hlen : l.length = m.length := by omega
  clear h
  refine loopN l.length (fun j (_ : Unit) => ⟨[(0, .sl false 3 (l.map (Replica.row false))), (1, .sl false 3 (m.map (Replica.row false))), (5, i64 j)], []⟩) (fun j _ => decide (l = m) = decide (l.drop j = m.drop j)) () (by simp) ?_
  intro j _ hj hI
  try simp only [go_sem, hE, hH, c_laws_eqReplicaS_l1]
  first | refine gd_t (fun h => ?_) (fun h => ?_) | refine gd_f (fun h => ?_) (fun h => ?_)
  · have hb := h
    simp only [nf, beq_iff_eq, bne_iff_ne, beq_eq_false_iff_ne, bne_eq_false_iff_eq] at h
    have hlt := h; clear h
    have hlm : j < m.length := by omega
    rw [drop_eq hlt hlm] at hI
    have hs := hx _ (nth_mem hlt)
    try simp (disch := omega) only [go_sem, hE, hH, hb]
    repeat' (first | ((with_reducible first | refine gd_t ?_ ?_ | refine gd_f ?_ ?_) <;> (intro h; have hb := h; (try simp only [nf, beq_iff_eq, bne_iff_ne, beq_eq_false_iff_ne, bne_eq_false_iff_eq] at h); simp (disch := omega) only [go_sem, hE, hH, hb]; (try clear hb))) | ((with_reducible refine And.intro ?_ ?_); · omega) | ((first | refine ok_view ?_ | refine cvA (eqReplica_ok _ _ (by assumption)) ?_); simp (disch := omega) only [go_sem, hE, hH]) | (refine jn _ ?_ ?_) | (with_reducible refine both ?_ ?_) | (with_reducible refine And.intro ?_ ?_) | (refine fin_eq ?_; (try (simp (disch := omega) only [go_sem, hE, hH])); first | done | rfl) | (simp (disch := omega) only [go_sem, hE, hH]) | ((first | apply noMLL_sE | apply pk_sE) <;> (simp only [go_sem, hE, hH]; done)) | (simp only [go_sem, hE, hH]) | fail)
    · rw [hI]; simp [h]
    · exact ⟨(), rfl, by rw [hI]; simp [h]⟩
  · have hb := h
    simp only [nf, beq_iff_eq, bne_iff_ne, beq_eq_false_iff_ne, bne_eq_false_iff_eq] at h
    try simp (disch := omega) only [go_sem, hE, hH, hb]
    rw [hI, List.drop_of_length_le (by omega), List.drop_of_length_le (by omega)]
    rfl
theorem eqGroup_ok (x y : Group) (hl : x.lim) : ACall Tryz.prog n_laws_eqGroup [.agg (Group.row false x), .agg (Group.row false y)] (fun r _ => r = bl (decide (x = y))) := by
  have l_Reps := hl; unfold Group.lim at l_Reps
  obtain ⟨x_Reps, x_Term, x_Lead⟩ := x
  obtain ⟨y_Reps, y_Term, y_Lead⟩ := y
  refine fn_in h_laws_eqGroup r_laws_eqGroup ⟨by simp only [go_sem], fun E hE hH => ?_⟩; simp only [go_sem] at hE hH; simp only [go_sem, hE, hH, c_laws_eqGroup]
  repeat' (first | ((with_reducible first | refine gd_t ?_ ?_ | refine gd_f ?_ ?_) <;> (intro h; have hb := h; (try simp only [nf, beq_iff_eq, bne_iff_ne, beq_eq_false_iff_ne, bne_eq_false_iff_eq] at h); simp (disch := omega) only [go_sem, hE, hH, hb]; (try clear hb))) | ((with_reducible refine And.intro ?_ ?_); · omega) | ((first | refine ok_view ?_ | refine cvA (eqReplicaS_ok _ _ (by assumption)) ?_); simp (disch := omega) only [go_sem, hE, hH]) | (refine jn _ ?_ ?_) | (with_reducible refine both ?_ ?_) | (with_reducible refine And.intro ?_ ?_) | (refine fin_eq ?_; (try (simp (disch := omega) only [go_sem, hE, hH])); first | done | rfl) | (simp (disch := omega) only [go_sem, hE, hH]) | ((first | apply noMLL_sE | apply pk_sE) <;> (simp only [go_sem, hE, hH]; done)) | (simp only [go_sem, hE, hH]) | fail)
  all_goals simp_all [Group.mk.injEq]
theorem eqGroupS_ok (l m : List Group) (hl : limL (Group.lim) l) : ACall Tryz.prog n_laws_eqGroupS [.sl false 3 (l.map (Group.row false)), .sl false 3 (m.map (Group.row false))] (fun r _ => r = bl (decide (l = m))) := by
  obtain ⟨hl, hx⟩ := hl
  have hm := mx_eq
  refine fn_in h_laws_eqGroupS r_laws_eqGroupS ⟨by simp only [go_sem], fun E hE hH => ?_⟩; simp only [go_sem] at hE hH; simp only [go_sem, hE, hH, c_laws_eqGroupS]
  repeat' (first | ((with_reducible first | refine gd_t ?_ ?_ | refine gd_f ?_ ?_) <;> (intro h; have hb := h; (try simp only [nf, beq_iff_eq, bne_iff_ne, beq_eq_false_iff_ne, bne_eq_false_iff_eq] at h); simp (disch := omega) only [go_sem, hE, hH, hb]; (try clear hb))) | ((with_reducible refine And.intro ?_ ?_); · omega) | (refine jn _ ?_ ?_) | (with_reducible refine both ?_ ?_) | (with_reducible refine And.intro ?_ ?_) | (refine fin_eq ?_; (try (simp (disch := omega) only [go_sem, hE, hH])); first | done | rfl) | (simp (disch := omega) only [go_sem, hE, hH]) | ((first | apply noMLL_sE | apply pk_sE) <;> (simp only [go_sem, hE, hH]; done)) | (simp only [go_sem, hE, hH]) | fail)
  · rw [decide_eq_false (fun e => h (by rw [e]))]
  have hlen : l.length = m.length := by omega
  clear h
  refine loopN l.length (fun j (_ : Unit) => ⟨[(0, .sl false 3 (l.map (Group.row false))), (1, .sl false 3 (m.map (Group.row false))), (5, i64 j)], []⟩) (fun j _ => decide (l = m) = decide (l.drop j = m.drop j)) () (by simp) ?_
  intro j _ hj hI
  try simp only [go_sem, hE, hH, c_laws_eqGroupS_l1]
  first | refine gd_t (fun h => ?_) (fun h => ?_) | refine gd_f (fun h => ?_) (fun h => ?_)
  · have hb := h
    simp only [nf, beq_iff_eq, bne_iff_ne, beq_eq_false_iff_ne, bne_eq_false_iff_eq] at h
    have hlt := h; clear h
    have hlm : j < m.length := by omega
    rw [drop_eq hlt hlm] at hI
    have hs := hx _ (nth_mem hlt)
    try simp (disch := omega) only [go_sem, hE, hH, hb]
    repeat' (first | ((with_reducible first | refine gd_t ?_ ?_ | refine gd_f ?_ ?_) <;> (intro h; have hb := h; (try simp only [nf, beq_iff_eq, bne_iff_ne, beq_eq_false_iff_ne, bne_eq_false_iff_eq] at h); simp (disch := omega) only [go_sem, hE, hH, hb]; (try clear hb))) | ((with_reducible refine And.intro ?_ ?_); · omega) | ((first | refine ok_view ?_ | refine cvA (eqGroup_ok _ _ (by assumption)) ?_); simp (disch := omega) only [go_sem, hE, hH]) | (refine jn _ ?_ ?_) | (with_reducible refine both ?_ ?_) | (with_reducible refine And.intro ?_ ?_) | (refine fin_eq ?_; (try (simp (disch := omega) only [go_sem, hE, hH])); first | done | rfl) | (simp (disch := omega) only [go_sem, hE, hH]) | ((first | apply noMLL_sE | apply pk_sE) <;> (simp only [go_sem, hE, hH]; done)) | (simp only [go_sem, hE, hH]) | fail)
    · rw [hI]; simp [h]
    · exact ⟨(), rfl, by rw [hI]; simp [h]⟩
  · have hb := h
    simp only [nf, beq_iff_eq, bne_iff_ne, beq_eq_false_iff_ne, bne_eq_false_iff_eq] at h
    try simp (disch := omega) only [go_sem, hE, hH, hb]
    rw [hI, List.drop_of_length_le (by omega), List.drop_of_length_le (by omega)]
    rfl
theorem eqWorld_ok (x y : World) (hl : x.lim) : ACall Tryz.prog n_laws_eqWorld [.agg (World.row false x), .agg (World.row false y)] (fun r _ => r = bl (decide (x = y))) := by
  obtain ⟨l_Clocks, l_Cuts, l_Groups, l_Locks, l_Promised, l_Txns, l_Looks⟩ := hl
  obtain ⟨x_Now, x_Count, x_Clocks, x_Cuts, x_Groups, x_Locks, x_Promised, x_Txns, x_Looks⟩ := x
  obtain ⟨y_Now, y_Count, y_Clocks, y_Cuts, y_Groups, y_Locks, y_Promised, y_Txns, y_Looks⟩ := y
  refine fn_in h_laws_eqWorld r_laws_eqWorld ⟨by simp only [go_sem], fun E hE hH => ?_⟩; simp only [go_sem] at hE hH; simp only [go_sem, hE, hH, c_laws_eqWorld]
  repeat' (first | ((with_reducible first | refine gd_t ?_ ?_ | refine gd_f ?_ ?_) <;> (intro h; have hb := h; (try simp only [nf, beq_iff_eq, bne_iff_ne, beq_eq_false_iff_ne, bne_eq_false_iff_eq] at h); simp (disch := omega) only [go_sem, hE, hH, hb]; (try clear hb))) | ((with_reducible refine And.intro ?_ ?_); · omega) | ((first | refine ok_view ?_ | refine cvA (eqClockS_ok _ _ (by assumption)) ?_ | refine cvA (eqStringS_ok _ _ (by assumption)) ?_ | refine cvA (eqGroupS_ok _ _ (by assumption)) ?_ | refine cvA (eqLockSS_ok _ _ (by assumption)) ?_ | refine cvA (eqIntS_ok _ _ (by assumption)) ?_ | refine cvA (eqWorldTxnS_ok _ _ (by assumption)) ?_ | refine cvA (eqWorldLookS_ok _ _ (by assumption)) ?_); simp (disch := omega) only [go_sem, hE, hH]) | (refine jn _ ?_ ?_) | (with_reducible refine both ?_ ?_) | (with_reducible refine And.intro ?_ ?_) | (refine fin_eq ?_; (try (simp (disch := omega) only [go_sem, hE, hH])); first | done | rfl) | (simp (disch := omega) only [go_sem, hE, hH]) | ((first | apply noMLL_sE | apply pk_sE) <;> (simp only [go_sem, hE, hH]; done)) | (simp only [go_sem, hE, hH]) | fail)
  all_goals simp_all [World.mk.injEq]
end Go.Proofs.Wb

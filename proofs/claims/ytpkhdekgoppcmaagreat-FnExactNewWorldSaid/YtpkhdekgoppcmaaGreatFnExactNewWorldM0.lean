import Derived.Test.YtpkhdekgoppcmaaGreatFnExactNewWorldTy
import Derived.Laws.Externs
set_option linter.all false
set_option maxHeartbeats 4000000
namespace Go.Proofs.Wb
open Tryz renaming prog → p_
open Go Go.Am
attribute [go_sem] isByteRow
def dg (k : Int) : ByteArray := bytesOf [[.v (.int .u8 (IntKind.u8.wrap (48 + k % 10)))]]
theorem dg_size (k : Int) : (dg k).size = 1 := rfl
def digW (k : Int) (out : ByteArray) : ByteArray := if 0 < k then digW (k / 10) (dg k ++ out) else out
termination_by k.toNat
decreasing_by omega
def mkText (k : Int) : ByteArray := if k ≤ 0 then ⟨⟨[109, 48]⟩⟩ else ⟨⟨[109]⟩⟩ ++ digW k ⟨⟨[]⟩⟩
theorem markText_ok (k : Int) (h1 : k ≤ 2 ^ 62) : ACall p_ 48 [i64 k] (fun r _ => r = str (mkText k)) := by
 refine fg H48 fun E hE hH => ?_; simp only [go_sem, hE, hH, C48]
 first | refine gd_t (fun h => ?_) (fun h => ?_) | refine gd_f (fun h => ?_) (fun h => ?_)
 ·try simp (disch := omega) only [go_sem, hE, hH, h]
  simp only [nf] at h
  simp [mkText, h]
 try simp (disch := omega) only [go_sem, hE, hH, h]
 simp only [nf] at h
 refine loopM (fun (x : Int × ByteArray) => ⟨[(0, i64 x.1), (3, str x.2)], []⟩) (fun x => 0 ≤ x.1 ∧ x.2.size + x.1 ≤ k ∧ digW x.1 x.2 = digW k ⟨⟨[]⟩⟩) (fun x => x.1.toNat) (k, ⟨⟨[]⟩⟩) ⟨by omega, by change ((0 : Nat) : Int) + k ≤ k; omega, rfl⟩ ?_
 rintro ⟨n, out⟩ ⟨i0, i1, i2⟩
 simp only at i0 i1 i2
 try simp only [go_sem, hE, hH, C48_l1]
 first | refine gd_t (fun hb => ?_) (fun hb => ?_) | refine gd_f (fun hb => ?_) (fun hb => ?_)
 ·have hb2 := hb
  simp only [nf] at hb
  have e1 : n.tmod 10 = n % 10 := Int.tmod_eq_emod_of_nonneg i0
  have e2 : n.tdiv 10 = n / 10 := Int.tdiv_eq_ediv_of_nonneg i0
  have e3 : (bytesOf [[.v (.int .u8 (IntKind.u8.wrap (48 + n % 10)))]]) = dg n := rfl
  try simp (disch := omega) only [go_sem, hE, hH, hb2, e1, e2, e3, dg_size]
  refine ⟨by omega, by omega, by omega, ⟨n / 10, dg n ++ out⟩, rfl, ⟨by simp only; omega, ?_, ?_⟩, by simp only; omega⟩
  ·rw [ByteArray.size_append, dg_size]; simp only; omega
  ·rw [← i2, digW.eq_1 n out, if_pos (by omega)]
 ·have hb2 := hb
  simp only [nf] at hb
  have e0 : n = 0 := by omega
  subst e0
  rw [digW, if_neg (by omega)] at i2
  try simp (disch := omega) only [go_sem, hE, hH, hb2]
  rw [mkText, if_neg (by omega), ← i2]
  have e9 : (⟨⟨[109]⟩⟩ : ByteArray).size = 1 := rfl
  exact ⟨by rw [e9]; omega, rfl⟩
def mkS (_ : ByteArray) (k : Int) : ByteArray × Int := (mkText k, k + 1)
def Clock.mk2 (x : Clock) (k : Int) : Clock × Int := (⟨k⟩, (k + 1))
def Clock.cnt (x : Clock) : Nat := 1
theorem Clock.mk2_cnt (x : Clock) (k : Int) : (x.mk2 k).2 = k + (x.cnt : Nat) := by
 simp only [Clock.mk2, Clock.cnt]
 try omega
theorem Clock.cnt_le (x : Clock) : x.cnt ≤ 1 := by
 simp only [Clock.cnt]
 try omega
def Got.mk2 (x : Got) (k : Int) : Got × Int := (⟨mkText k, mkText (k + 1), decide ((((k + 1) + 1)).tmod 3 = 0)⟩, (((k + 1) + 1) + 1))
def Got.cnt (x : Got) : Nat := 1 + 1 + 1
theorem Got.mk2_cnt (x : Got) (k : Int) : (x.mk2 k).2 = k + (x.cnt : Nat) := by
 simp only [Got.mk2, Got.cnt]
 try omega
theorem Got.cnt_le (x : Got) : x.cnt ≤ 3 * (x.sz + 1) := by
 simp only [Got.cnt, Got.sz]
 try omega
def Lock.mk2 (x : Lock) (k : Int) : Lock × Int := (⟨mkText k, (k + 1), decide ((((k + 1) + 1)).tmod 3 = 0)⟩, (((k + 1) + 1) + 1))
def Lock.cnt (x : Lock) : Nat := 1 + 1 + 1
theorem Lock.mk2_cnt (x : Lock) (k : Int) : (x.mk2 k).2 = k + (x.cnt : Nat) := by
 simp only [Lock.mk2, Lock.cnt]
 try omega
theorem Lock.cnt_le (x : Lock) : x.cnt ≤ 3 * (x.sz + 1) := by
 simp only [Lock.cnt, Lock.sz]
 try omega
def Op.mk2 (x : Op) (k : Int) : Op × Int := (⟨k, mkText (k + 1), mkText ((k + 1) + 1), (((k + 1) + 1) + 1)⟩, ((((k + 1) + 1) + 1) + 1))
def Op.cnt (x : Op) : Nat := 1 + 1 + 1 + 1
theorem Op.mk2_cnt (x : Op) (k : Int) : (x.mk2 k).2 = k + (x.cnt : Nat) := by
 simp only [Op.mk2, Op.cnt]
 try omega
theorem Op.cnt_le (x : Op) : x.cnt ≤ 4 * (x.sz + 1) := by
 simp only [Op.cnt, Op.sz]
 try omega
def Write.mk2 (x : Write) (k : Int) : Write × Int := (⟨mkText k, mkText (k + 1), decide ((((k + 1) + 1)).tmod 3 = 0)⟩, (((k + 1) + 1) + 1))
def Write.cnt (x : Write) : Nat := 1 + 1 + 1
theorem Write.mk2_cnt (x : Write) (k : Int) : (x.mk2 k).2 = k + (x.cnt : Nat) := by
 simp only [Write.mk2, Write.cnt]
 try omega
theorem Write.cnt_le (x : Write) : x.cnt ≤ 3 * (x.sz + 1) := by
 simp only [Write.cnt, Write.sz]
 try omega
def WorldLook.mk2 (x : WorldLook) (k : Int) : WorldLook × Int := (⟨k, (mkL (mkS) x.Keys (k + 1)).1, (mkL (Got.mk2) x.Got (mkL (mkS) x.Keys (k + 1)).2).1, (mkL (Got.mk2) x.Got (mkL (mkS) x.Keys (k + 1)).2).2, ((mkL (Got.mk2) x.Got (mkL (mkS) x.Keys (k + 1)).2).2 + 1), (((mkL (Got.mk2) x.Got (mkL (mkS) x.Keys (k + 1)).2).2 + 1) + 1)⟩, ((((mkL (Got.mk2) x.Got (mkL (mkS) x.Keys (k + 1)).2).2 + 1) + 1) + 1))
def WorldLook.cnt (x : WorldLook) : Nat := 1 + cntL (fun _ => 1) x.Keys + cntL (Got.cnt) x.Got + 1 + 1 + 1
theorem WorldLook.mk2_cnt (x : WorldLook) (k : Int) : (x.mk2 k).2 = k + (x.cnt : Nat) := by
 simp only [WorldLook.mk2, WorldLook.cnt, mkN_cnt (f := mkS) (c := fun _ => 1) (fun _ _ => rfl), mkN_cnt (f := Got.mk2) (c := Got.cnt) (Got.mk2_cnt)]
 try omega
theorem WorldLook.cnt_le (x : WorldLook) : x.cnt ≤ 8 * (x.sz + 1) := by
 have c_Keys := cntL_le (c := fun _ => 1) (s := ByteArray.size) (A := 1) (fun x => by omega) (l := x.Keys)
 have c_Got := cntL_le (c := Got.cnt) (s := Got.sz) (A := 3) Got.cnt_le (l := x.Got)
 simp only [WorldLook.cnt, WorldLook.sz]
 try omega
def WorldLook.mkv (x : WorldLook) (k : Int) : WorldLook × Int := (⟨x.Node, (mkL (mkS) x.Keys k).1, (mkL (Got.mk2) x.Got (mkL (mkS) x.Keys k).2).1, x.Time, x.Begin, x.End⟩, (mkL (Got.mk2) x.Got (mkL (mkS) x.Keys k).2).2)
def WorldLook.cntv (x : WorldLook) : Nat := cntL (fun _ => 1) x.Keys + cntL (Got.cnt) x.Got
theorem WorldLook.mkv_cnt (x : WorldLook) (k : Int) : (x.mkv k).2 = k + (x.cntv : Nat) := by
 simp only [WorldLook.mkv, WorldLook.cntv, mkN_cnt (f := mkS) (c := fun _ => 1) (fun _ _ => rfl), mkN_cnt (f := Got.mk2) (c := Got.cnt) (Got.mk2_cnt)]
 try omega
theorem WorldLook.cntv_le (x : WorldLook) : x.cntv ≤ 8 * (x.sz + 1) := by
 have c_Keys := cntL_le (c := fun _ => 1) (s := ByteArray.size) (A := 1) (fun x => by omega) (l := x.Keys)
 have c_Got := cntL_le (c := Got.cnt) (s := Got.sz) (A := 3) Got.cnt_le (l := x.Got)
 simp only [WorldLook.cntv, WorldLook.sz]
 try omega
@[go_sem] theorem WorldLook.mkv_at_Node (x : WorldLook) (k : Int) : (x.mkv k).1.Node = x.Node := rfl
@[go_sem] theorem WorldLook.mkv_len_Keys (x : WorldLook) (k : Int) : (x.mkv k).1.Keys.length = x.Keys.length := mkL_len
@[go_sem] theorem WorldLook.mkv_take_Keys (x : WorldLook) (k : Int) : (x.mkv k).1.Keys.take x.Keys.length = (x.mkv k).1.Keys := mkL_take
@[go_sem] theorem WorldLook.mkv_len_Got (x : WorldLook) (k : Int) : (x.mkv k).1.Got.length = x.Got.length := mkL_len
@[go_sem] theorem WorldLook.mkv_take_Got (x : WorldLook) (k : Int) : (x.mkv k).1.Got.take x.Got.length = (x.mkv k).1.Got := mkL_take
@[go_sem] theorem WorldLook.mkv_at_Time (x : WorldLook) (k : Int) : (x.mkv k).1.Time = x.Time := rfl
@[go_sem] theorem WorldLook.mkv_at_Begin (x : WorldLook) (k : Int) : (x.mkv k).1.Begin = x.Begin := rfl
@[go_sem] theorem WorldLook.mkv_at_End (x : WorldLook) (k : Int) : (x.mkv k).1.End = x.End := rfl
def WorldTxn.mk2 (x : WorldTxn) (k : Int) : WorldTxn × Int := (⟨(mkL (Op.mk2) x.Ops k).1, (mkL (Got.mk2) x.Got (mkL (Op.mk2) x.Ops k).2).1, (mkL (mkI) x.Terms (mkL (Got.mk2) x.Got (mkL (Op.mk2) x.Ops k).2).2).1, (mkL (mkI) x.Terms (mkL (Got.mk2) x.Got (mkL (Op.mk2) x.Ops k).2).2).2, ((mkL (mkI) x.Terms (mkL (Got.mk2) x.Got (mkL (Op.mk2) x.Ops k).2).2).2 + 1), decide (((((mkL (mkI) x.Terms (mkL (Got.mk2) x.Got (mkL (Op.mk2) x.Ops k).2).2).2 + 1) + 1)).tmod 3 = 0), ((((mkL (mkI) x.Terms (mkL (Got.mk2) x.Got (mkL (Op.mk2) x.Ops k).2).2).2 + 1) + 1) + 1), decide (((((((mkL (mkI) x.Terms (mkL (Got.mk2) x.Got (mkL (Op.mk2) x.Ops k).2).2).2 + 1) + 1) + 1) + 1)).tmod 3 = 0), decide ((((((((mkL (mkI) x.Terms (mkL (Got.mk2) x.Got (mkL (Op.mk2) x.Ops k).2).2).2 + 1) + 1) + 1) + 1) + 1)).tmod 3 = 0), decide (((((((((mkL (mkI) x.Terms (mkL (Got.mk2) x.Got (mkL (Op.mk2) x.Ops k).2).2).2 + 1) + 1) + 1) + 1) + 1) + 1)).tmod 3 = 0)⟩, ((((((((mkL (mkI) x.Terms (mkL (Got.mk2) x.Got (mkL (Op.mk2) x.Ops k).2).2).2 + 1) + 1) + 1) + 1) + 1) + 1) + 1))
def WorldTxn.cnt (x : WorldTxn) : Nat := cntL (Op.cnt) x.Ops + cntL (Got.cnt) x.Got + cntL (fun _ => 1) x.Terms + 1 + 1 + 1 + 1 + 1 + 1 + 1
theorem WorldTxn.mk2_cnt (x : WorldTxn) (k : Int) : (x.mk2 k).2 = k + (x.cnt : Nat) := by
 simp only [WorldTxn.mk2, WorldTxn.cnt, mkN_cnt (f := Op.mk2) (c := Op.cnt) (Op.mk2_cnt), mkN_cnt (f := Got.mk2) (c := Got.cnt) (Got.mk2_cnt), mkN_cnt (f := mkI) (c := fun _ => 1) (fun _ _ => rfl)]
 try omega
theorem WorldTxn.cnt_le (x : WorldTxn) : x.cnt ≤ 15 * (x.sz + 1) := by
 have c_Ops := cntL_le (c := Op.cnt) (s := Op.sz) (A := 4) Op.cnt_le (l := x.Ops)
 have c_Got := cntL_le (c := Got.cnt) (s := Got.sz) (A := 3) Got.cnt_le (l := x.Got)
 have c_Terms := cntL_le1 (c := fun _ => 1) (A := 1) (fun x => by simp) (l := x.Terms)
 simp only [WorldTxn.cnt, WorldTxn.sz]
 try omega
def WorldTxn.mkv (x : WorldTxn) (k : Int) : WorldTxn × Int := (⟨(mkL (Op.mk2) x.Ops k).1, (mkL (Got.mk2) x.Got (mkL (Op.mk2) x.Ops k).2).1, (mkL (mkI) x.Terms (mkL (Got.mk2) x.Got (mkL (Op.mk2) x.Ops k).2).2).1, x.Begin, x.End, x.Yes, x.Time, x.Dead, x.Put, x.Stopped⟩, (mkL (mkI) x.Terms (mkL (Got.mk2) x.Got (mkL (Op.mk2) x.Ops k).2).2).2)
def WorldTxn.cntv (x : WorldTxn) : Nat := cntL (Op.cnt) x.Ops + cntL (Got.cnt) x.Got + cntL (fun _ => 1) x.Terms
theorem WorldTxn.mkv_cnt (x : WorldTxn) (k : Int) : (x.mkv k).2 = k + (x.cntv : Nat) := by
 simp only [WorldTxn.mkv, WorldTxn.cntv, mkN_cnt (f := Op.mk2) (c := Op.cnt) (Op.mk2_cnt), mkN_cnt (f := Got.mk2) (c := Got.cnt) (Got.mk2_cnt), mkN_cnt (f := mkI) (c := fun _ => 1) (fun _ _ => rfl)]
 try omega
theorem WorldTxn.cntv_le (x : WorldTxn) : x.cntv ≤ 15 * (x.sz + 1) := by
 have c_Ops := cntL_le (c := Op.cnt) (s := Op.sz) (A := 4) Op.cnt_le (l := x.Ops)
 have c_Got := cntL_le (c := Got.cnt) (s := Got.sz) (A := 3) Got.cnt_le (l := x.Got)
 have c_Terms := cntL_le1 (c := fun _ => 1) (A := 1) (fun x => by simp) (l := x.Terms)
 simp only [WorldTxn.cntv, WorldTxn.sz]
 try omega
@[go_sem] theorem WorldTxn.mkv_len_Ops (x : WorldTxn) (k : Int) : (x.mkv k).1.Ops.length = x.Ops.length := mkL_len
@[go_sem] theorem WorldTxn.mkv_take_Ops (x : WorldTxn) (k : Int) : (x.mkv k).1.Ops.take x.Ops.length = (x.mkv k).1.Ops := mkL_take
@[go_sem] theorem WorldTxn.mkv_len_Got (x : WorldTxn) (k : Int) : (x.mkv k).1.Got.length = x.Got.length := mkL_len
@[go_sem] theorem WorldTxn.mkv_take_Got (x : WorldTxn) (k : Int) : (x.mkv k).1.Got.take x.Got.length = (x.mkv k).1.Got := mkL_take
@[go_sem] theorem WorldTxn.mkv_len_Terms (x : WorldTxn) (k : Int) : (x.mkv k).1.Terms.length = x.Terms.length := mkL_len
@[go_sem] theorem WorldTxn.mkv_take_Terms (x : WorldTxn) (k : Int) : (x.mkv k).1.Terms.take x.Terms.length = (x.mkv k).1.Terms := mkL_take
@[go_sem] theorem WorldTxn.mkv_at_Begin (x : WorldTxn) (k : Int) : (x.mkv k).1.Begin = x.Begin := rfl
@[go_sem] theorem WorldTxn.mkv_at_End (x : WorldTxn) (k : Int) : (x.mkv k).1.End = x.End := rfl
@[go_sem] theorem WorldTxn.mkv_at_Yes (x : WorldTxn) (k : Int) : (x.mkv k).1.Yes = x.Yes := rfl
@[go_sem] theorem WorldTxn.mkv_at_Time (x : WorldTxn) (k : Int) : (x.mkv k).1.Time = x.Time := rfl
@[go_sem] theorem WorldTxn.mkv_at_Dead (x : WorldTxn) (k : Int) : (x.mkv k).1.Dead = x.Dead := rfl
@[go_sem] theorem WorldTxn.mkv_at_Put (x : WorldTxn) (k : Int) : (x.mkv k).1.Put = x.Put := rfl
@[go_sem] theorem WorldTxn.mkv_at_Stopped (x : WorldTxn) (k : Int) : (x.mkv k).1.Stopped = x.Stopped := rfl
def Rec.mk2 (x : Rec) (k : Int) : Rec × Int := (⟨k, (k + 1), ((k + 1) + 1), (((k + 1) + 1) + 1), (mkL (mkS) x.Reads ((((k + 1) + 1) + 1) + 1)).1, (mkL (Write.mk2) x.Writes (mkL (mkS) x.Reads ((((k + 1) + 1) + 1) + 1)).2).1, decide (((mkL (Write.mk2) x.Writes (mkL (mkS) x.Reads ((((k + 1) + 1) + 1) + 1)).2).2).tmod 3 = 0)⟩, ((mkL (Write.mk2) x.Writes (mkL (mkS) x.Reads ((((k + 1) + 1) + 1) + 1)).2).2 + 1))
def Rec.cnt (x : Rec) : Nat := 1 + 1 + 1 + 1 + cntL (fun _ => 1) x.Reads + cntL (Write.cnt) x.Writes + 1
theorem Rec.mk2_cnt (x : Rec) (k : Int) : (x.mk2 k).2 = k + (x.cnt : Nat) := by
 simp only [Rec.mk2, Rec.cnt, mkN_cnt (f := mkS) (c := fun _ => 1) (fun _ _ => rfl), mkN_cnt (f := Write.mk2) (c := Write.cnt) (Write.mk2_cnt)]
 try omega
theorem Rec.cnt_le (x : Rec) : x.cnt ≤ 9 * (x.sz + 1) := by
 have c_Reads := cntL_le (c := fun _ => 1) (s := ByteArray.size) (A := 1) (fun x => by omega) (l := x.Reads)
 have c_Writes := cntL_le (c := Write.cnt) (s := Write.sz) (A := 3) Write.cnt_le (l := x.Writes)
 simp only [Rec.cnt, Rec.sz]
 try omega
def Rec.mkv (x : Rec) (k : Int) : Rec × Int := (⟨x.Kind, x.Txn, x.Time, x.Lead, (mkL (mkS) x.Reads k).1, (mkL (Write.mk2) x.Writes (mkL (mkS) x.Reads k).2).1, x.Yes⟩, (mkL (Write.mk2) x.Writes (mkL (mkS) x.Reads k).2).2)
def Rec.cntv (x : Rec) : Nat := cntL (fun _ => 1) x.Reads + cntL (Write.cnt) x.Writes
theorem Rec.mkv_cnt (x : Rec) (k : Int) : (x.mkv k).2 = k + (x.cntv : Nat) := by
 simp only [Rec.mkv, Rec.cntv, mkN_cnt (f := mkS) (c := fun _ => 1) (fun _ _ => rfl), mkN_cnt (f := Write.mk2) (c := Write.cnt) (Write.mk2_cnt)]
 try omega
theorem Rec.cntv_le (x : Rec) : x.cntv ≤ 9 * (x.sz + 1) := by
 have c_Reads := cntL_le (c := fun _ => 1) (s := ByteArray.size) (A := 1) (fun x => by omega) (l := x.Reads)
 have c_Writes := cntL_le (c := Write.cnt) (s := Write.sz) (A := 3) Write.cnt_le (l := x.Writes)
 simp only [Rec.cntv, Rec.sz]
 try omega
@[go_sem] theorem Rec.mkv_at_Kind (x : Rec) (k : Int) : (x.mkv k).1.Kind = x.Kind := rfl
@[go_sem] theorem Rec.mkv_at_Txn (x : Rec) (k : Int) : (x.mkv k).1.Txn = x.Txn := rfl
@[go_sem] theorem Rec.mkv_at_Time (x : Rec) (k : Int) : (x.mkv k).1.Time = x.Time := rfl
@[go_sem] theorem Rec.mkv_at_Lead (x : Rec) (k : Int) : (x.mkv k).1.Lead = x.Lead := rfl
@[go_sem] theorem Rec.mkv_len_Reads (x : Rec) (k : Int) : (x.mkv k).1.Reads.length = x.Reads.length := mkL_len
@[go_sem] theorem Rec.mkv_take_Reads (x : Rec) (k : Int) : (x.mkv k).1.Reads.take x.Reads.length = (x.mkv k).1.Reads := mkL_take
@[go_sem] theorem Rec.mkv_len_Writes (x : Rec) (k : Int) : (x.mkv k).1.Writes.length = x.Writes.length := mkL_len
@[go_sem] theorem Rec.mkv_take_Writes (x : Rec) (k : Int) : (x.mkv k).1.Writes.take x.Writes.length = (x.mkv k).1.Writes := mkL_take
@[go_sem] theorem Rec.mkv_at_Yes (x : Rec) (k : Int) : (x.mkv k).1.Yes = x.Yes := rfl
def Entry.mk2 (x : Entry) (k : Int) : Entry × Int := (⟨k, (Rec.mk2 x.Rec (k + 1)).1⟩, (Rec.mk2 x.Rec (k + 1)).2)
def Entry.cnt (x : Entry) : Nat := 1 + x.Rec.cnt
theorem Entry.mk2_cnt (x : Entry) (k : Int) : (x.mk2 k).2 = k + (x.cnt : Nat) := by
 simp only [Entry.mk2, Entry.cnt, Rec.mk2_cnt]
 try omega
theorem Entry.cnt_le (x : Entry) : x.cnt ≤ 10 * (x.sz + 1) := by
 have c_Rec := Rec.cnt_le x.Rec
 simp only [Entry.cnt, Entry.sz]
 try omega
def Entry.mkv (x : Entry) (k : Int) : Entry × Int := (⟨x.Term, (Rec.mkv x.Rec k).1⟩, (Rec.mkv x.Rec k).2)
def Entry.cntv (x : Entry) : Nat := x.Rec.cntv
theorem Entry.mkv_cnt (x : Entry) (k : Int) : (x.mkv k).2 = k + (x.cntv : Nat) := by
 simp only [Entry.mkv, Entry.cntv, Rec.mkv_cnt]
 try omega
theorem Entry.cntv_le (x : Entry) : x.cntv ≤ 10 * (x.sz + 1) := by
 have c_Rec := Rec.cntv_le x.Rec
 simp only [Entry.cntv, Entry.sz]
 try omega
@[go_sem] theorem Entry.mkv_at_Term (x : Entry) (k : Int) : (x.mkv k).1.Term = x.Term := rfl
@[go_sem] theorem Entry.mkv_at_Rec (x : Entry) (k : Int) : (x.mkv k).1.Rec = (x.Rec.mkv k).1 := rfl
def Replica.mk2 (x : Replica) (k : Int) : Replica × Int := (⟨decide ((k).tmod 3 = 0), (mkL (Entry.mk2) x.Log (k + 1)).1, (mkL (Entry.mk2) x.Log (k + 1)).2⟩, ((mkL (Entry.mk2) x.Log (k + 1)).2 + 1))
def Replica.cnt (x : Replica) : Nat := 1 + cntL (Entry.cnt) x.Log + 1
theorem Replica.mk2_cnt (x : Replica) (k : Int) : (x.mk2 k).2 = k + (x.cnt : Nat) := by
 simp only [Replica.mk2, Replica.cnt, mkN_cnt (f := Entry.mk2) (c := Entry.cnt) (Entry.mk2_cnt)]
 try omega
theorem Replica.cnt_le (x : Replica) : x.cnt ≤ 12 * (x.sz + 1) := by
 have c_Log := cntL_le (c := Entry.cnt) (s := Entry.sz) (A := 10) Entry.cnt_le (l := x.Log)
 simp only [Replica.cnt, Replica.sz]
 try omega
def Replica.mkv (x : Replica) (k : Int) : Replica × Int := (⟨x.Up, (mkL (Entry.mk2) x.Log k).1, x.Sure⟩, (mkL (Entry.mk2) x.Log k).2)
def Replica.cntv (x : Replica) : Nat := cntL (Entry.cnt) x.Log
theorem Replica.mkv_cnt (x : Replica) (k : Int) : (x.mkv k).2 = k + (x.cntv : Nat) := by
 simp only [Replica.mkv, Replica.cntv, mkN_cnt (f := Entry.mk2) (c := Entry.cnt) (Entry.mk2_cnt)]
 try omega
theorem Replica.cntv_le (x : Replica) : x.cntv ≤ 12 * (x.sz + 1) := by
 have c_Log := cntL_le (c := Entry.cnt) (s := Entry.sz) (A := 10) Entry.cnt_le (l := x.Log)
 simp only [Replica.cntv, Replica.sz]
 try omega
@[go_sem] theorem Replica.mkv_at_Up (x : Replica) (k : Int) : (x.mkv k).1.Up = x.Up := rfl
@[go_sem] theorem Replica.mkv_len_Log (x : Replica) (k : Int) : (x.mkv k).1.Log.length = x.Log.length := mkL_len
@[go_sem] theorem Replica.mkv_take_Log (x : Replica) (k : Int) : (x.mkv k).1.Log.take x.Log.length = (x.mkv k).1.Log := mkL_take
@[go_sem] theorem Replica.mkv_at_Sure (x : Replica) (k : Int) : (x.mkv k).1.Sure = x.Sure := rfl
def Group.mk2 (x : Group) (k : Int) : Group × Int := (⟨(mkL (Replica.mk2) x.Reps k).1, (mkL (Replica.mk2) x.Reps k).2, ((mkL (Replica.mk2) x.Reps k).2 + 1)⟩, (((mkL (Replica.mk2) x.Reps k).2 + 1) + 1))
def Group.cnt (x : Group) : Nat := cntL (Replica.cnt) x.Reps + 1 + 1
theorem Group.mk2_cnt (x : Group) (k : Int) : (x.mk2 k).2 = k + (x.cnt : Nat) := by
 simp only [Group.mk2, Group.cnt, mkN_cnt (f := Replica.mk2) (c := Replica.cnt) (Replica.mk2_cnt)]
 try omega
theorem Group.cnt_le (x : Group) : x.cnt ≤ 14 * (x.sz + 1) := by
 have c_Reps := cntL_le (c := Replica.cnt) (s := Replica.sz) (A := 12) Replica.cnt_le (l := x.Reps)
 simp only [Group.cnt, Group.sz]
 try omega
def Group.mkv (x : Group) (k : Int) : Group × Int := (⟨(mkL (Replica.mk2) x.Reps k).1, x.Term, x.Lead⟩, (mkL (Replica.mk2) x.Reps k).2)
def Group.cntv (x : Group) : Nat := cntL (Replica.cnt) x.Reps
theorem Group.mkv_cnt (x : Group) (k : Int) : (x.mkv k).2 = k + (x.cntv : Nat) := by
 simp only [Group.mkv, Group.cntv, mkN_cnt (f := Replica.mk2) (c := Replica.cnt) (Replica.mk2_cnt)]
 try omega
theorem Group.cntv_le (x : Group) : x.cntv ≤ 14 * (x.sz + 1) := by
 have c_Reps := cntL_le (c := Replica.cnt) (s := Replica.sz) (A := 12) Replica.cnt_le (l := x.Reps)
 simp only [Group.cntv, Group.sz]
 try omega
@[go_sem] theorem Group.mkv_len_Reps (x : Group) (k : Int) : (x.mkv k).1.Reps.length = x.Reps.length := mkL_len
@[go_sem] theorem Group.mkv_take_Reps (x : Group) (k : Int) : (x.mkv k).1.Reps.take x.Reps.length = (x.mkv k).1.Reps := mkL_take
@[go_sem] theorem Group.mkv_at_Term (x : Group) (k : Int) : (x.mkv k).1.Term = x.Term := rfl
@[go_sem] theorem Group.mkv_at_Lead (x : Group) (k : Int) : (x.mkv k).1.Lead = x.Lead := rfl
def World.mk2 (x : World) (k : Int) : World × Int := (⟨k, (k + 1), (mkL (Clock.mk2) x.Clocks ((k + 1) + 1)).1, (mkL (mkS) x.Cuts (mkL (Clock.mk2) x.Clocks ((k + 1) + 1)).2).1, (mkL (Group.mk2) x.Groups (mkL (mkS) x.Cuts (mkL (Clock.mk2) x.Clocks ((k + 1) + 1)).2).2).1, (mkL (mkL (Lock.mk2)) x.Locks (mkL (Group.mk2) x.Groups (mkL (mkS) x.Cuts (mkL (Clock.mk2) x.Clocks ((k + 1) + 1)).2).2).2).1, (mkL (mkI) x.Promised (mkL (mkL (Lock.mk2)) x.Locks (mkL (Group.mk2) x.Groups (mkL (mkS) x.Cuts (mkL (Clock.mk2) x.Clocks ((k + 1) + 1)).2).2).2).2).1, (mkL (WorldTxn.mk2) x.Txns (mkL (mkI) x.Promised (mkL (mkL (Lock.mk2)) x.Locks (mkL (Group.mk2) x.Groups (mkL (mkS) x.Cuts (mkL (Clock.mk2) x.Clocks ((k + 1) + 1)).2).2).2).2).2).1, (mkL (WorldLook.mk2) x.Looks (mkL (WorldTxn.mk2) x.Txns (mkL (mkI) x.Promised (mkL (mkL (Lock.mk2)) x.Locks (mkL (Group.mk2) x.Groups (mkL (mkS) x.Cuts (mkL (Clock.mk2) x.Clocks ((k + 1) + 1)).2).2).2).2).2).2).1⟩, (mkL (WorldLook.mk2) x.Looks (mkL (WorldTxn.mk2) x.Txns (mkL (mkI) x.Promised (mkL (mkL (Lock.mk2)) x.Locks (mkL (Group.mk2) x.Groups (mkL (mkS) x.Cuts (mkL (Clock.mk2) x.Clocks ((k + 1) + 1)).2).2).2).2).2).2).2)
def World.cnt (x : World) : Nat := 1 + 1 + cntL (Clock.cnt) x.Clocks + cntL (fun _ => 1) x.Cuts + cntL (Group.cnt) x.Groups + cntL (cntL (Lock.cnt)) x.Locks + cntL (fun _ => 1) x.Promised + cntL (WorldTxn.cnt) x.Txns + cntL (WorldLook.cnt) x.Looks
open Go.Proofs.Wb renaming World.mk2 → z0_, World.cnt → z1_ in
theorem World.mk2_cnt (x : World) (k : Int) : (x.mk2 k).2 = k + (x.cnt : Nat) := Q5_
open Go.Proofs.Wb renaming World.cnt → z0_ in
theorem World.cnt_le (x : World) : x.cnt ≤ 45 * (x.sz + 1) := Q6_
def World.mkv (x : World) (k : Int) : World × Int := (⟨x.Now, x.Count, (mkL (Clock.mk2) x.Clocks k).1, (mkL (mkS) x.Cuts (mkL (Clock.mk2) x.Clocks k).2).1, (mkL (Group.mk2) x.Groups (mkL (mkS) x.Cuts (mkL (Clock.mk2) x.Clocks k).2).2).1, (mkL (mkL (Lock.mk2)) x.Locks (mkL (Group.mk2) x.Groups (mkL (mkS) x.Cuts (mkL (Clock.mk2) x.Clocks k).2).2).2).1, (mkL (mkI) x.Promised (mkL (mkL (Lock.mk2)) x.Locks (mkL (Group.mk2) x.Groups (mkL (mkS) x.Cuts (mkL (Clock.mk2) x.Clocks k).2).2).2).2).1, (mkL (WorldTxn.mk2) x.Txns (mkL (mkI) x.Promised (mkL (mkL (Lock.mk2)) x.Locks (mkL (Group.mk2) x.Groups (mkL (mkS) x.Cuts (mkL (Clock.mk2) x.Clocks k).2).2).2).2).2).1, (mkL (WorldLook.mk2) x.Looks (mkL (WorldTxn.mk2) x.Txns (mkL (mkI) x.Promised (mkL (mkL (Lock.mk2)) x.Locks (mkL (Group.mk2) x.Groups (mkL (mkS) x.Cuts (mkL (Clock.mk2) x.Clocks k).2).2).2).2).2).2).1⟩, (mkL (WorldLook.mk2) x.Looks (mkL (WorldTxn.mk2) x.Txns (mkL (mkI) x.Promised (mkL (mkL (Lock.mk2)) x.Locks (mkL (Group.mk2) x.Groups (mkL (mkS) x.Cuts (mkL (Clock.mk2) x.Clocks k).2).2).2).2).2).2).2)
def World.cntv (x : World) : Nat := cntL (Clock.cnt) x.Clocks + cntL (fun _ => 1) x.Cuts + cntL (Group.cnt) x.Groups + cntL (cntL (Lock.cnt)) x.Locks + cntL (fun _ => 1) x.Promised + cntL (WorldTxn.cnt) x.Txns + cntL (WorldLook.cnt) x.Looks
open Go.Proofs.Wb renaming World.mkv → z0_, World.cntv → z1_ in
theorem World.mkv_cnt (x : World) (k : Int) : (x.mkv k).2 = k + (x.cntv : Nat) := Q5_
open Go.Proofs.Wb renaming World.cntv → z0_ in
theorem World.cntv_le (x : World) : x.cntv ≤ 45 * (x.sz + 1) := Q6_
@[go_sem] theorem World.mkv_at_Now (x : World) (k : Int) : (x.mkv k).1.Now = x.Now := rfl
@[go_sem] theorem World.mkv_at_Count (x : World) (k : Int) : (x.mkv k).1.Count = x.Count := rfl
@[go_sem] theorem World.mkv_len_Clocks (x : World) (k : Int) : (x.mkv k).1.Clocks.length = x.Clocks.length := mkL_len
@[go_sem] theorem World.mkv_take_Clocks (x : World) (k : Int) : (x.mkv k).1.Clocks.take x.Clocks.length = (x.mkv k).1.Clocks := mkL_take
@[go_sem] theorem World.mkv_len_Cuts (x : World) (k : Int) : (x.mkv k).1.Cuts.length = x.Cuts.length := mkL_len
@[go_sem] theorem World.mkv_take_Cuts (x : World) (k : Int) : (x.mkv k).1.Cuts.take x.Cuts.length = (x.mkv k).1.Cuts := mkL_take
@[go_sem] theorem World.mkv_len_Groups (x : World) (k : Int) : (x.mkv k).1.Groups.length = x.Groups.length := mkL_len
@[go_sem] theorem World.mkv_take_Groups (x : World) (k : Int) : (x.mkv k).1.Groups.take x.Groups.length = (x.mkv k).1.Groups := mkL_take
@[go_sem] theorem World.mkv_len_Locks (x : World) (k : Int) : (x.mkv k).1.Locks.length = x.Locks.length := mkL_len
@[go_sem] theorem World.mkv_take_Locks (x : World) (k : Int) : (x.mkv k).1.Locks.take x.Locks.length = (x.mkv k).1.Locks := mkL_take
@[go_sem] theorem World.mkv_len_Promised (x : World) (k : Int) : (x.mkv k).1.Promised.length = x.Promised.length := mkL_len
@[go_sem] theorem World.mkv_take_Promised (x : World) (k : Int) : (x.mkv k).1.Promised.take x.Promised.length = (x.mkv k).1.Promised := mkL_take
@[go_sem] theorem World.mkv_len_Txns (x : World) (k : Int) : (x.mkv k).1.Txns.length = x.Txns.length := mkL_len
@[go_sem] theorem World.mkv_take_Txns (x : World) (k : Int) : (x.mkv k).1.Txns.take x.Txns.length = (x.mkv k).1.Txns := mkL_take
@[go_sem] theorem World.mkv_len_Looks (x : World) (k : Int) : (x.mkv k).1.Looks.length = x.Looks.length := mkL_len
@[go_sem] theorem World.mkv_take_Looks (x : World) (k : Int) : (x.mkv k).1.Looks.take x.Looks.length = (x.mkv k).1.Looks := mkL_take
open Go.Proofs.Wb renaming H53 → z0_, C53 → z1_, C53_l1 → z4_ in
open Go.Am renaming mkI → z2_, ints → z3_ in
theorem markIntS_ok (l : List Int) (k : Int) (h0 : 0 ≤ k) (h1 : k + (cntL (fun _ => 1) l : Nat) ≤ 2 ^ 62) : ACall p_ 53 [.sl true 1 (ints l), i64 k] (fun r a => r = i64 (mkL (mkI) l k).2 ∧ a = [.sl true 1 (ints (mkL (mkI) l k).1), i64 k]) := Q7_
open Go.Proofs.Wb renaming H16 → z0_, C16 → z1_, mkS → z2_, C16_l1 → z4_ in
open Go.Am renaming strs → z3_ in
theorem markStringS_ok (l : List ByteArray) (k : Int) (h0 : 0 ≤ k) (h1 : k + (cntL (fun _ => 1) l : Nat) ≤ 2 ^ 62) : ACall p_ 16 [.sl true 1 (strs l), i64 k] (fun r a => r = i64 (mkL (mkS) l k).2 ∧ a = [.sl true 1 (strs (mkL (mkS) l k).1), i64 k]) := Q7_
open Go.Proofs.Wb renaming H50 → z0_, C50 → z1_, Clock.mk2 → z2_, Clock.row → z4_, Clock.cnt → z5_, Clock.mk2_cnt → z6_, C50_l1 → z7_ in
open Go.Am renaming k1_ → z3_ in
theorem markClockS_ok (l : List Clock) (k : Int) (h0 : 0 ≤ k) (h1 : k + (cntL (Clock.cnt) l : Nat) ≤ 2 ^ 62) : ACall p_ 50 [.sl true 1 (l.map (Clock.row true)), i64 k] (fun r a => r = i64 (mkL (Clock.mk2) l k).2 ∧ a = [.sl true 1 ((mkL (Clock.mk2) l k).1.map (Clock.row true)), i64 k]) := Q8_
open Go.Proofs.Wb renaming H95 → z0_, T11_x → z1_, Got.mk2 → z2_, Got.row → z4_, Got.cnt → z5_, Got.mk2_cnt → z6_, T11_x_l1 → z7_ in
open Go.Am renaming k3_ → z3_ in
theorem markGotS_ok (l : List Got) (k : Int) (h0 : 0 ≤ k) (h1 : k + (cntL (Got.cnt) l : Nat) ≤ 2 ^ 62) : ACall p_ 95 [.sl true 3 (l.map (Got.row true)), i64 k] (fun r a => r = i64 (mkL (Got.mk2) l k).2 ∧ a = [.sl true 3 ((mkL (Got.mk2) l k).1.map (Got.row true)), i64 k]) := Q8_
open Go.Proofs.Wb renaming H94 → z0_, C94 → z1_, Lock.mk2 → z2_, Lock.row → z4_, Lock.cnt → z5_, Lock.mk2_cnt → z6_, C94_l1 → z7_ in
open Go.Am renaming k3_ → z3_ in
theorem markLockS_ok (l : List Lock) (k : Int) (h0 : 0 ≤ k) (h1 : k + (cntL (Lock.cnt) l : Nat) ≤ 2 ^ 62) : ACall p_ 94 [.sl true 3 (l.map (Lock.row true)), i64 k] (fun r a => r = i64 (mkL (Lock.mk2) l k).2 ∧ a = [.sl true 3 ((mkL (Lock.mk2) l k).1.map (Lock.row true)), i64 k]) := Q8_
open Go.Proofs.Wb renaming H49 → z0_, C49 → z1_, Op.mk2 → z2_, Op.row → z4_, Op.cnt → z5_, Op.mk2_cnt → z6_, C49_l1 → z7_ in
open Go.Am renaming k4_ → z3_ in
theorem markOpS_ok (l : List Op) (k : Int) (h0 : 0 ≤ k) (h1 : k + (cntL (Op.cnt) l : Nat) ≤ 2 ^ 62) : ACall p_ 49 [.sl true 4 (l.map (Op.row true)), i64 k] (fun r a => r = i64 (mkL (Op.mk2) l k).2 ∧ a = [.sl true 4 ((mkL (Op.mk2) l k).1.map (Op.row true)), i64 k]) := Q8_
theorem markStringSS_ok (l : List (List ByteArray)) (k : Int) (h0 : 0 ≤ k) (h1 : k + (cntL (cntL (fun _ => 1)) l : Nat) ≤ 2 ^ 62) (hl : l.length ≤ 2 ^ 62) : ACall p_ 18 [.sl true 1 (l.map fun y => [.sl true 1 (strs y)]), i64 k] (fun r a => r = i64 (mkL (mkL (mkS)) l k).2 ∧ a = [.sl true 1 ((mkL (mkL (mkS)) l k).1.map fun y => [.sl true 1 (strs y)]), i64 k]) := by
 refine fg H18 fun E hE hH => ?_; simp only [go_sem, hE, hH, T5_x]
 refine loopNe l.length (fun j (_ : Unit) => ⟨[(0, .ref 0 0 l.length), (1, i64 (mkN (mkL (mkS)) l k j)), (5, i64 j)], [(0, ⟨1, (mkP (mkL (mkS)) l k j).map fun y => [.sl true 1 (strs y)]⟩)]⟩) (fun _ _ => True) () (by simp [mkP_zero, mkN_zero]) trivial ?_
 intro j _ hj _
 have hpl := mkP_len (f := mkL (mkS)) (k := k) hj
 have hN := mkN_at (f := mkL (mkS)) (c := cntL (fun _ => 1)) (fun _ _ => mkN_cnt (f := mkS) (c := fun _ => 1) (fun _ _ => rfl)) (l := l) (k := k) (j := j)
 try simp only [go_sem, hE, hH, T5_x_l1]
 first | refine gd_t (fun h => ?_) (fun h => ?_) | refine gd_f (fun h => ?_) (fun h => ?_)
 ·have hb := h
  simp only [nf] at h
  have hlt := h
  have hc := psum_cnt (c := cntL (fun _ => 1)) hlt
  have e0 := nth_mkP (f := mkL (mkS)) (k := k) hlt
  have e1 := mkP_set (f := mkL (mkS)) (k := k) hlt
  have e2 := mkN_succ (f := mkL (mkS)) (k := k) hlt
  generalize hk : mkN (mkL (mkS)) l k j = q at *
  have m_0 := mkN_cnt (f := mkS) (c := fun _ => 1) (fun _ _ => rfl) (l := nth l j) (k := q)
  try simp (disch := omega) only [go_sem, hE, hH, e0, hb, hpl, e0]
  all_goals (have y1_ := e0; repeat' (first | ((with_reducible apply ga) <;> refine gs1_ fun h => ?_) | ((with_reducible apply an); · omega) | (refine ok_lend [true, false] ?_; refine st1_ ?_; refine cmA (markStringS_ok (nth l j) (q) (by omega) (by omega)) ?_; refine st1_ ?_) | ((first | refine ok_view ?_ | refine cvA (markText_ok _ (by omega)) ?_); refine st1_ ?_) | refine jn _ ?_ ?_ | (with_reducible first | apply both | apply an | exact ti) | exact fe1_ | refine st1_ ?_ | exact fm1_ | refine s11_ ?_))
  try simp (disch := omega) only [go_sem, hE, hH, e0, hpl, e0]
  repeat' (first | (refine both ?_ ?_) | omega | ((first | apply noMLL_sE | apply pk_sE) <;> (simp only [go_sem, hE, hH, e0]; done)) | fail)
  refine ⟨(), ?_⟩
  rw [e2, ← e1, List.map_set]
  rfl
 ·have hb := h
  simp only [nf] at h
  try refine sb ?_; try exact ⟨⟩
  have e3 : j = l.length := by first | omega | (rw [mkL_len] at h; omega)
  subst e3
  rw [mkN_all (Nat.le_refl _), mkP_all (Nat.le_refl _)]
  exact ⟨mkL_len.symm, rfl, rfl⟩
open Go.Proofs.Wb renaming H164 → z0_, T11_x → z1_, Write.mk2 → z2_, Write.row → z4_, Write.cnt → z5_, Write.mk2_cnt → z6_, T11_x_l1 → z7_ in
open Go.Am renaming k3_ → z3_ in
theorem markWriteS_ok (l : List Write) (k : Int) (h0 : 0 ≤ k) (h1 : k + (cntL (Write.cnt) l : Nat) ≤ 2 ^ 62) : ACall p_ 164 [.sl true 3 (l.map (Write.row true)), i64 k] (fun r a => r = i64 (mkL (Write.mk2) l k).2 ∧ a = [.sl true 3 ((mkL (Write.mk2) l k).1.map (Write.row true)), i64 k]) := Q8_
open Go.Proofs.Wb renaming H52 → z0_, Lock.mk2 → z1_, Lock.row → z3_, Lock.cnt → z4_, Lock.mk2_cnt → z5_, markLockS_ok → z6_ in
open Go.Am renaming k3_ → z2_ in
theorem markLockSS_ok (l : List (List Lock)) (k : Int) (h0 : 0 ≤ k) (h1 : k + (cntL (cntL (Lock.cnt)) l : Nat) ≤ 2 ^ 62) (hl : l.length ≤ 2 ^ 62) : ACall p_ 52 [.sl true 1 (l.map fun y => [.sl true 3 (y.map (Lock.row true))]), i64 k] (fun r a => r = i64 (mkL (mkL (Lock.mk2)) l k).2 ∧ a = [.sl true 1 ((mkL (mkL (Lock.mk2)) l k).1.map fun y => [.sl true 3 (y.map (Lock.row true))]), i64 k]) := Q9_
open Go.Proofs.Wb renaming H17 → z0_, Op.mk2 → z1_, Op.row → z3_, Op.cnt → z4_, Op.mk2_cnt → z5_, markOpS_ok → z6_ in
open Go.Am renaming k4_ → z2_ in
theorem markOpSS_ok (l : List (List Op)) (k : Int) (h0 : 0 ≤ k) (h1 : k + (cntL (cntL (Op.cnt)) l : Nat) ≤ 2 ^ 62) (hl : l.length ≤ 2 ^ 62) : ACall p_ 17 [.sl true 1 (l.map fun y => [.sl true 4 (y.map (Op.row true))]), i64 k] (fun r a => r = i64 (mkL (mkL (Op.mk2)) l k).2 ∧ a = [.sl true 1 ((mkL (mkL (Op.mk2)) l k).1.map fun y => [.sl true 4 (y.map (Op.row true))]), i64 k]) := Q9_
theorem markWorldLookS_ok (l : List WorldLook) (k : Int) (h0 : 0 ≤ k) (h1 : k + (cntL (WorldLook.cnt) l : Nat) ≤ 2 ^ 62) : ACall p_ 55 [.sl true 6 (l.map (WorldLook.row true)), i64 k] (fun r a => r = i64 (mkL (WorldLook.mk2) l k).2 ∧ a = [.sl true 6 ((mkL (WorldLook.mk2) l k).1.map (WorldLook.row true)), i64 k]) := by
 refine fg H55 fun E hE hH => ?_; simp only [go_sem, hE, hH, C55]
 refine loopNe l.length (fun j (_ : Unit) => ⟨[(0, .ref 0 0 l.length), (1, i64 (mkN (WorldLook.mk2) l k j)), (5, i64 j)], [(0, ⟨6, (mkP (WorldLook.mk2) l k j).map (WorldLook.row true)⟩)]⟩) (fun _ _ => True) () (by simp [mkP_zero, mkN_zero]) trivial ?_
 intro j _ hj _
 have hpl := mkP_len (f := WorldLook.mk2) (k := k) hj
 have hN := mkN_at (f := WorldLook.mk2) (c := WorldLook.cnt) (WorldLook.mk2_cnt) (l := l) (k := k) (j := j)
 have hlen := cntL_len (c := WorldLook.cnt) (l := l) (fun x => by simp only [WorldLook.cnt]; omega)
 try simp only [go_sem, hE, hH, C55_l1]
 first | refine gd_t (fun h => ?_) (fun h => ?_) | refine gd_f (fun h => ?_) (fun h => ?_)
 ·have hb := h
  simp only [nf] at h
  have hlt := h
  have hc := psum_cnt (c := WorldLook.cnt) hlt
  have e0 := nth_mkP (f := WorldLook.mk2) (k := k) hlt
  have e1 := mkP_set (f := WorldLook.mk2) (k := k) hlt
  have e2 := mkN_succ (f := WorldLook.mk2) (k := k) hlt
  simp only [WorldLook.mk2] at e1 e2
  simp only [WorldLook.cnt] at hc
  generalize hk : mkN (WorldLook.mk2) l k j = q at *
  have m_Keys := mkN_cnt (f := mkS) (c := fun _ => 1) (fun _ _ => rfl) (l := (nth l j).Keys) (k := (q + 1))
  have m_Got := mkN_cnt (f := Got.mk2) (c := Got.cnt) (Got.mk2_cnt) (l := (nth l j).Got) (k := (mkL (mkS) (nth l j).Keys (q + 1)).2)
  try simp (disch := omega) only [go_sem, hE, hH, e0, hb, hpl, e0]
  all_goals (have y1_ := e0; repeat' (first | ((with_reducible apply ga) <;> refine gs1_ fun h => ?_) | ((with_reducible apply an); · omega) | (refine ok_lend [true, false] ?_; refine st1_ ?_; refine cmA (markStringS_ok ((nth l j).Keys) ((q + 1)) (by omega) (by omega)) ?_; refine st1_ ?_) | (refine ok_lend [true, false] ?_; refine st1_ ?_; refine cmA (markGotS_ok ((nth l j).Got) ((mkL (mkS) (nth l j).Keys (q + 1)).2) (by omega) (by omega)) ?_; refine st1_ ?_) | ((first | refine ok_view ?_ | refine cvA (markText_ok _ (by omega)) ?_); refine st1_ ?_) | refine jn _ ?_ ?_ | (with_reducible first | apply both | apply an | exact ti) | exact fe1_ | refine st1_ ?_ | exact fm1_ | refine s11_ ?_))
  try simp (disch := omega) only [go_sem, hE, hH, e0, hpl, e0]
  repeat' (first | (refine both ?_ ?_) | omega | ((first | apply noMLL_sE | apply pk_sE) <;> (simp only [go_sem, hE, hH, e0]; done)) | fail)
  refine ⟨(), ?_⟩
  rw [e2, ← e1, List.map_set]
  rfl
 ·have hb := h
  simp only [nf] at h
  try refine sb ?_; try exact ⟨⟩
  have e3 : j = l.length := by first | omega | (rw [mkL_len] at h; omega)
  subst e3
  rw [mkN_all (Nat.le_refl _), mkP_all (Nat.le_refl _)]
  exact ⟨mkL_len.symm, rfl, rfl⟩
set_option maxRecDepth 8000 in
theorem markWorldTxnS_ok (l : List WorldTxn) (k : Int) (h0 : 0 ≤ k) (h1 : k + (cntL (WorldTxn.cnt) l : Nat) ≤ 2 ^ 62) : ACall p_ 54 [.sl true 10 (l.map (WorldTxn.row true)), i64 k] (fun r a => r = i64 (mkL (WorldTxn.mk2) l k).2 ∧ a = [.sl true 10 ((mkL (WorldTxn.mk2) l k).1.map (WorldTxn.row true)), i64 k]) := by
 refine fg H54 fun E hE hH => ?_; simp only [go_sem, hE, hH, C54]
 refine loopNe l.length (fun j (_ : Unit) => ⟨[(0, .ref 0 0 l.length), (1, i64 (mkN (WorldTxn.mk2) l k j)), (5, i64 j)], [(0, ⟨10, (mkP (WorldTxn.mk2) l k j).map (WorldTxn.row true)⟩)]⟩) (fun _ _ => True) () (by simp [mkP_zero, mkN_zero]) trivial ?_
 intro j _ hj _
 have hpl := mkP_len (f := WorldTxn.mk2) (k := k) hj
 have hN := mkN_at (f := WorldTxn.mk2) (c := WorldTxn.cnt) (WorldTxn.mk2_cnt) (l := l) (k := k) (j := j)
 have hlen := cntL_len (c := WorldTxn.cnt) (l := l) (fun x => by simp only [WorldTxn.cnt]; omega)
 try simp only [go_sem, hE, hH, C54_l1]
 first | refine gd_t (fun h => ?_) (fun h => ?_) | refine gd_f (fun h => ?_) (fun h => ?_)
 ·have hb := h
  simp only [nf] at h
  have hlt := h
  have hc := psum_cnt (c := WorldTxn.cnt) hlt
  have e0 := nth_mkP (f := WorldTxn.mk2) (k := k) hlt
  have e1 := mkP_set (f := WorldTxn.mk2) (k := k) hlt
  have e2 := mkN_succ (f := WorldTxn.mk2) (k := k) hlt
  simp only [WorldTxn.mk2] at e1 e2
  simp only [WorldTxn.cnt] at hc
  generalize hk : mkN (WorldTxn.mk2) l k j = q at *
  have m_Ops := mkN_cnt (f := Op.mk2) (c := Op.cnt) (Op.mk2_cnt) (l := (nth l j).Ops) (k := q)
  have m_Got := mkN_cnt (f := Got.mk2) (c := Got.cnt) (Got.mk2_cnt) (l := (nth l j).Got) (k := (mkL (Op.mk2) (nth l j).Ops q).2)
  have m_Terms := mkN_cnt (f := mkI) (c := fun _ => 1) (fun _ _ => rfl) (l := (nth l j).Terms) (k := (mkL (Got.mk2) (nth l j).Got (mkL (Op.mk2) (nth l j).Ops q).2).2)
  try simp (disch := omega) only [go_sem, hE, hH, e0, hb, hpl, e0]
  all_goals (have y1_ := e0; repeat' (first | ((with_reducible apply ga) <;> refine gs1_ fun h => ?_) | ((with_reducible apply an); · omega) | (refine ok_lend [true, false] ?_; refine st1_ ?_; refine cmA (markOpS_ok ((nth l j).Ops) (q) (by omega) (by omega)) ?_; refine st1_ ?_) | (refine ok_lend [true, false] ?_; refine st1_ ?_; refine cmA (markGotS_ok ((nth l j).Got) ((mkL (Op.mk2) (nth l j).Ops q).2) (by omega) (by omega)) ?_; refine st1_ ?_) | (refine ok_lend [true, false] ?_; refine st1_ ?_; refine cmA (markIntS_ok ((nth l j).Terms) ((mkL (Got.mk2) (nth l j).Got (mkL (Op.mk2) (nth l j).Ops q).2).2) (by omega) (by omega)) ?_; refine st1_ ?_) | ((first | refine ok_view ?_ | refine cvA (markText_ok _ (by omega)) ?_); refine st1_ ?_) | refine jn _ ?_ ?_ | (with_reducible first | apply both | apply an | exact ti) | exact fe1_ | refine st1_ ?_ | exact fm1_ | refine s11_ ?_))
  try simp (disch := omega) only [go_sem, hE, hH, e0, hpl, e0]
  repeat' (first | (refine both ?_ ?_) | omega | ((first | apply noMLL_sE | apply pk_sE) <;> (simp only [go_sem, hE, hH, e0]; done)) | fail)
  refine ⟨(), ?_⟩
  rw [e2, ← e1, List.map_set]
  rfl
 ·have hb := h
  simp only [nf] at h
  try refine sb ?_; try exact ⟨⟩
  have e3 : j = l.length := by first | omega | (rw [mkL_len] at h; omega)
  subst e3
  rw [mkN_all (Nat.le_refl _), mkP_all (Nat.le_refl _)]
  exact ⟨mkL_len.symm, rfl, rfl⟩
theorem markEntryS_ok (l : List Entry) (k : Int) (h0 : 0 ≤ k) (h1 : k + (cntL (Entry.cnt) l : Nat) ≤ 2 ^ 62) : ACall p_ 131 [.sl true 8 (l.map (Entry.row true)), i64 k] (fun r a => r = i64 (mkL (Entry.mk2) l k).2 ∧ a = [.sl true 8 ((mkL (Entry.mk2) l k).1.map (Entry.row true)), i64 k]) := by
 refine fg H131 fun E hE hH => ?_; simp only [go_sem, hE, hH, C131]
 refine loopNe l.length (fun j (_ : Unit) => ⟨[(0, .ref 0 0 l.length), (1, i64 (mkN (Entry.mk2) l k j)), (5, i64 j)], [(0, ⟨8, (mkP (Entry.mk2) l k j).map (Entry.row true)⟩)]⟩) (fun _ _ => True) () (by simp [mkP_zero, mkN_zero]) trivial ?_
 intro j _ hj _
 have hpl := mkP_len (f := Entry.mk2) (k := k) hj
 have hN := mkN_at (f := Entry.mk2) (c := Entry.cnt) (Entry.mk2_cnt) (l := l) (k := k) (j := j)
 have hlen := cntL_len (c := Entry.cnt) (l := l) (fun x => by simp only [Entry.cnt]; omega)
 try simp only [go_sem, hE, hH, C131_l1]
 first | refine gd_t (fun h => ?_) (fun h => ?_) | refine gd_f (fun h => ?_) (fun h => ?_)
 ·have hb := h
  simp only [nf] at h
  have hlt := h
  have hc := psum_cnt (c := Entry.cnt) hlt
  have e0 := nth_mkP (f := Entry.mk2) (k := k) hlt
  have e1 := mkP_set (f := Entry.mk2) (k := k) hlt
  have e2 := mkN_succ (f := Entry.mk2) (k := k) hlt
  simp only [Entry.mk2, Rec.mk2] at e1 e2
  simp only [Entry.cnt, Rec.cnt] at hc
  generalize hk : mkN (Entry.mk2) l k j = q at *
  have m_Rec_Reads := mkN_cnt (f := mkS) (c := fun _ => 1) (fun _ _ => rfl) (l := (nth l j).Rec.Reads) (k := (((((q + 1) + 1) + 1) + 1) + 1))
  have m_Rec_Writes := mkN_cnt (f := Write.mk2) (c := Write.cnt) (Write.mk2_cnt) (l := (nth l j).Rec.Writes) (k := (mkL (mkS) (nth l j).Rec.Reads (((((q + 1) + 1) + 1) + 1) + 1)).2)
  try simp (disch := omega) only [go_sem, hE, hH, e0, hb, hpl, e0]
  all_goals (have y1_ := e0; repeat' (first | ((with_reducible apply ga) <;> refine gs1_ fun h => ?_) | ((with_reducible apply an); · omega) | (refine ok_lend [true, false] ?_; refine st1_ ?_; refine cmA (markStringS_ok ((nth l j).Rec.Reads) ((((((q + 1) + 1) + 1) + 1) + 1)) (by omega) (by omega)) ?_; refine st1_ ?_) | (refine ok_lend [true, false] ?_; refine st1_ ?_; refine cmA (markWriteS_ok ((nth l j).Rec.Writes) ((mkL (mkS) (nth l j).Rec.Reads (((((q + 1) + 1) + 1) + 1) + 1)).2) (by omega) (by omega)) ?_; refine st1_ ?_) | ((first | refine ok_view ?_ | refine cvA (markText_ok _ (by omega)) ?_); refine st1_ ?_) | refine jn _ ?_ ?_ | (with_reducible first | apply both | apply an | exact ti) | exact fe1_ | refine st1_ ?_ | exact fm1_ | refine s11_ ?_))
  try simp (disch := omega) only [go_sem, hE, hH, e0, hpl, e0]
  repeat' (first | (refine both ?_ ?_) | omega | ((first | apply noMLL_sE | apply pk_sE) <;> (simp only [go_sem, hE, hH, e0]; done)) | fail)
  refine ⟨(), ?_⟩
  rw [e2, ← e1, List.map_set]
  rfl
 ·have hb := h
  simp only [nf] at h
  try refine sb ?_; try exact ⟨⟩
  have e3 : j = l.length := by first | omega | (rw [mkL_len] at h; omega)
  subst e3
  rw [mkN_all (Nat.le_refl _), mkP_all (Nat.le_refl _)]
  exact ⟨mkL_len.symm, rfl, rfl⟩
theorem markReplicaS_ok (l : List Replica) (k : Int) (h0 : 0 ≤ k) (h1 : k + (cntL (Replica.cnt) l : Nat) ≤ 2 ^ 62) : ACall p_ 93 [.sl true 3 (l.map (Replica.row true)), i64 k] (fun r a => r = i64 (mkL (Replica.mk2) l k).2 ∧ a = [.sl true 3 ((mkL (Replica.mk2) l k).1.map (Replica.row true)), i64 k]) := by
 refine fg H93 fun E hE hH => ?_; simp only [go_sem, hE, hH, C93]
 refine loopNe l.length (fun j (_ : Unit) => ⟨[(0, .ref 0 0 l.length), (1, i64 (mkN (Replica.mk2) l k j)), (5, i64 j)], [(0, ⟨3, (mkP (Replica.mk2) l k j).map (Replica.row true)⟩)]⟩) (fun _ _ => True) () (by simp [mkP_zero, mkN_zero]) trivial ?_
 intro j _ hj _
 have hpl := mkP_len (f := Replica.mk2) (k := k) hj
 have hN := mkN_at (f := Replica.mk2) (c := Replica.cnt) (Replica.mk2_cnt) (l := l) (k := k) (j := j)
 have hlen := cntL_len (c := Replica.cnt) (l := l) (fun x => by simp only [Replica.cnt]; omega)
 try simp only [go_sem, hE, hH, C93_l1]
 first | refine gd_t (fun h => ?_) (fun h => ?_) | refine gd_f (fun h => ?_) (fun h => ?_)
 ·have hb := h
  simp only [nf] at h
  have hlt := h
  have hc := psum_cnt (c := Replica.cnt) hlt
  have e0 := nth_mkP (f := Replica.mk2) (k := k) hlt
  have e1 := mkP_set (f := Replica.mk2) (k := k) hlt
  have e2 := mkN_succ (f := Replica.mk2) (k := k) hlt
  simp only [Replica.mk2] at e1 e2
  simp only [Replica.cnt] at hc
  generalize hk : mkN (Replica.mk2) l k j = q at *
  have m_Log := mkN_cnt (f := Entry.mk2) (c := Entry.cnt) (Entry.mk2_cnt) (l := (nth l j).Log) (k := (q + 1))
  try simp (disch := omega) only [go_sem, hE, hH, e0, hb, hpl, e0]
  all_goals (have y1_ := e0; repeat' (first | ((with_reducible apply ga) <;> refine gs1_ fun h => ?_) | ((with_reducible apply an); · omega) | (refine ok_lend [true, false] ?_; refine st1_ ?_; refine cmA (markEntryS_ok ((nth l j).Log) ((q + 1)) (by omega) (by omega)) ?_; refine st1_ ?_) | ((first | refine ok_view ?_ | refine cvA (markText_ok _ (by omega)) ?_); refine st1_ ?_) | refine jn _ ?_ ?_ | (with_reducible first | apply both | apply an | exact ti) | exact fe1_ | refine st1_ ?_ | exact fm1_ | refine s11_ ?_))
  try simp (disch := omega) only [go_sem, hE, hH, e0, hpl, e0]
  repeat' (first | (refine both ?_ ?_) | omega | ((first | apply noMLL_sE | apply pk_sE) <;> (simp only [go_sem, hE, hH, e0]; done)) | fail)
  refine ⟨(), ?_⟩
  rw [e2, ← e1, List.map_set]
  rfl
 ·have hb := h
  simp only [nf] at h
  try refine sb ?_; try exact ⟨⟩
  have e3 : j = l.length := by first | omega | (rw [mkL_len] at h; omega)
  subst e3
  rw [mkN_all (Nat.le_refl _), mkP_all (Nat.le_refl _)]
  exact ⟨mkL_len.symm, rfl, rfl⟩
theorem markGroupS_ok (l : List Group) (k : Int) (h0 : 0 ≤ k) (h1 : k + (cntL (Group.cnt) l : Nat) ≤ 2 ^ 62) : ACall p_ 51 [.sl true 3 (l.map (Group.row true)), i64 k] (fun r a => r = i64 (mkL (Group.mk2) l k).2 ∧ a = [.sl true 3 ((mkL (Group.mk2) l k).1.map (Group.row true)), i64 k]) := by
 refine fg H51 fun E hE hH => ?_; simp only [go_sem, hE, hH, C51]
 refine loopNe l.length (fun j (_ : Unit) => ⟨[(0, .ref 0 0 l.length), (1, i64 (mkN (Group.mk2) l k j)), (5, i64 j)], [(0, ⟨3, (mkP (Group.mk2) l k j).map (Group.row true)⟩)]⟩) (fun _ _ => True) () (by simp [mkP_zero, mkN_zero]) trivial ?_
 intro j _ hj _
 have hpl := mkP_len (f := Group.mk2) (k := k) hj
 have hN := mkN_at (f := Group.mk2) (c := Group.cnt) (Group.mk2_cnt) (l := l) (k := k) (j := j)
 have hlen := cntL_len (c := Group.cnt) (l := l) (fun x => by simp only [Group.cnt]; omega)
 try simp only [go_sem, hE, hH, C51_l1]
 first | refine gd_t (fun h => ?_) (fun h => ?_) | refine gd_f (fun h => ?_) (fun h => ?_)
 ·have hb := h
  simp only [nf] at h
  have hlt := h
  have hc := psum_cnt (c := Group.cnt) hlt
  have e0 := nth_mkP (f := Group.mk2) (k := k) hlt
  have e1 := mkP_set (f := Group.mk2) (k := k) hlt
  have e2 := mkN_succ (f := Group.mk2) (k := k) hlt
  simp only [Group.mk2] at e1 e2
  simp only [Group.cnt] at hc
  generalize hk : mkN (Group.mk2) l k j = q at *
  have m_Reps := mkN_cnt (f := Replica.mk2) (c := Replica.cnt) (Replica.mk2_cnt) (l := (nth l j).Reps) (k := q)
  try simp (disch := omega) only [go_sem, hE, hH, e0, hb, hpl, e0]
  all_goals (have y1_ := e0; repeat' (first | ((with_reducible apply ga) <;> refine gs1_ fun h => ?_) | ((with_reducible apply an); · omega) | (refine ok_lend [true, false] ?_; refine st1_ ?_; refine cmA (markReplicaS_ok ((nth l j).Reps) (q) (by omega) (by omega)) ?_; refine st1_ ?_) | ((first | refine ok_view ?_ | refine cvA (markText_ok _ (by omega)) ?_); refine st1_ ?_) | refine jn _ ?_ ?_ | (with_reducible first | apply both | apply an | exact ti) | exact fe1_ | refine st1_ ?_ | exact fm1_ | refine s11_ ?_))
  try simp (disch := omega) only [go_sem, hE, hH, e0, hpl, e0]
  repeat' (first | (refine both ?_ ?_) | omega | ((first | apply noMLL_sE | apply pk_sE) <;> (simp only [go_sem, hE, hH, e0]; done)) | fail)
  refine ⟨(), ?_⟩
  rw [e2, ← e1, List.map_set]
  rfl
 ·have hb := h
  simp only [nf] at h
  try refine sb ?_; try exact ⟨⟩
  have e3 : j = l.length := by first | omega | (rw [mkL_len] at h; omega)
  subst e3
  rw [mkN_all (Nat.le_refl _), mkP_all (Nat.le_refl _)]
  exact ⟨mkL_len.symm, rfl, rfl⟩
theorem markWorld_ok (x : World) (k : Int) (h0 : 0 ≤ k) (h1 : k + (x.cntv : Nat) ≤ 2 ^ 62) (hl_Locks : x.Locks.length ≤ 2 ^ 62) : ACall p_ 19 [.agg (World.row true x), i64 k] (fun r a => r = i64 (x.mkv k).2 ∧ a = [.agg (World.row true (x.mkv k).1), i64 k]) := by
 simp only [World.cntv] at h1
 have m_Clocks := mkN_cnt (f := Clock.mk2) (c := Clock.cnt) (Clock.mk2_cnt) (l := x.Clocks) (k := k)
 have m_Cuts := mkN_cnt (f := mkS) (c := fun _ => 1) (fun _ _ => rfl) (l := x.Cuts) (k := (mkL (Clock.mk2) x.Clocks k).2)
 have m_Groups := mkN_cnt (f := Group.mk2) (c := Group.cnt) (Group.mk2_cnt) (l := x.Groups) (k := (mkL (mkS) x.Cuts (mkL (Clock.mk2) x.Clocks k).2).2)
 have m_Locks := mkN_cnt (f := mkL (Lock.mk2)) (c := cntL (Lock.cnt)) (fun _ _ => mkN_cnt (f := Lock.mk2) (c := Lock.cnt) (Lock.mk2_cnt)) (l := x.Locks) (k := (mkL (Group.mk2) x.Groups (mkL (mkS) x.Cuts (mkL (Clock.mk2) x.Clocks k).2).2).2)
 have m_Promised := mkN_cnt (f := mkI) (c := fun _ => 1) (fun _ _ => rfl) (l := x.Promised) (k := (mkL (mkL (Lock.mk2)) x.Locks (mkL (Group.mk2) x.Groups (mkL (mkS) x.Cuts (mkL (Clock.mk2) x.Clocks k).2).2).2).2)
 have m_Txns := mkN_cnt (f := WorldTxn.mk2) (c := WorldTxn.cnt) (WorldTxn.mk2_cnt) (l := x.Txns) (k := (mkL (mkI) x.Promised (mkL (mkL (Lock.mk2)) x.Locks (mkL (Group.mk2) x.Groups (mkL (mkS) x.Cuts (mkL (Clock.mk2) x.Clocks k).2).2).2).2).2)
 have m_Looks := mkN_cnt (f := WorldLook.mk2) (c := WorldLook.cnt) (WorldLook.mk2_cnt) (l := x.Looks) (k := (mkL (WorldTxn.mk2) x.Txns (mkL (mkI) x.Promised (mkL (mkL (Lock.mk2)) x.Locks (mkL (Group.mk2) x.Groups (mkL (mkS) x.Cuts (mkL (Clock.mk2) x.Clocks k).2).2).2).2).2).2)
 simp only [World.mkv]
 refine fg H19 fun E hE hH => ?_; simp only [go_sem, hE, hH, C19]
 try refine st ?_; try exact ⟨⟩
 repeat' (first | ((with_reducible apply ga) <;> refine gs fun h => ?_) | ((with_reducible apply an); · omega) | (refine ok_lend [true, false] ?_; refine st ?_; refine cmA (markClockS_ok x.Clocks k (by omega) (by omega)) ?_; refine st ?_) | (refine ok_lend [true, false] ?_; refine st ?_; refine cmA (markStringS_ok x.Cuts (mkL (Clock.mk2) x.Clocks k).2 (by omega) (by omega)) ?_; refine st ?_) | (refine ok_lend [true, false] ?_; refine st ?_; refine cmA (markGroupS_ok x.Groups (mkL (mkS) x.Cuts (mkL (Clock.mk2) x.Clocks k).2).2 (by omega) (by omega)) ?_; refine st ?_) | (refine ok_lend [true, false] ?_; refine st ?_; refine cmA (markLockSS_ok x.Locks (mkL (Group.mk2) x.Groups (mkL (mkS) x.Cuts (mkL (Clock.mk2) x.Clocks k).2).2).2 (by omega) (by omega) (by omega)) ?_; refine st ?_) | (refine ok_lend [true, false] ?_; refine st ?_; refine cmA (markIntS_ok x.Promised (mkL (mkL (Lock.mk2)) x.Locks (mkL (Group.mk2) x.Groups (mkL (mkS) x.Cuts (mkL (Clock.mk2) x.Clocks k).2).2).2).2 (by omega) (by omega)) ?_; refine st ?_) | (refine ok_lend [true, false] ?_; refine st ?_; refine cmA (markWorldTxnS_ok x.Txns (mkL (mkI) x.Promised (mkL (mkL (Lock.mk2)) x.Locks (mkL (Group.mk2) x.Groups (mkL (mkS) x.Cuts (mkL (Clock.mk2) x.Clocks k).2).2).2).2).2 (by omega) (by omega)) ?_; refine st ?_) | (refine ok_lend [true, false] ?_; refine st ?_; refine cmA (markWorldLookS_ok x.Looks (mkL (WorldTxn.mk2) x.Txns (mkL (mkI) x.Promised (mkL (mkL (Lock.mk2)) x.Locks (mkL (Group.mk2) x.Groups (mkL (mkS) x.Cuts (mkL (Clock.mk2) x.Clocks k).2).2).2).2).2).2 (by omega) (by omega)) ?_; refine st ?_) | refine jn _ ?_ ?_ | (with_reducible first | apply both | apply an | exact ti) | exact fe | refine st ?_ | exact fm | refine s1 ?_)
 all_goals first | omega | (simp [mkL_len]; done) | rfl
open Go.Proofs.Wb renaming H60 → z0_, C60 → z1_, C60_l1 → z4_ in
open Go.Am renaming ints → z2_, mkI → z3_ in
theorem heldIntS_ok (l : List Int) (k : Int) (h0 : 0 ≤ k) (h1 : k + (cntL (fun _ => 1) l : Nat) ≤ 2 ^ 62) : ACall p_ 60 [.sl false 1 (ints (mkL (mkI) l k).1), i64 k] (fun r _ => r = i64 (mkL (mkI) l k).2) := Q10_
open Go.Proofs.Wb renaming H57 → z0_, C57 → z1_, mkS → z3_, C57_l1 → z4_ in
open Go.Am renaming strs → z2_ in
theorem heldStringS_ok (l : List ByteArray) (k : Int) (h0 : 0 ≤ k) (h1 : k + (cntL (fun _ => 1) l : Nat) ≤ 2 ^ 62) : ACall p_ 57 [.sl false 1 (strs (mkL (mkS) l k).1), i64 k] (fun r _ => r = i64 (mkL (mkS) l k).2) := Q10_
open Go.Proofs.Wb renaming H56 → z0_, C56 → z1_, Clock.mk2 → z3_, Clock.row → z4_, Clock.cnt → z5_, Clock.mk2_cnt → z6_, C56_l1 → z7_ in
open Go.Am renaming k1_ → z2_ in
theorem heldClockS_ok (l : List Clock) (k : Int) (h0 : 0 ≤ k) (h1 : k + (cntL (Clock.cnt) l : Nat) ≤ 2 ^ 62) : ACall p_ 56 [.sl false 1 ((mkL (Clock.mk2) l k).1.map (Clock.row false)), i64 k] (fun r _ => r = i64 (mkL (Clock.mk2) l k).2) := Q11_
open Go.Proofs.Wb renaming H99 → z0_, T12_x → z1_, Got.mk2 → z3_, Got.row → z4_, Got.cnt → z5_, Got.mk2_cnt → z6_, T12_x_l1 → z7_ in
open Go.Am renaming k3_ → z2_ in
theorem heldGotS_ok (l : List Got) (k : Int) (h0 : 0 ≤ k) (h1 : k + (cntL (Got.cnt) l : Nat) ≤ 2 ^ 62) : ACall p_ 99 [.sl false 3 ((mkL (Got.mk2) l k).1.map (Got.row false)), i64 k] (fun r _ => r = i64 (mkL (Got.mk2) l k).2) := Q11_
open Go.Proofs.Wb renaming H97 → z0_, C97 → z1_, Lock.mk2 → z3_, Lock.row → z4_, Lock.cnt → z5_, Lock.mk2_cnt → z6_, C97_l1 → z7_ in
open Go.Am renaming k3_ → z2_ in
theorem heldLockS_ok (l : List Lock) (k : Int) (h0 : 0 ≤ k) (h1 : k + (cntL (Lock.cnt) l : Nat) ≤ 2 ^ 62) : ACall p_ 97 [.sl false 3 ((mkL (Lock.mk2) l k).1.map (Lock.row false)), i64 k] (fun r _ => r = i64 (mkL (Lock.mk2) l k).2) := Q11_
open Go.Proofs.Wb renaming H98 → z0_, C98 → z1_, Op.mk2 → z3_, Op.row → z4_, Op.cnt → z5_, Op.mk2_cnt → z6_, C98_l1 → z7_ in
open Go.Am renaming k4_ → z2_ in
theorem heldOpS_ok (l : List Op) (k : Int) (h0 : 0 ≤ k) (h1 : k + (cntL (Op.cnt) l : Nat) ≤ 2 ^ 62) : ACall p_ 98 [.sl false 4 ((mkL (Op.mk2) l k).1.map (Op.row false)), i64 k] (fun r _ => r = i64 (mkL (Op.mk2) l k).2) := Q11_
open Go.Proofs.Wb renaming H165 → z0_, T12_x → z1_, Write.mk2 → z3_, Write.row → z4_, Write.cnt → z5_, Write.mk2_cnt → z6_, T12_x_l1 → z7_ in
open Go.Am renaming k3_ → z2_ in
theorem heldWriteS_ok (l : List Write) (k : Int) (h0 : 0 ≤ k) (h1 : k + (cntL (Write.cnt) l : Nat) ≤ 2 ^ 62) : ACall p_ 165 [.sl false 3 ((mkL (Write.mk2) l k).1.map (Write.row false)), i64 k] (fun r _ => r = i64 (mkL (Write.mk2) l k).2) := Q11_
theorem heldLockSS_ok (l : List (List Lock)) (k : Int) (h0 : 0 ≤ k) (h1 : k + (cntL (cntL (Lock.cnt)) l : Nat) ≤ 2 ^ 62) (hl : l.length ≤ 2 ^ 62) : ACall p_ 59 [.sl false 1 ((mkL (mkL (Lock.mk2)) l k).1.map fun y => [.sl false 3 (y.map (Lock.row false))]), i64 k] (fun r _ => r = i64 (mkL (mkL (Lock.mk2)) l k).2) := by
 refine fg H59 fun E hE hH => ?_; simp only [go_sem, hE, hH, C59]
 refine loopNe l.length (fun j (_ : Unit) => ⟨[(0, .sl false 1 ((mkL (mkL (Lock.mk2)) l k).1.map fun y => [.sl false 3 (y.map (Lock.row false))])), (1, i64 (mkN (mkL (Lock.mk2)) l k j)), (5, i64 j)], []⟩) (fun _ _ => True) () (by simp [mkP_zero, mkN_zero]) trivial ?_
 intro j _ hj _
 have hpl := mkL_len (f := mkL (Lock.mk2)) (k := k) (l := l)
 have hN := mkN_at (f := mkL (Lock.mk2)) (c := cntL (Lock.cnt)) (fun _ _ => mkN_cnt (f := Lock.mk2) (c := Lock.cnt) (Lock.mk2_cnt)) (l := l) (k := k) (j := j)
 try simp only [go_sem, hE, hH, C59_l1]
 first | refine gd_t (fun h => ?_) (fun h => ?_) | refine gd_f (fun h => ?_) (fun h => ?_)
 ·have hb := h
  simp only [nf] at h
  have hlt : j < l.length := by first | exact h | (rw [mkL_len] at h; exact h)
  have hc := psum_cnt (c := cntL (Lock.cnt)) hlt
  have e0 := nth_mkL (f := mkL (Lock.mk2)) (k := k) hlt
  have e2 := mkN_succ (f := mkL (Lock.mk2)) (k := k) hlt
  generalize hk : mkN (mkL (Lock.mk2)) l k j = q at *
  have m_0 := mkN_cnt (f := Lock.mk2) (c := Lock.cnt) (Lock.mk2_cnt) (l := nth l j) (k := q)
  try simp (disch := omega) only [go_sem, hE, hH, e0, hb, hpl, e0]
  all_goals (have y1_ := e0; repeat' (first | ((with_reducible apply ga) <;> refine gs1_ fun h => ?_) | ((with_reducible apply an); · omega) | ((first | refine ok_view ?_ | refine cvA (markText_ok _ (by omega)) ?_ | refine cvA (heldLockS_ok (nth l j) (q) (by omega) (by omega)) ?_); refine st1_ ?_) | refine jn _ ?_ ?_ | (with_reducible first | apply both | apply an | exact ti) | exact fe1_ | refine st1_ ?_ | exact fm1_ | refine s11_ ?_))
  try simp (disch := omega) only [go_sem, hE, hH, e0, hpl, e0]
  repeat' (first | (refine both ?_ ?_) | omega | ((first | apply noMLL_sE | apply pk_sE) <;> (simp only [go_sem, hE, hH, e0]; done)) | fail)
  refine ⟨(), ?_⟩
  rw [e2]
  rfl
 ·have hb := h
  simp only [nf] at h
  try refine sb ?_; try exact ⟨⟩
  have e3 : j = l.length := by first | omega | (rw [mkL_len] at h; omega)
  subst e3
  rw [mkN_all (Nat.le_refl _)]
theorem heldWorldLookS_ok (l : List WorldLook) (k : Int) (h0 : 0 ≤ k) (h1 : k + (cntL (WorldLook.cnt) l : Nat) ≤ 2 ^ 62) : ACall p_ 62 [.sl false 6 ((mkL (WorldLook.mk2) l k).1.map (WorldLook.row false)), i64 k] (fun r _ => r = i64 (mkL (WorldLook.mk2) l k).2) := by
 refine fg H62 fun E hE hH => ?_; simp only [go_sem, hE, hH, C62]
 refine loopNe l.length (fun j (_ : Unit) => ⟨[(0, .sl false 6 ((mkL (WorldLook.mk2) l k).1.map (WorldLook.row false))), (1, i64 (mkN (WorldLook.mk2) l k j)), (5, i64 j)], []⟩) (fun _ _ => True) () (by simp [mkP_zero, mkN_zero]) trivial ?_
 intro j _ hj _
 have hpl := mkL_len (f := WorldLook.mk2) (k := k) (l := l)
 have hN := mkN_at (f := WorldLook.mk2) (c := WorldLook.cnt) (WorldLook.mk2_cnt) (l := l) (k := k) (j := j)
 have hlen := cntL_len (c := WorldLook.cnt) (l := l) (fun x => by simp only [WorldLook.cnt]; omega)
 try simp only [go_sem, hE, hH, C62_l1]
 first | refine gd_t (fun h => ?_) (fun h => ?_) | refine gd_f (fun h => ?_) (fun h => ?_)
 ·have hb := h
  simp only [nf] at h
  have hlt : j < l.length := by first | exact h | (rw [mkL_len] at h; exact h)
  have hc := psum_cnt (c := WorldLook.cnt) hlt
  have e0 := nth_mkL (f := WorldLook.mk2) (k := k) hlt
  have e2 := mkN_succ (f := WorldLook.mk2) (k := k) hlt
  simp only [WorldLook.mk2] at e0 e2
  simp only [WorldLook.cnt] at hc
  generalize hk : mkN (WorldLook.mk2) l k j = q at *
  have m_Keys := mkN_cnt (f := mkS) (c := fun _ => 1) (fun _ _ => rfl) (l := (nth l j).Keys) (k := (q + 1))
  have m_Got := mkN_cnt (f := Got.mk2) (c := Got.cnt) (Got.mk2_cnt) (l := (nth l j).Got) (k := (mkL (mkS) (nth l j).Keys (q + 1)).2)
  try simp (disch := omega) only [go_sem, hE, hH, e0, hb, hpl, e0]
  all_goals (have y1_ := e0; repeat' (first | ((with_reducible apply ga) <;> refine gs1_ fun h => ?_) | ((with_reducible apply an); · omega) | ((first | refine ok_view ?_ | refine cvA (markText_ok _ (by omega)) ?_ | refine cvA (heldStringS_ok ((nth l j).Keys) ((q + 1)) (by omega) (by omega)) ?_ | refine cvA (heldGotS_ok ((nth l j).Got) ((mkL (mkS) (nth l j).Keys (q + 1)).2) (by omega) (by omega)) ?_); refine st1_ ?_) | refine jn _ ?_ ?_ | (with_reducible first | apply both | apply an | exact ti) | exact fe1_ | refine st1_ ?_ | exact fm1_ | refine s11_ ?_))
  try simp (disch := omega) only [go_sem, hE, hH, e0, hpl, e0]
  repeat' (first | (refine both ?_ ?_) | omega | ((first | apply noMLL_sE | apply pk_sE) <;> (simp only [go_sem, hE, hH, e0]; done)) | fail)
  refine ⟨(), ?_⟩
  rw [e2]
  rfl
 ·have hb := h
  simp only [nf] at h
  try refine sb ?_; try exact ⟨⟩
  have e3 : j = l.length := by first | omega | (rw [mkL_len] at h; omega)
  subst e3
  rw [mkN_all (Nat.le_refl _)]
set_option maxRecDepth 8000 in
theorem heldWorldTxnS_ok (l : List WorldTxn) (k : Int) (h0 : 0 ≤ k) (h1 : k + (cntL (WorldTxn.cnt) l : Nat) ≤ 2 ^ 62) : ACall p_ 61 [.sl false 10 ((mkL (WorldTxn.mk2) l k).1.map (WorldTxn.row false)), i64 k] (fun r _ => r = i64 (mkL (WorldTxn.mk2) l k).2) := by
 refine fg H61 fun E hE hH => ?_; simp only [go_sem, hE, hH, C61]
 refine loopNe l.length (fun j (_ : Unit) => ⟨[(0, .sl false 10 ((mkL (WorldTxn.mk2) l k).1.map (WorldTxn.row false))), (1, i64 (mkN (WorldTxn.mk2) l k j)), (5, i64 j)], []⟩) (fun _ _ => True) () (by simp [mkP_zero, mkN_zero]) trivial ?_
 intro j _ hj _
 have hpl := mkL_len (f := WorldTxn.mk2) (k := k) (l := l)
 have hN := mkN_at (f := WorldTxn.mk2) (c := WorldTxn.cnt) (WorldTxn.mk2_cnt) (l := l) (k := k) (j := j)
 have hlen := cntL_len (c := WorldTxn.cnt) (l := l) (fun x => by simp only [WorldTxn.cnt]; omega)
 try simp only [go_sem, hE, hH, C61_l1]
 first | refine gd_t (fun h => ?_) (fun h => ?_) | refine gd_f (fun h => ?_) (fun h => ?_)
 ·have hb := h
  simp only [nf] at h
  have hlt : j < l.length := by first | exact h | (rw [mkL_len] at h; exact h)
  have hc := psum_cnt (c := WorldTxn.cnt) hlt
  have e0 := nth_mkL (f := WorldTxn.mk2) (k := k) hlt
  have e2 := mkN_succ (f := WorldTxn.mk2) (k := k) hlt
  simp only [WorldTxn.mk2] at e0 e2
  simp only [WorldTxn.cnt] at hc
  generalize hk : mkN (WorldTxn.mk2) l k j = q at *
  have m_Ops := mkN_cnt (f := Op.mk2) (c := Op.cnt) (Op.mk2_cnt) (l := (nth l j).Ops) (k := q)
  have m_Got := mkN_cnt (f := Got.mk2) (c := Got.cnt) (Got.mk2_cnt) (l := (nth l j).Got) (k := (mkL (Op.mk2) (nth l j).Ops q).2)
  have m_Terms := mkN_cnt (f := mkI) (c := fun _ => 1) (fun _ _ => rfl) (l := (nth l j).Terms) (k := (mkL (Got.mk2) (nth l j).Got (mkL (Op.mk2) (nth l j).Ops q).2).2)
  try simp (disch := omega) only [go_sem, hE, hH, e0, hb, hpl, e0]
  all_goals (have y1_ := e0; repeat' (first | ((with_reducible apply ga) <;> refine gs1_ fun h => ?_) | ((with_reducible apply an); · omega) | ((first | refine ok_view ?_ | refine cvA (markText_ok _ (by omega)) ?_ | refine cvA (heldOpS_ok ((nth l j).Ops) (q) (by omega) (by omega)) ?_ | refine cvA (heldGotS_ok ((nth l j).Got) ((mkL (Op.mk2) (nth l j).Ops q).2) (by omega) (by omega)) ?_ | refine cvA (heldIntS_ok ((nth l j).Terms) ((mkL (Got.mk2) (nth l j).Got (mkL (Op.mk2) (nth l j).Ops q).2).2) (by omega) (by omega)) ?_); refine st1_ ?_) | refine jn _ ?_ ?_ | (with_reducible first | apply both | apply an | exact ti) | exact fe1_ | refine st1_ ?_ | exact fm1_ | refine s11_ ?_))
  try simp (disch := omega) only [go_sem, hE, hH, e0, hpl, e0]
  repeat' (first | (refine both ?_ ?_) | omega | ((first | apply noMLL_sE | apply pk_sE) <;> (simp only [go_sem, hE, hH, e0]; done)) | fail)
  refine ⟨(), ?_⟩
  rw [e2]
  rfl
 ·have hb := h
  simp only [nf] at h
  try refine sb ?_; try exact ⟨⟩
  have e3 : j = l.length := by first | omega | (rw [mkL_len] at h; omega)
  subst e3
  rw [mkN_all (Nat.le_refl _)]
theorem heldEntryS_ok (l : List Entry) (k : Int) (h0 : 0 ≤ k) (h1 : k + (cntL (Entry.cnt) l : Nat) ≤ 2 ^ 62) : ACall p_ 132 [.sl false 8 ((mkL (Entry.mk2) l k).1.map (Entry.row false)), i64 k] (fun r _ => r = i64 (mkL (Entry.mk2) l k).2) := by
 refine fg H132 fun E hE hH => ?_; simp only [go_sem, hE, hH, C132]
 refine loopNe l.length (fun j (_ : Unit) => ⟨[(0, .sl false 8 ((mkL (Entry.mk2) l k).1.map (Entry.row false))), (1, i64 (mkN (Entry.mk2) l k j)), (5, i64 j)], []⟩) (fun _ _ => True) () (by simp [mkP_zero, mkN_zero]) trivial ?_
 intro j _ hj _
 have hpl := mkL_len (f := Entry.mk2) (k := k) (l := l)
 have hN := mkN_at (f := Entry.mk2) (c := Entry.cnt) (Entry.mk2_cnt) (l := l) (k := k) (j := j)
 have hlen := cntL_len (c := Entry.cnt) (l := l) (fun x => by simp only [Entry.cnt]; omega)
 try simp only [go_sem, hE, hH, C132_l1]
 first | refine gd_t (fun h => ?_) (fun h => ?_) | refine gd_f (fun h => ?_) (fun h => ?_)
 ·have hb := h
  simp only [nf] at h
  have hlt : j < l.length := by first | exact h | (rw [mkL_len] at h; exact h)
  have hc := psum_cnt (c := Entry.cnt) hlt
  have e0 := nth_mkL (f := Entry.mk2) (k := k) hlt
  have e2 := mkN_succ (f := Entry.mk2) (k := k) hlt
  simp only [Entry.mk2, Rec.mk2] at e0 e2
  simp only [Entry.cnt, Rec.cnt] at hc
  generalize hk : mkN (Entry.mk2) l k j = q at *
  have m_Rec_Reads := mkN_cnt (f := mkS) (c := fun _ => 1) (fun _ _ => rfl) (l := (nth l j).Rec.Reads) (k := (((((q + 1) + 1) + 1) + 1) + 1))
  have m_Rec_Writes := mkN_cnt (f := Write.mk2) (c := Write.cnt) (Write.mk2_cnt) (l := (nth l j).Rec.Writes) (k := (mkL (mkS) (nth l j).Rec.Reads (((((q + 1) + 1) + 1) + 1) + 1)).2)
  try simp (disch := omega) only [go_sem, hE, hH, e0, hb, hpl, e0]
  all_goals (have y1_ := e0; repeat' (first | ((with_reducible apply ga) <;> refine gs1_ fun h => ?_) | ((with_reducible apply an); · omega) | ((first | refine ok_view ?_ | refine cvA (markText_ok _ (by omega)) ?_ | refine cvA (heldStringS_ok ((nth l j).Rec.Reads) ((((((q + 1) + 1) + 1) + 1) + 1)) (by omega) (by omega)) ?_ | refine cvA (heldWriteS_ok ((nth l j).Rec.Writes) ((mkL (mkS) (nth l j).Rec.Reads (((((q + 1) + 1) + 1) + 1) + 1)).2) (by omega) (by omega)) ?_); refine st1_ ?_) | refine jn _ ?_ ?_ | (with_reducible first | apply both | apply an | exact ti) | exact fe1_ | refine st1_ ?_ | exact fm1_ | refine s11_ ?_))
  try simp (disch := omega) only [go_sem, hE, hH, e0, hpl, e0]
  repeat' (first | (refine both ?_ ?_) | omega | ((first | apply noMLL_sE | apply pk_sE) <;> (simp only [go_sem, hE, hH, e0]; done)) | fail)
  refine ⟨(), ?_⟩
  rw [e2]
  rfl
 ·have hb := h
  simp only [nf] at h
  try refine sb ?_; try exact ⟨⟩
  have e3 : j = l.length := by first | omega | (rw [mkL_len] at h; omega)
  subst e3
  rw [mkN_all (Nat.le_refl _)]
theorem heldReplicaS_ok (l : List Replica) (k : Int) (h0 : 0 ≤ k) (h1 : k + (cntL (Replica.cnt) l : Nat) ≤ 2 ^ 62) : ACall p_ 96 [.sl false 3 ((mkL (Replica.mk2) l k).1.map (Replica.row false)), i64 k] (fun r _ => r = i64 (mkL (Replica.mk2) l k).2) := by
 refine fg H96 fun E hE hH => ?_; simp only [go_sem, hE, hH, C96]
 refine loopNe l.length (fun j (_ : Unit) => ⟨[(0, .sl false 3 ((mkL (Replica.mk2) l k).1.map (Replica.row false))), (1, i64 (mkN (Replica.mk2) l k j)), (5, i64 j)], []⟩) (fun _ _ => True) () (by simp [mkP_zero, mkN_zero]) trivial ?_
 intro j _ hj _
 have hpl := mkL_len (f := Replica.mk2) (k := k) (l := l)
 have hN := mkN_at (f := Replica.mk2) (c := Replica.cnt) (Replica.mk2_cnt) (l := l) (k := k) (j := j)
 have hlen := cntL_len (c := Replica.cnt) (l := l) (fun x => by simp only [Replica.cnt]; omega)
 try simp only [go_sem, hE, hH, C96_l1]
 first | refine gd_t (fun h => ?_) (fun h => ?_) | refine gd_f (fun h => ?_) (fun h => ?_)
 ·have hb := h
  simp only [nf] at h
  have hlt : j < l.length := by first | exact h | (rw [mkL_len] at h; exact h)
  have hc := psum_cnt (c := Replica.cnt) hlt
  have e0 := nth_mkL (f := Replica.mk2) (k := k) hlt
  have e2 := mkN_succ (f := Replica.mk2) (k := k) hlt
  simp only [Replica.mk2] at e0 e2
  simp only [Replica.cnt] at hc
  generalize hk : mkN (Replica.mk2) l k j = q at *
  have m_Log := mkN_cnt (f := Entry.mk2) (c := Entry.cnt) (Entry.mk2_cnt) (l := (nth l j).Log) (k := (q + 1))
  try simp (disch := omega) only [go_sem, hE, hH, e0, hb, hpl, e0]
  all_goals (have y1_ := e0; repeat' (first | ((with_reducible apply ga) <;> refine gs1_ fun h => ?_) | ((with_reducible apply an); · omega) | ((first | refine ok_view ?_ | refine cvA (markText_ok _ (by omega)) ?_ | refine cvA (heldEntryS_ok ((nth l j).Log) ((q + 1)) (by omega) (by omega)) ?_); refine st1_ ?_) | refine jn _ ?_ ?_ | (with_reducible first | apply both | apply an | exact ti) | exact fe1_ | refine st1_ ?_ | exact fm1_ | refine s11_ ?_))
  try simp (disch := omega) only [go_sem, hE, hH, e0, hpl, e0]
  repeat' (first | (refine both ?_ ?_) | omega | ((first | apply noMLL_sE | apply pk_sE) <;> (simp only [go_sem, hE, hH, e0]; done)) | fail)
  refine ⟨(), ?_⟩
  rw [e2]
  rfl
 ·have hb := h
  simp only [nf] at h
  try refine sb ?_; try exact ⟨⟩
  have e3 : j = l.length := by first | omega | (rw [mkL_len] at h; omega)
  subst e3
  rw [mkN_all (Nat.le_refl _)]
theorem heldGroupS_ok (l : List Group) (k : Int) (h0 : 0 ≤ k) (h1 : k + (cntL (Group.cnt) l : Nat) ≤ 2 ^ 62) : ACall p_ 58 [.sl false 3 ((mkL (Group.mk2) l k).1.map (Group.row false)), i64 k] (fun r _ => r = i64 (mkL (Group.mk2) l k).2) := by
 refine fg H58 fun E hE hH => ?_; simp only [go_sem, hE, hH, C58]
 refine loopNe l.length (fun j (_ : Unit) => ⟨[(0, .sl false 3 ((mkL (Group.mk2) l k).1.map (Group.row false))), (1, i64 (mkN (Group.mk2) l k j)), (5, i64 j)], []⟩) (fun _ _ => True) () (by simp [mkP_zero, mkN_zero]) trivial ?_
 intro j _ hj _
 have hpl := mkL_len (f := Group.mk2) (k := k) (l := l)
 have hN := mkN_at (f := Group.mk2) (c := Group.cnt) (Group.mk2_cnt) (l := l) (k := k) (j := j)
 have hlen := cntL_len (c := Group.cnt) (l := l) (fun x => by simp only [Group.cnt]; omega)
 try simp only [go_sem, hE, hH, C58_l1]
 first | refine gd_t (fun h => ?_) (fun h => ?_) | refine gd_f (fun h => ?_) (fun h => ?_)
 ·have hb := h
  simp only [nf] at h
  have hlt : j < l.length := by first | exact h | (rw [mkL_len] at h; exact h)
  have hc := psum_cnt (c := Group.cnt) hlt
  have e0 := nth_mkL (f := Group.mk2) (k := k) hlt
  have e2 := mkN_succ (f := Group.mk2) (k := k) hlt
  simp only [Group.mk2] at e0 e2
  simp only [Group.cnt] at hc
  generalize hk : mkN (Group.mk2) l k j = q at *
  have m_Reps := mkN_cnt (f := Replica.mk2) (c := Replica.cnt) (Replica.mk2_cnt) (l := (nth l j).Reps) (k := q)
  try simp (disch := omega) only [go_sem, hE, hH, e0, hb, hpl, e0]
  all_goals (have y1_ := e0; repeat' (first | ((with_reducible apply ga) <;> refine gs1_ fun h => ?_) | ((with_reducible apply an); · omega) | ((first | refine ok_view ?_ | refine cvA (markText_ok _ (by omega)) ?_ | refine cvA (heldReplicaS_ok ((nth l j).Reps) (q) (by omega) (by omega)) ?_); refine st1_ ?_) | refine jn _ ?_ ?_ | (with_reducible first | apply both | apply an | exact ti) | exact fe1_ | refine st1_ ?_ | exact fm1_ | refine s11_ ?_))
  try simp (disch := omega) only [go_sem, hE, hH, e0, hpl, e0]
  repeat' (first | (refine both ?_ ?_) | omega | ((first | apply noMLL_sE | apply pk_sE) <;> (simp only [go_sem, hE, hH, e0]; done)) | fail)
  refine ⟨(), ?_⟩
  rw [e2]
  rfl
 ·have hb := h
  simp only [nf] at h
  try refine sb ?_; try exact ⟨⟩
  have e3 : j = l.length := by first | omega | (rw [mkL_len] at h; omega)
  subst e3
  rw [mkN_all (Nat.le_refl _)]
theorem heldWorld_ok (x : World) (k : Int) (h0 : 0 ≤ k) (h1 : k + (x.cntv : Nat) ≤ 2 ^ 62) (hl_Locks : x.Locks.length ≤ 2 ^ 62) : ACall p_ 20 [.agg (World.row false (x.mkv k).1), i64 k] (fun r _ => r = i64 (x.mkv k).2) := by
 simp only [World.cntv] at h1
 have m_Clocks := mkN_cnt (f := Clock.mk2) (c := Clock.cnt) (Clock.mk2_cnt) (l := x.Clocks) (k := k)
 have m_Cuts := mkN_cnt (f := mkS) (c := fun _ => 1) (fun _ _ => rfl) (l := x.Cuts) (k := (mkL (Clock.mk2) x.Clocks k).2)
 have m_Groups := mkN_cnt (f := Group.mk2) (c := Group.cnt) (Group.mk2_cnt) (l := x.Groups) (k := (mkL (mkS) x.Cuts (mkL (Clock.mk2) x.Clocks k).2).2)
 have m_Locks := mkN_cnt (f := mkL (Lock.mk2)) (c := cntL (Lock.cnt)) (fun _ _ => mkN_cnt (f := Lock.mk2) (c := Lock.cnt) (Lock.mk2_cnt)) (l := x.Locks) (k := (mkL (Group.mk2) x.Groups (mkL (mkS) x.Cuts (mkL (Clock.mk2) x.Clocks k).2).2).2)
 have m_Promised := mkN_cnt (f := mkI) (c := fun _ => 1) (fun _ _ => rfl) (l := x.Promised) (k := (mkL (mkL (Lock.mk2)) x.Locks (mkL (Group.mk2) x.Groups (mkL (mkS) x.Cuts (mkL (Clock.mk2) x.Clocks k).2).2).2).2)
 have m_Txns := mkN_cnt (f := WorldTxn.mk2) (c := WorldTxn.cnt) (WorldTxn.mk2_cnt) (l := x.Txns) (k := (mkL (mkI) x.Promised (mkL (mkL (Lock.mk2)) x.Locks (mkL (Group.mk2) x.Groups (mkL (mkS) x.Cuts (mkL (Clock.mk2) x.Clocks k).2).2).2).2).2)
 have m_Looks := mkN_cnt (f := WorldLook.mk2) (c := WorldLook.cnt) (WorldLook.mk2_cnt) (l := x.Looks) (k := (mkL (WorldTxn.mk2) x.Txns (mkL (mkI) x.Promised (mkL (mkL (Lock.mk2)) x.Locks (mkL (Group.mk2) x.Groups (mkL (mkS) x.Cuts (mkL (Clock.mk2) x.Clocks k).2).2).2).2).2).2)
 simp only [World.mkv]
 refine fg H20 fun E hE hH => ?_; simp only [go_sem, hE, hH, C20]
 try refine st ?_; try exact ⟨⟩
 repeat' (first | ((with_reducible apply ga) <;> refine gs fun h => ?_) | ((with_reducible apply an); · omega) | ((first | refine ok_view ?_ | refine cvA (heldClockS_ok x.Clocks k (by omega) (by omega)) ?_ | refine cvA (heldStringS_ok x.Cuts (mkL (Clock.mk2) x.Clocks k).2 (by omega) (by omega)) ?_ | refine cvA (heldGroupS_ok x.Groups (mkL (mkS) x.Cuts (mkL (Clock.mk2) x.Clocks k).2).2 (by omega) (by omega)) ?_ | refine cvA (heldLockSS_ok x.Locks (mkL (Group.mk2) x.Groups (mkL (mkS) x.Cuts (mkL (Clock.mk2) x.Clocks k).2).2).2 (by omega) (by omega) (by omega)) ?_ | refine cvA (heldIntS_ok x.Promised (mkL (mkL (Lock.mk2)) x.Locks (mkL (Group.mk2) x.Groups (mkL (mkS) x.Cuts (mkL (Clock.mk2) x.Clocks k).2).2).2).2 (by omega) (by omega)) ?_ | refine cvA (heldWorldTxnS_ok x.Txns (mkL (mkI) x.Promised (mkL (mkL (Lock.mk2)) x.Locks (mkL (Group.mk2) x.Groups (mkL (mkS) x.Cuts (mkL (Clock.mk2) x.Clocks k).2).2).2).2).2 (by omega) (by omega)) ?_ | refine cvA (heldWorldLookS_ok x.Looks (mkL (WorldTxn.mk2) x.Txns (mkL (mkI) x.Promised (mkL (mkL (Lock.mk2)) x.Locks (mkL (Group.mk2) x.Groups (mkL (mkS) x.Cuts (mkL (Clock.mk2) x.Clocks k).2).2).2).2).2).2 (by omega) (by omega)) ?_); refine st ?_) | refine jn _ ?_ ?_ | (with_reducible first | apply both | apply an | exact ti) | exact fe | refine st ?_ | exact fm | refine s1 ?_)
 all_goals first | omega | (simp [mkL_len]; done) | rfl
section
variable {α : Type} [Inhabited α] {κ : Type} [DecidableEq κ]
def fxI (lt : κ → κ → Bool) (f : α → κ) (l : List α) (k : κ) : Nat := cntN (fun i => lt (f (nth l i)) k) l.length
def fxF (f : α → κ) (l : List α) (k : κ) : Bool := l.any fun x => decide (f x = k)
def srtX (lt : κ → κ → Bool) (f : α → κ) (l : List α) : Prop := ∀ i j, i < j → j < l.length → lt (f (nth l i)) (f (nth l j)) = true
structure Ord (lt : κ → κ → Bool) (cmp : κ → κ → Int) : Prop where
 neg : ∀ a b, cmp a b < 0 ↔ lt a b = true
 zero : ∀ a b, cmp a b = 0 ↔ a = b
 irr : ∀ a, lt a a = false
 trans : ∀ a b c, lt a b = true → lt b c = true → lt a c = true
 total : ∀ a b, lt a b = true ∨ a = b ∨ lt b a = true
variable {lt : κ → κ → Bool} {cmp : κ → κ → Int} {f : α → κ} {l : List α} {k : κ}
def putAt (l : List α) (i : Nat) (x : α) : List α := l.take i ++ x :: l.drop i
def cutAt (l : List α) (i : Nat) : List α := l.take i ++ l.drop (i + 1)
end
def ltI (a b : Int) : Bool := decide (a < b)
open Go.Proofs.Wb renaming H40 → z0_, T7_x → z1_ in
theorem Clone_Op_ok (l : List Op) (hl : l.length ≤ 2 ^ 20) : ACall p_ 40 [.sl false 4 (l.map (Op.row false))] (fun r _ => r = .sl true 4 (l.map (Op.row false))) := Q12_
open Go.Proofs.Wb renaming H189 → z0_, T7_x → z1_ in
theorem Clone_Write_ok (l : List Write) (hl : l.length ≤ 2 ^ 20) : ACall p_ 189 [.sl false 3 (l.map (Write.row false))] (fun r _ => r = .sl true 3 (l.map (Write.row false))) := Q12_
open Go.Proofs.Wb renaming H37 → z0_, C37 → z1_ in
theorem Clone_String_ok (l : List ByteArray) (hl : l.length ≤ 2 ^ 20) : ACall p_ 37 [.sl false 1 (strs l)] (fun r _ => r = .sl true 1 (strs l)) := Q12_
open Go.Proofs.Wb renaming H140 → z0_, T15_x → z1_, Op.row → z3_, T15_x_l1 → z4_ in
open Go.Am renaming k4_ → z2_ in
theorem IndexFunc_Op_ok (l : List Op) (f : Nat) (caps : List T) (p : Op → Bool) (hent : entB p_ f = true) (hcap : caps.all T.cap = true) (hl : l.length ≤ maxLen) (hp : ∀ x, x ∈ l → ACall p_ f ([.agg (Op.row false x)] ++ caps) (fun r _ => r = bl (p x))) :
  ACall p_ 140 [.sl false 4 (l.map (Op.row false)), .fn f caps] (fun r _ => r = i64 (ixf p l)) := Q13_
open Go.Proofs.Wb renaming H173 → z0_, C173 → z1_, Replica.row → z3_, C173_l1 → z4_ in
open Go.Am renaming k3_ → z2_ in
theorem IndexFunc_Replica_ok (l : List Replica) (f : Nat) (caps : List T) (p : Replica → Bool) (hent : entB p_ f = true) (hcap : caps.all T.cap = true) (hl : l.length ≤ maxLen) (hp : ∀ x, x ∈ l → ACall p_ f ([.agg (Replica.row false x)] ++ caps) (fun r _ => r = bl (p x))) :
  ACall p_ 173 [.sl false 3 (l.map (Replica.row false)), .fn f caps] (fun r _ => r = i64 (ixf p l)) := Q13_
open Go.Proofs.Wb renaming H209 → z0_, T15_x → z1_, Write.row → z3_, T15_x_l1 → z4_ in
open Go.Am renaming k3_ → z2_ in
theorem IndexFunc_Write_ok (l : List Write) (f : Nat) (caps : List T) (p : Write → Bool) (hent : entB p_ f = true) (hcap : caps.all T.cap = true) (hl : l.length ≤ maxLen) (hp : ∀ x, x ∈ l → ACall p_ f ([.agg (Write.row false x)] ++ caps) (fun r _ => r = bl (p x))) :
  ACall p_ 209 [.sl false 3 (l.map (Write.row false)), .fn f caps] (fun r _ => r = i64 (ixf p l)) := Q13_
open Go.Proofs.Wb renaming H111 → z0_, IndexFunc_Op_ok → z1_ in
theorem ContainsFunc_Op_ok (l : List Op) (f : Nat) (caps : List T) (p : Op → Bool) (hent : entB p_ f = true) (hcap : caps.all T.cap = true) (hl : l.length ≤ maxLen) (hp : ∀ x, x ∈ l → ACall p_ f ([.agg (Op.row false x)] ++ caps) (fun r _ => r = bl (p x))) :
  ACall p_ 111 [.sl false 4 (l.map (Op.row false)), .fn f caps] (fun r _ => r = bl (l.any p)) := Q14_
open Go.Proofs.Wb renaming H146 → z0_, IndexFunc_Replica_ok → z1_ in
theorem ContainsFunc_Replica_ok (l : List Replica) (f : Nat) (caps : List T) (p : Replica → Bool) (hent : entB p_ f = true) (hcap : caps.all T.cap = true) (hl : l.length ≤ maxLen) (hp : ∀ x, x ∈ l → ACall p_ f ([.agg (Replica.row false x)] ++ caps) (fun r _ => r = bl (p x))) :
  ACall p_ 146 [.sl false 3 (l.map (Replica.row false)), .fn f caps] (fun r _ => r = bl (l.any p)) := Q14_
open Go.Proofs.Wb renaming H179 → z0_, IndexFunc_Write_ok → z1_ in
theorem ContainsFunc_Write_ok (l : List Write) (f : Nat) (caps : List T) (p : Write → Bool) (hent : entB p_ f = true) (hcap : caps.all T.cap = true) (hl : l.length ≤ maxLen) (hp : ∀ x, x ∈ l → ACall p_ f ([.agg (Write.row false x)] ++ caps) (fun r _ => r = bl (p x))) :
  ACall p_ 179 [.sl false 3 (l.map (Write.row false)), .fn f caps] (fun r _ => r = bl (l.any p)) := Q14_
end Go.Proofs.Wb

import Derived.Test.YtbomnfkdccemmaaGreatFnExactSnapAtTy
import Derived.Laws.Externs
set_option linter.all false
set_option maxHeartbeats 4000000
namespace Go.Proofs.Wb
open Tryz renaming prog → p_
open Go Go.Am
attribute [go_sem] zCz
def dg (k : Int) : ByteArray := bytesOf [[.v (.int .u8 (IntKind.u8.wrap (48 + k % 10)))]]
theorem zR8 (k : Int) : (dg k).size = 1 := rfl
def zM4 (k : Int) (out : ByteArray) : ByteArray := if 0 < k then zM4 (k / 10) (dg k ++ out) else out
termination_by k.toNat
decreasing_by omega
def zDo (k : Int) : ByteArray := if k ≤ 0 then ⟨⟨[109, 48]⟩⟩ else ⟨⟨[109]⟩⟩ ++ zM4 k ⟨⟨[]⟩⟩
theorem zBW (k : Int) (h1 : k ≤ 2 ^ 62) : ACall p_ 50 [i64 k] (fun r _ => r = str (zDo k)) := by
 refine fg H50 fun E hE hH => ?_; simp only [go_sem, hE, hH, C50]
 first | refine zAg (fun h => ?_) (fun h => ?_) | refine zAh (fun h => ?_) (fun h => ?_)
 ·try simp (disch := omega) only [go_sem, hE, hH, h]
  simp only [nf] at h
  simp [zDo, h]
 try simp (disch := omega) only [go_sem, hE, hH, h]
 simp only [nf] at h
 refine zIe (fun (x : Int × ByteArray) => ⟨[(0, i64 x.1), (3, str x.2)], []⟩) (fun x => 0 ≤ x.1 ∧ x.2.size + x.1 ≤ k ∧ zM4 x.1 x.2 = zM4 k ⟨⟨[]⟩⟩) (fun x => x.1.toNat) (k, ⟨⟨[]⟩⟩) ⟨by omega, by change ((0 : Nat) : Int) + k ≤ k; omega, rfl⟩ ?_
 rintro ⟨n, out⟩ ⟨i0, i1, i2⟩
 simp only at i0 i1 i2
 try simp only [go_sem, hE, hH, zUR]
 first | refine zAg (fun hb => ?_) (fun hb => ?_) | refine zAh (fun hb => ?_) (fun hb => ?_)
 ·have hb2 := hb
  simp only [nf] at hb
  have e1 : n.tmod 10 = n % 10 := Int.tmod_eq_emod_of_nonneg i0
  have e2 : n.tdiv 10 = n / 10 := Int.tdiv_eq_ediv_of_nonneg i0
  have e3 : (bytesOf [[.v (.int .u8 (IntKind.u8.wrap (48 + n % 10)))]]) = dg n := rfl
  try simp (disch := omega) only [go_sem, hE, hH, hb2, e1, e2, e3, zR8]
  refine ⟨by omega, by omega, by omega, ⟨n / 10, dg n ++ out⟩, rfl, ⟨by simp only; omega, ?_, ?_⟩, by simp only; omega⟩
  ·rw [ByteArray.size_append, zR8]; simp only; omega
  ·rw [← i2, zM4.eq_1 n out, if_pos (by omega)]
 ·have hb2 := hb
  simp only [nf] at hb
  have e0 : n = 0 := by omega
  subst e0
  rw [zM4, if_neg (by omega)] at i2
  try simp (disch := omega) only [go_sem, hE, hH, hb2]
  rw [zDo, if_neg (by omega), ← i2]
  have e9 : (⟨⟨[109]⟩⟩ : ByteArray).size = 1 := rfl
  exact ⟨by rw [e9]; omega, rfl⟩
def mkS (_ : ByteArray) (k : Int) : ByteArray × Int := (zDo k, k + 1)
def Clock.mk2 (x : Clock) (k : Int) : Clock × Int := (⟨k⟩, (k + 1))
def Clock.cnt (x : Clock) : Nat := 1
theorem Clock.mk2_cnt (x : Clock) (k : Int) : (x.mk2 k).2 = k + (x.cnt : Nat) := by
 simp only [Clock.mk2, Clock.cnt]
 try omega
theorem Clock.cnt_le (x : Clock) : x.cnt ≤ 1 := by
 simp only [Clock.cnt]
 try omega
def Got.mk2 (x : Got) (k : Int) : Got × Int := (⟨zDo k, zDo (k + 1), decide ((((k + 1) + 1)).tmod 3 = 0)⟩, (((k + 1) + 1) + 1))
def Got.cnt (x : Got) : Nat := 1 + 1 + 1
theorem Got.mk2_cnt (x : Got) (k : Int) : (x.mk2 k).2 = k + (x.cnt : Nat) := by
 simp only [Got.mk2, Got.cnt]
 try omega
theorem Got.cnt_le (x : Got) : x.cnt ≤ 3 * (x.sz + 1) := by
 simp only [Got.cnt, Got.sz]
 try omega
def Lock.mk2 (x : Lock) (k : Int) : Lock × Int := (⟨zDo k, (k + 1), decide ((((k + 1) + 1)).tmod 3 = 0)⟩, (((k + 1) + 1) + 1))
def Lock.cnt (x : Lock) : Nat := 1 + 1 + 1
theorem Lock.mk2_cnt (x : Lock) (k : Int) : (x.mk2 k).2 = k + (x.cnt : Nat) := by
 simp only [Lock.mk2, Lock.cnt]
 try omega
theorem Lock.cnt_le (x : Lock) : x.cnt ≤ 3 * (x.sz + 1) := by
 simp only [Lock.cnt, Lock.sz]
 try omega
def Op.mk2 (x : Op) (k : Int) : Op × Int := (⟨k, zDo (k + 1), zDo ((k + 1) + 1), (((k + 1) + 1) + 1)⟩, ((((k + 1) + 1) + 1) + 1))
def Op.cnt (x : Op) : Nat := 1 + 1 + 1 + 1
theorem Op.mk2_cnt (x : Op) (k : Int) : (x.mk2 k).2 = k + (x.cnt : Nat) := by
 simp only [Op.mk2, Op.cnt]
 try omega
theorem Op.cnt_le (x : Op) : x.cnt ≤ 4 * (x.sz + 1) := by
 simp only [Op.cnt, Op.sz]
 try omega
def Write.mk2 (x : Write) (k : Int) : Write × Int := (⟨zDo k, zDo (k + 1), decide ((((k + 1) + 1)).tmod 3 = 0)⟩, (((k + 1) + 1) + 1))
def Write.cnt (x : Write) : Nat := 1 + 1 + 1
theorem Write.mk2_cnt (x : Write) (k : Int) : (x.mk2 k).2 = k + (x.cnt : Nat) := by
 simp only [Write.mk2, Write.cnt]
 try omega
theorem Write.cnt_le (x : Write) : x.cnt ≤ 3 * (x.sz + 1) := by
 simp only [Write.cnt, Write.sz]
 try omega
def WorldLook.mk2 (x : WorldLook) (k : Int) : WorldLook × Int := (⟨k, (mkL (mkS) x.Keys (k + 1)).1, (mkL (Got.mk2) x.Got (mkL (mkS) x.Keys (k + 1)).2).1, (mkL (Got.mk2) x.Got (mkL (mkS) x.Keys (k + 1)).2).2, ((mkL (Got.mk2) x.Got (mkL (mkS) x.Keys (k + 1)).2).2 + 1), (((mkL (Got.mk2) x.Got (mkL (mkS) x.Keys (k + 1)).2).2 + 1) + 1)⟩, ((((mkL (Got.mk2) x.Got (mkL (mkS) x.Keys (k + 1)).2).2 + 1) + 1) + 1))
def WorldLook.cnt (x : WorldLook) : Nat := 1 + zAI (fun _ => 1) x.Keys + zAI (Got.cnt) x.Got + 1 + 1 + 1
theorem WorldLook.mk2_cnt (x : WorldLook) (k : Int) : (x.mk2 k).2 = k + (x.cnt : Nat) := by
 simp only [WorldLook.mk2, WorldLook.cnt, zAs (f := mkS) (c := fun _ => 1) (fun _ _ => rfl), zAs (f := Got.mk2) (c := Got.cnt) (Got.mk2_cnt)]
 try omega
theorem WorldLook.cnt_le (x : WorldLook) : x.cnt ≤ 8 * (x.sz + 1) := by
 have c_Keys := zA7 (c := fun _ => 1) (s := ByteArray.size) (A := 1) (fun x => by omega) (l := x.Keys)
 have c_Got := zA7 (c := Got.cnt) (s := Got.sz) (A := 3) Got.cnt_le (l := x.Got)
 simp only [WorldLook.cnt, WorldLook.sz]
 try omega
def WorldLook.mkv (x : WorldLook) (k : Int) : WorldLook × Int := (⟨x.Node, (mkL (mkS) x.Keys k).1, (mkL (Got.mk2) x.Got (mkL (mkS) x.Keys k).2).1, x.Time, x.Begin, x.End⟩, (mkL (Got.mk2) x.Got (mkL (mkS) x.Keys k).2).2)
def WorldLook.cntv (x : WorldLook) : Nat := zAI (fun _ => 1) x.Keys + zAI (Got.cnt) x.Got
theorem WorldLook.mkv_cnt (x : WorldLook) (k : Int) : (x.mkv k).2 = k + (x.cntv : Nat) := by
 simp only [WorldLook.mkv, WorldLook.cntv, zAs (f := mkS) (c := fun _ => 1) (fun _ _ => rfl), zAs (f := Got.mk2) (c := Got.cnt) (Got.mk2_cnt)]
 try omega
theorem WorldLook.cntv_le (x : WorldLook) : x.cntv ≤ 8 * (x.sz + 1) := by
 have c_Keys := zA7 (c := fun _ => 1) (s := ByteArray.size) (A := 1) (fun x => by omega) (l := x.Keys)
 have c_Got := zA7 (c := Got.cnt) (s := Got.sz) (A := 3) Got.cnt_le (l := x.Got)
 simp only [WorldLook.cntv, WorldLook.sz]
 try omega
@[go_sem] theorem WorldLook.mkv_at_Node (x : WorldLook) (k : Int) : (x.mkv k).1.Node = x.Node := rfl
@[go_sem] theorem WorldLook.mkv_len_Keys (x : WorldLook) (k : Int) : (x.mkv k).1.Keys.length = x.Keys.length := zAz
@[go_sem] theorem WorldLook.mkv_take_Keys (x : WorldLook) (k : Int) : (x.mkv k).1.Keys.take x.Keys.length = (x.mkv k).1.Keys := zBt
@[go_sem] theorem WorldLook.mkv_len_Got (x : WorldLook) (k : Int) : (x.mkv k).1.Got.length = x.Got.length := zAz
@[go_sem] theorem WorldLook.mkv_take_Got (x : WorldLook) (k : Int) : (x.mkv k).1.Got.take x.Got.length = (x.mkv k).1.Got := zBt
@[go_sem] theorem WorldLook.mkv_at_Time (x : WorldLook) (k : Int) : (x.mkv k).1.Time = x.Time := rfl
@[go_sem] theorem WorldLook.mkv_at_Begin (x : WorldLook) (k : Int) : (x.mkv k).1.Begin = x.Begin := rfl
@[go_sem] theorem WorldLook.mkv_at_End (x : WorldLook) (k : Int) : (x.mkv k).1.End = x.End := rfl
def WorldTxn.mk2 (x : WorldTxn) (k : Int) : WorldTxn × Int := (⟨(mkL (Op.mk2) x.Ops k).1, (mkL (Got.mk2) x.Got (mkL (Op.mk2) x.Ops k).2).1, (mkL (mkI) x.Terms (mkL (Got.mk2) x.Got (mkL (Op.mk2) x.Ops k).2).2).1, (mkL (mkI) x.Terms (mkL (Got.mk2) x.Got (mkL (Op.mk2) x.Ops k).2).2).2, ((mkL (mkI) x.Terms (mkL (Got.mk2) x.Got (mkL (Op.mk2) x.Ops k).2).2).2 + 1), decide (((((mkL (mkI) x.Terms (mkL (Got.mk2) x.Got (mkL (Op.mk2) x.Ops k).2).2).2 + 1) + 1)).tmod 3 = 0), ((((mkL (mkI) x.Terms (mkL (Got.mk2) x.Got (mkL (Op.mk2) x.Ops k).2).2).2 + 1) + 1) + 1), decide (((((((mkL (mkI) x.Terms (mkL (Got.mk2) x.Got (mkL (Op.mk2) x.Ops k).2).2).2 + 1) + 1) + 1) + 1)).tmod 3 = 0), decide ((((((((mkL (mkI) x.Terms (mkL (Got.mk2) x.Got (mkL (Op.mk2) x.Ops k).2).2).2 + 1) + 1) + 1) + 1) + 1)).tmod 3 = 0), decide (((((((((mkL (mkI) x.Terms (mkL (Got.mk2) x.Got (mkL (Op.mk2) x.Ops k).2).2).2 + 1) + 1) + 1) + 1) + 1) + 1)).tmod 3 = 0)⟩, ((((((((mkL (mkI) x.Terms (mkL (Got.mk2) x.Got (mkL (Op.mk2) x.Ops k).2).2).2 + 1) + 1) + 1) + 1) + 1) + 1) + 1))
def WorldTxn.cnt (x : WorldTxn) : Nat := zAI (Op.cnt) x.Ops + zAI (Got.cnt) x.Got + zAI (fun _ => 1) x.Terms + 1 + 1 + 1 + 1 + 1 + 1 + 1
theorem WorldTxn.mk2_cnt (x : WorldTxn) (k : Int) : (x.mk2 k).2 = k + (x.cnt : Nat) := by
 simp only [WorldTxn.mk2, WorldTxn.cnt, zAs (f := Op.mk2) (c := Op.cnt) (Op.mk2_cnt), zAs (f := Got.mk2) (c := Got.cnt) (Got.mk2_cnt), zAs (f := mkI) (c := fun _ => 1) (fun _ _ => rfl)]
 try omega
theorem WorldTxn.cnt_le (x : WorldTxn) : x.cnt ≤ 15 * (x.sz + 1) := by
 have c_Ops := zA7 (c := Op.cnt) (s := Op.sz) (A := 4) Op.cnt_le (l := x.Ops)
 have c_Got := zA7 (c := Got.cnt) (s := Got.sz) (A := 3) Got.cnt_le (l := x.Got)
 have c_Terms := zIj (c := fun _ => 1) (A := 1) (fun x => by simp) (l := x.Terms)
 simp only [WorldTxn.cnt, WorldTxn.sz]
 try omega
def WorldTxn.mkv (x : WorldTxn) (k : Int) : WorldTxn × Int := (⟨(mkL (Op.mk2) x.Ops k).1, (mkL (Got.mk2) x.Got (mkL (Op.mk2) x.Ops k).2).1, (mkL (mkI) x.Terms (mkL (Got.mk2) x.Got (mkL (Op.mk2) x.Ops k).2).2).1, x.Begin, x.End, x.Yes, x.Time, x.Dead, x.Put, x.Stopped⟩, (mkL (mkI) x.Terms (mkL (Got.mk2) x.Got (mkL (Op.mk2) x.Ops k).2).2).2)
def WorldTxn.cntv (x : WorldTxn) : Nat := zAI (Op.cnt) x.Ops + zAI (Got.cnt) x.Got + zAI (fun _ => 1) x.Terms
theorem WorldTxn.mkv_cnt (x : WorldTxn) (k : Int) : (x.mkv k).2 = k + (x.cntv : Nat) := by
 simp only [WorldTxn.mkv, WorldTxn.cntv, zAs (f := Op.mk2) (c := Op.cnt) (Op.mk2_cnt), zAs (f := Got.mk2) (c := Got.cnt) (Got.mk2_cnt), zAs (f := mkI) (c := fun _ => 1) (fun _ _ => rfl)]
 try omega
theorem WorldTxn.cntv_le (x : WorldTxn) : x.cntv ≤ 15 * (x.sz + 1) := by
 have c_Ops := zA7 (c := Op.cnt) (s := Op.sz) (A := 4) Op.cnt_le (l := x.Ops)
 have c_Got := zA7 (c := Got.cnt) (s := Got.sz) (A := 3) Got.cnt_le (l := x.Got)
 have c_Terms := zIj (c := fun _ => 1) (A := 1) (fun x => by simp) (l := x.Terms)
 simp only [WorldTxn.cntv, WorldTxn.sz]
 try omega
@[go_sem] theorem WorldTxn.mkv_len_Ops (x : WorldTxn) (k : Int) : (x.mkv k).1.Ops.length = x.Ops.length := zAz
@[go_sem] theorem WorldTxn.mkv_take_Ops (x : WorldTxn) (k : Int) : (x.mkv k).1.Ops.take x.Ops.length = (x.mkv k).1.Ops := zBt
@[go_sem] theorem WorldTxn.mkv_len_Got (x : WorldTxn) (k : Int) : (x.mkv k).1.Got.length = x.Got.length := zAz
@[go_sem] theorem WorldTxn.mkv_take_Got (x : WorldTxn) (k : Int) : (x.mkv k).1.Got.take x.Got.length = (x.mkv k).1.Got := zBt
@[go_sem] theorem WorldTxn.mkv_len_Terms (x : WorldTxn) (k : Int) : (x.mkv k).1.Terms.length = x.Terms.length := zAz
@[go_sem] theorem WorldTxn.mkv_take_Terms (x : WorldTxn) (k : Int) : (x.mkv k).1.Terms.take x.Terms.length = (x.mkv k).1.Terms := zBt
@[go_sem] theorem WorldTxn.mkv_at_Begin (x : WorldTxn) (k : Int) : (x.mkv k).1.Begin = x.Begin := rfl
@[go_sem] theorem WorldTxn.mkv_at_End (x : WorldTxn) (k : Int) : (x.mkv k).1.End = x.End := rfl
@[go_sem] theorem WorldTxn.mkv_at_Yes (x : WorldTxn) (k : Int) : (x.mkv k).1.Yes = x.Yes := rfl
@[go_sem] theorem WorldTxn.mkv_at_Time (x : WorldTxn) (k : Int) : (x.mkv k).1.Time = x.Time := rfl
@[go_sem] theorem WorldTxn.mkv_at_Dead (x : WorldTxn) (k : Int) : (x.mkv k).1.Dead = x.Dead := rfl
@[go_sem] theorem WorldTxn.mkv_at_Put (x : WorldTxn) (k : Int) : (x.mkv k).1.Put = x.Put := rfl
@[go_sem] theorem WorldTxn.mkv_at_Stopped (x : WorldTxn) (k : Int) : (x.mkv k).1.Stopped = x.Stopped := rfl
def Rec.mk2 (x : Rec) (k : Int) : Rec × Int := (⟨k, (k + 1), ((k + 1) + 1), (((k + 1) + 1) + 1), (mkL (mkS) x.Reads ((((k + 1) + 1) + 1) + 1)).1, (mkL (Write.mk2) x.Writes (mkL (mkS) x.Reads ((((k + 1) + 1) + 1) + 1)).2).1, decide (((mkL (Write.mk2) x.Writes (mkL (mkS) x.Reads ((((k + 1) + 1) + 1) + 1)).2).2).tmod 3 = 0)⟩, ((mkL (Write.mk2) x.Writes (mkL (mkS) x.Reads ((((k + 1) + 1) + 1) + 1)).2).2 + 1))
def Rec.cnt (x : Rec) : Nat := 1 + 1 + 1 + 1 + zAI (fun _ => 1) x.Reads + zAI (Write.cnt) x.Writes + 1
theorem Rec.mk2_cnt (x : Rec) (k : Int) : (x.mk2 k).2 = k + (x.cnt : Nat) := by
 simp only [Rec.mk2, Rec.cnt, zAs (f := mkS) (c := fun _ => 1) (fun _ _ => rfl), zAs (f := Write.mk2) (c := Write.cnt) (Write.mk2_cnt)]
 try omega
theorem Rec.cnt_le (x : Rec) : x.cnt ≤ 9 * (x.sz + 1) := by
 have c_Reads := zA7 (c := fun _ => 1) (s := ByteArray.size) (A := 1) (fun x => by omega) (l := x.Reads)
 have c_Writes := zA7 (c := Write.cnt) (s := Write.sz) (A := 3) Write.cnt_le (l := x.Writes)
 simp only [Rec.cnt, Rec.sz]
 try omega
def Rec.mkv (x : Rec) (k : Int) : Rec × Int := (⟨x.Kind, x.Txn, x.Time, x.Lead, (mkL (mkS) x.Reads k).1, (mkL (Write.mk2) x.Writes (mkL (mkS) x.Reads k).2).1, x.Yes⟩, (mkL (Write.mk2) x.Writes (mkL (mkS) x.Reads k).2).2)
def Rec.cntv (x : Rec) : Nat := zAI (fun _ => 1) x.Reads + zAI (Write.cnt) x.Writes
theorem Rec.mkv_cnt (x : Rec) (k : Int) : (x.mkv k).2 = k + (x.cntv : Nat) := by
 simp only [Rec.mkv, Rec.cntv, zAs (f := mkS) (c := fun _ => 1) (fun _ _ => rfl), zAs (f := Write.mk2) (c := Write.cnt) (Write.mk2_cnt)]
 try omega
theorem Rec.cntv_le (x : Rec) : x.cntv ≤ 9 * (x.sz + 1) := by
 have c_Reads := zA7 (c := fun _ => 1) (s := ByteArray.size) (A := 1) (fun x => by omega) (l := x.Reads)
 have c_Writes := zA7 (c := Write.cnt) (s := Write.sz) (A := 3) Write.cnt_le (l := x.Writes)
 simp only [Rec.cntv, Rec.sz]
 try omega
@[go_sem] theorem Rec.mkv_at_Kind (x : Rec) (k : Int) : (x.mkv k).1.Kind = x.Kind := rfl
@[go_sem] theorem Rec.mkv_at_Txn (x : Rec) (k : Int) : (x.mkv k).1.Txn = x.Txn := rfl
@[go_sem] theorem Rec.mkv_at_Time (x : Rec) (k : Int) : (x.mkv k).1.Time = x.Time := rfl
@[go_sem] theorem Rec.mkv_at_Lead (x : Rec) (k : Int) : (x.mkv k).1.Lead = x.Lead := rfl
@[go_sem] theorem Rec.mkv_len_Reads (x : Rec) (k : Int) : (x.mkv k).1.Reads.length = x.Reads.length := zAz
@[go_sem] theorem Rec.mkv_take_Reads (x : Rec) (k : Int) : (x.mkv k).1.Reads.take x.Reads.length = (x.mkv k).1.Reads := zBt
@[go_sem] theorem Rec.mkv_len_Writes (x : Rec) (k : Int) : (x.mkv k).1.Writes.length = x.Writes.length := zAz
@[go_sem] theorem Rec.mkv_take_Writes (x : Rec) (k : Int) : (x.mkv k).1.Writes.take x.Writes.length = (x.mkv k).1.Writes := zBt
@[go_sem] theorem Rec.mkv_at_Yes (x : Rec) (k : Int) : (x.mkv k).1.Yes = x.Yes := rfl
def Entry.mk2 (x : Entry) (k : Int) : Entry × Int := (⟨k, (Rec.mk2 x.Rec (k + 1)).1⟩, (Rec.mk2 x.Rec (k + 1)).2)
def Entry.cnt (x : Entry) : Nat := 1 + x.Rec.cnt
theorem Entry.mk2_cnt (x : Entry) (k : Int) : (x.mk2 k).2 = k + (x.cnt : Nat) := by
 simp only [Entry.mk2, Entry.cnt, Rec.mk2_cnt]
 try omega
theorem Entry.cnt_le (x : Entry) : x.cnt ≤ 10 * (x.sz + 1) := by
 have c_Rec := Rec.cnt_le x.Rec
 simp only [Entry.cnt, Entry.sz]
 try omega
def Entry.mkv (x : Entry) (k : Int) : Entry × Int := (⟨x.Term, (Rec.mkv x.Rec k).1⟩, (Rec.mkv x.Rec k).2)
def Entry.cntv (x : Entry) : Nat := x.Rec.cntv
theorem Entry.mkv_cnt (x : Entry) (k : Int) : (x.mkv k).2 = k + (x.cntv : Nat) := by
 simp only [Entry.mkv, Entry.cntv, Rec.mkv_cnt]
 try omega
theorem Entry.cntv_le (x : Entry) : x.cntv ≤ 10 * (x.sz + 1) := by
 have c_Rec := Rec.cntv_le x.Rec
 simp only [Entry.cntv, Entry.sz]
 try omega
@[go_sem] theorem Entry.mkv_at_Term (x : Entry) (k : Int) : (x.mkv k).1.Term = x.Term := rfl
@[go_sem] theorem Entry.mkv_at_Rec (x : Entry) (k : Int) : (x.mkv k).1.Rec = (x.Rec.mkv k).1 := rfl
def Replica.mk2 (x : Replica) (k : Int) : Replica × Int := (⟨decide ((k).tmod 3 = 0), (mkL (Entry.mk2) x.Log (k + 1)).1, (mkL (Entry.mk2) x.Log (k + 1)).2⟩, ((mkL (Entry.mk2) x.Log (k + 1)).2 + 1))
def Replica.cnt (x : Replica) : Nat := 1 + zAI (Entry.cnt) x.Log + 1
theorem Replica.mk2_cnt (x : Replica) (k : Int) : (x.mk2 k).2 = k + (x.cnt : Nat) := by
 simp only [Replica.mk2, Replica.cnt, zAs (f := Entry.mk2) (c := Entry.cnt) (Entry.mk2_cnt)]
 try omega
theorem Replica.cnt_le (x : Replica) : x.cnt ≤ 12 * (x.sz + 1) := by
 have c_Log := zA7 (c := Entry.cnt) (s := Entry.sz) (A := 10) Entry.cnt_le (l := x.Log)
 simp only [Replica.cnt, Replica.sz]
 try omega
def Replica.mkv (x : Replica) (k : Int) : Replica × Int := (⟨x.Up, (mkL (Entry.mk2) x.Log k).1, x.Sure⟩, (mkL (Entry.mk2) x.Log k).2)
def Replica.cntv (x : Replica) : Nat := zAI (Entry.cnt) x.Log
theorem Replica.mkv_cnt (x : Replica) (k : Int) : (x.mkv k).2 = k + (x.cntv : Nat) := by
 simp only [Replica.mkv, Replica.cntv, zAs (f := Entry.mk2) (c := Entry.cnt) (Entry.mk2_cnt)]
 try omega
theorem Replica.cntv_le (x : Replica) : x.cntv ≤ 12 * (x.sz + 1) := by
 have c_Log := zA7 (c := Entry.cnt) (s := Entry.sz) (A := 10) Entry.cnt_le (l := x.Log)
 simp only [Replica.cntv, Replica.sz]
 try omega
@[go_sem] theorem Replica.mkv_at_Up (x : Replica) (k : Int) : (x.mkv k).1.Up = x.Up := rfl
@[go_sem] theorem Replica.mkv_len_Log (x : Replica) (k : Int) : (x.mkv k).1.Log.length = x.Log.length := zAz
@[go_sem] theorem Replica.mkv_take_Log (x : Replica) (k : Int) : (x.mkv k).1.Log.take x.Log.length = (x.mkv k).1.Log := zBt
@[go_sem] theorem Replica.mkv_at_Sure (x : Replica) (k : Int) : (x.mkv k).1.Sure = x.Sure := rfl
def Group.mk2 (x : Group) (k : Int) : Group × Int := (⟨(mkL (Replica.mk2) x.Reps k).1, (mkL (Replica.mk2) x.Reps k).2, ((mkL (Replica.mk2) x.Reps k).2 + 1)⟩, (((mkL (Replica.mk2) x.Reps k).2 + 1) + 1))
def Group.cnt (x : Group) : Nat := zAI (Replica.cnt) x.Reps + 1 + 1
theorem Group.mk2_cnt (x : Group) (k : Int) : (x.mk2 k).2 = k + (x.cnt : Nat) := by
 simp only [Group.mk2, Group.cnt, zAs (f := Replica.mk2) (c := Replica.cnt) (Replica.mk2_cnt)]
 try omega
theorem Group.cnt_le (x : Group) : x.cnt ≤ 14 * (x.sz + 1) := by
 have c_Reps := zA7 (c := Replica.cnt) (s := Replica.sz) (A := 12) Replica.cnt_le (l := x.Reps)
 simp only [Group.cnt, Group.sz]
 try omega
def Group.mkv (x : Group) (k : Int) : Group × Int := (⟨(mkL (Replica.mk2) x.Reps k).1, x.Term, x.Lead⟩, (mkL (Replica.mk2) x.Reps k).2)
def Group.cntv (x : Group) : Nat := zAI (Replica.cnt) x.Reps
theorem Group.mkv_cnt (x : Group) (k : Int) : (x.mkv k).2 = k + (x.cntv : Nat) := by
 simp only [Group.mkv, Group.cntv, zAs (f := Replica.mk2) (c := Replica.cnt) (Replica.mk2_cnt)]
 try omega
theorem Group.cntv_le (x : Group) : x.cntv ≤ 14 * (x.sz + 1) := by
 have c_Reps := zA7 (c := Replica.cnt) (s := Replica.sz) (A := 12) Replica.cnt_le (l := x.Reps)
 simp only [Group.cntv, Group.sz]
 try omega
@[go_sem] theorem Group.mkv_len_Reps (x : Group) (k : Int) : (x.mkv k).1.Reps.length = x.Reps.length := zAz
@[go_sem] theorem Group.mkv_take_Reps (x : Group) (k : Int) : (x.mkv k).1.Reps.take x.Reps.length = (x.mkv k).1.Reps := zBt
@[go_sem] theorem Group.mkv_at_Term (x : Group) (k : Int) : (x.mkv k).1.Term = x.Term := rfl
@[go_sem] theorem Group.mkv_at_Lead (x : Group) (k : Int) : (x.mkv k).1.Lead = x.Lead := rfl
def World.mk2 (x : World) (k : Int) : World × Int := (⟨k, (k + 1), (mkL (Clock.mk2) x.Clocks ((k + 1) + 1)).1, (mkL (mkS) x.Cuts (mkL (Clock.mk2) x.Clocks ((k + 1) + 1)).2).1, (mkL (Group.mk2) x.Groups (mkL (mkS) x.Cuts (mkL (Clock.mk2) x.Clocks ((k + 1) + 1)).2).2).1, (mkL (mkL (Lock.mk2)) x.Locks (mkL (Group.mk2) x.Groups (mkL (mkS) x.Cuts (mkL (Clock.mk2) x.Clocks ((k + 1) + 1)).2).2).2).1, (mkL (mkI) x.Promised (mkL (mkL (Lock.mk2)) x.Locks (mkL (Group.mk2) x.Groups (mkL (mkS) x.Cuts (mkL (Clock.mk2) x.Clocks ((k + 1) + 1)).2).2).2).2).1, (mkL (WorldTxn.mk2) x.Txns (mkL (mkI) x.Promised (mkL (mkL (Lock.mk2)) x.Locks (mkL (Group.mk2) x.Groups (mkL (mkS) x.Cuts (mkL (Clock.mk2) x.Clocks ((k + 1) + 1)).2).2).2).2).2).1, (mkL (WorldLook.mk2) x.Looks (mkL (WorldTxn.mk2) x.Txns (mkL (mkI) x.Promised (mkL (mkL (Lock.mk2)) x.Locks (mkL (Group.mk2) x.Groups (mkL (mkS) x.Cuts (mkL (Clock.mk2) x.Clocks ((k + 1) + 1)).2).2).2).2).2).2).1⟩, (mkL (WorldLook.mk2) x.Looks (mkL (WorldTxn.mk2) x.Txns (mkL (mkI) x.Promised (mkL (mkL (Lock.mk2)) x.Locks (mkL (Group.mk2) x.Groups (mkL (mkS) x.Cuts (mkL (Clock.mk2) x.Clocks ((k + 1) + 1)).2).2).2).2).2).2).2)
def World.cnt (x : World) : Nat := 1 + 1 + zAI (Clock.cnt) x.Clocks + zAI (fun _ => 1) x.Cuts + zAI (Group.cnt) x.Groups + zAI (zAI (Lock.cnt)) x.Locks + zAI (fun _ => 1) x.Promised + zAI (WorldTxn.cnt) x.Txns + zAI (WorldLook.cnt) x.Looks
open Go.Proofs.Wb renaming World.mk2 → z0_, World.cnt → z1_ in
theorem World.mk2_cnt (x : World) (k : Int) : (x.mk2 k).2 = k + (x.cnt : Nat) := Q10_
open Go.Proofs.Wb renaming World.cnt → z0_ in
theorem World.cnt_le (x : World) : x.cnt ≤ 45 * (x.sz + 1) := Q11_
def World.mkv (x : World) (k : Int) : World × Int := (⟨x.Now, x.Count, (mkL (Clock.mk2) x.Clocks k).1, (mkL (mkS) x.Cuts (mkL (Clock.mk2) x.Clocks k).2).1, (mkL (Group.mk2) x.Groups (mkL (mkS) x.Cuts (mkL (Clock.mk2) x.Clocks k).2).2).1, (mkL (mkL (Lock.mk2)) x.Locks (mkL (Group.mk2) x.Groups (mkL (mkS) x.Cuts (mkL (Clock.mk2) x.Clocks k).2).2).2).1, (mkL (mkI) x.Promised (mkL (mkL (Lock.mk2)) x.Locks (mkL (Group.mk2) x.Groups (mkL (mkS) x.Cuts (mkL (Clock.mk2) x.Clocks k).2).2).2).2).1, (mkL (WorldTxn.mk2) x.Txns (mkL (mkI) x.Promised (mkL (mkL (Lock.mk2)) x.Locks (mkL (Group.mk2) x.Groups (mkL (mkS) x.Cuts (mkL (Clock.mk2) x.Clocks k).2).2).2).2).2).1, (mkL (WorldLook.mk2) x.Looks (mkL (WorldTxn.mk2) x.Txns (mkL (mkI) x.Promised (mkL (mkL (Lock.mk2)) x.Locks (mkL (Group.mk2) x.Groups (mkL (mkS) x.Cuts (mkL (Clock.mk2) x.Clocks k).2).2).2).2).2).2).1⟩, (mkL (WorldLook.mk2) x.Looks (mkL (WorldTxn.mk2) x.Txns (mkL (mkI) x.Promised (mkL (mkL (Lock.mk2)) x.Locks (mkL (Group.mk2) x.Groups (mkL (mkS) x.Cuts (mkL (Clock.mk2) x.Clocks k).2).2).2).2).2).2).2)
def World.cntv (x : World) : Nat := zAI (Clock.cnt) x.Clocks + zAI (fun _ => 1) x.Cuts + zAI (Group.cnt) x.Groups + zAI (zAI (Lock.cnt)) x.Locks + zAI (fun _ => 1) x.Promised + zAI (WorldTxn.cnt) x.Txns + zAI (WorldLook.cnt) x.Looks
open Go.Proofs.Wb renaming World.mkv → z0_, World.cntv → z1_ in
theorem World.mkv_cnt (x : World) (k : Int) : (x.mkv k).2 = k + (x.cntv : Nat) := Q10_
open Go.Proofs.Wb renaming World.cntv → z0_ in
theorem World.cntv_le (x : World) : x.cntv ≤ 45 * (x.sz + 1) := Q11_
@[go_sem] theorem World.mkv_at_Now (x : World) (k : Int) : (x.mkv k).1.Now = x.Now := rfl
@[go_sem] theorem World.mkv_at_Count (x : World) (k : Int) : (x.mkv k).1.Count = x.Count := rfl
@[go_sem] theorem World.mkv_len_Clocks (x : World) (k : Int) : (x.mkv k).1.Clocks.length = x.Clocks.length := zAz
@[go_sem] theorem World.mkv_take_Clocks (x : World) (k : Int) : (x.mkv k).1.Clocks.take x.Clocks.length = (x.mkv k).1.Clocks := zBt
@[go_sem] theorem World.mkv_len_Cuts (x : World) (k : Int) : (x.mkv k).1.Cuts.length = x.Cuts.length := zAz
@[go_sem] theorem World.mkv_take_Cuts (x : World) (k : Int) : (x.mkv k).1.Cuts.take x.Cuts.length = (x.mkv k).1.Cuts := zBt
@[go_sem] theorem World.mkv_len_Groups (x : World) (k : Int) : (x.mkv k).1.Groups.length = x.Groups.length := zAz
@[go_sem] theorem World.mkv_take_Groups (x : World) (k : Int) : (x.mkv k).1.Groups.take x.Groups.length = (x.mkv k).1.Groups := zBt
@[go_sem] theorem World.mkv_len_Locks (x : World) (k : Int) : (x.mkv k).1.Locks.length = x.Locks.length := zAz
@[go_sem] theorem World.mkv_take_Locks (x : World) (k : Int) : (x.mkv k).1.Locks.take x.Locks.length = (x.mkv k).1.Locks := zBt
@[go_sem] theorem World.mkv_len_Promised (x : World) (k : Int) : (x.mkv k).1.Promised.length = x.Promised.length := zAz
@[go_sem] theorem World.mkv_take_Promised (x : World) (k : Int) : (x.mkv k).1.Promised.take x.Promised.length = (x.mkv k).1.Promised := zBt
@[go_sem] theorem World.mkv_len_Txns (x : World) (k : Int) : (x.mkv k).1.Txns.length = x.Txns.length := zAz
@[go_sem] theorem World.mkv_take_Txns (x : World) (k : Int) : (x.mkv k).1.Txns.take x.Txns.length = (x.mkv k).1.Txns := zBt
@[go_sem] theorem World.mkv_len_Looks (x : World) (k : Int) : (x.mkv k).1.Looks.length = x.Looks.length := zAz
@[go_sem] theorem World.mkv_take_Looks (x : World) (k : Int) : (x.mkv k).1.Looks.take x.Looks.length = (x.mkv k).1.Looks := zBt
open Go.Proofs.Wb renaming H47 → z0_, C47 → z1_, zUO → z4_ in
open Go.Am renaming mkI → z2_, ints → z3_ in
theorem zKz (l : List Int) (k : Int) (h0 : 0 ≤ k) (h1 : k + (zAI (fun _ => 1) l : Nat) ≤ 2 ^ 62) : ACall p_ 47 [.sl true 1 (ints l), i64 k] (fun r a => r = i64 (mkL (mkI) l k).2 ∧ a = [.sl true 1 (ints (mkL (mkI) l k).1), i64 k]) := Q12_
open Go.Proofs.Wb renaming H44 → z0_, C44 → z1_, mkS → z2_, zUL → z4_ in
open Go.Am renaming strs → z3_ in
theorem zEZ (l : List ByteArray) (k : Int) (h0 : 0 ≤ k) (h1 : k + (zAI (fun _ => 1) l : Nat) ≤ 2 ^ 62) : ACall p_ 44 [.sl true 1 (strs l), i64 k] (fun r a => r = i64 (mkL (mkS) l k).2 ∧ a = [.sl true 1 (strs (mkL (mkS) l k).1), i64 k]) := Q12_
open Go.Proofs.Wb renaming H43 → z0_, C43 → z1_, Clock.mk2 → z2_, Clock.row → z4_, Clock.cnt → z5_, Clock.mk2_cnt → z6_, zUK → z7_ in
open Go.Am renaming k1_ → z3_ in
theorem zOm (l : List Clock) (k : Int) (h0 : 0 ≤ k) (h1 : k + (zAI (Clock.cnt) l : Nat) ≤ 2 ^ 62) : ACall p_ 43 [.sl true 1 (l.map (Clock.row true)), i64 k] (fun r a => r = i64 (mkL (Clock.mk2) l k).2 ∧ a = [.sl true 1 ((mkL (Clock.mk2) l k).1.map (Clock.row true)), i64 k]) := zQs
open Go.Proofs.Wb renaming H97 → z0_, zST → z1_, Got.mk2 → z2_, Got.row → z4_, Got.cnt → z5_, Got.mk2_cnt → z6_, zMQ → z7_ in
open Go.Am renaming k3_ → z3_ in
theorem zKA (l : List Got) (k : Int) (h0 : 0 ≤ k) (h1 : k + (zAI (Got.cnt) l : Nat) ≤ 2 ^ 62) : ACall p_ 97 [.sl true 3 (l.map (Got.row true)), i64 k] (fun r a => r = i64 (mkL (Got.mk2) l k).2 ∧ a = [.sl true 3 ((mkL (Got.mk2) l k).1.map (Got.row true)), i64 k]) := zQs
open Go.Proofs.Wb renaming H95 → z0_, C95 → z1_, Lock.mk2 → z2_, Lock.row → z4_, Lock.cnt → z5_, Lock.mk2_cnt → z6_, zU4 → z7_ in
open Go.Am renaming k3_ → z3_ in
theorem zPN (l : List Lock) (k : Int) (h0 : 0 ≤ k) (h1 : k + (zAI (Lock.cnt) l : Nat) ≤ 2 ^ 62) : ACall p_ 95 [.sl true 3 (l.map (Lock.row true)), i64 k] (fun r a => r = i64 (mkL (Lock.mk2) l k).2 ∧ a = [.sl true 3 ((mkL (Lock.mk2) l k).1.map (Lock.row true)), i64 k]) := zQs
open Go.Proofs.Wb renaming H96 → z0_, C96 → z1_, Op.mk2 → z2_, Op.row → z4_, Op.cnt → z5_, Op.mk2_cnt → z6_, zU5 → z7_ in
open Go.Am renaming k4_ → z3_ in
theorem zTc (l : List Op) (k : Int) (h0 : 0 ≤ k) (h1 : k + (zAI (Op.cnt) l : Nat) ≤ 2 ^ 62) : ACall p_ 96 [.sl true 4 (l.map (Op.row true)), i64 k] (fun r a => r = i64 (mkL (Op.mk2) l k).2 ∧ a = [.sl true 4 ((mkL (Op.mk2) l k).1.map (Op.row true)), i64 k]) := zQs
open Go.Proofs.Wb renaming H11 → z0_, zST → z1_, Write.mk2 → z2_, Write.row → z4_, Write.cnt → z5_, Write.mk2_cnt → z6_, zMQ → z7_ in
open Go.Am renaming k3_ → z3_ in
theorem zIL (l : List Write) (k : Int) (h0 : 0 ≤ k) (h1 : k + (zAI (Write.cnt) l : Nat) ≤ 2 ^ 62) : ACall p_ 11 [.sl true 3 (l.map (Write.row true)), i64 k] (fun r a => r = i64 (mkL (Write.mk2) l k).2 ∧ a = [.sl true 3 ((mkL (Write.mk2) l k).1.map (Write.row true)), i64 k]) := zQs
theorem zOn (l : List (List Lock)) (k : Int) (h0 : 0 ≤ k) (h1 : k + (zAI (zAI (Lock.cnt)) l : Nat) ≤ 2 ^ 62) (hl : l.length ≤ 2 ^ 62) : ACall p_ 46 [.sl true 1 (l.map fun y => [.sl true 3 (y.map (Lock.row true))]), i64 k] (fun r a => r = i64 (mkL (mkL (Lock.mk2)) l k).2 ∧ a = [.sl true 1 ((mkL (mkL (Lock.mk2)) l k).1.map fun y => [.sl true 3 (y.map (Lock.row true))]), i64 k]) := by
 refine fg H46 fun E hE hH => ?_; simp only [go_sem, hE, hH, C46]
 refine zAR l.length (fun j (_ : Unit) => ⟨[(0, .ref 0 0 l.length), (1, i64 (mkN (mkL (Lock.mk2)) l k j)), (5, i64 j)], [(0, ⟨1, (mkP (mkL (Lock.mk2)) l k j).map fun y => [.sl true 3 (y.map (Lock.row true))]⟩)]⟩) (fun _ _ => True) () (by simp [zCV, zCW]) trivial ?_
 intro j _ hj _
 have hpl := zDz (f := mkL (Lock.mk2)) (k := k) hj
 have hN := zEk (f := mkL (Lock.mk2)) (c := zAI (Lock.cnt)) (fun _ _ => zAs (f := Lock.mk2) (c := Lock.cnt) (Lock.mk2_cnt)) (l := l) (k := k) (j := j)
 try simp only [go_sem, hE, hH, zUN]
 first | refine zAg (fun h => ?_) (fun h => ?_) | refine zAh (fun h => ?_) (fun h => ?_)
 ·have hb := h
  simp only [nf] at h
  have hlt := h
  have hc := zCY (c := zAI (Lock.cnt)) hlt
  have e0 := zD4 (f := mkL (Lock.mk2)) (k := k) hlt
  have e1 := zDA (f := mkL (Lock.mk2)) (k := k) hlt
  have e2 := zCX (f := mkL (Lock.mk2)) (k := k) hlt
  generalize hk : mkN (mkL (Lock.mk2)) l k j = q at *
  have m_0 := zAs (f := Lock.mk2) (c := Lock.cnt) (Lock.mk2_cnt) (l := nth l j) (k := q)
  try simp (disch := omega) only [go_sem, hE, hH, e0, hb, hpl, e0]
  all_goals (have y1_ := e0; repeat' (first | ((with_reducible apply ga) <;> refine zBK fun h => ?_) | ((with_reducible apply an); · omega) | (refine zAD [true, false] ?_; refine zAq ?_; refine cmA (zPN (nth l j) (q) (by omega) (by omega)) ?_; refine zAq ?_) | ((first | refine zAa ?_ | refine cvA (zBW _ (by omega)) ?_); refine zAq ?_) | refine jn _ ?_ ?_ | (with_reducible first | apply both | apply an | exact ti) | exact zDH | refine zAq ?_ | exact zBM | refine zBL ?_))
  try simp (disch := omega) only [go_sem, hE, hH, e0, hpl, e0]
  repeat' (first | (refine both ?_ ?_) | omega | ((first | apply zAC | apply zA9) <;> (simp only [go_sem, hE, hH, e0]; done)) | fail)
  refine ⟨(), ?_⟩
  rw [e2, ← e1, List.map_set]
  rfl
 ·have hb := h
  simp only [nf] at h
  try refine sb ?_; try exact ⟨⟩
  have e3 : j = l.length := by first | omega | (rw [zAz] at h; omega)
  subst e3
  rw [zDy (Nat.le_refl _), zDx (Nat.le_refl _)]
  exact ⟨zAz.symm, rfl, rfl⟩
theorem zKf (l : List WorldLook) (k : Int) (h0 : 0 ≤ k) (h1 : k + (zAI (WorldLook.cnt) l : Nat) ≤ 2 ^ 62) : ACall p_ 49 [.sl true 6 (l.map (WorldLook.row true)), i64 k] (fun r a => r = i64 (mkL (WorldLook.mk2) l k).2 ∧ a = [.sl true 6 ((mkL (WorldLook.mk2) l k).1.map (WorldLook.row true)), i64 k]) := by
 refine fg H49 fun E hE hH => ?_; simp only [go_sem, hE, hH, C49]
 refine zAR l.length (fun j (_ : Unit) => ⟨[(0, .ref 0 0 l.length), (1, i64 (mkN (WorldLook.mk2) l k j)), (5, i64 j)], [(0, ⟨6, (mkP (WorldLook.mk2) l k j).map (WorldLook.row true)⟩)]⟩) (fun _ _ => True) () (by simp [zCV, zCW]) trivial ?_
 intro j _ hj _
 have hpl := zDz (f := WorldLook.mk2) (k := k) hj
 have hN := zEk (f := WorldLook.mk2) (c := WorldLook.cnt) (WorldLook.mk2_cnt) (l := l) (k := k) (j := j)
 have hlen := zCZ (c := WorldLook.cnt) (l := l) (fun x => by simp only [WorldLook.cnt]; omega)
 try simp only [go_sem, hE, hH, zUQ]
 first | refine zAg (fun h => ?_) (fun h => ?_) | refine zAh (fun h => ?_) (fun h => ?_)
 ·have hb := h
  simp only [nf] at h
  have hlt := h
  have hc := zCY (c := WorldLook.cnt) hlt
  have e0 := zD4 (f := WorldLook.mk2) (k := k) hlt
  have e1 := zDA (f := WorldLook.mk2) (k := k) hlt
  have e2 := zCX (f := WorldLook.mk2) (k := k) hlt
  simp only [WorldLook.mk2] at e1 e2
  simp only [WorldLook.cnt] at hc
  generalize hk : mkN (WorldLook.mk2) l k j = q at *
  have m_Keys := zAs (f := mkS) (c := fun _ => 1) (fun _ _ => rfl) (l := (nth l j).Keys) (k := (q + 1))
  have m_Got := zAs (f := Got.mk2) (c := Got.cnt) (Got.mk2_cnt) (l := (nth l j).Got) (k := (mkL (mkS) (nth l j).Keys (q + 1)).2)
  try simp (disch := omega) only [go_sem, hE, hH, e0, hb, hpl, e0]
  all_goals (have y1_ := e0; repeat' (first | ((with_reducible apply ga) <;> refine zBK fun h => ?_) | ((with_reducible apply an); · omega) | (refine zAD [true, false] ?_; refine zAq ?_; refine cmA (zEZ ((nth l j).Keys) ((q + 1)) (by omega) (by omega)) ?_; refine zAq ?_) | (refine zAD [true, false] ?_; refine zAq ?_; refine cmA (zKA ((nth l j).Got) ((mkL (mkS) (nth l j).Keys (q + 1)).2) (by omega) (by omega)) ?_; refine zAq ?_) | ((first | refine zAa ?_ | refine cvA (zBW _ (by omega)) ?_); refine zAq ?_) | refine jn _ ?_ ?_ | (with_reducible first | apply both | apply an | exact ti) | exact zDH | refine zAq ?_ | exact zBM | refine zBL ?_))
  try simp (disch := omega) only [go_sem, hE, hH, e0, hpl, e0]
  repeat' (first | (refine both ?_ ?_) | omega | ((first | apply zAC | apply zA9) <;> (simp only [go_sem, hE, hH, e0]; done)) | fail)
  refine ⟨(), ?_⟩
  rw [e2, ← e1, List.map_set]
  rfl
 ·have hb := h
  simp only [nf] at h
  try refine sb ?_; try exact ⟨⟩
  have e3 : j = l.length := by first | omega | (rw [zAz] at h; omega)
  subst e3
  rw [zDy (Nat.le_refl _), zDx (Nat.le_refl _)]
  exact ⟨zAz.symm, rfl, rfl⟩
set_option maxRecDepth 8000 in
theorem zLf (l : List WorldTxn) (k : Int) (h0 : 0 ≤ k) (h1 : k + (zAI (WorldTxn.cnt) l : Nat) ≤ 2 ^ 62) : ACall p_ 48 [.sl true 10 (l.map (WorldTxn.row true)), i64 k] (fun r a => r = i64 (mkL (WorldTxn.mk2) l k).2 ∧ a = [.sl true 10 ((mkL (WorldTxn.mk2) l k).1.map (WorldTxn.row true)), i64 k]) := by
 refine fg H48 fun E hE hH => ?_; simp only [go_sem, hE, hH, C48]
 refine zAR l.length (fun j (_ : Unit) => ⟨[(0, .ref 0 0 l.length), (1, i64 (mkN (WorldTxn.mk2) l k j)), (5, i64 j)], [(0, ⟨10, (mkP (WorldTxn.mk2) l k j).map (WorldTxn.row true)⟩)]⟩) (fun _ _ => True) () (by simp [zCV, zCW]) trivial ?_
 intro j _ hj _
 have hpl := zDz (f := WorldTxn.mk2) (k := k) hj
 have hN := zEk (f := WorldTxn.mk2) (c := WorldTxn.cnt) (WorldTxn.mk2_cnt) (l := l) (k := k) (j := j)
 have hlen := zCZ (c := WorldTxn.cnt) (l := l) (fun x => by simp only [WorldTxn.cnt]; omega)
 try simp only [go_sem, hE, hH, zUP]
 first | refine zAg (fun h => ?_) (fun h => ?_) | refine zAh (fun h => ?_) (fun h => ?_)
 ·have hb := h
  simp only [nf] at h
  have hlt := h
  have hc := zCY (c := WorldTxn.cnt) hlt
  have e0 := zD4 (f := WorldTxn.mk2) (k := k) hlt
  have e1 := zDA (f := WorldTxn.mk2) (k := k) hlt
  have e2 := zCX (f := WorldTxn.mk2) (k := k) hlt
  simp only [WorldTxn.mk2] at e1 e2
  simp only [WorldTxn.cnt] at hc
  generalize hk : mkN (WorldTxn.mk2) l k j = q at *
  have m_Ops := zAs (f := Op.mk2) (c := Op.cnt) (Op.mk2_cnt) (l := (nth l j).Ops) (k := q)
  have m_Got := zAs (f := Got.mk2) (c := Got.cnt) (Got.mk2_cnt) (l := (nth l j).Got) (k := (mkL (Op.mk2) (nth l j).Ops q).2)
  have m_Terms := zAs (f := mkI) (c := fun _ => 1) (fun _ _ => rfl) (l := (nth l j).Terms) (k := (mkL (Got.mk2) (nth l j).Got (mkL (Op.mk2) (nth l j).Ops q).2).2)
  try simp (disch := omega) only [go_sem, hE, hH, e0, hb, hpl, e0]
  all_goals (have y1_ := e0; repeat' (first | ((with_reducible apply ga) <;> refine zBK fun h => ?_) | ((with_reducible apply an); · omega) | (refine zAD [true, false] ?_; refine zAq ?_; refine cmA (zTc ((nth l j).Ops) (q) (by omega) (by omega)) ?_; refine zAq ?_) | (refine zAD [true, false] ?_; refine zAq ?_; refine cmA (zKA ((nth l j).Got) ((mkL (Op.mk2) (nth l j).Ops q).2) (by omega) (by omega)) ?_; refine zAq ?_) | (refine zAD [true, false] ?_; refine zAq ?_; refine cmA (zKz ((nth l j).Terms) ((mkL (Got.mk2) (nth l j).Got (mkL (Op.mk2) (nth l j).Ops q).2).2) (by omega) (by omega)) ?_; refine zAq ?_) | ((first | refine zAa ?_ | refine cvA (zBW _ (by omega)) ?_); refine zAq ?_) | refine jn _ ?_ ?_ | (with_reducible first | apply both | apply an | exact ti) | exact zDH | refine zAq ?_ | exact zBM | refine zBL ?_))
  try simp (disch := omega) only [go_sem, hE, hH, e0, hpl, e0]
  repeat' (first | (refine both ?_ ?_) | omega | ((first | apply zAC | apply zA9) <;> (simp only [go_sem, hE, hH, e0]; done)) | fail)
  refine ⟨(), ?_⟩
  rw [e2, ← e1, List.map_set]
  rfl
 ·have hb := h
  simp only [nf] at h
  try refine sb ?_; try exact ⟨⟩
  have e3 : j = l.length := by first | omega | (rw [zAz] at h; omega)
  subst e3
  rw [zDy (Nat.le_refl _), zDx (Nat.le_refl _)]
  exact ⟨zAz.symm, rfl, rfl⟩
theorem zOo (l : List Entry) (k : Int) (h0 : 0 ≤ k) (h1 : k + (zAI (Entry.cnt) l : Nat) ≤ 2 ^ 62) : ACall p_ 150 [.sl true 8 (l.map (Entry.row true)), i64 k] (fun r a => r = i64 (mkL (Entry.mk2) l k).2 ∧ a = [.sl true 8 ((mkL (Entry.mk2) l k).1.map (Entry.row true)), i64 k]) := by
 refine fg H150 fun E hE hH => ?_; simp only [go_sem, hE, hH, zZO]
 refine zAR l.length (fun j (_ : Unit) => ⟨[(0, .ref 0 0 l.length), (1, i64 (mkN (Entry.mk2) l k j)), (5, i64 j)], [(0, ⟨8, (mkP (Entry.mk2) l k j).map (Entry.row true)⟩)]⟩) (fun _ _ => True) () (by simp [zCV, zCW]) trivial ?_
 intro j _ hj _
 have hpl := zDz (f := Entry.mk2) (k := k) hj
 have hN := zEk (f := Entry.mk2) (c := Entry.cnt) (Entry.mk2_cnt) (l := l) (k := k) (j := j)
 have hlen := zCZ (c := Entry.cnt) (l := l) (fun x => by simp only [Entry.cnt]; omega)
 try simp only [go_sem, hE, hH, zRA]
 first | refine zAg (fun h => ?_) (fun h => ?_) | refine zAh (fun h => ?_) (fun h => ?_)
 ·have hb := h
  simp only [nf] at h
  have hlt := h
  have hc := zCY (c := Entry.cnt) hlt
  have e0 := zD4 (f := Entry.mk2) (k := k) hlt
  have e1 := zDA (f := Entry.mk2) (k := k) hlt
  have e2 := zCX (f := Entry.mk2) (k := k) hlt
  simp only [Entry.mk2, Rec.mk2] at e1 e2
  simp only [Entry.cnt, Rec.cnt] at hc
  generalize hk : mkN (Entry.mk2) l k j = q at *
  have m_Rec_Reads := zAs (f := mkS) (c := fun _ => 1) (fun _ _ => rfl) (l := (nth l j).Rec.Reads) (k := (((((q + 1) + 1) + 1) + 1) + 1))
  have m_Rec_Writes := zAs (f := Write.mk2) (c := Write.cnt) (Write.mk2_cnt) (l := (nth l j).Rec.Writes) (k := (mkL (mkS) (nth l j).Rec.Reads (((((q + 1) + 1) + 1) + 1) + 1)).2)
  try simp (disch := omega) only [go_sem, hE, hH, e0, hb, hpl, e0]
  all_goals (have y1_ := e0; repeat' (first | ((with_reducible apply ga) <;> refine zBK fun h => ?_) | ((with_reducible apply an); · omega) | (refine zAD [true, false] ?_; refine zAq ?_; refine cmA (zEZ ((nth l j).Rec.Reads) ((((((q + 1) + 1) + 1) + 1) + 1)) (by omega) (by omega)) ?_; refine zAq ?_) | (refine zAD [true, false] ?_; refine zAq ?_; refine cmA (zIL ((nth l j).Rec.Writes) ((mkL (mkS) (nth l j).Rec.Reads (((((q + 1) + 1) + 1) + 1) + 1)).2) (by omega) (by omega)) ?_; refine zAq ?_) | ((first | refine zAa ?_ | refine cvA (zBW _ (by omega)) ?_); refine zAq ?_) | refine jn _ ?_ ?_ | (with_reducible first | apply both | apply an | exact ti) | exact zDH | refine zAq ?_ | exact zBM | refine zBL ?_))
  try simp (disch := omega) only [go_sem, hE, hH, e0, hpl, e0]
  repeat' (first | (refine both ?_ ?_) | omega | ((first | apply zAC | apply zA9) <;> (simp only [go_sem, hE, hH, e0]; done)) | fail)
  refine ⟨(), ?_⟩
  rw [e2, ← e1, List.map_set]
  rfl
 ·have hb := h
  simp only [nf] at h
  try refine sb ?_; try exact ⟨⟩
  have e3 : j = l.length := by first | omega | (rw [zAz] at h; omega)
  subst e3
  rw [zDy (Nat.le_refl _), zDx (Nat.le_refl _)]
  exact ⟨zAz.symm, rfl, rfl⟩
theorem zL0 (l : List Replica) (k : Int) (h0 : 0 ≤ k) (h1 : k + (zAI (Replica.cnt) l : Nat) ≤ 2 ^ 62) : ACall p_ 94 [.sl true 3 (l.map (Replica.row true)), i64 k] (fun r a => r = i64 (mkL (Replica.mk2) l k).2 ∧ a = [.sl true 3 ((mkL (Replica.mk2) l k).1.map (Replica.row true)), i64 k]) := by
 refine fg H94 fun E hE hH => ?_; simp only [go_sem, hE, hH, C94]
 refine zAR l.length (fun j (_ : Unit) => ⟨[(0, .ref 0 0 l.length), (1, i64 (mkN (Replica.mk2) l k j)), (5, i64 j)], [(0, ⟨3, (mkP (Replica.mk2) l k j).map (Replica.row true)⟩)]⟩) (fun _ _ => True) () (by simp [zCV, zCW]) trivial ?_
 intro j _ hj _
 have hpl := zDz (f := Replica.mk2) (k := k) hj
 have hN := zEk (f := Replica.mk2) (c := Replica.cnt) (Replica.mk2_cnt) (l := l) (k := k) (j := j)
 have hlen := zCZ (c := Replica.cnt) (l := l) (fun x => by simp only [Replica.cnt]; omega)
 try simp only [go_sem, hE, hH, zU3]
 first | refine zAg (fun h => ?_) (fun h => ?_) | refine zAh (fun h => ?_) (fun h => ?_)
 ·have hb := h
  simp only [nf] at h
  have hlt := h
  have hc := zCY (c := Replica.cnt) hlt
  have e0 := zD4 (f := Replica.mk2) (k := k) hlt
  have e1 := zDA (f := Replica.mk2) (k := k) hlt
  have e2 := zCX (f := Replica.mk2) (k := k) hlt
  simp only [Replica.mk2] at e1 e2
  simp only [Replica.cnt] at hc
  generalize hk : mkN (Replica.mk2) l k j = q at *
  have m_Log := zAs (f := Entry.mk2) (c := Entry.cnt) (Entry.mk2_cnt) (l := (nth l j).Log) (k := (q + 1))
  try simp (disch := omega) only [go_sem, hE, hH, e0, hb, hpl, e0]
  all_goals (have y1_ := e0; repeat' (first | ((with_reducible apply ga) <;> refine zBK fun h => ?_) | ((with_reducible apply an); · omega) | (refine zAD [true, false] ?_; refine zAq ?_; refine cmA (zOo ((nth l j).Log) ((q + 1)) (by omega) (by omega)) ?_; refine zAq ?_) | ((first | refine zAa ?_ | refine cvA (zBW _ (by omega)) ?_); refine zAq ?_) | refine jn _ ?_ ?_ | (with_reducible first | apply both | apply an | exact ti) | exact zDH | refine zAq ?_ | exact zBM | refine zBL ?_))
  try simp (disch := omega) only [go_sem, hE, hH, e0, hpl, e0]
  repeat' (first | (refine both ?_ ?_) | omega | ((first | apply zAC | apply zA9) <;> (simp only [go_sem, hE, hH, e0]; done)) | fail)
  refine ⟨(), ?_⟩
  rw [e2, ← e1, List.map_set]
  rfl
 ·have hb := h
  simp only [nf] at h
  try refine sb ?_; try exact ⟨⟩
  have e3 : j = l.length := by first | omega | (rw [zAz] at h; omega)
  subst e3
  rw [zDy (Nat.le_refl _), zDx (Nat.le_refl _)]
  exact ⟨zAz.symm, rfl, rfl⟩
theorem zOp (l : List Group) (k : Int) (h0 : 0 ≤ k) (h1 : k + (zAI (Group.cnt) l : Nat) ≤ 2 ^ 62) : ACall p_ 45 [.sl true 3 (l.map (Group.row true)), i64 k] (fun r a => r = i64 (mkL (Group.mk2) l k).2 ∧ a = [.sl true 3 ((mkL (Group.mk2) l k).1.map (Group.row true)), i64 k]) := by
 refine fg H45 fun E hE hH => ?_; simp only [go_sem, hE, hH, C45]
 refine zAR l.length (fun j (_ : Unit) => ⟨[(0, .ref 0 0 l.length), (1, i64 (mkN (Group.mk2) l k j)), (5, i64 j)], [(0, ⟨3, (mkP (Group.mk2) l k j).map (Group.row true)⟩)]⟩) (fun _ _ => True) () (by simp [zCV, zCW]) trivial ?_
 intro j _ hj _
 have hpl := zDz (f := Group.mk2) (k := k) hj
 have hN := zEk (f := Group.mk2) (c := Group.cnt) (Group.mk2_cnt) (l := l) (k := k) (j := j)
 have hlen := zCZ (c := Group.cnt) (l := l) (fun x => by simp only [Group.cnt]; omega)
 try simp only [go_sem, hE, hH, zUM]
 first | refine zAg (fun h => ?_) (fun h => ?_) | refine zAh (fun h => ?_) (fun h => ?_)
 ·have hb := h
  simp only [nf] at h
  have hlt := h
  have hc := zCY (c := Group.cnt) hlt
  have e0 := zD4 (f := Group.mk2) (k := k) hlt
  have e1 := zDA (f := Group.mk2) (k := k) hlt
  have e2 := zCX (f := Group.mk2) (k := k) hlt
  simp only [Group.mk2] at e1 e2
  simp only [Group.cnt] at hc
  generalize hk : mkN (Group.mk2) l k j = q at *
  have m_Reps := zAs (f := Replica.mk2) (c := Replica.cnt) (Replica.mk2_cnt) (l := (nth l j).Reps) (k := q)
  try simp (disch := omega) only [go_sem, hE, hH, e0, hb, hpl, e0]
  all_goals (have y1_ := e0; repeat' (first | ((with_reducible apply ga) <;> refine zBK fun h => ?_) | ((with_reducible apply an); · omega) | (refine zAD [true, false] ?_; refine zAq ?_; refine cmA (zL0 ((nth l j).Reps) (q) (by omega) (by omega)) ?_; refine zAq ?_) | ((first | refine zAa ?_ | refine cvA (zBW _ (by omega)) ?_); refine zAq ?_) | refine jn _ ?_ ?_ | (with_reducible first | apply both | apply an | exact ti) | exact zDH | refine zAq ?_ | exact zBM | refine zBL ?_))
  try simp (disch := omega) only [go_sem, hE, hH, e0, hpl, e0]
  repeat' (first | (refine both ?_ ?_) | omega | ((first | apply zAC | apply zA9) <;> (simp only [go_sem, hE, hH, e0]; done)) | fail)
  refine ⟨(), ?_⟩
  rw [e2, ← e1, List.map_set]
  rfl
 ·have hb := h
  simp only [nf] at h
  try refine sb ?_; try exact ⟨⟩
  have e3 : j = l.length := by first | omega | (rw [zAz] at h; omega)
  subst e3
  rw [zDy (Nat.le_refl _), zDx (Nat.le_refl _)]
  exact ⟨zAz.symm, rfl, rfl⟩
theorem zPO (x : World) (k : Int) (h0 : 0 ≤ k) (h1 : k + (x.cntv : Nat) ≤ 2 ^ 62) (hl_Locks : x.Locks.length ≤ 2 ^ 62) : ACall p_ 10 [.agg (World.row true x), i64 k] (fun r a => r = i64 (x.mkv k).2 ∧ a = [.agg (World.row true (x.mkv k).1), i64 k]) := by
 simp only [World.cntv] at h1
 have m_Clocks := zAs (f := Clock.mk2) (c := Clock.cnt) (Clock.mk2_cnt) (l := x.Clocks) (k := k)
 have m_Cuts := zAs (f := mkS) (c := fun _ => 1) (fun _ _ => rfl) (l := x.Cuts) (k := (mkL (Clock.mk2) x.Clocks k).2)
 have m_Groups := zAs (f := Group.mk2) (c := Group.cnt) (Group.mk2_cnt) (l := x.Groups) (k := (mkL (mkS) x.Cuts (mkL (Clock.mk2) x.Clocks k).2).2)
 have m_Locks := zAs (f := mkL (Lock.mk2)) (c := zAI (Lock.cnt)) (fun _ _ => zAs (f := Lock.mk2) (c := Lock.cnt) (Lock.mk2_cnt)) (l := x.Locks) (k := (mkL (Group.mk2) x.Groups (mkL (mkS) x.Cuts (mkL (Clock.mk2) x.Clocks k).2).2).2)
 have m_Promised := zAs (f := mkI) (c := fun _ => 1) (fun _ _ => rfl) (l := x.Promised) (k := (mkL (mkL (Lock.mk2)) x.Locks (mkL (Group.mk2) x.Groups (mkL (mkS) x.Cuts (mkL (Clock.mk2) x.Clocks k).2).2).2).2)
 have m_Txns := zAs (f := WorldTxn.mk2) (c := WorldTxn.cnt) (WorldTxn.mk2_cnt) (l := x.Txns) (k := (mkL (mkI) x.Promised (mkL (mkL (Lock.mk2)) x.Locks (mkL (Group.mk2) x.Groups (mkL (mkS) x.Cuts (mkL (Clock.mk2) x.Clocks k).2).2).2).2).2)
 have m_Looks := zAs (f := WorldLook.mk2) (c := WorldLook.cnt) (WorldLook.mk2_cnt) (l := x.Looks) (k := (mkL (WorldTxn.mk2) x.Txns (mkL (mkI) x.Promised (mkL (mkL (Lock.mk2)) x.Locks (mkL (Group.mk2) x.Groups (mkL (mkS) x.Cuts (mkL (Clock.mk2) x.Clocks k).2).2).2).2).2).2)
 simp only [World.mkv]
 refine fg H10 fun E hE hH => ?_; simp only [go_sem, hE, hH, C10]
 try refine st ?_; try exact ⟨⟩
 repeat' (first | ((with_reducible apply ga) <;> refine gs fun h => ?_) | ((with_reducible apply an); · omega) | (refine zAD [true, false] ?_; refine st ?_; refine cmA (zOm x.Clocks k (by omega) (by omega)) ?_; refine st ?_) | (refine zAD [true, false] ?_; refine st ?_; refine cmA (zEZ x.Cuts (mkL (Clock.mk2) x.Clocks k).2 (by omega) (by omega)) ?_; refine st ?_) | (refine zAD [true, false] ?_; refine st ?_; refine cmA (zOp x.Groups (mkL (mkS) x.Cuts (mkL (Clock.mk2) x.Clocks k).2).2 (by omega) (by omega)) ?_; refine st ?_) | (refine zAD [true, false] ?_; refine st ?_; refine cmA (zOn x.Locks (mkL (Group.mk2) x.Groups (mkL (mkS) x.Cuts (mkL (Clock.mk2) x.Clocks k).2).2).2 (by omega) (by omega) (by omega)) ?_; refine st ?_) | (refine zAD [true, false] ?_; refine st ?_; refine cmA (zKz x.Promised (mkL (mkL (Lock.mk2)) x.Locks (mkL (Group.mk2) x.Groups (mkL (mkS) x.Cuts (mkL (Clock.mk2) x.Clocks k).2).2).2).2 (by omega) (by omega)) ?_; refine st ?_) | (refine zAD [true, false] ?_; refine st ?_; refine cmA (zLf x.Txns (mkL (mkI) x.Promised (mkL (mkL (Lock.mk2)) x.Locks (mkL (Group.mk2) x.Groups (mkL (mkS) x.Cuts (mkL (Clock.mk2) x.Clocks k).2).2).2).2).2 (by omega) (by omega)) ?_; refine st ?_) | (refine zAD [true, false] ?_; refine st ?_; refine cmA (zKf x.Looks (mkL (WorldTxn.mk2) x.Txns (mkL (mkI) x.Promised (mkL (mkL (Lock.mk2)) x.Locks (mkL (Group.mk2) x.Groups (mkL (mkS) x.Cuts (mkL (Clock.mk2) x.Clocks k).2).2).2).2).2).2 (by omega) (by omega)) ?_; refine st ?_) | refine jn _ ?_ ?_ | (with_reducible first | apply both | apply an | exact ti) | exact fe | refine st ?_ | exact fm | refine s1 ?_)
 all_goals first | omega | (simp [zAz]; done) | rfl
theorem zOq (l : List Write) (k : Int) (h0 : 0 ≤ k) (h1 : k + (zAI (Write.cnt) l : Nat) ≤ 2 ^ 62) : ACall p_ 12 [.sl false 3 ((mkL (Write.mk2) l k).1.map (Write.row false)), i64 k] (fun r _ => r = i64 (mkL (Write.mk2) l k).2) := by
 refine fg H12 fun E hE hH => ?_; simp only [go_sem, hE, hH, C12]
 refine zAR l.length (fun j (_ : Unit) => ⟨[(0, .sl false 3 ((mkL (Write.mk2) l k).1.map (Write.row false))), (1, i64 (mkN (Write.mk2) l k j)), (5, i64 j)], []⟩) (fun _ _ => True) () (by simp [zCV, zCW]) trivial ?_
 intro j _ hj _
 have hpl := zAz (f := Write.mk2) (k := k) (l := l)
 have hN := zEk (f := Write.mk2) (c := Write.cnt) (Write.mk2_cnt) (l := l) (k := k) (j := j)
 have hlen := zCZ (c := Write.cnt) (l := l) (fun x => by simp only [Write.cnt]; omega)
 try simp only [go_sem, hE, hH, zUs]
 first | refine zAg (fun h => ?_) (fun h => ?_) | refine zAh (fun h => ?_) (fun h => ?_)
 ·have hb := h
  simp only [nf] at h
  have hlt : j < l.length := by first | exact h | (rw [zAz] at h; exact h)
  have hc := zCY (c := Write.cnt) hlt
  have e0 := zX6 (f := Write.mk2) (k := k) hlt
  have e2 := zCX (f := Write.mk2) (k := k) hlt
  simp only [Write.mk2] at e0 e2
  simp only [Write.cnt] at hc
  generalize hk : mkN (Write.mk2) l k j = q at *
  try simp (disch := omega) only [go_sem, hE, hH, e0, hb, hpl, e0]
  all_goals (have y1_ := e0; repeat' (first | ((with_reducible apply ga) <;> refine zBK fun h => ?_) | ((with_reducible apply an); · omega) | ((first | refine zAa ?_ | refine cvA (zBW _ (by omega)) ?_); refine zAq ?_) | refine jn _ ?_ ?_ | (with_reducible first | apply both | apply an | exact ti) | exact zDH | refine zAq ?_ | exact zBM | refine zBL ?_))
  try simp (disch := omega) only [go_sem, hE, hH, e0, hpl, e0]
  repeat' (first | (refine both ?_ ?_) | omega | ((first | apply zAC | apply zA9) <;> (simp only [go_sem, hE, hH, e0]; done)) | fail)
  refine ⟨(), ?_⟩
  rw [e2]
  rfl
 ·have hb := h
  simp only [nf] at h
  try refine sb ?_; try exact ⟨⟩
  have e3 : j = l.length := by first | omega | (rw [zAz] at h; omega)
  subst e3
  rw [zDy (Nat.le_refl _)]
section
variable {α : Type} [Inhabited α] {κ : Type} [DecidableEq κ]
theorem zNY {p : Nat → Bool} {n : Nat} : ∀ {m : Nat}, n ≤ m → zEj p n ≤ zEj p m
 | 0, h => by rw [show n = 0 by omega]; exact Nat.le_refl _
 | m + 1, h => by
  by_cases e : n = m + 1
  ·rw [e]; exact Nat.le_refl _
  ·have := zNY (p := p) (n := n) (m := m) (by omega)
   simp only [zEj]
   omega
def fxI (lt : κ → κ → Bool) (f : α → κ) (l : List α) (k : κ) : Nat := zEj (fun i => lt (f (nth l i)) k) l.length
def fxF (f : α → κ) (l : List α) (k : κ) : Bool := l.any fun x => decide (f x = k)
def zBd (lt : κ → κ → Bool) (f : α → κ) (l : List α) : Prop := ∀ i j, i < j → j < l.length → lt (f (nth l i)) (f (nth l j)) = true
structure Ord (lt : κ → κ → Bool) (cmp : κ → κ → Int) : Prop where
 neg : ∀ a b, cmp a b < 0 ↔ lt a b = true
 zero : ∀ a b, cmp a b = 0 ↔ a = b
 irr : ∀ a, lt a a = false
 trans : ∀ a b c, lt a b = true → lt b c = true → lt a c = true
 total : ∀ a b, lt a b = true ∨ a = b ∨ lt b a = true
variable {lt : κ → κ → Bool} {cmp : κ → κ → Int} {f : α → κ} {l : List α} {k : κ}
theorem Ord.asym (O : Ord lt cmp) {a b : κ} (h : lt a b = true) : lt b a = false := by
 cases h2 : lt b a
 ·rfl
 ·have := O.trans _ _ _ h h2; rw [O.irr] at this; cases this
theorem Ord.ge (O : Ord lt cmp) {a b : κ} (h : lt a b = false) : a = b ∨ lt b a = true := by
 rcases O.total a b with h1 | h1 | h1
 ·rw [h] at h1; cases h1
 ·exact .inl h1
 ·exact .inr h1
theorem zDT : fxI lt f l k ≤ l.length := zJ7
theorem zHL (O : Ord lt cmp) (hs : zBd lt f l) {i : Nat} (hi : i < l.length) : i < fxI lt f l k ↔ lt (f (nth l i)) k = true := by
 constructor
 ·intro h
  by_cases hb : lt (f (nth l i)) k = true
  ·exact hb
  ·exfalso
   have : fxI lt f l k ≤ i := by
    unfold fxI
    rw [zFw (Nat.le_of_lt hi) (fun j a b => ?_)]
    ·exact zJ7
    ·by_cases e : j = i
     ·rw [e]; simpa using hb
     ·cases h2 : lt (f (nth l j)) k
      ·rfl
      ·exact absurd (O.trans _ _ _ (hs i j (by omega) b) h2) hb
   omega
 ·intro h
  unfold fxI
  have h1 := zGk (p := fun i => lt (f (nth l i)) k) (n := i + 1) (zAL.2 fun j hj => by
   by_cases e : j = i
   ·rw [e]; exact h
   ·exact O.trans _ _ _ (hs j i (by omega) hi) h)
  have h2 := zNY (p := fun i => lt (f (nth l i)) k) (n := i + 1) (m := l.length) (by omega)
  omega
theorem zL1 (O : Ord lt cmp) (hs : zBd lt f l) {i : Nat} (hi : i < l.length) (h : f (nth l i) = k) : fxI lt f l k = i := by
 have h1 : ¬ i < fxI lt f l k := by rw [zHL O hs hi, h, O.irr]; simp
 by_cases h2 : fxI lt f l k < i
 ·have h3 := (zHL (k := k) O hs (show fxI lt f l k < l.length by omega)).2 (by have := hs _ _ h2 hi; rwa [h] at this)
  omega
 ·omega
theorem zDe : fxF f l k = true ↔ ∃ i, i < l.length ∧ f (nth l i) = k := by
 unfold fxF
 rw [List.any_eq_true]
 constructor
 ·rintro ⟨x, hx, h1⟩
  obtain ⟨i, hi, rfl⟩ := List.getElem_of_mem hx
  exact ⟨i, hi, by rw [zA5 hi]; simpa using h1⟩
 ·rintro ⟨i, hi, h1⟩; exact ⟨_, zAd hi, by simpa using h1⟩
theorem zE0 (O : Ord lt cmp) (hs : zBd lt f l) (h : fxF f l k = true) : fxI lt f l k < l.length ∧ f (nth l (fxI lt f l k)) = k := by
 obtain ⟨i, hi, h1⟩ := zDe.1 h
 rw [zL1 O hs hi h1]; exact ⟨hi, h1⟩
theorem zTd (O : Ord lt cmp) (hs : zBd lt f l) (k : κ) : bsI (fun x => cmp (f x) k) l = fxI lt f l k ∧ bsF (fun x => cmp (f x) k) l = fxF f l k := by
 have e1 : bsI (fun x => cmp (f x) k) l = fxI lt f l k := by
  unfold bsI fxI
  congr 1; funext i
  rw [Bool.eq_iff_iff, decide_eq_true_iff, O.neg]
 refine ⟨e1, ?_⟩
 rw [Bool.eq_iff_iff]
 unfold bsF
 rw [e1, Bool.and_eq_true, decide_eq_true_iff, decide_eq_true_iff, O.zero]
 constructor
 ·rintro ⟨h1, h2⟩; exact zDe.2 ⟨_, h1, h2⟩
 ·intro h; exact zE0 O hs h
theorem zM5 (O : Ord lt cmp) (hs : zBd lt f l) (i j : Nat) (h1 : i < j) (h2 : j < l.length) (h3 : 0 ≤ cmp (f (nth l i)) k) : 0 ≤ cmp (f (nth l j)) k := by
 rw [← Int.not_lt, O.neg] at h3 ⊢
 exact fun h => h3 (O.trans _ _ _ (hs i j h1 h2) h)
def putAt (l : List α) (i : Nat) (x : α) : List α := l.take i ++ x :: l.drop i
theorem zBN {i : Nat} {x : α} (hi : i ≤ l.length) : (putAt l i x).length = l.length + 1 := by
 simp [putAt]; omega
theorem zJv {i j : Nat} {x : α} (hi : i ≤ l.length) : nth (putAt l i x) j = if j < i then nth l j else if j = i then x else nth l (j - 1) := by
 unfold putAt nth
 simp only [List.getD, List.getElem?_append, List.length_take, Nat.min_eq_left hi]
 split
 ·rename_i h; rw [List.getElem?_take_of_lt h]
 ·rename_i h
  by_cases e : j = i
  ·subst e; simp
  ·rw [if_neg e, List.getElem?_cons, if_neg (by omega), List.getElem?_drop]
   congr 2; omega
theorem zGT (O : Ord lt cmp) (hs : zBd lt f l) {x : α} (h : fxF f l (f x) = false) : zBd lt f (putAt l (fxI lt f l (f x)) x) := by
 intro i j h1 h2
 have hle := zDT (lt := lt) (f := f) (l := l) (k := f x)
 rw [zBN hle] at h2
 rw [zJv hle, zJv hle]
 have lo : ∀ i, i < fxI lt f l (f x) → lt (f (nth l i)) (f x) = true := fun i hi => (zHL O hs (by omega)).1 hi
 have hi : ∀ i, fxI lt f l (f x) ≤ i → i < l.length → lt (f x) (f (nth l i)) = true := by
  intro i h3 h4
  have h5 : lt (f (nth l i)) (f x) = false := by
   cases h6 : lt (f (nth l i)) (f x)
   ·rfl
   ·have := (zHL O hs h4).2 h6; omega
  rcases O.ge h5 with h6 | h6
  ·have : fxF f l (f x) = true := zDe.2 ⟨i, h4, h6⟩
   rw [h] at this; cases this
  ·exact h6
 by_cases a : j < fxI lt f l (f x)
 ·rw [if_pos (by omega), if_pos a]; exact hs i j h1 (by omega)
 ·rw [if_neg a]
  by_cases b : j = fxI lt f l (f x)
  ·rw [if_pos b, if_pos (by omega)]; exact lo i (by omega)
  ·rw [if_neg b]
   by_cases c : i < fxI lt f l (f x)
   ·rw [if_pos c]; exact hs i (j - 1) (by omega) (by omega)
   ·rw [if_neg c]
    by_cases d : i = fxI lt f l (f x)
    ·rw [if_pos d]; exact hi (j - 1) (by omega) (by omega)
    ·rw [if_neg d]; exact hs (i - 1) (j - 1) (by omega) (by omega)
def dnI (p : α → Bool) (l : List α) : Nat → Nat
 | 0 => 0
 | n + 1 => if p (nth l n) then dnI p l n else n + 1
theorem zFx {p : α → Bool} {j : Nat} : ∀ {n : Nat}, j ≤ n → (∀ i, j ≤ i → i < n → p (nth l i) = true) → (j = 0 ∨ p (nth l (j - 1)) = false) → dnI p l n = j
 | 0, h, _, _ => by simp [dnI]; omega
 | n + 1, h, h1, h2 => by
  unfold dnI
  by_cases e : j = n + 1
  ·subst e
   rcases h2 with h2 | h2
   ·omega
   ·rw [show n + 1 - 1 = n by omega] at h2; rw [h2]; rfl
  ·rw [h1 n (by omega) (by omega), if_pos rfl]
   exact zFx (by omega) (fun i a b => h1 i a (by omega)) h2
theorem zL2 (O : Ord lt cmp) (hs : zBd lt f l) {x : α} (h : fxF f l (f x) = false) : dnI (fun y => lt (f x) (f y)) l l.length = fxI lt f l (f x) := by
 refine zFx zDT (fun i h3 h4 => ?_) ?_
 ·have h5 : lt (f (nth l i)) (f x) = false := by
   cases h6 : lt (f (nth l i)) (f x)
   ·rfl
   ·have := (zHL O hs h4).2 h6; omega
  rcases O.ge h5 with h6 | h6
  ·have : fxF f l (f x) = true := zDe.2 ⟨i, h4, h6⟩
   rw [h] at this; cases this
  ·exact h6
 ·by_cases e : fxI lt f l (f x) = 0
  ·exact .inl e
  ·exact .inr (O.asym ((zHL O hs (by have := zDT (lt := lt) (f := f) (l := l) (k := f x); omega)).1 (by omega)))
def cutAt (l : List α) (i : Nat) : List α := l.take i ++ l.drop (i + 1)
theorem zPP (O : Ord lt cmp) (hs : zBd lt f l) {i : Nat} (hi : i < l.length) : cutAt l i = l.filter fun x => !decide (f x = f (nth l i)) := by
 have e : l = l.take i ++ nth l i :: l.drop (i + 1) := by
  rw [zA5 hi]; simp
 have h1 : (l.take i).filter (fun x => !decide (f x = f (nth l i))) = l.take i := by
  rw [List.filter_eq_self]
  intro x hx
  obtain ⟨j, hj, rfl⟩ := List.getElem_of_mem hx
  simp only [List.length_take] at hj
  rw [List.getElem_take, ← zA5 (by omega)]
  have := hs j i (by omega) hi
  simp only [Bool.not_eq_true', decide_eq_false_iff_not]
  intro e; rw [e, O.irr] at this; cases this
 have h2 : (l.drop (i + 1)).filter (fun x => !decide (f x = f (nth l i))) = l.drop (i + 1) := by
  rw [List.filter_eq_self]
  intro x hx
  obtain ⟨j, hj, rfl⟩ := List.getElem_of_mem hx
  simp only [List.length_drop] at hj
  rw [List.getElem_drop, ← zA5 (by omega)]
  have := hs i (i + 1 + j) (by omega) (by omega)
  simp only [Bool.not_eq_true', decide_eq_false_iff_not]
  intro e; rw [e, O.irr] at this; cases this
 have h3 : (l.take i ++ nth l i :: l.drop (i + 1)).filter (fun x => !decide (f x = f (nth l i))) = cutAt l i := by
  rw [List.filter_append, List.filter_cons, h1, h2]
  simp [cutAt]
 rw [← e] at h3
 exact h3.symm
theorem zNZ {i : Nat} (hi : i < l.length) : (cutAt l i).length + 1 = l.length := by simp [cutAt]; omega
theorem zU9 (hs : zBd lt f l) {i : Nat} (hi : i < l.length) : zBd lt f (cutAt l i) := by
 have hn : ∀ j, nth (cutAt l i) j = if j < i then nth l j else nth l (j + 1) := by
  intro j
  unfold cutAt nth
  simp only [List.getD, List.getElem?_append, List.length_take, Nat.min_eq_left (Nat.le_of_lt hi)]
  split
  ·rename_i h; rw [List.getElem?_take_of_lt h]
  ·rw [List.getElem?_drop]; congr 2; omega
 intro a b h1 h2
 have := zNZ hi
 rw [hn, hn]
 by_cases c : b < i
 ·rw [if_pos (by omega), if_pos c]; exact hs a b h1 (by omega)
 ·rw [if_neg c]
  by_cases d : a < i
  ·rw [if_pos d]; exact hs a (b + 1) (by omega) (by omega)
  ·rw [if_neg d]; exact hs (a + 1) (b + 1) (by omega) (by omega)
theorem zGU {i : Nat} {x y : α} : y ∈ putAt l i x ↔ y = x ∨ y ∈ l := by
 unfold putAt
 conv => rhs; rw [← List.take_append_drop i l]
 simp only [List.mem_append, List.mem_cons]
 constructor
 ·rintro (h | h | h) <;> simp [h]
 ·rintro (h | h | h) <;> simp [h]
theorem zVa {i : Nat} {y : α} (h : y ∈ cutAt l i) : y ∈ l := by
 unfold cutAt at h
 rcases List.mem_append.1 h with h | h
 ·exact List.mem_of_mem_take h
 ·exact List.mem_of_mem_drop h
end
def ltI (a b : Int) : Bool := decide (a < b)
end Go.Proofs.Wb

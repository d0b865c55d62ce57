import Derived.Test.YtjfjakbgelikeaaGreatFnExactSettleDealTy
import Derived.Laws.Externs
set_option linter.all false
set_option maxHeartbeats 4000000
namespace Go.Proofs.Wb
open Tryz renaming prog → p_
open Go Go.Am
attribute [go_sem] zCE
def dg (k : Int) : ByteArray := bytesOf [[.v (.int .u8 (IntKind.u8.wrap (48 + k % 10)))]]
theorem zRz (k : Int) : (dg k).size = 1 := rfl
def zMR (k : Int) (out : ByteArray) : ByteArray := if 0 < k then zMR (k / 10) (dg k ++ out) else out
termination_by k.toNat
decreasing_by omega
def zFC (k : Int) : ByteArray := if k ≤ 0 then ⟨⟨[109, 48]⟩⟩ else ⟨⟨[109]⟩⟩ ++ zMR k ⟨⟨[]⟩⟩
theorem zBp (k : Int) (h1 : k ≤ 2 ^ 62) : ACall p_ 76 [i64 k] (fun r _ => r = str (zFC k)) := by
 refine fg H76 fun E hE hH => ?_; simp only [go_sem, hE, hH, C76]
 first | refine zAe (fun h => ?_) (fun h => ?_) | refine zAf (fun h => ?_) (fun h => ?_)
 ·try simp (disch := omega) only [go_sem, hE, hH, h]
  simp only [nf] at h
  simp [zFC, h]
 try simp (disch := omega) only [go_sem, hE, hH, h]
 simp only [nf] at h
 refine zGO (fun (x : Int × ByteArray) => ⟨[(0, i64 x.1), (3, str x.2)], []⟩) (fun x => 0 ≤ x.1 ∧ x.2.size + x.1 ≤ k ∧ zMR x.1 x.2 = zMR k ⟨⟨[]⟩⟩) (fun x => x.1.toNat) (k, ⟨⟨[]⟩⟩) ⟨by omega, by change ((0 : Nat) : Int) + k ≤ k; omega, rfl⟩ ?_
 rintro ⟨n, out⟩ ⟨i0, i1, i2⟩
 simp only at i0 i1 i2
 try simp only [go_sem, hE, hH, zUq]
 first | refine zAe (fun hb => ?_) (fun hb => ?_) | refine zAf (fun hb => ?_) (fun hb => ?_)
 ·have hb2 := hb
  simp only [nf] at hb
  have e1 : n.tmod 10 = n % 10 := Int.tmod_eq_emod_of_nonneg i0
  have e2 : n.tdiv 10 = n / 10 := Int.tdiv_eq_ediv_of_nonneg i0
  have e3 : (bytesOf [[.v (.int .u8 (IntKind.u8.wrap (48 + n % 10)))]]) = dg n := rfl
  try simp (disch := omega) only [go_sem, hE, hH, hb2, e1, e2, e3, zRz]
  refine ⟨by omega, by omega, by omega, ⟨n / 10, dg n ++ out⟩, rfl, ⟨by simp only; omega, ?_, ?_⟩, by simp only; omega⟩
  ·rw [ByteArray.size_append, zRz]; simp only; omega
  ·rw [← i2, zMR.eq_1 n out, if_pos (by omega)]
 ·have hb2 := hb
  simp only [nf] at hb
  have e0 : n = 0 := by omega
  subst e0
  rw [zMR, if_neg (by omega)] at i2
  try simp (disch := omega) only [go_sem, hE, hH, hb2]
  rw [zFC, if_neg (by omega), ← i2]
  have e9 : (⟨⟨[109]⟩⟩ : ByteArray).size = 1 := rfl
  exact ⟨by rw [e9]; omega, rfl⟩
def mkS (_ : ByteArray) (k : Int) : ByteArray × Int := (zFC k, k + 1)
def Told.mk2 (x : Told) (k : Int) : Told × Int := (⟨k, decide (((k + 1)).tmod 3 = 0), ((k + 1) + 1)⟩, (((k + 1) + 1) + 1))
def Told.cnt (x : Told) : Nat := 1 + 1 + 1
theorem Told.mk2_cnt (x : Told) (k : Int) : (x.mk2 k).2 = k + (x.cnt : Nat) := by
 simp only [Told.mk2, Told.cnt]
 try omega
theorem Told.cnt_le (x : Told) : x.cnt ≤ 3 := by
 simp only [Told.cnt]
 try omega
def Ver.mk2 (x : Ver) (k : Int) : Ver × Int := (⟨k, zFC (k + 1), decide ((((k + 1) + 1)).tmod 3 = 0)⟩, (((k + 1) + 1) + 1))
def Ver.cnt (x : Ver) : Nat := 1 + 1 + 1
theorem Ver.mk2_cnt (x : Ver) (k : Int) : (x.mk2 k).2 = k + (x.cnt : Nat) := by
 simp only [Ver.mk2, Ver.cnt]
 try omega
theorem Ver.cnt_le (x : Ver) : x.cnt ≤ 3 * (x.sz + 1) := by
 simp only [Ver.cnt, Ver.sz]
 try omega
def Write.mk2 (x : Write) (k : Int) : Write × Int := (⟨zFC k, zFC (k + 1), decide ((((k + 1) + 1)).tmod 3 = 0)⟩, (((k + 1) + 1) + 1))
def Write.cnt (x : Write) : Nat := 1 + 1 + 1
theorem Write.mk2_cnt (x : Write) (k : Int) : (x.mk2 k).2 = k + (x.cnt : Nat) := by
 simp only [Write.mk2, Write.cnt]
 try omega
theorem Write.cnt_le (x : Write) : x.cnt ≤ 3 * (x.sz + 1) := by
 simp only [Write.cnt, Write.sz]
 try omega
def Cell.mk2 (x : Cell) (k : Int) : Cell × Int := (⟨zFC k, (mkL (Ver.mk2) x.Vers (k + 1)).1⟩, (mkL (Ver.mk2) x.Vers (k + 1)).2)
def Cell.cnt (x : Cell) : Nat := 1 + zAZ (Ver.cnt) x.Vers
theorem Cell.mk2_cnt (x : Cell) (k : Int) : (x.mk2 k).2 = k + (x.cnt : Nat) := by
 simp only [Cell.mk2, Cell.cnt, zAw (f := Ver.mk2) (c := Ver.cnt) (Ver.mk2_cnt)]
 try omega
theorem Cell.cnt_le (x : Cell) : x.cnt ≤ 4 * (x.sz + 1) := by
 have c_Vers := zCr (c := Ver.cnt) (s := Ver.sz) (A := 3) Ver.cnt_le (l := x.Vers)
 simp only [Cell.cnt, Cell.sz]
 try omega
def Cell.mkv (x : Cell) (k : Int) : Cell × Int := (⟨x.Key, (mkL (Ver.mk2) x.Vers k).1⟩, (mkL (Ver.mk2) x.Vers k).2)
def Cell.cntv (x : Cell) : Nat := zAZ (Ver.cnt) x.Vers
theorem Cell.mkv_cnt (x : Cell) (k : Int) : (x.mkv k).2 = k + (x.cntv : Nat) := by
 simp only [Cell.mkv, Cell.cntv, zAw (f := Ver.mk2) (c := Ver.cnt) (Ver.mk2_cnt)]
 try omega
theorem Cell.cntv_le (x : Cell) : x.cntv ≤ 4 * (x.sz + 1) := by
 have c_Vers := zCr (c := Ver.cnt) (s := Ver.sz) (A := 3) Ver.cnt_le (l := x.Vers)
 simp only [Cell.cntv, Cell.sz]
 try omega
@[go_sem] theorem Cell.mkv_at_Key (x : Cell) (k : Int) : (x.mkv k).1.Key = x.Key := rfl
@[go_sem] theorem Cell.mkv_len_Vers (x : Cell) (k : Int) : (x.mkv k).1.Vers.length = x.Vers.length := zAs
@[go_sem] theorem Cell.mkv_take_Vers (x : Cell) (k : Int) : (x.mkv k).1.Vers.take x.Vers.length = (x.mkv k).1.Vers := zCv
def Held.mk2 (x : Held) (k : Int) : Held × Int := (⟨k, (k + 1), ((k + 1) + 1), (mkL (mkS) x.Reads (((k + 1) + 1) + 1)).1, (mkL (Write.mk2) x.Writes (mkL (mkS) x.Reads (((k + 1) + 1) + 1)).2).1⟩, (mkL (Write.mk2) x.Writes (mkL (mkS) x.Reads (((k + 1) + 1) + 1)).2).2)
def Held.cnt (x : Held) : Nat := 1 + 1 + 1 + zAZ (fun _ => 1) x.Reads + zAZ (Write.cnt) x.Writes
theorem Held.mk2_cnt (x : Held) (k : Int) : (x.mk2 k).2 = k + (x.cnt : Nat) := by
 simp only [Held.mk2, Held.cnt, zAw (f := mkS) (c := fun _ => 1) (fun _ _ => rfl), zAw (f := Write.mk2) (c := Write.cnt) (Write.mk2_cnt)]
 try omega
open Go.Proofs.Wb renaming Held.cnt → z0_, Held.sz → z1_ in
theorem Held.cnt_le (x : Held) : x.cnt ≤ 7 * (x.sz + 1) := Q6_
def Held.mkv (x : Held) (k : Int) : Held × Int := (⟨x.Txn, x.Time, x.Lead, (mkL (mkS) x.Reads k).1, (mkL (Write.mk2) x.Writes (mkL (mkS) x.Reads k).2).1⟩, (mkL (Write.mk2) x.Writes (mkL (mkS) x.Reads k).2).2)
def Held.cntv (x : Held) : Nat := zAZ (fun _ => 1) x.Reads + zAZ (Write.cnt) x.Writes
theorem Held.mkv_cnt (x : Held) (k : Int) : (x.mkv k).2 = k + (x.cntv : Nat) := by
 simp only [Held.mkv, Held.cntv, zAw (f := mkS) (c := fun _ => 1) (fun _ _ => rfl), zAw (f := Write.mk2) (c := Write.cnt) (Write.mk2_cnt)]
 try omega
open Go.Proofs.Wb renaming Held.cntv → z0_, Held.sz → z1_ in
theorem Held.cntv_le (x : Held) : x.cntv ≤ 7 * (x.sz + 1) := Q6_
@[go_sem] theorem Held.mkv_at_Txn (x : Held) (k : Int) : (x.mkv k).1.Txn = x.Txn := rfl
@[go_sem] theorem Held.mkv_at_Time (x : Held) (k : Int) : (x.mkv k).1.Time = x.Time := rfl
@[go_sem] theorem Held.mkv_at_Lead (x : Held) (k : Int) : (x.mkv k).1.Lead = x.Lead := rfl
@[go_sem] theorem Held.mkv_len_Reads (x : Held) (k : Int) : (x.mkv k).1.Reads.length = x.Reads.length := zAs
@[go_sem] theorem Held.mkv_take_Reads (x : Held) (k : Int) : (x.mkv k).1.Reads.take x.Reads.length = (x.mkv k).1.Reads := zCv
@[go_sem] theorem Held.mkv_len_Writes (x : Held) (k : Int) : (x.mkv k).1.Writes.length = x.Writes.length := zAs
@[go_sem] theorem Held.mkv_take_Writes (x : Held) (k : Int) : (x.mkv k).1.Writes.take x.Writes.length = (x.mkv k).1.Writes := zCv
def Order.mk2 (x : Order) (k : Int) : Order × Int := (⟨k, (mkL (mkS) x.Reads (k + 1)).1, (mkL (Write.mk2) x.Writes (mkL (mkS) x.Reads (k + 1)).2).1⟩, (mkL (Write.mk2) x.Writes (mkL (mkS) x.Reads (k + 1)).2).2)
def Order.cnt (x : Order) : Nat := 1 + zAZ (fun _ => 1) x.Reads + zAZ (Write.cnt) x.Writes
theorem Order.mk2_cnt (x : Order) (k : Int) : (x.mk2 k).2 = k + (x.cnt : Nat) := by
 simp only [Order.mk2, Order.cnt, zAw (f := mkS) (c := fun _ => 1) (fun _ _ => rfl), zAw (f := Write.mk2) (c := Write.cnt) (Write.mk2_cnt)]
 try omega
open Go.Proofs.Wb renaming Order.cnt → z0_, Order.sz → z1_ in
theorem Order.cnt_le (x : Order) : x.cnt ≤ 5 * (x.sz + 1) := Q6_
def Order.mkv (x : Order) (k : Int) : Order × Int := (⟨x.Txn, (mkL (mkS) x.Reads k).1, (mkL (Write.mk2) x.Writes (mkL (mkS) x.Reads k).2).1⟩, (mkL (Write.mk2) x.Writes (mkL (mkS) x.Reads k).2).2)
def Order.cntv (x : Order) : Nat := zAZ (fun _ => 1) x.Reads + zAZ (Write.cnt) x.Writes
theorem Order.mkv_cnt (x : Order) (k : Int) : (x.mkv k).2 = k + (x.cntv : Nat) := by
 simp only [Order.mkv, Order.cntv, zAw (f := mkS) (c := fun _ => 1) (fun _ _ => rfl), zAw (f := Write.mk2) (c := Write.cnt) (Write.mk2_cnt)]
 try omega
open Go.Proofs.Wb renaming Order.cntv → z0_, Order.sz → z1_ in
theorem Order.cntv_le (x : Order) : x.cntv ≤ 5 * (x.sz + 1) := Q6_
@[go_sem] theorem Order.mkv_at_Txn (x : Order) (k : Int) : (x.mkv k).1.Txn = x.Txn := rfl
@[go_sem] theorem Order.mkv_len_Reads (x : Order) (k : Int) : (x.mkv k).1.Reads.length = x.Reads.length := zAs
@[go_sem] theorem Order.mkv_take_Reads (x : Order) (k : Int) : (x.mkv k).1.Reads.take x.Reads.length = (x.mkv k).1.Reads := zCv
@[go_sem] theorem Order.mkv_len_Writes (x : Order) (k : Int) : (x.mkv k).1.Writes.length = x.Writes.length := zAs
@[go_sem] theorem Order.mkv_take_Writes (x : Order) (k : Int) : (x.mkv k).1.Writes.take x.Writes.length = (x.mkv k).1.Writes := zCv
def State.mk2 (x : State) (k : Int) : State × Int := (⟨k, (mkL (Cell.mk2) x.Cells (k + 1)).1, (mkL (Held.mk2) x.Held (mkL (Cell.mk2) x.Cells (k + 1)).2).1, (mkL (Told.mk2) x.Told (mkL (Held.mk2) x.Held (mkL (Cell.mk2) x.Cells (k + 1)).2).2).1⟩, (mkL (Told.mk2) x.Told (mkL (Held.mk2) x.Held (mkL (Cell.mk2) x.Cells (k + 1)).2).2).2)
def State.cnt (x : State) : Nat := 1 + zAZ (Cell.cnt) x.Cells + zAZ (Held.cnt) x.Held + zAZ (Told.cnt) x.Told
theorem State.mk2_cnt (x : State) (k : Int) : (x.mk2 k).2 = k + (x.cnt : Nat) := by
 simp only [State.mk2, State.cnt, zAw (f := Cell.mk2) (c := Cell.cnt) (Cell.mk2_cnt), zAw (f := Held.mk2) (c := Held.cnt) (Held.mk2_cnt), zAw (f := Told.mk2) (c := Told.cnt) (Told.mk2_cnt)]
 try omega
theorem State.cnt_le (x : State) : x.cnt ≤ 15 * (x.sz + 1) := by
 have c_Cells := zCr (c := Cell.cnt) (s := Cell.sz) (A := 4) Cell.cnt_le (l := x.Cells)
 have c_Held := zCr (c := Held.cnt) (s := Held.sz) (A := 7) Held.cnt_le (l := x.Held)
 have c_Told := zPg (c := Told.cnt) (A := 3) (fun x => by have := Told.cnt_le x; omega) (l := x.Told)
 simp only [State.cnt, State.sz]
 try omega
def State.mkv (x : State) (k : Int) : State × Int := (⟨x.Floor, (mkL (Cell.mk2) x.Cells k).1, (mkL (Held.mk2) x.Held (mkL (Cell.mk2) x.Cells k).2).1, (mkL (Told.mk2) x.Told (mkL (Held.mk2) x.Held (mkL (Cell.mk2) x.Cells k).2).2).1⟩, (mkL (Told.mk2) x.Told (mkL (Held.mk2) x.Held (mkL (Cell.mk2) x.Cells k).2).2).2)
def State.cntv (x : State) : Nat := zAZ (Cell.cnt) x.Cells + zAZ (Held.cnt) x.Held + zAZ (Told.cnt) x.Told
theorem State.mkv_cnt (x : State) (k : Int) : (x.mkv k).2 = k + (x.cntv : Nat) := by
 simp only [State.mkv, State.cntv, zAw (f := Cell.mk2) (c := Cell.cnt) (Cell.mk2_cnt), zAw (f := Held.mk2) (c := Held.cnt) (Held.mk2_cnt), zAw (f := Told.mk2) (c := Told.cnt) (Told.mk2_cnt)]
 try omega
theorem State.cntv_le (x : State) : x.cntv ≤ 15 * (x.sz + 1) := by
 have c_Cells := zCr (c := Cell.cnt) (s := Cell.sz) (A := 4) Cell.cnt_le (l := x.Cells)
 have c_Held := zCr (c := Held.cnt) (s := Held.sz) (A := 7) Held.cnt_le (l := x.Held)
 have c_Told := zPg (c := Told.cnt) (A := 3) (fun x => by have := Told.cnt_le x; omega) (l := x.Told)
 simp only [State.cntv, State.sz]
 try omega
@[go_sem] theorem State.mkv_at_Floor (x : State) (k : Int) : (x.mkv k).1.Floor = x.Floor := rfl
@[go_sem] theorem State.mkv_len_Cells (x : State) (k : Int) : (x.mkv k).1.Cells.length = x.Cells.length := zAs
@[go_sem] theorem State.mkv_take_Cells (x : State) (k : Int) : (x.mkv k).1.Cells.take x.Cells.length = (x.mkv k).1.Cells := zCv
@[go_sem] theorem State.mkv_len_Held (x : State) (k : Int) : (x.mkv k).1.Held.length = x.Held.length := zAs
@[go_sem] theorem State.mkv_take_Held (x : State) (k : Int) : (x.mkv k).1.Held.take x.Held.length = (x.mkv k).1.Held := zCv
@[go_sem] theorem State.mkv_len_Told (x : State) (k : Int) : (x.mkv k).1.Told.length = x.Told.length := zAs
@[go_sem] theorem State.mkv_take_Told (x : State) (k : Int) : (x.mkv k).1.Told.take x.Told.length = (x.mkv k).1.Told := zCv
def Deal.mk2 (x : Deal) (k : Int) : Deal × Int := (⟨(mkL (mkS) x.Cuts k).1, (mkL (State.mk2) x.States (mkL (mkS) x.Cuts k).2).1, (mkL (Order.mk2) x.Orders (mkL (State.mk2) x.States (mkL (mkS) x.Cuts k).2).2).1⟩, (mkL (Order.mk2) x.Orders (mkL (State.mk2) x.States (mkL (mkS) x.Cuts k).2).2).2)
def Deal.cnt (x : Deal) : Nat := zAZ (fun _ => 1) x.Cuts + zAZ (State.cnt) x.States + zAZ (Order.cnt) x.Orders
theorem Deal.mk2_cnt (x : Deal) (k : Int) : (x.mk2 k).2 = k + (x.cnt : Nat) := by
 simp only [Deal.mk2, Deal.cnt, zAw (f := mkS) (c := fun _ => 1) (fun _ _ => rfl), zAw (f := State.mk2) (c := State.cnt) (State.mk2_cnt), zAw (f := Order.mk2) (c := Order.cnt) (Order.mk2_cnt)]
 try omega
open Go.Proofs.Wb renaming Deal.cnt → z0_ in
theorem Deal.cnt_le (x : Deal) : x.cnt ≤ 21 * (x.sz + 1) := Q7_
def Deal.mkv (x : Deal) (k : Int) : Deal × Int := (⟨(mkL (mkS) x.Cuts k).1, (mkL (State.mk2) x.States (mkL (mkS) x.Cuts k).2).1, (mkL (Order.mk2) x.Orders (mkL (State.mk2) x.States (mkL (mkS) x.Cuts k).2).2).1⟩, (mkL (Order.mk2) x.Orders (mkL (State.mk2) x.States (mkL (mkS) x.Cuts k).2).2).2)
def Deal.cntv (x : Deal) : Nat := zAZ (fun _ => 1) x.Cuts + zAZ (State.cnt) x.States + zAZ (Order.cnt) x.Orders
theorem Deal.mkv_cnt (x : Deal) (k : Int) : (x.mkv k).2 = k + (x.cntv : Nat) := by
 simp only [Deal.mkv, Deal.cntv, zAw (f := mkS) (c := fun _ => 1) (fun _ _ => rfl), zAw (f := State.mk2) (c := State.cnt) (State.mk2_cnt), zAw (f := Order.mk2) (c := Order.cnt) (Order.mk2_cnt)]
 try omega
open Go.Proofs.Wb renaming Deal.cntv → z0_ in
theorem Deal.cntv_le (x : Deal) : x.cntv ≤ 21 * (x.sz + 1) := Q7_
@[go_sem] theorem Deal.mkv_len_Cuts (x : Deal) (k : Int) : (x.mkv k).1.Cuts.length = x.Cuts.length := zAs
@[go_sem] theorem Deal.mkv_take_Cuts (x : Deal) (k : Int) : (x.mkv k).1.Cuts.take x.Cuts.length = (x.mkv k).1.Cuts := zCv
@[go_sem] theorem Deal.mkv_len_States (x : Deal) (k : Int) : (x.mkv k).1.States.length = x.States.length := zAs
@[go_sem] theorem Deal.mkv_take_States (x : Deal) (k : Int) : (x.mkv k).1.States.take x.States.length = (x.mkv k).1.States := zCv
@[go_sem] theorem Deal.mkv_len_Orders (x : Deal) (k : Int) : (x.mkv k).1.Orders.length = x.Orders.length := zAs
@[go_sem] theorem Deal.mkv_take_Orders (x : Deal) (k : Int) : (x.mkv k).1.Orders.take x.Orders.length = (x.mkv k).1.Orders := zCv
theorem zE5 (l : List ByteArray) (k : Int) (h0 : 0 ≤ k) (h1 : k + (zAZ (fun _ => 1) l : Nat) ≤ 2 ^ 62) : ACall p_ 36 [.sl true 1 (strs l), i64 k] (fun r a => r = i64 (mkL (mkS) l k).2 ∧ a = [.sl true 1 (strs (mkL (mkS) l k).1), i64 k]) := by
 refine fg H36 fun E hE hH => ?_; simp only [go_sem, hE, hH, C36]
 refine zAG l.length (fun j (_ : Unit) => ⟨[(0, .ref 0 0 l.length), (1, i64 (mkN (mkS) l k j)), (5, i64 j)], [(0, ⟨1, strs (mkP (mkS) l k j)⟩)]⟩) (fun _ _ => True) () (by simp [zCc, zCd]) trivial ?_
 intro j _ hj _
 have hpl := zES (f := mkS) (k := k) hj
 have hN := zC7 (f := mkS) (c := fun _ => 1) (fun _ _ => rfl) (l := l) (k := k) (j := j)
 have hlen := zBV (c := fun _ => 1) (l := l) (fun x => by simp)
 try simp only [go_sem, hE, hH, zT7]
 first | refine zAe (fun h => ?_) (fun h => ?_) | refine zAf (fun h => ?_) (fun h => ?_)
 ·have hb := h
  simp only [nf] at h
  have hlt := h
  have hc := zCf (c := fun _ => 1) hlt
  have e0 := zGc (f := mkS) (k := k) hlt
  have e1 := zET (f := mkS) (k := k) hlt
  have e2 := zCe (f := mkS) (k := k) hlt
  simp only [mkS] at e1 e2
  generalize hk : mkN (mkS) l k j = q at *
  try simp (disch := omega) only [go_sem, hE, hH, e0, hb, hpl, e0]
  all_goals (have y1_ := e0; repeat' (first | ((with_reducible apply ga) <;> refine zBC fun h => ?_) | ((with_reducible apply an); · omega) | ((first | refine zAa ?_ | refine cvA (zBp _ (by omega)) ?_); refine zAu ?_) | refine jn _ ?_ ?_ | (with_reducible first | apply both | apply an | exact ti) | exact zDu | refine zAu ?_ | exact zBE | refine zBD ?_))
  try simp (disch := omega) only [go_sem, hE, hH, e0, hpl, e0]
  repeat' (first | (refine both ?_ ?_) | omega | ((first | apply zAj | apply zAC) <;> (simp only [go_sem, hE, hH, e0]; done)) | fail)
  refine ⟨(), ?_⟩
  rw [e2, ← e1]
  rfl
 ·have hb := h
  simp only [nf] at h
  try refine sb ?_; try exact ⟨⟩
  have e3 : j = l.length := by first | omega | (rw [zAs] at h; omega)
  subst e3
  rw [zCB (Nat.le_refl _), zER (Nat.le_refl _)]
  exact ⟨zAs.symm, rfl, rfl⟩
open Go.Proofs.Wb renaming H79 → z0_, C79 → z1_, Told.mk2 → z2_, Told.row → z3_, Told.cnt → z4_, Told.mk2_cnt → z5_, zUt → z6_ in
theorem zPu (l : List Told) (k : Int) (h0 : 0 ≤ k) (h1 : k + (zAZ (Told.cnt) l : Nat) ≤ 2 ^ 62) : ACall p_ 79 [.sl true 3 (l.map (Told.row true)), i64 k] (fun r a => r = i64 (mkL (Told.mk2) l k).2 ∧ a = [.sl true 3 ((mkL (Told.mk2) l k).1.map (Told.row true)), i64 k]) := Q8_
open Go.Proofs.Wb renaming H132 → z0_, zYW → z1_, Ver.mk2 → z2_, Ver.row → z3_, Ver.cnt → z4_, Ver.mk2_cnt → z5_, zQ6 → z6_ in
theorem zQt (l : List Ver) (k : Int) (h0 : 0 ≤ k) (h1 : k + (zAZ (Ver.cnt) l : Nat) ≤ 2 ^ 62) : ACall p_ 132 [.sl true 3 (l.map (Ver.row true)), i64 k] (fun r a => r = i64 (mkL (Ver.mk2) l k).2 ∧ a = [.sl true 3 ((mkL (Ver.mk2) l k).1.map (Ver.row true)), i64 k]) := Q8_
open Go.Proofs.Wb renaming H80 → z0_, C80 → z1_, Write.mk2 → z2_, Write.row → z3_, Write.cnt → z4_, Write.mk2_cnt → z5_, zUu → z6_ in
theorem zIu (l : List Write) (k : Int) (h0 : 0 ≤ k) (h1 : k + (zAZ (Write.cnt) l : Nat) ≤ 2 ^ 62) : ACall p_ 80 [.sl true 3 (l.map (Write.row true)), i64 k] (fun r a => r = i64 (mkL (Write.mk2) l k).2 ∧ a = [.sl true 3 ((mkL (Write.mk2) l k).1.map (Write.row true)), i64 k]) := Q8_
theorem zPv (l : List Cell) (k : Int) (h0 : 0 ≤ k) (h1 : k + (zAZ (Cell.cnt) l : Nat) ≤ 2 ^ 62) : ACall p_ 77 [.sl true 2 (l.map (Cell.row true)), i64 k] (fun r a => r = i64 (mkL (Cell.mk2) l k).2 ∧ a = [.sl true 2 ((mkL (Cell.mk2) l k).1.map (Cell.row true)), i64 k]) := by
 refine fg H77 fun E hE hH => ?_; simp only [go_sem, hE, hH, C77]
 refine zAG l.length (fun j (_ : Unit) => ⟨[(0, .ref 0 0 l.length), (1, i64 (mkN (Cell.mk2) l k j)), (5, i64 j)], [(0, ⟨2, (mkP (Cell.mk2) l k j).map (Cell.row true)⟩)]⟩) (fun _ _ => True) () (by simp [zCc, zCd]) trivial ?_
 intro j _ hj _
 have hpl := zES (f := Cell.mk2) (k := k) hj
 have hN := zC7 (f := Cell.mk2) (c := Cell.cnt) (Cell.mk2_cnt) (l := l) (k := k) (j := j)
 have hlen := zBV (c := Cell.cnt) (l := l) (fun x => by simp only [Cell.cnt]; omega)
 try simp only [go_sem, hE, hH, zUr]
 first | refine zAe (fun h => ?_) (fun h => ?_) | refine zAf (fun h => ?_) (fun h => ?_)
 ·have hb := h
  simp only [nf] at h
  have hlt := h
  have hc := zCf (c := Cell.cnt) hlt
  have e0 := zGc (f := Cell.mk2) (k := k) hlt
  have e1 := zET (f := Cell.mk2) (k := k) hlt
  have e2 := zCe (f := Cell.mk2) (k := k) hlt
  simp only [Cell.mk2] at e1 e2
  simp only [Cell.cnt] at hc
  generalize hk : mkN (Cell.mk2) l k j = q at *
  have m_Vers := zAw (f := Ver.mk2) (c := Ver.cnt) (Ver.mk2_cnt) (l := (nth l j).Vers) (k := (q + 1))
  try simp (disch := omega) only [go_sem, hE, hH, e0, hb, hpl, e0]
  all_goals (have y1_ := e0; repeat' (first | ((with_reducible apply ga) <;> refine zBC fun h => ?_) | ((with_reducible apply an); · omega) | (refine zAI [true, false] ?_; refine zAu ?_; refine cmA (zQt ((nth l j).Vers) ((q + 1)) (by omega) (by omega)) ?_; refine zAu ?_) | ((first | refine zAa ?_ | refine cvA (zBp _ (by omega)) ?_); refine zAu ?_) | refine jn _ ?_ ?_ | (with_reducible first | apply both | apply an | exact ti) | exact zDu | refine zAu ?_ | exact zBE | refine zBD ?_))
  try simp (disch := omega) only [go_sem, hE, hH, e0, hpl, e0]
  repeat' (first | (refine both ?_ ?_) | omega | ((first | apply zAj | apply zAC) <;> (simp only [go_sem, hE, hH, e0]; done)) | fail)
  refine ⟨(), ?_⟩
  rw [e2, ← e1, List.map_set]
  rfl
 ·have hb := h
  simp only [nf] at h
  try refine sb ?_; try exact ⟨⟩
  have e3 : j = l.length := by first | omega | (rw [zAs] at h; omega)
  subst e3
  rw [zCB (Nat.le_refl _), zER (Nat.le_refl _)]
  exact ⟨zAs.symm, rfl, rfl⟩
theorem zPw (l : List Held) (k : Int) (h0 : 0 ≤ k) (h1 : k + (zAZ (Held.cnt) l : Nat) ≤ 2 ^ 62) : ACall p_ 78 [.sl true 5 (l.map (Held.row true)), i64 k] (fun r a => r = i64 (mkL (Held.mk2) l k).2 ∧ a = [.sl true 5 ((mkL (Held.mk2) l k).1.map (Held.row true)), i64 k]) := by
 refine fg H78 fun E hE hH => ?_; simp only [go_sem, hE, hH, C78]
 refine zAG l.length (fun j (_ : Unit) => ⟨[(0, .ref 0 0 l.length), (1, i64 (mkN (Held.mk2) l k j)), (5, i64 j)], [(0, ⟨5, (mkP (Held.mk2) l k j).map (Held.row true)⟩)]⟩) (fun _ _ => True) () (by simp [zCc, zCd]) trivial ?_
 intro j _ hj _
 have hpl := zES (f := Held.mk2) (k := k) hj
 have hN := zC7 (f := Held.mk2) (c := Held.cnt) (Held.mk2_cnt) (l := l) (k := k) (j := j)
 have hlen := zBV (c := Held.cnt) (l := l) (fun x => by simp only [Held.cnt]; omega)
 try simp only [go_sem, hE, hH, zUs]
 first | refine zAe (fun h => ?_) (fun h => ?_) | refine zAf (fun h => ?_) (fun h => ?_)
 ·have hb := h
  simp only [nf] at h
  have hlt := h
  have hc := zCf (c := Held.cnt) hlt
  have e0 := zGc (f := Held.mk2) (k := k) hlt
  have e1 := zET (f := Held.mk2) (k := k) hlt
  have e2 := zCe (f := Held.mk2) (k := k) hlt
  simp only [Held.mk2] at e1 e2
  simp only [Held.cnt] at hc
  generalize hk : mkN (Held.mk2) l k j = q at *
  have m_Reads := zAw (f := mkS) (c := fun _ => 1) (fun _ _ => rfl) (l := (nth l j).Reads) (k := (((q + 1) + 1) + 1))
  have m_Writes := zAw (f := Write.mk2) (c := Write.cnt) (Write.mk2_cnt) (l := (nth l j).Writes) (k := (mkL (mkS) (nth l j).Reads (((q + 1) + 1) + 1)).2)
  try simp (disch := omega) only [go_sem, hE, hH, e0, hb, hpl, e0]
  all_goals (have y1_ := e0; repeat' (first | ((with_reducible apply ga) <;> refine zBC fun h => ?_) | ((with_reducible apply an); · omega) | (refine zAI [true, false] ?_; refine zAu ?_; refine cmA (zE5 ((nth l j).Reads) ((((q + 1) + 1) + 1)) (by omega) (by omega)) ?_; refine zAu ?_) | (refine zAI [true, false] ?_; refine zAu ?_; refine cmA (zIu ((nth l j).Writes) ((mkL (mkS) (nth l j).Reads (((q + 1) + 1) + 1)).2) (by omega) (by omega)) ?_; refine zAu ?_) | ((first | refine zAa ?_ | refine cvA (zBp _ (by omega)) ?_); refine zAu ?_) | refine jn _ ?_ ?_ | (with_reducible first | apply both | apply an | exact ti) | exact zDu | refine zAu ?_ | exact zBE | refine zBD ?_))
  try simp (disch := omega) only [go_sem, hE, hH, e0, hpl, e0]
  repeat' (first | (refine both ?_ ?_) | omega | ((first | apply zAj | apply zAC) <;> (simp only [go_sem, hE, hH, e0]; done)) | fail)
  refine ⟨(), ?_⟩
  rw [e2, ← e1, List.map_set]
  rfl
 ·have hb := h
  simp only [nf] at h
  try refine sb ?_; try exact ⟨⟩
  have e3 : j = l.length := by first | omega | (rw [zAs] at h; omega)
  subst e3
  rw [zCB (Nat.le_refl _), zER (Nat.le_refl _)]
  exact ⟨zAs.symm, rfl, rfl⟩
theorem zNV (l : List Order) (k : Int) (h0 : 0 ≤ k) (h1 : k + (zAZ (Order.cnt) l : Nat) ≤ 2 ^ 62) : ACall p_ 38 [.sl true 3 (l.map (Order.row true)), i64 k] (fun r a => r = i64 (mkL (Order.mk2) l k).2 ∧ a = [.sl true 3 ((mkL (Order.mk2) l k).1.map (Order.row true)), i64 k]) := by
 refine fg H38 fun E hE hH => ?_; simp only [go_sem, hE, hH, C38]
 refine zAG l.length (fun j (_ : Unit) => ⟨[(0, .ref 0 0 l.length), (1, i64 (mkN (Order.mk2) l k j)), (5, i64 j)], [(0, ⟨3, (mkP (Order.mk2) l k j).map (Order.row true)⟩)]⟩) (fun _ _ => True) () (by simp [zCc, zCd]) trivial ?_
 intro j _ hj _
 have hpl := zES (f := Order.mk2) (k := k) hj
 have hN := zC7 (f := Order.mk2) (c := Order.cnt) (Order.mk2_cnt) (l := l) (k := k) (j := j)
 have hlen := zBV (c := Order.cnt) (l := l) (fun x => by simp only [Order.cnt]; omega)
 try simp only [go_sem, hE, hH, zT9]
 first | refine zAe (fun h => ?_) (fun h => ?_) | refine zAf (fun h => ?_) (fun h => ?_)
 ·have hb := h
  simp only [nf] at h
  have hlt := h
  have hc := zCf (c := Order.cnt) hlt
  have e0 := zGc (f := Order.mk2) (k := k) hlt
  have e1 := zET (f := Order.mk2) (k := k) hlt
  have e2 := zCe (f := Order.mk2) (k := k) hlt
  simp only [Order.mk2] at e1 e2
  simp only [Order.cnt] at hc
  generalize hk : mkN (Order.mk2) l k j = q at *
  have m_Reads := zAw (f := mkS) (c := fun _ => 1) (fun _ _ => rfl) (l := (nth l j).Reads) (k := (q + 1))
  have m_Writes := zAw (f := Write.mk2) (c := Write.cnt) (Write.mk2_cnt) (l := (nth l j).Writes) (k := (mkL (mkS) (nth l j).Reads (q + 1)).2)
  try simp (disch := omega) only [go_sem, hE, hH, e0, hb, hpl, e0]
  all_goals (have y1_ := e0; repeat' (first | ((with_reducible apply ga) <;> refine zBC fun h => ?_) | ((with_reducible apply an); · omega) | (refine zAI [true, false] ?_; refine zAu ?_; refine cmA (zE5 ((nth l j).Reads) ((q + 1)) (by omega) (by omega)) ?_; refine zAu ?_) | (refine zAI [true, false] ?_; refine zAu ?_; refine cmA (zIu ((nth l j).Writes) ((mkL (mkS) (nth l j).Reads (q + 1)).2) (by omega) (by omega)) ?_; refine zAu ?_) | ((first | refine zAa ?_ | refine cvA (zBp _ (by omega)) ?_); refine zAu ?_) | refine jn _ ?_ ?_ | (with_reducible first | apply both | apply an | exact ti) | exact zDu | refine zAu ?_ | exact zBE | refine zBD ?_))
  try simp (disch := omega) only [go_sem, hE, hH, e0, hpl, e0]
  repeat' (first | (refine both ?_ ?_) | omega | ((first | apply zAj | apply zAC) <;> (simp only [go_sem, hE, hH, e0]; done)) | fail)
  refine ⟨(), ?_⟩
  rw [e2, ← e1, List.map_set]
  rfl
 ·have hb := h
  simp only [nf] at h
  try refine sb ?_; try exact ⟨⟩
  have e3 : j = l.length := by first | omega | (rw [zAs] at h; omega)
  subst e3
  rw [zCB (Nat.le_refl _), zER (Nat.le_refl _)]
  exact ⟨zAs.symm, rfl, rfl⟩
set_option maxRecDepth 8000 in
theorem zNW (l : List State) (k : Int) (h0 : 0 ≤ k) (h1 : k + (zAZ (State.cnt) l : Nat) ≤ 2 ^ 62) : ACall p_ 37 [.sl true 4 (l.map (State.row true)), i64 k] (fun r a => r = i64 (mkL (State.mk2) l k).2 ∧ a = [.sl true 4 ((mkL (State.mk2) l k).1.map (State.row true)), i64 k]) := by
 refine fg H37 fun E hE hH => ?_; simp only [go_sem, hE, hH, C37]
 refine zAG l.length (fun j (_ : Unit) => ⟨[(0, .ref 0 0 l.length), (1, i64 (mkN (State.mk2) l k j)), (5, i64 j)], [(0, ⟨4, (mkP (State.mk2) l k j).map (State.row true)⟩)]⟩) (fun _ _ => True) () (by simp [zCc, zCd]) trivial ?_
 intro j _ hj _
 have hpl := zES (f := State.mk2) (k := k) hj
 have hN := zC7 (f := State.mk2) (c := State.cnt) (State.mk2_cnt) (l := l) (k := k) (j := j)
 have hlen := zBV (c := State.cnt) (l := l) (fun x => by simp only [State.cnt]; omega)
 try simp only [go_sem, hE, hH, zT8]
 first | refine zAe (fun h => ?_) (fun h => ?_) | refine zAf (fun h => ?_) (fun h => ?_)
 ·have hb := h
  simp only [nf] at h
  have hlt := h
  have hc := zCf (c := State.cnt) hlt
  have e0 := zGc (f := State.mk2) (k := k) hlt
  have e1 := zET (f := State.mk2) (k := k) hlt
  have e2 := zCe (f := State.mk2) (k := k) hlt
  simp only [State.mk2] at e1 e2
  simp only [State.cnt] at hc
  generalize hk : mkN (State.mk2) l k j = q at *
  have m_Cells := zAw (f := Cell.mk2) (c := Cell.cnt) (Cell.mk2_cnt) (l := (nth l j).Cells) (k := (q + 1))
  have m_Held := zAw (f := Held.mk2) (c := Held.cnt) (Held.mk2_cnt) (l := (nth l j).Held) (k := (mkL (Cell.mk2) (nth l j).Cells (q + 1)).2)
  have m_Told := zAw (f := Told.mk2) (c := Told.cnt) (Told.mk2_cnt) (l := (nth l j).Told) (k := (mkL (Held.mk2) (nth l j).Held (mkL (Cell.mk2) (nth l j).Cells (q + 1)).2).2)
  try simp (disch := omega) only [go_sem, hE, hH, e0, hb, hpl, e0]
  all_goals (have y1_ := e0; repeat' (first | ((with_reducible apply ga) <;> refine zBC fun h => ?_) | ((with_reducible apply an); · omega) | (refine zAI [true, false] ?_; refine zAu ?_; refine cmA (zPv ((nth l j).Cells) ((q + 1)) (by omega) (by omega)) ?_; refine zAu ?_) | (refine zAI [true, false] ?_; refine zAu ?_; refine cmA (zPw ((nth l j).Held) ((mkL (Cell.mk2) (nth l j).Cells (q + 1)).2) (by omega) (by omega)) ?_; refine zAu ?_) | (refine zAI [true, false] ?_; refine zAu ?_; refine cmA (zPu ((nth l j).Told) ((mkL (Held.mk2) (nth l j).Held (mkL (Cell.mk2) (nth l j).Cells (q + 1)).2).2) (by omega) (by omega)) ?_; refine zAu ?_) | ((first | refine zAa ?_ | refine cvA (zBp _ (by omega)) ?_); refine zAu ?_) | refine jn _ ?_ ?_ | (with_reducible first | apply both | apply an | exact ti) | exact zDu | refine zAu ?_ | exact zBE | refine zBD ?_))
  try simp (disch := omega) only [go_sem, hE, hH, e0, hpl, e0]
  repeat' (first | (refine both ?_ ?_) | omega | ((first | apply zAj | apply zAC) <;> (simp only [go_sem, hE, hH, e0]; done)) | fail)
  refine ⟨(), ?_⟩
  rw [e2, ← e1, List.map_set]
  rfl
 ·have hb := h
  simp only [nf] at h
  try refine sb ?_; try exact ⟨⟩
  have e3 : j = l.length := by first | omega | (rw [zAs] at h; omega)
  subst e3
  rw [zCB (Nat.le_refl _), zER (Nat.le_refl _)]
  exact ⟨zAs.symm, rfl, rfl⟩
theorem zKr (x : Deal) (k : Int) (h0 : 0 ≤ k) (h1 : k + (x.cntv : Nat) ≤ 2 ^ 62) : ACall p_ 9 [.agg (Deal.row true x), i64 k] (fun r a => r = i64 (x.mkv k).2 ∧ a = [.agg (Deal.row true (x.mkv k).1), i64 k]) := by
 simp only [Deal.cntv] at h1
 have m_Cuts := zAw (f := mkS) (c := fun _ => 1) (fun _ _ => rfl) (l := x.Cuts) (k := k)
 have m_States := zAw (f := State.mk2) (c := State.cnt) (State.mk2_cnt) (l := x.States) (k := (mkL (mkS) x.Cuts k).2)
 have m_Orders := zAw (f := Order.mk2) (c := Order.cnt) (Order.mk2_cnt) (l := x.Orders) (k := (mkL (State.mk2) x.States (mkL (mkS) x.Cuts k).2).2)
 simp only [Deal.mkv]
 refine fg H9 fun E hE hH => ?_; simp only [go_sem, hE, hH, C9]
 try refine st ?_; try exact ⟨⟩
 repeat' (first | ((with_reducible apply ga) <;> refine gs fun h => ?_) | ((with_reducible apply an); · omega) | (refine zAI [true, false] ?_; refine st ?_; refine cmA (zE5 x.Cuts k (by omega) (by omega)) ?_; refine st ?_) | (refine zAI [true, false] ?_; refine st ?_; refine cmA (zNW x.States (mkL (mkS) x.Cuts k).2 (by omega) (by omega)) ?_; refine st ?_) | (refine zAI [true, false] ?_; refine st ?_; refine cmA (zNV x.Orders (mkL (State.mk2) x.States (mkL (mkS) x.Cuts k).2).2 (by omega) (by omega)) ?_; refine st ?_) | refine jn _ ?_ ?_ | (with_reducible first | apply both | apply an | exact ti) | exact fe | refine st ?_ | exact fm | refine s1 ?_)
 all_goals first | omega | (simp [zAs]; done) | rfl
theorem zE6 (l : List ByteArray) (k : Int) (h0 : 0 ≤ k) (h1 : k + (zAZ (fun _ => 1) l : Nat) ≤ 2 ^ 62) : ACall p_ 39 [.sl false 1 (strs (mkL (mkS) l k).1), i64 k] (fun r _ => r = i64 (mkL (mkS) l k).2) := by
 refine fg H39 fun E hE hH => ?_; simp only [go_sem, hE, hH, C39]
 refine zAG l.length (fun j (_ : Unit) => ⟨[(0, .sl false 1 (strs (mkL (mkS) l k).1)), (1, i64 (mkN (mkS) l k j)), (5, i64 j)], []⟩) (fun _ _ => True) () (by simp [zCc, zCd]) trivial ?_
 intro j _ hj _
 have hpl := zAs (f := mkS) (k := k) (l := l)
 have hN := zC7 (f := mkS) (c := fun _ => 1) (fun _ _ => rfl) (l := l) (k := k) (j := j)
 have hlen := zBV (c := fun _ => 1) (l := l) (fun x => by simp)
 try simp only [go_sem, hE, hH, zUa]
 first | refine zAe (fun h => ?_) (fun h => ?_) | refine zAf (fun h => ?_) (fun h => ?_)
 ·have hb := h
  simp only [nf] at h
  have hlt : j < l.length := by first | exact h | (rw [zAs] at h; exact h)
  have hc := zCf (c := fun _ => 1) hlt
  have e0 := zGd (f := mkS) (k := k) hlt
  have e2 := zCe (f := mkS) (k := k) hlt
  simp only [mkS] at e0 e2
  generalize hk : mkN (mkS) l k j = q at *
  try simp (disch := omega) only [go_sem, hE, hH, e0, hb, hpl, e0]
  all_goals (have y1_ := e0; repeat' (first | ((with_reducible apply ga) <;> refine zBC fun h => ?_) | ((with_reducible apply an); · omega) | ((first | refine zAa ?_ | refine cvA (zBp _ (by omega)) ?_); refine zAu ?_) | refine jn _ ?_ ?_ | (with_reducible first | apply both | apply an | exact ti) | exact zDu | refine zAu ?_ | exact zBE | refine zBD ?_))
  try simp (disch := omega) only [go_sem, hE, hH, e0, hpl, e0]
  repeat' (first | (refine both ?_ ?_) | omega | ((first | apply zAj | apply zAC) <;> (simp only [go_sem, hE, hH, e0]; done)) | fail)
  refine ⟨(), ?_⟩
  rw [e2]
  rfl
 ·have hb := h
  simp only [nf] at h
  try refine sb ?_; try exact ⟨⟩
  have e3 : j = l.length := by first | omega | (rw [zAs] at h; omega)
  subst e3
  rw [zCB (Nat.le_refl _)]
open Go.Proofs.Wb renaming H83 → z0_, C83 → z1_, Told.mk2 → z2_, Told.row → z3_, Told.cnt → z4_, Told.mk2_cnt → z5_, zUx → z6_ in
theorem zPx (l : List Told) (k : Int) (h0 : 0 ≤ k) (h1 : k + (zAZ (Told.cnt) l : Nat) ≤ 2 ^ 62) : ACall p_ 83 [.sl false 3 ((mkL (Told.mk2) l k).1.map (Told.row false)), i64 k] (fun r _ => r = i64 (mkL (Told.mk2) l k).2) := Q9_
open Go.Proofs.Wb renaming H133 → z0_, zYX → z1_, Ver.mk2 → z2_, Ver.row → z3_, Ver.cnt → z4_, Ver.mk2_cnt → z5_, zQ7 → z6_ in
theorem zQu (l : List Ver) (k : Int) (h0 : 0 ≤ k) (h1 : k + (zAZ (Ver.cnt) l : Nat) ≤ 2 ^ 62) : ACall p_ 133 [.sl false 3 ((mkL (Ver.mk2) l k).1.map (Ver.row false)), i64 k] (fun r _ => r = i64 (mkL (Ver.mk2) l k).2) := Q9_
open Go.Proofs.Wb renaming H84 → z0_, C84 → z1_, Write.mk2 → z2_, Write.row → z3_, Write.cnt → z4_, Write.mk2_cnt → z5_, zUy → z6_ in
theorem zIv (l : List Write) (k : Int) (h0 : 0 ≤ k) (h1 : k + (zAZ (Write.cnt) l : Nat) ≤ 2 ^ 62) : ACall p_ 84 [.sl false 3 ((mkL (Write.mk2) l k).1.map (Write.row false)), i64 k] (fun r _ => r = i64 (mkL (Write.mk2) l k).2) := Q9_
theorem zPy (l : List Cell) (k : Int) (h0 : 0 ≤ k) (h1 : k + (zAZ (Cell.cnt) l : Nat) ≤ 2 ^ 62) : ACall p_ 81 [.sl false 2 ((mkL (Cell.mk2) l k).1.map (Cell.row false)), i64 k] (fun r _ => r = i64 (mkL (Cell.mk2) l k).2) := by
 refine fg H81 fun E hE hH => ?_; simp only [go_sem, hE, hH, C81]
 refine zAG l.length (fun j (_ : Unit) => ⟨[(0, .sl false 2 ((mkL (Cell.mk2) l k).1.map (Cell.row false))), (1, i64 (mkN (Cell.mk2) l k j)), (5, i64 j)], []⟩) (fun _ _ => True) () (by simp [zCc, zCd]) trivial ?_
 intro j _ hj _
 have hpl := zAs (f := Cell.mk2) (k := k) (l := l)
 have hN := zC7 (f := Cell.mk2) (c := Cell.cnt) (Cell.mk2_cnt) (l := l) (k := k) (j := j)
 have hlen := zBV (c := Cell.cnt) (l := l) (fun x => by simp only [Cell.cnt]; omega)
 try simp only [go_sem, hE, hH, zUv]
 first | refine zAe (fun h => ?_) (fun h => ?_) | refine zAf (fun h => ?_) (fun h => ?_)
 ·have hb := h
  simp only [nf] at h
  have hlt : j < l.length := by first | exact h | (rw [zAs] at h; exact h)
  have hc := zCf (c := Cell.cnt) hlt
  have e0 := zGd (f := Cell.mk2) (k := k) hlt
  have e2 := zCe (f := Cell.mk2) (k := k) hlt
  simp only [Cell.mk2] at e0 e2
  simp only [Cell.cnt] at hc
  generalize hk : mkN (Cell.mk2) l k j = q at *
  have m_Vers := zAw (f := Ver.mk2) (c := Ver.cnt) (Ver.mk2_cnt) (l := (nth l j).Vers) (k := (q + 1))
  try simp (disch := omega) only [go_sem, hE, hH, e0, hb, hpl, e0]
  all_goals (have y1_ := e0; repeat' (first | ((with_reducible apply ga) <;> refine zBC fun h => ?_) | ((with_reducible apply an); · omega) | ((first | refine zAa ?_ | refine cvA (zBp _ (by omega)) ?_ | refine cvA (zQu ((nth l j).Vers) ((q + 1)) (by omega) (by omega)) ?_); refine zAu ?_) | refine jn _ ?_ ?_ | (with_reducible first | apply both | apply an | exact ti) | exact zDu | refine zAu ?_ | exact zBE | refine zBD ?_))
  try simp (disch := omega) only [go_sem, hE, hH, e0, hpl, e0]
  repeat' (first | (refine both ?_ ?_) | omega | ((first | apply zAj | apply zAC) <;> (simp only [go_sem, hE, hH, e0]; done)) | fail)
  refine ⟨(), ?_⟩
  rw [e2]
  rfl
 ·have hb := h
  simp only [nf] at h
  try refine sb ?_; try exact ⟨⟩
  have e3 : j = l.length := by first | omega | (rw [zAs] at h; omega)
  subst e3
  rw [zCB (Nat.le_refl _)]
theorem zPz (l : List Held) (k : Int) (h0 : 0 ≤ k) (h1 : k + (zAZ (Held.cnt) l : Nat) ≤ 2 ^ 62) : ACall p_ 82 [.sl false 5 ((mkL (Held.mk2) l k).1.map (Held.row false)), i64 k] (fun r _ => r = i64 (mkL (Held.mk2) l k).2) := by
 refine fg H82 fun E hE hH => ?_; simp only [go_sem, hE, hH, C82]
 refine zAG l.length (fun j (_ : Unit) => ⟨[(0, .sl false 5 ((mkL (Held.mk2) l k).1.map (Held.row false))), (1, i64 (mkN (Held.mk2) l k j)), (5, i64 j)], []⟩) (fun _ _ => True) () (by simp [zCc, zCd]) trivial ?_
 intro j _ hj _
 have hpl := zAs (f := Held.mk2) (k := k) (l := l)
 have hN := zC7 (f := Held.mk2) (c := Held.cnt) (Held.mk2_cnt) (l := l) (k := k) (j := j)
 have hlen := zBV (c := Held.cnt) (l := l) (fun x => by simp only [Held.cnt]; omega)
 try simp only [go_sem, hE, hH, zUw]
 first | refine zAe (fun h => ?_) (fun h => ?_) | refine zAf (fun h => ?_) (fun h => ?_)
 ·have hb := h
  simp only [nf] at h
  have hlt : j < l.length := by first | exact h | (rw [zAs] at h; exact h)
  have hc := zCf (c := Held.cnt) hlt
  have e0 := zGd (f := Held.mk2) (k := k) hlt
  have e2 := zCe (f := Held.mk2) (k := k) hlt
  simp only [Held.mk2] at e0 e2
  simp only [Held.cnt] at hc
  generalize hk : mkN (Held.mk2) l k j = q at *
  have m_Reads := zAw (f := mkS) (c := fun _ => 1) (fun _ _ => rfl) (l := (nth l j).Reads) (k := (((q + 1) + 1) + 1))
  have m_Writes := zAw (f := Write.mk2) (c := Write.cnt) (Write.mk2_cnt) (l := (nth l j).Writes) (k := (mkL (mkS) (nth l j).Reads (((q + 1) + 1) + 1)).2)
  try simp (disch := omega) only [go_sem, hE, hH, e0, hb, hpl, e0]
  all_goals (have y1_ := e0; repeat' (first | ((with_reducible apply ga) <;> refine zBC fun h => ?_) | ((with_reducible apply an); · omega) | ((first | refine zAa ?_ | refine cvA (zBp _ (by omega)) ?_ | refine cvA (zE6 ((nth l j).Reads) ((((q + 1) + 1) + 1)) (by omega) (by omega)) ?_ | refine cvA (zIv ((nth l j).Writes) ((mkL (mkS) (nth l j).Reads (((q + 1) + 1) + 1)).2) (by omega) (by omega)) ?_); refine zAu ?_) | refine jn _ ?_ ?_ | (with_reducible first | apply both | apply an | exact ti) | exact zDu | refine zAu ?_ | exact zBE | refine zBD ?_))
  try simp (disch := omega) only [go_sem, hE, hH, e0, hpl, e0]
  repeat' (first | (refine both ?_ ?_) | omega | ((first | apply zAj | apply zAC) <;> (simp only [go_sem, hE, hH, e0]; done)) | fail)
  refine ⟨(), ?_⟩
  rw [e2]
  rfl
 ·have hb := h
  simp only [nf] at h
  try refine sb ?_; try exact ⟨⟩
  have e3 : j = l.length := by first | omega | (rw [zAs] at h; omega)
  subst e3
  rw [zCB (Nat.le_refl _)]
theorem zNX (l : List Order) (k : Int) (h0 : 0 ≤ k) (h1 : k + (zAZ (Order.cnt) l : Nat) ≤ 2 ^ 62) : ACall p_ 41 [.sl false 3 ((mkL (Order.mk2) l k).1.map (Order.row false)), i64 k] (fun r _ => r = i64 (mkL (Order.mk2) l k).2) := by
 refine fg H41 fun E hE hH => ?_; simp only [go_sem, hE, hH, C41]
 refine zAG l.length (fun j (_ : Unit) => ⟨[(0, .sl false 3 ((mkL (Order.mk2) l k).1.map (Order.row false))), (1, i64 (mkN (Order.mk2) l k j)), (5, i64 j)], []⟩) (fun _ _ => True) () (by simp [zCc, zCd]) trivial ?_
 intro j _ hj _
 have hpl := zAs (f := Order.mk2) (k := k) (l := l)
 have hN := zC7 (f := Order.mk2) (c := Order.cnt) (Order.mk2_cnt) (l := l) (k := k) (j := j)
 have hlen := zBV (c := Order.cnt) (l := l) (fun x => by simp only [Order.cnt]; omega)
 try simp only [go_sem, hE, hH, zUc]
 first | refine zAe (fun h => ?_) (fun h => ?_) | refine zAf (fun h => ?_) (fun h => ?_)
 ·have hb := h
  simp only [nf] at h
  have hlt : j < l.length := by first | exact h | (rw [zAs] at h; exact h)
  have hc := zCf (c := Order.cnt) hlt
  have e0 := zGd (f := Order.mk2) (k := k) hlt
  have e2 := zCe (f := Order.mk2) (k := k) hlt
  simp only [Order.mk2] at e0 e2
  simp only [Order.cnt] at hc
  generalize hk : mkN (Order.mk2) l k j = q at *
  have m_Reads := zAw (f := mkS) (c := fun _ => 1) (fun _ _ => rfl) (l := (nth l j).Reads) (k := (q + 1))
  have m_Writes := zAw (f := Write.mk2) (c := Write.cnt) (Write.mk2_cnt) (l := (nth l j).Writes) (k := (mkL (mkS) (nth l j).Reads (q + 1)).2)
  try simp (disch := omega) only [go_sem, hE, hH, e0, hb, hpl, e0]
  all_goals (have y1_ := e0; repeat' (first | ((with_reducible apply ga) <;> refine zBC fun h => ?_) | ((with_reducible apply an); · omega) | ((first | refine zAa ?_ | refine cvA (zBp _ (by omega)) ?_ | refine cvA (zE6 ((nth l j).Reads) ((q + 1)) (by omega) (by omega)) ?_ | refine cvA (zIv ((nth l j).Writes) ((mkL (mkS) (nth l j).Reads (q + 1)).2) (by omega) (by omega)) ?_); refine zAu ?_) | refine jn _ ?_ ?_ | (with_reducible first | apply both | apply an | exact ti) | exact zDu | refine zAu ?_ | exact zBE | refine zBD ?_))
  try simp (disch := omega) only [go_sem, hE, hH, e0, hpl, e0]
  repeat' (first | (refine both ?_ ?_) | omega | ((first | apply zAj | apply zAC) <;> (simp only [go_sem, hE, hH, e0]; done)) | fail)
  refine ⟨(), ?_⟩
  rw [e2]
  rfl
 ·have hb := h
  simp only [nf] at h
  try refine sb ?_; try exact ⟨⟩
  have e3 : j = l.length := by first | omega | (rw [zAs] at h; omega)
  subst e3
  rw [zCB (Nat.le_refl _)]
set_option maxRecDepth 8000 in
theorem zNY (l : List State) (k : Int) (h0 : 0 ≤ k) (h1 : k + (zAZ (State.cnt) l : Nat) ≤ 2 ^ 62) : ACall p_ 40 [.sl false 4 ((mkL (State.mk2) l k).1.map (State.row false)), i64 k] (fun r _ => r = i64 (mkL (State.mk2) l k).2) := by
 refine fg H40 fun E hE hH => ?_; simp only [go_sem, hE, hH, C40]
 refine zAG l.length (fun j (_ : Unit) => ⟨[(0, .sl false 4 ((mkL (State.mk2) l k).1.map (State.row false))), (1, i64 (mkN (State.mk2) l k j)), (5, i64 j)], []⟩) (fun _ _ => True) () (by simp [zCc, zCd]) trivial ?_
 intro j _ hj _
 have hpl := zAs (f := State.mk2) (k := k) (l := l)
 have hN := zC7 (f := State.mk2) (c := State.cnt) (State.mk2_cnt) (l := l) (k := k) (j := j)
 have hlen := zBV (c := State.cnt) (l := l) (fun x => by simp only [State.cnt]; omega)
 try simp only [go_sem, hE, hH, zUb]
 first | refine zAe (fun h => ?_) (fun h => ?_) | refine zAf (fun h => ?_) (fun h => ?_)
 ·have hb := h
  simp only [nf] at h
  have hlt : j < l.length := by first | exact h | (rw [zAs] at h; exact h)
  have hc := zCf (c := State.cnt) hlt
  have e0 := zGd (f := State.mk2) (k := k) hlt
  have e2 := zCe (f := State.mk2) (k := k) hlt
  simp only [State.mk2] at e0 e2
  simp only [State.cnt] at hc
  generalize hk : mkN (State.mk2) l k j = q at *
  have m_Cells := zAw (f := Cell.mk2) (c := Cell.cnt) (Cell.mk2_cnt) (l := (nth l j).Cells) (k := (q + 1))
  have m_Held := zAw (f := Held.mk2) (c := Held.cnt) (Held.mk2_cnt) (l := (nth l j).Held) (k := (mkL (Cell.mk2) (nth l j).Cells (q + 1)).2)
  have m_Told := zAw (f := Told.mk2) (c := Told.cnt) (Told.mk2_cnt) (l := (nth l j).Told) (k := (mkL (Held.mk2) (nth l j).Held (mkL (Cell.mk2) (nth l j).Cells (q + 1)).2).2)
  try simp (disch := omega) only [go_sem, hE, hH, e0, hb, hpl, e0]
  all_goals (have y1_ := e0; repeat' (first | ((with_reducible apply ga) <;> refine zBC fun h => ?_) | ((with_reducible apply an); · omega) | ((first | refine zAa ?_ | refine cvA (zBp _ (by omega)) ?_ | refine cvA (zPy ((nth l j).Cells) ((q + 1)) (by omega) (by omega)) ?_ | refine cvA (zPz ((nth l j).Held) ((mkL (Cell.mk2) (nth l j).Cells (q + 1)).2) (by omega) (by omega)) ?_ | refine cvA (zPx ((nth l j).Told) ((mkL (Held.mk2) (nth l j).Held (mkL (Cell.mk2) (nth l j).Cells (q + 1)).2).2) (by omega) (by omega)) ?_); refine zAu ?_) | refine jn _ ?_ ?_ | (with_reducible first | apply both | apply an | exact ti) | exact zDu | refine zAu ?_ | exact zBE | refine zBD ?_))
  try simp (disch := omega) only [go_sem, hE, hH, e0, hpl, e0]
  repeat' (first | (refine both ?_ ?_) | omega | ((first | apply zAj | apply zAC) <;> (simp only [go_sem, hE, hH, e0]; done)) | fail)
  refine ⟨(), ?_⟩
  rw [e2]
  rfl
 ·have hb := h
  simp only [nf] at h
  try refine sb ?_; try exact ⟨⟩
  have e3 : j = l.length := by first | omega | (rw [zAs] at h; omega)
  subst e3
  rw [zCB (Nat.le_refl _)]
theorem zQv (x : Deal) (k : Int) (h0 : 0 ≤ k) (h1 : k + (x.cntv : Nat) ≤ 2 ^ 62) : ACall p_ 10 [.agg (Deal.row false (x.mkv k).1), i64 k] (fun r _ => r = i64 (x.mkv k).2) := by
 simp only [Deal.cntv] at h1
 have m_Cuts := zAw (f := mkS) (c := fun _ => 1) (fun _ _ => rfl) (l := x.Cuts) (k := k)
 have m_States := zAw (f := State.mk2) (c := State.cnt) (State.mk2_cnt) (l := x.States) (k := (mkL (mkS) x.Cuts k).2)
 have m_Orders := zAw (f := Order.mk2) (c := Order.cnt) (Order.mk2_cnt) (l := x.Orders) (k := (mkL (State.mk2) x.States (mkL (mkS) x.Cuts k).2).2)
 simp only [Deal.mkv]
 refine fg H10 fun E hE hH => ?_; simp only [go_sem, hE, hH, zMO]
 try refine st ?_; try exact ⟨⟩
 repeat' (first | ((with_reducible apply ga) <;> refine gs fun h => ?_) | ((with_reducible apply an); · omega) | ((first | refine zAa ?_ | refine cvA (zE6 x.Cuts k (by omega) (by omega)) ?_ | refine cvA (zNY x.States (mkL (mkS) x.Cuts k).2 (by omega) (by omega)) ?_ | refine cvA (zNX x.Orders (mkL (State.mk2) x.States (mkL (mkS) x.Cuts k).2).2 (by omega) (by omega)) ?_); refine st ?_) | refine jn _ ?_ ?_ | (with_reducible first | apply both | apply an | exact ti) | exact fe | refine st ?_ | exact fm | refine s1 ?_)
 all_goals first | omega | (simp [zAs]; done) | rfl
section
variable {α : Type} [Inhabited α] {κ : Type} [DecidableEq κ]
theorem zNz {p : Nat → Bool} {n : Nat} : ∀ {m : Nat}, n ≤ m → zCl p n ≤ zCl p m
 | 0, h => by rw [show n = 0 by omega]; exact Nat.le_refl _
 | m + 1, h => by
  by_cases e : n = m + 1
  ·rw [e]; exact Nat.le_refl _
  ·have := zNz (p := p) (n := n) (m := m) (by omega)
   simp only [zCl]
   omega
def fxI (lt : κ → κ → Bool) (f : α → κ) (l : List α) (k : κ) : Nat := zCl (fun i => lt (f (nth l i)) k) l.length
def fxF (f : α → κ) (l : List α) (k : κ) : Bool := l.any fun x => decide (f x = k)
def zAN (lt : κ → κ → Bool) (f : α → κ) (l : List α) : Prop := ∀ i j, i < j → j < l.length → lt (f (nth l i)) (f (nth l j)) = true
structure Ord (lt : κ → κ → Bool) (cmp : κ → κ → Int) : Prop where
 neg : ∀ a b, cmp a b < 0 ↔ lt a b = true
 zero : ∀ a b, cmp a b = 0 ↔ a = b
 irr : ∀ a, lt a a = false
 trans : ∀ a b c, lt a b = true → lt b c = true → lt a c = true
 total : ∀ a b, lt a b = true ∨ a = b ∨ lt b a = true
variable {lt : κ → κ → Bool} {cmp : κ → κ → Int} {f : α → κ} {l : List α} {k : κ}
theorem Ord.asym (O : Ord lt cmp) {a b : κ} (h : lt a b = true) : lt b a = false := by
 cases h2 : lt b a
 ·rfl
 ·have := O.trans _ _ _ h h2; rw [O.irr] at this; cases this
theorem Ord.ge (O : Ord lt cmp) {a b : κ} (h : lt a b = false) : a = b ∨ lt b a = true := by
 rcases O.total a b with h1 | h1 | h1
 ·rw [h] at h1; cases h1
 ·exact .inl h1
 ·exact .inr h1
theorem zDT : fxI lt f l k ≤ l.length := zHw
theorem zGw (O : Ord lt cmp) (hs : zAN lt f l) {i : Nat} (hi : i < l.length) : i < fxI lt f l k ↔ lt (f (nth l i)) k = true := by
 constructor
 ·intro h
  by_cases hb : lt (f (nth l i)) k = true
  ·exact hb
  ·exfalso
   have : fxI lt f l k ≤ i := by
    unfold fxI
    rw [zFB (Nat.le_of_lt hi) (fun j a b => ?_)]
    ·exact zHw
    ·by_cases e : j = i
     ·rw [e]; simpa using hb
     ·cases h2 : lt (f (nth l j)) k
      ·rfl
      ·exact absurd (O.trans _ _ _ (hs i j (by omega) b) h2) hb
   omega
 ·intro h
  unfold fxI
  have h1 := zGs (p := fun i => lt (f (nth l i)) k) (n := i + 1) (zAv.2 fun j hj => by
   by_cases e : j = i
   ·rw [e]; exact h
   ·exact O.trans _ _ _ (hs j i (by omega) hi) h)
  have h2 := zNz (p := fun i => lt (f (nth l i)) k) (n := i + 1) (m := l.length) (by omega)
  omega
theorem zJh (O : Ord lt cmp) (hs : zAN lt f l) {i : Nat} (hi : i < l.length) (h : f (nth l i) = k) : fxI lt f l k = i := by
 have h1 : ¬ i < fxI lt f l k := by rw [zGw O hs hi, h, O.irr]; simp
 by_cases h2 : fxI lt f l k < i
 ·have h3 := (zGw (k := k) O hs (show fxI lt f l k < l.length by omega)).2 (by have := hs _ _ h2 hi; rwa [h] at this)
  omega
 ·omega
theorem zB8 : fxF f l k = true ↔ ∃ i, i < l.length ∧ f (nth l i) = k := by
 unfold fxF
 rw [List.any_eq_true]
 constructor
 ·rintro ⟨x, hx, h1⟩
  obtain ⟨i, hi, rfl⟩ := List.getElem_of_mem hx
  exact ⟨i, hi, by rw [zAM hi]; simpa using h1⟩
 ·rintro ⟨i, hi, h1⟩; exact ⟨_, zAc hi, by simpa using h1⟩
theorem zCZ (O : Ord lt cmp) (hs : zAN lt f l) (h : fxF f l k = true) : fxI lt f l k < l.length ∧ f (nth l (fxI lt f l k)) = k := by
 obtain ⟨i, hi, h1⟩ := zB8.1 h
 rw [zJh O hs hi h1]; exact ⟨hi, h1⟩
theorem zSF (O : Ord lt cmp) (hs : zAN lt f l) (k : κ) : bsI (fun x => cmp (f x) k) l = fxI lt f l k ∧ bsF (fun x => cmp (f x) k) l = fxF f l k := by
 have e1 : bsI (fun x => cmp (f x) k) l = fxI lt f l k := by
  unfold bsI fxI
  congr 1; funext i
  rw [Bool.eq_iff_iff, decide_eq_true_iff, O.neg]
 refine ⟨e1, ?_⟩
 rw [Bool.eq_iff_iff]
 unfold bsF
 rw [e1, Bool.and_eq_true, decide_eq_true_iff, decide_eq_true_iff, O.zero]
 constructor
 ·rintro ⟨h1, h2⟩; exact zB8.2 ⟨_, h1, h2⟩
 ·intro h; exact zCZ O hs h
theorem zMS (O : Ord lt cmp) (hs : zAN lt f l) (i j : Nat) (h1 : i < j) (h2 : j < l.length) (h3 : 0 ≤ cmp (f (nth l i)) k) : 0 ≤ cmp (f (nth l j)) k := by
 rw [← Int.not_lt, O.neg] at h3 ⊢
 exact fun h => h3 (O.trans _ _ _ (hs i j h1 h2) h)
def putAt (l : List α) (i : Nat) (x : α) : List α := l.take i ++ x :: l.drop i
theorem zB3 {i : Nat} {x : α} (hi : i ≤ l.length) : (putAt l i x).length = l.length + 1 := by
 simp [putAt]; omega
theorem zJi {i j : Nat} {x : α} (hi : i ≤ l.length) : nth (putAt l i x) j = if j < i then nth l j else if j = i then x else nth l (j - 1) := by
 unfold putAt nth
 simp only [List.getD, List.getElem?_append, List.length_take, Nat.min_eq_left hi]
 split
 ·rename_i h; rw [List.getElem?_take_of_lt h]
 ·rename_i h
  by_cases e : j = i
  ·subst e; simp
  ·rw [if_neg e, List.getElem?_cons, if_neg (by omega), List.getElem?_drop]
   congr 2; omega
theorem zFD (O : Ord lt cmp) (hs : zAN lt f l) {x : α} (h : fxF f l (f x) = false) : zAN lt f (putAt l (fxI lt f l (f x)) x) := by
 intro i j h1 h2
 have hle := zDT (lt := lt) (f := f) (l := l) (k := f x)
 rw [zB3 hle] at h2
 rw [zJi hle, zJi hle]
 have lo : ∀ i, i < fxI lt f l (f x) → lt (f (nth l i)) (f x) = true := fun i hi => (zGw O hs (by omega)).1 hi
 have hi : ∀ i, fxI lt f l (f x) ≤ i → i < l.length → lt (f x) (f (nth l i)) = true := by
  intro i h3 h4
  have h5 : lt (f (nth l i)) (f x) = false := by
   cases h6 : lt (f (nth l i)) (f x)
   ·rfl
   ·have := (zGw O hs h4).2 h6; omega
  rcases O.ge h5 with h6 | h6
  ·have : fxF f l (f x) = true := zB8.2 ⟨i, h4, h6⟩
   rw [h] at this; cases this
  ·exact h6
 by_cases a : j < fxI lt f l (f x)
 ·rw [if_pos (by omega), if_pos a]; exact hs i j h1 (by omega)
 ·rw [if_neg a]
  by_cases b : j = fxI lt f l (f x)
  ·rw [if_pos b, if_pos (by omega)]; exact lo i (by omega)
  ·rw [if_neg b]
   by_cases c : i < fxI lt f l (f x)
   ·rw [if_pos c]; exact hs i (j - 1) (by omega) (by omega)
   ·rw [if_neg c]
    by_cases d : i = fxI lt f l (f x)
    ·rw [if_pos d]; exact hi (j - 1) (by omega) (by omega)
    ·rw [if_neg d]; exact hs (i - 1) (j - 1) (by omega) (by omega)
def dnI (p : α → Bool) (l : List α) : Nat → Nat
 | 0 => 0
 | n + 1 => if p (nth l n) then dnI p l n else n + 1
theorem zFE {p : α → Bool} {j : Nat} : ∀ {n : Nat}, j ≤ n → (∀ i, j ≤ i → i < n → p (nth l i) = true) → (j = 0 ∨ p (nth l (j - 1)) = false) → dnI p l n = j
 | 0, h, _, _ => by simp [dnI]; omega
 | n + 1, h, h1, h2 => by
  unfold dnI
  by_cases e : j = n + 1
  ·subst e
   rcases h2 with h2 | h2
   ·omega
   ·rw [show n + 1 - 1 = n by omega] at h2; rw [h2]; rfl
  ·rw [h1 n (by omega) (by omega), if_pos rfl]
   exact zFE (by omega) (fun i a b => h1 i a (by omega)) h2
theorem zLZ (O : Ord lt cmp) (hs : zAN lt f l) {x : α} (h : fxF f l (f x) = false) : dnI (fun y => lt (f x) (f y)) l l.length = fxI lt f l (f x) := by
 refine zFE zDT (fun i h3 h4 => ?_) ?_
 ·have h5 : lt (f (nth l i)) (f x) = false := by
   cases h6 : lt (f (nth l i)) (f x)
   ·rfl
   ·have := (zGw O hs h4).2 h6; omega
  rcases O.ge h5 with h6 | h6
  ·have : fxF f l (f x) = true := zB8.2 ⟨i, h4, h6⟩
   rw [h] at this; cases this
  ·exact h6
 ·by_cases e : fxI lt f l (f x) = 0
  ·exact .inl e
  ·exact .inr (O.asym ((zGw O hs (by have := zDT (lt := lt) (f := f) (l := l) (k := f x); omega)).1 (by omega)))
def cutAt (l : List α) (i : Nat) : List α := l.take i ++ l.drop (i + 1)
theorem zPA (O : Ord lt cmp) (hs : zAN lt f l) {i : Nat} (hi : i < l.length) : cutAt l i = l.filter fun x => !decide (f x = f (nth l i)) := by
 have e : l = l.take i ++ nth l i :: l.drop (i + 1) := by
  rw [zAM hi]; simp
 have h1 : (l.take i).filter (fun x => !decide (f x = f (nth l i))) = l.take i := by
  rw [List.filter_eq_self]
  intro x hx
  obtain ⟨j, hj, rfl⟩ := List.getElem_of_mem hx
  simp only [List.length_take] at hj
  rw [List.getElem_take, ← zAM (by omega)]
  have := hs j i (by omega) hi
  simp only [Bool.not_eq_true', decide_eq_false_iff_not]
  intro e; rw [e, O.irr] at this; cases this
 have h2 : (l.drop (i + 1)).filter (fun x => !decide (f x = f (nth l i))) = l.drop (i + 1) := by
  rw [List.filter_eq_self]
  intro x hx
  obtain ⟨j, hj, rfl⟩ := List.getElem_of_mem hx
  simp only [List.length_drop] at hj
  rw [List.getElem_drop, ← zAM (by omega)]
  have := hs i (i + 1 + j) (by omega) (by omega)
  simp only [Bool.not_eq_true', decide_eq_false_iff_not]
  intro e; rw [e, O.irr] at this; cases this
 have h3 : (l.take i ++ nth l i :: l.drop (i + 1)).filter (fun x => !decide (f x = f (nth l i))) = cutAt l i := by
  rw [List.filter_append, List.filter_cons, h1, h2]
  simp [cutAt]
 rw [← e] at h3
 exact h3.symm
theorem zNA {i : Nat} (hi : i < l.length) : (cutAt l i).length + 1 = l.length := by simp [cutAt]; omega
theorem zUS (hs : zAN lt f l) {i : Nat} (hi : i < l.length) : zAN lt f (cutAt l i) := by
 have hn : ∀ j, nth (cutAt l i) j = if j < i then nth l j else nth l (j + 1) := by
  intro j
  unfold cutAt nth
  simp only [List.getD, List.getElem?_append, List.length_take, Nat.min_eq_left (Nat.le_of_lt hi)]
  split
  ·rename_i h; rw [List.getElem?_take_of_lt h]
  ·rw [List.getElem?_drop]; congr 2; omega
 intro a b h1 h2
 have := zNA hi
 rw [hn, hn]
 by_cases c : b < i
 ·rw [if_pos (by omega), if_pos c]; exact hs a b h1 (by omega)
 ·rw [if_neg c]
  by_cases d : a < i
  ·rw [if_pos d]; exact hs a (b + 1) (by omega) (by omega)
  ·rw [if_neg d]; exact hs (a + 1) (b + 1) (by omega) (by omega)
theorem zDn {i : Nat} {x y : α} : y ∈ putAt l i x ↔ y = x ∨ y ∈ l := by
 unfold putAt
 conv => rhs; rw [← List.take_append_drop i l]
 simp only [List.mem_append, List.mem_cons]
 constructor
 ·rintro (h | h | h) <;> simp [h]
 ·rintro (h | h | h) <;> simp [h]
theorem zUT {i : Nat} {y : α} (h : y ∈ cutAt l i) : y ∈ l := by
 unfold cutAt at h
 rcases List.mem_append.1 h with h | h
 ·exact List.mem_of_mem_take h
 ·exact List.mem_of_mem_drop h
end
def ltI (a b : Int) : Bool := decide (a < b)
end Go.Proofs.Wb

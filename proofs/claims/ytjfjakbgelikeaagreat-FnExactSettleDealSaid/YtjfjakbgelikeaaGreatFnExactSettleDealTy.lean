import Derived.Test.YtjfjakbgelikeaaGreatFnExactSettleDealCodes
import Derived.Test.YtjfjakbgelikeaaGreatFnExactSettleDealCodes1
import Derived.Test.YtjfjakbgelikeaaGreatFnExactSettleDealCodes2
import Derived.Test.YtjfjakbgelikeaaGreatAmRaw
set_option linter.all false
set_option maxHeartbeats 4000000
namespace Go.Proofs.Wb
open Tryz renaming prog → p_
open Go Go.Am
structure Ver where
 Time : Int
 Val : ByteArray
 Gone : Bool
 deriving DecidableEq, Inhabited
def Ver.row (o : Bool) (x : Ver) : List T := [i64 x.Time, str x.Val, bl x.Gone]
@[go_sem] theorem Ver.row_eq (o : Bool) (x : Ver) : Ver.row o x = [i64 x.Time, str x.Val, bl x.Gone] := rfl
def Ver.wf (x : Ver) : Prop := (-9223372036854775808 ≤ x.Time ∧ x.Time ≤ 9223372036854775807) ∧ (x.Val.size ≤ maxLen)
def Ver.sz (x : Ver) : Nat := x.Val.size
structure Write where
 Key : ByteArray
 Val : ByteArray
 Gone : Bool
 deriving DecidableEq, Inhabited
def Write.row (o : Bool) (x : Write) : List T := [str x.Key, str x.Val, bl x.Gone]
@[go_sem] theorem Write.row_eq (o : Bool) (x : Write) : Write.row o x = [str x.Key, str x.Val, bl x.Gone] := rfl
def Write.wf (x : Write) : Prop := (x.Key.size ≤ maxLen) ∧ (x.Val.size ≤ maxLen)
def Write.sz (x : Write) : Nat := x.Key.size + x.Val.size
structure Told where
 Txn : Int
 Yes : Bool
 Time : Int
 deriving DecidableEq, Inhabited
def Told.row (o : Bool) (x : Told) : List T := [i64 x.Txn, bl x.Yes, i64 x.Time]
@[go_sem] theorem Told.row_eq (o : Bool) (x : Told) : Told.row o x = [i64 x.Txn, bl x.Yes, i64 x.Time] := rfl
def Told.wf (x : Told) : Prop := (-9223372036854775808 ≤ x.Txn ∧ x.Txn ≤ 9223372036854775807) ∧ (-9223372036854775808 ≤ x.Time ∧ x.Time ≤ 9223372036854775807)
structure Cell where
 Key : ByteArray
 Vers : List Ver
 deriving DecidableEq, Inhabited
def Cell.row (o : Bool) (x : Cell) : List T := [str x.Key, .sl o 3 (x.Vers.map (Ver.row o))]
@[go_sem] theorem Cell.row_eq (o : Bool) (x : Cell) : Cell.row o x = [str x.Key, .sl o 3 (x.Vers.map (Ver.row o))] := rfl
def Cell.wf (x : Cell) : Prop := (x.Key.size ≤ maxLen) ∧ (wfL (Ver.wf) x.Vers)
def Cell.sz (x : Cell) : Nat := x.Key.size + szL (Ver.sz) x.Vers
structure Held where
 Txn : Int
 Time : Int
 Lead : Int
 Reads : List ByteArray
 Writes : List Write
 deriving DecidableEq, Inhabited
def Held.row (o : Bool) (x : Held) : List T := [i64 x.Txn, i64 x.Time, i64 x.Lead, .sl o 1 (strs x.Reads), .sl o 3 (x.Writes.map (Write.row o))]
@[go_sem] theorem Held.row_eq (o : Bool) (x : Held) : Held.row o x = [i64 x.Txn, i64 x.Time, i64 x.Lead, .sl o 1 (strs x.Reads), .sl o 3 (x.Writes.map (Write.row o))] := rfl
def Held.wf (x : Held) : Prop := (-9223372036854775808 ≤ x.Txn ∧ x.Txn ≤ 9223372036854775807) ∧ (-9223372036854775808 ≤ x.Time ∧ x.Time ≤ 9223372036854775807) ∧ (-9223372036854775808 ≤ x.Lead ∧ x.Lead ≤ 9223372036854775807) ∧ (wfL (fun s => s.size ≤ maxLen) x.Reads) ∧ (wfL (Write.wf) x.Writes)
def Held.sz (x : Held) : Nat := szL (ByteArray.size) x.Reads + szL (Write.sz) x.Writes
structure Order where
 Txn : Int
 Reads : List ByteArray
 Writes : List Write
 deriving DecidableEq, Inhabited
def Order.row (o : Bool) (x : Order) : List T := [i64 x.Txn, .sl o 1 (strs x.Reads), .sl o 3 (x.Writes.map (Write.row o))]
@[go_sem] theorem Order.row_eq (o : Bool) (x : Order) : Order.row o x = [i64 x.Txn, .sl o 1 (strs x.Reads), .sl o 3 (x.Writes.map (Write.row o))] := rfl
def Order.wf (x : Order) : Prop := (-9223372036854775808 ≤ x.Txn ∧ x.Txn ≤ 9223372036854775807) ∧ (wfL (fun s => s.size ≤ maxLen) x.Reads) ∧ (wfL (Write.wf) x.Writes)
def Order.sz (x : Order) : Nat := szL (ByteArray.size) x.Reads + szL (Write.sz) x.Writes
structure State where
 Floor : Int
 Cells : List Cell
 Held : List Held
 Told : List Told
 deriving DecidableEq, Inhabited
def State.row (o : Bool) (x : State) : List T := [i64 x.Floor, .sl o 2 (x.Cells.map (Cell.row o)), .sl o 5 (x.Held.map (Held.row o)), .sl o 3 (x.Told.map (Told.row o))]
@[go_sem] theorem State.row_eq (o : Bool) (x : State) : State.row o x = [i64 x.Floor, .sl o 2 (x.Cells.map (Cell.row o)), .sl o 5 (x.Held.map (Held.row o)), .sl o 3 (x.Told.map (Told.row o))] := rfl
def State.wf (x : State) : Prop := (-9223372036854775808 ≤ x.Floor ∧ x.Floor ≤ 9223372036854775807) ∧ (wfL (Cell.wf) x.Cells) ∧ (wfL (Held.wf) x.Held) ∧ (wfL (Told.wf) x.Told)
def State.sz (x : State) : Nat := szL (Cell.sz) x.Cells + szL (Held.sz) x.Held + x.Told.length
structure Deal where
 Cuts : List ByteArray
 States : List State
 Orders : List Order
 deriving DecidableEq, Inhabited
def Deal.row (o : Bool) (x : Deal) : List T := [.sl o 1 (strs x.Cuts), .sl o 4 (x.States.map (State.row o)), .sl o 3 (x.Orders.map (Order.row o))]
@[go_sem] theorem Deal.row_eq (o : Bool) (x : Deal) : Deal.row o x = [.sl o 1 (strs x.Cuts), .sl o 4 (x.States.map (State.row o)), .sl o 3 (x.Orders.map (Order.row o))] := rfl
def Deal.wf (x : Deal) : Prop := (wfL (fun s => s.size ≤ maxLen) x.Cuts) ∧ (wfL (State.wf) x.States) ∧ (wfL (Order.wf) x.Orders)
def Deal.sz (x : Deal) : Nat := szL (ByteArray.size) x.Cuts + szL (State.sz) x.States + szL (Order.sz) x.Orders
structure Rec where
 Kind : Int
 Txn : Int
 Time : Int
 Lead : Int
 Reads : List ByteArray
 Writes : List Write
 Yes : Bool
 deriving DecidableEq, Inhabited
def Rec.row (o : Bool) (x : Rec) : List T := [i64 x.Kind, i64 x.Txn, i64 x.Time, i64 x.Lead, .sl o 1 (strs x.Reads), .sl o 3 (x.Writes.map (Write.row o)), bl x.Yes]
@[go_sem] theorem Rec.row_eq (o : Bool) (x : Rec) : Rec.row o x = [i64 x.Kind, i64 x.Txn, i64 x.Time, i64 x.Lead, .sl o 1 (strs x.Reads), .sl o 3 (x.Writes.map (Write.row o)), bl x.Yes] := rfl
def Rec.wf (x : Rec) : Prop := (-9223372036854775808 ≤ x.Kind ∧ x.Kind ≤ 9223372036854775807) ∧ (-9223372036854775808 ≤ x.Txn ∧ x.Txn ≤ 9223372036854775807) ∧ (-9223372036854775808 ≤ x.Time ∧ x.Time ≤ 9223372036854775807) ∧ (-9223372036854775808 ≤ x.Lead ∧ x.Lead ≤ 9223372036854775807) ∧ (wfL (fun s => s.size ≤ maxLen) x.Reads) ∧ (wfL (Write.wf) x.Writes)
def Rec.sz (x : Rec) : Nat := szL (ByteArray.size) x.Reads + szL (Write.sz) x.Writes
def Ver.lim (x : Ver) : Prop := True
theorem Ver.lim_of {x : Ver} (h : x.wf) : x.lim := by
 exact trivial
def Write.lim (x : Write) : Prop := True
theorem Write.lim_of {x : Write} (h : x.wf) : x.lim := by
 exact trivial
def Told.lim (x : Told) : Prop := True
theorem Told.lim_of {x : Told} (h : x.wf) : x.lim := by
 exact trivial
def Cell.lim (x : Cell) : Prop := (zBN (Ver.lim) x.Vers)
theorem Cell.lim_of {x : Cell} (h : x.wf) : x.lim := by
 obtain ⟨w_Key, w_Vers⟩ := h
 exact ⟨w_Vers.1, fun y hy => Ver.lim_of (w_Vers.2 y hy)⟩
theorem Cell.lim_sz {x : Cell} (h : x.sz ≤ 2 ^ 62) : x.lim := by
 unfold Cell.sz at h
 exact ⟨Nat.le_trans (zA9 (f := Ver.sz)) (Nat.le_trans (by omega) zH5), fun y hy => trivial⟩
def Held.lim (x : Held) : Prop := (zBN (fun _ => True) x.Reads) ∧ (zBN (Write.lim) x.Writes)
theorem Held.lim_of {x : Held} (h : x.wf) : x.lim := by
 obtain ⟨w_Txn, w_Time, w_Lead, w_Reads, w_Writes⟩ := h
 exact ⟨⟨w_Reads.1, fun _ _ => trivial⟩, ⟨w_Writes.1, fun y hy => Write.lim_of (w_Writes.2 y hy)⟩⟩
open Go.Proofs.Wb renaming Held.sz → z0_ in
theorem Held.lim_sz {x : Held} (h : x.sz ≤ 2 ^ 62) : x.lim := Q1_
def Order.lim (x : Order) : Prop := (zBN (fun _ => True) x.Reads) ∧ (zBN (Write.lim) x.Writes)
theorem Order.lim_of {x : Order} (h : x.wf) : x.lim := by
 obtain ⟨w_Txn, w_Reads, w_Writes⟩ := h
 exact ⟨⟨w_Reads.1, fun _ _ => trivial⟩, ⟨w_Writes.1, fun y hy => Write.lim_of (w_Writes.2 y hy)⟩⟩
open Go.Proofs.Wb renaming Order.sz → z0_ in
theorem Order.lim_sz {x : Order} (h : x.sz ≤ 2 ^ 62) : x.lim := Q1_
def State.lim (x : State) : Prop := (zBN (Cell.lim) x.Cells) ∧ (zBN (Held.lim) x.Held) ∧ (zBN (Told.lim) x.Told)
theorem State.lim_of {x : State} (h : x.wf) : x.lim := by
 obtain ⟨w_Floor, w_Cells, w_Held, w_Told⟩ := h
 exact ⟨⟨w_Cells.1, fun y hy => Cell.lim_of (w_Cells.2 y hy)⟩, ⟨w_Held.1, fun y hy => Held.lim_of (w_Held.2 y hy)⟩, ⟨w_Told.1, fun y hy => Told.lim_of (w_Told.2 y hy)⟩⟩
theorem State.lim_sz {x : State} (h : x.sz ≤ 2 ^ 62) : x.lim := by
 unfold State.sz at h
 exact ⟨⟨Nat.le_trans (zA9 (f := Cell.sz)) (Nat.le_trans (by omega) zH5), fun y hy => Cell.lim_sz (Nat.le_trans (zCq (f := Cell.sz) hy) (by omega))⟩, ⟨Nat.le_trans (zA9 (f := Held.sz)) (Nat.le_trans (by omega) zH5), fun y hy => Held.lim_sz (Nat.le_trans (zCq (f := Held.sz) hy) (by omega))⟩, ⟨Nat.le_trans (by omega) zH5, fun y hy => trivial⟩⟩
def Deal.lim (x : Deal) : Prop := (zBN (fun _ => True) x.Cuts) ∧ (zBN (State.lim) x.States) ∧ (zBN (Order.lim) x.Orders)
theorem Deal.lim_of {x : Deal} (h : x.wf) : x.lim := by
 obtain ⟨w_Cuts, w_States, w_Orders⟩ := h
 exact ⟨⟨w_Cuts.1, fun _ _ => trivial⟩, ⟨w_States.1, fun y hy => State.lim_of (w_States.2 y hy)⟩, ⟨w_Orders.1, fun y hy => Order.lim_of (w_Orders.2 y hy)⟩⟩
theorem Deal.lim_sz {x : Deal} (h : x.sz ≤ 2 ^ 62) : x.lim := by
 unfold Deal.sz at h
 exact ⟨⟨Nat.le_trans (zA9 (f := ByteArray.size)) (Nat.le_trans (by omega) zH5), fun y hy => trivial⟩, ⟨Nat.le_trans (zA9 (f := State.sz)) (Nat.le_trans (by omega) zH5), fun y hy => State.lim_sz (Nat.le_trans (zCq (f := State.sz) hy) (by omega))⟩, ⟨Nat.le_trans (zA9 (f := Order.sz)) (Nat.le_trans (by omega) zH5), fun y hy => Order.lim_sz (Nat.le_trans (zCq (f := Order.sz) hy) (by omega))⟩⟩
def Rec.lim (x : Rec) : Prop := (zBN (fun _ => True) x.Reads) ∧ (zBN (Write.lim) x.Writes)
theorem Rec.lim_of {x : Rec} (h : x.wf) : x.lim := by
 obtain ⟨w_Kind, w_Txn, w_Time, w_Lead, w_Reads, w_Writes⟩ := h
 exact ⟨⟨w_Reads.1, fun _ _ => trivial⟩, ⟨w_Writes.1, fun y hy => Write.lim_of (w_Writes.2 y hy)⟩⟩
open Go.Proofs.Wb renaming Rec.sz → z0_ in
theorem Rec.lim_sz {x : Rec} (h : x.sz ≤ 2 ^ 62) : x.lim := Q1_
theorem zGu (l : List ByteArray) (left : Int) (h0 : 0 ≤ left) (h1 : left ≤ 2 ^ 20) (hw : wfL (fun s => s.size ≤ maxLen) l) : ACall p_ 11 [.sl false 1 (strs l), i64 left]
  (fun r _ => ∃ n : Int, r = i64 n ∧ n ≤ left ∧ (0 ≤ n → n + (szL (ByteArray.size) l : Nat) = left)) := by
 obtain ⟨hl, hx⟩ := hw
 have hm := zAh
 refine fg H11 fun E hE hH => ?_; simp only [go_sem, hE, hH, C11]
 try refine st ?_; try exact ⟨⟩
 repeat' (first | ((with_reducible apply ga) <;> refine gs fun h => ?_) | ((with_reducible apply an); · omega) | refine jn _ ?_ ?_ | (with_reducible first | apply both | apply an | exact ti) | exact fe | refine st ?_ | exact fm | refine s1 ?_)
 ·exact ⟨_, rfl, by omega, by omega⟩
 refine zAK l.length (fun j (n : Int) => ⟨[(0, .sl false 1 (strs l)), (1, i64 n), (5, i64 j)], []⟩) (fun j n => 0 ≤ n ∧ n ≤ left ∧ n + l.length + zEQ (ByteArray.size) l j = left) (left - (l.length : Int)) (by rw [zNu]; omega) ?_
 intro j n hj hI
 obtain ⟨i1, i0, i2⟩ := hI
 try simp only [go_sem, hE, hH, zTZ]
 first | refine zAe (fun h => ?_) (fun h => ?_) | refine zAf (fun h => ?_) (fun h => ?_)
 ·have hb := h
  simp only [nf] at h
  have hlt := h; clear h
  have hs := hx _ (zAc hlt)
  try refine sb ?_; try exact ⟨⟩
  repeat refine And.intro (by omega) ?_
  repeat' (first | ((with_reducible apply ga) <;> refine gs fun h => ?_) | ((with_reducible apply an); · omega) | refine jn _ ?_ ?_ | (with_reducible first | apply both | apply an | exact ti) | exact fe | refine st ?_ | exact fm | refine s1 ?_)
  ·exact ⟨_, rfl, by omega, by omega⟩
  ·exact ⟨_, rfl, by omega, by omega, by rw [zJb hlt]; omega⟩
 ·have hb := h
  simp only [nf] at h
  try refine sb ?_; try exact ⟨⟩
  exact ⟨_, rfl, by omega, fun _ => by rw [zPe (by omega)] at i2; rw [show szL (ByteArray.size) l = l.length + (l.map (ByteArray.size)).sum from rfl]; omega⟩
theorem zV9 (x : Ver) (left : Int) (h0 : 0 ≤ left) (h1 : left ≤ 2 ^ 20) (hw : x.wf) : ACall p_ 210 [.agg (Ver.row false x), i64 left]
  (fun r _ => ∃ n : Int, r = i64 n ∧ n ≤ left ∧ (0 ≤ n → n + (x.sz : Nat) = left)) := by
 obtain ⟨w_Time, w_Val⟩ := hw
 have hm := zAh
 refine fg H210 fun E hE hH => ?_; simp only [go_sem, hE, hH, zZQ]
 try refine st ?_; try exact ⟨⟩
 first | refine zAe (fun h => ?_) (fun h => ?_) | refine zAf (fun h => ?_) (fun h => ?_)
 ·have hb := h
  simp only [nf] at h
  try refine sb ?_; try exact ⟨⟩
  exact ⟨_, rfl, by omega, by omega⟩
 have hb := h
 simp only [nf] at h
 try refine sb ?_; try exact ⟨⟩
 have p0 : 0 ≤ left - (x.Val.size : Int) := by omega
 clear h hb
 exact ⟨_, rfl, by omega, fun _ => by unfold Ver.sz; omega⟩
theorem zSn (x : Write) (left : Int) (h0 : 0 ≤ left) (h1 : left ≤ 2 ^ 20) (hw : x.wf) : ACall p_ 136 [.agg (Write.row false x), i64 left]
  (fun r _ => ∃ n : Int, r = i64 n ∧ n ≤ left ∧ (0 ≤ n → n + (x.sz : Nat) = left)) := by
 obtain ⟨w_Key, w_Val⟩ := hw
 have hm := zAh
 refine fg H136 fun E hE hH => ?_; simp only [go_sem, hE, hH, zYZ]
 try refine st ?_; try exact ⟨⟩
 first | refine zAe (fun h => ?_) (fun h => ?_) | refine zAf (fun h => ?_) (fun h => ?_)
 ·have hb := h
  simp only [nf] at h
  try refine sb ?_; try exact ⟨⟩
  exact ⟨_, rfl, by omega, by omega⟩
 have hb := h
 simp only [nf] at h
 try refine sb ?_; try exact ⟨⟩
 have p0 : 0 ≤ left - (x.Key.size : Int) := by omega
 clear h hb
 try refine st ?_; try exact ⟨⟩
 first | refine zAe (fun h => ?_) (fun h => ?_) | refine zAf (fun h => ?_) (fun h => ?_)
 ·have hb := h
  simp only [nf] at h
  try refine sb ?_; try exact ⟨⟩
  exact ⟨_, rfl, by omega, by omega⟩
 have hb := h
 simp only [nf] at h
 try refine sb ?_; try exact ⟨⟩
 have p1 : 0 ≤ (left - (x.Key.size : Int)) - (x.Val.size : Int) := by omega
 clear h hb
 exact ⟨_, rfl, by omega, fun _ => by unfold Write.sz; omega⟩
theorem zSo (l : List Told) (left : Int) (h0 : 0 ≤ left) (h1 : left ≤ 2 ^ 20) (hw : wfL (Told.wf) l) : ACall p_ 87 [.sl false 3 (l.map (Told.row false)), i64 left]
  (fun r _ => ∃ n : Int, r = i64 n ∧ n ≤ left ∧ (0 ≤ n → n + (l.length : Nat) = left)) := by
 obtain ⟨hl, hx⟩ := hw
 have hm := zAh
 refine fg H87 fun E hE hH => ?_; simp only [go_sem, hE, hH, C87]
 try refine st ?_; try exact ⟨⟩
 repeat' (first | ((with_reducible apply ga) <;> refine gs fun h => ?_) | ((with_reducible apply an); · omega) | refine jn _ ?_ ?_ | (with_reducible first | apply both | apply an | exact ti) | exact fe | refine st ?_ | exact fm | refine s1 ?_)
 ·exact ⟨_, rfl, by omega, by omega⟩
 ·exact ⟨_, rfl, by omega, by omega⟩
open Go.Proofs.Wb renaming H177 → z0_, zOj → z1_, Ver.row → z3_, Ver.sz → z4_, zK9 → z5_, zV9 → z6_ in
open Go.Am renaming k3_ → z2_ in
theorem zUF (l : List Ver) (left : Int) (h0 : 0 ≤ left) (h1 : left ≤ 2 ^ 20) (hw : wfL (Ver.wf) l) : ACall p_ 177 [.sl false 3 (l.map (Ver.row false)), i64 left]
  (fun r _ => ∃ n : Int, r = i64 n ∧ n ≤ left ∧ (0 ≤ n → n + (szL (Ver.sz) l : Nat) = left)) := Q2_
open Go.Proofs.Wb renaming H88 → z0_, zOj → z1_, Write.row → z3_, Write.sz → z4_, zK9 → z5_, zSn → z6_ in
open Go.Am renaming k3_ → z2_ in
theorem zKp (l : List Write) (left : Int) (h0 : 0 ≤ left) (h1 : left ≤ 2 ^ 20) (hw : wfL (Write.wf) l) : ACall p_ 88 [.sl false 3 (l.map (Write.row false)), i64 left]
  (fun r _ => ∃ n : Int, r = i64 n ∧ n ≤ left ∧ (0 ≤ n → n + (szL (Write.sz) l : Nat) = left)) := Q2_
theorem zUG (x : Cell) (left : Int) (h0 : 0 ≤ left) (h1 : left ≤ 2 ^ 20) (hw : x.wf) : ACall p_ 134 [.agg (Cell.row false x), i64 left]
  (fun r _ => ∃ n : Int, r = i64 n ∧ n ≤ left ∧ (0 ≤ n → n + (x.sz : Nat) = left)) := by
 obtain ⟨w_Key, w_Vers⟩ := hw
 have hm := zAh
 refine fg H134 fun E hE hH => ?_; simp only [go_sem, hE, hH, zYY]
 try refine st ?_; try exact ⟨⟩
 first | refine zAe (fun h => ?_) (fun h => ?_) | refine zAf (fun h => ?_) (fun h => ?_)
 ·have hb := h
  simp only [nf] at h
  try refine sb ?_; try exact ⟨⟩
  exact ⟨_, rfl, by omega, by omega⟩
 have hb := h
 simp only [nf] at h
 try refine sb ?_; try exact ⟨⟩
 have p0 : 0 ≤ left - (x.Key.size : Int) := by omega
 clear h hb
 refine zAa ?_; simp (disch := omega) only [go_sem, hE, hH]; refine cvA (zUF _ _ p0 (by omega) w_Vers) ?_
 try refine st ?_; try exact ⟨⟩
 refine zBf ?_
 rintro r k ⟨n1, rfl, a1, b1⟩
 try refine st ?_; try exact ⟨⟩
 first | refine zAe (fun h => ?_) (fun h => ?_) | refine zAf (fun h => ?_) (fun h => ?_)
 ·have hb := h
  simp only [nf] at h
  try refine sb ?_; try exact ⟨⟩
  exact ⟨_, rfl, by omega, by omega⟩
 have hb := h
 simp only [nf] at h
 try refine sb ?_; try exact ⟨⟩
 have p1 : 0 ≤ n1 := by omega
 have b1 := b1 p1
 clear h hb
 exact ⟨_, rfl, by omega, fun _ => by unfold Cell.sz; omega⟩
theorem zUH (x : Held) (left : Int) (h0 : 0 ≤ left) (h1 : left ≤ 2 ^ 20) (hw : x.wf) : ACall p_ 135 [.agg (Held.row false x), i64 left]
  (fun r _ => ∃ n : Int, r = i64 n ∧ n ≤ left ∧ (0 ≤ n → n + (x.sz : Nat) = left)) := by
 obtain ⟨w_Txn, w_Time, w_Lead, w_Reads, w_Writes⟩ := hw
 have hm := zAh
 refine fg H135 fun E hE hH => ?_; simp only [go_sem, hE, hH, zSi]
 refine zAa ?_; simp (disch := omega) only [go_sem, hE, hH]; refine cvA (zGu _ _ (by omega) (by omega) w_Reads) ?_
 try refine st ?_; try exact ⟨⟩
 refine zBf ?_
 rintro r k ⟨n0, rfl, a0, b0⟩
 try refine st ?_; try exact ⟨⟩
 first | refine zAe (fun h => ?_) (fun h => ?_) | refine zAf (fun h => ?_) (fun h => ?_)
 ·have hb := h
  simp only [nf] at h
  try refine sb ?_; try exact ⟨⟩
  exact ⟨_, rfl, by omega, by omega⟩
 have hb := h
 simp only [nf] at h
 try refine sb ?_; try exact ⟨⟩
 have p0 : 0 ≤ n0 := by omega
 have b0 := b0 p0
 clear h hb
 refine zAa ?_; simp (disch := omega) only [go_sem, hE, hH]; refine cvA (zKp _ _ p0 (by omega) w_Writes) ?_
 try refine st ?_; try exact ⟨⟩
 refine zBf ?_
 rintro r k ⟨n1, rfl, a1, b1⟩
 try refine st ?_; try exact ⟨⟩
 first | refine zAe (fun h => ?_) (fun h => ?_) | refine zAf (fun h => ?_) (fun h => ?_)
 ·have hb := h
  simp only [nf] at h
  try refine sb ?_; try exact ⟨⟩
  exact ⟨_, rfl, by omega, by omega⟩
 have hb := h
 simp only [nf] at h
 try refine sb ?_; try exact ⟨⟩
 have p1 : 0 ≤ n1 := by omega
 have b1 := b1 p1
 clear h hb
 exact ⟨_, rfl, by omega, fun _ => by unfold Held.sz; omega⟩
theorem zSp (x : Order) (left : Int) (h0 : 0 ≤ left) (h1 : left ≤ 2 ^ 20) (hw : x.wf) : ACall p_ 43 [.agg (Order.row false x), i64 left]
  (fun r _ => ∃ n : Int, r = i64 n ∧ n ≤ left ∧ (0 ≤ n → n + (x.sz : Nat) = left)) := by
 obtain ⟨w_Txn, w_Reads, w_Writes⟩ := hw
 have hm := zAh
 refine fg H43 fun E hE hH => ?_; simp only [go_sem, hE, hH, zSi]
 refine zAa ?_; simp (disch := omega) only [go_sem, hE, hH]; refine cvA (zGu _ _ (by omega) (by omega) w_Reads) ?_
 try refine st ?_; try exact ⟨⟩
 refine zBf ?_
 rintro r k ⟨n0, rfl, a0, b0⟩
 try refine st ?_; try exact ⟨⟩
 first | refine zAe (fun h => ?_) (fun h => ?_) | refine zAf (fun h => ?_) (fun h => ?_)
 ·have hb := h
  simp only [nf] at h
  try refine sb ?_; try exact ⟨⟩
  exact ⟨_, rfl, by omega, by omega⟩
 have hb := h
 simp only [nf] at h
 try refine sb ?_; try exact ⟨⟩
 have p0 : 0 ≤ n0 := by omega
 have b0 := b0 p0
 clear h hb
 refine zAa ?_; simp (disch := omega) only [go_sem, hE, hH]; refine cvA (zKp _ _ p0 (by omega) w_Writes) ?_
 try refine st ?_; try exact ⟨⟩
 refine zBf ?_
 rintro r k ⟨n1, rfl, a1, b1⟩
 try refine st ?_; try exact ⟨⟩
 first | refine zAe (fun h => ?_) (fun h => ?_) | refine zAf (fun h => ?_) (fun h => ?_)
 ·have hb := h
  simp only [nf] at h
  try refine sb ?_; try exact ⟨⟩
  exact ⟨_, rfl, by omega, by omega⟩
 have hb := h
 simp only [nf] at h
 try refine sb ?_; try exact ⟨⟩
 have p1 : 0 ≤ n1 := by omega
 have b1 := b1 p1
 clear h hb
 exact ⟨_, rfl, by omega, fun _ => by unfold Order.sz; omega⟩
open Go.Proofs.Wb renaming H85 → z0_, zJc → z1_, Cell.row → z3_, Cell.sz → z4_, zHy → z5_, zUG → z6_ in
open Go.Am renaming k2_ → z2_ in
theorem zSq (l : List Cell) (left : Int) (h0 : 0 ≤ left) (h1 : left ≤ 2 ^ 20) (hw : wfL (Cell.wf) l) : ACall p_ 85 [.sl false 2 (l.map (Cell.row false)), i64 left]
  (fun r _ => ∃ n : Int, r = i64 n ∧ n ≤ left ∧ (0 ≤ n → n + (szL (Cell.sz) l : Nat) = left)) := Q2_
open Go.Proofs.Wb renaming H86 → z0_, zJc → z1_, Held.row → z3_, Held.sz → z4_, zHy → z5_, zUH → z6_ in
open Go.Am renaming k5_ → z2_ in
theorem zSr (l : List Held) (left : Int) (h0 : 0 ≤ left) (h1 : left ≤ 2 ^ 20) (hw : wfL (Held.wf) l) : ACall p_ 86 [.sl false 5 (l.map (Held.row false)), i64 left]
  (fun r _ => ∃ n : Int, r = i64 n ∧ n ≤ left ∧ (0 ≤ n → n + (szL (Held.sz) l : Nat) = left)) := Q2_
open Go.Proofs.Wb renaming H13 → z0_, zJc → z1_, Order.row → z3_, Order.sz → z4_, zHy → z5_, zSp → z6_ in
open Go.Am renaming k3_ → z2_ in
theorem zQm (l : List Order) (left : Int) (h0 : 0 ≤ left) (h1 : left ≤ 2 ^ 20) (hw : wfL (Order.wf) l) : ACall p_ 13 [.sl false 3 (l.map (Order.row false)), i64 left]
  (fun r _ => ∃ n : Int, r = i64 n ∧ n ≤ left ∧ (0 ≤ n → n + (szL (Order.sz) l : Nat) = left)) := Q2_
theorem zSs (x : State) (left : Int) (h0 : 0 ≤ left) (h1 : left ≤ 2 ^ 20) (hw : x.wf) : ACall p_ 42 [.agg (State.row false x), i64 left]
  (fun r _ => ∃ n : Int, r = i64 n ∧ n ≤ left ∧ (0 ≤ n → n + (x.sz : Nat) = left)) := by
 obtain ⟨w_Floor, w_Cells, w_Held, w_Told⟩ := hw
 have hm := zAh
 refine fg H42 fun E hE hH => ?_; simp only [go_sem, hE, hH, zMO]
 refine zAa ?_; simp (disch := omega) only [go_sem, hE, hH]; refine cvA (zSq _ _ (by omega) (by omega) w_Cells) ?_
 try refine st ?_; try exact ⟨⟩
 refine zBf ?_
 rintro r k ⟨n0, rfl, a0, b0⟩
 try refine st ?_; try exact ⟨⟩
 first | refine zAe (fun h => ?_) (fun h => ?_) | refine zAf (fun h => ?_) (fun h => ?_)
 ·have hb := h
  simp only [nf] at h
  try refine sb ?_; try exact ⟨⟩
  exact ⟨_, rfl, by omega, by omega⟩
 have hb := h
 simp only [nf] at h
 try refine sb ?_; try exact ⟨⟩
 have p0 : 0 ≤ n0 := by omega
 have b0 := b0 p0
 clear h hb
 refine zAa ?_; simp (disch := omega) only [go_sem, hE, hH]; refine cvA (zSr _ _ p0 (by omega) w_Held) ?_
 try refine st ?_; try exact ⟨⟩
 refine zBf ?_
 rintro r k ⟨n1, rfl, a1, b1⟩
 try refine st ?_; try exact ⟨⟩
 first | refine zAe (fun h => ?_) (fun h => ?_) | refine zAf (fun h => ?_) (fun h => ?_)
 ·have hb := h
  simp only [nf] at h
  try refine sb ?_; try exact ⟨⟩
  exact ⟨_, rfl, by omega, by omega⟩
 have hb := h
 simp only [nf] at h
 try refine sb ?_; try exact ⟨⟩
 have p1 : 0 ≤ n1 := by omega
 have b1 := b1 p1
 clear h hb
 refine zAa ?_; simp (disch := omega) only [go_sem, hE, hH]; refine cvA (zSo _ _ p1 (by omega) w_Told) ?_
 try refine st ?_; try exact ⟨⟩
 refine zBf ?_
 rintro r k ⟨n2, rfl, a2, b2⟩
 try refine st ?_; try exact ⟨⟩
 first | refine zAe (fun h => ?_) (fun h => ?_) | refine zAf (fun h => ?_) (fun h => ?_)
 ·have hb := h
  simp only [nf] at h
  try refine sb ?_; try exact ⟨⟩
  exact ⟨_, rfl, by omega, by omega⟩
 have hb := h
 simp only [nf] at h
 try refine sb ?_; try exact ⟨⟩
 have p2 : 0 ≤ n2 := by omega
 have b2 := b2 p2
 clear h hb
 exact ⟨_, rfl, by omega, fun _ => by unfold State.sz; omega⟩
open Go.Proofs.Wb renaming H12 → z0_, zJc → z1_, State.row → z3_, State.sz → z4_, zHy → z5_, zSs → z6_ in
open Go.Am renaming k4_ → z2_ in
theorem zQn (l : List State) (left : Int) (h0 : 0 ≤ left) (h1 : left ≤ 2 ^ 20) (hw : wfL (State.wf) l) : ACall p_ 12 [.sl false 4 (l.map (State.row false)), i64 left]
  (fun r _ => ∃ n : Int, r = i64 n ∧ n ≤ left ∧ (0 ≤ n → n + (szL (State.sz) l : Nat) = left)) := Q2_
theorem zUI (x : Deal) (left : Int) (h0 : 0 ≤ left) (h1 : left ≤ 2 ^ 20) (hw : x.wf) : ACall p_ 4 [.agg (Deal.row false x), i64 left]
  (fun r _ => ∃ n : Int, r = i64 n ∧ n ≤ left ∧ (0 ≤ n → n + (x.sz : Nat) = left)) := by
 obtain ⟨w_Cuts, w_States, w_Orders⟩ := hw
 have hm := zAh
 refine fg H4 fun E hE hH => ?_; simp only [go_sem, hE, hH, zMO]
 refine zAa ?_; simp (disch := omega) only [go_sem, hE, hH]; refine cvA (zGu _ _ (by omega) (by omega) w_Cuts) ?_
 try refine st ?_; try exact ⟨⟩
 refine zBf ?_
 rintro r k ⟨n0, rfl, a0, b0⟩
 try refine st ?_; try exact ⟨⟩
 first | refine zAe (fun h => ?_) (fun h => ?_) | refine zAf (fun h => ?_) (fun h => ?_)
 ·have hb := h
  simp only [nf] at h
  try refine sb ?_; try exact ⟨⟩
  exact ⟨_, rfl, by omega, by omega⟩
 have hb := h
 simp only [nf] at h
 try refine sb ?_; try exact ⟨⟩
 have p0 : 0 ≤ n0 := by omega
 have b0 := b0 p0
 clear h hb
 refine zAa ?_; simp (disch := omega) only [go_sem, hE, hH]; refine cvA (zQn _ _ p0 (by omega) w_States) ?_
 try refine st ?_; try exact ⟨⟩
 refine zBf ?_
 rintro r k ⟨n1, rfl, a1, b1⟩
 try refine st ?_; try exact ⟨⟩
 first | refine zAe (fun h => ?_) (fun h => ?_) | refine zAf (fun h => ?_) (fun h => ?_)
 ·have hb := h
  simp only [nf] at h
  try refine sb ?_; try exact ⟨⟩
  exact ⟨_, rfl, by omega, by omega⟩
 have hb := h
 simp only [nf] at h
 try refine sb ?_; try exact ⟨⟩
 have p1 : 0 ≤ n1 := by omega
 have b1 := b1 p1
 clear h hb
 refine zAa ?_; simp (disch := omega) only [go_sem, hE, hH]; refine cvA (zQm _ _ p1 (by omega) w_Orders) ?_
 try refine st ?_; try exact ⟨⟩
 refine zBf ?_
 rintro r k ⟨n2, rfl, a2, b2⟩
 try refine st ?_; try exact ⟨⟩
 first | refine zAe (fun h => ?_) (fun h => ?_) | refine zAf (fun h => ?_) (fun h => ?_)
 ·have hb := h
  simp only [nf] at h
  try refine sb ?_; try exact ⟨⟩
  exact ⟨_, rfl, by omega, by omega⟩
 have hb := h
 simp only [nf] at h
 try refine sb ?_; try exact ⟨⟩
 have p2 : 0 ≤ n2 := by omega
 have b2 := b2 p2
 clear h hb
 exact ⟨_, rfl, by omega, fun _ => by unfold Deal.sz; omega⟩
theorem zJg (l : List ByteArray) (hl : szL (ByteArray.size) l ≤ 2 ^ 20) : ACall p_ 20 [.sl false 1 (strs l)] (fun r _ => r = .sl true 1 (strs l)) := by
 have hl0 : l.length ≤ 2 ^ 20 := Nat.le_trans zA9 hl
 refine fg H20 fun E hE hH => ?_; simp only [go_sem, hE, hH, C20]
 refine And.intro (by omega) ?_
 rw [zDk (fun x => [str x])]
 refine zAK l.length (fun j (_ : Unit) => ⟨[(0, .sl false 1 (strs l)), (3, .ref 4000000 0 l.length), (4, i64 j)], [(4000000, ⟨1, cpy (fun x => [str x]) [str ⟨⟨[]⟩⟩] l j⟩)]⟩) (fun _ _ => True) () trivial ?_
 intro j _ hj _
 try simp only [go_sem, hE, hH, zT4]
 first | refine zAe (fun h => ?_) (fun h => ?_) | refine zAf (fun h => ?_) (fun h => ?_)
 ·have hb := h
  simp only [nf] at h
  have hlt := h; clear h
  try simp (disch := omega) only [go_sem, hE, hH, hb, zBk, zA5]
  repeat' (first | ((with_reducible apply ga) <;> refine gs fun h => ?_) | ((with_reducible apply an); · omega) | refine jn _ ?_ ?_ | (with_reducible first | apply both | apply an | exact ti) | exact fe | refine st ?_ | exact fm | refine s1 ?_)
  try simp (disch := omega) only [go_sem, hE, hH, zBk, zA5]
  repeat refine And.intro (by omega) ?_
  try simp (disch := omega) only [go_sem, hE, hH, zBk, zA5]
  repeat refine And.intro (by omega) ?_
  first | refine ⟨(), ?_, trivial⟩ | refine ⟨(), ?_⟩ | skip
  have hc := zDl (f := fun x => [str x]) (z := [str ⟨⟨[]⟩⟩]) hlt
  rw [hc]
  rfl
 ·have hb := h
  simp only [nf] at h
  try simp (disch := omega) only [go_sem, hE, hH, hb, zEb]
theorem zUJ (x : Told) : ACall p_ 151 [.agg (Told.row false x)] (fun r _ => r = .agg (Told.row true x)) := by
 refine fg H151 fun E hE hH => ?_; simp only [go_sem, hE, hH, zJ2]
 repeat' (first | ((with_reducible apply ga) <;> refine gs fun h => ?_) | ((with_reducible apply an); · omega) | refine jn _ ?_ ?_ | (with_reducible first | apply both | apply an | exact ti) | exact fe | refine st ?_ | exact fm | refine s1 ?_)
theorem zWa (x : Ver) (hs : x.sz ≤ 2 ^ 20) : ACall p_ 212 [.agg (Ver.row false x)] (fun r _ => r = .agg (Ver.row true x)) := by
 unfold Ver.sz at hs
 refine fg H212 fun E hE hH => ?_; simp only [go_sem, hE, hH, zJ2]
 repeat' (first | ((with_reducible apply ga) <;> refine gs fun h => ?_) | ((with_reducible apply an); · omega) | refine jn _ ?_ ?_ | (with_reducible first | apply both | apply an | exact ti) | exact fe | refine st ?_ | exact fm | refine s1 ?_)
theorem zSt (x : Write) (hs : x.sz ≤ 2 ^ 20) : ACall p_ 152 [.agg (Write.row false x)] (fun r _ => r = .agg (Write.row true x)) := by
 unfold Write.sz at hs
 refine fg H152 fun E hE hH => ?_; simp only [go_sem, hE, hH, zJ2]
 repeat' (first | ((with_reducible apply ga) <;> refine gs fun h => ?_) | ((with_reducible apply an); · omega) | refine jn _ ?_ ?_ | (with_reducible first | apply both | apply an | exact ti) | exact fe | refine st ?_ | exact fm | refine s1 ?_)
theorem zSu (l : List Told) (hl : l.length ≤ 2 ^ 20) : ACall p_ 106 [.sl false 3 (l.map (Told.row false))] (fun r _ => r = .sl true 3 (l.map (Told.row true))) := by
 refine fg H106 fun E hE hH => ?_; simp only [go_sem, hE, hH, zJZ]
 refine And.intro (by omega) ?_
 rw [zDk (Told.row true)]
 refine zAK l.length (fun j (_ : Unit) => ⟨[(0, .sl false 3 (l.map (Told.row false))), (3, .ref 4000000 0 l.length), (4, i64 j)], [(4000000, ⟨3, cpy (Told.row true) [i64 0, bl false, i64 0] l j⟩)]⟩) (fun _ _ => True) () trivial ?_
 intro j _ hj _
 try simp only [go_sem, hE, hH, zH8]
 first | refine zAe (fun h => ?_) (fun h => ?_) | refine zAf (fun h => ?_) (fun h => ?_)
 ·have hb := h
  simp only [nf] at h
  have hlt := h; clear h
  try simp (disch := omega) only [go_sem, hE, hH, hb, zBk, zA5]
  repeat' (first | ((with_reducible apply ga) <;> refine gs fun h => ?_) | ((with_reducible apply an); · omega) | ((first | refine zAa ?_ | refine cvA (zUJ _) ?_); refine st ?_) | refine jn _ ?_ ?_ | (with_reducible first | apply both | apply an | exact ti) | exact fe | refine st ?_ | exact fm | refine s1 ?_)
  try simp (disch := omega) only [go_sem, hE, hH, zBk, zA5]
  repeat refine And.intro (by omega) ?_
  try simp (disch := omega) only [go_sem, hE, hH, zBk, zA5]
  repeat refine And.intro (by omega) ?_
  first | refine ⟨(), ?_, trivial⟩ | refine ⟨(), ?_⟩ | skip
  have hc := zDl (f := Told.row true) (z := [i64 0, bl false, i64 0]) hlt
  simp only [Told.row_eq] at hc ⊢
  rw [hc]
  rfl
 ·have hb := h
  simp only [nf] at h
  try simp (disch := omega) only [go_sem, hE, hH, hb, zEb]
theorem zUK (l : List Ver) (hl : szL (Ver.sz) l ≤ 2 ^ 20) : ACall p_ 189 [.sl false 3 (l.map (Ver.row false))] (fun r _ => r = .sl true 3 (l.map (Ver.row true))) := by
 have hl0 : l.length ≤ 2 ^ 20 := Nat.le_trans zA9 hl
 refine fg H189 fun E hE hH => ?_; simp only [go_sem, hE, hH, zJZ]
 refine And.intro (by omega) ?_
 rw [zDk (Ver.row true)]
 refine zAK l.length (fun j (_ : Unit) => ⟨[(0, .sl false 3 (l.map (Ver.row false))), (3, .ref 4000000 0 l.length), (4, i64 j)], [(4000000, ⟨3, cpy (Ver.row true) [i64 0, str ⟨⟨[]⟩⟩, bl false] l j⟩)]⟩) (fun _ _ => True) () trivial ?_
 intro j _ hj _
 try simp only [go_sem, hE, hH, zH8]
 first | refine zAe (fun h => ?_) (fun h => ?_) | refine zAf (fun h => ?_) (fun h => ?_)
 ·have hb := h
  simp only [nf] at h
  have hlt := h; clear h
  have hs := Nat.le_trans (zCq (f := Ver.sz) (zAc hlt)) hl
  try simp (disch := omega) only [go_sem, hE, hH, hb, zBk, zA5]
  repeat' (first | ((with_reducible apply ga) <;> refine gs fun h => ?_) | ((with_reducible apply an); · omega) | ((first | refine zAa ?_ | refine cvA (zWa _ (by assumption)) ?_); refine st ?_) | refine jn _ ?_ ?_ | (with_reducible first | apply both | apply an | exact ti) | exact fe | refine st ?_ | exact fm | refine s1 ?_)
  try simp (disch := omega) only [go_sem, hE, hH, zBk, zA5]
  repeat refine And.intro (by omega) ?_
  try simp (disch := omega) only [go_sem, hE, hH, zBk, zA5]
  repeat refine And.intro (by omega) ?_
  first | refine ⟨(), ?_, trivial⟩ | refine ⟨(), ?_⟩ | skip
  have hc := zDl (f := Ver.row true) (z := [i64 0, str ⟨⟨[]⟩⟩, bl false]) hlt
  simp only [Ver.row_eq] at hc ⊢
  rw [hc]
  rfl
 ·have hb := h
  simp only [nf] at h
  try simp (disch := omega) only [go_sem, hE, hH, hb, zEb]
theorem zQo (l : List Write) (hl : szL (Write.sz) l ≤ 2 ^ 20) : ACall p_ 107 [.sl false 3 (l.map (Write.row false))] (fun r _ => r = .sl true 3 (l.map (Write.row true))) := by
 have hl0 : l.length ≤ 2 ^ 20 := Nat.le_trans zA9 hl
 refine fg H107 fun E hE hH => ?_; simp only [go_sem, hE, hH, zJZ]
 refine And.intro (by omega) ?_
 rw [zDk (Write.row true)]
 refine zAK l.length (fun j (_ : Unit) => ⟨[(0, .sl false 3 (l.map (Write.row false))), (3, .ref 4000000 0 l.length), (4, i64 j)], [(4000000, ⟨3, cpy (Write.row true) [str ⟨⟨[]⟩⟩, str ⟨⟨[]⟩⟩, bl false] l j⟩)]⟩) (fun _ _ => True) () trivial ?_
 intro j _ hj _
 try simp only [go_sem, hE, hH, zH8]
 first | refine zAe (fun h => ?_) (fun h => ?_) | refine zAf (fun h => ?_) (fun h => ?_)
 ·have hb := h
  simp only [nf] at h
  have hlt := h; clear h
  have hs := Nat.le_trans (zCq (f := Write.sz) (zAc hlt)) hl
  try simp (disch := omega) only [go_sem, hE, hH, hb, zBk, zA5]
  repeat' (first | ((with_reducible apply ga) <;> refine gs fun h => ?_) | ((with_reducible apply an); · omega) | ((first | refine zAa ?_ | refine cvA (zSt _ (by assumption)) ?_); refine st ?_) | refine jn _ ?_ ?_ | (with_reducible first | apply both | apply an | exact ti) | exact fe | refine st ?_ | exact fm | refine s1 ?_)
  try simp (disch := omega) only [go_sem, hE, hH, zBk, zA5]
  repeat refine And.intro (by omega) ?_
  try simp (disch := omega) only [go_sem, hE, hH, zBk, zA5]
  repeat refine And.intro (by omega) ?_
  first | refine ⟨(), ?_, trivial⟩ | refine ⟨(), ?_⟩ | skip
  have hc := zDl (f := Write.row true) (z := [str ⟨⟨[]⟩⟩, str ⟨⟨[]⟩⟩, bl false]) hlt
  simp only [Write.row_eq] at hc ⊢
  rw [hc]
  rfl
 ·have hb := h
  simp only [nf] at h
  try simp (disch := omega) only [go_sem, hE, hH, hb, zEb]
theorem zUL (x : Cell) (hs : x.sz ≤ 2 ^ 20) : ACall p_ 149 [.agg (Cell.row false x)] (fun r _ => r = .agg (Cell.row true x)) := by
 unfold Cell.sz at hs
 refine fg H149 fun E hE hH => ?_; simp only [go_sem, hE, hH, zY7]
 repeat' (first | ((with_reducible apply ga) <;> refine gs fun h => ?_) | ((with_reducible apply an); · omega) | ((first | refine zAa ?_ | refine cvA (zUK _ (by omega)) ?_); refine st ?_) | refine jn _ ?_ ?_ | (with_reducible first | apply both | apply an | exact ti) | exact fe | refine st ?_ | exact fm | refine s1 ?_)
open Go.Proofs.Wb renaming Held.sz → z0_, H150 → z1_, zY8 → z2_ in
theorem zUM (x : Held) (hs : x.sz ≤ 2 ^ 20) : ACall p_ 150 [.agg (Held.row false x)] (fun r _ => r = .agg (Held.row true x)) := Q3_
open Go.Proofs.Wb renaming Order.sz → z0_, H54 → z1_, C54 → z2_ in
theorem zSv (x : Order) (hs : x.sz ≤ 2 ^ 20) : ACall p_ 54 [.agg (Order.row false x)] (fun r _ => r = .agg (Order.row true x)) := Q3_
theorem zSw (l : List Cell) (hl : szL (Cell.sz) l ≤ 2 ^ 20) : ACall p_ 104 [.sl false 2 (l.map (Cell.row false))] (fun r _ => r = .sl true 2 (l.map (Cell.row true))) := by
 have hl0 : l.length ≤ 2 ^ 20 := Nat.le_trans zA9 hl
 refine fg H104 fun E hE hH => ?_; simp only [go_sem, hE, hH, zJd]
 refine And.intro (by omega) ?_
 rw [zDk (Cell.row true)]
 refine zAK l.length (fun j (_ : Unit) => ⟨[(0, .sl false 2 (l.map (Cell.row false))), (3, .ref 4000000 0 l.length), (4, i64 j)], [(4000000, ⟨2, cpy (Cell.row true) [str ⟨⟨[]⟩⟩, zAy] l j⟩)]⟩) (fun _ _ => True) () trivial ?_
 intro j _ hj _
 try simp only [go_sem, hE, hH, zHz]
 first | refine zAe (fun h => ?_) (fun h => ?_) | refine zAf (fun h => ?_) (fun h => ?_)
 ·have hb := h
  simp only [nf] at h
  have hlt := h; clear h
  have hs := Nat.le_trans (zCq (f := Cell.sz) (zAc hlt)) hl
  try simp (disch := omega) only [go_sem, hE, hH, hb, zBk, zA5]
  repeat' (first | ((with_reducible apply ga) <;> refine gs fun h => ?_) | ((with_reducible apply an); · omega) | ((first | refine zAa ?_ | refine cvA (zUL _ (by assumption)) ?_); refine st ?_) | refine jn _ ?_ ?_ | (with_reducible first | apply both | apply an | exact ti) | exact fe | refine st ?_ | exact fm | refine s1 ?_)
  try simp (disch := omega) only [go_sem, hE, hH, zBk, zA5]
  repeat refine And.intro (by omega) ?_
  try simp (disch := omega) only [go_sem, hE, hH, zBk, zA5]
  repeat refine And.intro (by omega) ?_
  first | refine ⟨(), ?_, trivial⟩ | refine ⟨(), ?_⟩ | skip
  have hc := zDl (f := Cell.row true) (z := [str ⟨⟨[]⟩⟩, zAy]) hlt
  simp only [Cell.row_eq] at hc ⊢
  rw [hc]
  rfl
 ·have hb := h
  simp only [nf] at h
  try simp (disch := omega) only [go_sem, hE, hH, hb, zEb]
theorem zSx (l : List Held) (hl : szL (Held.sz) l ≤ 2 ^ 20) : ACall p_ 105 [.sl false 5 (l.map (Held.row false))] (fun r _ => r = .sl true 5 (l.map (Held.row true))) := by
 have hl0 : l.length ≤ 2 ^ 20 := Nat.le_trans zA9 hl
 refine fg H105 fun E hE hH => ?_; simp only [go_sem, hE, hH, zJd]
 refine And.intro (by omega) ?_
 rw [zDk (Held.row true)]
 refine zAK l.length (fun j (_ : Unit) => ⟨[(0, .sl false 5 (l.map (Held.row false))), (3, .ref 4000000 0 l.length), (4, i64 j)], [(4000000, ⟨5, cpy (Held.row true) [i64 0, i64 0, i64 0, zAy, zAy] l j⟩)]⟩) (fun _ _ => True) () trivial ?_
 intro j _ hj _
 try simp only [go_sem, hE, hH, zHz]
 first | refine zAe (fun h => ?_) (fun h => ?_) | refine zAf (fun h => ?_) (fun h => ?_)
 ·have hb := h
  simp only [nf] at h
  have hlt := h; clear h
  have hs := Nat.le_trans (zCq (f := Held.sz) (zAc hlt)) hl
  try simp (disch := omega) only [go_sem, hE, hH, hb, zBk, zA5]
  repeat' (first | ((with_reducible apply ga) <;> refine gs fun h => ?_) | ((with_reducible apply an); · omega) | ((first | refine zAa ?_ | refine cvA (zUM _ (by assumption)) ?_); refine st ?_) | refine jn _ ?_ ?_ | (with_reducible first | apply both | apply an | exact ti) | exact fe | refine st ?_ | exact fm | refine s1 ?_)
  try simp (disch := omega) only [go_sem, hE, hH, zBk, zA5]
  repeat refine And.intro (by omega) ?_
  try simp (disch := omega) only [go_sem, hE, hH, zBk, zA5]
  repeat refine And.intro (by omega) ?_
  first | refine ⟨(), ?_, trivial⟩ | refine ⟨(), ?_⟩ | skip
  have hc := zDl (f := Held.row true) (z := [i64 0, i64 0, i64 0, zAy, zAy]) hlt
  simp only [Held.row_eq] at hc ⊢
  rw [hc]
  rfl
 ·have hb := h
  simp only [nf] at h
  try simp (disch := omega) only [go_sem, hE, hH, hb, zEb]
theorem zQp (l : List Order) (hl : szL (Order.sz) l ≤ 2 ^ 20) : ACall p_ 22 [.sl false 3 (l.map (Order.row false))] (fun r _ => r = .sl true 3 (l.map (Order.row true))) := by
 have hl0 : l.length ≤ 2 ^ 20 := Nat.le_trans zA9 hl
 refine fg H22 fun E hE hH => ?_; simp only [go_sem, hE, hH, zJd]
 refine And.intro (by omega) ?_
 rw [zDk (Order.row true)]
 refine zAK l.length (fun j (_ : Unit) => ⟨[(0, .sl false 3 (l.map (Order.row false))), (3, .ref 4000000 0 l.length), (4, i64 j)], [(4000000, ⟨3, cpy (Order.row true) [i64 0, zAy, zAy] l j⟩)]⟩) (fun _ _ => True) () trivial ?_
 intro j _ hj _
 try simp only [go_sem, hE, hH, zHz]
 first | refine zAe (fun h => ?_) (fun h => ?_) | refine zAf (fun h => ?_) (fun h => ?_)
 ·have hb := h
  simp only [nf] at h
  have hlt := h; clear h
  have hs := Nat.le_trans (zCq (f := Order.sz) (zAc hlt)) hl
  try simp (disch := omega) only [go_sem, hE, hH, hb, zBk, zA5]
  repeat' (first | ((with_reducible apply ga) <;> refine gs fun h => ?_) | ((with_reducible apply an); · omega) | ((first | refine zAa ?_ | refine cvA (zSv _ (by assumption)) ?_); refine st ?_) | refine jn _ ?_ ?_ | (with_reducible first | apply both | apply an | exact ti) | exact fe | refine st ?_ | exact fm | refine s1 ?_)
  try simp (disch := omega) only [go_sem, hE, hH, zBk, zA5]
  repeat refine And.intro (by omega) ?_
  try simp (disch := omega) only [go_sem, hE, hH, zBk, zA5]
  repeat refine And.intro (by omega) ?_
  first | refine ⟨(), ?_, trivial⟩ | refine ⟨(), ?_⟩ | skip
  have hc := zDl (f := Order.row true) (z := [i64 0, zAy, zAy]) hlt
  simp only [Order.row_eq] at hc ⊢
  rw [hc]
  rfl
 ·have hb := h
  simp only [nf] at h
  try simp (disch := omega) only [go_sem, hE, hH, hb, zEb]
open Go.Proofs.Wb renaming State.sz → z0_, H53 → z1_, C53 → z2_, zSw → z3_, zSx → z4_, zSu → z5_ in
theorem zSy (x : State) (hs : x.sz ≤ 2 ^ 20) : ACall p_ 53 [.agg (State.row false x)] (fun r _ => r = .agg (State.row true x)) := Q4_
theorem zQq (l : List State) (hl : szL (State.sz) l ≤ 2 ^ 20) : ACall p_ 21 [.sl false 4 (l.map (State.row false))] (fun r _ => r = .sl true 4 (l.map (State.row true))) := by
 have hl0 : l.length ≤ 2 ^ 20 := Nat.le_trans zA9 hl
 refine fg H21 fun E hE hH => ?_; simp only [go_sem, hE, hH, zJd]
 refine And.intro (by omega) ?_
 rw [zDk (State.row true)]
 refine zAK l.length (fun j (_ : Unit) => ⟨[(0, .sl false 4 (l.map (State.row false))), (3, .ref 4000000 0 l.length), (4, i64 j)], [(4000000, ⟨4, cpy (State.row true) [i64 0, zAy, zAy, zAy] l j⟩)]⟩) (fun _ _ => True) () trivial ?_
 intro j _ hj _
 try simp only [go_sem, hE, hH, zHz]
 first | refine zAe (fun h => ?_) (fun h => ?_) | refine zAf (fun h => ?_) (fun h => ?_)
 ·have hb := h
  simp only [nf] at h
  have hlt := h; clear h
  have hs := Nat.le_trans (zCq (f := State.sz) (zAc hlt)) hl
  try simp (disch := omega) only [go_sem, hE, hH, hb, zBk, zA5]
  repeat' (first | ((with_reducible apply ga) <;> refine gs fun h => ?_) | ((with_reducible apply an); · omega) | ((first | refine zAa ?_ | refine cvA (zSy _ (by assumption)) ?_); refine st ?_) | refine jn _ ?_ ?_ | (with_reducible first | apply both | apply an | exact ti) | exact fe | refine st ?_ | exact fm | refine s1 ?_)
  try simp (disch := omega) only [go_sem, hE, hH, zBk, zA5]
  repeat refine And.intro (by omega) ?_
  try simp (disch := omega) only [go_sem, hE, hH, zBk, zA5]
  repeat refine And.intro (by omega) ?_
  first | refine ⟨(), ?_, trivial⟩ | refine ⟨(), ?_⟩ | skip
  have hc := zDl (f := State.row true) (z := [i64 0, zAy, zAy, zAy]) hlt
  simp only [State.row_eq] at hc ⊢
  rw [hc]
  rfl
 ·have hb := h
  simp only [nf] at h
  try simp (disch := omega) only [go_sem, hE, hH, hb, zEb]
open Go.Proofs.Wb renaming Deal.sz → z0_, H6 → z1_, C6 → z2_, zJg → z3_, zQq → z4_, zQp → z5_ in
theorem zUN (x : Deal) (hs : x.sz ≤ 2 ^ 20) : ACall p_ 6 [.agg (Deal.row false x)] (fun r _ => r = .agg (Deal.row true x)) := Q4_
theorem zGv (l m : List ByteArray) (hl : zBN (fun _ => True) l) : ACall p_ 33 [.sl false 1 (strs l), .sl false 1 (strs m)] (fun r _ => r = bl (decide (l = m))) := by
 obtain ⟨hl, hx⟩ := hl
 have hm := zAh
 refine fg H33 fun E hE hH => ?_; simp only [go_sem, hE, hH, C33]
 repeat' (first | ((with_reducible apply ga) <;> refine gs fun h => ?_) | ((with_reducible apply an); · omega) | refine jn _ ?_ ?_ | (with_reducible first | apply both | apply an | exact ti) | exact fe | refine st ?_ | exact fm | refine s1 ?_)
 ·rw [decide_eq_false (fun e => h (by rw [e]))]
 have hlen : l.length = m.length := by omega
 clear h
 refine zAK l.length (fun j (_ : Unit) => ⟨[(0, .sl false 1 (strs l)), (1, .sl false 1 (strs m)), (5, i64 j)], []⟩) (fun j _ => decide (l = m) = decide (l.drop j = m.drop j)) () (by simp) ?_
 intro j _ hj hI
 try simp only [go_sem, hE, hH, zT6]
 first | refine zAe (fun h => ?_) (fun h => ?_) | refine zAf (fun h => ?_) (fun h => ?_)
 ·have hb := h
  simp only [nf] at h
  have hlt := h; clear h
  have hlm : j < m.length := by omega
  rw [zQW hlt hlm] at hI
  try refine sb ?_; try exact ⟨⟩
  repeat' (first | ((with_reducible apply ga) <;> refine gs fun h => ?_) | ((with_reducible apply an); · omega) | refine jn _ ?_ ?_ | (with_reducible first | apply both | apply an | exact ti) | exact fe | refine st ?_ | exact fm | refine s1 ?_)
  ·rw [hI]; simp [h]
  ·exact ⟨(), rfl, by rw [hI]; simp [h]⟩
 ·have hb := h
  simp only [nf] at h
  try refine sb ?_; try exact ⟨⟩
  rw [hI, List.drop_of_length_le (by omega), List.drop_of_length_le (by omega)]
  rfl
theorem zUO (x y : Told) (hl : x.lim) : ACall p_ 175 [.agg (Told.row false x), .agg (Told.row false y)] (fun r _ => r = bl (decide (x = y))) := by
 obtain ⟨x_Txn, x_Yes, x_Time⟩ := x
 obtain ⟨y_Txn, y_Yes, y_Time⟩ := y
 refine fg H175 fun E hE hH => ?_; simp only [go_sem, hE, hH, zZr]
 repeat' (first | ((with_reducible apply ga) <;> refine gs fun h => ?_) | ((with_reducible apply an); · omega) | refine jn _ ?_ ?_ | (with_reducible first | apply both | apply an | exact ti) | exact fe | refine st ?_ | exact fm | refine s1 ?_)
 all_goals simp_all [Told.mk.injEq]
theorem zWb (x y : Ver) (hl : x.lim) : ACall p_ 236 [.agg (Ver.row false x), .agg (Ver.row false y)] (fun r _ => r = bl (decide (x = y))) := by
 obtain ⟨x_Time, x_Val, x_Gone⟩ := x
 obtain ⟨y_Time, y_Val, y_Gone⟩ := y
 refine fg H236 fun E hE hH => ?_; simp only [go_sem, hE, hH, zOm]
 repeat' (first | ((with_reducible apply ga) <;> refine gs fun h => ?_) | ((with_reducible apply an); · omega) | refine jn _ ?_ ?_ | (with_reducible first | apply both | apply an | exact ti) | exact fe | refine st ?_ | exact fm | refine s1 ?_)
 all_goals simp_all [Ver.mk.injEq]
theorem zSz (x y : Write) (hl : x.lim) : ACall p_ 176 [.agg (Write.row false x), .agg (Write.row false y)] (fun r _ => r = bl (decide (x = y))) := by
 obtain ⟨x_Key, x_Val, x_Gone⟩ := x
 obtain ⟨y_Key, y_Val, y_Gone⟩ := y
 refine fg H176 fun E hE hH => ?_; simp only [go_sem, hE, hH, zOm]
 repeat' (first | ((with_reducible apply ga) <;> refine gs fun h => ?_) | ((with_reducible apply an); · omega) | refine jn _ ?_ ?_ | (with_reducible first | apply both | apply an | exact ti) | exact fe | refine st ?_ | exact fm | refine s1 ?_)
 all_goals simp_all [Write.mk.injEq]
open Go.Proofs.Wb renaming H130 → z0_, zJ1 → z1_, Told.row → z3_, zIa → z4_, zUO → z5_ in
open Go.Am renaming k3_ → z2_ in
theorem zSA (l m : List Told) (hl : zBN (Told.lim) l) : ACall p_ 130 [.sl false 3 (l.map (Told.row false)), .sl false 3 (m.map (Told.row false))] (fun r _ => r = bl (decide (l = m))) := Q5_
open Go.Proofs.Wb renaming H209 → z0_, zJ1 → z1_, Ver.row → z3_, zIa → z4_, zWb → z5_ in
open Go.Am renaming k3_ → z2_ in
theorem zUP (l m : List Ver) (hl : zBN (Ver.lim) l) : ACall p_ 209 [.sl false 3 (l.map (Ver.row false)), .sl false 3 (m.map (Ver.row false))] (fun r _ => r = bl (decide (l = m))) := Q5_
open Go.Proofs.Wb renaming H131 → z0_, zJ1 → z1_, Write.row → z3_, zIa → z4_, zSz → z5_ in
open Go.Am renaming k3_ → z2_ in
theorem zKq (l m : List Write) (hl : zBN (Write.lim) l) : ACall p_ 131 [.sl false 3 (l.map (Write.row false)), .sl false 3 (m.map (Write.row false))] (fun r _ => r = bl (decide (l = m))) := Q5_
theorem zUQ (x y : Cell) (hl : x.lim) : ACall p_ 173 [.agg (Cell.row false x), .agg (Cell.row false y)] (fun r _ => r = bl (decide (x = y))) := by
 have l_Vers := hl; unfold Cell.lim at l_Vers
 obtain ⟨x_Key, x_Vers⟩ := x
 obtain ⟨y_Key, y_Vers⟩ := y
 refine fg H173 fun E hE hH => ?_; simp only [go_sem, hE, hH, zZp]
 repeat' (first | ((with_reducible apply ga) <;> refine gs fun h => ?_) | ((with_reducible apply an); · omega) | ((first | refine zAa ?_ | refine cvA (zUP _ _ (by assumption)) ?_); refine st ?_) | refine jn _ ?_ ?_ | (with_reducible first | apply both | apply an | exact ti) | exact fe | refine st ?_ | exact fm | refine s1 ?_)
 all_goals simp_all [Cell.mk.injEq]
theorem zUR (x y : Held) (hl : x.lim) : ACall p_ 174 [.agg (Held.row false x), .agg (Held.row false y)] (fun r _ => r = bl (decide (x = y))) := by
 obtain ⟨l_Reads, l_Writes⟩ := hl
 obtain ⟨x_Txn, x_Time, x_Lead, x_Reads, x_Writes⟩ := x
 obtain ⟨y_Txn, y_Time, y_Lead, y_Reads, y_Writes⟩ := y
 refine fg H174 fun E hE hH => ?_; simp only [go_sem, hE, hH, zZq]
 repeat' (first | ((with_reducible apply ga) <;> refine gs fun h => ?_) | ((with_reducible apply an); · omega) | ((first | refine zAa ?_ | refine cvA (zGv _ _ (by assumption)) ?_ | refine cvA (zKq _ _ (by assumption)) ?_); refine st ?_) | refine jn _ ?_ ?_ | (with_reducible first | apply both | apply an | exact ti) | exact fe | refine st ?_ | exact fm | refine s1 ?_)
 all_goals simp_all [Held.mk.injEq]
theorem zSB (x y : Order) (hl : x.lim) : ACall p_ 75 [.agg (Order.row false x), .agg (Order.row false y)] (fun r _ => r = bl (decide (x = y))) := by
 obtain ⟨l_Reads, l_Writes⟩ := hl
 obtain ⟨x_Txn, x_Reads, x_Writes⟩ := x
 obtain ⟨y_Txn, y_Reads, y_Writes⟩ := y
 refine fg H75 fun E hE hH => ?_; simp only [go_sem, hE, hH, C75]
 repeat' (first | ((with_reducible apply ga) <;> refine gs fun h => ?_) | ((with_reducible apply an); · omega) | ((first | refine zAa ?_ | refine cvA (zGv _ _ (by assumption)) ?_ | refine cvA (zKq _ _ (by assumption)) ?_); refine st ?_) | refine jn _ ?_ ?_ | (with_reducible first | apply both | apply an | exact ti) | exact fe | refine st ?_ | exact fm | refine s1 ?_)
 all_goals simp_all [Order.mk.injEq]
open Go.Proofs.Wb renaming H128 → z0_, zJe → z1_, Cell.row → z3_, zHA → z4_, zUQ → z5_ in
open Go.Am renaming k2_ → z2_ in
theorem zSC (l m : List Cell) (hl : zBN (Cell.lim) l) : ACall p_ 128 [.sl false 2 (l.map (Cell.row false)), .sl false 2 (m.map (Cell.row false))] (fun r _ => r = bl (decide (l = m))) := Q5_
open Go.Proofs.Wb renaming H129 → z0_, zJe → z1_, Held.row → z3_, zHA → z4_, zUR → z5_ in
open Go.Am renaming k5_ → z2_ in
theorem zSD (l m : List Held) (hl : zBN (Held.lim) l) : ACall p_ 129 [.sl false 5 (l.map (Held.row false)), .sl false 5 (m.map (Held.row false))] (fun r _ => r = bl (decide (l = m))) := Q5_
open Go.Proofs.Wb renaming H35 → z0_, zJe → z1_, Order.row → z3_, zHA → z4_, zSB → z5_ in
open Go.Am renaming k3_ → z2_ in
theorem zQr (l m : List Order) (hl : zBN (Order.lim) l) : ACall p_ 35 [.sl false 3 (l.map (Order.row false)), .sl false 3 (m.map (Order.row false))] (fun r _ => r = bl (decide (l = m))) := Q5_
theorem zSE (x y : State) (hl : x.lim) : ACall p_ 74 [.agg (State.row false x), .agg (State.row false y)] (fun r _ => r = bl (decide (x = y))) := by
 obtain ⟨l_Cells, l_Held, l_Told⟩ := hl
 obtain ⟨x_Floor, x_Cells, x_Held, x_Told⟩ := x
 obtain ⟨y_Floor, y_Cells, y_Held, y_Told⟩ := y
 refine fg H74 fun E hE hH => ?_; simp only [go_sem, hE, hH, C74]
 repeat' (first | ((with_reducible apply ga) <;> refine gs fun h => ?_) | ((with_reducible apply an); · omega) | ((first | refine zAa ?_ | refine cvA (zSC _ _ (by assumption)) ?_ | refine cvA (zSD _ _ (by assumption)) ?_ | refine cvA (zSA _ _ (by assumption)) ?_); refine st ?_) | refine jn _ ?_ ?_ | (with_reducible first | apply both | apply an | exact ti) | exact fe | refine st ?_ | exact fm | refine s1 ?_)
 all_goals simp_all [State.mk.injEq]
open Go.Proofs.Wb renaming H34 → z0_, zJe → z1_, State.row → z3_, zHA → z4_, zSE → z5_ in
open Go.Am renaming k4_ → z2_ in
theorem zQs (l m : List State) (hl : zBN (State.lim) l) : ACall p_ 34 [.sl false 4 (l.map (State.row false)), .sl false 4 (m.map (State.row false))] (fun r _ => r = bl (decide (l = m))) := Q5_
theorem zNy (x y : Deal) (hl : x.lim) : ACall p_ 8 [.agg (Deal.row false x), .agg (Deal.row false y)] (fun r _ => r = bl (decide (x = y))) := by
 obtain ⟨l_Cuts, l_States, l_Orders⟩ := hl
 obtain ⟨x_Cuts, x_States, x_Orders⟩ := x
 obtain ⟨y_Cuts, y_States, y_Orders⟩ := y
 refine fg H8 fun E hE hH => ?_; simp only [go_sem, hE, hH, C8]
 repeat' (first | ((with_reducible apply ga) <;> refine gs fun h => ?_) | ((with_reducible apply an); · omega) | ((first | refine zAa ?_ | refine cvA (zGv _ _ (by assumption)) ?_ | refine cvA (zQs _ _ (by assumption)) ?_ | refine cvA (zQr _ _ (by assumption)) ?_); refine st ?_) | refine jn _ ?_ ?_ | (with_reducible first | apply both | apply an | exact ti) | exact fe | refine st ?_ | exact fm | refine s1 ?_)
 all_goals simp_all [Deal.mk.injEq]
end Go.Proofs.Wb

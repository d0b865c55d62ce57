import Derived.Test.YtlcebphcohneaaaGreatFnExactApplyRecTy
import Derived.Laws.Externs
set_option linter.unusedSimpArgs false
set_option linter.unusedVariables false
set_option linter.unusedSectionVars false
namespace Go.Proofs.Wb
open Go Go.Am
attribute [go_sem] isByteRow
def dg (k : Int) : ByteArray := bytesOf [[.v (.int .u8 (IntKind.u8.wrap (48 + k % 10)))]]
theorem dg_size (k : Int) : (dg k).size = 1 := rfl
def digW (k : Int) (out : ByteArray) : ByteArray := if 0 < k then digW (k / 10) (dg k ++ out) else out
termination_by k.toNat
decreasing_by omega
def mkText (k : Int) : ByteArray := if k ≤ 0 then ⟨⟨[109, 48]⟩⟩ else ⟨⟨[109]⟩⟩ ++ digW k ⟨⟨[]⟩⟩
theorem markText_ok (k : Int) (h1 : k ≤ 2 ^ 62) : ACall Tryz.prog 117 [i64 k] (fun r _ => r = str (mkText k)) := by
 refine fi H117 fun E hE hH => ?_; simp only [go_sem] at hE hH; simp only [go_sem, hE, hH, C117]
 first | refine gd_t (fun h => ?_) (fun h => ?_) | refine gd_f (fun h => ?_) (fun h => ?_)
 ·try simp (disch := omega) only [go_sem, hE, hH, h]
  simp only [nf] at h
  simp [mkText, h]
 try simp (disch := omega) only [go_sem, hE, hH, h]
 simp only [nf] at h
 refine loopM (fun (x : Int × ByteArray) => ⟨[(0, i64 x.1), (3, str x.2)], []⟩) (fun x => 0 ≤ x.1 ∧ x.2.size + x.1 ≤ k ∧ digW x.1 x.2 = digW k ⟨⟨[]⟩⟩) (fun x => x.1.toNat) (k, ⟨⟨[]⟩⟩) ⟨by omega, by change ((0 : Nat) : Int) + k ≤ k; omega, rfl⟩ ?_
 rintro ⟨n, out⟩ ⟨i0, i1, i2⟩
 simp only at i0 i1 i2
 try simp only [go_sem, hE, hH, C117_l1]
 first | refine gd_t (fun hb => ?_) (fun hb => ?_) | refine gd_f (fun hb => ?_) (fun hb => ?_)
 ·have hb2 := hb
  simp only [nf] at hb
  have e1 : n.tmod 10 = n % 10 := Int.tmod_eq_emod_of_nonneg i0
  have e2 : n.tdiv 10 = n / 10 := Int.tdiv_eq_ediv_of_nonneg i0
  have e3 : (bytesOf [[.v (.int .u8 (IntKind.u8.wrap (48 + n % 10)))]]) = dg n := rfl
  try simp (disch := omega) only [go_sem, hE, hH, hb2, e1, e2, e3, dg_size]
  refine ⟨by omega, by omega, by omega, ⟨n / 10, dg n ++ out⟩, rfl, ⟨by simp only; omega, ?_, ?_⟩, by simp only; omega⟩
  ·rw [ByteArray.size_append, dg_size]; simp only; omega
  ·rw [← i2, digW.eq_1 n out, if_pos (by omega)]
 ·have hb2 := hb
  simp only [nf] at hb
  have e0 : n = 0 := by omega
  subst e0
  rw [digW, if_neg (by omega)] at i2
  try simp (disch := omega) only [go_sem, hE, hH, hb2]
  rw [mkText, if_neg (by omega), ← i2]
  have e9 : (⟨⟨[109]⟩⟩ : ByteArray).size = 1 := rfl
  exact ⟨by rw [e9]; omega, rfl⟩
def mkS (_ : ByteArray) (k : Int) : ByteArray × Int := (mkText k, k + 1)
def Told.mk2 (x : Told) (k : Int) : Told × Int := (⟨k, decide (((k + 1)).tmod 3 = 0), ((k + 1) + 1)⟩, (((k + 1) + 1) + 1))
def Told.cnt (x : Told) : Nat := 1 + 1 + 1
theorem Told.mk2_cnt (x : Told) (k : Int) : (x.mk2 k).2 = k + (x.cnt : Nat) := by
 simp only [Told.mk2, Told.cnt]
 try omega
theorem Told.cnt_le (x : Told) : x.cnt ≤ 3 := by
 simp only [Told.cnt]
 try omega
def Ver.mk2 (x : Ver) (k : Int) : Ver × Int := (⟨k, mkText (k + 1), decide ((((k + 1) + 1)).tmod 3 = 0)⟩, (((k + 1) + 1) + 1))
def Ver.cnt (x : Ver) : Nat := 1 + 1 + 1
theorem Ver.mk2_cnt (x : Ver) (k : Int) : (x.mk2 k).2 = k + (x.cnt : Nat) := by
 simp only [Ver.mk2, Ver.cnt]
 try omega
theorem Ver.cnt_le (x : Ver) : x.cnt ≤ 3 * (x.sz + 1) := by
 simp only [Ver.cnt, Ver.sz]
 try omega
def Write.mk2 (x : Write) (k : Int) : Write × Int := (⟨mkText k, mkText (k + 1), decide ((((k + 1) + 1)).tmod 3 = 0)⟩, (((k + 1) + 1) + 1))
def Write.cnt (x : Write) : Nat := 1 + 1 + 1
theorem Write.mk2_cnt (x : Write) (k : Int) : (x.mk2 k).2 = k + (x.cnt : Nat) := by
 simp only [Write.mk2, Write.cnt]
 try omega
theorem Write.cnt_le (x : Write) : x.cnt ≤ 3 * (x.sz + 1) := by
 simp only [Write.cnt, Write.sz]
 try omega
def Rec.mk2 (x : Rec) (k : Int) : Rec × Int := (⟨k, (k + 1), ((k + 1) + 1), (((k + 1) + 1) + 1), (mkL (mkS) x.Reads ((((k + 1) + 1) + 1) + 1)).1, (mkL (Write.mk2) x.Writes (mkL (mkS) x.Reads ((((k + 1) + 1) + 1) + 1)).2).1, decide (((mkL (Write.mk2) x.Writes (mkL (mkS) x.Reads ((((k + 1) + 1) + 1) + 1)).2).2).tmod 3 = 0)⟩, ((mkL (Write.mk2) x.Writes (mkL (mkS) x.Reads ((((k + 1) + 1) + 1) + 1)).2).2 + 1))
def Rec.cnt (x : Rec) : Nat := 1 + 1 + 1 + 1 + cntL (fun _ => 1) x.Reads + cntL (Write.cnt) x.Writes + 1
theorem Rec.mk2_cnt (x : Rec) (k : Int) : (x.mk2 k).2 = k + (x.cnt : Nat) := by
 simp only [Rec.mk2, Rec.cnt, mkN_cnt (f := mkS) (c := fun _ => 1) (fun _ _ => rfl), mkN_cnt (f := Write.mk2) (c := Write.cnt) (Write.mk2_cnt)]
 try omega
theorem Rec.cnt_le (x : Rec) : x.cnt ≤ 9 * (x.sz + 1) := by
 have c_Reads := cntL_le (c := fun _ => 1) (s := ByteArray.size) (A := 1) (fun x => by omega) (l := x.Reads)
 have c_Writes := cntL_le (c := Write.cnt) (s := Write.sz) (A := 3) Write.cnt_le (l := x.Writes)
 simp only [Rec.cnt, Rec.sz]
 try omega
def Rec.mkv (x : Rec) (k : Int) : Rec × Int := (⟨x.Kind, x.Txn, x.Time, x.Lead, (mkL (mkS) x.Reads k).1, (mkL (Write.mk2) x.Writes (mkL (mkS) x.Reads k).2).1, x.Yes⟩, (mkL (Write.mk2) x.Writes (mkL (mkS) x.Reads k).2).2)
def Rec.cntv (x : Rec) : Nat := cntL (fun _ => 1) x.Reads + cntL (Write.cnt) x.Writes
theorem Rec.mkv_cnt (x : Rec) (k : Int) : (x.mkv k).2 = k + (x.cntv : Nat) := by
 simp only [Rec.mkv, Rec.cntv, mkN_cnt (f := mkS) (c := fun _ => 1) (fun _ _ => rfl), mkN_cnt (f := Write.mk2) (c := Write.cnt) (Write.mk2_cnt)]
 try omega
theorem Rec.cntv_le (x : Rec) : x.cntv ≤ 9 * (x.sz + 1) := by
 have c_Reads := cntL_le (c := fun _ => 1) (s := ByteArray.size) (A := 1) (fun x => by omega) (l := x.Reads)
 have c_Writes := cntL_le (c := Write.cnt) (s := Write.sz) (A := 3) Write.cnt_le (l := x.Writes)
 simp only [Rec.cntv, Rec.sz]
 try omega
@[go_sem] theorem Rec.mkv_at_Kind (x : Rec) (k : Int) : (x.mkv k).1.Kind = x.Kind := rfl
@[go_sem] theorem Rec.mkv_at_Txn (x : Rec) (k : Int) : (x.mkv k).1.Txn = x.Txn := rfl
@[go_sem] theorem Rec.mkv_at_Time (x : Rec) (k : Int) : (x.mkv k).1.Time = x.Time := rfl
@[go_sem] theorem Rec.mkv_at_Lead (x : Rec) (k : Int) : (x.mkv k).1.Lead = x.Lead := rfl
@[go_sem] theorem Rec.mkv_len_Reads (x : Rec) (k : Int) : (x.mkv k).1.Reads.length = x.Reads.length := mkL_len
@[go_sem] theorem Rec.mkv_take_Reads (x : Rec) (k : Int) : (x.mkv k).1.Reads.take x.Reads.length = (x.mkv k).1.Reads := mkL_take
@[go_sem] theorem Rec.mkv_len_Writes (x : Rec) (k : Int) : (x.mkv k).1.Writes.length = x.Writes.length := mkL_len
@[go_sem] theorem Rec.mkv_take_Writes (x : Rec) (k : Int) : (x.mkv k).1.Writes.take x.Writes.length = (x.mkv k).1.Writes := mkL_take
@[go_sem] theorem Rec.mkv_at_Yes (x : Rec) (k : Int) : (x.mkv k).1.Yes = x.Yes := rfl
def Cell.mk2 (x : Cell) (k : Int) : Cell × Int := (⟨mkText k, (mkL (Ver.mk2) x.Vers (k + 1)).1⟩, (mkL (Ver.mk2) x.Vers (k + 1)).2)
def Cell.cnt (x : Cell) : Nat := 1 + cntL (Ver.cnt) x.Vers
theorem Cell.mk2_cnt (x : Cell) (k : Int) : (x.mk2 k).2 = k + (x.cnt : Nat) := by
 simp only [Cell.mk2, Cell.cnt, mkN_cnt (f := Ver.mk2) (c := Ver.cnt) (Ver.mk2_cnt)]
 try omega
theorem Cell.cnt_le (x : Cell) : x.cnt ≤ 4 * (x.sz + 1) := by
 have c_Vers := cntL_le (c := Ver.cnt) (s := Ver.sz) (A := 3) Ver.cnt_le (l := x.Vers)
 simp only [Cell.cnt, Cell.sz]
 try omega
def Cell.mkv (x : Cell) (k : Int) : Cell × Int := (⟨x.Key, (mkL (Ver.mk2) x.Vers k).1⟩, (mkL (Ver.mk2) x.Vers k).2)
def Cell.cntv (x : Cell) : Nat := cntL (Ver.cnt) x.Vers
theorem Cell.mkv_cnt (x : Cell) (k : Int) : (x.mkv k).2 = k + (x.cntv : Nat) := by
 simp only [Cell.mkv, Cell.cntv, mkN_cnt (f := Ver.mk2) (c := Ver.cnt) (Ver.mk2_cnt)]
 try omega
theorem Cell.cntv_le (x : Cell) : x.cntv ≤ 4 * (x.sz + 1) := by
 have c_Vers := cntL_le (c := Ver.cnt) (s := Ver.sz) (A := 3) Ver.cnt_le (l := x.Vers)
 simp only [Cell.cntv, Cell.sz]
 try omega
@[go_sem] theorem Cell.mkv_at_Key (x : Cell) (k : Int) : (x.mkv k).1.Key = x.Key := rfl
@[go_sem] theorem Cell.mkv_len_Vers (x : Cell) (k : Int) : (x.mkv k).1.Vers.length = x.Vers.length := mkL_len
@[go_sem] theorem Cell.mkv_take_Vers (x : Cell) (k : Int) : (x.mkv k).1.Vers.take x.Vers.length = (x.mkv k).1.Vers := mkL_take
def Held.mk2 (x : Held) (k : Int) : Held × Int := (⟨k, (k + 1), ((k + 1) + 1), (mkL (mkS) x.Reads (((k + 1) + 1) + 1)).1, (mkL (Write.mk2) x.Writes (mkL (mkS) x.Reads (((k + 1) + 1) + 1)).2).1⟩, (mkL (Write.mk2) x.Writes (mkL (mkS) x.Reads (((k + 1) + 1) + 1)).2).2)
def Held.cnt (x : Held) : Nat := 1 + 1 + 1 + cntL (fun _ => 1) x.Reads + cntL (Write.cnt) x.Writes
theorem Held.mk2_cnt (x : Held) (k : Int) : (x.mk2 k).2 = k + (x.cnt : Nat) := by
 simp only [Held.mk2, Held.cnt, mkN_cnt (f := mkS) (c := fun _ => 1) (fun _ _ => rfl), mkN_cnt (f := Write.mk2) (c := Write.cnt) (Write.mk2_cnt)]
 try omega
theorem Held.cnt_le (x : Held) : x.cnt ≤ 7 * (x.sz + 1) := by
 have c_Reads := cntL_le (c := fun _ => 1) (s := ByteArray.size) (A := 1) (fun x => by omega) (l := x.Reads)
 have c_Writes := cntL_le (c := Write.cnt) (s := Write.sz) (A := 3) Write.cnt_le (l := x.Writes)
 simp only [Held.cnt, Held.sz]
 try omega
def Held.mkv (x : Held) (k : Int) : Held × Int := (⟨x.Txn, x.Time, x.Lead, (mkL (mkS) x.Reads k).1, (mkL (Write.mk2) x.Writes (mkL (mkS) x.Reads k).2).1⟩, (mkL (Write.mk2) x.Writes (mkL (mkS) x.Reads k).2).2)
def Held.cntv (x : Held) : Nat := cntL (fun _ => 1) x.Reads + cntL (Write.cnt) x.Writes
theorem Held.mkv_cnt (x : Held) (k : Int) : (x.mkv k).2 = k + (x.cntv : Nat) := by
 simp only [Held.mkv, Held.cntv, mkN_cnt (f := mkS) (c := fun _ => 1) (fun _ _ => rfl), mkN_cnt (f := Write.mk2) (c := Write.cnt) (Write.mk2_cnt)]
 try omega
theorem Held.cntv_le (x : Held) : x.cntv ≤ 7 * (x.sz + 1) := by
 have c_Reads := cntL_le (c := fun _ => 1) (s := ByteArray.size) (A := 1) (fun x => by omega) (l := x.Reads)
 have c_Writes := cntL_le (c := Write.cnt) (s := Write.sz) (A := 3) Write.cnt_le (l := x.Writes)
 simp only [Held.cntv, Held.sz]
 try omega
@[go_sem] theorem Held.mkv_at_Txn (x : Held) (k : Int) : (x.mkv k).1.Txn = x.Txn := rfl
@[go_sem] theorem Held.mkv_at_Time (x : Held) (k : Int) : (x.mkv k).1.Time = x.Time := rfl
@[go_sem] theorem Held.mkv_at_Lead (x : Held) (k : Int) : (x.mkv k).1.Lead = x.Lead := rfl
@[go_sem] theorem Held.mkv_len_Reads (x : Held) (k : Int) : (x.mkv k).1.Reads.length = x.Reads.length := mkL_len
@[go_sem] theorem Held.mkv_take_Reads (x : Held) (k : Int) : (x.mkv k).1.Reads.take x.Reads.length = (x.mkv k).1.Reads := mkL_take
@[go_sem] theorem Held.mkv_len_Writes (x : Held) (k : Int) : (x.mkv k).1.Writes.length = x.Writes.length := mkL_len
@[go_sem] theorem Held.mkv_take_Writes (x : Held) (k : Int) : (x.mkv k).1.Writes.take x.Writes.length = (x.mkv k).1.Writes := mkL_take
def Entry.mk2 (x : Entry) (k : Int) : Entry × Int := (⟨k, (Rec.mk2 x.Rec (k + 1)).1⟩, (Rec.mk2 x.Rec (k + 1)).2)
def Entry.cnt (x : Entry) : Nat := 1 + x.Rec.cnt
theorem Entry.mk2_cnt (x : Entry) (k : Int) : (x.mk2 k).2 = k + (x.cnt : Nat) := by
 simp only [Entry.mk2, Entry.cnt, Rec.mk2_cnt]
 try omega
theorem Entry.cnt_le (x : Entry) : x.cnt ≤ 10 * (x.sz + 1) := by
 have c_Rec := Rec.cnt_le x.Rec
 simp only [Entry.cnt, Entry.sz]
 try omega
def Entry.mkv (x : Entry) (k : Int) : Entry × Int := (⟨x.Term, (Rec.mkv x.Rec k).1⟩, (Rec.mkv x.Rec k).2)
def Entry.cntv (x : Entry) : Nat := x.Rec.cntv
theorem Entry.mkv_cnt (x : Entry) (k : Int) : (x.mkv k).2 = k + (x.cntv : Nat) := by
 simp only [Entry.mkv, Entry.cntv, Rec.mkv_cnt]
 try omega
theorem Entry.cntv_le (x : Entry) : x.cntv ≤ 10 * (x.sz + 1) := by
 have c_Rec := Rec.cntv_le x.Rec
 simp only [Entry.cntv, Entry.sz]
 try omega
@[go_sem] theorem Entry.mkv_at_Term (x : Entry) (k : Int) : (x.mkv k).1.Term = x.Term := rfl
@[go_sem] theorem Entry.mkv_at_Rec (x : Entry) (k : Int) : (x.mkv k).1.Rec = (x.Rec.mkv k).1 := rfl
def State.mk2 (x : State) (k : Int) : State × Int := (⟨k, (mkL (Cell.mk2) x.Cells (k + 1)).1, (mkL (Held.mk2) x.Held (mkL (Cell.mk2) x.Cells (k + 1)).2).1, (mkL (Told.mk2) x.Told (mkL (Held.mk2) x.Held (mkL (Cell.mk2) x.Cells (k + 1)).2).2).1⟩, (mkL (Told.mk2) x.Told (mkL (Held.mk2) x.Held (mkL (Cell.mk2) x.Cells (k + 1)).2).2).2)
def State.cnt (x : State) : Nat := 1 + cntL (Cell.cnt) x.Cells + cntL (Held.cnt) x.Held + cntL (Told.cnt) x.Told
theorem State.mk2_cnt (x : State) (k : Int) : (x.mk2 k).2 = k + (x.cnt : Nat) := by
 simp only [State.mk2, State.cnt, mkN_cnt (f := Cell.mk2) (c := Cell.cnt) (Cell.mk2_cnt), mkN_cnt (f := Held.mk2) (c := Held.cnt) (Held.mk2_cnt), mkN_cnt (f := Told.mk2) (c := Told.cnt) (Told.mk2_cnt)]
 try omega
theorem State.cnt_le (x : State) : x.cnt ≤ 15 * (x.sz + 1) := by
 have c_Cells := cntL_le (c := Cell.cnt) (s := Cell.sz) (A := 4) Cell.cnt_le (l := x.Cells)
 have c_Held := cntL_le (c := Held.cnt) (s := Held.sz) (A := 7) Held.cnt_le (l := x.Held)
 have c_Told := cntL_le1 (c := Told.cnt) (A := 3) (fun x => by have := Told.cnt_le x; omega) (l := x.Told)
 simp only [State.cnt, State.sz]
 try omega
def State.mkv (x : State) (k : Int) : State × Int := (⟨x.Floor, (mkL (Cell.mk2) x.Cells k).1, (mkL (Held.mk2) x.Held (mkL (Cell.mk2) x.Cells k).2).1, (mkL (Told.mk2) x.Told (mkL (Held.mk2) x.Held (mkL (Cell.mk2) x.Cells k).2).2).1⟩, (mkL (Told.mk2) x.Told (mkL (Held.mk2) x.Held (mkL (Cell.mk2) x.Cells k).2).2).2)
def State.cntv (x : State) : Nat := cntL (Cell.cnt) x.Cells + cntL (Held.cnt) x.Held + cntL (Told.cnt) x.Told
theorem State.mkv_cnt (x : State) (k : Int) : (x.mkv k).2 = k + (x.cntv : Nat) := by
 simp only [State.mkv, State.cntv, mkN_cnt (f := Cell.mk2) (c := Cell.cnt) (Cell.mk2_cnt), mkN_cnt (f := Held.mk2) (c := Held.cnt) (Held.mk2_cnt), mkN_cnt (f := Told.mk2) (c := Told.cnt) (Told.mk2_cnt)]
 try omega
theorem State.cntv_le (x : State) : x.cntv ≤ 15 * (x.sz + 1) := by
 have c_Cells := cntL_le (c := Cell.cnt) (s := Cell.sz) (A := 4) Cell.cnt_le (l := x.Cells)
 have c_Held := cntL_le (c := Held.cnt) (s := Held.sz) (A := 7) Held.cnt_le (l := x.Held)
 have c_Told := cntL_le1 (c := Told.cnt) (A := 3) (fun x => by have := Told.cnt_le x; omega) (l := x.Told)
 simp only [State.cntv, State.sz]
 try omega
@[go_sem] theorem State.mkv_at_Floor (x : State) (k : Int) : (x.mkv k).1.Floor = x.Floor := rfl
@[go_sem] theorem State.mkv_len_Cells (x : State) (k : Int) : (x.mkv k).1.Cells.length = x.Cells.length := mkL_len
@[go_sem] theorem State.mkv_take_Cells (x : State) (k : Int) : (x.mkv k).1.Cells.take x.Cells.length = (x.mkv k).1.Cells := mkL_take
@[go_sem] theorem State.mkv_len_Held (x : State) (k : Int) : (x.mkv k).1.Held.length = x.Held.length := mkL_len
@[go_sem] theorem State.mkv_take_Held (x : State) (k : Int) : (x.mkv k).1.Held.take x.Held.length = (x.mkv k).1.Held := mkL_take
@[go_sem] theorem State.mkv_len_Told (x : State) (k : Int) : (x.mkv k).1.Told.length = x.Told.length := mkL_len
@[go_sem] theorem State.mkv_take_Told (x : State) (k : Int) : (x.mkv k).1.Told.take x.Told.length = (x.mkv k).1.Told := mkL_take
def Replica.mk2 (x : Replica) (k : Int) : Replica × Int := (⟨decide ((k).tmod 3 = 0), (mkL (Entry.mk2) x.Log (k + 1)).1, (mkL (Entry.mk2) x.Log (k + 1)).2⟩, ((mkL (Entry.mk2) x.Log (k + 1)).2 + 1))
def Replica.cnt (x : Replica) : Nat := 1 + cntL (Entry.cnt) x.Log + 1
theorem Replica.mk2_cnt (x : Replica) (k : Int) : (x.mk2 k).2 = k + (x.cnt : Nat) := by
 simp only [Replica.mk2, Replica.cnt, mkN_cnt (f := Entry.mk2) (c := Entry.cnt) (Entry.mk2_cnt)]
 try omega
theorem Replica.cnt_le (x : Replica) : x.cnt ≤ 12 * (x.sz + 1) := by
 have c_Log := cntL_le (c := Entry.cnt) (s := Entry.sz) (A := 10) Entry.cnt_le (l := x.Log)
 simp only [Replica.cnt, Replica.sz]
 try omega
def Replica.mkv (x : Replica) (k : Int) : Replica × Int := (⟨x.Up, (mkL (Entry.mk2) x.Log k).1, x.Sure⟩, (mkL (Entry.mk2) x.Log k).2)
def Replica.cntv (x : Replica) : Nat := cntL (Entry.cnt) x.Log
theorem Replica.mkv_cnt (x : Replica) (k : Int) : (x.mkv k).2 = k + (x.cntv : Nat) := by
 simp only [Replica.mkv, Replica.cntv, mkN_cnt (f := Entry.mk2) (c := Entry.cnt) (Entry.mk2_cnt)]
 try omega
theorem Replica.cntv_le (x : Replica) : x.cntv ≤ 12 * (x.sz + 1) := by
 have c_Log := cntL_le (c := Entry.cnt) (s := Entry.sz) (A := 10) Entry.cnt_le (l := x.Log)
 simp only [Replica.cntv, Replica.sz]
 try omega
@[go_sem] theorem Replica.mkv_at_Up (x : Replica) (k : Int) : (x.mkv k).1.Up = x.Up := rfl
@[go_sem] theorem Replica.mkv_len_Log (x : Replica) (k : Int) : (x.mkv k).1.Log.length = x.Log.length := mkL_len
@[go_sem] theorem Replica.mkv_take_Log (x : Replica) (k : Int) : (x.mkv k).1.Log.take x.Log.length = (x.mkv k).1.Log := mkL_take
@[go_sem] theorem Replica.mkv_at_Sure (x : Replica) (k : Int) : (x.mkv k).1.Sure = x.Sure := rfl
def Group.mk2 (x : Group) (k : Int) : Group × Int := (⟨(mkL (Replica.mk2) x.Reps k).1, (mkL (Replica.mk2) x.Reps k).2, ((mkL (Replica.mk2) x.Reps k).2 + 1)⟩, (((mkL (Replica.mk2) x.Reps k).2 + 1) + 1))
def Group.cnt (x : Group) : Nat := cntL (Replica.cnt) x.Reps + 1 + 1
theorem Group.mk2_cnt (x : Group) (k : Int) : (x.mk2 k).2 = k + (x.cnt : Nat) := by
 simp only [Group.mk2, Group.cnt, mkN_cnt (f := Replica.mk2) (c := Replica.cnt) (Replica.mk2_cnt)]
 try omega
theorem Group.cnt_le (x : Group) : x.cnt ≤ 14 * (x.sz + 1) := by
 have c_Reps := cntL_le (c := Replica.cnt) (s := Replica.sz) (A := 12) Replica.cnt_le (l := x.Reps)
 simp only [Group.cnt, Group.sz]
 try omega
def Group.mkv (x : Group) (k : Int) : Group × Int := (⟨(mkL (Replica.mk2) x.Reps k).1, x.Term, x.Lead⟩, (mkL (Replica.mk2) x.Reps k).2)
def Group.cntv (x : Group) : Nat := cntL (Replica.cnt) x.Reps
theorem Group.mkv_cnt (x : Group) (k : Int) : (x.mkv k).2 = k + (x.cntv : Nat) := by
 simp only [Group.mkv, Group.cntv, mkN_cnt (f := Replica.mk2) (c := Replica.cnt) (Replica.mk2_cnt)]
 try omega
theorem Group.cntv_le (x : Group) : x.cntv ≤ 14 * (x.sz + 1) := by
 have c_Reps := cntL_le (c := Replica.cnt) (s := Replica.sz) (A := 12) Replica.cnt_le (l := x.Reps)
 simp only [Group.cntv, Group.sz]
 try omega
@[go_sem] theorem Group.mkv_len_Reps (x : Group) (k : Int) : (x.mkv k).1.Reps.length = x.Reps.length := mkL_len
@[go_sem] theorem Group.mkv_take_Reps (x : Group) (k : Int) : (x.mkv k).1.Reps.take x.Reps.length = (x.mkv k).1.Reps := mkL_take
@[go_sem] theorem Group.mkv_at_Term (x : Group) (k : Int) : (x.mkv k).1.Term = x.Term := rfl
@[go_sem] theorem Group.mkv_at_Lead (x : Group) (k : Int) : (x.mkv k).1.Lead = x.Lead := rfl
theorem markStringS_ok (l : List ByteArray) (k : Int) (h0 : 0 ≤ k) (h1 : k + (cntL (fun _ => 1) l : Nat) ≤ 2 ^ 62) : ACall Tryz.prog 61 [.sl true 1 (strs l), i64 k] (fun r a => r = i64 (mkL (mkS) l k).2 ∧ a = [.sl true 1 (strs (mkL (mkS) l k).1), i64 k]) := by
 refine fi H61 fun E hE hH => ?_; simp only [go_sem] at hE hH; simp only [go_sem, hE, hH, C61]
 refine loopNe l.length (fun j (_ : Unit) => ⟨[(0, .ref 0 0 l.length), (1, i64 (mkN (mkS) l k j)), (5, i64 j)], [(0, ⟨1, strs (mkP (mkS) l k j)⟩)]⟩) (fun _ _ => True) () (by simp [mkP_zero, mkN_zero]) trivial ?_
 intro j _ hj _
 have hpl := mkP_len (f := mkS) (k := k) hj
 have hN := mkN_at (f := mkS) (c := fun _ => 1) (fun _ _ => rfl) (l := l) (k := k) (j := j)
 have hlen := cntL_len (c := fun _ => 1) (l := l) (fun x => by simp)
 try simp only [go_sem, hE, hH, C61_l1]
 first | refine gd_t (fun h => ?_) (fun h => ?_) | refine gd_f (fun h => ?_) (fun h => ?_)
 ·have hb := h
  simp only [nf] at h
  have hlt := h
  have hc := psum_cnt (c := fun _ => 1) hlt
  have e0 := nth_mkP (f := mkS) (k := k) hlt
  have e1 := mkP_set (f := mkS) (k := k) hlt
  have e2 := mkN_succ (f := mkS) (k := k) hlt
  simp only [mkS] at e1 e2
  generalize hk : mkN (mkS) l k j = q at *
  try simp (disch := omega) only [go_sem, hE, hH, e0, hb, hpl, e0]
  repeat' (first | ((with_reducible first | refine gd_t ?_ ?_ | refine gd_f ?_ ?_) <;> (intro h; have hb := h; (try simp only [nf] at h); simp (disch := omega) only [go_sem, hE, hH, e0, hb]; (try clear hb))) | ((with_reducible refine And.intro ?_ ?_); · omega) | ((first | refine ok_view ?_ | refine cvA (markText_ok _ (by omega)) ?_); simp (disch := omega) only [go_sem, hE, hH, e0]) | refine jn _ ?_ ?_ | (with_reducible first | refine both ?_ ?_ | refine And.intro ?_ ?_) | (refine fin_eq ?_; (try (simp (disch := omega) only [go_sem, hE, hH, e0])); first | done | rfl) | (simp (disch := omega) only [go_sem, hE, hH, e0]) | ((first | apply noMLL_sE | apply pk_sE) <;> (simp only [go_sem, hE, hH, e0]; done)) | (simp only [go_sem, hE, hH, e0]) | fail)
  try try simp (disch := omega) only [go_sem, hE, hH, e0, hpl, e0]
  repeat' (first | (refine both ?_ ?_) | omega | ((first | apply noMLL_sE | apply pk_sE) <;> (simp only [go_sem, hE, hH, e0]; done)) | fail)
  refine ⟨(), ?_⟩
  rw [e2, ← e1]
  rfl
 ·have hb := h
  simp only [nf] at h
  try simp (disch := omega) only [go_sem, hE, hH, hb]
  have e3 : j = l.length := by first | omega | (rw [mkL_len] at h; omega)
  subst e3
  rw [mkN_all (Nat.le_refl _), mkP_all (Nat.le_refl _)]
  exact ⟨mkL_len.symm, rfl, rfl⟩
theorem markToldS_ok (l : List Told) (k : Int) (h0 : 0 ≤ k) (h1 : k + (cntL (Told.cnt) l : Nat) ≤ 2 ^ 62) : ACall Tryz.prog 65 [.sl true 3 (l.map (Told.row true)), i64 k] (fun r a => r = i64 (mkL (Told.mk2) l k).2 ∧ a = [.sl true 3 ((mkL (Told.mk2) l k).1.map (Told.row true)), i64 k]) := by
 refine fi H65 fun E hE hH => ?_; simp only [go_sem] at hE hH; simp only [go_sem, hE, hH, C65]
 refine loopNe l.length (fun j (_ : Unit) => ⟨[(0, .ref 0 0 l.length), (1, i64 (mkN (Told.mk2) l k j)), (5, i64 j)], [(0, ⟨3, (mkP (Told.mk2) l k j).map (Told.row true)⟩)]⟩) (fun _ _ => True) () (by simp [mkP_zero, mkN_zero]) trivial ?_
 intro j _ hj _
 have hpl := mkP_len (f := Told.mk2) (k := k) hj
 have hN := mkN_at (f := Told.mk2) (c := Told.cnt) (Told.mk2_cnt) (l := l) (k := k) (j := j)
 have hlen := cntL_len (c := Told.cnt) (l := l) (fun x => by simp only [Told.cnt]; omega)
 try simp only [go_sem, hE, hH, C65_l1]
 first | refine gd_t (fun h => ?_) (fun h => ?_) | refine gd_f (fun h => ?_) (fun h => ?_)
 ·have hb := h
  simp only [nf] at h
  have hlt := h
  have hc := psum_cnt (c := Told.cnt) hlt
  have e0 := nth_mkP (f := Told.mk2) (k := k) hlt
  have e1 := mkP_set (f := Told.mk2) (k := k) hlt
  have e2 := mkN_succ (f := Told.mk2) (k := k) hlt
  simp only [Told.mk2] at e1 e2
  simp only [Told.cnt] at hc
  generalize hk : mkN (Told.mk2) l k j = q at *
  try simp (disch := omega) only [go_sem, hE, hH, e0, hb, hpl, e0]
  repeat' (first | ((with_reducible first | refine gd_t ?_ ?_ | refine gd_f ?_ ?_) <;> (intro h; have hb := h; (try simp only [nf] at h); simp (disch := omega) only [go_sem, hE, hH, e0, hb]; (try clear hb))) | ((with_reducible refine And.intro ?_ ?_); · omega) | ((first | refine ok_view ?_ | refine cvA (markText_ok _ (by omega)) ?_); simp (disch := omega) only [go_sem, hE, hH, e0]) | refine jn _ ?_ ?_ | (with_reducible first | refine both ?_ ?_ | refine And.intro ?_ ?_) | (refine fin_eq ?_; (try (simp (disch := omega) only [go_sem, hE, hH, e0])); first | done | rfl) | (simp (disch := omega) only [go_sem, hE, hH, e0]) | ((first | apply noMLL_sE | apply pk_sE) <;> (simp only [go_sem, hE, hH, e0]; done)) | (simp only [go_sem, hE, hH, e0]) | fail)
  try try simp (disch := omega) only [go_sem, hE, hH, e0, hpl, e0]
  repeat' (first | (refine both ?_ ?_) | omega | ((first | apply noMLL_sE | apply pk_sE) <;> (simp only [go_sem, hE, hH, e0]; done)) | fail)
  refine ⟨(), ?_⟩
  rw [e2, ← e1, List.map_set]
  rfl
 ·have hb := h
  simp only [nf] at h
  try simp (disch := omega) only [go_sem, hE, hH, hb]
  have e3 : j = l.length := by first | omega | (rw [mkL_len] at h; omega)
  subst e3
  rw [mkN_all (Nat.le_refl _), mkP_all (Nat.le_refl _)]
  exact ⟨mkL_len.symm, rfl, rfl⟩
theorem markVerS_ok (l : List Ver) (k : Int) (h0 : 0 ≤ k) (h1 : k + (cntL (Ver.cnt) l : Nat) ≤ 2 ^ 62) : ACall Tryz.prog 118 [.sl true 3 (l.map (Ver.row true)), i64 k] (fun r a => r = i64 (mkL (Ver.mk2) l k).2 ∧ a = [.sl true 3 ((mkL (Ver.mk2) l k).1.map (Ver.row true)), i64 k]) := by
 refine fi H118 fun E hE hH => ?_; simp only [go_sem] at hE hH; simp only [go_sem, hE, hH, C118]
 refine loopNe l.length (fun j (_ : Unit) => ⟨[(0, .ref 0 0 l.length), (1, i64 (mkN (Ver.mk2) l k j)), (5, i64 j)], [(0, ⟨3, (mkP (Ver.mk2) l k j).map (Ver.row true)⟩)]⟩) (fun _ _ => True) () (by simp [mkP_zero, mkN_zero]) trivial ?_
 intro j _ hj _
 have hpl := mkP_len (f := Ver.mk2) (k := k) hj
 have hN := mkN_at (f := Ver.mk2) (c := Ver.cnt) (Ver.mk2_cnt) (l := l) (k := k) (j := j)
 have hlen := cntL_len (c := Ver.cnt) (l := l) (fun x => by simp only [Ver.cnt]; omega)
 try simp only [go_sem, hE, hH, C118_l1]
 first | refine gd_t (fun h => ?_) (fun h => ?_) | refine gd_f (fun h => ?_) (fun h => ?_)
 ·have hb := h
  simp only [nf] at h
  have hlt := h
  have hc := psum_cnt (c := Ver.cnt) hlt
  have e0 := nth_mkP (f := Ver.mk2) (k := k) hlt
  have e1 := mkP_set (f := Ver.mk2) (k := k) hlt
  have e2 := mkN_succ (f := Ver.mk2) (k := k) hlt
  simp only [Ver.mk2] at e1 e2
  simp only [Ver.cnt] at hc
  generalize hk : mkN (Ver.mk2) l k j = q at *
  try simp (disch := omega) only [go_sem, hE, hH, e0, hb, hpl, e0]
  repeat' (first | ((with_reducible first | refine gd_t ?_ ?_ | refine gd_f ?_ ?_) <;> (intro h; have hb := h; (try simp only [nf] at h); simp (disch := omega) only [go_sem, hE, hH, e0, hb]; (try clear hb))) | ((with_reducible refine And.intro ?_ ?_); · omega) | ((first | refine ok_view ?_ | refine cvA (markText_ok _ (by omega)) ?_); simp (disch := omega) only [go_sem, hE, hH, e0]) | refine jn _ ?_ ?_ | (with_reducible first | refine both ?_ ?_ | refine And.intro ?_ ?_) | (refine fin_eq ?_; (try (simp (disch := omega) only [go_sem, hE, hH, e0])); first | done | rfl) | (simp (disch := omega) only [go_sem, hE, hH, e0]) | ((first | apply noMLL_sE | apply pk_sE) <;> (simp only [go_sem, hE, hH, e0]; done)) | (simp only [go_sem, hE, hH, e0]) | fail)
  try try simp (disch := omega) only [go_sem, hE, hH, e0, hpl, e0]
  repeat' (first | (refine both ?_ ?_) | omega | ((first | apply noMLL_sE | apply pk_sE) <;> (simp only [go_sem, hE, hH, e0]; done)) | fail)
  refine ⟨(), ?_⟩
  rw [e2, ← e1, List.map_set]
  rfl
 ·have hb := h
  simp only [nf] at h
  try simp (disch := omega) only [go_sem, hE, hH, hb]
  have e3 : j = l.length := by first | omega | (rw [mkL_len] at h; omega)
  subst e3
  rw [mkN_all (Nat.le_refl _), mkP_all (Nat.le_refl _)]
  exact ⟨mkL_len.symm, rfl, rfl⟩
theorem markWriteS_ok (l : List Write) (k : Int) (h0 : 0 ≤ k) (h1 : k + (cntL (Write.cnt) l : Nat) ≤ 2 ^ 62) : ACall Tryz.prog 62 [.sl true 3 (l.map (Write.row true)), i64 k] (fun r a => r = i64 (mkL (Write.mk2) l k).2 ∧ a = [.sl true 3 ((mkL (Write.mk2) l k).1.map (Write.row true)), i64 k]) := by
 refine fi H62 fun E hE hH => ?_; simp only [go_sem] at hE hH; simp only [go_sem, hE, hH, C62]
 refine loopNe l.length (fun j (_ : Unit) => ⟨[(0, .ref 0 0 l.length), (1, i64 (mkN (Write.mk2) l k j)), (5, i64 j)], [(0, ⟨3, (mkP (Write.mk2) l k j).map (Write.row true)⟩)]⟩) (fun _ _ => True) () (by simp [mkP_zero, mkN_zero]) trivial ?_
 intro j _ hj _
 have hpl := mkP_len (f := Write.mk2) (k := k) hj
 have hN := mkN_at (f := Write.mk2) (c := Write.cnt) (Write.mk2_cnt) (l := l) (k := k) (j := j)
 have hlen := cntL_len (c := Write.cnt) (l := l) (fun x => by simp only [Write.cnt]; omega)
 try simp only [go_sem, hE, hH, C62_l1]
 first | refine gd_t (fun h => ?_) (fun h => ?_) | refine gd_f (fun h => ?_) (fun h => ?_)
 ·have hb := h
  simp only [nf] at h
  have hlt := h
  have hc := psum_cnt (c := Write.cnt) hlt
  have e0 := nth_mkP (f := Write.mk2) (k := k) hlt
  have e1 := mkP_set (f := Write.mk2) (k := k) hlt
  have e2 := mkN_succ (f := Write.mk2) (k := k) hlt
  simp only [Write.mk2] at e1 e2
  simp only [Write.cnt] at hc
  generalize hk : mkN (Write.mk2) l k j = q at *
  try simp (disch := omega) only [go_sem, hE, hH, e0, hb, hpl, e0]
  repeat' (first | ((with_reducible first | refine gd_t ?_ ?_ | refine gd_f ?_ ?_) <;> (intro h; have hb := h; (try simp only [nf] at h); simp (disch := omega) only [go_sem, hE, hH, e0, hb]; (try clear hb))) | ((with_reducible refine And.intro ?_ ?_); · omega) | ((first | refine ok_view ?_ | refine cvA (markText_ok _ (by omega)) ?_); simp (disch := omega) only [go_sem, hE, hH, e0]) | refine jn _ ?_ ?_ | (with_reducible first | refine both ?_ ?_ | refine And.intro ?_ ?_) | (refine fin_eq ?_; (try (simp (disch := omega) only [go_sem, hE, hH, e0])); first | done | rfl) | (simp (disch := omega) only [go_sem, hE, hH, e0]) | ((first | apply noMLL_sE | apply pk_sE) <;> (simp only [go_sem, hE, hH, e0]; done)) | (simp only [go_sem, hE, hH, e0]) | fail)
  try try simp (disch := omega) only [go_sem, hE, hH, e0, hpl, e0]
  repeat' (first | (refine both ?_ ?_) | omega | ((first | apply noMLL_sE | apply pk_sE) <;> (simp only [go_sem, hE, hH, e0]; done)) | fail)
  refine ⟨(), ?_⟩
  rw [e2, ← e1, List.map_set]
  rfl
 ·have hb := h
  simp only [nf] at h
  try simp (disch := omega) only [go_sem, hE, hH, hb]
  have e3 : j = l.length := by first | omega | (rw [mkL_len] at h; omega)
  subst e3
  rw [mkN_all (Nat.le_refl _), mkP_all (Nat.le_refl _)]
  exact ⟨mkL_len.symm, rfl, rfl⟩
theorem markRec_ok (x : Rec) (k : Int) (h0 : 0 ≤ k) (h1 : k + (x.cntv : Nat) ≤ 2 ^ 62) : ACall Tryz.prog 34 [.agg (Rec.row true x), i64 k] (fun r a => r = i64 (x.mkv k).2 ∧ a = [.agg (Rec.row true (x.mkv k).1), i64 k]) := by
 simp only [Rec.cntv] at h1
 have m_Reads := mkN_cnt (f := mkS) (c := fun _ => 1) (fun _ _ => rfl) (l := x.Reads) (k := k)
 have m_Writes := mkN_cnt (f := Write.mk2) (c := Write.cnt) (Write.mk2_cnt) (l := x.Writes) (k := (mkL (mkS) x.Reads k).2)
 simp only [Rec.mkv]
 refine fi H34 fun E hE hH => ?_; simp only [go_sem] at hE hH; simp only [go_sem, hE, hH, C34]
 try simp (disch := omega) only [go_sem, hE, hH]
 repeat' (first | ((with_reducible first | refine gd_t ?_ ?_ | refine gd_f ?_ ?_) <;> (intro h; have hb := h; (try simp only [nf] at h); refine sb ?_; (try clear hb))) | ((with_reducible refine And.intro ?_ ?_); · omega) | (refine ok_lend [true, false] ?_; refine st ?_; refine cmA (markStringS_ok x.Reads k (by omega) (by omega)) ?_; refine st ?_) | (refine ok_lend [true, false] ?_; refine st ?_; refine cmA (markWriteS_ok x.Writes (mkL (mkS) x.Reads k).2 (by omega) (by omega)) ?_; refine st ?_) | refine jn _ ?_ ?_ | (with_reducible first | refine both ?_ ?_ | refine And.intro ?_ ?_) | exact fe | refine st ?_ | exact fm | refine s1 ?_ | (with_reducible exact True.intro) | fail)
 all_goals first | omega | (simp [mkL_len]; done) | rfl
theorem markCellS_ok (l : List Cell) (k : Int) (h0 : 0 ≤ k) (h1 : k + (cntL (Cell.cnt) l : Nat) ≤ 2 ^ 62) : ACall Tryz.prog 63 [.sl true 2 (l.map (Cell.row true)), i64 k] (fun r a => r = i64 (mkL (Cell.mk2) l k).2 ∧ a = [.sl true 2 ((mkL (Cell.mk2) l k).1.map (Cell.row true)), i64 k]) := by
 refine fi H63 fun E hE hH => ?_; simp only [go_sem] at hE hH; simp only [go_sem, hE, hH, C63]
 refine loopNe l.length (fun j (_ : Unit) => ⟨[(0, .ref 0 0 l.length), (1, i64 (mkN (Cell.mk2) l k j)), (5, i64 j)], [(0, ⟨2, (mkP (Cell.mk2) l k j).map (Cell.row true)⟩)]⟩) (fun _ _ => True) () (by simp [mkP_zero, mkN_zero]) trivial ?_
 intro j _ hj _
 have hpl := mkP_len (f := Cell.mk2) (k := k) hj
 have hN := mkN_at (f := Cell.mk2) (c := Cell.cnt) (Cell.mk2_cnt) (l := l) (k := k) (j := j)
 have hlen := cntL_len (c := Cell.cnt) (l := l) (fun x => by simp only [Cell.cnt]; omega)
 try simp only [go_sem, hE, hH, C63_l1]
 first | refine gd_t (fun h => ?_) (fun h => ?_) | refine gd_f (fun h => ?_) (fun h => ?_)
 ·have hb := h
  simp only [nf] at h
  have hlt := h
  have hc := psum_cnt (c := Cell.cnt) hlt
  have e0 := nth_mkP (f := Cell.mk2) (k := k) hlt
  have e1 := mkP_set (f := Cell.mk2) (k := k) hlt
  have e2 := mkN_succ (f := Cell.mk2) (k := k) hlt
  simp only [Cell.mk2] at e1 e2
  simp only [Cell.cnt] at hc
  generalize hk : mkN (Cell.mk2) l k j = q at *
  have m_Vers := mkN_cnt (f := Ver.mk2) (c := Ver.cnt) (Ver.mk2_cnt) (l := (nth l j).Vers) (k := (q + 1))
  try simp (disch := omega) only [go_sem, hE, hH, e0, hb, hpl, e0]
  repeat' (first | ((with_reducible first | refine gd_t ?_ ?_ | refine gd_f ?_ ?_) <;> (intro h; have hb := h; (try simp only [nf] at h); simp (disch := omega) only [go_sem, hE, hH, e0, hb]; (try clear hb))) | ((with_reducible refine And.intro ?_ ?_); · omega) | (refine ok_lend [true, false] ?_; simp (disch := omega) only [go_sem, hE, hH, e0]; refine cmA (markVerS_ok ((nth l j).Vers) ((q + 1)) (by omega) (by omega)) ?_; simp (disch := omega) only [go_sem, hE, hH, e0]) | ((first | refine ok_view ?_ | refine cvA (markText_ok _ (by omega)) ?_); simp (disch := omega) only [go_sem, hE, hH, e0]) | refine jn _ ?_ ?_ | (with_reducible first | refine both ?_ ?_ | refine And.intro ?_ ?_) | (refine fin_eq ?_; (try (simp (disch := omega) only [go_sem, hE, hH, e0])); first | done | rfl) | (simp (disch := omega) only [go_sem, hE, hH, e0]) | ((first | apply noMLL_sE | apply pk_sE) <;> (simp only [go_sem, hE, hH, e0]; done)) | (simp only [go_sem, hE, hH, e0]) | fail)
  try try simp (disch := omega) only [go_sem, hE, hH, e0, hpl, e0]
  repeat' (first | (refine both ?_ ?_) | omega | ((first | apply noMLL_sE | apply pk_sE) <;> (simp only [go_sem, hE, hH, e0]; done)) | fail)
  refine ⟨(), ?_⟩
  rw [e2, ← e1, List.map_set]
  rfl
 ·have hb := h
  simp only [nf] at h
  try simp (disch := omega) only [go_sem, hE, hH, hb]
  have e3 : j = l.length := by first | omega | (rw [mkL_len] at h; omega)
  subst e3
  rw [mkN_all (Nat.le_refl _), mkP_all (Nat.le_refl _)]
  exact ⟨mkL_len.symm, rfl, rfl⟩
theorem markHeldS_ok (l : List Held) (k : Int) (h0 : 0 ≤ k) (h1 : k + (cntL (Held.cnt) l : Nat) ≤ 2 ^ 62) : ACall Tryz.prog 64 [.sl true 5 (l.map (Held.row true)), i64 k] (fun r a => r = i64 (mkL (Held.mk2) l k).2 ∧ a = [.sl true 5 ((mkL (Held.mk2) l k).1.map (Held.row true)), i64 k]) := by
 refine fi H64 fun E hE hH => ?_; simp only [go_sem] at hE hH; simp only [go_sem, hE, hH, C64]
 refine loopNe l.length (fun j (_ : Unit) => ⟨[(0, .ref 0 0 l.length), (1, i64 (mkN (Held.mk2) l k j)), (5, i64 j)], [(0, ⟨5, (mkP (Held.mk2) l k j).map (Held.row true)⟩)]⟩) (fun _ _ => True) () (by simp [mkP_zero, mkN_zero]) trivial ?_
 intro j _ hj _
 have hpl := mkP_len (f := Held.mk2) (k := k) hj
 have hN := mkN_at (f := Held.mk2) (c := Held.cnt) (Held.mk2_cnt) (l := l) (k := k) (j := j)
 have hlen := cntL_len (c := Held.cnt) (l := l) (fun x => by simp only [Held.cnt]; omega)
 try simp only [go_sem, hE, hH, C64_l1]
 first | refine gd_t (fun h => ?_) (fun h => ?_) | refine gd_f (fun h => ?_) (fun h => ?_)
 ·have hb := h
  simp only [nf] at h
  have hlt := h
  have hc := psum_cnt (c := Held.cnt) hlt
  have e0 := nth_mkP (f := Held.mk2) (k := k) hlt
  have e1 := mkP_set (f := Held.mk2) (k := k) hlt
  have e2 := mkN_succ (f := Held.mk2) (k := k) hlt
  simp only [Held.mk2] at e1 e2
  simp only [Held.cnt] at hc
  generalize hk : mkN (Held.mk2) l k j = q at *
  have m_Reads := mkN_cnt (f := mkS) (c := fun _ => 1) (fun _ _ => rfl) (l := (nth l j).Reads) (k := (((q + 1) + 1) + 1))
  have m_Writes := mkN_cnt (f := Write.mk2) (c := Write.cnt) (Write.mk2_cnt) (l := (nth l j).Writes) (k := (mkL (mkS) (nth l j).Reads (((q + 1) + 1) + 1)).2)
  try simp (disch := omega) only [go_sem, hE, hH, e0, hb, hpl, e0]
  repeat' (first | ((with_reducible first | refine gd_t ?_ ?_ | refine gd_f ?_ ?_) <;> (intro h; have hb := h; (try simp only [nf] at h); simp (disch := omega) only [go_sem, hE, hH, e0, hb]; (try clear hb))) | ((with_reducible refine And.intro ?_ ?_); · omega) | (refine ok_lend [true, false] ?_; simp (disch := omega) only [go_sem, hE, hH, e0]; refine cmA (markStringS_ok ((nth l j).Reads) ((((q + 1) + 1) + 1)) (by omega) (by omega)) ?_; simp (disch := omega) only [go_sem, hE, hH, e0]) | (refine ok_lend [true, false] ?_; simp (disch := omega) only [go_sem, hE, hH, e0]; refine cmA (markWriteS_ok ((nth l j).Writes) ((mkL (mkS) (nth l j).Reads (((q + 1) + 1) + 1)).2) (by omega) (by omega)) ?_; simp (disch := omega) only [go_sem, hE, hH, e0]) | ((first | refine ok_view ?_ | refine cvA (markText_ok _ (by omega)) ?_); simp (disch := omega) only [go_sem, hE, hH, e0]) | refine jn _ ?_ ?_ | (with_reducible first | refine both ?_ ?_ | refine And.intro ?_ ?_) | (refine fin_eq ?_; (try (simp (disch := omega) only [go_sem, hE, hH, e0])); first | done | rfl) | (simp (disch := omega) only [go_sem, hE, hH, e0]) | ((first | apply noMLL_sE | apply pk_sE) <;> (simp only [go_sem, hE, hH, e0]; done)) | (simp only [go_sem, hE, hH, e0]) | fail)
  try try simp (disch := omega) only [go_sem, hE, hH, e0, hpl, e0]
  repeat' (first | (refine both ?_ ?_) | omega | ((first | apply noMLL_sE | apply pk_sE) <;> (simp only [go_sem, hE, hH, e0]; done)) | fail)
  refine ⟨(), ?_⟩
  rw [e2, ← e1, List.map_set]
  rfl
 ·have hb := h
  simp only [nf] at h
  try simp (disch := omega) only [go_sem, hE, hH, hb]
  have e3 : j = l.length := by first | omega | (rw [mkL_len] at h; omega)
  subst e3
  rw [mkN_all (Nat.le_refl _), mkP_all (Nat.le_refl _)]
  exact ⟨mkL_len.symm, rfl, rfl⟩
theorem markState_ok (x : State) (k : Int) (h0 : 0 ≤ k) (h1 : k + (x.cntv : Nat) ≤ 2 ^ 62) : ACall Tryz.prog 23 [.agg (State.row true x), i64 k] (fun r a => r = i64 (x.mkv k).2 ∧ a = [.agg (State.row true (x.mkv k).1), i64 k]) := by
 simp only [State.cntv] at h1
 have m_Cells := mkN_cnt (f := Cell.mk2) (c := Cell.cnt) (Cell.mk2_cnt) (l := x.Cells) (k := k)
 have m_Held := mkN_cnt (f := Held.mk2) (c := Held.cnt) (Held.mk2_cnt) (l := x.Held) (k := (mkL (Cell.mk2) x.Cells k).2)
 have m_Told := mkN_cnt (f := Told.mk2) (c := Told.cnt) (Told.mk2_cnt) (l := x.Told) (k := (mkL (Held.mk2) x.Held (mkL (Cell.mk2) x.Cells k).2).2)
 simp only [State.mkv]
 refine fi H23 fun E hE hH => ?_; simp only [go_sem] at hE hH; simp only [go_sem, hE, hH, C23]
 try simp (disch := omega) only [go_sem, hE, hH]
 repeat' (first | ((with_reducible first | refine gd_t ?_ ?_ | refine gd_f ?_ ?_) <;> (intro h; have hb := h; (try simp only [nf] at h); refine sb ?_; (try clear hb))) | ((with_reducible refine And.intro ?_ ?_); · omega) | (refine ok_lend [true, false] ?_; refine st ?_; refine cmA (markCellS_ok x.Cells k (by omega) (by omega)) ?_; refine st ?_) | (refine ok_lend [true, false] ?_; refine st ?_; refine cmA (markHeldS_ok x.Held (mkL (Cell.mk2) x.Cells k).2 (by omega) (by omega)) ?_; refine st ?_) | (refine ok_lend [true, false] ?_; refine st ?_; refine cmA (markToldS_ok x.Told (mkL (Held.mk2) x.Held (mkL (Cell.mk2) x.Cells k).2).2 (by omega) (by omega)) ?_; refine st ?_) | refine jn _ ?_ ?_ | (with_reducible first | refine both ?_ ?_ | refine And.intro ?_ ?_) | exact fe | refine st ?_ | exact fm | refine s1 ?_ | (with_reducible exact True.intro) | fail)
 all_goals first | omega | (simp [mkL_len]; done) | rfl
theorem heldStringS_ok (l : List ByteArray) (k : Int) (h0 : 0 ≤ k) (h1 : k + (cntL (fun _ => 1) l : Nat) ≤ 2 ^ 62) : ACall Tryz.prog 120 [.sl false 1 (strs (mkL (mkS) l k).1), i64 k] (fun r _ => r = i64 (mkL (mkS) l k).2) := by
 refine fi H120 fun E hE hH => ?_; simp only [go_sem] at hE hH; simp only [go_sem, hE, hH, C120]
 refine loopNe l.length (fun j (_ : Unit) => ⟨[(0, .sl false 1 (strs (mkL (mkS) l k).1)), (1, i64 (mkN (mkS) l k j)), (5, i64 j)], []⟩) (fun _ _ => True) () (by simp [mkP_zero, mkN_zero]) trivial ?_
 intro j _ hj _
 have hpl := mkL_len (f := mkS) (k := k) (l := l)
 have hN := mkN_at (f := mkS) (c := fun _ => 1) (fun _ _ => rfl) (l := l) (k := k) (j := j)
 have hlen := cntL_len (c := fun _ => 1) (l := l) (fun x => by simp)
 try simp only [go_sem, hE, hH, C120_l1]
 first | refine gd_t (fun h => ?_) (fun h => ?_) | refine gd_f (fun h => ?_) (fun h => ?_)
 ·have hb := h
  simp only [nf] at h
  have hlt : j < l.length := by first | exact h | (rw [mkL_len] at h; exact h)
  have hc := psum_cnt (c := fun _ => 1) hlt
  have e0 := nth_mkL (f := mkS) (k := k) hlt
  have e2 := mkN_succ (f := mkS) (k := k) hlt
  simp only [mkS] at e0 e2
  generalize hk : mkN (mkS) l k j = q at *
  try simp (disch := omega) only [go_sem, hE, hH, e0, hb, hpl, e0]
  repeat' (first | ((with_reducible first | refine gd_t ?_ ?_ | refine gd_f ?_ ?_) <;> (intro h; have hb := h; (try simp only [nf] at h); simp (disch := omega) only [go_sem, hE, hH, e0, hb]; (try clear hb))) | ((with_reducible refine And.intro ?_ ?_); · omega) | ((first | refine ok_view ?_ | refine cvA (markText_ok _ (by omega)) ?_); simp (disch := omega) only [go_sem, hE, hH, e0]) | refine jn _ ?_ ?_ | (with_reducible first | refine both ?_ ?_ | refine And.intro ?_ ?_) | (refine fin_eq ?_; (try (simp (disch := omega) only [go_sem, hE, hH, e0])); first | done | rfl) | (simp (disch := omega) only [go_sem, hE, hH, e0]) | ((first | apply noMLL_sE | apply pk_sE) <;> (simp only [go_sem, hE, hH, e0]; done)) | (simp only [go_sem, hE, hH, e0]) | fail)
  try try simp (disch := omega) only [go_sem, hE, hH, e0, hpl, e0]
  repeat' (first | (refine both ?_ ?_) | omega | ((first | apply noMLL_sE | apply pk_sE) <;> (simp only [go_sem, hE, hH, e0]; done)) | fail)
  refine ⟨(), ?_⟩
  rw [e2]
  rfl
 ·have hb := h
  simp only [nf] at h
  try simp (disch := omega) only [go_sem, hE, hH, hb]
  have e3 : j = l.length := by first | omega | (rw [mkL_len] at h; omega)
  subst e3
  rw [mkN_all (Nat.le_refl _)]
theorem heldToldS_ok (l : List Told) (k : Int) (h0 : 0 ≤ k) (h1 : k + (cntL (Told.cnt) l : Nat) ≤ 2 ^ 62) : ACall Tryz.prog 68 [.sl false 3 ((mkL (Told.mk2) l k).1.map (Told.row false)), i64 k] (fun r _ => r = i64 (mkL (Told.mk2) l k).2) := by
 refine fi H68 fun E hE hH => ?_; simp only [go_sem] at hE hH; simp only [go_sem, hE, hH, C68]
 refine loopNe l.length (fun j (_ : Unit) => ⟨[(0, .sl false 3 ((mkL (Told.mk2) l k).1.map (Told.row false))), (1, i64 (mkN (Told.mk2) l k j)), (5, i64 j)], []⟩) (fun _ _ => True) () (by simp [mkP_zero, mkN_zero]) trivial ?_
 intro j _ hj _
 have hpl := mkL_len (f := Told.mk2) (k := k) (l := l)
 have hN := mkN_at (f := Told.mk2) (c := Told.cnt) (Told.mk2_cnt) (l := l) (k := k) (j := j)
 have hlen := cntL_len (c := Told.cnt) (l := l) (fun x => by simp only [Told.cnt]; omega)
 try simp only [go_sem, hE, hH, C68_l1]
 first | refine gd_t (fun h => ?_) (fun h => ?_) | refine gd_f (fun h => ?_) (fun h => ?_)
 ·have hb := h
  simp only [nf] at h
  have hlt : j < l.length := by first | exact h | (rw [mkL_len] at h; exact h)
  have hc := psum_cnt (c := Told.cnt) hlt
  have e0 := nth_mkL (f := Told.mk2) (k := k) hlt
  have e2 := mkN_succ (f := Told.mk2) (k := k) hlt
  simp only [Told.mk2] at e0 e2
  simp only [Told.cnt] at hc
  generalize hk : mkN (Told.mk2) l k j = q at *
  try simp (disch := omega) only [go_sem, hE, hH, e0, hb, hpl, e0]
  repeat' (first | ((with_reducible first | refine gd_t ?_ ?_ | refine gd_f ?_ ?_) <;> (intro h; have hb := h; (try simp only [nf] at h); simp (disch := omega) only [go_sem, hE, hH, e0, hb]; (try clear hb))) | ((with_reducible refine And.intro ?_ ?_); · omega) | ((first | refine ok_view ?_ | refine cvA (markText_ok _ (by omega)) ?_); simp (disch := omega) only [go_sem, hE, hH, e0]) | refine jn _ ?_ ?_ | (with_reducible first | refine both ?_ ?_ | refine And.intro ?_ ?_) | (refine fin_eq ?_; (try (simp (disch := omega) only [go_sem, hE, hH, e0])); first | done | rfl) | (simp (disch := omega) only [go_sem, hE, hH, e0]) | ((first | apply noMLL_sE | apply pk_sE) <;> (simp only [go_sem, hE, hH, e0]; done)) | (simp only [go_sem, hE, hH, e0]) | fail)
  try try simp (disch := omega) only [go_sem, hE, hH, e0, hpl, e0]
  repeat' (first | (refine both ?_ ?_) | omega | ((first | apply noMLL_sE | apply pk_sE) <;> (simp only [go_sem, hE, hH, e0]; done)) | fail)
  refine ⟨(), ?_⟩
  rw [e2]
  rfl
 ·have hb := h
  simp only [nf] at h
  try simp (disch := omega) only [go_sem, hE, hH, hb]
  have e3 : j = l.length := by first | omega | (rw [mkL_len] at h; omega)
  subst e3
  rw [mkN_all (Nat.le_refl _)]
theorem heldVerS_ok (l : List Ver) (k : Int) (h0 : 0 ≤ k) (h1 : k + (cntL (Ver.cnt) l : Nat) ≤ 2 ^ 62) : ACall Tryz.prog 119 [.sl false 3 ((mkL (Ver.mk2) l k).1.map (Ver.row false)), i64 k] (fun r _ => r = i64 (mkL (Ver.mk2) l k).2) := by
 refine fi H119 fun E hE hH => ?_; simp only [go_sem] at hE hH; simp only [go_sem, hE, hH, C119]
 refine loopNe l.length (fun j (_ : Unit) => ⟨[(0, .sl false 3 ((mkL (Ver.mk2) l k).1.map (Ver.row false))), (1, i64 (mkN (Ver.mk2) l k j)), (5, i64 j)], []⟩) (fun _ _ => True) () (by simp [mkP_zero, mkN_zero]) trivial ?_
 intro j _ hj _
 have hpl := mkL_len (f := Ver.mk2) (k := k) (l := l)
 have hN := mkN_at (f := Ver.mk2) (c := Ver.cnt) (Ver.mk2_cnt) (l := l) (k := k) (j := j)
 have hlen := cntL_len (c := Ver.cnt) (l := l) (fun x => by simp only [Ver.cnt]; omega)
 try simp only [go_sem, hE, hH, C119_l1]
 first | refine gd_t (fun h => ?_) (fun h => ?_) | refine gd_f (fun h => ?_) (fun h => ?_)
 ·have hb := h
  simp only [nf] at h
  have hlt : j < l.length := by first | exact h | (rw [mkL_len] at h; exact h)
  have hc := psum_cnt (c := Ver.cnt) hlt
  have e0 := nth_mkL (f := Ver.mk2) (k := k) hlt
  have e2 := mkN_succ (f := Ver.mk2) (k := k) hlt
  simp only [Ver.mk2] at e0 e2
  simp only [Ver.cnt] at hc
  generalize hk : mkN (Ver.mk2) l k j = q at *
  try simp (disch := omega) only [go_sem, hE, hH, e0, hb, hpl, e0]
  repeat' (first | ((with_reducible first | refine gd_t ?_ ?_ | refine gd_f ?_ ?_) <;> (intro h; have hb := h; (try simp only [nf] at h); simp (disch := omega) only [go_sem, hE, hH, e0, hb]; (try clear hb))) | ((with_reducible refine And.intro ?_ ?_); · omega) | ((first | refine ok_view ?_ | refine cvA (markText_ok _ (by omega)) ?_); simp (disch := omega) only [go_sem, hE, hH, e0]) | refine jn _ ?_ ?_ | (with_reducible first | refine both ?_ ?_ | refine And.intro ?_ ?_) | (refine fin_eq ?_; (try (simp (disch := omega) only [go_sem, hE, hH, e0])); first | done | rfl) | (simp (disch := omega) only [go_sem, hE, hH, e0]) | ((first | apply noMLL_sE | apply pk_sE) <;> (simp only [go_sem, hE, hH, e0]; done)) | (simp only [go_sem, hE, hH, e0]) | fail)
  try try simp (disch := omega) only [go_sem, hE, hH, e0, hpl, e0]
  repeat' (first | (refine both ?_ ?_) | omega | ((first | apply noMLL_sE | apply pk_sE) <;> (simp only [go_sem, hE, hH, e0]; done)) | fail)
  refine ⟨(), ?_⟩
  rw [e2]
  rfl
 ·have hb := h
  simp only [nf] at h
  try simp (disch := omega) only [go_sem, hE, hH, hb]
  have e3 : j = l.length := by first | omega | (rw [mkL_len] at h; omega)
  subst e3
  rw [mkN_all (Nat.le_refl _)]
theorem heldWriteS_ok (l : List Write) (k : Int) (h0 : 0 ≤ k) (h1 : k + (cntL (Write.cnt) l : Nat) ≤ 2 ^ 62) : ACall Tryz.prog 121 [.sl false 3 ((mkL (Write.mk2) l k).1.map (Write.row false)), i64 k] (fun r _ => r = i64 (mkL (Write.mk2) l k).2) := by
 refine fi H121 fun E hE hH => ?_; simp only [go_sem] at hE hH; simp only [go_sem, hE, hH, C121]
 refine loopNe l.length (fun j (_ : Unit) => ⟨[(0, .sl false 3 ((mkL (Write.mk2) l k).1.map (Write.row false))), (1, i64 (mkN (Write.mk2) l k j)), (5, i64 j)], []⟩) (fun _ _ => True) () (by simp [mkP_zero, mkN_zero]) trivial ?_
 intro j _ hj _
 have hpl := mkL_len (f := Write.mk2) (k := k) (l := l)
 have hN := mkN_at (f := Write.mk2) (c := Write.cnt) (Write.mk2_cnt) (l := l) (k := k) (j := j)
 have hlen := cntL_len (c := Write.cnt) (l := l) (fun x => by simp only [Write.cnt]; omega)
 try simp only [go_sem, hE, hH, C121_l1]
 first | refine gd_t (fun h => ?_) (fun h => ?_) | refine gd_f (fun h => ?_) (fun h => ?_)
 ·have hb := h
  simp only [nf] at h
  have hlt : j < l.length := by first | exact h | (rw [mkL_len] at h; exact h)
  have hc := psum_cnt (c := Write.cnt) hlt
  have e0 := nth_mkL (f := Write.mk2) (k := k) hlt
  have e2 := mkN_succ (f := Write.mk2) (k := k) hlt
  simp only [Write.mk2] at e0 e2
  simp only [Write.cnt] at hc
  generalize hk : mkN (Write.mk2) l k j = q at *
  try simp (disch := omega) only [go_sem, hE, hH, e0, hb, hpl, e0]
  repeat' (first | ((with_reducible first | refine gd_t ?_ ?_ | refine gd_f ?_ ?_) <;> (intro h; have hb := h; (try simp only [nf] at h); simp (disch := omega) only [go_sem, hE, hH, e0, hb]; (try clear hb))) | ((with_reducible refine And.intro ?_ ?_); · omega) | ((first | refine ok_view ?_ | refine cvA (markText_ok _ (by omega)) ?_); simp (disch := omega) only [go_sem, hE, hH, e0]) | refine jn _ ?_ ?_ | (with_reducible first | refine both ?_ ?_ | refine And.intro ?_ ?_) | (refine fin_eq ?_; (try (simp (disch := omega) only [go_sem, hE, hH, e0])); first | done | rfl) | (simp (disch := omega) only [go_sem, hE, hH, e0]) | ((first | apply noMLL_sE | apply pk_sE) <;> (simp only [go_sem, hE, hH, e0]; done)) | (simp only [go_sem, hE, hH, e0]) | fail)
  try try simp (disch := omega) only [go_sem, hE, hH, e0, hpl, e0]
  repeat' (first | (refine both ?_ ?_) | omega | ((first | apply noMLL_sE | apply pk_sE) <;> (simp only [go_sem, hE, hH, e0]; done)) | fail)
  refine ⟨(), ?_⟩
  rw [e2]
  rfl
 ·have hb := h
  simp only [nf] at h
  try simp (disch := omega) only [go_sem, hE, hH, hb]
  have e3 : j = l.length := by first | omega | (rw [mkL_len] at h; omega)
  subst e3
  rw [mkN_all (Nat.le_refl _)]
theorem heldCellS_ok (l : List Cell) (k : Int) (h0 : 0 ≤ k) (h1 : k + (cntL (Cell.cnt) l : Nat) ≤ 2 ^ 62) : ACall Tryz.prog 66 [.sl false 2 ((mkL (Cell.mk2) l k).1.map (Cell.row false)), i64 k] (fun r _ => r = i64 (mkL (Cell.mk2) l k).2) := by
 refine fi H66 fun E hE hH => ?_; simp only [go_sem] at hE hH; simp only [go_sem, hE, hH, C66]
 refine loopNe l.length (fun j (_ : Unit) => ⟨[(0, .sl false 2 ((mkL (Cell.mk2) l k).1.map (Cell.row false))), (1, i64 (mkN (Cell.mk2) l k j)), (5, i64 j)], []⟩) (fun _ _ => True) () (by simp [mkP_zero, mkN_zero]) trivial ?_
 intro j _ hj _
 have hpl := mkL_len (f := Cell.mk2) (k := k) (l := l)
 have hN := mkN_at (f := Cell.mk2) (c := Cell.cnt) (Cell.mk2_cnt) (l := l) (k := k) (j := j)
 have hlen := cntL_len (c := Cell.cnt) (l := l) (fun x => by simp only [Cell.cnt]; omega)
 try simp only [go_sem, hE, hH, C66_l1]
 first | refine gd_t (fun h => ?_) (fun h => ?_) | refine gd_f (fun h => ?_) (fun h => ?_)
 ·have hb := h
  simp only [nf] at h
  have hlt : j < l.length := by first | exact h | (rw [mkL_len] at h; exact h)
  have hc := psum_cnt (c := Cell.cnt) hlt
  have e0 := nth_mkL (f := Cell.mk2) (k := k) hlt
  have e2 := mkN_succ (f := Cell.mk2) (k := k) hlt
  simp only [Cell.mk2] at e0 e2
  simp only [Cell.cnt] at hc
  generalize hk : mkN (Cell.mk2) l k j = q at *
  have m_Vers := mkN_cnt (f := Ver.mk2) (c := Ver.cnt) (Ver.mk2_cnt) (l := (nth l j).Vers) (k := (q + 1))
  try simp (disch := omega) only [go_sem, hE, hH, e0, hb, hpl, e0]
  repeat' (first | ((with_reducible first | refine gd_t ?_ ?_ | refine gd_f ?_ ?_) <;> (intro h; have hb := h; (try simp only [nf] at h); simp (disch := omega) only [go_sem, hE, hH, e0, hb]; (try clear hb))) | ((with_reducible refine And.intro ?_ ?_); · omega) | ((first | refine ok_view ?_ | refine cvA (markText_ok _ (by omega)) ?_ | refine cvA (heldVerS_ok ((nth l j).Vers) ((q + 1)) (by omega) (by omega)) ?_); simp (disch := omega) only [go_sem, hE, hH, e0]) | refine jn _ ?_ ?_ | (with_reducible first | refine both ?_ ?_ | refine And.intro ?_ ?_) | (refine fin_eq ?_; (try (simp (disch := omega) only [go_sem, hE, hH, e0])); first | done | rfl) | (simp (disch := omega) only [go_sem, hE, hH, e0]) | ((first | apply noMLL_sE | apply pk_sE) <;> (simp only [go_sem, hE, hH, e0]; done)) | (simp only [go_sem, hE, hH, e0]) | fail)
  try try simp (disch := omega) only [go_sem, hE, hH, e0, hpl, e0]
  repeat' (first | (refine both ?_ ?_) | omega | ((first | apply noMLL_sE | apply pk_sE) <;> (simp only [go_sem, hE, hH, e0]; done)) | fail)
  refine ⟨(), ?_⟩
  rw [e2]
  rfl
 ·have hb := h
  simp only [nf] at h
  try simp (disch := omega) only [go_sem, hE, hH, hb]
  have e3 : j = l.length := by first | omega | (rw [mkL_len] at h; omega)
  subst e3
  rw [mkN_all (Nat.le_refl _)]
theorem heldHeldS_ok (l : List Held) (k : Int) (h0 : 0 ≤ k) (h1 : k + (cntL (Held.cnt) l : Nat) ≤ 2 ^ 62) : ACall Tryz.prog 67 [.sl false 5 ((mkL (Held.mk2) l k).1.map (Held.row false)), i64 k] (fun r _ => r = i64 (mkL (Held.mk2) l k).2) := by
 refine fi H67 fun E hE hH => ?_; simp only [go_sem] at hE hH; simp only [go_sem, hE, hH, C67]
 refine loopNe l.length (fun j (_ : Unit) => ⟨[(0, .sl false 5 ((mkL (Held.mk2) l k).1.map (Held.row false))), (1, i64 (mkN (Held.mk2) l k j)), (5, i64 j)], []⟩) (fun _ _ => True) () (by simp [mkP_zero, mkN_zero]) trivial ?_
 intro j _ hj _
 have hpl := mkL_len (f := Held.mk2) (k := k) (l := l)
 have hN := mkN_at (f := Held.mk2) (c := Held.cnt) (Held.mk2_cnt) (l := l) (k := k) (j := j)
 have hlen := cntL_len (c := Held.cnt) (l := l) (fun x => by simp only [Held.cnt]; omega)
 try simp only [go_sem, hE, hH, C67_l1]
 first | refine gd_t (fun h => ?_) (fun h => ?_) | refine gd_f (fun h => ?_) (fun h => ?_)
 ·have hb := h
  simp only [nf] at h
  have hlt : j < l.length := by first | exact h | (rw [mkL_len] at h; exact h)
  have hc := psum_cnt (c := Held.cnt) hlt
  have e0 := nth_mkL (f := Held.mk2) (k := k) hlt
  have e2 := mkN_succ (f := Held.mk2) (k := k) hlt
  simp only [Held.mk2] at e0 e2
  simp only [Held.cnt] at hc
  generalize hk : mkN (Held.mk2) l k j = q at *
  have m_Reads := mkN_cnt (f := mkS) (c := fun _ => 1) (fun _ _ => rfl) (l := (nth l j).Reads) (k := (((q + 1) + 1) + 1))
  have m_Writes := mkN_cnt (f := Write.mk2) (c := Write.cnt) (Write.mk2_cnt) (l := (nth l j).Writes) (k := (mkL (mkS) (nth l j).Reads (((q + 1) + 1) + 1)).2)
  try simp (disch := omega) only [go_sem, hE, hH, e0, hb, hpl, e0]
  repeat' (first | ((with_reducible first | refine gd_t ?_ ?_ | refine gd_f ?_ ?_) <;> (intro h; have hb := h; (try simp only [nf] at h); simp (disch := omega) only [go_sem, hE, hH, e0, hb]; (try clear hb))) | ((with_reducible refine And.intro ?_ ?_); · omega) | ((first | refine ok_view ?_ | refine cvA (markText_ok _ (by omega)) ?_ | refine cvA (heldStringS_ok ((nth l j).Reads) ((((q + 1) + 1) + 1)) (by omega) (by omega)) ?_ | refine cvA (heldWriteS_ok ((nth l j).Writes) ((mkL (mkS) (nth l j).Reads (((q + 1) + 1) + 1)).2) (by omega) (by omega)) ?_); simp (disch := omega) only [go_sem, hE, hH, e0]) | refine jn _ ?_ ?_ | (with_reducible first | refine both ?_ ?_ | refine And.intro ?_ ?_) | (refine fin_eq ?_; (try (simp (disch := omega) only [go_sem, hE, hH, e0])); first | done | rfl) | (simp (disch := omega) only [go_sem, hE, hH, e0]) | ((first | apply noMLL_sE | apply pk_sE) <;> (simp only [go_sem, hE, hH, e0]; done)) | (simp only [go_sem, hE, hH, e0]) | fail)
  try try simp (disch := omega) only [go_sem, hE, hH, e0, hpl, e0]
  repeat' (first | (refine both ?_ ?_) | omega | ((first | apply noMLL_sE | apply pk_sE) <;> (simp only [go_sem, hE, hH, e0]; done)) | fail)
  refine ⟨(), ?_⟩
  rw [e2]
  rfl
 ·have hb := h
  simp only [nf] at h
  try simp (disch := omega) only [go_sem, hE, hH, hb]
  have e3 : j = l.length := by first | omega | (rw [mkL_len] at h; omega)
  subst e3
  rw [mkN_all (Nat.le_refl _)]
theorem heldState_ok (x : State) (k : Int) (h0 : 0 ≤ k) (h1 : k + (x.cntv : Nat) ≤ 2 ^ 62) : ACall Tryz.prog 25 [.agg (State.row false (x.mkv k).1), i64 k] (fun r _ => r = i64 (x.mkv k).2) := by
 simp only [State.cntv] at h1
 have m_Cells := mkN_cnt (f := Cell.mk2) (c := Cell.cnt) (Cell.mk2_cnt) (l := x.Cells) (k := k)
 have m_Held := mkN_cnt (f := Held.mk2) (c := Held.cnt) (Held.mk2_cnt) (l := x.Held) (k := (mkL (Cell.mk2) x.Cells k).2)
 have m_Told := mkN_cnt (f := Told.mk2) (c := Told.cnt) (Told.mk2_cnt) (l := x.Told) (k := (mkL (Held.mk2) x.Held (mkL (Cell.mk2) x.Cells k).2).2)
 simp only [State.mkv]
 refine fi H25 fun E hE hH => ?_; simp only [go_sem] at hE hH; simp only [go_sem, hE, hH, T1_x]
 try simp (disch := omega) only [go_sem, hE, hH]
 repeat' (first | ((with_reducible first | refine gd_t ?_ ?_ | refine gd_f ?_ ?_) <;> (intro h; have hb := h; (try simp only [nf] at h); refine sb ?_; (try clear hb))) | ((with_reducible refine And.intro ?_ ?_); · omega) | ((first | refine ok_view ?_ | refine cvA (heldCellS_ok x.Cells k (by omega) (by omega)) ?_ | refine cvA (heldHeldS_ok x.Held (mkL (Cell.mk2) x.Cells k).2 (by omega) (by omega)) ?_ | refine cvA (heldToldS_ok x.Told (mkL (Held.mk2) x.Held (mkL (Cell.mk2) x.Cells k).2).2 (by omega) (by omega)) ?_); refine st ?_) | refine jn _ ?_ ?_ | (with_reducible first | refine both ?_ ?_ | refine And.intro ?_ ?_) | exact fe | refine st ?_ | exact fm | refine s1 ?_ | (with_reducible exact True.intro) | fail)
 all_goals first | omega | (simp [mkL_len]; done) | rfl
section
variable {α : Type} [Inhabited α] {κ : Type} [DecidableEq κ]
theorem cntN_mono {p : Nat → Bool} {n : Nat} : ∀ {m : Nat}, n ≤ m → cntN p n ≤ cntN p m
 | 0, h => by rw [show n = 0 by omega]; exact Nat.le_refl _
 | m + 1, h => by
  by_cases e : n = m + 1
  ·rw [e]; exact Nat.le_refl _
  ·have := cntN_mono (p := p) (n := n) (m := m) (by omega)
   simp only [cntN]
   omega
def fxI (lt : κ → κ → Bool) (f : α → κ) (l : List α) (k : κ) : Nat := cntN (fun i => lt (f (nth l i)) k) l.length
def fxF (f : α → κ) (l : List α) (k : κ) : Bool := l.any fun x => decide (f x = k)
def srtX (lt : κ → κ → Bool) (f : α → κ) (l : List α) : Prop := ∀ i j, i < j → j < l.length → lt (f (nth l i)) (f (nth l j)) = true
structure Ord (lt : κ → κ → Bool) (cmp : κ → κ → Int) : Prop where
 neg : ∀ a b, cmp a b < 0 ↔ lt a b = true
 zero : ∀ a b, cmp a b = 0 ↔ a = b
 irr : ∀ a, lt a a = false
 trans : ∀ a b c, lt a b = true → lt b c = true → lt a c = true
 total : ∀ a b, lt a b = true ∨ a = b ∨ lt b a = true
variable {lt : κ → κ → Bool} {cmp : κ → κ → Int} {f : α → κ} {l : List α} {k : κ}
theorem Ord.asym (O : Ord lt cmp) {a b : κ} (h : lt a b = true) : lt b a = false := by
 cases h2 : lt b a
 ·rfl
 ·have := O.trans _ _ _ h h2; rw [O.irr] at this; cases this
theorem Ord.ge (O : Ord lt cmp) {a b : κ} (h : lt a b = false) : a = b ∨ lt b a = true := by
 rcases O.total a b with h1 | h1 | h1
 ·rw [h] at h1; cases h1
 ·exact .inl h1
 ·exact .inr h1
theorem fxI_le : fxI lt f l k ≤ l.length := cntN_le
theorem fxI_lo (O : Ord lt cmp) (hs : srtX lt f l) {i : Nat} (hi : i < l.length) : i < fxI lt f l k ↔ lt (f (nth l i)) k = true := by
 constructor
 ·intro h
  by_cases hb : lt (f (nth l i)) k = true
  ·exact hb
  ·exfalso
   have : fxI lt f l k ≤ i := by
    unfold fxI
    rw [cntN_none (Nat.le_of_lt hi) (fun j a b => ?_)]
    ·exact cntN_le
    ·by_cases e : j = i
     ·rw [e]; simpa using hb
     ·cases h2 : lt (f (nth l j)) k
      ·rfl
      ·exact absurd (O.trans _ _ _ (hs i j (by omega) b) h2) hb
   omega
 ·intro h
  unfold fxI
  have h1 := cntN_all (p := fun i => lt (f (nth l i)) k) (n := i + 1) (allN_iff.2 fun j hj => by
   by_cases e : j = i
   ·rw [e]; exact h
   ·exact O.trans _ _ _ (hs j i (by omega) hi) h)
  have h2 := cntN_mono (p := fun i => lt (f (nth l i)) k) (n := i + 1) (m := l.length) (by omega)
  omega
theorem fxF_at (O : Ord lt cmp) (hs : srtX lt f l) {i : Nat} (hi : i < l.length) (h : f (nth l i) = k) : fxI lt f l k = i := by
 have h1 : ¬ i < fxI lt f l k := by rw [fxI_lo O hs hi, h, O.irr]; simp
 by_cases h2 : fxI lt f l k < i
 ·have h3 := (fxI_lo (k := k) O hs (show fxI lt f l k < l.length by omega)).2 (by have := hs _ _ h2 hi; rwa [h] at this)
  omega
 ·omega
theorem fxF_iff : fxF f l k = true ↔ ∃ i, i < l.length ∧ f (nth l i) = k := by
 unfold fxF
 rw [List.any_eq_true]
 constructor
 ·rintro ⟨x, hx, h1⟩
  obtain ⟨i, hi, rfl⟩ := List.getElem_of_mem hx
  exact ⟨i, hi, by rw [nth_lt hi]; simpa using h1⟩
 ·rintro ⟨i, hi, h1⟩; exact ⟨_, nth_mem hi, by simpa using h1⟩
theorem fxF_here (O : Ord lt cmp) (hs : srtX lt f l) (h : fxF f l k = true) : fxI lt f l k < l.length ∧ f (nth l (fxI lt f l k)) = k := by
 obtain ⟨i, hi, h1⟩ := fxF_iff.1 h
 rw [fxF_at O hs hi h1]; exact ⟨hi, h1⟩
theorem fx_eq (O : Ord lt cmp) (hs : srtX lt f l) (k : κ) : bsI (fun x => cmp (f x) k) l = fxI lt f l k ∧ bsF (fun x => cmp (f x) k) l = fxF f l k := by
 have e1 : bsI (fun x => cmp (f x) k) l = fxI lt f l k := by
  unfold bsI fxI
  congr 1; funext i
  rw [Bool.eq_iff_iff, decide_eq_true_iff, O.neg]
 refine ⟨e1, ?_⟩
 rw [Bool.eq_iff_iff]
 unfold bsF
 rw [e1, Bool.and_eq_true, decide_eq_true_iff, decide_eq_true_iff, O.zero]
 constructor
 ·rintro ⟨h1, h2⟩; exact fxF_iff.2 ⟨_, h1, h2⟩
 ·intro h; exact fxF_here O hs h
theorem fx_mono (O : Ord lt cmp) (hs : srtX lt f l) (i j : Nat) (h1 : i < j) (h2 : j < l.length) (h3 : 0 ≤ cmp (f (nth l i)) k) : 0 ≤ cmp (f (nth l j)) k := by
 rw [← Int.not_lt, O.neg] at h3 ⊢
 exact fun h => h3 (O.trans _ _ _ (hs i j h1 h2) h)
def putAt (l : List α) (i : Nat) (x : α) : List α := l.take i ++ x :: l.drop i
theorem putAt_len {i : Nat} {x : α} (hi : i ≤ l.length) : (putAt l i x).length = l.length + 1 := by
 simp [putAt]; omega
theorem putAt_nth {i j : Nat} {x : α} (hi : i ≤ l.length) : nth (putAt l i x) j = if j < i then nth l j else if j = i then x else nth l (j - 1) := by
 unfold putAt nth
 simp only [List.getD, List.getElem?_append, List.length_take, Nat.min_eq_left hi]
 split
 ·rename_i h; rw [List.getElem?_take_of_lt h]
 ·rename_i h
  by_cases e : j = i
  ·subst e; simp
  ·rw [if_neg e, List.getElem?_cons, if_neg (by omega), List.getElem?_drop]
   congr 2; omega
theorem putAt_srt (O : Ord lt cmp) (hs : srtX lt f l) {x : α} (h : fxF f l (f x) = false) : srtX lt f (putAt l (fxI lt f l (f x)) x) := by
 intro i j h1 h2
 have hle := fxI_le (lt := lt) (f := f) (l := l) (k := f x)
 rw [putAt_len hle] at h2
 rw [putAt_nth hle, putAt_nth hle]
 have lo : ∀ i, i < fxI lt f l (f x) → lt (f (nth l i)) (f x) = true := fun i hi => (fxI_lo O hs (by omega)).1 hi
 have hi : ∀ i, fxI lt f l (f x) ≤ i → i < l.length → lt (f x) (f (nth l i)) = true := by
  intro i h3 h4
  have h5 : lt (f (nth l i)) (f x) = false := by
   cases h6 : lt (f (nth l i)) (f x)
   ·rfl
   ·have := (fxI_lo O hs h4).2 h6; omega
  rcases O.ge h5 with h6 | h6
  ·have : fxF f l (f x) = true := fxF_iff.2 ⟨i, h4, h6⟩
   rw [h] at this; cases this
  ·exact h6
 by_cases a : j < fxI lt f l (f x)
 ·rw [if_pos (by omega), if_pos a]; exact hs i j h1 (by omega)
 ·rw [if_neg a]
  by_cases b : j = fxI lt f l (f x)
  ·rw [if_pos b, if_pos (by omega)]; exact lo i (by omega)
  ·rw [if_neg b]
   by_cases c : i < fxI lt f l (f x)
   ·rw [if_pos c]; exact hs i (j - 1) (by omega) (by omega)
   ·rw [if_neg c]
    by_cases d : i = fxI lt f l (f x)
    ·rw [if_pos d]; exact hi (j - 1) (by omega) (by omega)
    ·rw [if_neg d]; exact hs (i - 1) (j - 1) (by omega) (by omega)
def dnI (p : α → Bool) (l : List α) : Nat → Nat
 | 0 => 0
 | n + 1 => if p (nth l n) then dnI p l n else n + 1
theorem dnI_at {p : α → Bool} {j : Nat} : ∀ {n : Nat}, j ≤ n → (∀ i, j ≤ i → i < n → p (nth l i) = true) → (j = 0 ∨ p (nth l (j - 1)) = false) → dnI p l n = j
 | 0, h, _, _ => by simp [dnI]; omega
 | n + 1, h, h1, h2 => by
  unfold dnI
  by_cases e : j = n + 1
  ·subst e
   rcases h2 with h2 | h2
   ·omega
   ·rw [show n + 1 - 1 = n by omega] at h2; rw [h2]; rfl
  ·rw [h1 n (by omega) (by omega), if_pos rfl]
   exact dnI_at (by omega) (fun i a b => h1 i a (by omega)) h2
theorem dnI_eq (O : Ord lt cmp) (hs : srtX lt f l) {x : α} (h : fxF f l (f x) = false) : dnI (fun y => lt (f x) (f y)) l l.length = fxI lt f l (f x) := by
 refine dnI_at fxI_le (fun i h3 h4 => ?_) ?_
 ·have h5 : lt (f (nth l i)) (f x) = false := by
   cases h6 : lt (f (nth l i)) (f x)
   ·rfl
   ·have := (fxI_lo O hs h4).2 h6; omega
  rcases O.ge h5 with h6 | h6
  ·have : fxF f l (f x) = true := fxF_iff.2 ⟨i, h4, h6⟩
   rw [h] at this; cases this
  ·exact h6
 ·by_cases e : fxI lt f l (f x) = 0
  ·exact .inl e
  ·exact .inr (O.asym ((fxI_lo O hs (by have := fxI_le (lt := lt) (f := f) (l := l) (k := f x); omega)).1 (by omega)))
def cutAt (l : List α) (i : Nat) : List α := l.take i ++ l.drop (i + 1)
theorem cutAt_filter (O : Ord lt cmp) (hs : srtX lt f l) {i : Nat} (hi : i < l.length) : cutAt l i = l.filter fun x => !decide (f x = f (nth l i)) := by
 have e : l = l.take i ++ nth l i :: l.drop (i + 1) := by
  rw [nth_lt hi]; simp
 have h1 : (l.take i).filter (fun x => !decide (f x = f (nth l i))) = l.take i := by
  rw [List.filter_eq_self]
  intro x hx
  obtain ⟨j, hj, rfl⟩ := List.getElem_of_mem hx
  simp only [List.length_take] at hj
  rw [List.getElem_take, ← nth_lt (by omega)]
  have := hs j i (by omega) hi
  simp only [Bool.not_eq_true', decide_eq_false_iff_not]
  intro e; rw [e, O.irr] at this; cases this
 have h2 : (l.drop (i + 1)).filter (fun x => !decide (f x = f (nth l i))) = l.drop (i + 1) := by
  rw [List.filter_eq_self]
  intro x hx
  obtain ⟨j, hj, rfl⟩ := List.getElem_of_mem hx
  simp only [List.length_drop] at hj
  rw [List.getElem_drop, ← nth_lt (by omega)]
  have := hs i (i + 1 + j) (by omega) (by omega)
  simp only [Bool.not_eq_true', decide_eq_false_iff_not]
  intro e; rw [e, O.irr] at this; cases this
 have h3 : (l.take i ++ nth l i :: l.drop (i + 1)).filter (fun x => !decide (f x = f (nth l i))) = cutAt l i := by
  rw [List.filter_append, List.filter_cons, h1, h2]
  simp [cutAt]
 rw [← e] at h3
 exact h3.symm
theorem cutAt_len {i : Nat} (hi : i < l.length) : (cutAt l i).length + 1 = l.length := by simp [cutAt]; omega
theorem cutAt_srt (hs : srtX lt f l) {i : Nat} (hi : i < l.length) : srtX lt f (cutAt l i) := by
 have hn : ∀ j, nth (cutAt l i) j = if j < i then nth l j else nth l (j + 1) := by
  intro j
  unfold cutAt nth
  simp only [List.getD, List.getElem?_append, List.length_take, Nat.min_eq_left (Nat.le_of_lt hi)]
  split
  ·rename_i h; rw [List.getElem?_take_of_lt h]
  ·rw [List.getElem?_drop]; congr 2; omega
 intro a b h1 h2
 have := cutAt_len hi
 rw [hn, hn]
 by_cases c : b < i
 ·rw [if_pos (by omega), if_pos c]; exact hs a b h1 (by omega)
 ·rw [if_neg c]
  by_cases d : a < i
  ·rw [if_pos d]; exact hs a (b + 1) (by omega) (by omega)
  ·rw [if_neg d]; exact hs (a + 1) (b + 1) (by omega) (by omega)
theorem mem_putAt {i : Nat} {x y : α} : y ∈ putAt l i x ↔ y = x ∨ y ∈ l := by
 unfold putAt
 conv => rhs; rw [← List.take_append_drop i l]
 simp only [List.mem_append, List.mem_cons]
 constructor
 ·rintro (h | h | h) <;> simp [h]
 ·rintro (h | h | h) <;> simp [h]
theorem mem_cutAt {i : Nat} {y : α} (h : y ∈ cutAt l i) : y ∈ l := by
 unfold cutAt at h
 rcases List.mem_append.1 h with h | h
 ·exact List.mem_of_mem_take h
 ·exact List.mem_of_mem_drop h
end
def ltI (a b : Int) : Bool := decide (a < b)
theorem BinarySearchFunc_Cell_ok (l : List Cell) (key : ByteArray) (f : Nat) (caps : List T) (c : Cell → Int) (hent : entB Tryz.prog f = true) (hcap : caps.all T.cap = true) (hl : l.length ≤ 2 ^ 60) (hm : ∀ i j, i < j → j < l.length → 0 ≤ c (nth l i) → 0 ≤ c (nth l j)) (hp : ∀ x, x ∈ l → ACall Tryz.prog f ([.agg (Cell.row false x), str key] ++ caps) (fun r _ => r = i64 (c x))) :
  ACall Tryz.prog 165 [.sl false 2 (l.map (Cell.row false)), str key, .fn f caps] (fun r _ => r = .tup [i64 (bsI c l), bl (bsF c l)]) := by
 refine fn_in (hqA H165) (hqB H165) ⟨by simp only [go_sem, caps_bare hcap, caps_pk hcap, caps_noM hcap, caps_lt hcap, caps_ids hcap], fun E hE hH => ?_⟩; simp only [go_sem, caps_bare hcap, caps_pk hcap, caps_noM hcap, caps_lt hcap, caps_ids hcap] at hE hH; simp only [go_sem, hE, hH, caps_bare hcap, caps_pk hcap, caps_noM hcap, caps_lt hcap, caps_ids hcap, T11_x]
 refine loopM (fun (x : Nat × Nat) => ⟨[(0, .sl false 2 (l.map (Cell.row false))), (1, str key), (2, .fn f caps), (8, i64 l.length), (9, i64 x.1), (10, i64 x.2)], []⟩) (fun x => x.1 ≤ x.2 ∧ x.2 ≤ l.length ∧ (∀ i, i < x.1 → c (nth l i) < 0) ∧ ∀ i, x.2 ≤ i → i < l.length → 0 ≤ c (nth l i)) (fun x => x.2 - x.1) (0, l.length) ⟨by simp, by simp, by simp, by simp; omega⟩ ?_
 rintro ⟨lo, hi⟩ ⟨i1, i2, i3, i4⟩
 simp only at i1 i2 i3 i4
 try simp only [go_sem, hE, hH, caps_bare hcap, caps_pk hcap, caps_noM hcap, caps_lt hcap, caps_ids hcap, T11_x_l1]
 first | refine gd_t (fun h => ?_) (fun h => ?_) | refine gd_f (fun h => ?_) (fun h => ?_)
 ·have hb := h
  simp only [nf] at h
  have hlt := h; clear h
  have e1 : IntKind.u64.wrap (lo + hi) = lo + hi := wrapU (by omega) (by omega)
  have e2 : Int.fdiv ((lo : Int) + hi) 2 = (((lo + hi) / 2 : Nat) : Int) := by rw [Int.fdiv_eq_ediv_of_nonneg _ (by omega)]; omega
  have hM : (lo + hi) / 2 < l.length := by omega
  try simp (disch := omega) only [go_sem, hE, hH, caps_bare hcap, caps_pk hcap, caps_noM hcap, caps_lt hcap, caps_ids hcap, hb, e1, shr1, e2]
  repeat refine And.intro (by omega) ?_
  refine ok_cfv rfl rfl rfl (hent) (hcap) (hp _ (nth_mem hM)) ?_
  try simp (disch := omega) only [go_sem, hE, hH, caps_bare hcap, caps_pk hcap, caps_noM hcap, caps_lt hcap, caps_ids hcap]
  repeat' (first | ((with_reducible first | refine gd_t ?_ ?_ | refine gd_f ?_ ?_) <;> (intro h; have hb := h; (try simp only [nf] at h); simp (disch := omega) only [go_sem, hE, hH, caps_bare hcap, caps_pk hcap, caps_noM hcap, caps_lt hcap, caps_ids hcap, hb]; (try clear hb))) | ((with_reducible refine And.intro ?_ ?_); · omega) | refine jn _ ?_ ?_ | (with_reducible first | refine both ?_ ?_ | refine And.intro ?_ ?_) | (refine fin_eq ?_; (try (simp (disch := omega) only [go_sem, hE, hH, caps_bare hcap, caps_pk hcap, caps_noM hcap, caps_lt hcap, caps_ids hcap])); first | done | rfl) | (simp (disch := omega) only [go_sem, hE, hH, caps_bare hcap, caps_pk hcap, caps_noM hcap, caps_lt hcap, caps_ids hcap]) | ((first | apply noMLL_sE | apply pk_sE) <;> (simp only [go_sem, hE, hH, caps_bare hcap, caps_pk hcap, caps_noM hcap, caps_lt hcap, caps_ids hcap]; done)) | (simp only [go_sem, hE, hH, caps_bare hcap, caps_pk hcap, caps_noM hcap, caps_lt hcap, caps_ids hcap]) | fail)
  ·refine ⟨((lo + hi) / 2 + 1, hi), rfl, ⟨by simp only; omega, i2, fun i hi' => ?_, i4⟩, by simp only; omega⟩
   simp only at hi'
   by_cases e : i = (lo + hi) / 2
   ·rw [e]; exact h
   ·have := hm i ((lo + hi) / 2) (by omega) hM
    omega
  ·refine ⟨(lo, (lo + hi) / 2), rfl, ⟨by simp only; omega, by simp only; omega, i3, fun i h1 h2 => ?_⟩, by simp only; omega⟩
   simp only at h1
   by_cases e : i = (lo + hi) / 2
   ·rw [e]; exact h
   ·exact hm ((lo + hi) / 2) i (by omega) h2 h
 ·have hb := h
  simp only [nf] at h
  have e0 : hi = lo := by omega
  subst e0
  have e3 := bs_end i2 i3 i4
  try simp (disch := omega) only [go_sem, hE, hH, caps_bare hcap, caps_pk hcap, caps_noM hcap, caps_lt hcap, caps_ids hcap, hb]
  first | refine gd_t (fun h2 => ?_) (fun h2 => ?_) | refine gd_f (fun h2 => ?_) (fun h2 => ?_)
  ·have hb2 := h2
   simp only [nf] at h2
   have hlt : hi < l.length := by omega
   try simp (disch := omega) only [go_sem, hE, hH, caps_bare hcap, caps_pk hcap, caps_noM hcap, caps_lt hcap, caps_ids hcap, hb2]
   repeat refine And.intro (by omega) ?_
   refine ok_cfv rfl rfl rfl (hent) (hcap) (hp _ (nth_mem hlt)) ?_
   try simp (disch := omega) only [go_sem, hE, hH, caps_bare hcap, caps_pk hcap, caps_noM hcap, caps_lt hcap, caps_ids hcap]
   simp [bsF, e3, hlt]
  ·try simp (disch := omega) only [go_sem, hE, hH, caps_bare hcap, caps_pk hcap, caps_noM hcap, caps_lt hcap, caps_ids hcap, h2]
   simp only [nf] at h2
   simp [bsF, e3]
   omega
theorem BinarySearchFunc_Held_ok (l : List Held) (key : Int) (f : Nat) (caps : List T) (c : Held → Int) (hent : entB Tryz.prog f = true) (hcap : caps.all T.cap = true) (hl : l.length ≤ 2 ^ 60) (hm : ∀ i j, i < j → j < l.length → 0 ≤ c (nth l i) → 0 ≤ c (nth l j)) (hp : ∀ x, x ∈ l → ACall Tryz.prog f ([.agg (Held.row false x), i64 key] ++ caps) (fun r _ => r = i64 (c x))) :
  ACall Tryz.prog 190 [.sl false 5 (l.map (Held.row false)), i64 key, .fn f caps] (fun r _ => r = .tup [i64 (bsI c l), bl (bsF c l)]) := by
 refine fn_in (hqA H190) (hqB H190) ⟨by simp only [go_sem, caps_bare hcap, caps_pk hcap, caps_noM hcap, caps_lt hcap, caps_ids hcap], fun E hE hH => ?_⟩; simp only [go_sem, caps_bare hcap, caps_pk hcap, caps_noM hcap, caps_lt hcap, caps_ids hcap] at hE hH; simp only [go_sem, hE, hH, caps_bare hcap, caps_pk hcap, caps_noM hcap, caps_lt hcap, caps_ids hcap, T11_x]
 refine loopM (fun (x : Nat × Nat) => ⟨[(0, .sl false 5 (l.map (Held.row false))), (1, i64 key), (2, .fn f caps), (8, i64 l.length), (9, i64 x.1), (10, i64 x.2)], []⟩) (fun x => x.1 ≤ x.2 ∧ x.2 ≤ l.length ∧ (∀ i, i < x.1 → c (nth l i) < 0) ∧ ∀ i, x.2 ≤ i → i < l.length → 0 ≤ c (nth l i)) (fun x => x.2 - x.1) (0, l.length) ⟨by simp, by simp, by simp, by simp; omega⟩ ?_
 rintro ⟨lo, hi⟩ ⟨i1, i2, i3, i4⟩
 simp only at i1 i2 i3 i4
 try simp only [go_sem, hE, hH, caps_bare hcap, caps_pk hcap, caps_noM hcap, caps_lt hcap, caps_ids hcap, T11_x_l1]
 first | refine gd_t (fun h => ?_) (fun h => ?_) | refine gd_f (fun h => ?_) (fun h => ?_)
 ·have hb := h
  simp only [nf] at h
  have hlt := h; clear h
  have e1 : IntKind.u64.wrap (lo + hi) = lo + hi := wrapU (by omega) (by omega)
  have e2 : Int.fdiv ((lo : Int) + hi) 2 = (((lo + hi) / 2 : Nat) : Int) := by rw [Int.fdiv_eq_ediv_of_nonneg _ (by omega)]; omega
  have hM : (lo + hi) / 2 < l.length := by omega
  try simp (disch := omega) only [go_sem, hE, hH, caps_bare hcap, caps_pk hcap, caps_noM hcap, caps_lt hcap, caps_ids hcap, hb, e1, shr1, e2]
  repeat refine And.intro (by omega) ?_
  refine ok_cfv rfl rfl rfl (hent) (hcap) (hp _ (nth_mem hM)) ?_
  try simp (disch := omega) only [go_sem, hE, hH, caps_bare hcap, caps_pk hcap, caps_noM hcap, caps_lt hcap, caps_ids hcap]
  repeat' (first | ((with_reducible first | refine gd_t ?_ ?_ | refine gd_f ?_ ?_) <;> (intro h; have hb := h; (try simp only [nf] at h); simp (disch := omega) only [go_sem, hE, hH, caps_bare hcap, caps_pk hcap, caps_noM hcap, caps_lt hcap, caps_ids hcap, hb]; (try clear hb))) | ((with_reducible refine And.intro ?_ ?_); · omega) | refine jn _ ?_ ?_ | (with_reducible first | refine both ?_ ?_ | refine And.intro ?_ ?_) | (refine fin_eq ?_; (try (simp (disch := omega) only [go_sem, hE, hH, caps_bare hcap, caps_pk hcap, caps_noM hcap, caps_lt hcap, caps_ids hcap])); first | done | rfl) | (simp (disch := omega) only [go_sem, hE, hH, caps_bare hcap, caps_pk hcap, caps_noM hcap, caps_lt hcap, caps_ids hcap]) | ((first | apply noMLL_sE | apply pk_sE) <;> (simp only [go_sem, hE, hH, caps_bare hcap, caps_pk hcap, caps_noM hcap, caps_lt hcap, caps_ids hcap]; done)) | (simp only [go_sem, hE, hH, caps_bare hcap, caps_pk hcap, caps_noM hcap, caps_lt hcap, caps_ids hcap]) | fail)
  ·refine ⟨((lo + hi) / 2 + 1, hi), rfl, ⟨by simp only; omega, i2, fun i hi' => ?_, i4⟩, by simp only; omega⟩
   simp only at hi'
   by_cases e : i = (lo + hi) / 2
   ·rw [e]; exact h
   ·have := hm i ((lo + hi) / 2) (by omega) hM
    omega
  ·refine ⟨(lo, (lo + hi) / 2), rfl, ⟨by simp only; omega, by simp only; omega, i3, fun i h1 h2 => ?_⟩, by simp only; omega⟩
   simp only at h1
   by_cases e : i = (lo + hi) / 2
   ·rw [e]; exact h
   ·exact hm ((lo + hi) / 2) i (by omega) h2 h
 ·have hb := h
  simp only [nf] at h
  have e0 : hi = lo := by omega
  subst e0
  have e3 := bs_end i2 i3 i4
  try simp (disch := omega) only [go_sem, hE, hH, caps_bare hcap, caps_pk hcap, caps_noM hcap, caps_lt hcap, caps_ids hcap, hb]
  first | refine gd_t (fun h2 => ?_) (fun h2 => ?_) | refine gd_f (fun h2 => ?_) (fun h2 => ?_)
  ·have hb2 := h2
   simp only [nf] at h2
   have hlt : hi < l.length := by omega
   try simp (disch := omega) only [go_sem, hE, hH, caps_bare hcap, caps_pk hcap, caps_noM hcap, caps_lt hcap, caps_ids hcap, hb2]
   repeat refine And.intro (by omega) ?_
   refine ok_cfv rfl rfl rfl (hent) (hcap) (hp _ (nth_mem hlt)) ?_
   try simp (disch := omega) only [go_sem, hE, hH, caps_bare hcap, caps_pk hcap, caps_noM hcap, caps_lt hcap, caps_ids hcap]
   simp [bsF, e3, hlt]
  ·try simp (disch := omega) only [go_sem, hE, hH, caps_bare hcap, caps_pk hcap, caps_noM hcap, caps_lt hcap, caps_ids hcap, h2]
   simp only [nf] at h2
   simp [bsF, e3]
   omega
theorem BinarySearchFunc_Told_ok (l : List Told) (key : Int) (f : Nat) (caps : List T) (c : Told → Int) (hent : entB Tryz.prog f = true) (hcap : caps.all T.cap = true) (hl : l.length ≤ 2 ^ 60) (hm : ∀ i j, i < j → j < l.length → 0 ≤ c (nth l i) → 0 ≤ c (nth l j)) (hp : ∀ x, x ∈ l → ACall Tryz.prog f ([.agg (Told.row false x), i64 key] ++ caps) (fun r _ => r = i64 (c x))) :
  ACall Tryz.prog 196 [.sl false 3 (l.map (Told.row false)), i64 key, .fn f caps] (fun r _ => r = .tup [i64 (bsI c l), bl (bsF c l)]) := by
 refine fn_in (hqA H196) (hqB H196) ⟨by simp only [go_sem, caps_bare hcap, caps_pk hcap, caps_noM hcap, caps_lt hcap, caps_ids hcap], fun E hE hH => ?_⟩; simp only [go_sem, caps_bare hcap, caps_pk hcap, caps_noM hcap, caps_lt hcap, caps_ids hcap] at hE hH; simp only [go_sem, hE, hH, caps_bare hcap, caps_pk hcap, caps_noM hcap, caps_lt hcap, caps_ids hcap, T16_x]
 refine loopM (fun (x : Nat × Nat) => ⟨[(0, .sl false 3 (l.map (Told.row false))), (1, i64 key), (2, .fn f caps), (8, i64 l.length), (9, i64 x.1), (10, i64 x.2)], []⟩) (fun x => x.1 ≤ x.2 ∧ x.2 ≤ l.length ∧ (∀ i, i < x.1 → c (nth l i) < 0) ∧ ∀ i, x.2 ≤ i → i < l.length → 0 ≤ c (nth l i)) (fun x => x.2 - x.1) (0, l.length) ⟨by simp, by simp, by simp, by simp; omega⟩ ?_
 rintro ⟨lo, hi⟩ ⟨i1, i2, i3, i4⟩
 simp only at i1 i2 i3 i4
 try simp only [go_sem, hE, hH, caps_bare hcap, caps_pk hcap, caps_noM hcap, caps_lt hcap, caps_ids hcap, T16_x_l1]
 first | refine gd_t (fun h => ?_) (fun h => ?_) | refine gd_f (fun h => ?_) (fun h => ?_)
 ·have hb := h
  simp only [nf] at h
  have hlt := h; clear h
  have e1 : IntKind.u64.wrap (lo + hi) = lo + hi := wrapU (by omega) (by omega)
  have e2 : Int.fdiv ((lo : Int) + hi) 2 = (((lo + hi) / 2 : Nat) : Int) := by rw [Int.fdiv_eq_ediv_of_nonneg _ (by omega)]; omega
  have hM : (lo + hi) / 2 < l.length := by omega
  try simp (disch := omega) only [go_sem, hE, hH, caps_bare hcap, caps_pk hcap, caps_noM hcap, caps_lt hcap, caps_ids hcap, hb, e1, shr1, e2]
  repeat refine And.intro (by omega) ?_
  refine ok_cfv rfl rfl rfl (hent) (hcap) (hp _ (nth_mem hM)) ?_
  try simp (disch := omega) only [go_sem, hE, hH, caps_bare hcap, caps_pk hcap, caps_noM hcap, caps_lt hcap, caps_ids hcap]
  repeat' (first | ((with_reducible first | refine gd_t ?_ ?_ | refine gd_f ?_ ?_) <;> (intro h; have hb := h; (try simp only [nf] at h); simp (disch := omega) only [go_sem, hE, hH, caps_bare hcap, caps_pk hcap, caps_noM hcap, caps_lt hcap, caps_ids hcap, hb]; (try clear hb))) | ((with_reducible refine And.intro ?_ ?_); · omega) | refine jn _ ?_ ?_ | (with_reducible first | refine both ?_ ?_ | refine And.intro ?_ ?_) | (refine fin_eq ?_; (try (simp (disch := omega) only [go_sem, hE, hH, caps_bare hcap, caps_pk hcap, caps_noM hcap, caps_lt hcap, caps_ids hcap])); first | done | rfl) | (simp (disch := omega) only [go_sem, hE, hH, caps_bare hcap, caps_pk hcap, caps_noM hcap, caps_lt hcap, caps_ids hcap]) | ((first | apply noMLL_sE | apply pk_sE) <;> (simp only [go_sem, hE, hH, caps_bare hcap, caps_pk hcap, caps_noM hcap, caps_lt hcap, caps_ids hcap]; done)) | (simp only [go_sem, hE, hH, caps_bare hcap, caps_pk hcap, caps_noM hcap, caps_lt hcap, caps_ids hcap]) | fail)
  ·refine ⟨((lo + hi) / 2 + 1, hi), rfl, ⟨by simp only; omega, i2, fun i hi' => ?_, i4⟩, by simp only; omega⟩
   simp only at hi'
   by_cases e : i = (lo + hi) / 2
   ·rw [e]; exact h
   ·have := hm i ((lo + hi) / 2) (by omega) hM
    omega
  ·refine ⟨(lo, (lo + hi) / 2), rfl, ⟨by simp only; omega, by simp only; omega, i3, fun i h1 h2 => ?_⟩, by simp only; omega⟩
   simp only at h1
   by_cases e : i = (lo + hi) / 2
   ·rw [e]; exact h
   ·exact hm ((lo + hi) / 2) i (by omega) h2 h
 ·have hb := h
  simp only [nf] at h
  have e0 : hi = lo := by omega
  subst e0
  have e3 := bs_end i2 i3 i4
  try simp (disch := omega) only [go_sem, hE, hH, caps_bare hcap, caps_pk hcap, caps_noM hcap, caps_lt hcap, caps_ids hcap, hb]
  first | refine gd_t (fun h2 => ?_) (fun h2 => ?_) | refine gd_f (fun h2 => ?_) (fun h2 => ?_)
  ·have hb2 := h2
   simp only [nf] at h2
   have hlt : hi < l.length := by omega
   try simp (disch := omega) only [go_sem, hE, hH, caps_bare hcap, caps_pk hcap, caps_noM hcap, caps_lt hcap, caps_ids hcap, hb2]
   repeat refine And.intro (by omega) ?_
   refine ok_cfv rfl rfl rfl (hent) (hcap) (hp _ (nth_mem hlt)) ?_
   try simp (disch := omega) only [go_sem, hE, hH, caps_bare hcap, caps_pk hcap, caps_noM hcap, caps_lt hcap, caps_ids hcap]
   simp [bsF, e3, hlt]
  ·try simp (disch := omega) only [go_sem, hE, hH, caps_bare hcap, caps_pk hcap, caps_noM hcap, caps_lt hcap, caps_ids hcap, h2]
   simp only [nf] at h2
   simp [bsF, e3]
   omega
theorem BinarySearchFunc_Write_ok (l : List Write) (key : ByteArray) (f : Nat) (caps : List T) (c : Write → Int) (hent : entB Tryz.prog f = true) (hcap : caps.all T.cap = true) (hl : l.length ≤ 2 ^ 60) (hm : ∀ i j, i < j → j < l.length → 0 ≤ c (nth l i) → 0 ≤ c (nth l j)) (hp : ∀ x, x ∈ l → ACall Tryz.prog f ([.agg (Write.row false x), str key] ++ caps) (fun r _ => r = i64 (c x))) :
  ACall Tryz.prog 245 [.sl false 3 (l.map (Write.row false)), str key, .fn f caps] (fun r _ => r = .tup [i64 (bsI c l), bl (bsF c l)]) := by
 refine fn_in (hqA H245) (hqB H245) ⟨by simp only [go_sem, caps_bare hcap, caps_pk hcap, caps_noM hcap, caps_lt hcap, caps_ids hcap], fun E hE hH => ?_⟩; simp only [go_sem, caps_bare hcap, caps_pk hcap, caps_noM hcap, caps_lt hcap, caps_ids hcap] at hE hH; simp only [go_sem, hE, hH, caps_bare hcap, caps_pk hcap, caps_noM hcap, caps_lt hcap, caps_ids hcap, T16_x]
 refine loopM (fun (x : Nat × Nat) => ⟨[(0, .sl false 3 (l.map (Write.row false))), (1, str key), (2, .fn f caps), (8, i64 l.length), (9, i64 x.1), (10, i64 x.2)], []⟩) (fun x => x.1 ≤ x.2 ∧ x.2 ≤ l.length ∧ (∀ i, i < x.1 → c (nth l i) < 0) ∧ ∀ i, x.2 ≤ i → i < l.length → 0 ≤ c (nth l i)) (fun x => x.2 - x.1) (0, l.length) ⟨by simp, by simp, by simp, by simp; omega⟩ ?_
 rintro ⟨lo, hi⟩ ⟨i1, i2, i3, i4⟩
 simp only at i1 i2 i3 i4
 try simp only [go_sem, hE, hH, caps_bare hcap, caps_pk hcap, caps_noM hcap, caps_lt hcap, caps_ids hcap, T16_x_l1]
 first | refine gd_t (fun h => ?_) (fun h => ?_) | refine gd_f (fun h => ?_) (fun h => ?_)
 ·have hb := h
  simp only [nf] at h
  have hlt := h; clear h
  have e1 : IntKind.u64.wrap (lo + hi) = lo + hi := wrapU (by omega) (by omega)
  have e2 : Int.fdiv ((lo : Int) + hi) 2 = (((lo + hi) / 2 : Nat) : Int) := by rw [Int.fdiv_eq_ediv_of_nonneg _ (by omega)]; omega
  have hM : (lo + hi) / 2 < l.length := by omega
  try simp (disch := omega) only [go_sem, hE, hH, caps_bare hcap, caps_pk hcap, caps_noM hcap, caps_lt hcap, caps_ids hcap, hb, e1, shr1, e2]
  repeat refine And.intro (by omega) ?_
  refine ok_cfv rfl rfl rfl (hent) (hcap) (hp _ (nth_mem hM)) ?_
  try simp (disch := omega) only [go_sem, hE, hH, caps_bare hcap, caps_pk hcap, caps_noM hcap, caps_lt hcap, caps_ids hcap]
  repeat' (first | ((with_reducible first | refine gd_t ?_ ?_ | refine gd_f ?_ ?_) <;> (intro h; have hb := h; (try simp only [nf] at h); simp (disch := omega) only [go_sem, hE, hH, caps_bare hcap, caps_pk hcap, caps_noM hcap, caps_lt hcap, caps_ids hcap, hb]; (try clear hb))) | ((with_reducible refine And.intro ?_ ?_); · omega) | refine jn _ ?_ ?_ | (with_reducible first | refine both ?_ ?_ | refine And.intro ?_ ?_) | (refine fin_eq ?_; (try (simp (disch := omega) only [go_sem, hE, hH, caps_bare hcap, caps_pk hcap, caps_noM hcap, caps_lt hcap, caps_ids hcap])); first | done | rfl) | (simp (disch := omega) only [go_sem, hE, hH, caps_bare hcap, caps_pk hcap, caps_noM hcap, caps_lt hcap, caps_ids hcap]) | ((first | apply noMLL_sE | apply pk_sE) <;> (simp only [go_sem, hE, hH, caps_bare hcap, caps_pk hcap, caps_noM hcap, caps_lt hcap, caps_ids hcap]; done)) | (simp only [go_sem, hE, hH, caps_bare hcap, caps_pk hcap, caps_noM hcap, caps_lt hcap, caps_ids hcap]) | fail)
  ·refine ⟨((lo + hi) / 2 + 1, hi), rfl, ⟨by simp only; omega, i2, fun i hi' => ?_, i4⟩, by simp only; omega⟩
   simp only at hi'
   by_cases e : i = (lo + hi) / 2
   ·rw [e]; exact h
   ·have := hm i ((lo + hi) / 2) (by omega) hM
    omega
  ·refine ⟨(lo, (lo + hi) / 2), rfl, ⟨by simp only; omega, by simp only; omega, i3, fun i h1 h2 => ?_⟩, by simp only; omega⟩
   simp only at h1
   by_cases e : i = (lo + hi) / 2
   ·rw [e]; exact h
   ·exact hm ((lo + hi) / 2) i (by omega) h2 h
 ·have hb := h
  simp only [nf] at h
  have e0 : hi = lo := by omega
  subst e0
  have e3 := bs_end i2 i3 i4
  try simp (disch := omega) only [go_sem, hE, hH, caps_bare hcap, caps_pk hcap, caps_noM hcap, caps_lt hcap, caps_ids hcap, hb]
  first | refine gd_t (fun h2 => ?_) (fun h2 => ?_) | refine gd_f (fun h2 => ?_) (fun h2 => ?_)
  ·have hb2 := h2
   simp only [nf] at h2
   have hlt : hi < l.length := by omega
   try simp (disch := omega) only [go_sem, hE, hH, caps_bare hcap, caps_pk hcap, caps_noM hcap, caps_lt hcap, caps_ids hcap, hb2]
   repeat refine And.intro (by omega) ?_
   refine ok_cfv rfl rfl rfl (hent) (hcap) (hp _ (nth_mem hlt)) ?_
   try simp (disch := omega) only [go_sem, hE, hH, caps_bare hcap, caps_pk hcap, caps_noM hcap, caps_lt hcap, caps_ids hcap]
   simp [bsF, e3, hlt]
  ·try simp (disch := omega) only [go_sem, hE, hH, caps_bare hcap, caps_pk hcap, caps_noM hcap, caps_lt hcap, caps_ids hcap, h2]
   simp only [nf] at h2
   simp [bsF, e3]
   omega
theorem Clone_Cell_ok (l : List Cell) (hl : l.length ≤ 2 ^ 20) : ACall Tryz.prog 229 [.sl false 2 (l.map (Cell.row false))] (fun r _ => r = .sl true 2 (l.map (Cell.row false))) := by
 refine fi H229 fun E hE hH => ?_; simp only [go_sem] at hE hH; simp only [go_sem, hE, hH, T15_x]
 refine ok_isn ?_
 try simp (disch := omega) only [go_sem, hE, hH]
 intro b hb
 cases b <;> try simp (disch := omega) only [go_sem, hE, hH]
 all_goals first | omega | (simp_all; done) | (simp_all; exact ⟨by omega, fun a _ => rfl⟩)
theorem Clone_Held_ok (l : List Held) (hl : l.length ≤ 2 ^ 20) : ACall Tryz.prog 202 [.sl false 5 (l.map (Held.row false))] (fun r _ => r = .sl true 5 (l.map (Held.row false))) := by
 refine fi H202 fun E hE hH => ?_; simp only [go_sem] at hE hH; simp only [go_sem, hE, hH, T15_x]
 refine ok_isn ?_
 try simp (disch := omega) only [go_sem, hE, hH]
 intro b hb
 cases b <;> try simp (disch := omega) only [go_sem, hE, hH]
 all_goals first | omega | (simp_all; done) | (simp_all; exact ⟨by omega, fun a _ => rfl⟩)
theorem Clone_Told_ok (l : List Told) (hl : l.length ≤ 2 ^ 20) : ACall Tryz.prog 194 [.sl false 3 (l.map (Told.row false))] (fun r _ => r = .sl true 3 (l.map (Told.row false))) := by
 refine fi H194 fun E hE hH => ?_; simp only [go_sem] at hE hH; simp only [go_sem, hE, hH, T15_x]
 refine ok_isn ?_
 try simp (disch := omega) only [go_sem, hE, hH]
 intro b hb
 cases b <;> try simp (disch := omega) only [go_sem, hE, hH]
 all_goals first | omega | (simp_all; done) | (simp_all; exact ⟨by omega, fun a _ => rfl⟩)
theorem Clone_Ver_ok (l : List Ver) (hl : l.length ≤ 2 ^ 20) : ACall Tryz.prog 230 [.sl false 3 (l.map (Ver.row false))] (fun r _ => r = .sl true 3 (l.map (Ver.row false))) := by
 refine fi H230 fun E hE hH => ?_; simp only [go_sem] at hE hH; simp only [go_sem, hE, hH, T15_x]
 refine ok_isn ?_
 try simp (disch := omega) only [go_sem, hE, hH]
 intro b hb
 cases b <;> try simp (disch := omega) only [go_sem, hE, hH]
 all_goals first | omega | (simp_all; done) | (simp_all; exact ⟨by omega, fun a _ => rfl⟩)
theorem Clone_Write_ok (l : List Write) (hl : l.length ≤ 2 ^ 20) : ACall Tryz.prog 206 [.sl false 3 (l.map (Write.row false))] (fun r _ => r = .sl true 3 (l.map (Write.row false))) := by
 refine fi H206 fun E hE hH => ?_; simp only [go_sem] at hE hH; simp only [go_sem, hE, hH, T15_x]
 refine ok_isn ?_
 try simp (disch := omega) only [go_sem, hE, hH]
 intro b hb
 cases b <;> try simp (disch := omega) only [go_sem, hE, hH]
 all_goals first | omega | (simp_all; done) | (simp_all; exact ⟨by omega, fun a _ => rfl⟩)
theorem Clone_String_ok (l : List ByteArray) (hl : l.length ≤ 2 ^ 20) : ACall Tryz.prog 205 [.sl false 1 (strs l)] (fun r _ => r = .sl true 1 (strs l)) := by
 refine fi H205 fun E hE hH => ?_; simp only [go_sem] at hE hH; simp only [go_sem, hE, hH, C205]
 refine ok_isn ?_
 try simp (disch := omega) only [go_sem, hE, hH]
 intro b hb
 cases b <;> try simp (disch := omega) only [go_sem, hE, hH]
 all_goals first | omega | (simp_all; done) | (simp_all; exact ⟨by omega, fun a _ => rfl⟩)
theorem Delete_Held_raw_ok (l : List (List Value)) (i j : Int) (hi : 0 ≤ i) (hij : i ≤ j) (hj : j ≤ l.length) (hl : l.length ≤ maxLen) (hk : ∀ r ∈ l, r.length = 5) (ho : ∀ r ∈ l, (vrow r).all T.storable = true) : ACall Tryz.prog 199 [.sl true 5 (l.map (vrow)), i64 i, i64 j] (fun r a => r = .sl true 5 ((l.take i.toNat ++ l.drop j.toNat).map (vrow)) ∧ a = [.any, i64 i, i64 j]) := by
 have hmx := mx_eq
 have hij' : i.toNat ≤ j.toNat := by omega
 have hj' : j.toNat ≤ l.length := by omega
 have e1 := del_len1 (f := vrow) hij' hj'
 have e2 := fun z => del_len2 (f := vrow) (z := z) hij' hj'
 have e3 := fun Z => del_rows (f := vrow) (Z := Z) hij' hj'
 refine fn_inD [true, false, false] (hqA H199) (hqB H199) ⟨by simp only [go_sem], fun E hE hH => ?_⟩; simp only [go_sem] at hE hH; simp only [go_sem, hE, hH, C199]
 repeat' (first | ((with_reducible first | refine gd_t ?_ ?_ | refine gd_f ?_ ?_) <;> (intro h; have hb := h; (try simp only [nf] at h); simp (disch := omega) only [go_sem, hE, hH, e1, e2, e3, Option.isSome_some, hb]; (try clear hb))) | ((with_reducible refine And.intro ?_ ?_); · omega) | refine jn _ ?_ ?_ | (with_reducible first | refine both ?_ ?_ | refine And.intro ?_ ?_) | (refine fin_eq ?_; (try (simp (disch := omega) only [go_sem, hE, hH, e1, e2, e3, Option.isSome_some])); first | done | rfl) | (simp (disch := omega) only [go_sem, hE, hH, e1, e2, e3, Option.isSome_some]) | ((first | apply noMLL_sE | apply pk_sE) <;> (simp only [go_sem, hE, hH, e1, e2, e3, Option.isSome_some]; done)) | (simp only [go_sem, hE, hH, e1, e2, e3, Option.isSome_some]) | fail)
 all_goals try (rw [List.all_eq_true]; intro x hx; exact ho x (List.mem_of_mem_drop (List.mem_of_mem_take hx)))
 ·subst h
  rw [List.take_append_drop]
 ·rw [List.length_take, List.length_drop]; omega
theorem Delete_Held_ok (l : List Held) (i j : Int) (hi : 0 ≤ i) (hij : i ≤ j) (hj : j ≤ l.length) (hl : l.length ≤ maxLen) : ACall Tryz.prog 199 [.sl true 5 (l.map (Held.row true)), i64 i, i64 j] (fun r a => r = .sl true 5 ((l.take i.toNat ++ l.drop j.toNat).map (Held.row true)) ∧ a = [.any, i64 i, i64 j]) := by
 have h := nest_del (P := Tryz.prog) (f := 199) (k := 5) (rows := l.map (Held.row true)) (i := i) (j := j) (by rw [List.all_map, List.all_eq_true]; intro x _; rfl) (fun raws h1 h2 h3 => Delete_Held_raw_ok raws i j hi hij (by rw [h1, List.length_map]; exact hj) (by rw [h1, List.length_map]; exact hl) h2 h3) (by omega)
 rw [← List.map_take, ← List.map_drop, ← List.map_append] at h
 exact h
theorem IndexFunc_Held_ok (l : List Held) (f : Nat) (caps : List T) (p : Held → Bool) (hent : entB Tryz.prog f = true) (hcap : caps.all T.cap = true) (hl : l.length ≤ maxLen) (hp : ∀ x, x ∈ l → ACall Tryz.prog f ([.agg (Held.row false x)] ++ caps) (fun r _ => r = bl (p x))) :
  ACall Tryz.prog 224 [.sl false 5 (l.map (Held.row false)), .fn f caps] (fun r _ => r = i64 (ixf p l)) := by
 have hmx := mx_eq
 refine fn_in (hqA H224) (hqB H224) ⟨by simp only [go_sem, caps_bare hcap, caps_pk hcap, caps_noM hcap, caps_lt hcap, caps_ids hcap], fun E hE hH => ?_⟩; simp only [go_sem, caps_bare hcap, caps_pk hcap, caps_noM hcap, caps_lt hcap, caps_ids hcap] at hE hH; simp only [go_sem, hE, hH, caps_bare hcap, caps_pk hcap, caps_noM hcap, caps_lt hcap, caps_ids hcap, C224]
 refine loopN l.length (fun j (_ : Unit) => ⟨[(0, .sl false 5 (l.map (Held.row false))), (1, .fn f caps), (7, i64 l.length), (8, i64 j)], []⟩) (fun j _ => allN (fun i => !p (nth l i)) j = true) () rfl ?_
 intro j _ hj hI
 try simp only [go_sem, hE, hH, caps_bare hcap, caps_pk hcap, caps_noM hcap, caps_lt hcap, caps_ids hcap, C224_l1]
 first | refine gd_t (fun h => ?_) (fun h => ?_) | refine gd_f (fun h => ?_) (fun h => ?_)
 ·have hb := h
  simp only [nf] at h
  have hlt := h; clear h
  try simp (disch := omega) only [go_sem, hE, hH, caps_bare hcap, caps_pk hcap, caps_noM hcap, caps_lt hcap, caps_ids hcap, hb]
  refine And.intro (by omega) ?_
  refine ok_cfv rfl rfl rfl (hent) (hcap) (hp _ (nth_mem hlt)) ?_
  try simp (disch := omega) only [go_sem, hE, hH, caps_bare hcap, caps_pk hcap, caps_noM hcap, caps_lt hcap, caps_ids hcap]
  repeat' (first | ((with_reducible first | refine gd_t ?_ ?_ | refine gd_f ?_ ?_) <;> (intro h; have hb := h; (try simp only [nf] at h); simp (disch := omega) only [go_sem, hE, hH, caps_bare hcap, caps_pk hcap, caps_noM hcap, caps_lt hcap, caps_ids hcap, hb]; (try clear hb))) | ((with_reducible refine And.intro ?_ ?_); · omega) | refine jn _ ?_ ?_ | (with_reducible first | refine both ?_ ?_ | refine And.intro ?_ ?_) | (refine fin_eq ?_; (try (simp (disch := omega) only [go_sem, hE, hH, caps_bare hcap, caps_pk hcap, caps_noM hcap, caps_lt hcap, caps_ids hcap])); first | done | rfl) | (simp (disch := omega) only [go_sem, hE, hH, caps_bare hcap, caps_pk hcap, caps_noM hcap, caps_lt hcap, caps_ids hcap]) | ((first | apply noMLL_sE | apply pk_sE) <;> (simp only [go_sem, hE, hH, caps_bare hcap, caps_pk hcap, caps_noM hcap, caps_lt hcap, caps_ids hcap]; done)) | (simp only [go_sem, hE, hH, caps_bare hcap, caps_pk hcap, caps_noM hcap, caps_lt hcap, caps_ids hcap]) | fail)
  ·rw [ixf_at hlt hI h]
  ·exact ⟨(), rfl, allN_step hI (by simp [h])⟩
 ·try simp (disch := omega) only [go_sem, hE, hH, caps_bare hcap, caps_pk hcap, caps_noM hcap, caps_lt hcap, caps_ids hcap, h]
  simp only [nf] at h
  rw [show j = l.length by omega] at hI
  rw [ixf_none hI]
theorem IndexFunc_Write_ok (l : List Write) (f : Nat) (caps : List T) (p : Write → Bool) (hent : entB Tryz.prog f = true) (hcap : caps.all T.cap = true) (hl : l.length ≤ maxLen) (hp : ∀ x, x ∈ l → ACall Tryz.prog f ([.agg (Write.row false x)] ++ caps) (fun r _ => r = bl (p x))) :
  ACall Tryz.prog 216 [.sl false 3 (l.map (Write.row false)), .fn f caps] (fun r _ => r = i64 (ixf p l)) := by
 have hmx := mx_eq
 refine fn_in (hqA H216) (hqB H216) ⟨by simp only [go_sem, caps_bare hcap, caps_pk hcap, caps_noM hcap, caps_lt hcap, caps_ids hcap], fun E hE hH => ?_⟩; simp only [go_sem, caps_bare hcap, caps_pk hcap, caps_noM hcap, caps_lt hcap, caps_ids hcap] at hE hH; simp only [go_sem, hE, hH, caps_bare hcap, caps_pk hcap, caps_noM hcap, caps_lt hcap, caps_ids hcap, C216]
 refine loopN l.length (fun j (_ : Unit) => ⟨[(0, .sl false 3 (l.map (Write.row false))), (1, .fn f caps), (7, i64 l.length), (8, i64 j)], []⟩) (fun j _ => allN (fun i => !p (nth l i)) j = true) () rfl ?_
 intro j _ hj hI
 try simp only [go_sem, hE, hH, caps_bare hcap, caps_pk hcap, caps_noM hcap, caps_lt hcap, caps_ids hcap, C216_l1]
 first | refine gd_t (fun h => ?_) (fun h => ?_) | refine gd_f (fun h => ?_) (fun h => ?_)
 ·have hb := h
  simp only [nf] at h
  have hlt := h; clear h
  try simp (disch := omega) only [go_sem, hE, hH, caps_bare hcap, caps_pk hcap, caps_noM hcap, caps_lt hcap, caps_ids hcap, hb]
  refine And.intro (by omega) ?_
  refine ok_cfv rfl rfl rfl (hent) (hcap) (hp _ (nth_mem hlt)) ?_
  try simp (disch := omega) only [go_sem, hE, hH, caps_bare hcap, caps_pk hcap, caps_noM hcap, caps_lt hcap, caps_ids hcap]
  repeat' (first | ((with_reducible first | refine gd_t ?_ ?_ | refine gd_f ?_ ?_) <;> (intro h; have hb := h; (try simp only [nf] at h); simp (disch := omega) only [go_sem, hE, hH, caps_bare hcap, caps_pk hcap, caps_noM hcap, caps_lt hcap, caps_ids hcap, hb]; (try clear hb))) | ((with_reducible refine And.intro ?_ ?_); · omega) | refine jn _ ?_ ?_ | (with_reducible first | refine both ?_ ?_ | refine And.intro ?_ ?_) | (refine fin_eq ?_; (try (simp (disch := omega) only [go_sem, hE, hH, caps_bare hcap, caps_pk hcap, caps_noM hcap, caps_lt hcap, caps_ids hcap])); first | done | rfl) | (simp (disch := omega) only [go_sem, hE, hH, caps_bare hcap, caps_pk hcap, caps_noM hcap, caps_lt hcap, caps_ids hcap]) | ((first | apply noMLL_sE | apply pk_sE) <;> (simp only [go_sem, hE, hH, caps_bare hcap, caps_pk hcap, caps_noM hcap, caps_lt hcap, caps_ids hcap]; done)) | (simp only [go_sem, hE, hH, caps_bare hcap, caps_pk hcap, caps_noM hcap, caps_lt hcap, caps_ids hcap]) | fail)
  ·rw [ixf_at hlt hI h]
  ·exact ⟨(), rfl, allN_step hI (by simp [h])⟩
 ·try simp (disch := omega) only [go_sem, hE, hH, caps_bare hcap, caps_pk hcap, caps_noM hcap, caps_lt hcap, caps_ids hcap, h]
  simp only [nf] at h
  rw [show j = l.length by omega] at hI
  rw [ixf_none hI]
theorem Index_String_ok (l : List ByteArray) (v : ByteArray) (hl : l.length ≤ maxLen) : ACall Tryz.prog 247 [.sl false 1 (strs l), str v] (fun r _ => r = i64 (ixf (fun x => decide (v = x)) l)) := by
 have hmx := mx_eq
 refine fi H247 fun E hE hH => ?_; simp only [go_sem] at hE hH; simp only [go_sem, hE, hH, C247]
 refine loopN l.length (fun j (_ : Unit) => ⟨[(0, .sl false 1 (strs l)), (1, str v), (7, i64 l.length), (8, i64 j)], []⟩) (fun j _ => allN (fun i => !decide (v = nth l i)) j = true) () rfl ?_
 intro j _ hj hI
 try simp only [go_sem, hE, hH, C247_l1]
 first | refine gd_t (fun h => ?_) (fun h => ?_) | refine gd_f (fun h => ?_) (fun h => ?_)
 ·have hb := h
  simp only [nf] at h
  have hlt := h; clear h
  try simp (disch := omega) only [go_sem, hE, hH, hb]
  refine And.intro (by omega) ?_
  repeat' (first | ((with_reducible first | refine gd_t ?_ ?_ | refine gd_f ?_ ?_) <;> (intro h; have hb := h; (try simp only [nf] at h); refine sb ?_; (try clear hb))) | ((with_reducible refine And.intro ?_ ?_); · omega) | refine jn _ ?_ ?_ | (with_reducible first | refine both ?_ ?_ | refine And.intro ?_ ?_) | exact fe | refine st ?_ | exact fm | refine s1 ?_ | (with_reducible exact True.intro) | fail)
  ·rw [ixf_at (p := fun x => decide (v = x)) hlt hI (by simp [h])]
  ·exact ⟨(), rfl, allN_step hI (by simp [h])⟩
 ·try simp (disch := omega) only [go_sem, hE, hH, h]
  simp only [nf] at h
  rw [show j = l.length by omega] at hI
  rw [ixf_none (p := fun x => decide (v = x)) hI]
set_option maxHeartbeats 2000000 in
theorem Insert_Cell_raw_ok (l v : List (List Value)) (i : Int) (hi : 0 ≤ i) (hin : i ≤ l.length) (hl : l.length ≤ 2 ^ 20) (hk : ∀ r ∈ l, r.length = 2) (ho : ∀ r ∈ l, (vrow r).all T.storable = true) (hkv : ∀ r ∈ v, r.length = 2) (hov : ∀ r ∈ v, (vrow r).all T.storable = true) (hv : v.length ≤ 2 ^ 20) : ACall Tryz.prog 231 [.sl true 2 (l.map (vrow)), i64 i, .sl false 2 (v.map (vrow))] (fun r a => r = .sl true 2 ((l.take i.toNat ++ v ++ l.drop i.toNat).map (vrow)) ∧ a = [.any, i64 i, .sl false 2 (v.map (vrow))]) := by
 have hmx := mx_eq
 refine fn_inC [true, false, false] 0 2 (l.map (vrow)) (hqA H231) (hqB H231) (by simp only [go_sem, List.mem_cons, true_or, or_true]) (by simp only [go_sem]) ⟨by simp only [go_sem], fun E hE hH c hc hF => ?_⟩; simp only [go_sem] at hE hH hc hF; simp only [go_sem, hE, hH, C231]
 have e0 : l.length + (c - l.length) = c := by omega
 have hn : i.toNat ≤ l.length := by omega
 have t1 : ((l.length : Int) + v.length - i).toNat = l.length + v.length - i.toNat := by omega
 have t2 : (i + (v.length : Int)).toNat = i.toNat + v.length := by omega
 have t3 : ((l.length : Int) + v.length).toNat = l.length + v.length := by omega
 have t4 : i.toNat + (l.length + v.length - i.toNat) = l.length + v.length := by omega
 have t5 : l.length + v.length - (i.toNat + v.length) = l.length - i.toNat := by omega
 have t6 : min (l.length - i.toNat) (l.length + v.length - i.toNat) = l.length - i.toNat := by omega
 have t7 : i.toNat + (l.length - i.toNat) = l.length := by omega
 have a1 := ins_take (f := vrow) (l := l) (G := List.replicate (c - l.length) (anyRow 2)) (Nat.le_refl l.length)
 have a2 := ins_take (f := vrow) (l := l) (G := List.replicate (c - l.length) (anyRow 2)) hn
 have a3 := ins_mid (f := vrow) (l := l) (G := List.replicate (c - l.length) (anyRow 2)) hn
 have a4 : v.take (l.length + v.length - i.toNat) = v := List.take_of_length_le (by omega)
 have b1 := fun z => ins_len1 (f := vrow) (g := fun x => (vrow) x) (v := v) (z := z) hn
 have b2 := fun z => ins_len2 (f := vrow) (g := fun x => (vrow) x) (v := v) (z := z) hn
 have b3 := fun z => ins_rows1 (f := vrow) (v := v) (z := z) hn
 have b4 := ins_app (f := vrow) (v := v) (l := l)
 have d1 := fun z hc => fit_len1 (f := vrow) (m := v.length) (c := c) (z := z) hn hc
 have d2 := fun z hc => fit_len2 (f := vrow) (g := fun x => (vrow) x) (v := v) (c := c) (z := z) hn hc
 have d3 := fun z hc => fit_rows (f := vrow) (v := v) (c := c) (z := z) hn hc
 have t8 : min (l.length + v.length - i.toNat) v.length = v.length := by omega
 have t9 : i.toNat + v.length + (l.length - i.toNat) = l.length + v.length := by omega
 simp only [go_sem] at a1 a2 a3 b1 b2 b3 b4 d1 d2 d3
 have s1 : ((v.map vrow).all fun r => r.all T.storable) = true := by rw [List.all_map, List.all_eq_true]; intro x hx; exact hov x hx
 have s2 : ((l.map vrow).all fun r => r.all T.storable) = true := by rw [List.all_map, List.all_eq_true]; intro x hx; exact ho x hx
 have s3 : (((l.take i.toNat).map vrow).all fun r => r.all T.storable) = true := by rw [List.all_map, List.all_eq_true]; intro x hx; exact ho x (List.mem_of_mem_take hx)
 have s4 : (((l.drop i.toNat).map vrow).all fun r => r.all T.storable) = true := by rw [List.all_map, List.all_eq_true]; intro x hx; exact ho x (List.mem_of_mem_drop hx)
 simp only [go_sem] at s1 s2 s3 s4
 repeat' (first | ((with_reducible first | refine gd_t ?_ ?_ | refine gd_f ?_ ?_) <;> (intro h; have hb := h; (try simp only [nf] at h); simp (disch := omega) only [go_sem, hE, hH, s1, s2, s3, s4, e0, hF, t1, t2, t3, t4, t5, t6, t7, t8, t9, d1, d2, d3, a1, a2, a3, a4, b1, b2, b3, b4, List.take_length, List.length_drop, Nat.add_sub_cancel_left, List.length_take, Nat.min_eq_left hn, Nat.min_self, hb]; (try clear hb))) | ((with_reducible refine And.intro ?_ ?_); · omega) | refine jn _ ?_ ?_ | (with_reducible first | refine both ?_ ?_ | refine And.intro ?_ ?_) | (refine fin_eq ?_; (try (simp (disch := omega) only [go_sem, hE, hH, s1, s2, s3, s4, e0, hF, t1, t2, t3, t4, t5, t6, t7, t8, t9, d1, d2, d3, a1, a2, a3, a4, b1, b2, b3, b4, List.take_length, List.length_drop, Nat.add_sub_cancel_left, List.length_take, Nat.min_eq_left hn, Nat.min_self])); first | done | rfl) | (simp (disch := omega) only [go_sem, hE, hH, s1, s2, s3, s4, e0, hF, t1, t2, t3, t4, t5, t6, t7, t8, t9, d1, d2, d3, a1, a2, a3, a4, b1, b2, b3, b4, List.take_length, List.length_drop, Nat.add_sub_cancel_left, List.length_take, Nat.min_eq_left hn, Nat.min_self]) | ((first | apply noMLL_sE | apply pk_sE) <;> (simp only [go_sem, hE, hH, s1, s2, s3, s4, e0, hF, t1, t2, t3, t4, t5, t6, t7, t8, t9, d1, d2, d3, a1, a2, a3, a4, b1, b2, b3, b4, List.take_length, List.length_drop, Nat.add_sub_cancel_left, List.length_take, Nat.min_eq_left hn, Nat.min_self]; done)) | (simp only [go_sem, hE, hH, s1, s2, s3, s4, e0, hF, t1, t2, t3, t4, t5, t6, t7, t8, t9, d1, d2, d3, a1, a2, a3, a4, b1, b2, b3, b4, List.take_length, List.length_drop, Nat.add_sub_cancel_left, List.length_take, Nat.min_eq_left hn, Nat.min_self]) | fail)
 all_goals try (refine ok_ovl rfl rfl rfl u_slices_overlaps_impl_Cell_ wd_slices_overlaps_impl_Cell_ x_slices_overlaps_impl_Cell_ (by decide) (by simp only [List.length_map]; omega) (by simp only [go_sem]; omega) ?_)
 repeat' (first | ((with_reducible first | refine gd_t ?_ ?_ | refine gd_f ?_ ?_) <;> (intro h; have hb := h; (try simp only [nf] at h); simp (disch := omega) only [go_sem, hE, hH, s1, s2, s3, s4, e0, hF, t1, t2, t3, t4, t5, t6, t7, t8, t9, d1, d2, d3, a1, a2, a3, a4, b1, b2, b3, b4, List.take_length, List.length_drop, Nat.add_sub_cancel_left, List.length_take, Nat.min_eq_left hn, Nat.min_self, hb]; (try clear hb))) | ((with_reducible refine And.intro ?_ ?_); · omega) | refine jn _ ?_ ?_ | (with_reducible first | refine both ?_ ?_ | refine And.intro ?_ ?_) | (refine fin_eq ?_; (try (simp (disch := omega) only [go_sem, hE, hH, s1, s2, s3, s4, e0, hF, t1, t2, t3, t4, t5, t6, t7, t8, t9, d1, d2, d3, a1, a2, a3, a4, b1, b2, b3, b4, List.take_length, List.length_drop, Nat.add_sub_cancel_left, List.length_take, Nat.min_eq_left hn, Nat.min_self])); first | done | rfl) | (simp (disch := omega) only [go_sem, hE, hH, s1, s2, s3, s4, e0, hF, t1, t2, t3, t4, t5, t6, t7, t8, t9, d1, d2, d3, a1, a2, a3, a4, b1, b2, b3, b4, List.take_length, List.length_drop, Nat.add_sub_cancel_left, List.length_take, Nat.min_eq_left hn, Nat.min_self]) | ((first | apply noMLL_sE | apply pk_sE) <;> (simp only [go_sem, hE, hH, s1, s2, s3, s4, e0, hF, t1, t2, t3, t4, t5, t6, t7, t8, t9, d1, d2, d3, a1, a2, a3, a4, b1, b2, b3, b4, List.take_length, List.length_drop, Nat.add_sub_cancel_left, List.length_take, Nat.min_eq_left hn, Nat.min_self]; done)) | (simp only [go_sem, hE, hH, s1, s2, s3, s4, e0, hF, t1, t2, t3, t4, t5, t6, t7, t8, t9, d1, d2, d3, a1, a2, a3, a4, b1, b2, b3, b4, List.take_length, List.length_drop, Nat.add_sub_cancel_left, List.length_take, Nat.min_eq_left hn, Nat.min_self]) | fail)
 all_goals try (rw [List.all_eq_true]; intro x hx; first | exact ho x (List.mem_of_mem_drop (List.mem_of_mem_take hx)) | exact ho x (List.mem_of_mem_drop hx) | exact ho x (List.mem_of_mem_take hx) | exact ho x hx | exact hov x hx)
 ·have e : v = [] := List.length_eq_zero_iff.1 (by omega)
  subst e
  rw [List.append_nil, List.take_append_drop]
 ·have e : i.toNat = l.length := by omega
  rw [e, List.take_length, List.drop_length, List.append_nil, List.map_append]
  try rfl
 all_goals omega
theorem Insert_Cell_ok (l : List Cell) (x : Cell) (i : Int) (hi : 0 ≤ i) (hin : i ≤ l.length) (hl : l.length ≤ 2 ^ 20) : ACall Tryz.prog 231 [.sl true 2 (l.map (Cell.row true)), i64 i, .sl true 2 [Cell.row true x]] (fun r a => r = .sl true 2 ((putAt l i.toNat x).map (Cell.row true)) ∧ a = [.any, i64 i, .any]) := by
 have h := nest_ins (P := Tryz.prog) (f := 231) (k := 2) (rows := l.map (Cell.row true)) (row := Cell.row true x) (i := i) (by rw [List.length_map]; omega) (by rw [List.all_map, List.all_eq_true]; intro x _; rfl) rfl (fun raws rv h1 h2 h3 h4 h5 => by have q := Insert_Cell_raw_ok raws [rv] i hi (by rw [h1, List.length_map]; exact hin) (by rw [h1, List.length_map]; exact hl) h2 h4 (fun r hr => by rw [List.mem_singleton.1 hr]; exact h3) (fun r hr => by rw [List.mem_singleton.1 hr]; exact h5) (by simp); rw [List.append_assoc] at q; exact q)
 rw [← List.map_take, ← List.map_drop] at h
 unfold putAt
 rw [List.map_append, List.map_cons]
 exact h
set_option maxHeartbeats 2000000 in
theorem Insert_Held_raw_ok (l v : List (List Value)) (i : Int) (hi : 0 ≤ i) (hin : i ≤ l.length) (hl : l.length ≤ 2 ^ 20) (hk : ∀ r ∈ l, r.length = 5) (ho : ∀ r ∈ l, (vrow r).all T.storable = true) (hkv : ∀ r ∈ v, r.length = 5) (hov : ∀ r ∈ v, (vrow r).all T.storable = true) (hv : v.length ≤ 2 ^ 20) : ACall Tryz.prog 150 [.sl true 5 (l.map (vrow)), i64 i, .sl false 5 (v.map (vrow))] (fun r a => r = .sl true 5 ((l.take i.toNat ++ v ++ l.drop i.toNat).map (vrow)) ∧ a = [.any, i64 i, .sl false 5 (v.map (vrow))]) := by
 have hmx := mx_eq
 refine fn_inC [true, false, false] 0 5 (l.map (vrow)) (hqA H150) (hqB H150) (by simp only [go_sem, List.mem_cons, true_or, or_true]) (by simp only [go_sem]) ⟨by simp only [go_sem], fun E hE hH c hc hF => ?_⟩; simp only [go_sem] at hE hH hc hF; simp only [go_sem, hE, hH, C150]
 have e0 : l.length + (c - l.length) = c := by omega
 have hn : i.toNat ≤ l.length := by omega
 have t1 : ((l.length : Int) + v.length - i).toNat = l.length + v.length - i.toNat := by omega
 have t2 : (i + (v.length : Int)).toNat = i.toNat + v.length := by omega
 have t3 : ((l.length : Int) + v.length).toNat = l.length + v.length := by omega
 have t4 : i.toNat + (l.length + v.length - i.toNat) = l.length + v.length := by omega
 have t5 : l.length + v.length - (i.toNat + v.length) = l.length - i.toNat := by omega
 have t6 : min (l.length - i.toNat) (l.length + v.length - i.toNat) = l.length - i.toNat := by omega
 have t7 : i.toNat + (l.length - i.toNat) = l.length := by omega
 have a1 := ins_take (f := vrow) (l := l) (G := List.replicate (c - l.length) (anyRow 5)) (Nat.le_refl l.length)
 have a2 := ins_take (f := vrow) (l := l) (G := List.replicate (c - l.length) (anyRow 5)) hn
 have a3 := ins_mid (f := vrow) (l := l) (G := List.replicate (c - l.length) (anyRow 5)) hn
 have a4 : v.take (l.length + v.length - i.toNat) = v := List.take_of_length_le (by omega)
 have b1 := fun z => ins_len1 (f := vrow) (g := fun x => (vrow) x) (v := v) (z := z) hn
 have b2 := fun z => ins_len2 (f := vrow) (g := fun x => (vrow) x) (v := v) (z := z) hn
 have b3 := fun z => ins_rows1 (f := vrow) (v := v) (z := z) hn
 have b4 := ins_app (f := vrow) (v := v) (l := l)
 have d1 := fun z hc => fit_len1 (f := vrow) (m := v.length) (c := c) (z := z) hn hc
 have d2 := fun z hc => fit_len2 (f := vrow) (g := fun x => (vrow) x) (v := v) (c := c) (z := z) hn hc
 have d3 := fun z hc => fit_rows (f := vrow) (v := v) (c := c) (z := z) hn hc
 have t8 : min (l.length + v.length - i.toNat) v.length = v.length := by omega
 have t9 : i.toNat + v.length + (l.length - i.toNat) = l.length + v.length := by omega
 simp only [go_sem] at a1 a2 a3 b1 b2 b3 b4 d1 d2 d3
 have s1 : ((v.map vrow).all fun r => r.all T.storable) = true := by rw [List.all_map, List.all_eq_true]; intro x hx; exact hov x hx
 have s2 : ((l.map vrow).all fun r => r.all T.storable) = true := by rw [List.all_map, List.all_eq_true]; intro x hx; exact ho x hx
 have s3 : (((l.take i.toNat).map vrow).all fun r => r.all T.storable) = true := by rw [List.all_map, List.all_eq_true]; intro x hx; exact ho x (List.mem_of_mem_take hx)
 have s4 : (((l.drop i.toNat).map vrow).all fun r => r.all T.storable) = true := by rw [List.all_map, List.all_eq_true]; intro x hx; exact ho x (List.mem_of_mem_drop hx)
 simp only [go_sem] at s1 s2 s3 s4
 repeat' (first | ((with_reducible first | refine gd_t ?_ ?_ | refine gd_f ?_ ?_) <;> (intro h; have hb := h; (try simp only [nf] at h); simp (disch := omega) only [go_sem, hE, hH, s1, s2, s3, s4, e0, hF, t1, t2, t3, t4, t5, t6, t7, t8, t9, d1, d2, d3, a1, a2, a3, a4, b1, b2, b3, b4, List.take_length, List.length_drop, Nat.add_sub_cancel_left, List.length_take, Nat.min_eq_left hn, Nat.min_self, hb]; (try clear hb))) | ((with_reducible refine And.intro ?_ ?_); · omega) | refine jn _ ?_ ?_ | (with_reducible first | refine both ?_ ?_ | refine And.intro ?_ ?_) | (refine fin_eq ?_; (try (simp (disch := omega) only [go_sem, hE, hH, s1, s2, s3, s4, e0, hF, t1, t2, t3, t4, t5, t6, t7, t8, t9, d1, d2, d3, a1, a2, a3, a4, b1, b2, b3, b4, List.take_length, List.length_drop, Nat.add_sub_cancel_left, List.length_take, Nat.min_eq_left hn, Nat.min_self])); first | done | rfl) | (simp (disch := omega) only [go_sem, hE, hH, s1, s2, s3, s4, e0, hF, t1, t2, t3, t4, t5, t6, t7, t8, t9, d1, d2, d3, a1, a2, a3, a4, b1, b2, b3, b4, List.take_length, List.length_drop, Nat.add_sub_cancel_left, List.length_take, Nat.min_eq_left hn, Nat.min_self]) | ((first | apply noMLL_sE | apply pk_sE) <;> (simp only [go_sem, hE, hH, s1, s2, s3, s4, e0, hF, t1, t2, t3, t4, t5, t6, t7, t8, t9, d1, d2, d3, a1, a2, a3, a4, b1, b2, b3, b4, List.take_length, List.length_drop, Nat.add_sub_cancel_left, List.length_take, Nat.min_eq_left hn, Nat.min_self]; done)) | (simp only [go_sem, hE, hH, s1, s2, s3, s4, e0, hF, t1, t2, t3, t4, t5, t6, t7, t8, t9, d1, d2, d3, a1, a2, a3, a4, b1, b2, b3, b4, List.take_length, List.length_drop, Nat.add_sub_cancel_left, List.length_take, Nat.min_eq_left hn, Nat.min_self]) | fail)
 all_goals try (refine ok_ovl rfl rfl rfl u_slices_overlaps_impl_Held_ wd_slices_overlaps_impl_Held_ x_slices_overlaps_impl_Held_ (by decide) (by simp only [List.length_map]; omega) (by simp only [go_sem]; omega) ?_)
 repeat' (first | ((with_reducible first | refine gd_t ?_ ?_ | refine gd_f ?_ ?_) <;> (intro h; have hb := h; (try simp only [nf] at h); simp (disch := omega) only [go_sem, hE, hH, s1, s2, s3, s4, e0, hF, t1, t2, t3, t4, t5, t6, t7, t8, t9, d1, d2, d3, a1, a2, a3, a4, b1, b2, b3, b4, List.take_length, List.length_drop, Nat.add_sub_cancel_left, List.length_take, Nat.min_eq_left hn, Nat.min_self, hb]; (try clear hb))) | ((with_reducible refine And.intro ?_ ?_); · omega) | refine jn _ ?_ ?_ | (with_reducible first | refine both ?_ ?_ | refine And.intro ?_ ?_) | (refine fin_eq ?_; (try (simp (disch := omega) only [go_sem, hE, hH, s1, s2, s3, s4, e0, hF, t1, t2, t3, t4, t5, t6, t7, t8, t9, d1, d2, d3, a1, a2, a3, a4, b1, b2, b3, b4, List.take_length, List.length_drop, Nat.add_sub_cancel_left, List.length_take, Nat.min_eq_left hn, Nat.min_self])); first | done | rfl) | (simp (disch := omega) only [go_sem, hE, hH, s1, s2, s3, s4, e0, hF, t1, t2, t3, t4, t5, t6, t7, t8, t9, d1, d2, d3, a1, a2, a3, a4, b1, b2, b3, b4, List.take_length, List.length_drop, Nat.add_sub_cancel_left, List.length_take, Nat.min_eq_left hn, Nat.min_self]) | ((first | apply noMLL_sE | apply pk_sE) <;> (simp only [go_sem, hE, hH, s1, s2, s3, s4, e0, hF, t1, t2, t3, t4, t5, t6, t7, t8, t9, d1, d2, d3, a1, a2, a3, a4, b1, b2, b3, b4, List.take_length, List.length_drop, Nat.add_sub_cancel_left, List.length_take, Nat.min_eq_left hn, Nat.min_self]; done)) | (simp only [go_sem, hE, hH, s1, s2, s3, s4, e0, hF, t1, t2, t3, t4, t5, t6, t7, t8, t9, d1, d2, d3, a1, a2, a3, a4, b1, b2, b3, b4, List.take_length, List.length_drop, Nat.add_sub_cancel_left, List.length_take, Nat.min_eq_left hn, Nat.min_self]) | fail)
 all_goals try (rw [List.all_eq_true]; intro x hx; first | exact ho x (List.mem_of_mem_drop (List.mem_of_mem_take hx)) | exact ho x (List.mem_of_mem_drop hx) | exact ho x (List.mem_of_mem_take hx) | exact ho x hx | exact hov x hx)
 ·have e : v = [] := List.length_eq_zero_iff.1 (by omega)
  subst e
  rw [List.append_nil, List.take_append_drop]
 ·have e : i.toNat = l.length := by omega
  rw [e, List.take_length, List.drop_length, List.append_nil, List.map_append]
  try rfl
 all_goals omega
theorem Insert_Held_ok (l : List Held) (x : Held) (i : Int) (hi : 0 ≤ i) (hin : i ≤ l.length) (hl : l.length ≤ 2 ^ 20) : ACall Tryz.prog 150 [.sl true 5 (l.map (Held.row true)), i64 i, .sl true 5 [Held.row true x]] (fun r a => r = .sl true 5 ((putAt l i.toNat x).map (Held.row true)) ∧ a = [.any, i64 i, .any]) := by
 have h := nest_ins (P := Tryz.prog) (f := 150) (k := 5) (rows := l.map (Held.row true)) (row := Held.row true x) (i := i) (by rw [List.length_map]; omega) (by rw [List.all_map, List.all_eq_true]; intro x _; rfl) rfl (fun raws rv h1 h2 h3 h4 h5 => by have q := Insert_Held_raw_ok raws [rv] i hi (by rw [h1, List.length_map]; exact hin) (by rw [h1, List.length_map]; exact hl) h2 h4 (fun r hr => by rw [List.mem_singleton.1 hr]; exact h3) (fun r hr => by rw [List.mem_singleton.1 hr]; exact h5) (by simp); rw [List.append_assoc] at q; exact q)
 rw [← List.map_take, ← List.map_drop] at h
 unfold putAt
 rw [List.map_append, List.map_cons]
 exact h
theorem Insert_Told_ok (l v : List Told) (i : Int) (hi : 0 ≤ i) (hin : i ≤ l.length) (hl : l.length ≤ 2 ^ 20) (hv : v.length ≤ 2 ^ 20) : ACall Tryz.prog 200 [.sl true 3 (l.map (Told.row true)), i64 i, .sl false 3 (v.map (Told.row false))] (fun r a => r = .sl true 3 ((l.take i.toNat ++ v ++ l.drop i.toNat).map (Told.row true)) ∧ a = [.any, i64 i, .sl false 3 (v.map (Told.row false))]) := by
 have hmx := mx_eq
 refine fn_inC [true, false, false] 0 3 (l.map (Told.row true)) (hqA H200) (hqB H200) (by simp only [go_sem, List.mem_cons, true_or, or_true]) (by simp only [go_sem]) ⟨by simp only [go_sem], fun E hE hH c hc hF => ?_⟩; simp only [go_sem] at hE hH hc hF; simp only [go_sem, hE, hH, C200]
 have e0 : l.length + (c - l.length) = c := by omega
 have hn : i.toNat ≤ l.length := by omega
 have t1 : ((l.length : Int) + v.length - i).toNat = l.length + v.length - i.toNat := by omega
 have t2 : (i + (v.length : Int)).toNat = i.toNat + v.length := by omega
 have t3 : ((l.length : Int) + v.length).toNat = l.length + v.length := by omega
 have t4 : i.toNat + (l.length + v.length - i.toNat) = l.length + v.length := by omega
 have t5 : l.length + v.length - (i.toNat + v.length) = l.length - i.toNat := by omega
 have t6 : min (l.length - i.toNat) (l.length + v.length - i.toNat) = l.length - i.toNat := by omega
 have t7 : i.toNat + (l.length - i.toNat) = l.length := by omega
 have a1 := ins_take (f := Told.row true) (l := l) (G := List.replicate (c - l.length) (anyRow 3)) (Nat.le_refl l.length)
 have a2 := ins_take (f := Told.row true) (l := l) (G := List.replicate (c - l.length) (anyRow 3)) hn
 have a3 := ins_mid (f := Told.row true) (l := l) (G := List.replicate (c - l.length) (anyRow 3)) hn
 have a4 : v.take (l.length + v.length - i.toNat) = v := List.take_of_length_le (by omega)
 have b1 := fun z => ins_len1 (f := Told.row true) (g := fun x => (Told.row true) x) (v := v) (z := z) hn
 have b2 := fun z => ins_len2 (f := Told.row true) (g := fun x => (Told.row true) x) (v := v) (z := z) hn
 have b3 := fun z => ins_rows1 (f := Told.row true) (v := v) (z := z) hn
 have b4 := ins_app (f := Told.row true) (v := v) (l := l)
 have d1 := fun z hc => fit_len1 (f := Told.row true) (m := v.length) (c := c) (z := z) hn hc
 have d2 := fun z hc => fit_len2 (f := Told.row true) (g := fun x => (Told.row true) x) (v := v) (c := c) (z := z) hn hc
 have d3 := fun z hc => fit_rows (f := Told.row true) (v := v) (c := c) (z := z) hn hc
 have t8 : min (l.length + v.length - i.toNat) v.length = v.length := by omega
 have t9 : i.toNat + v.length + (l.length - i.toNat) = l.length + v.length := by omega
 simp only [go_sem] at a1 a2 a3 b1 b2 b3 b4 d1 d2 d3
 repeat' (first | ((with_reducible first | refine gd_t ?_ ?_ | refine gd_f ?_ ?_) <;> (intro h; have hb := h; (try simp only [nf] at h); simp (disch := omega) only [go_sem, hE, hH, e0, hF, t1, t2, t3, t4, t5, t6, t7, t8, t9, d1, d2, d3, a1, a2, a3, a4, b1, b2, b3, b4, List.take_length, List.length_drop, Nat.add_sub_cancel_left, List.length_take, Nat.min_eq_left hn, Nat.min_self, hb]; (try clear hb))) | ((with_reducible refine And.intro ?_ ?_); · omega) | refine jn _ ?_ ?_ | (with_reducible first | refine both ?_ ?_ | refine And.intro ?_ ?_) | (refine fin_eq ?_; (try (simp (disch := omega) only [go_sem, hE, hH, e0, hF, t1, t2, t3, t4, t5, t6, t7, t8, t9, d1, d2, d3, a1, a2, a3, a4, b1, b2, b3, b4, List.take_length, List.length_drop, Nat.add_sub_cancel_left, List.length_take, Nat.min_eq_left hn, Nat.min_self])); first | done | rfl) | (simp (disch := omega) only [go_sem, hE, hH, e0, hF, t1, t2, t3, t4, t5, t6, t7, t8, t9, d1, d2, d3, a1, a2, a3, a4, b1, b2, b3, b4, List.take_length, List.length_drop, Nat.add_sub_cancel_left, List.length_take, Nat.min_eq_left hn, Nat.min_self]) | ((first | apply noMLL_sE | apply pk_sE) <;> (simp only [go_sem, hE, hH, e0, hF, t1, t2, t3, t4, t5, t6, t7, t8, t9, d1, d2, d3, a1, a2, a3, a4, b1, b2, b3, b4, List.take_length, List.length_drop, Nat.add_sub_cancel_left, List.length_take, Nat.min_eq_left hn, Nat.min_self]; done)) | (simp only [go_sem, hE, hH, e0, hF, t1, t2, t3, t4, t5, t6, t7, t8, t9, d1, d2, d3, a1, a2, a3, a4, b1, b2, b3, b4, List.take_length, List.length_drop, Nat.add_sub_cancel_left, List.length_take, Nat.min_eq_left hn, Nat.min_self]) | fail)
 all_goals try (refine ok_ovl rfl rfl rfl u_slices_overlaps_impl_Told_ wd_slices_overlaps_impl_Told_ x_slices_overlaps_impl_Told_ (by decide) (by simp only [List.length_map]; omega) (by simp only [go_sem]; omega) ?_)
 repeat' (first | ((with_reducible first | refine gd_t ?_ ?_ | refine gd_f ?_ ?_) <;> (intro h; have hb := h; (try simp only [nf] at h); simp (disch := omega) only [go_sem, hE, hH, e0, hF, t1, t2, t3, t4, t5, t6, t7, t8, t9, d1, d2, d3, a1, a2, a3, a4, b1, b2, b3, b4, List.take_length, List.length_drop, Nat.add_sub_cancel_left, List.length_take, Nat.min_eq_left hn, Nat.min_self, hb]; (try clear hb))) | ((with_reducible refine And.intro ?_ ?_); · omega) | refine jn _ ?_ ?_ | (with_reducible first | refine both ?_ ?_ | refine And.intro ?_ ?_) | (refine fin_eq ?_; (try (simp (disch := omega) only [go_sem, hE, hH, e0, hF, t1, t2, t3, t4, t5, t6, t7, t8, t9, d1, d2, d3, a1, a2, a3, a4, b1, b2, b3, b4, List.take_length, List.length_drop, Nat.add_sub_cancel_left, List.length_take, Nat.min_eq_left hn, Nat.min_self])); first | done | rfl) | (simp (disch := omega) only [go_sem, hE, hH, e0, hF, t1, t2, t3, t4, t5, t6, t7, t8, t9, d1, d2, d3, a1, a2, a3, a4, b1, b2, b3, b4, List.take_length, List.length_drop, Nat.add_sub_cancel_left, List.length_take, Nat.min_eq_left hn, Nat.min_self]) | ((first | apply noMLL_sE | apply pk_sE) <;> (simp only [go_sem, hE, hH, e0, hF, t1, t2, t3, t4, t5, t6, t7, t8, t9, d1, d2, d3, a1, a2, a3, a4, b1, b2, b3, b4, List.take_length, List.length_drop, Nat.add_sub_cancel_left, List.length_take, Nat.min_eq_left hn, Nat.min_self]; done)) | (simp only [go_sem, hE, hH, e0, hF, t1, t2, t3, t4, t5, t6, t7, t8, t9, d1, d2, d3, a1, a2, a3, a4, b1, b2, b3, b4, List.take_length, List.length_drop, Nat.add_sub_cancel_left, List.length_take, Nat.min_eq_left hn, Nat.min_self]) | fail)
 ·have e : v = [] := List.length_eq_zero_iff.1 (by omega)
  subst e
  rw [List.append_nil, List.take_append_drop]
 ·have e : i.toNat = l.length := by omega
  rw [e, List.take_length, List.drop_length, List.append_nil, List.map_append]
  try rfl
 all_goals omega
theorem ContainsFunc_Held_ok (l : List Held) (f : Nat) (caps : List T) (p : Held → Bool) (hent : entB Tryz.prog f = true) (hcap : caps.all T.cap = true) (hl : l.length ≤ maxLen) (hp : ∀ x, x ∈ l → ACall Tryz.prog f ([.agg (Held.row false x)] ++ caps) (fun r _ => r = bl (p x))) :
  ACall Tryz.prog 185 [.sl false 5 (l.map (Held.row false)), .fn f caps] (fun r _ => r = bl (l.any p)) := by
 refine fn_in (hqA H185) (hqB H185) ⟨by simp only [go_sem, caps_bare hcap, caps_pk hcap, caps_noM hcap, caps_lt hcap, caps_ids hcap], fun E hE hH => ?_⟩; simp only [go_sem, caps_bare hcap, caps_pk hcap, caps_noM hcap, caps_lt hcap, caps_ids hcap] at hE hH; simp only [go_sem, hE, hH, caps_bare hcap, caps_pk hcap, caps_noM hcap, caps_lt hcap, caps_ids hcap, C185]
 refine ok_cv rfl (by simp only [zipF, argL, vwT, vwLeaf, vwRow_caps hcap, Bool.false_eq_true, if_false]; rfl) (IndexFunc_Held_ok l f caps p hent hcap hl hp) ?_
 try simp (disch := omega) only [go_sem, hE, hH, caps_bare hcap, caps_pk hcap, caps_noM hcap, caps_lt hcap, caps_ids hcap, ixf_any, vwC_ok hcap]
theorem ContainsFunc_Write_ok (l : List Write) (f : Nat) (caps : List T) (p : Write → Bool) (hent : entB Tryz.prog f = true) (hcap : caps.all T.cap = true) (hl : l.length ≤ maxLen) (hp : ∀ x, x ∈ l → ACall Tryz.prog f ([.agg (Write.row false x)] ++ caps) (fun r _ => r = bl (p x))) :
  ACall Tryz.prog 171 [.sl false 3 (l.map (Write.row false)), .fn f caps] (fun r _ => r = bl (l.any p)) := by
 refine fn_in (hqA H171) (hqB H171) ⟨by simp only [go_sem, caps_bare hcap, caps_pk hcap, caps_noM hcap, caps_lt hcap, caps_ids hcap], fun E hE hH => ?_⟩; simp only [go_sem, caps_bare hcap, caps_pk hcap, caps_noM hcap, caps_lt hcap, caps_ids hcap] at hE hH; simp only [go_sem, hE, hH, caps_bare hcap, caps_pk hcap, caps_noM hcap, caps_lt hcap, caps_ids hcap, C171]
 refine ok_cv rfl (by simp only [zipF, argL, vwT, vwLeaf, vwRow_caps hcap, Bool.false_eq_true, if_false]; rfl) (IndexFunc_Write_ok l f caps p hent hcap hl hp) ?_
 try simp (disch := omega) only [go_sem, hE, hH, caps_bare hcap, caps_pk hcap, caps_noM hcap, caps_lt hcap, caps_ids hcap, ixf_any, vwC_ok hcap]
theorem Contains_String_ok (l : List ByteArray) (v : ByteArray) (hl : l.length ≤ maxLen) : ACall Tryz.prog 238 [.sl false 1 (strs l), str v] (fun r _ => r = bl (l.any fun x => decide (v = x))) := by
 refine fi H238 fun E hE hH => ?_; simp only [go_sem] at hE hH; simp only [go_sem, hE, hH, C238]
 repeat' (first | ((with_reducible first | refine gd_t ?_ ?_ | refine gd_f ?_ ?_) <;> (intro h; have hb := h; (try simp only [nf] at h); refine sb ?_; (try clear hb))) | ((with_reducible refine And.intro ?_ ?_); · omega) | ((first | refine ok_view ?_ | refine cvA (Index_String_ok _ _ hl) ?_); refine st ?_) | refine jn _ ?_ ?_ | (with_reducible first | refine both ?_ ?_ | refine And.intro ?_ ?_) | exact fe | refine st ?_ | exact fm | refine s1 ?_ | (with_reducible exact True.intro) | fail)
 rw [ixf_any]
end Go.Proofs.Wb

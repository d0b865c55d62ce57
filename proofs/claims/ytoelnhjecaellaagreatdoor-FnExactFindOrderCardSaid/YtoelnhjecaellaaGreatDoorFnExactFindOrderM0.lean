import Derived.Test.YtoelnhjecaellaaGreatDoorFnExactFindOrderTy
import Derived.Laws.Externs
set_option linter.unusedSimpArgs false
set_option linter.unusedVariables false
set_option linter.unusedSectionVars false
namespace Go.Proofs.Wb
open Go Go.Am
attribute [go_sem] isByteRow
def dg (k : Int) : ByteArray := bytesOf [[.v (.int .u8 (IntKind.u8.wrap (48 + k % 10)))]]
theorem dg_size (k : Int) : (dg k).size = 1 := rfl
def digW (k : Int) (out : ByteArray) : ByteArray := if 0 < k then digW (k / 10) (dg k ++ out) else out
termination_by k.toNat
decreasing_by omega
def mkText (k : Int) : ByteArray := if k ≤ 0 then ⟨⟨[109, 48]⟩⟩ else ⟨⟨[109]⟩⟩ ++ digW k ⟨⟨[]⟩⟩
theorem markText_ok (k : Int) (h1 : k ≤ 2 ^ 62) : ACall Tryz.prog n_laws_markText [i64 k] (fun r _ => r = str (mkText k)) := by
  refine fn_in h_laws_markText r_laws_markText ⟨by simp only [go_sem], fun E hE hH => ?_⟩; simp only [go_sem] at hE hH; simp only [go_sem, hE, hH, c_laws_markText]
  first | refine gd_t (fun h => ?_) (fun h => ?_) | refine gd_f (fun h => ?_) (fun h => ?_)
  · try simp (disch := omega) only [go_sem, hE, hH, h]
    simp only [nf] at h
    simp [mkText, h]
  try simp (disch := omega) only [go_sem, hE, hH, h]
  simp only [nf] at h
  refine loopM (fun (x : Int × ByteArray) => ⟨[(0, i64 x.1), (3, str x.2)], []⟩) (fun x => 0 ≤ x.1 ∧ x.2.size + x.1 ≤ k ∧ digW x.1 x.2 = digW k ⟨⟨[]⟩⟩) (fun x => x.1.toNat) (k, ⟨⟨[]⟩⟩) ⟨by omega, by change ((0 : Nat) : Int) + k ≤ k; omega, rfl⟩ ?_
  rintro ⟨n, out⟩ ⟨i0, i1, i2⟩
  simp only at i0 i1 i2
  try simp only [go_sem, hE, hH, c_laws_markText_l1]
  first | refine gd_t (fun hb => ?_) (fun hb => ?_) | refine gd_f (fun hb => ?_) (fun hb => ?_)
  · have hb2 := hb
    simp only [nf] at hb
    have e1 : n.tmod 10 = n % 10 := Int.tmod_eq_emod_of_nonneg i0
    have e2 : n.tdiv 10 = n / 10 := Int.tdiv_eq_ediv_of_nonneg i0
    have e3 : (bytesOf [[.v (.int .u8 (IntKind.u8.wrap (48 + n % 10)))]]) = dg n := rfl
    try simp (disch := omega) only [go_sem, hE, hH, hb2, e1, e2, e3, dg_size]
    refine ⟨by omega, by omega, by omega, ⟨n / 10, dg n ++ out⟩, rfl, ⟨by simp only; omega, ?_, ?_⟩, by simp only; omega⟩
    · rw [ByteArray.size_append, dg_size]; simp only; omega
    · rw [← i2, digW.eq_1 n out, if_pos (by omega)]
  · have hb2 := hb
    simp only [nf] at hb
    have e0 : n = 0 := by omega
    subst e0
    rw [digW, if_neg (by omega)] at i2
    try simp (disch := omega) only [go_sem, hE, hH, hb2]
    rw [mkText, if_neg (by omega), ← i2]
    have e9 : (⟨⟨[109]⟩⟩ : ByteArray).size = 1 := rfl
    exact ⟨by rw [e9]; omega, rfl⟩
def Got.mk2 (x : Got) (k : Int) : Got × Int := (⟨mkText k, mkText (k + 1), decide ((((k + 1) + 1)).tmod 3 = 0)⟩, (((k + 1) + 1) + 1))
def Got.cnt (x : Got) : Nat := 1 + 1 + 1
theorem Got.mk2_cnt (x : Got) (k : Int) : (x.mk2 k).2 = k + (x.cnt : Nat) := by
  simp only [Got.mk2, Got.cnt]
  try omega
theorem Got.cnt_le (x : Got) : x.cnt ≤ 3 * (x.sz + 1) := by
  simp only [Got.cnt, Got.sz]
  try omega
def Write.mk2 (x : Write) (k : Int) : Write × Int := (⟨mkText k, mkText (k + 1), decide ((((k + 1) + 1)).tmod 3 = 0)⟩, (((k + 1) + 1) + 1))
def Write.cnt (x : Write) : Nat := 1 + 1 + 1
theorem Write.mk2_cnt (x : Write) (k : Int) : (x.mk2 k).2 = k + (x.cnt : Nat) := by
  simp only [Write.mk2, Write.cnt]
  try omega
theorem Write.cnt_le (x : Write) : x.cnt ≤ 3 * (x.sz + 1) := by
  simp only [Write.cnt, Write.sz]
  try omega
def Deed.mk2 (x : Deed) (k : Int) : Deed × Int := (⟨k, (k + 1), ((k + 1) + 1), decide (((((k + 1) + 1) + 1)).tmod 3 = 0), decide ((((((k + 1) + 1) + 1) + 1)).tmod 3 = 0), (((((k + 1) + 1) + 1) + 1) + 1), (mkL (Got.mk2) x.Got ((((((k + 1) + 1) + 1) + 1) + 1) + 1)).1, (mkL (Write.mk2) x.Writes (mkL (Got.mk2) x.Got ((((((k + 1) + 1) + 1) + 1) + 1) + 1)).2).1⟩, (mkL (Write.mk2) x.Writes (mkL (Got.mk2) x.Got ((((((k + 1) + 1) + 1) + 1) + 1) + 1)).2).2)
def Deed.cnt (x : Deed) : Nat := 1 + 1 + 1 + 1 + 1 + 1 + cntL (Got.cnt) x.Got + cntL (Write.cnt) x.Writes
theorem Deed.mk2_cnt (x : Deed) (k : Int) : (x.mk2 k).2 = k + (x.cnt : Nat) := by
  simp only [Deed.mk2, Deed.cnt, mkN_cnt (f := Got.mk2) (c := Got.cnt) (Got.mk2_cnt), mkN_cnt (f := Write.mk2) (c := Write.cnt) (Write.mk2_cnt)]
  try omega
theorem Deed.cnt_le (x : Deed) : x.cnt ≤ 12 * (x.sz + 1) := by
  have c_Got := cntL_le (c := Got.cnt) (s := Got.sz) (A := 3) Got.cnt_le (l := x.Got)
  have c_Writes := cntL_le (c := Write.cnt) (s := Write.sz) (A := 3) Write.cnt_le (l := x.Writes)
  simp only [Deed.cnt, Deed.sz]
  try omega
def Deed.mkv (x : Deed) (k : Int) : Deed × Int := (⟨x.Txn, x.Begin, x.End, x.Yes, x.Look, x.Time, (mkL (Got.mk2) x.Got k).1, (mkL (Write.mk2) x.Writes (mkL (Got.mk2) x.Got k).2).1⟩, (mkL (Write.mk2) x.Writes (mkL (Got.mk2) x.Got k).2).2)
@[go_sem] theorem Deed.mkv_at_Txn (x : Deed) (k : Int) : (x.mkv k).1.Txn = x.Txn := rfl
@[go_sem] theorem Deed.mkv_at_Begin (x : Deed) (k : Int) : (x.mkv k).1.Begin = x.Begin := rfl
@[go_sem] theorem Deed.mkv_at_End (x : Deed) (k : Int) : (x.mkv k).1.End = x.End := rfl
@[go_sem] theorem Deed.mkv_at_Yes (x : Deed) (k : Int) : (x.mkv k).1.Yes = x.Yes := rfl
@[go_sem] theorem Deed.mkv_at_Look (x : Deed) (k : Int) : (x.mkv k).1.Look = x.Look := rfl
@[go_sem] theorem Deed.mkv_at_Time (x : Deed) (k : Int) : (x.mkv k).1.Time = x.Time := rfl
@[go_sem] theorem Deed.mkv_len_Got (x : Deed) (k : Int) : (x.mkv k).1.Got.length = x.Got.length := mkL_len
@[go_sem] theorem Deed.mkv_take_Got (x : Deed) (k : Int) : (x.mkv k).1.Got.take x.Got.length = (x.mkv k).1.Got := mkL_take
@[go_sem] theorem Deed.mkv_len_Writes (x : Deed) (k : Int) : (x.mkv k).1.Writes.length = x.Writes.length := mkL_len
@[go_sem] theorem Deed.mkv_take_Writes (x : Deed) (k : Int) : (x.mkv k).1.Writes.take x.Writes.length = (x.mkv k).1.Writes := mkL_take
theorem markIntS_ok (l : List Int) (k : Int) (h0 : 0 ≤ k) (h1 : k + (cntL (fun _ => 1) l : Nat) ≤ 2 ^ 62) : ACall Tryz.prog n_laws_markIntS [.sl true 1 (ints l), i64 k] (fun r a => r = i64 (mkL (mkI) l k).2 ∧ a = [.sl true 1 (ints (mkL (mkI) l k).1), i64 k]) := by
  refine fn_in h_laws_markIntS r_laws_markIntS ⟨by simp only [go_sem], fun E hE hH => ?_⟩; simp only [go_sem] at hE hH; simp only [go_sem, hE, hH, c_laws_markIntS]
  refine loopNe l.length (fun j (_ : Unit) => ⟨[(0, .ref 0 0 l.length), (1, i64 (mkN (mkI) l k j)), (5, i64 j)], [(0, ⟨1, ints (mkP (mkI) l k j)⟩)]⟩) (fun _ _ => True) () (by simp [mkP_zero, mkN_zero]) trivial ?_
  intro j _ hj _
  have hpl := mkP_len (f := mkI) (k := k) hj
  have hN := mkN_at (f := mkI) (c := fun _ => 1) (fun _ _ => rfl) (l := l) (k := k) (j := j)
  have hlen := cntL_len (c := fun _ => 1) (l := l) (fun x => by simp)
  try simp only [go_sem, hE, hH, c_laws_markIntS_l1]
  first | refine gd_t (fun h => ?_) (fun h => ?_) | refine gd_f (fun h => ?_) (fun h => ?_)
  · have hb := h
    simp only [nf] at h
    have hlt := h
    have hc := psum_cnt (c := fun _ => 1) hlt
    have e0 := nth_mkP (f := mkI) (k := k) hlt
    have e1 := mkP_set (f := mkI) (k := k) hlt
    have e2 := mkN_succ (f := mkI) (k := k) hlt
    simp only [mkI] at e1 e2
    generalize hk : mkN (mkI) l k j = q at *
    try simp (disch := omega) only [go_sem, hE, hH, e0, hb, hpl, e0]
    repeat' (first | ((with_reducible first | refine gd_t ?_ ?_ | refine gd_f ?_ ?_) <;> (intro h; have hb := h; (try simp only [nf] at h); simp (disch := omega) only [go_sem, hE, hH, e0, hb]; (try clear hb))) | ((with_reducible refine And.intro ?_ ?_); · omega) | ((first | refine ok_view ?_ | refine cvA (markText_ok _ (by omega)) ?_); simp (disch := omega) only [go_sem, hE, hH, e0]) | (refine jn _ ?_ ?_) | (with_reducible refine both ?_ ?_) | (with_reducible refine And.intro ?_ ?_) | (refine fin_eq ?_; (try (simp (disch := omega) only [go_sem, hE, hH, e0])); first | done | rfl) | (simp (disch := omega) only [go_sem, hE, hH, e0]) | ((first | apply noMLL_sE | apply pk_sE) <;> (simp only [go_sem, hE, hH, e0]; done)) | (simp only [go_sem, hE, hH, e0]) | fail)
    try try simp (disch := omega) only [go_sem, hE, hH, e0, hpl, e0]
    repeat' (first | (refine both ?_ ?_) | omega | ((first | apply noMLL_sE | apply pk_sE) <;> (simp only [go_sem, hE, hH, e0]; done)) | fail)
    refine ⟨(), ?_⟩
    rw [e2, ← e1]
    rfl
  · have hb := h
    simp only [nf] at h
    try simp (disch := omega) only [go_sem, hE, hH, hb]
    have e3 : j = l.length := by first | omega | (rw [mkL_len] at h; omega)
    subst e3
    rw [mkN_all (Nat.le_refl _), mkP_all (Nat.le_refl _)]
    exact ⟨mkL_len.symm, rfl, rfl⟩
theorem markGotS_ok (l : List Got) (k : Int) (h0 : 0 ≤ k) (h1 : k + (cntL (Got.cnt) l : Nat) ≤ 2 ^ 62) : ACall Tryz.prog n_laws_markGotS [.sl true 3 (l.map (Got.row true)), i64 k] (fun r a => r = i64 (mkL (Got.mk2) l k).2 ∧ a = [.sl true 3 ((mkL (Got.mk2) l k).1.map (Got.row true)), i64 k]) := by
  refine fn_in h_laws_markGotS r_laws_markGotS ⟨by simp only [go_sem], fun E hE hH => ?_⟩; simp only [go_sem] at hE hH; simp only [go_sem, hE, hH, c_laws_markGotS]
  refine loopNe l.length (fun j (_ : Unit) => ⟨[(0, .ref 0 0 l.length), (1, i64 (mkN (Got.mk2) l k j)), (5, i64 j)], [(0, ⟨3, (mkP (Got.mk2) l k j).map (Got.row true)⟩)]⟩) (fun _ _ => True) () (by simp [mkP_zero, mkN_zero]) trivial ?_
  intro j _ hj _
  have hpl := mkP_len (f := Got.mk2) (k := k) hj
  have hN := mkN_at (f := Got.mk2) (c := Got.cnt) (Got.mk2_cnt) (l := l) (k := k) (j := j)
  have hlen := cntL_len (c := Got.cnt) (l := l) (fun x => by simp only [Got.cnt]; omega)
  try simp only [go_sem, hE, hH, c_laws_markGotS_l1]
  first | refine gd_t (fun h => ?_) (fun h => ?_) | refine gd_f (fun h => ?_) (fun h => ?_)
  · have hb := h
    simp only [nf] at h
    have hlt := h
    have hc := psum_cnt (c := Got.cnt) hlt
    have e0 := nth_mkP (f := Got.mk2) (k := k) hlt
    have e1 := mkP_set (f := Got.mk2) (k := k) hlt
    have e2 := mkN_succ (f := Got.mk2) (k := k) hlt
    simp only [Got.mk2] at e1 e2
    simp only [Got.cnt] at hc
    generalize hk : mkN (Got.mk2) l k j = q at *
    try simp (disch := omega) only [go_sem, hE, hH, e0, hb, hpl, e0]
    repeat' (first | ((with_reducible first | refine gd_t ?_ ?_ | refine gd_f ?_ ?_) <;> (intro h; have hb := h; (try simp only [nf] at h); simp (disch := omega) only [go_sem, hE, hH, e0, hb]; (try clear hb))) | ((with_reducible refine And.intro ?_ ?_); · omega) | ((first | refine ok_view ?_ | refine cvA (markText_ok _ (by omega)) ?_); simp (disch := omega) only [go_sem, hE, hH, e0]) | (refine jn _ ?_ ?_) | (with_reducible refine both ?_ ?_) | (with_reducible refine And.intro ?_ ?_) | (refine fin_eq ?_; (try (simp (disch := omega) only [go_sem, hE, hH, e0])); first | done | rfl) | (simp (disch := omega) only [go_sem, hE, hH, e0]) | ((first | apply noMLL_sE | apply pk_sE) <;> (simp only [go_sem, hE, hH, e0]; done)) | (simp only [go_sem, hE, hH, e0]) | fail)
    try try simp (disch := omega) only [go_sem, hE, hH, e0, hpl, e0]
    repeat' (first | (refine both ?_ ?_) | omega | ((first | apply noMLL_sE | apply pk_sE) <;> (simp only [go_sem, hE, hH, e0]; done)) | fail)
    refine ⟨(), ?_⟩
    rw [e2, ← e1, List.map_set]
    rfl
  · have hb := h
    simp only [nf] at h
    try simp (disch := omega) only [go_sem, hE, hH, hb]
    have e3 : j = l.length := by first | omega | (rw [mkL_len] at h; omega)
    subst e3
    rw [mkN_all (Nat.le_refl _), mkP_all (Nat.le_refl _)]
    exact ⟨mkL_len.symm, rfl, rfl⟩
theorem markWriteS_ok (l : List Write) (k : Int) (h0 : 0 ≤ k) (h1 : k + (cntL (Write.cnt) l : Nat) ≤ 2 ^ 62) : ACall Tryz.prog n_laws_markWriteS [.sl true 3 (l.map (Write.row true)), i64 k] (fun r a => r = i64 (mkL (Write.mk2) l k).2 ∧ a = [.sl true 3 ((mkL (Write.mk2) l k).1.map (Write.row true)), i64 k]) := by
  refine fn_in h_laws_markWriteS r_laws_markWriteS ⟨by simp only [go_sem], fun E hE hH => ?_⟩; simp only [go_sem] at hE hH; simp only [go_sem, hE, hH, c_laws_markWriteS]
  refine loopNe l.length (fun j (_ : Unit) => ⟨[(0, .ref 0 0 l.length), (1, i64 (mkN (Write.mk2) l k j)), (5, i64 j)], [(0, ⟨3, (mkP (Write.mk2) l k j).map (Write.row true)⟩)]⟩) (fun _ _ => True) () (by simp [mkP_zero, mkN_zero]) trivial ?_
  intro j _ hj _
  have hpl := mkP_len (f := Write.mk2) (k := k) hj
  have hN := mkN_at (f := Write.mk2) (c := Write.cnt) (Write.mk2_cnt) (l := l) (k := k) (j := j)
  have hlen := cntL_len (c := Write.cnt) (l := l) (fun x => by simp only [Write.cnt]; omega)
  try simp only [go_sem, hE, hH, c_laws_markWriteS_l1]
  first | refine gd_t (fun h => ?_) (fun h => ?_) | refine gd_f (fun h => ?_) (fun h => ?_)
  · have hb := h
    simp only [nf] at h
    have hlt := h
    have hc := psum_cnt (c := Write.cnt) hlt
    have e0 := nth_mkP (f := Write.mk2) (k := k) hlt
    have e1 := mkP_set (f := Write.mk2) (k := k) hlt
    have e2 := mkN_succ (f := Write.mk2) (k := k) hlt
    simp only [Write.mk2] at e1 e2
    simp only [Write.cnt] at hc
    generalize hk : mkN (Write.mk2) l k j = q at *
    try simp (disch := omega) only [go_sem, hE, hH, e0, hb, hpl, e0]
    repeat' (first | ((with_reducible first | refine gd_t ?_ ?_ | refine gd_f ?_ ?_) <;> (intro h; have hb := h; (try simp only [nf] at h); simp (disch := omega) only [go_sem, hE, hH, e0, hb]; (try clear hb))) | ((with_reducible refine And.intro ?_ ?_); · omega) | ((first | refine ok_view ?_ | refine cvA (markText_ok _ (by omega)) ?_); simp (disch := omega) only [go_sem, hE, hH, e0]) | (refine jn _ ?_ ?_) | (with_reducible refine both ?_ ?_) | (with_reducible refine And.intro ?_ ?_) | (refine fin_eq ?_; (try (simp (disch := omega) only [go_sem, hE, hH, e0])); first | done | rfl) | (simp (disch := omega) only [go_sem, hE, hH, e0]) | ((first | apply noMLL_sE | apply pk_sE) <;> (simp only [go_sem, hE, hH, e0]; done)) | (simp only [go_sem, hE, hH, e0]) | fail)
    try try simp (disch := omega) only [go_sem, hE, hH, e0, hpl, e0]
    repeat' (first | (refine both ?_ ?_) | omega | ((first | apply noMLL_sE | apply pk_sE) <;> (simp only [go_sem, hE, hH, e0]; done)) | fail)
    refine ⟨(), ?_⟩
    rw [e2, ← e1, List.map_set]
    rfl
  · have hb := h
    simp only [nf] at h
    try simp (disch := omega) only [go_sem, hE, hH, hb]
    have e3 : j = l.length := by first | omega | (rw [mkL_len] at h; omega)
    subst e3
    rw [mkN_all (Nat.le_refl _), mkP_all (Nat.le_refl _)]
    exact ⟨mkL_len.symm, rfl, rfl⟩
theorem markDeedS_ok (l : List Deed) (k : Int) (h0 : 0 ≤ k) (h1 : k + (cntL (Deed.cnt) l : Nat) ≤ 2 ^ 62) : ACall Tryz.prog n_laws_markDeedS [.sl true 8 (l.map (Deed.row true)), i64 k] (fun r a => r = i64 (mkL (Deed.mk2) l k).2 ∧ a = [.sl true 8 ((mkL (Deed.mk2) l k).1.map (Deed.row true)), i64 k]) := by
  refine fn_in h_laws_markDeedS r_laws_markDeedS ⟨by simp only [go_sem], fun E hE hH => ?_⟩; simp only [go_sem] at hE hH; simp only [go_sem, hE, hH, c_laws_markDeedS]
  refine loopNe l.length (fun j (_ : Unit) => ⟨[(0, .ref 0 0 l.length), (1, i64 (mkN (Deed.mk2) l k j)), (5, i64 j)], [(0, ⟨8, (mkP (Deed.mk2) l k j).map (Deed.row true)⟩)]⟩) (fun _ _ => True) () (by simp [mkP_zero, mkN_zero]) trivial ?_
  intro j _ hj _
  have hpl := mkP_len (f := Deed.mk2) (k := k) hj
  have hN := mkN_at (f := Deed.mk2) (c := Deed.cnt) (Deed.mk2_cnt) (l := l) (k := k) (j := j)
  have hlen := cntL_len (c := Deed.cnt) (l := l) (fun x => by simp only [Deed.cnt]; omega)
  try simp only [go_sem, hE, hH, c_laws_markDeedS_l1]
  first | refine gd_t (fun h => ?_) (fun h => ?_) | refine gd_f (fun h => ?_) (fun h => ?_)
  · have hb := h
    simp only [nf] at h
    have hlt := h
    have hc := psum_cnt (c := Deed.cnt) hlt
    have e0 := nth_mkP (f := Deed.mk2) (k := k) hlt
    have e1 := mkP_set (f := Deed.mk2) (k := k) hlt
    have e2 := mkN_succ (f := Deed.mk2) (k := k) hlt
    simp only [Deed.mk2] at e1 e2
    simp only [Deed.cnt] at hc
    generalize hk : mkN (Deed.mk2) l k j = q at *
    have m_Got := mkN_cnt (f := Got.mk2) (c := Got.cnt) (Got.mk2_cnt) (l := (nth l j).Got) (k := ((((((q + 1) + 1) + 1) + 1) + 1) + 1))
    have m_Writes := mkN_cnt (f := Write.mk2) (c := Write.cnt) (Write.mk2_cnt) (l := (nth l j).Writes) (k := (mkL (Got.mk2) (nth l j).Got ((((((q + 1) + 1) + 1) + 1) + 1) + 1)).2)
    try simp (disch := omega) only [go_sem, hE, hH, e0, hb, hpl, e0]
    repeat' (first | ((with_reducible first | refine gd_t ?_ ?_ | refine gd_f ?_ ?_) <;> (intro h; have hb := h; (try simp only [nf] at h); simp (disch := omega) only [go_sem, hE, hH, e0, hb]; (try clear hb))) | ((with_reducible refine And.intro ?_ ?_); · omega) | (refine ok_lend [true, false] ?_; simp (disch := omega) only [go_sem, hE, hH, e0]; refine cmA (markGotS_ok ((nth l j).Got) (((((((q + 1) + 1) + 1) + 1) + 1) + 1)) (by omega) (by omega)) ?_; simp (disch := omega) only [go_sem, hE, hH, e0]) | (refine ok_lend [true, false] ?_; simp (disch := omega) only [go_sem, hE, hH, e0]; refine cmA (markWriteS_ok ((nth l j).Writes) ((mkL (Got.mk2) (nth l j).Got ((((((q + 1) + 1) + 1) + 1) + 1) + 1)).2) (by omega) (by omega)) ?_; simp (disch := omega) only [go_sem, hE, hH, e0]) | ((first | refine ok_view ?_ | refine cvA (markText_ok _ (by omega)) ?_); simp (disch := omega) only [go_sem, hE, hH, e0]) | (refine jn _ ?_ ?_) | (with_reducible refine both ?_ ?_) | (with_reducible refine And.intro ?_ ?_) | (refine fin_eq ?_; (try (simp (disch := omega) only [go_sem, hE, hH, e0])); first | done | rfl) | (simp (disch := omega) only [go_sem, hE, hH, e0]) | ((first | apply noMLL_sE | apply pk_sE) <;> (simp only [go_sem, hE, hH, e0]; done)) | (simp only [go_sem, hE, hH, e0]) | fail)
    try try simp (disch := omega) only [go_sem, hE, hH, e0, hpl, e0]
    repeat' (first | (refine both ?_ ?_) | omega | ((first | apply noMLL_sE | apply pk_sE) <;> (simp only [go_sem, hE, hH, e0]; done)) | fail)
    refine ⟨(), ?_⟩
    rw [e2, ← e1, List.map_set]
    rfl
  · have hb := h
    simp only [nf] at h
    try simp (disch := omega) only [go_sem, hE, hH, hb]
    have e3 : j = l.length := by first | omega | (rw [mkL_len] at h; omega)
    subst e3
    rw [mkN_all (Nat.le_refl _), mkP_all (Nat.le_refl _)]
    exact ⟨mkL_len.symm, rfl, rfl⟩
theorem heldIntS_ok (l : List Int) (k : Int) (h0 : 0 ≤ k) (h1 : k + (cntL (fun _ => 1) l : Nat) ≤ 2 ^ 62) : ACall Tryz.prog n_laws_heldIntS [.sl false 1 (ints (mkL (mkI) l k).1), i64 k] (fun r _ => r = i64 (mkL (mkI) l k).2) := by
  refine fn_in h_laws_heldIntS r_laws_heldIntS ⟨by simp only [go_sem], fun E hE hH => ?_⟩; simp only [go_sem] at hE hH; simp only [go_sem, hE, hH, c_laws_heldIntS]
  refine loopNe l.length (fun j (_ : Unit) => ⟨[(0, .sl false 1 (ints (mkL (mkI) l k).1)), (1, i64 (mkN (mkI) l k j)), (5, i64 j)], []⟩) (fun _ _ => True) () (by simp [mkP_zero, mkN_zero]) trivial ?_
  intro j _ hj _
  have hpl := mkL_len (f := mkI) (k := k) (l := l)
  have hN := mkN_at (f := mkI) (c := fun _ => 1) (fun _ _ => rfl) (l := l) (k := k) (j := j)
  have hlen := cntL_len (c := fun _ => 1) (l := l) (fun x => by simp)
  try simp only [go_sem, hE, hH, c_laws_heldIntS_l1]
  first | refine gd_t (fun h => ?_) (fun h => ?_) | refine gd_f (fun h => ?_) (fun h => ?_)
  · have hb := h
    simp only [nf] at h
    have hlt : j < l.length := by first | exact h | (rw [mkL_len] at h; exact h)
    have hc := psum_cnt (c := fun _ => 1) hlt
    have e0 := nth_mkL (f := mkI) (k := k) hlt
    have e2 := mkN_succ (f := mkI) (k := k) hlt
    simp only [mkI] at e0 e2
    generalize hk : mkN (mkI) l k j = q at *
    try simp (disch := omega) only [go_sem, hE, hH, e0, hb, hpl, e0]
    repeat' (first | ((with_reducible first | refine gd_t ?_ ?_ | refine gd_f ?_ ?_) <;> (intro h; have hb := h; (try simp only [nf] at h); simp (disch := omega) only [go_sem, hE, hH, e0, hb]; (try clear hb))) | ((with_reducible refine And.intro ?_ ?_); · omega) | ((first | refine ok_view ?_ | refine cvA (markText_ok _ (by omega)) ?_); simp (disch := omega) only [go_sem, hE, hH, e0]) | (refine jn _ ?_ ?_) | (with_reducible refine both ?_ ?_) | (with_reducible refine And.intro ?_ ?_) | (refine fin_eq ?_; (try (simp (disch := omega) only [go_sem, hE, hH, e0])); first | done | rfl) | (simp (disch := omega) only [go_sem, hE, hH, e0]) | ((first | apply noMLL_sE | apply pk_sE) <;> (simp only [go_sem, hE, hH, e0]; done)) | (simp only [go_sem, hE, hH, e0]) | fail)
    try try simp (disch := omega) only [go_sem, hE, hH, e0, hpl, e0]
    repeat' (first | (refine both ?_ ?_) | omega | ((first | apply noMLL_sE | apply pk_sE) <;> (simp only [go_sem, hE, hH, e0]; done)) | fail)
    refine ⟨(), ?_⟩
    rw [e2]
    rfl
  · have hb := h
    simp only [nf] at h
    try simp (disch := omega) only [go_sem, hE, hH, hb]
    have e3 : j = l.length := by first | omega | (rw [mkL_len] at h; omega)
    subst e3
    rw [mkN_all (Nat.le_refl _)]
theorem BinarySearchFunc_Write_ok (l : List Write) (key : ByteArray) (f : Nat) (caps : List T) (c : Write → Int) (hent : entB Tryz.prog f = true) (hcap : caps.all T.cap = true) (hl : l.length ≤ 2 ^ 60) (hm : ∀ i j, i < j → j < l.length → 0 ≤ c (nth l i) → 0 ≤ c (nth l j)) (hp : ∀ x, x ∈ l → ACall Tryz.prog f ([.agg (Write.row false x), str key] ++ caps) (fun r _ => r = i64 (c x))) :
    ACall Tryz.prog n_slices_BinarySearchFunc___impl_Write_impl_Write_string_ [.sl false 3 (l.map (Write.row false)), str key, .fn f caps] (fun r _ => r = .tup [i64 (bsI c l), bl (bsF c l)]) := by
  refine fn_in h_slices_BinarySearchFunc___impl_Write_impl_Write_string_ r_slices_BinarySearchFunc___impl_Write_impl_Write_string_ ⟨by simp only [go_sem, caps_bare hcap, caps_pk hcap, caps_noM hcap, caps_lt hcap, caps_ids hcap], fun E hE hH => ?_⟩; simp only [go_sem, caps_bare hcap, caps_pk hcap, caps_noM hcap, caps_lt hcap, caps_ids hcap] at hE hH; simp only [go_sem, hE, hH, caps_bare hcap, caps_pk hcap, caps_noM hcap, caps_lt hcap, caps_ids hcap, c_slices_BinarySearchFunc___impl_Write_impl_Write_string_]
  refine loopM (fun (x : Nat × Nat) => ⟨[(0, .sl false 3 (l.map (Write.row false))), (1, str key), (2, .fn f caps), (8, i64 l.length), (9, i64 x.1), (10, i64 x.2)], []⟩) (fun x => x.1 ≤ x.2 ∧ x.2 ≤ l.length ∧ (∀ i, i < x.1 → c (nth l i) < 0) ∧ ∀ i, x.2 ≤ i → i < l.length → 0 ≤ c (nth l i)) (fun x => x.2 - x.1) (0, l.length) ⟨by simp, by simp, by simp, by simp; omega⟩ ?_
  rintro ⟨lo, hi⟩ ⟨i1, i2, i3, i4⟩
  simp only at i1 i2 i3 i4
  try simp only [go_sem, hE, hH, caps_bare hcap, caps_pk hcap, caps_noM hcap, caps_lt hcap, caps_ids hcap, c_slices_BinarySearchFunc___impl_Write_impl_Write_string__l1]
  first | refine gd_t (fun h => ?_) (fun h => ?_) | refine gd_f (fun h => ?_) (fun h => ?_)
  · have hb := h
    simp only [nf] at h
    have hlt := h; clear h
    have e1 : IntKind.u64.wrap (lo + hi) = lo + hi := wrapU (by omega) (by omega)
    have e2 : Int.fdiv ((lo : Int) + hi) 2 = (((lo + hi) / 2 : Nat) : Int) := by rw [Int.fdiv_eq_ediv_of_nonneg _ (by omega)]; omega
    have hM : (lo + hi) / 2 < l.length := by omega
    try simp (disch := omega) only [go_sem, hE, hH, caps_bare hcap, caps_pk hcap, caps_noM hcap, caps_lt hcap, caps_ids hcap, hb, e1, shr1, e2]
    repeat refine And.intro (by omega) ?_
    refine ok_cfv rfl rfl rfl (hent) (hcap) (hp _ (nth_mem hM)) ?_
    try simp (disch := omega) only [go_sem, hE, hH, caps_bare hcap, caps_pk hcap, caps_noM hcap, caps_lt hcap, caps_ids hcap]
    repeat' (first | ((with_reducible first | refine gd_t ?_ ?_ | refine gd_f ?_ ?_) <;> (intro h; have hb := h; (try simp only [nf] at h); simp (disch := omega) only [go_sem, hE, hH, caps_bare hcap, caps_pk hcap, caps_noM hcap, caps_lt hcap, caps_ids hcap, hb]; (try clear hb))) | ((with_reducible refine And.intro ?_ ?_); · omega) | (refine jn _ ?_ ?_) | (with_reducible refine both ?_ ?_) | (with_reducible refine And.intro ?_ ?_) | (refine fin_eq ?_; (try (simp (disch := omega) only [go_sem, hE, hH, caps_bare hcap, caps_pk hcap, caps_noM hcap, caps_lt hcap, caps_ids hcap])); first | done | rfl) | (simp (disch := omega) only [go_sem, hE, hH, caps_bare hcap, caps_pk hcap, caps_noM hcap, caps_lt hcap, caps_ids hcap]) | ((first | apply noMLL_sE | apply pk_sE) <;> (simp only [go_sem, hE, hH, caps_bare hcap, caps_pk hcap, caps_noM hcap, caps_lt hcap, caps_ids hcap]; done)) | (simp only [go_sem, hE, hH, caps_bare hcap, caps_pk hcap, caps_noM hcap, caps_lt hcap, caps_ids hcap]) | fail)
    · refine ⟨((lo + hi) / 2 + 1, hi), rfl, ⟨by simp only; omega, i2, fun i hi' => ?_, i4⟩, by simp only; omega⟩
      simp only at hi'
      by_cases e : i = (lo + hi) / 2
      · rw [e]; exact h
      · have := hm i ((lo + hi) / 2) (by omega) hM
        omega
    · refine ⟨(lo, (lo + hi) / 2), rfl, ⟨by simp only; omega, by simp only; omega, i3, fun i h1 h2 => ?_⟩, by simp only; omega⟩
      simp only at h1
      by_cases e : i = (lo + hi) / 2
      · rw [e]; exact h
      · exact hm ((lo + hi) / 2) i (by omega) h2 h
  · have hb := h
    simp only [nf] at h
    have e0 : hi = lo := by omega
    subst e0
    have e3 := bs_end i2 i3 i4
    try simp (disch := omega) only [go_sem, hE, hH, caps_bare hcap, caps_pk hcap, caps_noM hcap, caps_lt hcap, caps_ids hcap, hb]
    first | refine gd_t (fun h2 => ?_) (fun h2 => ?_) | refine gd_f (fun h2 => ?_) (fun h2 => ?_)
    · have hb2 := h2
      simp only [nf] at h2
      have hlt : hi < l.length := by omega
      try simp (disch := omega) only [go_sem, hE, hH, caps_bare hcap, caps_pk hcap, caps_noM hcap, caps_lt hcap, caps_ids hcap, hb2]
      repeat refine And.intro (by omega) ?_
      refine ok_cfv rfl rfl rfl (hent) (hcap) (hp _ (nth_mem hlt)) ?_
      try simp (disch := omega) only [go_sem, hE, hH, caps_bare hcap, caps_pk hcap, caps_noM hcap, caps_lt hcap, caps_ids hcap]
      simp [bsF, e3, hlt]
    · try simp (disch := omega) only [go_sem, hE, hH, caps_bare hcap, caps_pk hcap, caps_noM hcap, caps_lt hcap, caps_ids hcap, h2]
      simp only [nf] at h2
      simp [bsF, e3]
      omega
theorem Clone_Write_ok (l : List Write) (hl : l.length ≤ 2 ^ 20) : ACall Tryz.prog n_slices_Clone___impl_Write_impl_Write_ [.sl false 3 (l.map (Write.row false))] (fun r _ => r = .sl true 3 (l.map (Write.row false))) := by
  refine fn_in h_slices_Clone___impl_Write_impl_Write_ r_slices_Clone___impl_Write_impl_Write_ ⟨by simp only [go_sem], fun E hE hH => ?_⟩; simp only [go_sem] at hE hH; simp only [go_sem, hE, hH, c_slices_Clone___impl_Write_impl_Write_]
  refine ok_isn ?_
  try simp (disch := omega) only [go_sem, hE, hH]
  intro b hb
  cases b <;> try simp (disch := omega) only [go_sem, hE, hH]
  all_goals first | omega | (simp_all; done) | (simp_all; exact ⟨by omega, fun a _ => rfl⟩)
theorem IndexFunc_Deed_ok (l : List Deed) (f : Nat) (caps : List T) (p : Deed → Bool) (hent : entB Tryz.prog f = true) (hcap : caps.all T.cap = true) (hl : l.length ≤ maxLen) (hp : ∀ x, x ∈ l → ACall Tryz.prog f ([.agg (Deed.row false x)] ++ caps) (fun r _ => r = bl (p x))) :
    ACall Tryz.prog n_slices_IndexFunc___impl_Deed_impl_Deed_ [.sl false 8 (l.map (Deed.row false)), .fn f caps] (fun r _ => r = i64 (ixf p l)) := by
  have hmx := mx_eq
  refine fn_in h_slices_IndexFunc___impl_Deed_impl_Deed_ r_slices_IndexFunc___impl_Deed_impl_Deed_ ⟨by simp only [go_sem, caps_bare hcap, caps_pk hcap, caps_noM hcap, caps_lt hcap, caps_ids hcap], fun E hE hH => ?_⟩; simp only [go_sem, caps_bare hcap, caps_pk hcap, caps_noM hcap, caps_lt hcap, caps_ids hcap] at hE hH; simp only [go_sem, hE, hH, caps_bare hcap, caps_pk hcap, caps_noM hcap, caps_lt hcap, caps_ids hcap, c_slices_IndexFunc___impl_Deed_impl_Deed_]
  refine loopN l.length (fun j (_ : Unit) => ⟨[(0, .sl false 8 (l.map (Deed.row false))), (1, .fn f caps), (7, i64 l.length), (8, i64 j)], []⟩) (fun j _ => allN (fun i => !p (nth l i)) j = true) () rfl ?_
  intro j _ hj hI
  try simp only [go_sem, hE, hH, caps_bare hcap, caps_pk hcap, caps_noM hcap, caps_lt hcap, caps_ids hcap, c_slices_IndexFunc___impl_Deed_impl_Deed__l1]
  first | refine gd_t (fun h => ?_) (fun h => ?_) | refine gd_f (fun h => ?_) (fun h => ?_)
  · have hb := h
    simp only [nf] at h
    have hlt := h; clear h
    try simp (disch := omega) only [go_sem, hE, hH, caps_bare hcap, caps_pk hcap, caps_noM hcap, caps_lt hcap, caps_ids hcap, hb]
    refine And.intro (by omega) ?_
    refine ok_cfv rfl rfl rfl (hent) (hcap) (hp _ (nth_mem hlt)) ?_
    try simp (disch := omega) only [go_sem, hE, hH, caps_bare hcap, caps_pk hcap, caps_noM hcap, caps_lt hcap, caps_ids hcap]
    repeat' (first | ((with_reducible first | refine gd_t ?_ ?_ | refine gd_f ?_ ?_) <;> (intro h; have hb := h; (try simp only [nf] at h); simp (disch := omega) only [go_sem, hE, hH, caps_bare hcap, caps_pk hcap, caps_noM hcap, caps_lt hcap, caps_ids hcap, hb]; (try clear hb))) | ((with_reducible refine And.intro ?_ ?_); · omega) | (refine jn _ ?_ ?_) | (with_reducible refine both ?_ ?_) | (with_reducible refine And.intro ?_ ?_) | (refine fin_eq ?_; (try (simp (disch := omega) only [go_sem, hE, hH, caps_bare hcap, caps_pk hcap, caps_noM hcap, caps_lt hcap, caps_ids hcap])); first | done | rfl) | (simp (disch := omega) only [go_sem, hE, hH, caps_bare hcap, caps_pk hcap, caps_noM hcap, caps_lt hcap, caps_ids hcap]) | ((first | apply noMLL_sE | apply pk_sE) <;> (simp only [go_sem, hE, hH, caps_bare hcap, caps_pk hcap, caps_noM hcap, caps_lt hcap, caps_ids hcap]; done)) | (simp only [go_sem, hE, hH, caps_bare hcap, caps_pk hcap, caps_noM hcap, caps_lt hcap, caps_ids hcap]) | fail)
    · rw [ixf_at hlt hI h]
    · exact ⟨(), rfl, allN_step hI (by simp [h])⟩
  · try simp (disch := omega) only [go_sem, hE, hH, caps_bare hcap, caps_pk hcap, caps_noM hcap, caps_lt hcap, caps_ids hcap, h]
    simp only [nf] at h
    rw [show j = l.length by omega] at hI
    rw [ixf_none hI]
theorem IndexFunc_Got_ok (l : List Got) (f : Nat) (caps : List T) (p : Got → Bool) (hent : entB Tryz.prog f = true) (hcap : caps.all T.cap = true) (hl : l.length ≤ maxLen) (hp : ∀ x, x ∈ l → ACall Tryz.prog f ([.agg (Got.row false x)] ++ caps) (fun r _ => r = bl (p x))) :
    ACall Tryz.prog n_slices_IndexFunc___impl_Got_impl_Got_ [.sl false 3 (l.map (Got.row false)), .fn f caps] (fun r _ => r = i64 (ixf p l)) := by
  have hmx := mx_eq
  refine fn_in h_slices_IndexFunc___impl_Got_impl_Got_ r_slices_IndexFunc___impl_Got_impl_Got_ ⟨by simp only [go_sem, caps_bare hcap, caps_pk hcap, caps_noM hcap, caps_lt hcap, caps_ids hcap], fun E hE hH => ?_⟩; simp only [go_sem, caps_bare hcap, caps_pk hcap, caps_noM hcap, caps_lt hcap, caps_ids hcap] at hE hH; simp only [go_sem, hE, hH, caps_bare hcap, caps_pk hcap, caps_noM hcap, caps_lt hcap, caps_ids hcap, c_slices_IndexFunc___impl_Got_impl_Got_]
  refine loopN l.length (fun j (_ : Unit) => ⟨[(0, .sl false 3 (l.map (Got.row false))), (1, .fn f caps), (7, i64 l.length), (8, i64 j)], []⟩) (fun j _ => allN (fun i => !p (nth l i)) j = true) () rfl ?_
  intro j _ hj hI
  try simp only [go_sem, hE, hH, caps_bare hcap, caps_pk hcap, caps_noM hcap, caps_lt hcap, caps_ids hcap, c_slices_IndexFunc___impl_Got_impl_Got__l1]
  first | refine gd_t (fun h => ?_) (fun h => ?_) | refine gd_f (fun h => ?_) (fun h => ?_)
  · have hb := h
    simp only [nf] at h
    have hlt := h; clear h
    try simp (disch := omega) only [go_sem, hE, hH, caps_bare hcap, caps_pk hcap, caps_noM hcap, caps_lt hcap, caps_ids hcap, hb]
    refine And.intro (by omega) ?_
    refine ok_cfv rfl rfl rfl (hent) (hcap) (hp _ (nth_mem hlt)) ?_
    try simp (disch := omega) only [go_sem, hE, hH, caps_bare hcap, caps_pk hcap, caps_noM hcap, caps_lt hcap, caps_ids hcap]
    repeat' (first | ((with_reducible first | refine gd_t ?_ ?_ | refine gd_f ?_ ?_) <;> (intro h; have hb := h; (try simp only [nf] at h); simp (disch := omega) only [go_sem, hE, hH, caps_bare hcap, caps_pk hcap, caps_noM hcap, caps_lt hcap, caps_ids hcap, hb]; (try clear hb))) | ((with_reducible refine And.intro ?_ ?_); · omega) | (refine jn _ ?_ ?_) | (with_reducible refine both ?_ ?_) | (with_reducible refine And.intro ?_ ?_) | (refine fin_eq ?_; (try (simp (disch := omega) only [go_sem, hE, hH, caps_bare hcap, caps_pk hcap, caps_noM hcap, caps_lt hcap, caps_ids hcap])); first | done | rfl) | (simp (disch := omega) only [go_sem, hE, hH, caps_bare hcap, caps_pk hcap, caps_noM hcap, caps_lt hcap, caps_ids hcap]) | ((first | apply noMLL_sE | apply pk_sE) <;> (simp only [go_sem, hE, hH, caps_bare hcap, caps_pk hcap, caps_noM hcap, caps_lt hcap, caps_ids hcap]; done)) | (simp only [go_sem, hE, hH, caps_bare hcap, caps_pk hcap, caps_noM hcap, caps_lt hcap, caps_ids hcap]) | fail)
    · rw [ixf_at hlt hI h]
    · exact ⟨(), rfl, allN_step hI (by simp [h])⟩
  · try simp (disch := omega) only [go_sem, hE, hH, caps_bare hcap, caps_pk hcap, caps_noM hcap, caps_lt hcap, caps_ids hcap, h]
    simp only [nf] at h
    rw [show j = l.length by omega] at hI
    rw [ixf_none hI]
theorem IndexFunc_Write_ok (l : List Write) (f : Nat) (caps : List T) (p : Write → Bool) (hent : entB Tryz.prog f = true) (hcap : caps.all T.cap = true) (hl : l.length ≤ maxLen) (hp : ∀ x, x ∈ l → ACall Tryz.prog f ([.agg (Write.row false x)] ++ caps) (fun r _ => r = bl (p x))) :
    ACall Tryz.prog n_slices_IndexFunc___impl_Write_impl_Write_ [.sl false 3 (l.map (Write.row false)), .fn f caps] (fun r _ => r = i64 (ixf p l)) := by
  have hmx := mx_eq
  refine fn_in h_slices_IndexFunc___impl_Write_impl_Write_ r_slices_IndexFunc___impl_Write_impl_Write_ ⟨by simp only [go_sem, caps_bare hcap, caps_pk hcap, caps_noM hcap, caps_lt hcap, caps_ids hcap], fun E hE hH => ?_⟩; simp only [go_sem, caps_bare hcap, caps_pk hcap, caps_noM hcap, caps_lt hcap, caps_ids hcap] at hE hH; simp only [go_sem, hE, hH, caps_bare hcap, caps_pk hcap, caps_noM hcap, caps_lt hcap, caps_ids hcap, c_slices_IndexFunc___impl_Write_impl_Write_]
  refine loopN l.length (fun j (_ : Unit) => ⟨[(0, .sl false 3 (l.map (Write.row false))), (1, .fn f caps), (7, i64 l.length), (8, i64 j)], []⟩) (fun j _ => allN (fun i => !p (nth l i)) j = true) () rfl ?_
  intro j _ hj hI
  try simp only [go_sem, hE, hH, caps_bare hcap, caps_pk hcap, caps_noM hcap, caps_lt hcap, caps_ids hcap, c_slices_IndexFunc___impl_Write_impl_Write__l1]
  first | refine gd_t (fun h => ?_) (fun h => ?_) | refine gd_f (fun h => ?_) (fun h => ?_)
  · have hb := h
    simp only [nf] at h
    have hlt := h; clear h
    try simp (disch := omega) only [go_sem, hE, hH, caps_bare hcap, caps_pk hcap, caps_noM hcap, caps_lt hcap, caps_ids hcap, hb]
    refine And.intro (by omega) ?_
    refine ok_cfv rfl rfl rfl (hent) (hcap) (hp _ (nth_mem hlt)) ?_
    try simp (disch := omega) only [go_sem, hE, hH, caps_bare hcap, caps_pk hcap, caps_noM hcap, caps_lt hcap, caps_ids hcap]
    repeat' (first | ((with_reducible first | refine gd_t ?_ ?_ | refine gd_f ?_ ?_) <;> (intro h; have hb := h; (try simp only [nf] at h); simp (disch := omega) only [go_sem, hE, hH, caps_bare hcap, caps_pk hcap, caps_noM hcap, caps_lt hcap, caps_ids hcap, hb]; (try clear hb))) | ((with_reducible refine And.intro ?_ ?_); · omega) | (refine jn _ ?_ ?_) | (with_reducible refine both ?_ ?_) | (with_reducible refine And.intro ?_ ?_) | (refine fin_eq ?_; (try (simp (disch := omega) only [go_sem, hE, hH, caps_bare hcap, caps_pk hcap, caps_noM hcap, caps_lt hcap, caps_ids hcap])); first | done | rfl) | (simp (disch := omega) only [go_sem, hE, hH, caps_bare hcap, caps_pk hcap, caps_noM hcap, caps_lt hcap, caps_ids hcap]) | ((first | apply noMLL_sE | apply pk_sE) <;> (simp only [go_sem, hE, hH, caps_bare hcap, caps_pk hcap, caps_noM hcap, caps_lt hcap, caps_ids hcap]; done)) | (simp only [go_sem, hE, hH, caps_bare hcap, caps_pk hcap, caps_noM hcap, caps_lt hcap, caps_ids hcap]) | fail)
    · rw [ixf_at hlt hI h]
    · exact ⟨(), rfl, allN_step hI (by simp [h])⟩
  · try simp (disch := omega) only [go_sem, hE, hH, caps_bare hcap, caps_pk hcap, caps_noM hcap, caps_lt hcap, caps_ids hcap, h]
    simp only [nf] at h
    rw [show j = l.length by omega] at hI
    rw [ixf_none hI]
theorem IndexFunc_Int_ok (l : List Int) (f : Nat) (caps : List T) (p : Int → Bool) (hent : entB Tryz.prog f = true) (hcap : caps.all T.cap = true) (hl : l.length ≤ maxLen) (hp : ∀ x, x ∈ l → ACall Tryz.prog f ([i64 x] ++ caps) (fun r _ => r = bl (p x))) :
    ACall Tryz.prog n_slices_IndexFunc___int_int_ [.sl false 1 (ints l), .fn f caps] (fun r _ => r = i64 (ixf p l)) := by
  have hmx := mx_eq
  refine fn_in h_slices_IndexFunc___int_int_ r_slices_IndexFunc___int_int_ ⟨by simp only [go_sem, caps_bare hcap, caps_pk hcap, caps_noM hcap, caps_lt hcap, caps_ids hcap], fun E hE hH => ?_⟩; simp only [go_sem, caps_bare hcap, caps_pk hcap, caps_noM hcap, caps_lt hcap, caps_ids hcap] at hE hH; simp only [go_sem, hE, hH, caps_bare hcap, caps_pk hcap, caps_noM hcap, caps_lt hcap, caps_ids hcap, c_slices_IndexFunc___int_int_]
  refine loopN l.length (fun j (_ : Unit) => ⟨[(0, .sl false 1 (ints l)), (1, .fn f caps), (7, i64 l.length), (8, i64 j)], []⟩) (fun j _ => allN (fun i => !p (nth l i)) j = true) () rfl ?_
  intro j _ hj hI
  try simp only [go_sem, hE, hH, caps_bare hcap, caps_pk hcap, caps_noM hcap, caps_lt hcap, caps_ids hcap, c_slices_IndexFunc___int_int__l1]
  first | refine gd_t (fun h => ?_) (fun h => ?_) | refine gd_f (fun h => ?_) (fun h => ?_)
  · have hb := h
    simp only [nf] at h
    have hlt := h; clear h
    try simp (disch := omega) only [go_sem, hE, hH, caps_bare hcap, caps_pk hcap, caps_noM hcap, caps_lt hcap, caps_ids hcap, hb]
    refine And.intro (by omega) ?_
    refine ok_cfv rfl rfl rfl (hent) (hcap) (hp _ (nth_mem hlt)) ?_
    try simp (disch := omega) only [go_sem, hE, hH, caps_bare hcap, caps_pk hcap, caps_noM hcap, caps_lt hcap, caps_ids hcap]
    repeat' (first | ((with_reducible first | refine gd_t ?_ ?_ | refine gd_f ?_ ?_) <;> (intro h; have hb := h; (try simp only [nf] at h); simp (disch := omega) only [go_sem, hE, hH, caps_bare hcap, caps_pk hcap, caps_noM hcap, caps_lt hcap, caps_ids hcap, hb]; (try clear hb))) | ((with_reducible refine And.intro ?_ ?_); · omega) | (refine jn _ ?_ ?_) | (with_reducible refine both ?_ ?_) | (with_reducible refine And.intro ?_ ?_) | (refine fin_eq ?_; (try (simp (disch := omega) only [go_sem, hE, hH, caps_bare hcap, caps_pk hcap, caps_noM hcap, caps_lt hcap, caps_ids hcap])); first | done | rfl) | (simp (disch := omega) only [go_sem, hE, hH, caps_bare hcap, caps_pk hcap, caps_noM hcap, caps_lt hcap, caps_ids hcap]) | ((first | apply noMLL_sE | apply pk_sE) <;> (simp only [go_sem, hE, hH, caps_bare hcap, caps_pk hcap, caps_noM hcap, caps_lt hcap, caps_ids hcap]; done)) | (simp only [go_sem, hE, hH, caps_bare hcap, caps_pk hcap, caps_noM hcap, caps_lt hcap, caps_ids hcap]) | fail)
    · rw [ixf_at hlt hI h]
    · exact ⟨(), rfl, allN_step hI (by simp [h])⟩
  · try simp (disch := omega) only [go_sem, hE, hH, caps_bare hcap, caps_pk hcap, caps_noM hcap, caps_lt hcap, caps_ids hcap, h]
    simp only [nf] at h
    rw [show j = l.length by omega] at hI
    rw [ixf_none hI]
theorem Insert_Write_ok (l v : List Write) (i : Int) (hi : 0 ≤ i) (hin : i ≤ l.length) (hl : l.length ≤ 2 ^ 20) (hv : v.length ≤ 2 ^ 20) : ACall Tryz.prog n_slices_Insert___impl_Write_impl_Write_ [.sl true 3 (l.map (Write.row true)), i64 i, .sl false 3 (v.map (Write.row false))] (fun r a => r = .sl true 3 ((l.take i.toNat ++ v ++ l.drop i.toNat).map (Write.row true)) ∧ a = [.any, i64 i, .sl false 3 (v.map (Write.row false))]) := by
  have hmx := mx_eq
  refine fn_inC [true, false, false] 0 3 (l.map (Write.row true)) h_slices_Insert___impl_Write_impl_Write_ r_slices_Insert___impl_Write_impl_Write_ (by simp only [go_sem, List.mem_cons, true_or, or_true]) (by simp only [go_sem]) ⟨by simp only [go_sem], fun E hE hH c hc hF => ?_⟩; simp only [go_sem] at hE hH hc hF; simp only [go_sem, hE, hH, c_slices_Insert___impl_Write_impl_Write_]
  have e0 : l.length + (c - l.length) = c := by omega
  have hn : i.toNat ≤ l.length := by omega
  have t1 : ((l.length : Int) + v.length - i).toNat = l.length + v.length - i.toNat := by omega
  have t2 : (i + (v.length : Int)).toNat = i.toNat + v.length := by omega
  have t3 : ((l.length : Int) + v.length).toNat = l.length + v.length := by omega
  have t4 : i.toNat + (l.length + v.length - i.toNat) = l.length + v.length := by omega
  have t5 : l.length + v.length - (i.toNat + v.length) = l.length - i.toNat := by omega
  have t6 : min (l.length - i.toNat) (l.length + v.length - i.toNat) = l.length - i.toNat := by omega
  have t7 : i.toNat + (l.length - i.toNat) = l.length := by omega
  have a1 := ins_take (f := Write.row true) (l := l) (G := List.replicate (c - l.length) (anyRow 3)) (Nat.le_refl l.length)
  have a2 := ins_take (f := Write.row true) (l := l) (G := List.replicate (c - l.length) (anyRow 3)) hn
  have a3 := ins_mid (f := Write.row true) (l := l) (G := List.replicate (c - l.length) (anyRow 3)) hn
  have a4 : v.take (l.length + v.length - i.toNat) = v := List.take_of_length_le (by omega)
  have b1 := fun z => ins_len1 (f := Write.row true) (g := fun x => (Write.row true) x) (v := v) (z := z) hn
  have b2 := fun z => ins_len2 (f := Write.row true) (g := fun x => (Write.row true) x) (v := v) (z := z) hn
  have b3 := fun z => ins_rows1 (f := Write.row true) (v := v) (z := z) hn
  have b4 := ins_app (f := Write.row true) (v := v) (l := l)
  have d1 := fun z hc => fit_len1 (f := Write.row true) (m := v.length) (c := c) (z := z) hn hc
  have d2 := fun z hc => fit_len2 (f := Write.row true) (g := fun x => (Write.row true) x) (v := v) (c := c) (z := z) hn hc
  have d3 := fun z hc => fit_rows (f := Write.row true) (v := v) (c := c) (z := z) hn hc
  have t8 : min (l.length + v.length - i.toNat) v.length = v.length := by omega
  have t9 : i.toNat + v.length + (l.length - i.toNat) = l.length + v.length := by omega
  simp only [go_sem] at a1 a2 a3 b1 b2 b3 b4 d1 d2 d3
  repeat' (first | ((with_reducible first | refine gd_t ?_ ?_ | refine gd_f ?_ ?_) <;> (intro h; have hb := h; (try simp only [nf] at h); simp (disch := omega) only [go_sem, hE, hH, e0, hF, t1, t2, t3, t4, t5, t6, t7, t8, t9, d1, d2, d3, a1, a2, a3, a4, b1, b2, b3, b4, List.take_length, List.length_drop, Nat.add_sub_cancel_left, List.length_take, Nat.min_eq_left hn, Nat.min_self, hb]; (try clear hb))) | ((with_reducible refine And.intro ?_ ?_); · omega) | (refine jn _ ?_ ?_) | (with_reducible refine both ?_ ?_) | (with_reducible refine And.intro ?_ ?_) | (refine fin_eq ?_; (try (simp (disch := omega) only [go_sem, hE, hH, e0, hF, t1, t2, t3, t4, t5, t6, t7, t8, t9, d1, d2, d3, a1, a2, a3, a4, b1, b2, b3, b4, List.take_length, List.length_drop, Nat.add_sub_cancel_left, List.length_take, Nat.min_eq_left hn, Nat.min_self])); first | done | rfl) | (simp (disch := omega) only [go_sem, hE, hH, e0, hF, t1, t2, t3, t4, t5, t6, t7, t8, t9, d1, d2, d3, a1, a2, a3, a4, b1, b2, b3, b4, List.take_length, List.length_drop, Nat.add_sub_cancel_left, List.length_take, Nat.min_eq_left hn, Nat.min_self]) | ((first | apply noMLL_sE | apply pk_sE) <;> (simp only [go_sem, hE, hH, e0, hF, t1, t2, t3, t4, t5, t6, t7, t8, t9, d1, d2, d3, a1, a2, a3, a4, b1, b2, b3, b4, List.take_length, List.length_drop, Nat.add_sub_cancel_left, List.length_take, Nat.min_eq_left hn, Nat.min_self]; done)) | (simp only [go_sem, hE, hH, e0, hF, t1, t2, t3, t4, t5, t6, t7, t8, t9, d1, d2, d3, a1, a2, a3, a4, b1, b2, b3, b4, List.take_length, List.length_drop, Nat.add_sub_cancel_left, List.length_take, Nat.min_eq_left hn, Nat.min_self]) | fail)
  all_goals try (refine ok_ovl rfl rfl rfl u_slices_overlaps_impl_Write_ wd_slices_overlaps_impl_Write_ x_slices_overlaps_impl_Write_ (by decide) (by simp only [List.length_map]; omega) (by simp only [go_sem]; omega) ?_)
  repeat' (first | ((with_reducible first | refine gd_t ?_ ?_ | refine gd_f ?_ ?_) <;> (intro h; have hb := h; (try simp only [nf] at h); simp (disch := omega) only [go_sem, hE, hH, e0, hF, t1, t2, t3, t4, t5, t6, t7, t8, t9, d1, d2, d3, a1, a2, a3, a4, b1, b2, b3, b4, List.take_length, List.length_drop, Nat.add_sub_cancel_left, List.length_take, Nat.min_eq_left hn, Nat.min_self, hb]; (try clear hb))) | ((with_reducible refine And.intro ?_ ?_); · omega) | (refine jn _ ?_ ?_) | (with_reducible refine both ?_ ?_) | (with_reducible refine And.intro ?_ ?_) | (refine fin_eq ?_; (try (simp (disch := omega) only [go_sem, hE, hH, e0, hF, t1, t2, t3, t4, t5, t6, t7, t8, t9, d1, d2, d3, a1, a2, a3, a4, b1, b2, b3, b4, List.take_length, List.length_drop, Nat.add_sub_cancel_left, List.length_take, Nat.min_eq_left hn, Nat.min_self])); first | done | rfl) | (simp (disch := omega) only [go_sem, hE, hH, e0, hF, t1, t2, t3, t4, t5, t6, t7, t8, t9, d1, d2, d3, a1, a2, a3, a4, b1, b2, b3, b4, List.take_length, List.length_drop, Nat.add_sub_cancel_left, List.length_take, Nat.min_eq_left hn, Nat.min_self]) | ((first | apply noMLL_sE | apply pk_sE) <;> (simp only [go_sem, hE, hH, e0, hF, t1, t2, t3, t4, t5, t6, t7, t8, t9, d1, d2, d3, a1, a2, a3, a4, b1, b2, b3, b4, List.take_length, List.length_drop, Nat.add_sub_cancel_left, List.length_take, Nat.min_eq_left hn, Nat.min_self]; done)) | (simp only [go_sem, hE, hH, e0, hF, t1, t2, t3, t4, t5, t6, t7, t8, t9, d1, d2, d3, a1, a2, a3, a4, b1, b2, b3, b4, List.take_length, List.length_drop, Nat.add_sub_cancel_left, List.length_take, Nat.min_eq_left hn, Nat.min_self]) | fail)
  · have e : v = [] := List.length_eq_zero_iff.1 (by omega)
    subst e
    rw [List.append_nil, List.take_append_drop]
  · have e : i.toNat = l.length := by omega
    rw [e, List.take_length, List.drop_length, List.append_nil, List.map_append]
    try rfl
  all_goals omega
theorem ContainsFunc_Deed_ok (l : List Deed) (f : Nat) (caps : List T) (p : Deed → Bool) (hent : entB Tryz.prog f = true) (hcap : caps.all T.cap = true) (hl : l.length ≤ maxLen) (hp : ∀ x, x ∈ l → ACall Tryz.prog f ([.agg (Deed.row false x)] ++ caps) (fun r _ => r = bl (p x))) :
    ACall Tryz.prog n_slices_ContainsFunc___impl_Deed_impl_Deed_ [.sl false 8 (l.map (Deed.row false)), .fn f caps] (fun r _ => r = bl (l.any p)) := by
  refine fn_in h_slices_ContainsFunc___impl_Deed_impl_Deed_ r_slices_ContainsFunc___impl_Deed_impl_Deed_ ⟨by simp only [go_sem, caps_bare hcap, caps_pk hcap, caps_noM hcap, caps_lt hcap, caps_ids hcap], fun E hE hH => ?_⟩; simp only [go_sem, caps_bare hcap, caps_pk hcap, caps_noM hcap, caps_lt hcap, caps_ids hcap] at hE hH; simp only [go_sem, hE, hH, caps_bare hcap, caps_pk hcap, caps_noM hcap, caps_lt hcap, caps_ids hcap, c_slices_ContainsFunc___impl_Deed_impl_Deed_]
  refine ok_cv rfl (by simp only [zipF, argL, vwT, vwLeaf, vwRow_caps hcap, Bool.false_eq_true, if_false]; rfl) (IndexFunc_Deed_ok l f caps p hent hcap hl hp) ?_
  try simp (disch := omega) only [go_sem, hE, hH, caps_bare hcap, caps_pk hcap, caps_noM hcap, caps_lt hcap, caps_ids hcap, ixf_any, vwC_ok hcap]
theorem ContainsFunc_Got_ok (l : List Got) (f : Nat) (caps : List T) (p : Got → Bool) (hent : entB Tryz.prog f = true) (hcap : caps.all T.cap = true) (hl : l.length ≤ maxLen) (hp : ∀ x, x ∈ l → ACall Tryz.prog f ([.agg (Got.row false x)] ++ caps) (fun r _ => r = bl (p x))) :
    ACall Tryz.prog n_slices_ContainsFunc___impl_Got_impl_Got_ [.sl false 3 (l.map (Got.row false)), .fn f caps] (fun r _ => r = bl (l.any p)) := by
  refine fn_in h_slices_ContainsFunc___impl_Got_impl_Got_ r_slices_ContainsFunc___impl_Got_impl_Got_ ⟨by simp only [go_sem, caps_bare hcap, caps_pk hcap, caps_noM hcap, caps_lt hcap, caps_ids hcap], fun E hE hH => ?_⟩; simp only [go_sem, caps_bare hcap, caps_pk hcap, caps_noM hcap, caps_lt hcap, caps_ids hcap] at hE hH; simp only [go_sem, hE, hH, caps_bare hcap, caps_pk hcap, caps_noM hcap, caps_lt hcap, caps_ids hcap, c_slices_ContainsFunc___impl_Got_impl_Got_]
  refine ok_cv rfl (by simp only [zipF, argL, vwT, vwLeaf, vwRow_caps hcap, Bool.false_eq_true, if_false]; rfl) (IndexFunc_Got_ok l f caps p hent hcap hl hp) ?_
  try simp (disch := omega) only [go_sem, hE, hH, caps_bare hcap, caps_pk hcap, caps_noM hcap, caps_lt hcap, caps_ids hcap, ixf_any, vwC_ok hcap]
theorem ContainsFunc_Write_ok (l : List Write) (f : Nat) (caps : List T) (p : Write → Bool) (hent : entB Tryz.prog f = true) (hcap : caps.all T.cap = true) (hl : l.length ≤ maxLen) (hp : ∀ x, x ∈ l → ACall Tryz.prog f ([.agg (Write.row false x)] ++ caps) (fun r _ => r = bl (p x))) :
    ACall Tryz.prog n_slices_ContainsFunc___impl_Write_impl_Write_ [.sl false 3 (l.map (Write.row false)), .fn f caps] (fun r _ => r = bl (l.any p)) := by
  refine fn_in h_slices_ContainsFunc___impl_Write_impl_Write_ r_slices_ContainsFunc___impl_Write_impl_Write_ ⟨by simp only [go_sem, caps_bare hcap, caps_pk hcap, caps_noM hcap, caps_lt hcap, caps_ids hcap], fun E hE hH => ?_⟩; simp only [go_sem, caps_bare hcap, caps_pk hcap, caps_noM hcap, caps_lt hcap, caps_ids hcap] at hE hH; simp only [go_sem, hE, hH, caps_bare hcap, caps_pk hcap, caps_noM hcap, caps_lt hcap, caps_ids hcap, c_slices_ContainsFunc___impl_Write_impl_Write_]
  refine ok_cv rfl (by simp only [zipF, argL, vwT, vwLeaf, vwRow_caps hcap, Bool.false_eq_true, if_false]; rfl) (IndexFunc_Write_ok l f caps p hent hcap hl hp) ?_
  try simp (disch := omega) only [go_sem, hE, hH, caps_bare hcap, caps_pk hcap, caps_noM hcap, caps_lt hcap, caps_ids hcap, ixf_any, vwC_ok hcap]
theorem ContainsFunc_Int_ok (l : List Int) (f : Nat) (caps : List T) (p : Int → Bool) (hent : entB Tryz.prog f = true) (hcap : caps.all T.cap = true) (hl : l.length ≤ maxLen) (hp : ∀ x, x ∈ l → ACall Tryz.prog f ([i64 x] ++ caps) (fun r _ => r = bl (p x))) :
    ACall Tryz.prog n_slices_ContainsFunc___int_int_ [.sl false 1 (ints l), .fn f caps] (fun r _ => r = bl (l.any p)) := by
  refine fn_in h_slices_ContainsFunc___int_int_ r_slices_ContainsFunc___int_int_ ⟨by simp only [go_sem, caps_bare hcap, caps_pk hcap, caps_noM hcap, caps_lt hcap, caps_ids hcap], fun E hE hH => ?_⟩; simp only [go_sem, caps_bare hcap, caps_pk hcap, caps_noM hcap, caps_lt hcap, caps_ids hcap] at hE hH; simp only [go_sem, hE, hH, caps_bare hcap, caps_pk hcap, caps_noM hcap, caps_lt hcap, caps_ids hcap, c_slices_ContainsFunc___int_int_]
  refine ok_cv rfl (by simp only [zipF, argL, vwT, vwLeaf, vwRow_caps hcap, Bool.false_eq_true, if_false]; rfl) (IndexFunc_Int_ok l f caps p hent hcap hl hp) ?_
  try simp (disch := omega) only [go_sem, hE, hH, caps_bare hcap, caps_pk hcap, caps_noM hcap, caps_lt hcap, caps_ids hcap, ixf_any, vwC_ok hcap]
def kpL {α : Type} (p : α → Bool) (l : List α) (j : Nat) : List α := (l.take j).filter fun x => !p x
def dfL {α : Type} (p : α → Bool) (l : List α) (j : Nat) : List α := kpL p l j ++ l.drop (kpL p l j).length
theorem kpL_le {α : Type} {p : α → Bool} {l : List α} {j : Nat} : (kpL p l j).length ≤ min j l.length := by
  have h := List.length_filter_le (fun x => !p x) (l.take j)
  rw [List.length_take] at h
  exact h
theorem dfL_len {α : Type} {p : α → Bool} {l : List α} {j : Nat} : (dfL p l j).length = l.length := by
  have := kpL_le (p := p) (l := l) (j := j)
  rw [dfL, List.length_append, List.length_drop]; omega
theorem kpL_yes {α : Type} [Inhabited α] {p : α → Bool} {l : List α} {j : Nat} (hj : j < l.length) (h : p (nth l j) = true) : kpL p l (j + 1) = kpL p l j := by
  simp [kpL, take_nth hj, List.filter_append, h]
theorem kpL_no {α : Type} [Inhabited α] {p : α → Bool} {l : List α} {j : Nat} (hj : j < l.length) (h : p (nth l j) = false) : kpL p l (j + 1) = kpL p l j ++ [nth l j] := by
  simp [kpL, take_nth hj, List.filter_append, h]
theorem dfL_nth {α : Type} [Inhabited α] {p : α → Bool} {l : List α} {j : Nat} : nth (dfL p l j) j = nth l j := by
  have := kpL_le (p := p) (l := l) (j := j)
  rw [dfL, nth, nth, List.getD_eq_getElem?_getD, List.getD_eq_getElem?_getD, List.getElem?_append_right (by omega), List.getElem?_drop]
  congr 2; omega
theorem dfL_yes {α : Type} [Inhabited α] {p : α → Bool} {l : List α} {j : Nat} (hj : j < l.length) (h : p (nth l j) = true) : dfL p l (j + 1) = dfL p l j := by
  rw [dfL, dfL, kpL_yes hj h]
theorem dfL_no {α : Type} [Inhabited α] {p : α → Bool} {l : List α} {j : Nat} (hj : j < l.length) (h : p (nth l j) = false) : dfL p l (j + 1) = (dfL p l j).set (kpL p l j).length (nth l j) := by
  have hk := kpL_le (p := p) (l := l) (j := j)
  rw [dfL, dfL, kpL_no hj h, List.set_append_right _ _ (Nat.le_refl _), Nat.sub_self, List.length_append, List.append_assoc]
  rw [show l.drop (kpL p l j).length = l[(kpL p l j).length]'(by omega) :: l.drop ((kpL p l j).length + 1) from List.drop_eq_getElem_cons (by omega)]
  rfl
theorem kpL_ix {α : Type} {p : α → Bool} : ∀ {l : List α} {i : Nat}, ixf p l = i → kpL p l (i + 1) = l.take i
  | [], i, h => by simp [ixf] at h
  | x :: l, i, h => by
    simp only [ixf] at h
    split at h
    · rename_i hx
      have : i = 0 := by omega
      subst this
      simp [kpL, hx]
    · rename_i hx
      have hlo := ixf_lo (p := p) (l := l)
      split at h
      · omega
      · obtain ⟨i, rfl⟩ : ∃ k, i = k + 1 := ⟨i - 1, by omega⟩
        have := kpL_ix (p := p) (l := l) (i := i) (by omega)
        simp only [kpL, List.take_succ_cons, List.filter_cons] at this ⊢
        simp only [hx, Bool.not_false, ↓reduceIte, this]
theorem dfL_ix {α : Type} {p : α → Bool} {l : List α} {i : Nat} (h : ixf p l = i) : dfL p l (i + 1) = l := by
  have := ixf_hi (p := p) (l := l)
  rw [dfL, kpL_ix h, List.length_take, Nat.min_eq_left (by omega), List.take_append_drop]
theorem kpL_none {α : Type} {p : α → Bool} {l : List α} (h : ixf p l = -1) : (l.filter fun x => !p x) = l := by
  rw [List.filter_eq_self]
  intro x hx
  have e := ixf_any (p := p) (l := l)
  rw [h] at e
  have : p x = false := by
    rw [← Bool.not_eq_true]; intro hp
    have := List.any_eq_true.2 ⟨x, hx, hp⟩
    rw [← e] at this; simp at this
  simp [this]
theorem kpL_end {α : Type} {p : α → Bool} {l : List α} : kpL p l l.length = l.filter fun x => !p x := by
  rw [kpL, List.take_length]
theorem dfL_take {α : Type} {p : α → Bool} {l : List α} {j : Nat} : (dfL p l j).take (kpL p l j).length = kpL p l j := by
  rw [dfL, List.take_left']; rfl
theorem caps_nob {caps : List T} (h : caps.all T.cap = true) (d : Nat) : noMLb d caps = true := (noMLb_iff d caps).2 (caps_noM h d)
theorem DeleteFunc_Write_ok (l : List Write) (f : Nat) (caps : List T) (p : Write → Bool) (hent : entB Tryz.prog f = true) (hcap : caps.all T.cap = true) (hl : l.length ≤ maxLen) (hp : ∀ x, x ∈ l → ACall Tryz.prog f ([.agg (Write.row false x)] ++ caps) (fun r _ => r = bl (p x))) :
    ACall Tryz.prog n_slices_DeleteFunc___impl_Write_impl_Write_ [.sl true 3 (l.map (Write.row true)), .fn f caps] (fun r a => r = .sl true 3 ((l.filter fun x => !p x).map (Write.row true)) ∧ a = [.any, .fn f caps]) := by
  have hmx := mx_eq
  have hlo := ixf_lo (p := p) (l := l)
  have hhi := ixf_hi (p := p) (l := l)
  refine fn_inD [true, false] h_slices_DeleteFunc___impl_Write_impl_Write_ r_slices_DeleteFunc___impl_Write_impl_Write_ ⟨by simp only [go_sem, caps_bare hcap, caps_pk hcap, caps_noM hcap, caps_lt hcap, caps_ids hcap, caps_nob hcap], fun E hE hH => ?_⟩; simp only [go_sem, caps_bare hcap, caps_pk hcap, caps_noM hcap, caps_lt hcap, caps_ids hcap, caps_nob hcap] at hE hH; simp only [go_sem, hE, hH, caps_bare hcap, caps_pk hcap, caps_noM hcap, caps_lt hcap, caps_ids hcap, caps_nob hcap, c_slices_DeleteFunc___impl_Write_impl_Write_]
  refine ok_cv rfl (by simp (disch := omega) only [zipF, argL, vwT, vwLeaf, vwRow_caps hcap, Bool.false_eq_true, if_false, go_sem, hE, hH, caps_bare hcap, caps_pk hcap, caps_noM hcap, caps_lt hcap, caps_ids hcap, caps_nob hcap]; rfl) (IndexFunc_Write_ok l f caps p hent hcap hl hp) ?_
  try simp (disch := omega) only [go_sem, hE, hH, caps_bare hcap, caps_pk hcap, caps_noM hcap, caps_lt hcap, caps_ids hcap, caps_nob hcap]
  refine And.intro (vwC_ok hcap) ?_
  first | refine gd_t (fun h => ?_) (fun h => ?_) | refine gd_f (fun h => ?_) (fun h => ?_)
  · have hb := h
    simp only [nf] at h
    try simp (disch := omega) only [go_sem, hE, hH, caps_bare hcap, caps_pk hcap, caps_noM hcap, caps_lt hcap, caps_ids hcap, caps_nob hcap, hb]
    have e := kpL_none h
    rw [e]
    repeat' (first | ((with_reducible first | refine gd_t ?_ ?_ | refine gd_f ?_ ?_) <;> (intro h; have hb := h; (try simp only [nf] at h); simp (disch := omega) only [go_sem, hE, hH, caps_bare hcap, caps_pk hcap, caps_noM hcap, caps_lt hcap, caps_ids hcap, caps_nob hcap, hb]; (try clear hb))) | ((with_reducible refine And.intro ?_ ?_); · omega) | (refine jn _ ?_ ?_) | (with_reducible refine both ?_ ?_) | (with_reducible refine And.intro ?_ ?_) | (refine fin_eq ?_; (try (simp (disch := omega) only [go_sem, hE, hH, caps_bare hcap, caps_pk hcap, caps_noM hcap, caps_lt hcap, caps_ids hcap, caps_nob hcap])); first | done | rfl) | (simp (disch := omega) only [go_sem, hE, hH, caps_bare hcap, caps_pk hcap, caps_noM hcap, caps_lt hcap, caps_ids hcap, caps_nob hcap]) | ((first | apply noMLL_sE | apply pk_sE) <;> (simp only [go_sem, hE, hH, caps_bare hcap, caps_pk hcap, caps_noM hcap, caps_lt hcap, caps_ids hcap, caps_nob hcap]; done)) | (simp only [go_sem, hE, hH, caps_bare hcap, caps_pk hcap, caps_noM hcap, caps_lt hcap, caps_ids hcap, caps_nob hcap]) | fail)
  have hb := h
  simp only [nf] at h
  have hi0 : ixf p l = ((ixf p l).toNat : Nat) := by omega
  generalize hq : (ixf p l).toNat = i0 at hi0
  have e5 : kpL p l (i0 + 1) = l.take i0 := kpL_ix hi0
  have e6 : dfL p l (i0 + 1) = l := dfL_ix hi0
  have e7 : (kpL p l (i0 + 1)).length = i0 := by rw [e5, List.length_take]; omega
  try simp (disch := omega) only [go_sem, hE, hH, caps_bare hcap, caps_pk hcap, caps_noM hcap, caps_lt hcap, caps_ids hcap, caps_nob hcap, hb]
  rw [hi0]
  refine loopNe (l.length - (i0 + 1)) (fun j (_ : Unit) => ⟨[(0, .ref 0 0 l.length), (1, .fn f caps), (5, i64 (kpL p l (i0 + 1 + j)).length), (6, i64 (i0 + 1 + j : Nat))], [(0, ⟨3, (dfL p l (i0 + 1 + j)).map (Write.row true)⟩)]⟩) (fun j _ => (kpL p l (i0 + 1 + j)).length < i0 + 1 + j) () (by rw [Nat.add_zero, e6, e7]; rfl) (by rw [Nat.add_zero, e7]; omega) ?_
  intro k _ hk hK
  have hk2 : i0 + 1 + k ≤ l.length := by omega
  have hs1 : i0 + 1 + (k + 1) = i0 + 1 + k + 1 := by omega
  generalize hj : i0 + 1 + k = j at hk2 hK hs1 ⊢
  try simp only [go_sem, hE, hH, caps_bare hcap, caps_pk hcap, caps_noM hcap, caps_lt hcap, caps_ids hcap, caps_nob hcap, c_slices_DeleteFunc___impl_Write_impl_Write__l1]
  first | refine gd_t (fun h3 => ?_) (fun h3 => ?_) | refine gd_f (fun h3 => ?_) (fun h3 => ?_)
  · have hb3 := h3
    simp only [nf] at h3
    have hlt := h3; clear h3
    have g1 := dfL_nth (p := p) (l := l) (j := j)
    have g2 := dfL_len (p := p) (l := l) (j := j)
    have g3 := kpL_le (p := p) (l := l) (j := j)
    try simp (disch := omega) only [go_sem, hE, hH, caps_bare hcap, caps_pk hcap, caps_noM hcap, caps_lt hcap, caps_ids hcap, caps_nob hcap, g1, g2, hj, hs1, hb3, g1, g2]
    refine And.intro (by omega) ?_
    refine And.intro (by omega) ?_
    refine ok_cfv rfl rfl rfl (hent) (hcap) (hp _ (nth_mem hlt)) ?_
    try simp (disch := omega) only [go_sem, hE, hH, caps_bare hcap, caps_pk hcap, caps_noM hcap, caps_lt hcap, caps_ids hcap, caps_nob hcap, g1, g2, hj, hs1]
    repeat' (first | ((with_reducible first | refine gd_t ?_ ?_ | refine gd_f ?_ ?_) <;> (intro h; have hb := h; (try simp only [nf] at h); simp (disch := omega) only [go_sem, hE, hH, caps_bare hcap, caps_pk hcap, caps_noM hcap, caps_lt hcap, caps_ids hcap, caps_nob hcap, g1, g2, hj, hs1, hb]; (try clear hb))) | ((with_reducible refine And.intro ?_ ?_); · omega) | (refine jn _ ?_ ?_) | (with_reducible refine both ?_ ?_) | (with_reducible refine And.intro ?_ ?_) | (refine fin_eq ?_; (try (simp (disch := omega) only [go_sem, hE, hH, caps_bare hcap, caps_pk hcap, caps_noM hcap, caps_lt hcap, caps_ids hcap, caps_nob hcap, g1, g2, hj, hs1])); first | done | rfl) | (simp (disch := omega) only [go_sem, hE, hH, caps_bare hcap, caps_pk hcap, caps_noM hcap, caps_lt hcap, caps_ids hcap, caps_nob hcap, g1, g2, hj, hs1]) | ((first | apply noMLL_sE | apply pk_sE) <;> (simp only [go_sem, hE, hH, caps_bare hcap, caps_pk hcap, caps_noM hcap, caps_lt hcap, caps_ids hcap, caps_nob hcap, g1, g2, hj, hs1]; done)) | (simp only [go_sem, hE, hH, caps_bare hcap, caps_pk hcap, caps_noM hcap, caps_lt hcap, caps_ids hcap, caps_nob hcap, g1, g2, hj, hs1]) | fail)
    · exact ⟨(), by rw [dfL_no hlt h, kpL_no hlt h, List.map_set, List.length_append]; rfl, by rw [kpL_no hlt h, List.length_append]; show _ + 1 < _; omega⟩
    · exact ⟨(), by rw [dfL_yes hlt h, kpL_yes hlt h]; rfl, by rw [kpL_yes hlt h]; omega⟩
  · try simp (disch := omega) only [go_sem, hE, hH, h3]
    simp only [nf] at h3
    have q : j = l.length := by omega
    subst q
    have g2 := dfL_len (p := p) (l := l) (j := l.length)
    have g4 := fun z => putRows_length (rows := (dfL p l l.length).map (Write.row true)) (p := (kpL p l l.length).length) (ry := List.replicate (l.length - (kpL p l l.length).length) z) (by rw [List.length_replicate, List.length_map]; omega)
    rw [take_put (by rw [List.length_map]; omega), ← List.map_take, dfL_take, ← kpL_end, g4, List.length_map, List.length_map]
    have cb := caps_bare hcap
    have cp := caps_pk hcap
    try simp (disch := omega) only [go_sem, hE, hH]
    repeat' apply And.intro
    all_goals (first | omega | trivial | rfl | assumption)
def bys (code : List Int) : List (List T) := code.map fun b => [.v (.int .u8 b)]
@[go_sem] theorem bys_eq (code : List Int) : bys code = code.map fun b => [.v (.int .u8 b)] := rfl
def rng (n lo hi : Int) : Bool := decide (lo ≤ n) && decide (n ≤ hi)
theorem rng_iff {n lo hi : Int} : rng n lo hi = true ↔ lo ≤ n ∧ n ≤ hi := by simp [rng]
theorem rng_no {n lo hi : Int} : rng n lo hi = false ↔ ¬ (lo ≤ n ∧ n ≤ hi) := by rw [← rng_iff]; simp
theorem within_ok (n lo hi : Int) : ACall Tryz.prog n_impl_within [i64 n, i64 lo, i64 hi] (fun r _ => r = bl (rng n lo hi)) := by
  refine fn_in h_impl_within r_impl_within ⟨by simp only [go_sem], fun E hE hH => ?_⟩; simp only [go_sem] at hE hH; simp only [go_sem, hE, hH, c_impl_within]
  repeat' (first | ((with_reducible first | refine gd_t ?_ ?_ | refine gd_f ?_ ?_) <;> (intro h; have hb := h; (try simp only [nf] at h); simp (disch := omega) only [go_sem, hE, hH, hb]; (try clear hb))) | ((with_reducible refine And.intro ?_ ?_); · omega) | (refine jn _ ?_ ?_) | (with_reducible refine both ?_ ?_) | (with_reducible refine And.intro ?_ ?_) | (refine fin_eq ?_; (try (simp (disch := omega) only [go_sem, hE, hH])); first | done | rfl) | (simp (disch := omega) only [go_sem, hE, hH]) | ((first | apply noMLL_sE | apply pk_sE) <;> (simp only [go_sem, hE, hH]; done)) | (simp only [go_sem, hE, hH]) | fail)
  all_goals (simp_all [rng]; try omega)
theorem l1In_ok (n lo hi : Int) : ACall Tryz.prog n_spec_l1In [i64 n, i64 lo, i64 hi] (fun r _ => r = bl (rng n lo hi)) := by
  refine fn_in h_spec_l1In r_spec_l1In ⟨by simp only [go_sem], fun E hE hH => ?_⟩; simp only [go_sem] at hE hH; simp only [go_sem, hE, hH, c_spec_l1In]
  repeat' (first | ((with_reducible first | refine gd_t ?_ ?_ | refine gd_f ?_ ?_) <;> (intro h; have hb := h; (try simp only [nf] at h); simp (disch := omega) only [go_sem, hE, hH, hb]; (try clear hb))) | ((with_reducible refine And.intro ?_ ?_); · omega) | (refine jn _ ?_ ?_) | (with_reducible refine both ?_ ?_) | (with_reducible refine And.intro ?_ ?_) | (refine fin_eq ?_; (try (simp (disch := omega) only [go_sem, hE, hH])); first | done | rfl) | (simp (disch := omega) only [go_sem, hE, hH]) | ((first | apply noMLL_sE | apply pk_sE) <;> (simp only [go_sem, hE, hH]; done)) | (simp only [go_sem, hE, hH]) | fail)
  all_goals (simp_all [rng]; try omega)
def lowc (b : Int) : Bool := (decide (97 ≤ b) && decide (b ≤ 122)) || (decide (48 ≤ b) && decide (b ≤ 57))
def hasc (more : ByteArray) (b : Int) : Bool := !allN (fun i => !decide (b = byt more i)) more.size
def hasB (s more : ByteArray) : Bool := allN (fun i => lowc (byt s i) || hasc more (byt s i)) s.size
def goodKey (s : ByteArray) : Bool := rng s.size 1 12 && hasB s ⟨⟨[46, 47]⟩⟩
def goodVal (s : ByteArray) : Bool := decide ((s.size : Int) ≤ 24) && hasB s ⟨⟨[46, 45, 44, 95]⟩⟩
theorem isLower_ok (b : Int) : ACall Tryz.prog n_impl_isLowerOrDigit [u8 b] (fun r _ => r = bl (lowc b)) := by
  refine fn_in h_impl_isLowerOrDigit r_impl_isLowerOrDigit ⟨by simp only [go_sem], fun E hE hH => ?_⟩; simp only [go_sem] at hE hH; simp only [go_sem, hE, hH, c_impl_isLowerOrDigit]
  repeat' (first | ((with_reducible first | refine gd_t ?_ ?_ | refine gd_f ?_ ?_) <;> (intro h; have hb := h; (try simp only [nf] at h); simp (disch := omega) only [go_sem, hE, hH, hb]; (try clear hb))) | ((with_reducible refine And.intro ?_ ?_); · omega) | (refine jn _ ?_ ?_) | (with_reducible refine both ?_ ?_) | (with_reducible refine And.intro ?_ ?_) | (refine fin_eq ?_; (try (simp (disch := omega) only [go_sem, hE, hH])); first | done | rfl) | (simp (disch := omega) only [go_sem, hE, hH]) | ((first | apply noMLL_sE | apply pk_sE) <;> (simp only [go_sem, hE, hH]; done)) | (simp only [go_sem, hE, hH]) | fail)
  all_goals (simp_all [lowc] <;> try omega)
theorem find_idx (s : ByteArray) (c : UInt8) : decide (firstIdx s c < 0) = allN (fun i => !decide ((c.toNat : Int) = byt s i)) s.size := by
  rw [Bool.eq_iff_iff, allN_iff, decide_eq_true_iff]
  have key : ∀ i, i < s.size → ((s[i]! == c) = true ↔ (c.toNat : Int) = byt s i) := by
    intro i hi
    have h1 : s[i]! = s.data.toList.getD i 0 := by
      rw [getElem!_pos s i hi]
      simp [ByteArray.getElem_eq_getElem_data, List.getD]
      rw [getElem?_pos _ _ (by simpa using hi)]
      simp
    rw [h1, byt, beq_iff_eq, ← UInt8.toNat_inj]
    omega
  unfold firstIdx
  cases hf : (List.range s.size).find? fun i => s[i]! == c with
  | some i =>
    dsimp only
    have h1 := List.find?_some hf
    have h2 : i < s.size := by simpa using List.mem_of_find?_eq_some hf
    constructor
    · intro h; omega
    · intro h
      have := h i h2
      rw [(key i h2).1 h1] at this
      simp at this
  | none =>
    dsimp only
    constructor
    · intro _ i hi
      have := List.find?_eq_none.1 hf i (by simpa using hi)
      simp only [Bool.not_eq_true', decide_eq_false_iff_not]
      exact fun e => this ((key i hi).2 e)
    · intro _; omega
theorem idx_run (s : ByteArray) (c : Int) (w : Go.World) : (callFunc n_internal_bytealg_IndexByteString #[.string s, .int .u8 c]).run Tryz.prog w = .ok (.value (.int .i64 (firstIdx s c.toNat.toUInt8))) w := by
  rw [run_callFunc_extern (e := Extern.BytealgIndexByte.indexByte) d_internal_bytealg_IndexByteString (by kernel_rfl) (by kernel_rfl) (by kernel_rfl) (by kernel_rfl), run_indexByte_string]
  rfl
theorem liteIndex_ok (s : ByteArray) (c : Int) : ACall Tryz.prog n_internal_stringslite_IndexByte [str s, u8 c] (fun r _ => r = i64 (firstIdx s c.toNat.toUInt8)) := by
  refine fn_in h_internal_stringslite_IndexByte r_internal_stringslite_IndexByte ⟨by simp only [go_sem], fun E hE hH => ?_⟩; simp only [go_sem] at hE hH; simp only [go_sem, hE, hH, c_internal_stringslite_IndexByte]
  refine ok_xcall (vs := [.string s, .int .u8 c]) rfl (idx_run s c) ?_
  try simp only [go_sem, hE, hH]
theorem indexByte_ok (s : ByteArray) (c : Int) : ACall Tryz.prog n_strings_IndexByte [str s, u8 c] (fun r _ => r = i64 (firstIdx s c.toNat.toUInt8)) := by
  refine fn_in h_strings_IndexByte r_strings_IndexByte ⟨by simp only [go_sem], fun E hE hH => ?_⟩; simp only [go_sem] at hE hH; simp only [go_sem, hE, hH, c_strings_IndexByte]
  repeat' (first | ((with_reducible first | refine gd_t ?_ ?_ | refine gd_f ?_ ?_) <;> (intro h; have hb := h; (try simp only [nf] at h); simp (disch := omega) only [go_sem, hE, hH, hb]; (try clear hb))) | ((with_reducible refine And.intro ?_ ?_); · omega) | ((first | refine ok_view ?_ | refine cvA (liteIndex_ok _ _) ?_); simp (disch := omega) only [go_sem, hE, hH]) | (refine jn _ ?_ ?_) | (with_reducible refine both ?_ ?_) | (with_reducible refine And.intro ?_ ?_) | (refine fin_eq ?_; (try (simp (disch := omega) only [go_sem, hE, hH])); first | done | rfl) | (simp (disch := omega) only [go_sem, hE, hH]) | ((first | apply noMLL_sE | apply pk_sE) <;> (simp only [go_sem, hE, hH]; done)) | (simp only [go_sem, hE, hH]) | fail)
theorem hasBytes_ok (s more : ByteArray) (hs : s.size ≤ maxLen) : ACall Tryz.prog n_impl_hasBytes [str s, str more] (fun r _ => r = bl (hasB s more)) := by
  have hm := mx_eq
  refine fn_in h_impl_hasBytes r_impl_hasBytes ⟨by simp only [go_sem], fun E hE hH => ?_⟩; simp only [go_sem] at hE hH; simp only [go_sem, hE, hH, c_impl_hasBytes]
  refine loopN s.size (fun j (_ : Unit) => ⟨[(0, str s), (1, str more), (7, i64 s.size), (8, i64 j)], []⟩) (fun j _ => allN (fun i => lowc (byt s i) || hasc more (byt s i)) j = true) () rfl ?_
  intro j _ hj hI
  try simp only [go_sem, hE, hH, c_impl_hasBytes_l1]
  first | refine gd_t (fun h => ?_) (fun h => ?_) | refine gd_f (fun h => ?_) (fun h => ?_)
  · have hb := h
    simp only [nf] at h
    have hlt := h; clear h
    have hf : decide (firstIdx more (byt s j).toNat.toUInt8 < 0) = !hasc more (byt s j) := by
      rw [find_idx, hasc, Bool.not_not]
      congr 1; funext i
      congr 2
      simp [byt]
    try simp (disch := omega) only [go_sem, hE, hH, hb]
    repeat' (first | ((with_reducible first | refine gd_t ?_ ?_ | refine gd_f ?_ ?_) <;> (intro h; have hb := h; (try simp only [nf] at h); simp (disch := omega) only [go_sem, hE, hH, hb]; (try clear hb))) | ((with_reducible refine And.intro ?_ ?_); · omega) | ((first | refine ok_view ?_ | refine cvA (isLower_ok _) ?_ | refine cvA (indexByte_ok _ _) ?_); simp (disch := omega) only [go_sem, hE, hH]) | (refine jn _ ?_ ?_) | (with_reducible refine both ?_ ?_) | (with_reducible refine And.intro ?_ ?_) | (refine fin_eq ?_; (try (simp (disch := omega) only [go_sem, hE, hH])); first | done | rfl) | (simp (disch := omega) only [go_sem, hE, hH]) | ((first | apply noMLL_sE | apply pk_sE) <;> (simp only [go_sem, hE, hH]; done)) | (simp only [go_sem, hE, hH]) | fail)
    · rw [decide_eq_true h] at hf
      rw [hasB, allN_no hlt (by simp_all)]
    · rw [decide_eq_false (by omega)] at hf
      exact ⟨(), rfl, allN_step hI (by simp_all)⟩
    · exact ⟨(), rfl, allN_step hI (by simp_all)⟩
  · try simp (disch := omega) only [go_sem, hE, hH, h]
    simp only [nf] at h
    rw [show j = s.size by omega] at hI
    rw [hasB, hI]
theorem l3Bytes_ok (s more : ByteArray) (hs : s.size ≤ maxLen) (hm : more.size ≤ maxLen) : ACall Tryz.prog n_spec_l3Bytes [str s, str more] (fun r _ => r = bl (hasB s more)) := by
  have hmx := mx_eq
  refine fn_in h_spec_l3Bytes r_spec_l3Bytes ⟨by simp only [go_sem], fun E hE hH => ?_⟩; simp only [go_sem] at hE hH; simp only [go_sem, hE, hH, c_spec_l3Bytes]
  refine loopN s.size (fun j (_ : Unit) => ⟨[(0, str s), (1, str more), (5, i64 j)], []⟩) (fun j _ => allN (fun i => lowc (byt s i) || hasc more (byt s i)) j = true) () rfl ?_
  intro j _ hj hI
  try simp only [go_sem, hE, hH, c_spec_l3Bytes_l2]
  first | refine gd_t (fun h => ?_) (fun h => ?_) | refine gd_f (fun h => ?_) (fun h => ?_)
  · have hb := h
    simp only [nf] at h
    have hlt := h; clear h
    try simp (disch := omega) only [go_sem, hE, hH, hb]
    repeat' (first | ((with_reducible first | refine gd_t ?_ ?_ | refine gd_f ?_ ?_) <;> (intro h; have hb := h; (try simp only [nf] at h); simp (disch := omega) only [go_sem, hE, hH, hb]; (try clear hb))) | ((with_reducible refine And.intro ?_ ?_); · omega) | (refine jn _ ?_ ?_) | (with_reducible refine both ?_ ?_) | (with_reducible refine And.intro ?_ ?_) | (refine fin_eq ?_; (try (simp (disch := omega) only [go_sem, hE, hH])); first | done | rfl) | (simp (disch := omega) only [go_sem, hE, hH]) | ((first | apply noMLL_sE | apply pk_sE) <;> (simp only [go_sem, hE, hH]; done)) | (simp only [go_sem, hE, hH]) | fail)
    all_goals (
      refine loopNe more.size (fun k (_ : Unit) => ⟨[(0, str s), (1, str more), (5, i64 j), (6, bl (lowc (byt s j) || !allN (fun i => !decide (byt s j = byt more i)) k)), (7, i64 k)], []⟩) (fun _ _ => True) () ?_ trivial ?_
      · simp_all [lowc, allN]
        try omega
      intro k _ hk _
      try simp only [go_sem, hE, hH, c_spec_l3Bytes_l1]
      first | refine gd_t (fun h => ?_) (fun h => ?_) | refine gd_f (fun h => ?_) (fun h => ?_)
      · try simp (disch := omega) only [go_sem, hE, hH, h]
        simp only [nf] at h
        repeat' (first | ((with_reducible first | refine gd_t ?_ ?_ | refine gd_f ?_ ?_) <;> (intro h; have hb := h; (try simp only [nf] at h); simp (disch := omega) only [go_sem, hE, hH, hb]; (try clear hb))) | ((with_reducible refine And.intro ?_ ?_); · omega) | (refine jn _ ?_ ?_) | (with_reducible refine both ?_ ?_) | (with_reducible refine And.intro ?_ ?_) | (refine fin_eq ?_; (try (simp (disch := omega) only [go_sem, hE, hH])); first | done | rfl) | (simp (disch := omega) only [go_sem, hE, hH]) | ((first | apply noMLL_sE | apply pk_sE) <;> (simp only [go_sem, hE, hH]; done)) | (simp only [go_sem, hE, hH]) | fail)
        · exact ⟨(), by simp_all [allN]; rcases h with h | h <;> simp [h]⟩
        · exact ⟨(), by simp_all [allN]⟩
      · try simp (disch := omega) only [go_sem, hE, hH, h]
        simp only [nf] at h
        rw [show k = more.size by omega]
        repeat' (first | ((with_reducible first | refine gd_t ?_ ?_ | refine gd_f ?_ ?_) <;> (intro h; have hb := h; (try simp only [nf] at h); simp (disch := omega) only [go_sem, hE, hH, hb]; (try clear hb))) | ((with_reducible refine And.intro ?_ ?_); · omega) | (refine jn _ ?_ ?_) | (with_reducible refine both ?_ ?_) | (with_reducible refine And.intro ?_ ?_) | (refine fin_eq ?_; (try (simp (disch := omega) only [go_sem, hE, hH])); first | done | rfl) | (simp (disch := omega) only [go_sem, hE, hH]) | ((first | apply noMLL_sE | apply pk_sE) <;> (simp only [go_sem, hE, hH]; done)) | (simp only [go_sem, hE, hH]) | fail)
        · rw [hasB, allN_no hlt (by simp_all [hasc])]
        · exact ⟨(), rfl, allN_step hI (by simp_all [hasc])⟩)
  · try simp (disch := omega) only [go_sem, hE, hH, h]
    simp only [nf] at h
    rw [show j = s.size by omega] at hI
    rw [hasB, hI]
theorem GoodKey_ok (s : ByteArray) (hs : s.size ≤ maxLen) : ACall Tryz.prog n_impl_GoodKey [str s] (fun r _ => r = bl (goodKey s)) := by
  refine fn_in h_impl_GoodKey r_impl_GoodKey ⟨by simp only [go_sem], fun E hE hH => ?_⟩; simp only [go_sem] at hE hH; simp only [go_sem, hE, hH, c_impl_GoodKey]
  repeat' (first | ((with_reducible first | refine gd_t ?_ ?_ | refine gd_f ?_ ?_) <;> (intro h; have hb := h; (try simp only [nf] at h); simp (disch := omega) only [go_sem, hE, hH, hb]; (try clear hb))) | ((with_reducible refine And.intro ?_ ?_); · omega) | ((first | refine ok_view ?_ | refine cvA (within_ok _ _ _) ?_ | refine cvA (hasBytes_ok _ _ hs) ?_); simp (disch := omega) only [go_sem, hE, hH]) | (refine jn _ ?_ ?_) | (with_reducible refine both ?_ ?_) | (with_reducible refine And.intro ?_ ?_) | (refine fin_eq ?_; (try (simp (disch := omega) only [go_sem, hE, hH])); first | done | rfl) | (simp (disch := omega) only [go_sem, hE, hH]) | ((first | apply noMLL_sE | apply pk_sE) <;> (simp only [go_sem, hE, hH]; done)) | (simp only [go_sem, hE, hH]) | fail)
  all_goals simp_all [goodKey]
theorem l3Key_ok (s : ByteArray) (hs : s.size ≤ maxLen) : ACall Tryz.prog n_spec_l3Key [str s] (fun r _ => r = bl (goodKey s)) := by
  refine fn_in h_spec_l3Key r_spec_l3Key ⟨by simp only [go_sem], fun E hE hH => ?_⟩; simp only [go_sem] at hE hH; simp only [go_sem, hE, hH, c_spec_l3Key]
  repeat' (first | ((with_reducible first | refine gd_t ?_ ?_ | refine gd_f ?_ ?_) <;> (intro h; have hb := h; (try simp only [nf] at h); simp (disch := omega) only [go_sem, hE, hH, hb]; (try clear hb))) | ((with_reducible refine And.intro ?_ ?_); · omega) | ((first | refine ok_view ?_ | refine cvA (l1In_ok _ _ _) ?_ | refine cvA (l3Bytes_ok _ _ hs (by decide)) ?_); simp (disch := omega) only [go_sem, hE, hH]) | (refine jn _ ?_ ?_) | (with_reducible refine both ?_ ?_) | (with_reducible refine And.intro ?_ ?_) | (refine fin_eq ?_; (try (simp (disch := omega) only [go_sem, hE, hH])); first | done | rfl) | (simp (disch := omega) only [go_sem, hE, hH]) | ((first | apply noMLL_sE | apply pk_sE) <;> (simp only [go_sem, hE, hH]; done)) | (simp only [go_sem, hE, hH]) | fail)
  all_goals simp_all [goodKey]
def risB (l : List ByteArray) : Bool := allN (fun i => goodKey (nth l i) && (decide (i = 0) || strLt (nth l (i - 1)) (nth l i))) l.length
theorem areRising_ok (l : List ByteArray) (hl : limL (fun s => s.size ≤ maxLen) l) : ACall Tryz.prog n_impl_areRising [.sl false 1 (strs l)] (fun r _ => r = bl (risB l)) := by
  obtain ⟨hl, hx⟩ := hl
  have hmx := mx_eq
  refine fn_in h_impl_areRising r_impl_areRising ⟨by simp only [go_sem], fun E hE hH => ?_⟩; simp only [go_sem] at hE hH; simp only [go_sem, hE, hH, c_impl_areRising]
  refine loopN l.length (fun j (_ : Unit) => ⟨[(0, .sl false 1 (strs l)), (5, .sl false 1 (strs l)), (6, i64 l.length), (7, i64 j)], []⟩) (fun j _ => allN (fun i => goodKey (nth l i) && (decide (i = 0) || strLt (nth l (i - 1)) (nth l i))) j = true) () rfl ?_
  intro j _ hj hI
  try simp only [go_sem, hE, hH, c_impl_areRising_l1]
  first | refine gd_t (fun h => ?_) (fun h => ?_) | refine gd_f (fun h => ?_) (fun h => ?_)
  · have hb := h
    simp only [nf] at h
    have hlt := h; clear h
    have hs := hx _ (nth_mem hlt)
    try simp (disch := omega) only [go_sem, hE, hH, hb]
    repeat' (first | ((with_reducible first | refine gd_t ?_ ?_ | refine gd_f ?_ ?_) <;> (intro h; have hb := h; (try simp only [nf] at h); simp (disch := omega) only [go_sem, hE, hH, hb]; (try clear hb))) | ((with_reducible refine And.intro ?_ ?_); · omega) | ((first | refine ok_view ?_ | refine cvA (GoodKey_ok _ (by assumption)) ?_); simp (disch := omega) only [go_sem, hE, hH]) | (refine jn _ ?_ ?_) | (with_reducible refine both ?_ ?_) | (with_reducible refine And.intro ?_ ?_) | (refine fin_eq ?_; (try (simp (disch := omega) only [go_sem, hE, hH])); first | done | rfl) | (simp (disch := omega) only [go_sem, hE, hH]) | ((first | apply noMLL_sE | apply pk_sE) <;> (simp only [go_sem, hE, hH]; done)) | (simp only [go_sem, hE, hH]) | fail)
    · rw [risB, allN_no hlt (by simp_all)]
    · rw [risB, allN_no hlt (by simp_all <;> omega)]
    · exact ⟨(), rfl, allN_step hI (by simp_all)⟩
    · exact ⟨(), rfl, allN_step hI (by simp_all <;> omega)⟩
  · try simp (disch := omega) only [go_sem, hE, hH, h]
    simp only [nf] at h
    rw [show j = l.length by omega] at hI
    rw [risB, hI]
theorem l1Own_ok (l : List Int) (hl : l.length ≤ 2 ^ 20) : ACall Tryz.prog n_spec_l1Own [.sl false 1 (ints l)] (fun r _ => r = .sl true 1 (ints l)) := by
  refine fn_in h_spec_l1Own r_spec_l1Own ⟨by simp only [go_sem], fun E hE hH => ?_⟩; simp only [go_sem] at hE hH; simp only [go_sem, hE, hH, c_spec_l1Own]
  try simp (disch := omega) only [go_sem, hE, hH]
  omega
def stored (v : ByteArray) (gone : Bool) : Bool := goodVal v && !(gone && !decide (v = ⟨⟨[]⟩⟩))
theorem nth_map {α β : Type} [Inhabited α] [Inhabited β] {f : α → β} {l : List α} {i : Nat} (h : i < l.length) : nth (l.map f) i = f (nth l i) := by
  rw [nth_lt (by simpa using h), nth_lt h, List.getElem_map]
theorem GoodVal_ok (s : ByteArray) (hs : s.size ≤ maxLen) : ACall Tryz.prog n_impl_GoodVal [str s] (fun r _ => r = bl (goodVal s)) := by
  refine fn_in h_impl_GoodVal r_impl_GoodVal ⟨by simp only [go_sem], fun E hE hH => ?_⟩; simp only [go_sem] at hE hH; simp only [go_sem, hE, hH, c_impl_GoodVal]
  repeat' (first | ((with_reducible first | refine gd_t ?_ ?_ | refine gd_f ?_ ?_) <;> (intro h; have hb := h; (try simp only [nf] at h); simp (disch := omega) only [go_sem, hE, hH, hb]; (try clear hb))) | ((with_reducible refine And.intro ?_ ?_); · omega) | ((first | refine ok_view ?_ | refine cvA (hasBytes_ok _ _ hs) ?_); simp (disch := omega) only [go_sem, hE, hH]) | (refine jn _ ?_ ?_) | (with_reducible refine both ?_ ?_) | (with_reducible refine And.intro ?_ ?_) | (refine fin_eq ?_; (try (simp (disch := omega) only [go_sem, hE, hH])); first | done | rfl) | (simp (disch := omega) only [go_sem, hE, hH]) | ((first | apply noMLL_sE | apply pk_sE) <;> (simp only [go_sem, hE, hH]; done)) | (simp only [go_sem, hE, hH]) | fail)
  all_goals (first | (simp_all [goodVal]; done) | (simp_all [goodVal] <;> first | omega | (intros; omega)))
theorem l3Val_ok (s : ByteArray) (hs : s.size ≤ maxLen) : ACall Tryz.prog n_spec_l3Val [str s] (fun r _ => r = bl (goodVal s)) := by
  refine fn_in h_spec_l3Val r_spec_l3Val ⟨by simp only [go_sem], fun E hE hH => ?_⟩; simp only [go_sem] at hE hH; simp only [go_sem, hE, hH, c_spec_l3Val]
  repeat' (first | ((with_reducible first | refine gd_t ?_ ?_ | refine gd_f ?_ ?_) <;> (intro h; have hb := h; (try simp only [nf] at h); simp (disch := omega) only [go_sem, hE, hH, hb]; (try clear hb))) | ((with_reducible refine And.intro ?_ ?_); · omega) | ((first | refine ok_view ?_ | refine cvA (l3Bytes_ok _ _ hs (by decide)) ?_); simp (disch := omega) only [go_sem, hE, hH]) | (refine jn _ ?_ ?_) | (with_reducible refine both ?_ ?_) | (with_reducible refine And.intro ?_ ?_) | (refine fin_eq ?_; (try (simp (disch := omega) only [go_sem, hE, hH])); first | done | rfl) | (simp (disch := omega) only [go_sem, hE, hH]) | ((first | apply noMLL_sE | apply pk_sE) <;> (simp only [go_sem, hE, hH]; done)) | (simp only [go_sem, hE, hH]) | fail)
  all_goals (first | (simp_all [goodVal]; done) | (simp_all [goodVal] <;> first | omega | (intros; omega)))
theorem isStored_ok (s : ByteArray) (g : Bool) (hs : s.size ≤ maxLen) : ACall Tryz.prog n_impl_isStored [str s, bl g] (fun r _ => r = bl (stored s g)) := by
  refine fn_in h_impl_isStored r_impl_isStored ⟨by simp only [go_sem], fun E hE hH => ?_⟩; simp only [go_sem] at hE hH; simp only [go_sem, hE, hH, c_impl_isStored]
  repeat' (first | ((with_reducible first | refine gd_t ?_ ?_ | refine gd_f ?_ ?_) <;> (intro h; have hb := h; (try simp only [nf] at h); simp (disch := omega) only [go_sem, hE, hH, hb]; (try clear hb))) | ((with_reducible refine And.intro ?_ ?_); · omega) | ((first | refine ok_view ?_ | refine cvA (GoodVal_ok _ hs) ?_); simp (disch := omega) only [go_sem, hE, hH]) | (refine jn _ ?_ ?_) | (with_reducible refine both ?_ ?_) | (with_reducible refine And.intro ?_ ?_) | (refine fin_eq ?_; (try (simp (disch := omega) only [go_sem, hE, hH])); first | done | rfl) | (simp (disch := omega) only [go_sem, hE, hH]) | ((first | apply noMLL_sE | apply pk_sE) <;> (simp only [go_sem, hE, hH]; done)) | (simp only [go_sem, hE, hH]) | fail)
  all_goals simp_all [stored]
theorem l3Write_ok (k s : ByteArray) (g : Bool) (hk : k.size ≤ maxLen) (hs : s.size ≤ maxLen) : ACall Tryz.prog n_spec_l3Write [str k, str s, bl g] (fun r _ => r = bl (goodKey k && stored s g)) := by
  refine fn_in h_spec_l3Write r_spec_l3Write ⟨by simp only [go_sem], fun E hE hH => ?_⟩; simp only [go_sem] at hE hH; simp only [go_sem, hE, hH, c_spec_l3Write]
  repeat' (first | ((with_reducible first | refine gd_t ?_ ?_ | refine gd_f ?_ ?_) <;> (intro h; have hb := h; (try simp only [nf] at h); simp (disch := omega) only [go_sem, hE, hH, hb]; (try clear hb))) | ((with_reducible refine And.intro ?_ ?_); · omega) | ((first | refine ok_view ?_ | refine cvA (l3Key_ok _ hk) ?_ | refine cvA (l3Val_ok _ hs) ?_); simp (disch := omega) only [go_sem, hE, hH]) | (refine jn _ ?_ ?_) | (with_reducible refine both ?_ ?_) | (with_reducible refine And.intro ?_ ?_) | (refine fin_eq ?_; (try (simp (disch := omega) only [go_sem, hE, hH])); first | done | rfl) | (simp (disch := omega) only [go_sem, hE, hH]) | ((first | apply noMLL_sE | apply pk_sE) <;> (simp only [go_sem, hE, hH]; done)) | (simp only [go_sem, hE, hH]) | fail)
  all_goals simp_all [stored]
def goodWrites (l : List Write) : Bool := decide ((l.length : Int) ≤ 24) && allN (fun i => (goodKey (nth l i).Key && stored (nth l i).Val (nth l i).Gone) && (decide (i = 0) || strLt (nth l (i - 1)).Key (nth l i).Key)) l.length
theorem goodWrites_eq (l : List Write) : goodWrites l = (decide ((l.length : Int) ≤ 24) && risB (l.map (·.Key)) && !l.any fun w => !stored w.Val w.Gone) := by
  have h1 : (!l.any fun w => !stored w.Val w.Gone) = allN (fun i => stored (nth l i).Val (nth l i).Gone) l.length := by
    rw [allN_all (p := fun w : Write => stored w.Val w.Gone)]
    simp [List.any_eq_not_all_not]
  have h2 : risB (l.map (·.Key)) = allN (fun i => goodKey (nth l i).Key && (decide (i = 0) || strLt (nth l (i - 1)).Key (nth l i).Key)) l.length := by
    unfold risB
    rw [List.length_map]
    refine allN_congr fun i hi => ?_
    rw [nth_map hi, nth_map (by omega)]
  rw [h1, h2, goodWrites, Bool.and_assoc]
  congr 1
  rw [Bool.eq_iff_iff, Bool.and_eq_true, allN_iff, allN_iff, allN_iff]
  constructor
  · intro h
    exact ⟨fun i hi => by have := h i hi; simp only [Bool.and_eq_true] at this ⊢; exact ⟨this.1.1, this.2⟩, fun i hi => by have := h i hi; simp only [Bool.and_eq_true] at this ⊢; exact this.1.2⟩
  · rintro ⟨ha, hb⟩ i hi
    have ha := ha i hi; have hb := hb i hi
    simp only [Bool.and_eq_true] at ha hb ⊢
    exact ⟨⟨ha.1, hb⟩, ha.2⟩
theorem writeKeys_ok (l : List Write) (hl : l.length ≤ 2 ^ 20) : ACall Tryz.prog n_impl_writeKeys [.sl false 3 (l.map (Write.row false))] (fun r _ => r = .sl true 1 (strs (l.map (·.Key)))) := by
  refine fn_in h_impl_writeKeys r_impl_writeKeys ⟨by simp only [go_sem], fun E hE hH => ?_⟩; simp only [go_sem] at hE hH; simp only [go_sem, hE, hH, c_impl_writeKeys]
  refine loopNe l.length (fun j (x : List ByteArray) => ⟨[(3, .ref 4000000 0 x.length), (7, .sl false 3 (l.map (Write.row false))), (8, i64 l.length), (9, i64 j)], [(4000000, ⟨1, strs x⟩)]⟩) (fun j x => x = (l.take j).map (·.Key)) [] (by simp) (by simp) ?_
  intro j x hj hx
  have hlen : x.length = j := by rw [hx]; simp; omega
  try simp only [go_sem, hE, hH, c_impl_writeKeys_l1]
  first | refine gd_t (fun h => ?_) (fun h => ?_) | refine gd_f (fun h => ?_) (fun h => ?_)
  · have hb := h
    simp only [nf] at h
    try simp (disch := omega) only [go_sem, hE, hH, hb]
    refine ⟨by omega, by omega, by omega, ?_⟩
    rw [take_nth h, List.map_append, ← hx]
    simp [hlen]; omega
  · have hb := h
    simp only [nf] at h
    try simp (disch := omega) only [go_sem, hE, hH, hb]
    rw [hx, show j = l.length by omega, List.take_length]
theorem GoodWrites_1_ok (w : Write) (hw : w.wf) : ACall Tryz.prog n_impl_GoodWrites_1 [.agg (Write.row false w)] (fun r _ => r = bl (!stored w.Val w.Gone)) := by
  obtain ⟨w1, w2⟩ := hw
  refine fn_in h_impl_GoodWrites_1 r_impl_GoodWrites_1 ⟨by simp only [go_sem], fun E hE hH => ?_⟩; simp only [go_sem] at hE hH; simp only [go_sem, hE, hH, c_impl_GoodWrites_1]
  repeat' (first | ((with_reducible first | refine gd_t ?_ ?_ | refine gd_f ?_ ?_) <;> (intro h; have hb := h; (try simp only [nf] at h); simp (disch := omega) only [go_sem, hE, hH, hb]; (try clear hb))) | ((with_reducible refine And.intro ?_ ?_); · omega) | ((first | refine ok_view ?_ | refine cvA (isStored_ok _ _ w2) ?_); simp (disch := omega) only [go_sem, hE, hH]) | (refine jn _ ?_ ?_) | (with_reducible refine both ?_ ?_) | (with_reducible refine And.intro ?_ ?_) | (refine fin_eq ?_; (try (simp (disch := omega) only [go_sem, hE, hH])); first | done | rfl) | (simp (disch := omega) only [go_sem, hE, hH]) | ((first | apply noMLL_sE | apply pk_sE) <;> (simp only [go_sem, hE, hH]; done)) | (simp only [go_sem, hE, hH]) | fail)
theorem GoodWrites_ok (l : List Write) (hl : wfL Write.wf l) : ACall Tryz.prog n_impl_GoodWrites [.sl false 3 (l.map (Write.row false))] (fun r _ => r = bl (goodWrites l)) := by
  obtain ⟨hl, hx⟩ := hl
  have hmx := mx_eq
  have hr : limL (fun s : ByteArray => s.size ≤ maxLen) (l.map (·.Key)) := ⟨by simpa using hl, fun s hs => by obtain ⟨w, hw, rfl⟩ := List.mem_map.1 hs; exact (hx w hw).1⟩
  rw [goodWrites_eq]
  refine fn_in h_impl_GoodWrites r_impl_GoodWrites ⟨by simp only [go_sem], fun E hE hH => ?_⟩; simp only [go_sem] at hE hH; simp only [go_sem, hE, hH, c_impl_GoodWrites]
  repeat' (first | ((with_reducible first | refine gd_t ?_ ?_ | refine gd_f ?_ ?_) <;> (intro h; have hb := h; (try simp only [nf] at h); simp (disch := omega) only [go_sem, hE, hH, hb]; (try clear hb))) | ((with_reducible refine And.intro ?_ ?_); · omega) | ((first | refine ok_view ?_ | refine cvA (writeKeys_ok l (by omega)) ?_ | refine cvA (areRising_ok _ hr) ?_ | refine cvA (ContainsFunc_Write_ok l _ [] (fun w => !stored w.Val w.Gone) (by kernel_rfl) rfl hl (fun w hw => GoodWrites_1_ok w (hx w hw))) ?_); simp (disch := omega) only [go_sem, hE, hH]) | (refine jn _ ?_ ?_) | (with_reducible refine both ?_ ?_) | (with_reducible refine And.intro ?_ ?_) | (refine fin_eq ?_; (try (simp (disch := omega) only [go_sem, hE, hH])); first | done | rfl) | (simp (disch := omega) only [go_sem, hE, hH]) | ((first | apply noMLL_sE | apply pk_sE) <;> (simp only [go_sem, hE, hH]; done)) | (simp only [go_sem, hE, hH]) | fail)
  all_goals (first | (simp_all []; done) | (simp_all [] <;> first | omega | (intros; omega)))
theorem l3Writes_ok (l : List Write) (hl : wfL Write.wf l) : ACall Tryz.prog n_spec_l3Writes [.sl false 3 (l.map (Write.row false))] (fun r _ => r = bl (goodWrites l)) := by
  obtain ⟨hl, hx⟩ := hl
  have hmx := mx_eq
  refine fn_in h_spec_l3Writes r_spec_l3Writes ⟨by simp only [go_sem], fun E hE hH => ?_⟩; simp only [go_sem] at hE hH; simp only [go_sem, hE, hH, c_spec_l3Writes]
  refine loopN l.length (fun j (_ : Unit) => ⟨[(0, .sl false 3 (l.map (Write.row false))), (5, .sl false 3 (l.map (Write.row false))), (6, i64 l.length), (7, i64 j)], []⟩) (fun j _ => allN (fun i => (goodKey (nth l i).Key && stored (nth l i).Val (nth l i).Gone) && (decide (i = 0) || strLt (nth l (i - 1)).Key (nth l i).Key)) j = true) () rfl ?_
  intro j _ hj hI
  try simp only [go_sem, hE, hH, c_spec_l3Writes_l1]
  first | refine gd_t (fun h => ?_) (fun h => ?_) | refine gd_f (fun h => ?_) (fun h => ?_)
  · have hb := h
    simp only [nf] at h
    have hlt := h; clear h
    obtain ⟨w1, w2⟩ := hx _ (nth_mem hlt)
    try simp (disch := omega) only [go_sem, hE, hH, hb]
    repeat' (first | ((with_reducible first | refine gd_t ?_ ?_ | refine gd_f ?_ ?_) <;> (intro h; have hb := h; (try simp only [nf] at h); simp (disch := omega) only [go_sem, hE, hH, hb]; (try clear hb))) | ((with_reducible refine And.intro ?_ ?_); · omega) | ((first | refine ok_view ?_ | refine cvA (l3Write_ok _ _ _ w1 w2) ?_); simp (disch := omega) only [go_sem, hE, hH]) | (refine jn _ ?_ ?_) | (with_reducible refine both ?_ ?_) | (with_reducible refine And.intro ?_ ?_) | (refine fin_eq ?_; (try (simp (disch := omega) only [go_sem, hE, hH])); first | done | rfl) | (simp (disch := omega) only [go_sem, hE, hH]) | ((first | apply noMLL_sE | apply pk_sE) <;> (simp only [go_sem, hE, hH]; done)) | (simp only [go_sem, hE, hH]) | fail)
    · rw [goodWrites, allN_no hlt (by simp_all)]; simp
    · rw [goodWrites, allN_no hlt (by simp_all <;> omega)]; simp
    · first | exact ⟨(), rfl, allN_step hI (by simp_all <;> omega)⟩ | exact ⟨by omega, (), rfl, allN_step hI (by simp_all <;> omega)⟩ | exact ⟨by omega, by omega, (), rfl, allN_step hI (by simp_all <;> omega)⟩
    · first | exact ⟨(), rfl, allN_step hI (by simp_all <;> omega)⟩ | exact ⟨by omega, (), rfl, allN_step hI (by simp_all <;> omega)⟩ | exact ⟨by omega, by omega, (), rfl, allN_step hI (by simp_all <;> omega)⟩
  · try simp (disch := omega) only [go_sem, hE, hH, h]
    simp only [nf] at h
    rw [show j = l.length by omega] at hI
    rw [goodWrites, hI]
    simp
def goodGots (l : List Got) : Bool := allN (fun i => (goodKey (nth l i).Key && stored (nth l i).Val (!(nth l i).There)) && !(l.take i).any fun h => decide (h.Key = (nth l i).Key)) l.length && decide ((l.length : Int) ≤ 8)
theorem areGot_1_ok (h g : Got) : ACall Tryz.prog n_impl_areGot_1 ([.agg (Got.row false h)] ++ [.bx false (Got.row false g)]) (fun r _ => r = bl (decide (h.Key = g.Key))) := by
  refine fn_in h_impl_areGot_1 r_impl_areGot_1 ⟨by simp only [go_sem], fun E hE hH => ?_⟩; simp only [go_sem] at hE hH; simp only [go_sem, hE, hH, c_impl_areGot_1]
  try simp (disch := omega) only [go_sem, hE, hH]
theorem areGot_ok (l : List Got) (hl : wfL Got.wf l) : ACall Tryz.prog n_impl_areGot [.sl false 3 (l.map (Got.row false))] (fun r _ => r = bl (goodGots l)) := by
  obtain ⟨hl, hx⟩ := hl
  have hmx := mx_eq
  refine fn_in h_impl_areGot r_impl_areGot ⟨by simp only [go_sem], fun E hE hH => ?_⟩; simp only [go_sem] at hE hH; simp only [go_sem, hE, hH, c_impl_areGot]
  refine loopN l.length (fun j (_ : Unit) => ⟨[(0, .sl false 3 (l.map (Got.row false))), (5, .sl false 3 (l.map (Got.row false))), (6, i64 l.length), (7, i64 j)], []⟩) (fun j _ => allN (fun i => (goodKey (nth l i).Key && stored (nth l i).Val (!(nth l i).There)) && !(l.take i).any fun h => decide (h.Key = (nth l i).Key)) j = true) () rfl ?_
  intro j _ hj hI
  try simp only [go_sem, hE, hH, c_impl_areGot_l1]
  first | refine gd_t (fun h => ?_) (fun h => ?_) | refine gd_f (fun h => ?_) (fun h => ?_)
  · have hb := h
    simp only [nf] at h
    have hlt := h; clear h
    obtain ⟨w1, w2⟩ := hx _ (nth_mem hlt)
    have ht : ((l.map (Got.row false)).take j) = (l.take j).map (Got.row false) := by rw [List.map_take]
    try simp (disch := omega) only [go_sem, hE, hH, hb, ht]
    repeat' (first | ((with_reducible first | refine gd_t ?_ ?_ | refine gd_f ?_ ?_) <;> (intro h; have hb := h; (try simp only [nf] at h); simp (disch := omega) only [go_sem, hE, hH, hb]; (try clear hb))) | ((with_reducible refine And.intro ?_ ?_); · omega) | ((first | refine ok_view ?_ | refine cvA (GoodKey_ok _ w1) ?_ | refine cvA (isStored_ok _ _ w2) ?_ | refine cvA (ContainsFunc_Got_ok (l.take j) _ [.bx false (Got.row false (nth l j))] (fun h => decide (h.Key = (nth l j).Key)) (by kernel_rfl) rfl (by rw [List.length_take]; omega) (fun h _ => areGot_1_ok h _)) ?_); simp (disch := omega) only [go_sem, hE, hH]) | (refine jn _ ?_ ?_) | (with_reducible refine both ?_ ?_) | (with_reducible refine And.intro ?_ ?_) | (refine fin_eq ?_; (try (simp (disch := omega) only [go_sem, hE, hH])); first | done | rfl) | (simp (disch := omega) only [go_sem, hE, hH]) | ((first | apply noMLL_sE | apply pk_sE) <;> (simp only [go_sem, hE, hH]; done)) | (simp only [go_sem, hE, hH]) | fail)
    · rw [goodGots, allN_no hlt (by simp_all)]; simp
    · rw [goodGots, allN_no hlt (by simp_all)]; simp
    · rw [goodGots, allN_no hlt (by simp_all)]; simp
    · first | exact ⟨(), rfl, allN_step hI (by simp_all)⟩ | exact ⟨by omega, (), rfl, allN_step hI (by simp_all)⟩ | exact ⟨by omega, by omega, (), rfl, allN_step hI (by simp_all)⟩
  · try simp (disch := omega) only [go_sem, hE, hH, h]
    simp only [nf] at h
    rw [show j = l.length by omega] at hI
    rw [goodGots, hI]
    simp
theorem l5Gots_ok (l : List Got) (hl : wfL Got.wf l) : ACall Tryz.prog n_spec_l5Gots [.sl false 3 (l.map (Got.row false))] (fun r _ => r = bl (goodGots l)) := by
  obtain ⟨hl, hx⟩ := hl
  have hmx := mx_eq
  refine fn_in h_spec_l5Gots r_spec_l5Gots ⟨by simp only [go_sem], fun E hE hH => ?_⟩; simp only [go_sem] at hE hH; simp only [go_sem, hE, hH, c_spec_l5Gots]
  refine loopN l.length (fun j (_ : Unit) => ⟨[(0, .sl false 3 (l.map (Got.row false))), (7, .sl false 3 (l.map (Got.row false))), (8, i64 l.length), (9, i64 j)], []⟩) (fun j _ => allN (fun i => (goodKey (nth l i).Key && stored (nth l i).Val (!(nth l i).There)) && !(l.take i).any fun h => decide (h.Key = (nth l i).Key)) j = true) () rfl ?_
  intro j _ hj hI
  try simp only [go_sem, hE, hH, c_spec_l5Gots_l2]
  first | refine gd_t (fun h => ?_) (fun h => ?_) | refine gd_f (fun h => ?_) (fun h => ?_)
  · have hb := h
    simp only [nf] at h
    have hlt := h; clear h
    obtain ⟨w1, w2⟩ := hx _ (nth_mem hlt)
    try simp (disch := omega) only [go_sem, hE, hH, hb]
    repeat' (first | ((with_reducible first | refine gd_t ?_ ?_ | refine gd_f ?_ ?_) <;> (intro h; have hb := h; (try simp only [nf] at h); simp (disch := omega) only [go_sem, hE, hH, hb]; (try clear hb))) | ((with_reducible refine And.intro ?_ ?_); · omega) | ((first | refine ok_view ?_ | refine cvA (l3Key_ok _ w1) ?_ | refine cvA (l3Val_ok _ w2) ?_); simp (disch := omega) only [go_sem, hE, hH]) | (refine jn _ ?_ ?_) | (with_reducible refine both ?_ ?_) | (with_reducible refine And.intro ?_ ?_) | (refine fin_eq ?_; (try (simp (disch := omega) only [go_sem, hE, hH])); first | done | rfl) | (simp (disch := omega) only [go_sem, hE, hH]) | ((first | apply noMLL_sE | apply pk_sE) <;> (simp only [go_sem, hE, hH]; done)) | (simp only [go_sem, hE, hH]) | fail)
    · rw [goodGots, allN_no hlt (by simp_all)]; simp
    · rw [goodGots, allN_no hlt (by simp_all [stored])]; simp
    · rw [goodGots, allN_no hlt (by simp_all [stored])]; simp
    · have hlj : (l.take j).length = j := by rw [List.length_take]; omega
      refine loopN (l.take j).length (fun k (_ : Unit) => ⟨[(0, .sl false 3 (l.map (Got.row false))), (4, .ptr 5000000 0 0), (7, .sl false 3 (l.map (Got.row false))), (8, i64 l.length), (9, i64 j), (36, .sl false 3 ((l.take j).map (Got.row false))), (37, i64 (l.take j).length), (38, i64 k)], [(5000000, ⟨3, [Got.row false (nth l j)]⟩)]⟩) (fun k _ => allN (fun i => !decide ((nth (l.take j) i).Key = (nth l j).Key)) k = true) () rfl ?_
      intro k _ hk hK
      try simp only [go_sem, hE, hH, c_spec_l5Gots_l1]
      first | refine gd_t (fun h2 => ?_) (fun h2 => ?_) | refine gd_f (fun h2 => ?_) (fun h2 => ?_)
      · have hb2 := h2
        simp only [nf] at h2
        have hlt2 : k < (l.take j).length := by omega
        try simp (disch := omega) only [go_sem, hE, hH, hb2]
        repeat' (first | ((with_reducible first | refine gd_t ?_ ?_ | refine gd_f ?_ ?_) <;> (intro h; have hb := h; (try simp only [nf] at h); simp (disch := omega) only [go_sem, hE, hH, hb]; (try clear hb))) | ((with_reducible refine And.intro ?_ ?_); · omega) | (refine jn _ ?_ ?_) | (with_reducible refine both ?_ ?_) | (with_reducible refine And.intro ?_ ?_) | (refine fin_eq ?_; (try (simp (disch := omega) only [go_sem, hE, hH])); first | done | rfl) | (simp (disch := omega) only [go_sem, hE, hH]) | ((first | apply noMLL_sE | apply pk_sE) <;> (simp only [go_sem, hE, hH]; done)) | (simp only [go_sem, hE, hH]) | fail)
        · rw [goodGots, allN_no hlt (by
            have : ((l.take j).any fun h => decide (h.Key = (nth l j).Key)) = true := List.any_eq_true.2 ⟨_, nth_mem hlt2, by simp_all⟩
            simp_all)]
          simp
        · first | exact ⟨(), rfl, allN_step hK (by show (!decide _) = true; rw [Bool.not_eq_true', decide_eq_false_iff_not]; exact fun e => h e.symm)⟩ | exact ⟨by omega, (), rfl, allN_step hK (by show (!decide _) = true; rw [Bool.not_eq_true', decide_eq_false_iff_not]; exact fun e => h e.symm)⟩ | exact ⟨by omega, by omega, (), rfl, allN_step hK (by show (!decide _) = true; rw [Bool.not_eq_true', decide_eq_false_iff_not]; exact fun e => h e.symm)⟩
      · try simp (disch := omega) only [go_sem, hE, hH, h2]
        simp only [nf] at h2
        rw [show k = (l.take j).length by omega] at hK
        have hN : ((l.take j).any fun h => decide (h.Key = (nth l j).Key)) = false := by
          rw [allN_all (p := fun h : Got => !decide (h.Key = (nth l j).Key))] at hK
          rw [List.any_eq_false]
          intro x hx'
          have := List.all_eq_true.1 hK x hx'
          simpa using this
        first | exact ⟨(), rfl, allN_step hI (by simp_all [stored])⟩ | exact ⟨by omega, (), rfl, allN_step hI (by simp_all [stored])⟩ | exact ⟨by omega, by omega, (), rfl, allN_step hI (by simp_all [stored])⟩
    · have hlj : (l.take j).length = j := by rw [List.length_take]; omega
      refine loopN (l.take j).length (fun k (_ : Unit) => ⟨[(0, .sl false 3 (l.map (Got.row false))), (4, .ptr 5000000 0 0), (7, .sl false 3 (l.map (Got.row false))), (8, i64 l.length), (9, i64 j), (36, .sl false 3 ((l.take j).map (Got.row false))), (37, i64 (l.take j).length), (38, i64 k)], [(5000000, ⟨3, [Got.row false (nth l j)]⟩)]⟩) (fun k _ => allN (fun i => !decide ((nth (l.take j) i).Key = (nth l j).Key)) k = true) () rfl ?_
      intro k _ hk hK
      try simp only [go_sem, hE, hH, c_spec_l5Gots_l1]
      first | refine gd_t (fun h2 => ?_) (fun h2 => ?_) | refine gd_f (fun h2 => ?_) (fun h2 => ?_)
      · have hb2 := h2
        simp only [nf] at h2
        have hlt2 : k < (l.take j).length := by omega
        try simp (disch := omega) only [go_sem, hE, hH, hb2]
        repeat' (first | ((with_reducible first | refine gd_t ?_ ?_ | refine gd_f ?_ ?_) <;> (intro h; have hb := h; (try simp only [nf] at h); simp (disch := omega) only [go_sem, hE, hH, hb]; (try clear hb))) | ((with_reducible refine And.intro ?_ ?_); · omega) | (refine jn _ ?_ ?_) | (with_reducible refine both ?_ ?_) | (with_reducible refine And.intro ?_ ?_) | (refine fin_eq ?_; (try (simp (disch := omega) only [go_sem, hE, hH])); first | done | rfl) | (simp (disch := omega) only [go_sem, hE, hH]) | ((first | apply noMLL_sE | apply pk_sE) <;> (simp only [go_sem, hE, hH]; done)) | (simp only [go_sem, hE, hH]) | fail)
        · rw [goodGots, allN_no hlt (by
            have : ((l.take j).any fun h => decide (h.Key = (nth l j).Key)) = true := List.any_eq_true.2 ⟨_, nth_mem hlt2, by simp_all⟩
            simp_all)]
          simp
        · first | exact ⟨(), rfl, allN_step hK (by show (!decide _) = true; rw [Bool.not_eq_true', decide_eq_false_iff_not]; exact fun e => h e.symm)⟩ | exact ⟨by omega, (), rfl, allN_step hK (by show (!decide _) = true; rw [Bool.not_eq_true', decide_eq_false_iff_not]; exact fun e => h e.symm)⟩ | exact ⟨by omega, by omega, (), rfl, allN_step hK (by show (!decide _) = true; rw [Bool.not_eq_true', decide_eq_false_iff_not]; exact fun e => h e.symm)⟩
      · try simp (disch := omega) only [go_sem, hE, hH, h2]
        simp only [nf] at h2
        rw [show k = (l.take j).length by omega] at hK
        have hN : ((l.take j).any fun h => decide (h.Key = (nth l j).Key)) = false := by
          rw [allN_all (p := fun h : Got => !decide (h.Key = (nth l j).Key))] at hK
          rw [List.any_eq_false]
          intro x hx'
          have := List.all_eq_true.1 hK x hx'
          simpa using this
        first | exact ⟨(), rfl, allN_step hI (by simp_all [stored])⟩ | exact ⟨by omega, (), rfl, allN_step hI (by simp_all [stored])⟩ | exact ⟨by omega, by omega, (), rfl, allN_step hI (by simp_all [stored])⟩
  · try simp (disch := omega) only [go_sem, hE, hH, h]
    simp only [nf] at h
    rw [show j = l.length by omega] at hI
    rw [goodGots, hI]
    simp
def goodDeed (d : Deed) : Bool :=
  (!(d.Look && (!d.Yes || decide (0 < (d.Writes.length : Int))))) && (rng d.Txn 1 60 && rng d.Begin 0 1000000 && (decide (d.End = -1) || (decide (d.Begin < d.End) && decide (d.End ≤ 1000000))) && rng d.Time 0 100000 && goodGots d.Got && goodWrites d.Writes)
theorem isTxn_ok (n : Int) : ACall Tryz.prog n_impl_isTxn [i64 n] (fun r _ => r = bl (rng n 1 60)) := by
  refine fn_in h_impl_isTxn r_impl_isTxn ⟨by simp only [go_sem], fun E hE hH => ?_⟩; simp only [go_sem] at hE hH; simp only [go_sem, hE, hH, c_impl_isTxn]
  repeat' (first | ((with_reducible first | refine gd_t ?_ ?_ | refine gd_f ?_ ?_) <;> (intro h; have hb := h; (try simp only [nf] at h); simp (disch := omega) only [go_sem, hE, hH, hb]; (try clear hb))) | ((with_reducible refine And.intro ?_ ?_); · omega) | ((first | refine ok_view ?_ | refine cvA (within_ok _ _ _) ?_); simp (disch := omega) only [go_sem, hE, hH]) | (refine jn _ ?_ ?_) | (with_reducible refine both ?_ ?_) | (with_reducible refine And.intro ?_ ?_) | (refine fin_eq ?_; (try (simp (disch := omega) only [go_sem, hE, hH])); first | done | rfl) | (simp (disch := omega) only [go_sem, hE, hH]) | ((first | apply noMLL_sE | apply pk_sE) <;> (simp only [go_sem, hE, hH]; done)) | (simp only [go_sem, hE, hH]) | fail)
theorem isTrue_ok (n : Int) : ACall Tryz.prog n_impl_isTrue [i64 n] (fun r _ => r = bl (rng n 0 100000)) := by
  refine fn_in h_impl_isTrue r_impl_isTrue ⟨by simp only [go_sem], fun E hE hH => ?_⟩; simp only [go_sem] at hE hH; simp only [go_sem, hE, hH, c_impl_isTrue]
  repeat' (first | ((with_reducible first | refine gd_t ?_ ?_ | refine gd_f ?_ ?_) <;> (intro h; have hb := h; (try simp only [nf] at h); simp (disch := omega) only [go_sem, hE, hH, hb]; (try clear hb))) | ((with_reducible refine And.intro ?_ ?_); · omega) | ((first | refine ok_view ?_ | refine cvA (within_ok _ _ _) ?_); simp (disch := omega) only [go_sem, hE, hH]) | (refine jn _ ?_ ?_) | (with_reducible refine both ?_ ?_) | (with_reducible refine And.intro ?_ ?_) | (refine fin_eq ?_; (try (simp (disch := omega) only [go_sem, hE, hH])); first | done | rfl) | (simp (disch := omega) only [go_sem, hE, hH]) | ((first | apply noMLL_sE | apply pk_sE) <;> (simp only [go_sem, hE, hH]; done)) | (simp only [go_sem, hE, hH]) | fail)
theorem l2True_ok (n : Int) : ACall Tryz.prog n_spec_l2True [i64 n] (fun r _ => r = bl (rng n 0 100000)) := by
  refine fn_in h_spec_l2True r_spec_l2True ⟨by simp only [go_sem], fun E hE hH => ?_⟩; simp only [go_sem] at hE hH; simp only [go_sem, hE, hH, c_spec_l2True]
  repeat' (first | ((with_reducible first | refine gd_t ?_ ?_ | refine gd_f ?_ ?_) <;> (intro h; have hb := h; (try simp only [nf] at h); simp (disch := omega) only [go_sem, hE, hH, hb]; (try clear hb))) | ((with_reducible refine And.intro ?_ ?_); · omega) | ((first | refine ok_view ?_ | refine cvA (l1In_ok _ _ _) ?_); simp (disch := omega) only [go_sem, hE, hH]) | (refine jn _ ?_ ?_) | (with_reducible refine both ?_ ?_) | (with_reducible refine And.intro ?_ ?_) | (refine fin_eq ?_; (try (simp (disch := omega) only [go_sem, hE, hH])); first | done | rfl) | (simp (disch := omega) only [go_sem, hE, hH]) | ((first | apply noMLL_sE | apply pk_sE) <;> (simp only [go_sem, hE, hH]; done)) | (simp only [go_sem, hE, hH]) | fail)
theorem isDeed_ok (d : Deed) (hd : d.wf) : ACall Tryz.prog n_impl_isDeed [.agg (Deed.row false d)] (fun r _ => r = bl (goodDeed d)) := by
  obtain ⟨w1, w2, w3, w4, w5, w6⟩ := hd
  refine fn_in h_impl_isDeed r_impl_isDeed ⟨by simp only [go_sem], fun E hE hH => ?_⟩; simp only [go_sem] at hE hH; simp only [go_sem, hE, hH, c_impl_isDeed]
  repeat' (first | ((with_reducible first | refine gd_t ?_ ?_ | refine gd_f ?_ ?_) <;> (intro h; have hb := h; (try simp only [nf, rng_iff, rng_no] at h); simp (disch := omega) only [go_sem, hE, hH, hb]; (try clear hb))) | ((with_reducible refine And.intro ?_ ?_); · omega) | ((first | refine ok_view ?_ | refine cvA (isTxn_ok _) ?_ | refine cvA (within_ok _ _ _) ?_ | refine cvA (isTrue_ok _) ?_ | refine cvA (areGot_ok _ w5) ?_ | refine cvA (GoodWrites_ok _ w6) ?_); simp (disch := omega) only [go_sem, hE, hH]) | (refine jn _ ?_ ?_) | (with_reducible refine both ?_ ?_) | (with_reducible refine And.intro ?_ ?_) | (refine fin_eq ?_; (try (simp (disch := omega) only [go_sem, hE, hH])); first | done | rfl) | (simp (disch := omega) only [go_sem, hE, hH]) | ((first | apply noMLL_sE | apply pk_sE) <;> (simp only [go_sem, hE, hH]; done)) | (simp only [go_sem, hE, hH]) | fail)
  all_goals (first | (simp_all [goodDeed, rng]; done) | (simp_all [goodDeed, rng] <;> first | omega | (intros; omega)))
theorem l18Deed_ok (d : Deed) (hd : d.wf) : ACall Tryz.prog n_spec_l18Deed [.agg (Deed.row false d)] (fun r _ => r = bl (goodDeed d)) := by
  obtain ⟨w1, w2, w3, w4, w5, w6⟩ := hd
  refine fn_in h_spec_l18Deed r_spec_l18Deed ⟨by simp only [go_sem], fun E hE hH => ?_⟩; simp only [go_sem] at hE hH; simp only [go_sem, hE, hH, c_spec_l18Deed]
  repeat' (first | ((with_reducible first | refine gd_t ?_ ?_ | refine gd_f ?_ ?_) <;> (intro h; have hb := h; (try simp only [nf] at h); simp (disch := omega) only [go_sem, hE, hH, hb]; (try clear hb))) | ((with_reducible refine And.intro ?_ ?_); · omega) | ((first | refine ok_view ?_ | refine cvA (l1In_ok _ _ _) ?_ | refine cvA (l2True_ok _) ?_ | refine cvA (l5Gots_ok _ w5) ?_ | refine cvA (l3Writes_ok _ w6) ?_); simp (disch := omega) only [go_sem, hE, hH]) | (refine jn _ ?_ ?_) | (with_reducible refine both ?_ ?_) | (with_reducible refine And.intro ?_ ?_) | (refine fin_eq ?_; (try (simp (disch := omega) only [go_sem, hE, hH])); first | done | rfl) | (simp (disch := omega) only [go_sem, hE, hH]) | ((first | apply noMLL_sE | apply pk_sE) <;> (simp only [go_sem, hE, hH]; done)) | (simp only [go_sem, hE, hH]) | fail)
  all_goals (first | (simp_all [goodDeed, rng]; done) | (simp_all [goodDeed, rng] <;> first | omega | (intros; omega)))
def ahead (a b : Deed) : Bool := !decide (a.End = -1) && decide (a.End < b.Begin)
def ahead2 (a b : Deed) : Bool := decide (0 ≤ a.End) && decide (a.End < b.Begin)
theorem ahead_ok (a b : Deed) : ACall Tryz.prog n_impl_ahead [.agg (Deed.row false a), .agg (Deed.row false b)] (fun r _ => r = bl (ahead a b)) := by
  refine fn_in h_impl_ahead r_impl_ahead ⟨by simp only [go_sem], fun E hE hH => ?_⟩; simp only [go_sem] at hE hH; simp only [go_sem, hE, hH, c_impl_ahead]
  repeat' (first | ((with_reducible first | refine gd_t ?_ ?_ | refine gd_f ?_ ?_) <;> (intro h; have hb := h; (try simp only [nf] at h); simp (disch := omega) only [go_sem, hE, hH, hb]; (try clear hb))) | ((with_reducible refine And.intro ?_ ?_); · omega) | (refine jn _ ?_ ?_) | (with_reducible refine both ?_ ?_) | (with_reducible refine And.intro ?_ ?_) | (refine fin_eq ?_; (try (simp (disch := omega) only [go_sem, hE, hH])); first | done | rfl) | (simp (disch := omega) only [go_sem, hE, hH]) | ((first | apply noMLL_sE | apply pk_sE) <;> (simp only [go_sem, hE, hH]; done)) | (simp only [go_sem, hE, hH]) | fail)
  all_goals (first | (simp_all [ahead]; done) | (simp_all [ahead] <;> first | omega | (intros; omega)))
theorem l18Ahead_ok (a b : Deed) : ACall Tryz.prog n_spec_l18Ahead [.agg (Deed.row false a), .agg (Deed.row false b)] (fun r _ => r = bl (ahead2 a b)) := by
  refine fn_in h_spec_l18Ahead r_spec_l18Ahead ⟨by simp only [go_sem], fun E hE hH => ?_⟩; simp only [go_sem] at hE hH; simp only [go_sem, hE, hH, c_spec_l18Ahead]
  repeat' (first | ((with_reducible first | refine gd_t ?_ ?_ | refine gd_f ?_ ?_) <;> (intro h; have hb := h; (try simp only [nf] at h); simp (disch := omega) only [go_sem, hE, hH, hb]; (try clear hb))) | ((with_reducible refine And.intro ?_ ?_); · omega) | (refine jn _ ?_ ?_) | (with_reducible refine both ?_ ?_) | (with_reducible refine And.intro ?_ ?_) | (refine fin_eq ?_; (try (simp (disch := omega) only [go_sem, hE, hH])); first | done | rfl) | (simp (disch := omega) only [go_sem, hE, hH]) | ((first | apply noMLL_sE | apply pk_sE) <;> (simp only [go_sem, hE, hH]; done)) | (simp only [go_sem, hE, hH]) | fail)
  all_goals (first | (simp_all [ahead2]; done) | (simp_all [ahead2] <;> first | omega | (intros; omega)))
theorem goodDeed_end {d : Deed} (h : goodDeed d = true) : 0 ≤ d.Begin ∧ d.Begin ≤ 1000000 ∧ (d.End = -1 ∨ d.Begin < d.End) ∧ d.End ≤ 1000000 ∧ -1 ≤ d.End := by
  simp [goodDeed, rng] at h
  omega
theorem ahead_eq {a b : Deed} (h : goodDeed a = true) : ahead a b = ahead2 a b := by
  have := goodDeed_end h
  unfold ahead ahead2
  rw [Bool.eq_iff_iff]
  simp
  omega
def goodHist (l : List Deed) : Bool := allN (fun i => goodDeed (nth l i)) l.length && decide ((l.length : Int) ≤ 10)
theorem any_not_all {α : Type} {p : α → Bool} {l : List α} : (!l.any fun x => !p x) = l.all p := by
  simp [List.any_eq_not_all_not]
theorem goodHist_eq (l : List Deed) : goodHist l = (decide ((l.length : Int) ≤ 10) && !l.any fun d => !goodDeed d) := by
  rw [any_not_all, ← allN_all (p := goodDeed), goodHist, Bool.and_comm]
theorem GoodHistory_1_ok (d : Deed) (hd : d.wf) : ACall Tryz.prog n_impl_GoodHistory_1 [.agg (Deed.row false d)] (fun r _ => r = bl (!goodDeed d)) := by
  refine fn_in h_impl_GoodHistory_1 r_impl_GoodHistory_1 ⟨by simp only [go_sem], fun E hE hH => ?_⟩; simp only [go_sem] at hE hH; simp only [go_sem, hE, hH, c_impl_GoodHistory_1]
  repeat' (first | ((with_reducible first | refine gd_t ?_ ?_ | refine gd_f ?_ ?_) <;> (intro h; have hb := h; (try simp only [nf] at h); simp (disch := omega) only [go_sem, hE, hH, hb]; (try clear hb))) | ((with_reducible refine And.intro ?_ ?_); · omega) | ((first | refine ok_view ?_ | refine cvA (isDeed_ok _ hd) ?_); simp (disch := omega) only [go_sem, hE, hH]) | (refine jn _ ?_ ?_) | (with_reducible refine both ?_ ?_) | (with_reducible refine And.intro ?_ ?_) | (refine fin_eq ?_; (try (simp (disch := omega) only [go_sem, hE, hH])); first | done | rfl) | (simp (disch := omega) only [go_sem, hE, hH]) | ((first | apply noMLL_sE | apply pk_sE) <;> (simp only [go_sem, hE, hH]; done)) | (simp only [go_sem, hE, hH]) | fail)
theorem GoodHistory_ok (l : List Deed) (hl : wfL Deed.wf l) : ACall Tryz.prog n_impl_GoodHistory [.sl false 8 (l.map (Deed.row false))] (fun r _ => r = bl (goodHist l)) := by
  obtain ⟨hl, hx⟩ := hl
  have hmx := mx_eq
  rw [goodHist_eq]
  refine fn_in h_impl_GoodHistory r_impl_GoodHistory ⟨by simp only [go_sem], fun E hE hH => ?_⟩; simp only [go_sem] at hE hH; simp only [go_sem, hE, hH, c_impl_GoodHistory]
  repeat' (first | ((with_reducible first | refine gd_t ?_ ?_ | refine gd_f ?_ ?_) <;> (intro h; have hb := h; (try simp only [nf] at h); simp (disch := omega) only [go_sem, hE, hH, hb]; (try clear hb))) | ((with_reducible refine And.intro ?_ ?_); · omega) | ((first | refine ok_view ?_ | refine cvA (ContainsFunc_Deed_ok l _ [] (fun d => !goodDeed d) (by kernel_rfl) rfl hl (fun d hd => GoodHistory_1_ok d (hx d hd))) ?_); simp (disch := omega) only [go_sem, hE, hH]) | (refine jn _ ?_ ?_) | (with_reducible refine both ?_ ?_) | (with_reducible refine And.intro ?_ ?_) | (refine fin_eq ?_; (try (simp (disch := omega) only [go_sem, hE, hH])); first | done | rfl) | (simp (disch := omega) only [go_sem, hE, hH]) | ((first | apply noMLL_sE | apply pk_sE) <;> (simp only [go_sem, hE, hH]; done)) | (simp only [go_sem, hE, hH]) | fail)
  all_goals (first | (simp_all []; done) | (simp_all [] <;> first | omega | (intros; omega)))
theorem l18Good_ok (l : List Deed) (hl : wfL Deed.wf l) : ACall Tryz.prog n_spec_l18Good [.sl false 8 (l.map (Deed.row false))] (fun r _ => r = bl (goodHist l)) := by
  obtain ⟨hl, hx⟩ := hl
  have hmx := mx_eq
  refine fn_in h_spec_l18Good r_spec_l18Good ⟨by simp only [go_sem], fun E hE hH => ?_⟩; simp only [go_sem] at hE hH; simp only [go_sem, hE, hH, c_spec_l18Good]
  refine loopN l.length (fun j (_ : Unit) => ⟨[(0, .sl false 8 (l.map (Deed.row false))), (5, .sl false 8 (l.map (Deed.row false))), (6, i64 l.length), (7, i64 j)], []⟩) (fun j _ => allN (fun i => goodDeed (nth l i)) j = true) () rfl ?_
  intro j _ hj hI
  try simp only [go_sem, hE, hH, c_spec_l18Good_l1]
  first | refine gd_t (fun h1 => ?_) (fun h1 => ?_) | refine gd_f (fun h1 => ?_) (fun h1 => ?_)
  · have hb := h1
    simp only [nf] at h1
    have hlt := h1; clear h1
    have hd := hx _ (nth_mem hlt)
    try simp (disch := omega) only [go_sem, hE, hH, hb]
    repeat' (first | ((with_reducible first | refine gd_t ?_ ?_ | refine gd_f ?_ ?_) <;> (intro h; have hb := h; (try simp only [nf] at h); simp (disch := omega) only [go_sem, hE, hH, hb]; (try clear hb))) | ((with_reducible refine And.intro ?_ ?_); · omega) | ((first | refine ok_view ?_ | refine cvA (l18Deed_ok _ hd) ?_); simp (disch := omega) only [go_sem, hE, hH]) | (refine jn _ ?_ ?_) | (with_reducible refine both ?_ ?_) | (with_reducible refine And.intro ?_ ?_) | (refine fin_eq ?_; (try (simp (disch := omega) only [go_sem, hE, hH])); first | done | rfl) | (simp (disch := omega) only [go_sem, hE, hH]) | ((first | apply noMLL_sE | apply pk_sE) <;> (simp only [go_sem, hE, hH]; done)) | (simp only [go_sem, hE, hH]) | fail)
    · rw [goodHist, allN_no hlt h]; simp
    · first | exact ⟨(), rfl, allN_step hI h⟩ | exact ⟨by omega, (), rfl, allN_step hI h⟩ | exact ⟨by omega, by omega, (), rfl, allN_step hI h⟩
  · try simp (disch := omega) only [go_sem, hE, hH, h1]
    simp only [nf] at h1
    rw [show j = l.length by omega] at hI
    rw [goodHist, hI]
    simp
theorem goodHist_mem {l : List Deed} (hg : goodHist l = true) {i : Nat} (hi : i < l.length) : goodDeed (nth l i) = true := by
  simp only [goodHist, Bool.and_eq_true] at hg
  exact allN_iff.1 hg.1 i hi
theorem goodHist_len {l : List Deed} (hg : goodHist l = true) : l.length ≤ 10 := by
  simp [goodHist] at hg
  omega
theorem l1Has_ok (l : List Int) (v : Int) (hl : l.length ≤ maxLen) : ACall Tryz.prog n_spec_l1Has [.sl false 1 (ints l), i64 v] (fun r _ => r = bl (l.any fun x => decide (v = x))) := by
  have hmx := mx_eq
  refine fn_in h_spec_l1Has r_spec_l1Has ⟨by simp only [go_sem], fun E hE hH => ?_⟩; simp only [go_sem] at hE hH; simp only [go_sem, hE, hH, c_spec_l1Has]
  refine loopN l.length (fun j (_ : Unit) => ⟨[(1, i64 v), (7, .sl false 1 (ints l)), (8, i64 l.length), (9, i64 j)], []⟩) (fun j _ => allN (fun i => !decide (v = nth l i)) j = true) () rfl ?_
  intro j _ hj hI
  try simp only [go_sem, hE, hH, c_spec_l1Has_l1]
  first | refine gd_t (fun h => ?_) (fun h => ?_) | refine gd_f (fun h => ?_) (fun h => ?_)
  · have hb := h
    simp only [nf] at h
    have hlt := h; clear h
    try simp (disch := omega) only [go_sem, hE, hH, hb]
    repeat' (first | ((with_reducible first | refine gd_t ?_ ?_ | refine gd_f ?_ ?_) <;> (intro h; have hb := h; (try simp only [nf] at h); simp (disch := omega) only [go_sem, hE, hH, hb]; (try clear hb))) | ((with_reducible refine And.intro ?_ ?_); · omega) | (refine jn _ ?_ ?_) | (with_reducible refine both ?_ ?_) | (with_reducible refine And.intro ?_ ?_) | (refine fin_eq ?_; (try (simp (disch := omega) only [go_sem, hE, hH])); first | done | rfl) | (simp (disch := omega) only [go_sem, hE, hH]) | ((first | apply noMLL_sE | apply pk_sE) <;> (simp only [go_sem, hE, hH]; done)) | (simp only [go_sem, hE, hH]) | fail)
    · have : (l.any fun x => decide (v = x)) = true := List.any_eq_true.2 ⟨_, nth_mem hlt, by simp [h]⟩
      rw [this]
    · first | exact ⟨(), rfl, allN_step hI (by simp only [Bool.not_eq_true', decide_eq_false_iff_not]; exact fun e => h e.symm)⟩ | exact ⟨by omega, (), rfl, allN_step hI (by simp only [Bool.not_eq_true', decide_eq_false_iff_not]; exact fun e => h e.symm)⟩ | exact ⟨by omega, by omega, (), rfl, allN_step hI (by simp only [Bool.not_eq_true', decide_eq_false_iff_not]; exact fun e => h e.symm)⟩
  · try simp (disch := omega) only [go_sem, hE, hH, h]
    simp only [nf] at h
    rw [show j = l.length by omega, allN_all (p := fun x => !decide (v = x))] at hI
    have : (l.any fun x => decide (v = x)) = false := by
      rw [List.any_eq_false]; intro x hx; simpa using List.all_eq_true.1 hI x hx
    rw [this]
theorem nth_drop {α : Type} [Inhabited α] {l : List α} {i k : Nat} : nth (l.drop i) k = nth l (i + k) := by
  simp [nth, List.getD, List.getElem?_drop]
theorem isNaN_string_ok (x : ByteArray) : ACall Tryz.prog n_cmp_isNaN_string_ [str x] (fun r _ => r = bl false) := by
  refine fn_in h_cmp_isNaN_string_ r_cmp_isNaN_string_ ⟨by simp only [go_sem], fun E hE hH => ?_⟩; simp only [go_sem] at hE hH; simp only [go_sem, hE, hH, c_cmp_isNaN_string_]
  try simp (disch := omega) only [go_sem, hE, hH]
def cmpS (a b : ByteArray) : Int := if strLt a b then -1 else if strLt b a then 1 else 0
theorem Compare_string_ok (a b : ByteArray) : ACall Tryz.prog n_cmp_Compare_string_ [str a, str b] (fun r _ => r = i64 (cmpS a b)) := by
  refine fn_in h_cmp_Compare_string_ r_cmp_Compare_string_ ⟨by simp only [go_sem], fun E hE hH => ?_⟩; simp only [go_sem] at hE hH; simp only [go_sem, hE, hH, c_cmp_Compare_string_]
  repeat' (first | ((with_reducible first | refine gd_t ?_ ?_ | refine gd_f ?_ ?_) <;> (intro h; have hb := h; (try simp only [nf] at h); simp (disch := omega) only [go_sem, hE, hH, hb]; (try clear hb))) | ((with_reducible refine And.intro ?_ ?_); · omega) | ((first | refine ok_view ?_ | refine cvA (isNaN_string_ok _) ?_); simp (disch := omega) only [go_sem, hE, hH]) | (refine jn _ ?_ ?_) | (with_reducible refine both ?_ ?_) | (with_reducible refine And.intro ?_ ?_) | (refine fin_eq ?_; (try (simp (disch := omega) only [go_sem, hE, hH])); first | done | rfl) | (simp (disch := omega) only [go_sem, hE, hH]) | ((first | apply noMLL_sE | apply pk_sE) <;> (simp only [go_sem, hE, hH]; done)) | (simp only [go_sem, hE, hH]) | fail)
  all_goals (rcases strLt_total a b with q | q | q <;> simp_all [cmpS, strLt_irr, strLt_asymm])
theorem findWrite_1_ok (w : Write) (key : ByteArray) : ACall Tryz.prog n_impl_findWrite_1 ([.agg (Write.row false w), str key] ++ []) (fun r _ => r = i64 (cmpS w.Key key)) := by
  refine fn_in h_impl_findWrite_1 r_impl_findWrite_1 ⟨by simp only [go_sem], fun E hE hH => ?_⟩; simp only [go_sem] at hE hH; simp only [go_sem, hE, hH, c_impl_findWrite_1]
  repeat' (first | ((with_reducible first | refine gd_t ?_ ?_ | refine gd_f ?_ ?_) <;> (intro h; have hb := h; (try simp only [nf] at h); simp (disch := omega) only [go_sem, hE, hH, hb]; (try clear hb))) | ((with_reducible refine And.intro ?_ ?_); · omega) | ((first | refine ok_view ?_ | refine cvA (Compare_string_ok _ _) ?_); simp (disch := omega) only [go_sem, hE, hH]) | (refine jn _ ?_ ?_) | (with_reducible refine both ?_ ?_) | (with_reducible refine And.intro ?_ ?_) | (refine fin_eq ?_; (try (simp (disch := omega) only [go_sem, hE, hH])); first | done | rfl) | (simp (disch := omega) only [go_sem, hE, hH]) | ((first | apply noMLL_sE | apply pk_sE) <;> (simp only [go_sem, hE, hH]; done)) | (simp only [go_sem, hE, hH]) | fail)
def srtW (l : List Write) : Prop := ∀ i j, i < j → j < l.length → strLt (nth l i).Key (nth l j).Key = true
theorem goodWrites_srt {l : List Write} (h : goodWrites l = true) : srtW l := by
  simp only [goodWrites, Bool.and_eq_true] at h
  have key : ∀ d i, i + d + 1 < l.length → strLt (nth l i).Key (nth l (i + d + 1)).Key = true := by
    intro d
    induction d with
    | zero =>
      intro i hi
      have := allN_iff.1 h.2 (i + 1) (by omega)
      simp only [Bool.and_eq_true, Bool.or_eq_true, decide_eq_true_eq] at this
      exact this.2.resolve_left (by omega)
    | succ d ih =>
      intro i hi
      have h1 := ih i (by omega)
      have := allN_iff.1 h.2 (i + d + 2) (by omega)
      simp only [Bool.and_eq_true, Bool.or_eq_true, decide_eq_true_eq] at this
      exact strLt_trans h1 (this.2.resolve_left (by omega))
  intro i j h1 h2
  have := key (j - i - 1) i (by omega)
  rwa [show i + (j - i - 1) + 1 = j by omega] at this
def fwI (l : List Write) (k : ByteArray) : Nat := cntN (fun i => strLt (nth l i).Key k) l.length
def fwF (l : List Write) (k : ByteArray) : Bool := l.any fun w => decide (w.Key = k)
theorem cmpS_neg {a b : ByteArray} : cmpS a b < 0 ↔ strLt a b = true := by
  unfold cmpS
  split
  · simp_all
  · split <;> simp_all
theorem cmpS_zero {a b : ByteArray} : cmpS a b = 0 ↔ a = b := by
  unfold cmpS
  rcases strLt_total a b with h | h | h
  · rw [if_pos h]; simp [strLt_ne h]
  · subst h; simp [strLt_irr]
  · rw [strLt_asymm h, if_neg (by simp), if_pos h]; simp [(strLt_ne h).symm]
theorem fw_eq {l : List Write} (hs : srtW l) (k : ByteArray) : bsI (fun w : Write => cmpS w.Key k) l = fwI l k ∧ bsF (fun w : Write => cmpS w.Key k) l = fwF l k := by
  have e1 : bsI (fun w : Write => cmpS w.Key k) l = fwI l k := by
    unfold bsI fwI
    congr 1; funext i
    rw [Bool.eq_iff_iff, decide_eq_true_iff, cmpS_neg]
  refine ⟨e1, ?_⟩
  rw [Bool.eq_iff_iff]
  unfold bsF fwF
  rw [e1, Bool.and_eq_true, decide_eq_true_iff, decide_eq_true_iff, cmpS_zero, List.any_eq_true]
  constructor
  · rintro ⟨h1, h2⟩; exact ⟨_, nth_mem h1, by simp [h2]⟩
  · rintro ⟨w, hw, h1⟩
    obtain ⟨i, hi, rfl⟩ := List.getElem_of_mem hw
    simp only [decide_eq_true_eq] at h1
    rw [← nth_lt hi] at h1
    have e2 : fwI l k = i := by
      unfold fwI
      rw [cntN_none (Nat.le_of_lt hi) (fun j a b => ?_), cntN_all (allN_iff.2 fun j hj => ?_)]
      · rw [← h1]; exact hs j i hj hi
      · by_cases e : j = i
        · rw [e, h1]; exact strLt_irr _
        · rw [← h1]; exact strLt_asymm (hs i j (by omega) b)
    rw [e2]; exact ⟨hi, h1⟩
theorem findWrite_ok (l : List Write) (key : ByteArray) (hl : l.length ≤ 2 ^ 60) (hs : srtW l) : ACall Tryz.prog n_impl_findWrite [.sl false 3 (l.map (Write.row false)), str key] (fun r _ => r = .tup [i64 (fwI l key), bl (fwF l key)]) := by
  obtain ⟨e1, e2⟩ := fw_eq hs key
  refine fn_in h_impl_findWrite r_impl_findWrite ⟨by simp only [go_sem], fun E hE hH => ?_⟩; simp only [go_sem] at hE hH; simp only [go_sem, hE, hH, c_impl_findWrite]
  repeat' (first | ((with_reducible first | refine gd_t ?_ ?_ | refine gd_f ?_ ?_) <;> (intro h; have hb := h; (try simp only [nf] at h); simp (disch := omega) only [go_sem, hE, hH, hb]; (try clear hb))) | ((with_reducible refine And.intro ?_ ?_); · omega) | ((first | refine ok_view ?_ | refine cvA (BinarySearchFunc_Write_ok l key _ [] (fun w => cmpS w.Key key) (by kernel_rfl) rfl hl (fun i j h1 h2 h3 => by have := hs i j h1 h2; rw [← Int.not_lt, cmpS_neg] at h3 ⊢; exact fun h => h3 (strLt_trans this h)) (fun w _ => findWrite_1_ok w key)) ?_); simp (disch := omega) only [go_sem, hE, hH]) | (refine jn _ ?_ ?_) | (with_reducible refine both ?_ ?_) | (with_reducible refine And.intro ?_ ?_) | (refine fin_eq ?_; (try (simp (disch := omega) only [go_sem, hE, hH])); first | done | rfl) | (simp (disch := omega) only [go_sem, hE, hH]) | ((first | apply noMLL_sE | apply pk_sE) <;> (simp only [go_sem, hE, hH]; done)) | (simp only [go_sem, hE, hH]) | fail)
  all_goals simp only [e1, e2]
end Go.Proofs.Wb

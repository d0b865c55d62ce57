import Derived.Test.YtoelnhjecaellaaGreatDoorFnExactFindOrderCodes
import Derived.Test.YtoelnhjecaellaaGreatDoorAmRaw
set_option linter.unusedSimpArgs false
set_option linter.unusedVariables false
set_option linter.unusedSectionVars false
namespace Go.Proofs.Wb
open Go Go.Am
structure Got where
  Key : ByteArray
  Val : ByteArray
  There : Bool
  deriving DecidableEq, Inhabited
def Got.row (o : Bool) (x : Got) : List T := [str x.Key, str x.Val, bl x.There]
@[go_sem] theorem Got.row_eq (o : Bool) (x : Got) : Got.row o x = [str x.Key, str x.Val, bl x.There] := rfl
def Got.wf (x : Got) : Prop := (x.Key.size ≤ maxLen) ∧ (x.Val.size ≤ maxLen)
def Got.sz (x : Got) : Nat := x.Key.size + x.Val.size
structure Write where
  Key : ByteArray
  Val : ByteArray
  Gone : Bool
  deriving DecidableEq, Inhabited
def Write.row (o : Bool) (x : Write) : List T := [str x.Key, str x.Val, bl x.Gone]
@[go_sem] theorem Write.row_eq (o : Bool) (x : Write) : Write.row o x = [str x.Key, str x.Val, bl x.Gone] := rfl
def Write.wf (x : Write) : Prop := (x.Key.size ≤ maxLen) ∧ (x.Val.size ≤ maxLen)
def Write.sz (x : Write) : Nat := x.Key.size + x.Val.size
structure Deed where
  Txn : Int
  Begin : Int
  End : Int
  Yes : Bool
  Look : Bool
  Time : Int
  Got : List Got
  Writes : List Write
  deriving DecidableEq, Inhabited
def Deed.row (o : Bool) (x : Deed) : List T := [i64 x.Txn, i64 x.Begin, i64 x.End, bl x.Yes, bl x.Look, i64 x.Time, .sl o 3 (x.Got.map (Got.row o)), .sl o 3 (x.Writes.map (Write.row o))]
@[go_sem] theorem Deed.row_eq (o : Bool) (x : Deed) : Deed.row o x = [i64 x.Txn, i64 x.Begin, i64 x.End, bl x.Yes, bl x.Look, i64 x.Time, .sl o 3 (x.Got.map (Got.row o)), .sl o 3 (x.Writes.map (Write.row o))] := rfl
def Deed.wf (x : Deed) : Prop := (-9223372036854775808 ≤ x.Txn ∧ x.Txn ≤ 9223372036854775807) ∧ (-9223372036854775808 ≤ x.Begin ∧ x.Begin ≤ 9223372036854775807) ∧ (-9223372036854775808 ≤ x.End ∧ x.End ≤ 9223372036854775807) ∧ (-9223372036854775808 ≤ x.Time ∧ x.Time ≤ 9223372036854775807) ∧ (wfL (Got.wf) x.Got) ∧ (wfL (Write.wf) x.Writes)
def Deed.sz (x : Deed) : Nat := szL (Got.sz) x.Got + szL (Write.sz) x.Writes
def Got.lim (x : Got) : Prop := True
theorem Got.lim_of {x : Got} (h : x.wf) : x.lim := by
  exact trivial
def Write.lim (x : Write) : Prop := True
theorem Write.lim_of {x : Write} (h : x.wf) : x.lim := by
  exact trivial
def Deed.lim (x : Deed) : Prop := (limL (Got.lim) x.Got) ∧ (limL (Write.lim) x.Writes)
theorem Deed.lim_of {x : Deed} (h : x.wf) : x.lim := by
  obtain ⟨w_Txn, w_Begin, w_End, w_Time, w_Got, w_Writes⟩ := h
  exact ⟨⟨w_Got.1, fun y hy => Got.lim_of (w_Got.2 y hy)⟩, ⟨w_Writes.1, fun y hy => Write.lim_of (w_Writes.2 y hy)⟩⟩
theorem szGot_ok (x : Got) (left : Int) (h0 : 0 ≤ left) (h1 : left ≤ 2 ^ 20) (hw : x.wf) : ACall Tryz.prog n_laws_szGot [.agg (Got.row false x), i64 left]
    (fun r _ => ∃ n : Int, r = i64 n ∧ n ≤ left ∧ (0 ≤ n → n + (x.sz : Nat) = left)) := by
  obtain ⟨w_Key, w_Val⟩ := hw
  have hm := mx_eq
  refine fn_in h_laws_szGot r_laws_szGot ⟨by simp only [go_sem], fun E hE hH => ?_⟩; simp only [go_sem] at hE hH; simp only [go_sem, hE, hH, c_laws_szGot]
  try simp (disch := omega) only [go_sem, hE, hH]
  first | refine gd_t (fun h => ?_) (fun h => ?_) | refine gd_f (fun h => ?_) (fun h => ?_)
  · have hb := h
    simp only [nf] at h
    try simp (disch := omega) only [go_sem, hE, hH, hb]
    exact ⟨_, rfl, by omega, by omega⟩
  have hb := h
  simp only [nf] at h
  try simp (disch := omega) only [go_sem, hE, hH, hb]
  have p0 : 0 ≤ left - (x.Key.size : Int) := by omega
  clear h hb
  try simp (disch := omega) only [go_sem, hE, hH]
  first | refine gd_t (fun h => ?_) (fun h => ?_) | refine gd_f (fun h => ?_) (fun h => ?_)
  · have hb := h
    simp only [nf] at h
    try simp (disch := omega) only [go_sem, hE, hH, hb]
    exact ⟨_, rfl, by omega, by omega⟩
  have hb := h
  simp only [nf] at h
  try simp (disch := omega) only [go_sem, hE, hH, hb]
  have p1 : 0 ≤ (left - (x.Key.size : Int)) - (x.Val.size : Int) := by omega
  clear h hb
  exact ⟨_, rfl, by omega, fun _ => by unfold Got.sz; omega⟩
theorem szWrite_ok (x : Write) (left : Int) (h0 : 0 ≤ left) (h1 : left ≤ 2 ^ 20) (hw : x.wf) : ACall Tryz.prog n_laws_szWrite [.agg (Write.row false x), i64 left]
    (fun r _ => ∃ n : Int, r = i64 n ∧ n ≤ left ∧ (0 ≤ n → n + (x.sz : Nat) = left)) := by
  obtain ⟨w_Key, w_Val⟩ := hw
  have hm := mx_eq
  refine fn_in h_laws_szWrite r_laws_szWrite ⟨by simp only [go_sem], fun E hE hH => ?_⟩; simp only [go_sem] at hE hH; simp only [go_sem, hE, hH, c_laws_szWrite]
  try simp (disch := omega) only [go_sem, hE, hH]
  first | refine gd_t (fun h => ?_) (fun h => ?_) | refine gd_f (fun h => ?_) (fun h => ?_)
  · have hb := h
    simp only [nf] at h
    try simp (disch := omega) only [go_sem, hE, hH, hb]
    exact ⟨_, rfl, by omega, by omega⟩
  have hb := h
  simp only [nf] at h
  try simp (disch := omega) only [go_sem, hE, hH, hb]
  have p0 : 0 ≤ left - (x.Key.size : Int) := by omega
  clear h hb
  try simp (disch := omega) only [go_sem, hE, hH]
  first | refine gd_t (fun h => ?_) (fun h => ?_) | refine gd_f (fun h => ?_) (fun h => ?_)
  · have hb := h
    simp only [nf] at h
    try simp (disch := omega) only [go_sem, hE, hH, hb]
    exact ⟨_, rfl, by omega, by omega⟩
  have hb := h
  simp only [nf] at h
  try simp (disch := omega) only [go_sem, hE, hH, hb]
  have p1 : 0 ≤ (left - (x.Key.size : Int)) - (x.Val.size : Int) := by omega
  clear h hb
  exact ⟨_, rfl, by omega, fun _ => by unfold Write.sz; omega⟩
theorem szGotS_ok (l : List Got) (left : Int) (h0 : 0 ≤ left) (h1 : left ≤ 2 ^ 20) (hw : wfL (Got.wf) l) : ACall Tryz.prog n_laws_szGotS [.sl false 3 (l.map (Got.row false)), i64 left]
    (fun r _ => ∃ n : Int, r = i64 n ∧ n ≤ left ∧ (0 ≤ n → n + (szL (Got.sz) l : Nat) = left)) := by
  obtain ⟨hl, hx⟩ := hw
  have hm := mx_eq
  refine fn_in h_laws_szGotS r_laws_szGotS ⟨by simp only [go_sem], fun E hE hH => ?_⟩; simp only [go_sem] at hE hH; simp only [go_sem, hE, hH, c_laws_szGotS]
  try simp (disch := omega) only [go_sem, hE, hH]
  repeat' (first | ((with_reducible first | refine gd_t ?_ ?_ | refine gd_f ?_ ?_) <;> (intro h; have hb := h; (try simp only [nf] at h); simp (disch := omega) only [go_sem, hE, hH, hb]; (try clear hb))) | ((with_reducible refine And.intro ?_ ?_); · omega) | (refine jn _ ?_ ?_) | (with_reducible refine both ?_ ?_) | (with_reducible refine And.intro ?_ ?_) | (refine fin_eq ?_; (try (simp (disch := omega) only [go_sem, hE, hH])); first | done | rfl) | (simp (disch := omega) only [go_sem, hE, hH]) | ((first | apply noMLL_sE | apply pk_sE) <;> (simp only [go_sem, hE, hH]; done)) | (simp only [go_sem, hE, hH]) | fail)
  · exact ⟨_, rfl, by omega, by omega⟩
  refine loopN l.length (fun j (n : Int) => ⟨[(0, .sl false 3 (l.map (Got.row false))), (1, i64 n), (5, i64 j)], []⟩) (fun j n => 0 ≤ n ∧ n ≤ left ∧ n + l.length + psum (Got.sz) l j = left) (left - (l.length : Int)) (by rw [psum_zero]; omega) ?_
  intro j n hj hI
  obtain ⟨i1, i0, i2⟩ := hI
  try simp only [go_sem, hE, hH, c_laws_szGotS_l1]
  first | refine gd_t (fun h => ?_) (fun h => ?_) | refine gd_f (fun h => ?_) (fun h => ?_)
  · have hb := h
    simp only [nf] at h
    have hlt := h; clear h
    have hs := hx _ (nth_mem hlt)
    try simp (disch := omega) only [go_sem, hE, hH, hb]
    repeat refine And.intro (by omega) ?_
    refine ok_view ?_; simp (disch := omega) only [go_sem, hE, hH]; refine cvA (szGot_ok (nth l j) n i1 (by omega) hs) ?_
    try simp only [go_sem, hE, hH]
    refine aftV_intro ?_
    rintro r k ⟨q, rfl, q1, q2⟩
    try simp (disch := omega) only [go_sem, hE, hH]
    repeat' (first | ((with_reducible first | refine gd_t ?_ ?_ | refine gd_f ?_ ?_) <;> (intro h; have hb := h; (try simp only [nf] at h); simp (disch := omega) only [go_sem, hE, hH, hb]; (try clear hb))) | ((with_reducible refine And.intro ?_ ?_); · omega) | (refine jn _ ?_ ?_) | (with_reducible refine both ?_ ?_) | (with_reducible refine And.intro ?_ ?_) | (refine fin_eq ?_; (try (simp (disch := omega) only [go_sem, hE, hH])); first | done | rfl) | (simp (disch := omega) only [go_sem, hE, hH]) | ((first | apply noMLL_sE | apply pk_sE) <;> (simp only [go_sem, hE, hH]; done)) | (simp only [go_sem, hE, hH]) | fail)
    · exact ⟨_, rfl, by omega, by omega⟩
    · exact ⟨_, rfl, by omega, by omega, by have q2 := q2 (by omega); rw [psum_succ hlt]; omega⟩
  · have hb := h
    simp only [nf] at h
    try simp (disch := omega) only [go_sem, hE, hH, hb]
    exact ⟨_, rfl, by omega, fun _ => by rw [psum_all (by omega)] at i2; rw [show szL (Got.sz) l = l.length + (l.map (Got.sz)).sum from rfl]; omega⟩
theorem szWriteS_ok (l : List Write) (left : Int) (h0 : 0 ≤ left) (h1 : left ≤ 2 ^ 20) (hw : wfL (Write.wf) l) : ACall Tryz.prog n_laws_szWriteS [.sl false 3 (l.map (Write.row false)), i64 left]
    (fun r _ => ∃ n : Int, r = i64 n ∧ n ≤ left ∧ (0 ≤ n → n + (szL (Write.sz) l : Nat) = left)) := by
  obtain ⟨hl, hx⟩ := hw
  have hm := mx_eq
  refine fn_in h_laws_szWriteS r_laws_szWriteS ⟨by simp only [go_sem], fun E hE hH => ?_⟩; simp only [go_sem] at hE hH; simp only [go_sem, hE, hH, c_laws_szWriteS]
  try simp (disch := omega) only [go_sem, hE, hH]
  repeat' (first | ((with_reducible first | refine gd_t ?_ ?_ | refine gd_f ?_ ?_) <;> (intro h; have hb := h; (try simp only [nf] at h); simp (disch := omega) only [go_sem, hE, hH, hb]; (try clear hb))) | ((with_reducible refine And.intro ?_ ?_); · omega) | (refine jn _ ?_ ?_) | (with_reducible refine both ?_ ?_) | (with_reducible refine And.intro ?_ ?_) | (refine fin_eq ?_; (try (simp (disch := omega) only [go_sem, hE, hH])); first | done | rfl) | (simp (disch := omega) only [go_sem, hE, hH]) | ((first | apply noMLL_sE | apply pk_sE) <;> (simp only [go_sem, hE, hH]; done)) | (simp only [go_sem, hE, hH]) | fail)
  · exact ⟨_, rfl, by omega, by omega⟩
  refine loopN l.length (fun j (n : Int) => ⟨[(0, .sl false 3 (l.map (Write.row false))), (1, i64 n), (5, i64 j)], []⟩) (fun j n => 0 ≤ n ∧ n ≤ left ∧ n + l.length + psum (Write.sz) l j = left) (left - (l.length : Int)) (by rw [psum_zero]; omega) ?_
  intro j n hj hI
  obtain ⟨i1, i0, i2⟩ := hI
  try simp only [go_sem, hE, hH, c_laws_szWriteS_l1]
  first | refine gd_t (fun h => ?_) (fun h => ?_) | refine gd_f (fun h => ?_) (fun h => ?_)
  · have hb := h
    simp only [nf] at h
    have hlt := h; clear h
    have hs := hx _ (nth_mem hlt)
    try simp (disch := omega) only [go_sem, hE, hH, hb]
    repeat refine And.intro (by omega) ?_
    refine ok_view ?_; simp (disch := omega) only [go_sem, hE, hH]; refine cvA (szWrite_ok (nth l j) n i1 (by omega) hs) ?_
    try simp only [go_sem, hE, hH]
    refine aftV_intro ?_
    rintro r k ⟨q, rfl, q1, q2⟩
    try simp (disch := omega) only [go_sem, hE, hH]
    repeat' (first | ((with_reducible first | refine gd_t ?_ ?_ | refine gd_f ?_ ?_) <;> (intro h; have hb := h; (try simp only [nf] at h); simp (disch := omega) only [go_sem, hE, hH, hb]; (try clear hb))) | ((with_reducible refine And.intro ?_ ?_); · omega) | (refine jn _ ?_ ?_) | (with_reducible refine both ?_ ?_) | (with_reducible refine And.intro ?_ ?_) | (refine fin_eq ?_; (try (simp (disch := omega) only [go_sem, hE, hH])); first | done | rfl) | (simp (disch := omega) only [go_sem, hE, hH]) | ((first | apply noMLL_sE | apply pk_sE) <;> (simp only [go_sem, hE, hH]; done)) | (simp only [go_sem, hE, hH]) | fail)
    · exact ⟨_, rfl, by omega, by omega⟩
    · exact ⟨_, rfl, by omega, by omega, by have q2 := q2 (by omega); rw [psum_succ hlt]; omega⟩
  · have hb := h
    simp only [nf] at h
    try simp (disch := omega) only [go_sem, hE, hH, hb]
    exact ⟨_, rfl, by omega, fun _ => by rw [psum_all (by omega)] at i2; rw [show szL (Write.sz) l = l.length + (l.map (Write.sz)).sum from rfl]; omega⟩
theorem szDeed_ok (x : Deed) (left : Int) (h0 : 0 ≤ left) (h1 : left ≤ 2 ^ 20) (hw : x.wf) : ACall Tryz.prog n_laws_szDeed [.agg (Deed.row false x), i64 left]
    (fun r _ => ∃ n : Int, r = i64 n ∧ n ≤ left ∧ (0 ≤ n → n + (x.sz : Nat) = left)) := by
  obtain ⟨w_Txn, w_Begin, w_End, w_Time, w_Got, w_Writes⟩ := hw
  have hm := mx_eq
  refine fn_in h_laws_szDeed r_laws_szDeed ⟨by simp only [go_sem], fun E hE hH => ?_⟩; simp only [go_sem] at hE hH; simp only [go_sem, hE, hH, c_laws_szDeed]
  refine ok_view ?_; simp (disch := omega) only [go_sem, hE, hH]; refine cvA (szGotS_ok _ _ (by omega) (by omega) w_Got) ?_
  try simp (disch := omega) only [go_sem, hE, hH]
  refine aftV_intro ?_
  rintro r k ⟨n0, rfl, a0, b0⟩
  try simp (disch := omega) only [go_sem, hE, hH]
  first | refine gd_t (fun h => ?_) (fun h => ?_) | refine gd_f (fun h => ?_) (fun h => ?_)
  · have hb := h
    simp only [nf] at h
    try simp (disch := omega) only [go_sem, hE, hH, hb]
    exact ⟨_, rfl, by omega, by omega⟩
  have hb := h
  simp only [nf] at h
  try simp (disch := omega) only [go_sem, hE, hH, hb]
  have p0 : 0 ≤ n0 := by omega
  have b0 := b0 p0
  clear h hb
  refine ok_view ?_; simp (disch := omega) only [go_sem, hE, hH]; refine cvA (szWriteS_ok _ _ p0 (by omega) w_Writes) ?_
  try simp (disch := omega) only [go_sem, hE, hH]
  refine aftV_intro ?_
  rintro r k ⟨n1, rfl, a1, b1⟩
  try simp (disch := omega) only [go_sem, hE, hH]
  first | refine gd_t (fun h => ?_) (fun h => ?_) | refine gd_f (fun h => ?_) (fun h => ?_)
  · have hb := h
    simp only [nf] at h
    try simp (disch := omega) only [go_sem, hE, hH, hb]
    exact ⟨_, rfl, by omega, by omega⟩
  have hb := h
  simp only [nf] at h
  try simp (disch := omega) only [go_sem, hE, hH, hb]
  have p1 : 0 ≤ n1 := by omega
  have b1 := b1 p1
  clear h hb
  exact ⟨_, rfl, by omega, fun _ => by unfold Deed.sz; omega⟩
theorem szDeedS_ok (l : List Deed) (left : Int) (h0 : 0 ≤ left) (h1 : left ≤ 2 ^ 20) (hw : wfL (Deed.wf) l) : ACall Tryz.prog n_laws_szDeedS [.sl false 8 (l.map (Deed.row false)), i64 left]
    (fun r _ => ∃ n : Int, r = i64 n ∧ n ≤ left ∧ (0 ≤ n → n + (szL (Deed.sz) l : Nat) = left)) := by
  obtain ⟨hl, hx⟩ := hw
  have hm := mx_eq
  refine fn_in h_laws_szDeedS r_laws_szDeedS ⟨by simp only [go_sem], fun E hE hH => ?_⟩; simp only [go_sem] at hE hH; simp only [go_sem, hE, hH, c_laws_szDeedS]
  try simp (disch := omega) only [go_sem, hE, hH]
  repeat' (first | ((with_reducible first | refine gd_t ?_ ?_ | refine gd_f ?_ ?_) <;> (intro h; have hb := h; (try simp only [nf] at h); simp (disch := omega) only [go_sem, hE, hH, hb]; (try clear hb))) | ((with_reducible refine And.intro ?_ ?_); · omega) | (refine jn _ ?_ ?_) | (with_reducible refine both ?_ ?_) | (with_reducible refine And.intro ?_ ?_) | (refine fin_eq ?_; (try (simp (disch := omega) only [go_sem, hE, hH])); first | done | rfl) | (simp (disch := omega) only [go_sem, hE, hH]) | ((first | apply noMLL_sE | apply pk_sE) <;> (simp only [go_sem, hE, hH]; done)) | (simp only [go_sem, hE, hH]) | fail)
  · exact ⟨_, rfl, by omega, by omega⟩
  refine loopN l.length (fun j (n : Int) => ⟨[(0, .sl false 8 (l.map (Deed.row false))), (1, i64 n), (5, i64 j)], []⟩) (fun j n => 0 ≤ n ∧ n ≤ left ∧ n + l.length + psum (Deed.sz) l j = left) (left - (l.length : Int)) (by rw [psum_zero]; omega) ?_
  intro j n hj hI
  obtain ⟨i1, i0, i2⟩ := hI
  try simp only [go_sem, hE, hH, c_laws_szDeedS_l1]
  first | refine gd_t (fun h => ?_) (fun h => ?_) | refine gd_f (fun h => ?_) (fun h => ?_)
  · have hb := h
    simp only [nf] at h
    have hlt := h; clear h
    have hs := hx _ (nth_mem hlt)
    try simp (disch := omega) only [go_sem, hE, hH, hb]
    repeat refine And.intro (by omega) ?_
    refine ok_view ?_; simp (disch := omega) only [go_sem, hE, hH]; refine cvA (szDeed_ok (nth l j) n i1 (by omega) hs) ?_
    try simp only [go_sem, hE, hH]
    refine aftV_intro ?_
    rintro r k ⟨q, rfl, q1, q2⟩
    try simp (disch := omega) only [go_sem, hE, hH]
    repeat' (first | ((with_reducible first | refine gd_t ?_ ?_ | refine gd_f ?_ ?_) <;> (intro h; have hb := h; (try simp only [nf] at h); simp (disch := omega) only [go_sem, hE, hH, hb]; (try clear hb))) | ((with_reducible refine And.intro ?_ ?_); · omega) | (refine jn _ ?_ ?_) | (with_reducible refine both ?_ ?_) | (with_reducible refine And.intro ?_ ?_) | (refine fin_eq ?_; (try (simp (disch := omega) only [go_sem, hE, hH])); first | done | rfl) | (simp (disch := omega) only [go_sem, hE, hH]) | ((first | apply noMLL_sE | apply pk_sE) <;> (simp only [go_sem, hE, hH]; done)) | (simp only [go_sem, hE, hH]) | fail)
    · exact ⟨_, rfl, by omega, by omega⟩
    · exact ⟨_, rfl, by omega, by omega, by have q2 := q2 (by omega); rw [psum_succ hlt]; omega⟩
  · have hb := h
    simp only [nf] at h
    try simp (disch := omega) only [go_sem, hE, hH, hb]
    exact ⟨_, rfl, by omega, fun _ => by rw [psum_all (by omega)] at i2; rw [show szL (Deed.sz) l = l.length + (l.map (Deed.sz)).sum from rfl]; omega⟩
theorem toGot_ok (x : Got) (hs : x.sz ≤ 2 ^ 20) : ACall Tryz.prog n_laws_toGot [.agg (Got.row false x)] (fun r _ => r = .agg (Got.row true x)) := by
  unfold Got.sz at hs
  refine fn_in h_laws_toGot r_laws_toGot ⟨by simp only [go_sem], fun E hE hH => ?_⟩; simp only [go_sem] at hE hH; simp only [go_sem, hE, hH, c_laws_toGot]
  repeat' (first | ((with_reducible first | refine gd_t ?_ ?_ | refine gd_f ?_ ?_) <;> (intro h; have hb := h; (try simp only [nf] at h); simp (disch := omega) only [go_sem, hE, hH, hb]; (try clear hb))) | ((with_reducible refine And.intro ?_ ?_); · omega) | (refine jn _ ?_ ?_) | (with_reducible refine both ?_ ?_) | (with_reducible refine And.intro ?_ ?_) | (refine fin_eq ?_; (try (simp (disch := omega) only [go_sem, hE, hH])); first | done | rfl) | (simp (disch := omega) only [go_sem, hE, hH]) | ((first | apply noMLL_sE | apply pk_sE) <;> (simp only [go_sem, hE, hH]; done)) | (simp only [go_sem, hE, hH]) | fail)
theorem toWrite_ok (x : Write) (hs : x.sz ≤ 2 ^ 20) : ACall Tryz.prog n_laws_toWrite [.agg (Write.row false x)] (fun r _ => r = .agg (Write.row true x)) := by
  unfold Write.sz at hs
  refine fn_in h_laws_toWrite r_laws_toWrite ⟨by simp only [go_sem], fun E hE hH => ?_⟩; simp only [go_sem] at hE hH; simp only [go_sem, hE, hH, c_laws_toWrite]
  repeat' (first | ((with_reducible first | refine gd_t ?_ ?_ | refine gd_f ?_ ?_) <;> (intro h; have hb := h; (try simp only [nf] at h); simp (disch := omega) only [go_sem, hE, hH, hb]; (try clear hb))) | ((with_reducible refine And.intro ?_ ?_); · omega) | (refine jn _ ?_ ?_) | (with_reducible refine both ?_ ?_) | (with_reducible refine And.intro ?_ ?_) | (refine fin_eq ?_; (try (simp (disch := omega) only [go_sem, hE, hH])); first | done | rfl) | (simp (disch := omega) only [go_sem, hE, hH]) | ((first | apply noMLL_sE | apply pk_sE) <;> (simp only [go_sem, hE, hH]; done)) | (simp only [go_sem, hE, hH]) | fail)
theorem toGotS_ok (l : List Got) (hl : szL (Got.sz) l ≤ 2 ^ 20) : ACall Tryz.prog n_laws_toGotS [.sl false 3 (l.map (Got.row false))] (fun r _ => r = .sl true 3 (l.map (Got.row true))) := by
  have hl0 : l.length ≤ 2 ^ 20 := Nat.le_trans szL_len hl
  refine fn_in h_laws_toGotS r_laws_toGotS ⟨by simp only [go_sem], fun E hE hH => ?_⟩; simp only [go_sem] at hE hH; simp only [go_sem, hE, hH, c_laws_toGotS]
  refine And.intro (by omega) ?_
  rw [cpy_zero (Got.row true)]
  refine loopN l.length (fun j (_ : Unit) => ⟨[(0, .sl false 3 (l.map (Got.row false))), (3, .ref 4000000 0 l.length), (4, i64 j)], [(4000000, ⟨3, cpy (Got.row true) [str ⟨⟨[]⟩⟩, str ⟨⟨[]⟩⟩, bl false] l j⟩)]⟩) (fun _ _ => True) () trivial ?_
  intro j _ hj _
  try simp only [go_sem, hE, hH, c_laws_toGotS_l1]
  first | refine gd_t (fun h => ?_) (fun h => ?_) | refine gd_f (fun h => ?_) (fun h => ?_)
  · have hb := h
    simp only [nf] at h
    have hlt := h; clear h
    have hs := Nat.le_trans (szL_mem (f := Got.sz) (nth_mem hlt)) hl
    try simp (disch := omega) only [go_sem, hE, hH, hb, cpy_at, cpy_len]
    repeat' (first | ((with_reducible first | refine gd_t ?_ ?_ | refine gd_f ?_ ?_) <;> (intro h; have hb := h; (try simp only [nf] at h); simp (disch := omega) only [go_sem, hE, hH, hb]; (try clear hb))) | ((with_reducible refine And.intro ?_ ?_); · omega) | ((first | refine ok_view ?_ | refine cvA (toGot_ok _ (by assumption)) ?_); simp (disch := omega) only [go_sem, hE, hH]) | (refine jn _ ?_ ?_) | (with_reducible refine both ?_ ?_) | (with_reducible refine And.intro ?_ ?_) | (refine fin_eq ?_; (try (simp (disch := omega) only [go_sem, hE, hH])); first | done | rfl) | (simp (disch := omega) only [go_sem, hE, hH]) | ((first | apply noMLL_sE | apply pk_sE) <;> (simp only [go_sem, hE, hH]; done)) | (simp only [go_sem, hE, hH]) | fail)
    try try simp (disch := omega) only [go_sem, hE, hH, cpy_at, cpy_len]
    repeat refine And.intro (by omega) ?_
    try try simp (disch := omega) only [go_sem, hE, hH, cpy_at, cpy_len]
    repeat refine And.intro (by omega) ?_
    first | refine ⟨(), ?_, trivial⟩ | refine ⟨(), ?_⟩ | skip
    have hc := cpy_step (f := Got.row true) (z := [str ⟨⟨[]⟩⟩, str ⟨⟨[]⟩⟩, bl false]) hlt
    simp only [Got.row_eq] at hc ⊢
    rw [hc]
    rfl
  · have hb := h
    simp only [nf] at h
    try simp (disch := omega) only [go_sem, hE, hH, hb, cpy_end]
theorem toWriteS_ok (l : List Write) (hl : szL (Write.sz) l ≤ 2 ^ 20) : ACall Tryz.prog n_laws_toWriteS [.sl false 3 (l.map (Write.row false))] (fun r _ => r = .sl true 3 (l.map (Write.row true))) := by
  have hl0 : l.length ≤ 2 ^ 20 := Nat.le_trans szL_len hl
  refine fn_in h_laws_toWriteS r_laws_toWriteS ⟨by simp only [go_sem], fun E hE hH => ?_⟩; simp only [go_sem] at hE hH; simp only [go_sem, hE, hH, c_laws_toWriteS]
  refine And.intro (by omega) ?_
  rw [cpy_zero (Write.row true)]
  refine loopN l.length (fun j (_ : Unit) => ⟨[(0, .sl false 3 (l.map (Write.row false))), (3, .ref 4000000 0 l.length), (4, i64 j)], [(4000000, ⟨3, cpy (Write.row true) [str ⟨⟨[]⟩⟩, str ⟨⟨[]⟩⟩, bl false] l j⟩)]⟩) (fun _ _ => True) () trivial ?_
  intro j _ hj _
  try simp only [go_sem, hE, hH, c_laws_toWriteS_l1]
  first | refine gd_t (fun h => ?_) (fun h => ?_) | refine gd_f (fun h => ?_) (fun h => ?_)
  · have hb := h
    simp only [nf] at h
    have hlt := h; clear h
    have hs := Nat.le_trans (szL_mem (f := Write.sz) (nth_mem hlt)) hl
    try simp (disch := omega) only [go_sem, hE, hH, hb, cpy_at, cpy_len]
    repeat' (first | ((with_reducible first | refine gd_t ?_ ?_ | refine gd_f ?_ ?_) <;> (intro h; have hb := h; (try simp only [nf] at h); simp (disch := omega) only [go_sem, hE, hH, hb]; (try clear hb))) | ((with_reducible refine And.intro ?_ ?_); · omega) | ((first | refine ok_view ?_ | refine cvA (toWrite_ok _ (by assumption)) ?_); simp (disch := omega) only [go_sem, hE, hH]) | (refine jn _ ?_ ?_) | (with_reducible refine both ?_ ?_) | (with_reducible refine And.intro ?_ ?_) | (refine fin_eq ?_; (try (simp (disch := omega) only [go_sem, hE, hH])); first | done | rfl) | (simp (disch := omega) only [go_sem, hE, hH]) | ((first | apply noMLL_sE | apply pk_sE) <;> (simp only [go_sem, hE, hH]; done)) | (simp only [go_sem, hE, hH]) | fail)
    try try simp (disch := omega) only [go_sem, hE, hH, cpy_at, cpy_len]
    repeat refine And.intro (by omega) ?_
    try try simp (disch := omega) only [go_sem, hE, hH, cpy_at, cpy_len]
    repeat refine And.intro (by omega) ?_
    first | refine ⟨(), ?_, trivial⟩ | refine ⟨(), ?_⟩ | skip
    have hc := cpy_step (f := Write.row true) (z := [str ⟨⟨[]⟩⟩, str ⟨⟨[]⟩⟩, bl false]) hlt
    simp only [Write.row_eq] at hc ⊢
    rw [hc]
    rfl
  · have hb := h
    simp only [nf] at h
    try simp (disch := omega) only [go_sem, hE, hH, hb, cpy_end]
theorem toDeed_ok (x : Deed) (hs : x.sz ≤ 2 ^ 20) : ACall Tryz.prog n_laws_toDeed [.agg (Deed.row false x)] (fun r _ => r = .agg (Deed.row true x)) := by
  unfold Deed.sz at hs
  refine fn_in h_laws_toDeed r_laws_toDeed ⟨by simp only [go_sem], fun E hE hH => ?_⟩; simp only [go_sem] at hE hH; simp only [go_sem, hE, hH, c_laws_toDeed]
  repeat' (first | ((with_reducible first | refine gd_t ?_ ?_ | refine gd_f ?_ ?_) <;> (intro h; have hb := h; (try simp only [nf] at h); simp (disch := omega) only [go_sem, hE, hH, hb]; (try clear hb))) | ((with_reducible refine And.intro ?_ ?_); · omega) | ((first | refine ok_view ?_ | refine cvA (toGotS_ok _ (by omega)) ?_ | refine cvA (toWriteS_ok _ (by omega)) ?_); simp (disch := omega) only [go_sem, hE, hH]) | (refine jn _ ?_ ?_) | (with_reducible refine both ?_ ?_) | (with_reducible refine And.intro ?_ ?_) | (refine fin_eq ?_; (try (simp (disch := omega) only [go_sem, hE, hH])); first | done | rfl) | (simp (disch := omega) only [go_sem, hE, hH]) | ((first | apply noMLL_sE | apply pk_sE) <;> (simp only [go_sem, hE, hH]; done)) | (simp only [go_sem, hE, hH]) | fail)
theorem toDeedS_ok (l : List Deed) (hl : szL (Deed.sz) l ≤ 2 ^ 20) : ACall Tryz.prog n_laws_toDeedS [.sl false 8 (l.map (Deed.row false))] (fun r _ => r = .sl true 8 (l.map (Deed.row true))) := by
  have hl0 : l.length ≤ 2 ^ 20 := Nat.le_trans szL_len hl
  refine fn_in h_laws_toDeedS r_laws_toDeedS ⟨by simp only [go_sem], fun E hE hH => ?_⟩; simp only [go_sem] at hE hH; simp only [go_sem, hE, hH, c_laws_toDeedS]
  refine And.intro (by omega) ?_
  rw [cpy_zero (Deed.row true)]
  refine loopN l.length (fun j (_ : Unit) => ⟨[(0, .sl false 8 (l.map (Deed.row false))), (3, .ref 4000000 0 l.length), (4, i64 j)], [(4000000, ⟨8, cpy (Deed.row true) [i64 0, i64 0, i64 0, bl false, bl false, i64 0, nils, nils] l j⟩)]⟩) (fun _ _ => True) () trivial ?_
  intro j _ hj _
  try simp only [go_sem, hE, hH, c_laws_toDeedS_l1]
  first | refine gd_t (fun h => ?_) (fun h => ?_) | refine gd_f (fun h => ?_) (fun h => ?_)
  · have hb := h
    simp only [nf] at h
    have hlt := h; clear h
    have hs := Nat.le_trans (szL_mem (f := Deed.sz) (nth_mem hlt)) hl
    try simp (disch := omega) only [go_sem, hE, hH, hb, cpy_at, cpy_len]
    repeat' (first | ((with_reducible first | refine gd_t ?_ ?_ | refine gd_f ?_ ?_) <;> (intro h; have hb := h; (try simp only [nf] at h); simp (disch := omega) only [go_sem, hE, hH, hb]; (try clear hb))) | ((with_reducible refine And.intro ?_ ?_); · omega) | ((first | refine ok_view ?_ | refine cvA (toDeed_ok _ (by assumption)) ?_); simp (disch := omega) only [go_sem, hE, hH]) | (refine jn _ ?_ ?_) | (with_reducible refine both ?_ ?_) | (with_reducible refine And.intro ?_ ?_) | (refine fin_eq ?_; (try (simp (disch := omega) only [go_sem, hE, hH])); first | done | rfl) | (simp (disch := omega) only [go_sem, hE, hH]) | ((first | apply noMLL_sE | apply pk_sE) <;> (simp only [go_sem, hE, hH]; done)) | (simp only [go_sem, hE, hH]) | fail)
    try try simp (disch := omega) only [go_sem, hE, hH, cpy_at, cpy_len]
    repeat refine And.intro (by omega) ?_
    try try simp (disch := omega) only [go_sem, hE, hH, cpy_at, cpy_len]
    repeat refine And.intro (by omega) ?_
    first | refine ⟨(), ?_, trivial⟩ | refine ⟨(), ?_⟩ | skip
    have hc := cpy_step (f := Deed.row true) (z := [i64 0, i64 0, i64 0, bl false, bl false, i64 0, nils, nils]) hlt
    simp only [Deed.row_eq] at hc ⊢
    rw [hc]
    rfl
  · have hb := h
    simp only [nf] at h
    try simp (disch := omega) only [go_sem, hE, hH, hb, cpy_end]
theorem eqGot_ok (x y : Got) (hl : x.lim) : ACall Tryz.prog n_laws_eqGot [.agg (Got.row false x), .agg (Got.row false y)] (fun r _ => r = bl (decide (x = y))) := by
  obtain ⟨x_Key, x_Val, x_There⟩ := x
  obtain ⟨y_Key, y_Val, y_There⟩ := y
  refine fn_in h_laws_eqGot r_laws_eqGot ⟨by simp only [go_sem], fun E hE hH => ?_⟩; simp only [go_sem] at hE hH; simp only [go_sem, hE, hH, c_laws_eqGot]
  repeat' (first | ((with_reducible first | refine gd_t ?_ ?_ | refine gd_f ?_ ?_) <;> (intro h; have hb := h; (try simp only [nf] at h); simp (disch := omega) only [go_sem, hE, hH, hb]; (try clear hb))) | ((with_reducible refine And.intro ?_ ?_); · omega) | (refine jn _ ?_ ?_) | (with_reducible refine both ?_ ?_) | (with_reducible refine And.intro ?_ ?_) | (refine fin_eq ?_; (try (simp (disch := omega) only [go_sem, hE, hH])); first | done | rfl) | (simp (disch := omega) only [go_sem, hE, hH]) | ((first | apply noMLL_sE | apply pk_sE) <;> (simp only [go_sem, hE, hH]; done)) | (simp only [go_sem, hE, hH]) | fail)
  all_goals simp_all [Got.mk.injEq]
theorem eqIntS_ok (l m : List Int) (hl : limL (fun _ => True) l) : ACall Tryz.prog n_laws_eqIntS [.sl false 1 (ints l), .sl false 1 (ints m)] (fun r _ => r = bl (decide (l = m))) := by
  obtain ⟨hl, hx⟩ := hl
  have hm := mx_eq
  refine fn_in h_laws_eqIntS r_laws_eqIntS ⟨by simp only [go_sem], fun E hE hH => ?_⟩; simp only [go_sem] at hE hH; simp only [go_sem, hE, hH, c_laws_eqIntS]
  repeat' (first | ((with_reducible first | refine gd_t ?_ ?_ | refine gd_f ?_ ?_) <;> (intro h; have hb := h; (try simp only [nf] at h); simp (disch := omega) only [go_sem, hE, hH, hb]; (try clear hb))) | ((with_reducible refine And.intro ?_ ?_); · omega) | (refine jn _ ?_ ?_) | (with_reducible refine both ?_ ?_) | (with_reducible refine And.intro ?_ ?_) | (refine fin_eq ?_; (try (simp (disch := omega) only [go_sem, hE, hH])); first | done | rfl) | (simp (disch := omega) only [go_sem, hE, hH]) | ((first | apply noMLL_sE | apply pk_sE) <;> (simp only [go_sem, hE, hH]; done)) | (simp only [go_sem, hE, hH]) | fail)
  · rw [decide_eq_false (fun e => h (by rw [e]))]
  have hlen : l.length = m.length := by omega
  clear h
  refine loopN l.length (fun j (_ : Unit) => ⟨[(0, .sl false 1 (ints l)), (1, .sl false 1 (ints m)), (5, i64 j)], []⟩) (fun j _ => decide (l = m) = decide (l.drop j = m.drop j)) () (by simp) ?_
  intro j _ hj hI
  try simp only [go_sem, hE, hH, c_laws_eqIntS_l1]
  first | refine gd_t (fun h => ?_) (fun h => ?_) | refine gd_f (fun h => ?_) (fun h => ?_)
  · have hb := h
    simp only [nf] at h
    have hlt := h; clear h
    have hlm : j < m.length := by omega
    rw [drop_eq hlt hlm] at hI
    try simp (disch := omega) only [go_sem, hE, hH, hb]
    repeat' (first | ((with_reducible first | refine gd_t ?_ ?_ | refine gd_f ?_ ?_) <;> (intro h; have hb := h; (try simp only [nf] at h); simp (disch := omega) only [go_sem, hE, hH, hb]; (try clear hb))) | ((with_reducible refine And.intro ?_ ?_); · omega) | (refine jn _ ?_ ?_) | (with_reducible refine both ?_ ?_) | (with_reducible refine And.intro ?_ ?_) | (refine fin_eq ?_; (try (simp (disch := omega) only [go_sem, hE, hH])); first | done | rfl) | (simp (disch := omega) only [go_sem, hE, hH]) | ((first | apply noMLL_sE | apply pk_sE) <;> (simp only [go_sem, hE, hH]; done)) | (simp only [go_sem, hE, hH]) | fail)
    · rw [hI]; simp [h]
    · exact ⟨(), rfl, by rw [hI]; simp [h]⟩
  · have hb := h
    simp only [nf] at h
    try simp (disch := omega) only [go_sem, hE, hH, hb]
    rw [hI, List.drop_of_length_le (by omega), List.drop_of_length_le (by omega)]
    rfl
theorem eqWrite_ok (x y : Write) (hl : x.lim) : ACall Tryz.prog n_laws_eqWrite [.agg (Write.row false x), .agg (Write.row false y)] (fun r _ => r = bl (decide (x = y))) := by
  obtain ⟨x_Key, x_Val, x_Gone⟩ := x
  obtain ⟨y_Key, y_Val, y_Gone⟩ := y
  refine fn_in h_laws_eqWrite r_laws_eqWrite ⟨by simp only [go_sem], fun E hE hH => ?_⟩; simp only [go_sem] at hE hH; simp only [go_sem, hE, hH, c_laws_eqWrite]
  repeat' (first | ((with_reducible first | refine gd_t ?_ ?_ | refine gd_f ?_ ?_) <;> (intro h; have hb := h; (try simp only [nf] at h); simp (disch := omega) only [go_sem, hE, hH, hb]; (try clear hb))) | ((with_reducible refine And.intro ?_ ?_); · omega) | (refine jn _ ?_ ?_) | (with_reducible refine both ?_ ?_) | (with_reducible refine And.intro ?_ ?_) | (refine fin_eq ?_; (try (simp (disch := omega) only [go_sem, hE, hH])); first | done | rfl) | (simp (disch := omega) only [go_sem, hE, hH]) | ((first | apply noMLL_sE | apply pk_sE) <;> (simp only [go_sem, hE, hH]; done)) | (simp only [go_sem, hE, hH]) | fail)
  all_goals simp_all [Write.mk.injEq]
theorem eqGotS_ok (l m : List Got) (hl : limL (Got.lim) l) : ACall Tryz.prog n_laws_eqGotS [.sl false 3 (l.map (Got.row false)), .sl false 3 (m.map (Got.row false))] (fun r _ => r = bl (decide (l = m))) := by
  obtain ⟨hl, hx⟩ := hl
  have hm := mx_eq
  refine fn_in h_laws_eqGotS r_laws_eqGotS ⟨by simp only [go_sem], fun E hE hH => ?_⟩; simp only [go_sem] at hE hH; simp only [go_sem, hE, hH, c_laws_eqGotS]
  repeat' (first | ((with_reducible first | refine gd_t ?_ ?_ | refine gd_f ?_ ?_) <;> (intro h; have hb := h; (try simp only [nf] at h); simp (disch := omega) only [go_sem, hE, hH, hb]; (try clear hb))) | ((with_reducible refine And.intro ?_ ?_); · omega) | (refine jn _ ?_ ?_) | (with_reducible refine both ?_ ?_) | (with_reducible refine And.intro ?_ ?_) | (refine fin_eq ?_; (try (simp (disch := omega) only [go_sem, hE, hH])); first | done | rfl) | (simp (disch := omega) only [go_sem, hE, hH]) | ((first | apply noMLL_sE | apply pk_sE) <;> (simp only [go_sem, hE, hH]; done)) | (simp only [go_sem, hE, hH]) | fail)
  · rw [decide_eq_false (fun e => h (by rw [e]))]
  have hlen : l.length = m.length := by omega
  clear h
  refine loopN l.length (fun j (_ : Unit) => ⟨[(0, .sl false 3 (l.map (Got.row false))), (1, .sl false 3 (m.map (Got.row false))), (5, i64 j)], []⟩) (fun j _ => decide (l = m) = decide (l.drop j = m.drop j)) () (by simp) ?_
  intro j _ hj hI
  try simp only [go_sem, hE, hH, c_laws_eqGotS_l1]
  first | refine gd_t (fun h => ?_) (fun h => ?_) | refine gd_f (fun h => ?_) (fun h => ?_)
  · have hb := h
    simp only [nf] at h
    have hlt := h; clear h
    have hlm : j < m.length := by omega
    rw [drop_eq hlt hlm] at hI
    have hs := hx _ (nth_mem hlt)
    try simp (disch := omega) only [go_sem, hE, hH, hb]
    repeat' (first | ((with_reducible first | refine gd_t ?_ ?_ | refine gd_f ?_ ?_) <;> (intro h; have hb := h; (try simp only [nf] at h); simp (disch := omega) only [go_sem, hE, hH, hb]; (try clear hb))) | ((with_reducible refine And.intro ?_ ?_); · omega) | ((first | refine ok_view ?_ | refine cvA (eqGot_ok _ _ (by assumption)) ?_); simp (disch := omega) only [go_sem, hE, hH]) | (refine jn _ ?_ ?_) | (with_reducible refine both ?_ ?_) | (with_reducible refine And.intro ?_ ?_) | (refine fin_eq ?_; (try (simp (disch := omega) only [go_sem, hE, hH])); first | done | rfl) | (simp (disch := omega) only [go_sem, hE, hH]) | ((first | apply noMLL_sE | apply pk_sE) <;> (simp only [go_sem, hE, hH]; done)) | (simp only [go_sem, hE, hH]) | fail)
    · rw [hI]; simp [h]
    · exact ⟨(), rfl, by rw [hI]; simp [h]⟩
  · have hb := h
    simp only [nf] at h
    try simp (disch := omega) only [go_sem, hE, hH, hb]
    rw [hI, List.drop_of_length_le (by omega), List.drop_of_length_le (by omega)]
    rfl
theorem eqWriteS_ok (l m : List Write) (hl : limL (Write.lim) l) : ACall Tryz.prog n_laws_eqWriteS [.sl false 3 (l.map (Write.row false)), .sl false 3 (m.map (Write.row false))] (fun r _ => r = bl (decide (l = m))) := by
  obtain ⟨hl, hx⟩ := hl
  have hm := mx_eq
  refine fn_in h_laws_eqWriteS r_laws_eqWriteS ⟨by simp only [go_sem], fun E hE hH => ?_⟩; simp only [go_sem] at hE hH; simp only [go_sem, hE, hH, c_laws_eqWriteS]
  repeat' (first | ((with_reducible first | refine gd_t ?_ ?_ | refine gd_f ?_ ?_) <;> (intro h; have hb := h; (try simp only [nf] at h); simp (disch := omega) only [go_sem, hE, hH, hb]; (try clear hb))) | ((with_reducible refine And.intro ?_ ?_); · omega) | (refine jn _ ?_ ?_) | (with_reducible refine both ?_ ?_) | (with_reducible refine And.intro ?_ ?_) | (refine fin_eq ?_; (try (simp (disch := omega) only [go_sem, hE, hH])); first | done | rfl) | (simp (disch := omega) only [go_sem, hE, hH]) | ((first | apply noMLL_sE | apply pk_sE) <;> (simp only [go_sem, hE, hH]; done)) | (simp only [go_sem, hE, hH]) | fail)
  · rw [decide_eq_false (fun e => h (by rw [e]))]
  have hlen : l.length = m.length := by omega
  clear h
  refine loopN l.length (fun j (_ : Unit) => ⟨[(0, .sl false 3 (l.map (Write.row false))), (1, .sl false 3 (m.map (Write.row false))), (5, i64 j)], []⟩) (fun j _ => decide (l = m) = decide (l.drop j = m.drop j)) () (by simp) ?_
  intro j _ hj hI
  try simp only [go_sem, hE, hH, c_laws_eqWriteS_l1]
  first | refine gd_t (fun h => ?_) (fun h => ?_) | refine gd_f (fun h => ?_) (fun h => ?_)
  · have hb := h
    simp only [nf] at h
    have hlt := h; clear h
    have hlm : j < m.length := by omega
    rw [drop_eq hlt hlm] at hI
    have hs := hx _ (nth_mem hlt)
    try simp (disch := omega) only [go_sem, hE, hH, hb]
    repeat' (first | ((with_reducible first | refine gd_t ?_ ?_ | refine gd_f ?_ ?_) <;> (intro h; have hb := h; (try simp only [nf] at h); simp (disch := omega) only [go_sem, hE, hH, hb]; (try clear hb))) | ((with_reducible refine And.intro ?_ ?_); · omega) | ((first | refine ok_view ?_ | refine cvA (eqWrite_ok _ _ (by assumption)) ?_); simp (disch := omega) only [go_sem, hE, hH]) | (refine jn _ ?_ ?_) | (with_reducible refine both ?_ ?_) | (with_reducible refine And.intro ?_ ?_) | (refine fin_eq ?_; (try (simp (disch := omega) only [go_sem, hE, hH])); first | done | rfl) | (simp (disch := omega) only [go_sem, hE, hH]) | ((first | apply noMLL_sE | apply pk_sE) <;> (simp only [go_sem, hE, hH]; done)) | (simp only [go_sem, hE, hH]) | fail)
    · rw [hI]; simp [h]
    · exact ⟨(), rfl, by rw [hI]; simp [h]⟩
  · have hb := h
    simp only [nf] at h
    try simp (disch := omega) only [go_sem, hE, hH, hb]
    rw [hI, List.drop_of_length_le (by omega), List.drop_of_length_le (by omega)]
    rfl
theorem eqDeed_ok (x y : Deed) (hl : x.lim) : ACall Tryz.prog n_laws_eqDeed [.agg (Deed.row false x), .agg (Deed.row false y)] (fun r _ => r = bl (decide (x = y))) := by
  obtain ⟨l_Got, l_Writes⟩ := hl
  obtain ⟨x_Txn, x_Begin, x_End, x_Yes, x_Look, x_Time, x_Got, x_Writes⟩ := x
  obtain ⟨y_Txn, y_Begin, y_End, y_Yes, y_Look, y_Time, y_Got, y_Writes⟩ := y
  refine fn_in h_laws_eqDeed r_laws_eqDeed ⟨by simp only [go_sem], fun E hE hH => ?_⟩; simp only [go_sem] at hE hH; simp only [go_sem, hE, hH, c_laws_eqDeed]
  repeat' (first | ((with_reducible first | refine gd_t ?_ ?_ | refine gd_f ?_ ?_) <;> (intro h; have hb := h; (try simp only [nf] at h); simp (disch := omega) only [go_sem, hE, hH, hb]; (try clear hb))) | ((with_reducible refine And.intro ?_ ?_); · omega) | ((first | refine ok_view ?_ | refine cvA (eqGotS_ok _ _ (by assumption)) ?_ | refine cvA (eqWriteS_ok _ _ (by assumption)) ?_); simp (disch := omega) only [go_sem, hE, hH]) | (refine jn _ ?_ ?_) | (with_reducible refine both ?_ ?_) | (with_reducible refine And.intro ?_ ?_) | (refine fin_eq ?_; (try (simp (disch := omega) only [go_sem, hE, hH])); first | done | rfl) | (simp (disch := omega) only [go_sem, hE, hH]) | ((first | apply noMLL_sE | apply pk_sE) <;> (simp only [go_sem, hE, hH]; done)) | (simp only [go_sem, hE, hH]) | fail)
  all_goals simp_all [Deed.mk.injEq]
theorem eqDeedS_ok (l m : List Deed) (hl : limL (Deed.lim) l) : ACall Tryz.prog n_laws_eqDeedS [.sl false 8 (l.map (Deed.row false)), .sl false 8 (m.map (Deed.row false))] (fun r _ => r = bl (decide (l = m))) := by
  obtain ⟨hl, hx⟩ := hl
  have hm := mx_eq
  refine fn_in h_laws_eqDeedS r_laws_eqDeedS ⟨by simp only [go_sem], fun E hE hH => ?_⟩; simp only [go_sem] at hE hH; simp only [go_sem, hE, hH, c_laws_eqDeedS]
  repeat' (first | ((with_reducible first | refine gd_t ?_ ?_ | refine gd_f ?_ ?_) <;> (intro h; have hb := h; (try simp only [nf] at h); simp (disch := omega) only [go_sem, hE, hH, hb]; (try clear hb))) | ((with_reducible refine And.intro ?_ ?_); · omega) | (refine jn _ ?_ ?_) | (with_reducible refine both ?_ ?_) | (with_reducible refine And.intro ?_ ?_) | (refine fin_eq ?_; (try (simp (disch := omega) only [go_sem, hE, hH])); first | done | rfl) | (simp (disch := omega) only [go_sem, hE, hH]) | ((first | apply noMLL_sE | apply pk_sE) <;> (simp only [go_sem, hE, hH]; done)) | (simp only [go_sem, hE, hH]) | fail)
  · rw [decide_eq_false (fun e => h (by rw [e]))]
  have hlen : l.length = m.length := by omega
  clear h
  refine loopN l.length (fun j (_ : Unit) => ⟨[(0, .sl false 8 (l.map (Deed.row false))), (1, .sl false 8 (m.map (Deed.row false))), (5, i64 j)], []⟩) (fun j _ => decide (l = m) = decide (l.drop j = m.drop j)) () (by simp) ?_
  intro j _ hj hI
  try simp only [go_sem, hE, hH, c_laws_eqDeedS_l1]
  first | refine gd_t (fun h => ?_) (fun h => ?_) | refine gd_f (fun h => ?_) (fun h => ?_)
  · have hb := h
    simp only [nf] at h
    have hlt := h; clear h
    have hlm : j < m.length := by omega
    rw [drop_eq hlt hlm] at hI
    have hs := hx _ (nth_mem hlt)
    try simp (disch := omega) only [go_sem, hE, hH, hb]
    repeat' (first | ((with_reducible first | refine gd_t ?_ ?_ | refine gd_f ?_ ?_) <;> (intro h; have hb := h; (try simp only [nf] at h); simp (disch := omega) only [go_sem, hE, hH, hb]; (try clear hb))) | ((with_reducible refine And.intro ?_ ?_); · omega) | ((first | refine ok_view ?_ | refine cvA (eqDeed_ok _ _ (by assumption)) ?_); simp (disch := omega) only [go_sem, hE, hH]) | (refine jn _ ?_ ?_) | (with_reducible refine both ?_ ?_) | (with_reducible refine And.intro ?_ ?_) | (refine fin_eq ?_; (try (simp (disch := omega) only [go_sem, hE, hH])); first | done | rfl) | (simp (disch := omega) only [go_sem, hE, hH]) | ((first | apply noMLL_sE | apply pk_sE) <;> (simp only [go_sem, hE, hH]; done)) | (simp only [go_sem, hE, hH]) | fail)
    · rw [hI]; simp [h]
    · exact ⟨(), rfl, by rw [hI]; simp [h]⟩
  · have hb := h
    simp only [nf] at h
    try simp (disch := omega) only [go_sem, hE, hH, hb]
    rw [hI, List.drop_of_length_le (by omega), List.drop_of_length_le (by omega)]
    rfl
end Go.Proofs.Wb

import Derived.Test.YtalbfdhdbgcikaaGreatDoorFnExactPlayPollTy
import Derived.Laws.Externs
set_option linter.unusedSimpArgs false
set_option linter.unusedVariables false
set_option linter.unusedSectionVars false
namespace Go.Proofs.Wb
open Go Go.Am
attribute [go_sem] isByteRow
def dg (k : Int) : ByteArray := bytesOf [[.v (.int .u8 (IntKind.u8.wrap (48 + k % 10)))]]
theorem dg_size (k : Int) : (dg k).size = 1 := rfl
def digW (k : Int) (out : ByteArray) : ByteArray := if 0 < k then digW (k / 10) (dg k ++ out) else out
termination_by k.toNat
decreasing_by omega
def mkText (k : Int) : ByteArray := if k ≤ 0 then ⟨⟨[109, 48]⟩⟩ else ⟨⟨[109]⟩⟩ ++ digW k ⟨⟨[]⟩⟩
theorem markText_ok (k : Int) (h1 : k ≤ 2 ^ 62) : ACall Tryz.prog n_laws_markText [i64 k] (fun r _ => r = str (mkText k)) := by
  refine fn_in h_laws_markText r_laws_markText ⟨by simp only [go_sem], fun E hE hH => ?_⟩; simp only [go_sem] at hE hH; simp only [go_sem, hE, hH, c_laws_markText]
  first | refine gd_t (fun h => ?_) (fun h => ?_) | refine gd_f (fun h => ?_) (fun h => ?_)
  · try simp (disch := omega) only [go_sem, hE, hH, h]
    simp only [nf] at h
    simp [mkText, h]
  try simp (disch := omega) only [go_sem, hE, hH, h]
  simp only [nf] at h
  refine loopM (fun (x : Int × ByteArray) => ⟨[(0, i64 x.1), (3, str x.2)], []⟩) (fun x => 0 ≤ x.1 ∧ x.2.size + x.1 ≤ k ∧ digW x.1 x.2 = digW k ⟨⟨[]⟩⟩) (fun x => x.1.toNat) (k, ⟨⟨[]⟩⟩) ⟨by omega, by change ((0 : Nat) : Int) + k ≤ k; omega, rfl⟩ ?_
  rintro ⟨n, out⟩ ⟨i0, i1, i2⟩
  simp only at i0 i1 i2
  try simp only [go_sem, hE, hH, c_laws_markText_l1]
  first | refine gd_t (fun hb => ?_) (fun hb => ?_) | refine gd_f (fun hb => ?_) (fun hb => ?_)
  · have hb2 := hb
    simp only [nf] at hb
    have e1 : n.tmod 10 = n % 10 := Int.tmod_eq_emod_of_nonneg i0
    have e2 : n.tdiv 10 = n / 10 := Int.tdiv_eq_ediv_of_nonneg i0
    have e3 : (bytesOf [[.v (.int .u8 (IntKind.u8.wrap (48 + n % 10)))]]) = dg n := rfl
    try simp (disch := omega) only [go_sem, hE, hH, hb2, e1, e2, e3, dg_size]
    refine ⟨by omega, by omega, by omega, ⟨n / 10, dg n ++ out⟩, rfl, ⟨by simp only; omega, ?_, ?_⟩, by simp only; omega⟩
    · rw [ByteArray.size_append, dg_size]; simp only; omega
    · rw [← i2, digW.eq_1 n out, if_pos (by omega)]
  · have hb2 := hb
    simp only [nf] at hb
    have e0 : n = 0 := by omega
    subst e0
    rw [digW, if_neg (by omega)] at i2
    try simp (disch := omega) only [go_sem, hE, hH, hb2]
    rw [mkText, if_neg (by omega), ← i2]
    have e9 : (⟨⟨[109]⟩⟩ : ByteArray).size = 1 := rfl
    exact ⟨by rw [e9]; omega, rfl⟩
def Letter.mk2 (x : Letter) (k : Int) : Letter × Int := (⟨k, (k + 1), ((k + 1) + 1), mkText (((k + 1) + 1) + 1)⟩, ((((k + 1) + 1) + 1) + 1))
def Letter.cnt (x : Letter) : Nat := 1 + 1 + 1 + 1
theorem Letter.mk2_cnt (x : Letter) (k : Int) : (x.mk2 k).2 = k + (x.cnt : Nat) := by
  simp only [Letter.mk2, Letter.cnt]
  try omega
theorem Letter.cnt_le (x : Letter) : x.cnt ≤ 4 * (x.sz + 1) := by
  simp only [Letter.cnt, Letter.sz]
  try omega
def PollAct.mk2 (x : PollAct) (k : Int) : PollAct × Int := (⟨k, (k + 1), ((k + 1) + 1)⟩, (((k + 1) + 1) + 1))
def PollAct.cnt (x : PollAct) : Nat := 1 + 1 + 1
theorem PollAct.mk2_cnt (x : PollAct) (k : Int) : (x.mk2 k).2 = k + (x.cnt : Nat) := by
  simp only [PollAct.mk2, PollAct.cnt]
  try omega
theorem PollAct.cnt_le (x : PollAct) : x.cnt ≤ 3 := by
  simp only [PollAct.cnt]
  try omega
def Won.mk2 (x : Won) (k : Int) : Won × Int := (⟨k, (k + 1)⟩, ((k + 1) + 1))
def Won.cnt (x : Won) : Nat := 1 + 1
theorem Won.mk2_cnt (x : Won) (k : Int) : (x.mk2 k).2 = k + (x.cnt : Nat) := by
  simp only [Won.mk2, Won.cnt]
  try omega
theorem Won.cnt_le (x : Won) : x.cnt ≤ 2 := by
  simp only [Won.cnt]
  try omega
def Net.mk2 (x : Net) (k : Int) : Net × Int := (⟨k, (mkL (mkI) x.Homes (k + 1)).1, (mkL (mkI) x.Homes (k + 1)).2, (mkL (Letter.mk2) x.Under ((mkL (mkI) x.Homes (k + 1)).2 + 1)).1⟩, (mkL (Letter.mk2) x.Under ((mkL (mkI) x.Homes (k + 1)).2 + 1)).2)
def Net.cnt (x : Net) : Nat := 1 + cntL (fun _ => 1) x.Homes + 1 + cntL (Letter.cnt) x.Under
theorem Net.mk2_cnt (x : Net) (k : Int) : (x.mk2 k).2 = k + (x.cnt : Nat) := by
  simp only [Net.mk2, Net.cnt, mkN_cnt (f := mkI) (c := fun _ => 1) (fun _ _ => rfl), mkN_cnt (f := Letter.mk2) (c := Letter.cnt) (Letter.mk2_cnt)]
  try omega
theorem Net.cnt_le (x : Net) : x.cnt ≤ 7 * (x.sz + 1) := by
  have c_Homes := cntL_le1 (c := fun _ => 1) (A := 1) (fun x => by simp) (l := x.Homes)
  have c_Under := cntL_le (c := Letter.cnt) (s := Letter.sz) (A := 4) Letter.cnt_le (l := x.Under)
  simp only [Net.cnt, Net.sz]
  try omega
def Net.mkv (x : Net) (k : Int) : Net × Int := (⟨x.Now, (mkL (mkI) x.Homes k).1, x.Far, (mkL (Letter.mk2) x.Under (mkL (mkI) x.Homes k).2).1⟩, (mkL (Letter.mk2) x.Under (mkL (mkI) x.Homes k).2).2)
def Net.cntv (x : Net) : Nat := cntL (fun _ => 1) x.Homes + cntL (Letter.cnt) x.Under
theorem Net.mkv_cnt (x : Net) (k : Int) : (x.mkv k).2 = k + (x.cntv : Nat) := by
  simp only [Net.mkv, Net.cntv, mkN_cnt (f := mkI) (c := fun _ => 1) (fun _ _ => rfl), mkN_cnt (f := Letter.mk2) (c := Letter.cnt) (Letter.mk2_cnt)]
  try omega
theorem Net.cntv_le (x : Net) : x.cntv ≤ 7 * (x.sz + 1) := by
  have c_Homes := cntL_le1 (c := fun _ => 1) (A := 1) (fun x => by simp) (l := x.Homes)
  have c_Under := cntL_le (c := Letter.cnt) (s := Letter.sz) (A := 4) Letter.cnt_le (l := x.Under)
  simp only [Net.cntv, Net.sz]
  try omega
@[go_sem] theorem Net.mkv_at_Now (x : Net) (k : Int) : (x.mkv k).1.Now = x.Now := rfl
@[go_sem] theorem Net.mkv_len_Homes (x : Net) (k : Int) : (x.mkv k).1.Homes.length = x.Homes.length := mkL_len
@[go_sem] theorem Net.mkv_take_Homes (x : Net) (k : Int) : (x.mkv k).1.Homes.take x.Homes.length = (x.mkv k).1.Homes := mkL_take
@[go_sem] theorem Net.mkv_at_Far (x : Net) (k : Int) : (x.mkv k).1.Far = x.Far := rfl
@[go_sem] theorem Net.mkv_len_Under (x : Net) (k : Int) : (x.mkv k).1.Under.length = x.Under.length := mkL_len
@[go_sem] theorem Net.mkv_take_Under (x : Net) (k : Int) : (x.mkv k).1.Under.take x.Under.length = (x.mkv k).1.Under := mkL_take
def Voter.mk2 (x : Voter) (k : Int) : Voter × Int := (⟨decide ((k).tmod 3 = 0), (k + 1), ((k + 1) + 1), (mkL (mkI) x.Yes (((k + 1) + 1) + 1)).1, decide (((mkL (mkI) x.Yes (((k + 1) + 1) + 1)).2).tmod 3 = 0)⟩, ((mkL (mkI) x.Yes (((k + 1) + 1) + 1)).2 + 1))
def Voter.cnt (x : Voter) : Nat := 1 + 1 + 1 + cntL (fun _ => 1) x.Yes + 1
theorem Voter.mk2_cnt (x : Voter) (k : Int) : (x.mk2 k).2 = k + (x.cnt : Nat) := by
  simp only [Voter.mk2, Voter.cnt, mkN_cnt (f := mkI) (c := fun _ => 1) (fun _ _ => rfl)]
  try omega
theorem Voter.cnt_le (x : Voter) : x.cnt ≤ 5 * (x.sz + 1) := by
  have c_Yes := cntL_le1 (c := fun _ => 1) (A := 1) (fun x => by simp) (l := x.Yes)
  simp only [Voter.cnt, Voter.sz]
  try omega
def Voter.mkv (x : Voter) (k : Int) : Voter × Int := (⟨x.Up, x.Term, x.For, (mkL (mkI) x.Yes k).1, x.Leads⟩, (mkL (mkI) x.Yes k).2)
def Voter.cntv (x : Voter) : Nat := cntL (fun _ => 1) x.Yes
theorem Voter.mkv_cnt (x : Voter) (k : Int) : (x.mkv k).2 = k + (x.cntv : Nat) := by
  simp only [Voter.mkv, Voter.cntv, mkN_cnt (f := mkI) (c := fun _ => 1) (fun _ _ => rfl)]
  try omega
theorem Voter.cntv_le (x : Voter) : x.cntv ≤ 5 * (x.sz + 1) := by
  have c_Yes := cntL_le1 (c := fun _ => 1) (A := 1) (fun x => by simp) (l := x.Yes)
  simp only [Voter.cntv, Voter.sz]
  try omega
@[go_sem] theorem Voter.mkv_at_Up (x : Voter) (k : Int) : (x.mkv k).1.Up = x.Up := rfl
@[go_sem] theorem Voter.mkv_at_Term (x : Voter) (k : Int) : (x.mkv k).1.Term = x.Term := rfl
@[go_sem] theorem Voter.mkv_at_For (x : Voter) (k : Int) : (x.mkv k).1.For = x.For := rfl
@[go_sem] theorem Voter.mkv_len_Yes (x : Voter) (k : Int) : (x.mkv k).1.Yes.length = x.Yes.length := mkL_len
@[go_sem] theorem Voter.mkv_take_Yes (x : Voter) (k : Int) : (x.mkv k).1.Yes.take x.Yes.length = (x.mkv k).1.Yes := mkL_take
@[go_sem] theorem Voter.mkv_at_Leads (x : Voter) (k : Int) : (x.mkv k).1.Leads = x.Leads := rfl
def Poll.mk2 (x : Poll) (k : Int) : Poll × Int := (⟨(mkL (Voter.mk2) x.Voters k).1, (Net.mk2 x.Net (mkL (Voter.mk2) x.Voters k).2).1, (mkL (Won.mk2) x.Won (Net.mk2 x.Net (mkL (Voter.mk2) x.Voters k).2).2).1⟩, (mkL (Won.mk2) x.Won (Net.mk2 x.Net (mkL (Voter.mk2) x.Voters k).2).2).2)
def Poll.cnt (x : Poll) : Nat := cntL (Voter.cnt) x.Voters + x.Net.cnt + cntL (Won.cnt) x.Won
theorem Poll.mk2_cnt (x : Poll) (k : Int) : (x.mk2 k).2 = k + (x.cnt : Nat) := by
  simp only [Poll.mk2, Poll.cnt, mkN_cnt (f := Voter.mk2) (c := Voter.cnt) (Voter.mk2_cnt), Net.mk2_cnt, mkN_cnt (f := Won.mk2) (c := Won.cnt) (Won.mk2_cnt)]
  try omega
theorem Poll.cnt_le (x : Poll) : x.cnt ≤ 14 * (x.sz + 1) := by
  have c_Voters := cntL_le (c := Voter.cnt) (s := Voter.sz) (A := 5) Voter.cnt_le (l := x.Voters)
  have c_Net := Net.cnt_le x.Net
  have c_Won := cntL_le1 (c := Won.cnt) (A := 2) (fun x => by have := Won.cnt_le x; omega) (l := x.Won)
  simp only [Poll.cnt, Poll.sz]
  try omega
def Poll.mkv (x : Poll) (k : Int) : Poll × Int := (⟨(mkL (Voter.mk2) x.Voters k).1, (Net.mkv x.Net (mkL (Voter.mk2) x.Voters k).2).1, (mkL (Won.mk2) x.Won (Net.mkv x.Net (mkL (Voter.mk2) x.Voters k).2).2).1⟩, (mkL (Won.mk2) x.Won (Net.mkv x.Net (mkL (Voter.mk2) x.Voters k).2).2).2)
def Poll.cntv (x : Poll) : Nat := cntL (Voter.cnt) x.Voters + x.Net.cntv + cntL (Won.cnt) x.Won
theorem Poll.mkv_cnt (x : Poll) (k : Int) : (x.mkv k).2 = k + (x.cntv : Nat) := by
  simp only [Poll.mkv, Poll.cntv, mkN_cnt (f := Voter.mk2) (c := Voter.cnt) (Voter.mk2_cnt), Net.mkv_cnt, mkN_cnt (f := Won.mk2) (c := Won.cnt) (Won.mk2_cnt)]
  try omega
theorem Poll.cntv_le (x : Poll) : x.cntv ≤ 14 * (x.sz + 1) := by
  have c_Voters := cntL_le (c := Voter.cnt) (s := Voter.sz) (A := 5) Voter.cnt_le (l := x.Voters)
  have c_Net := Net.cntv_le x.Net
  have c_Won := cntL_le1 (c := Won.cnt) (A := 2) (fun x => by have := Won.cnt_le x; omega) (l := x.Won)
  simp only [Poll.cntv, Poll.sz]
  try omega
@[go_sem] theorem Poll.mkv_len_Voters (x : Poll) (k : Int) : (x.mkv k).1.Voters.length = x.Voters.length := mkL_len
@[go_sem] theorem Poll.mkv_take_Voters (x : Poll) (k : Int) : (x.mkv k).1.Voters.take x.Voters.length = (x.mkv k).1.Voters := mkL_take
@[go_sem] theorem Poll.mkv_at_Net (x : Poll) (k : Int) : (x.mkv k).1.Net = (x.Net.mkv (mkL (Voter.mk2) x.Voters k).2).1 := rfl
@[go_sem] theorem Poll.mkv_len_Won (x : Poll) (k : Int) : (x.mkv k).1.Won.length = x.Won.length := mkL_len
@[go_sem] theorem Poll.mkv_take_Won (x : Poll) (k : Int) : (x.mkv k).1.Won.take x.Won.length = (x.mkv k).1.Won := mkL_take
theorem markIntS_ok (l : List Int) (k : Int) (h0 : 0 ≤ k) (h1 : k + (cntL (fun _ => 1) l : Nat) ≤ 2 ^ 62) : ACall Tryz.prog n_laws_markIntS [.sl true 1 (ints l), i64 k] (fun r a => r = i64 (mkL (mkI) l k).2 ∧ a = [.sl true 1 (ints (mkL (mkI) l k).1), i64 k]) := by
  refine fn_in h_laws_markIntS r_laws_markIntS ⟨by simp only [go_sem], fun E hE hH => ?_⟩; simp only [go_sem] at hE hH; simp only [go_sem, hE, hH, c_laws_markIntS]
  refine loopNe l.length (fun j (_ : Unit) => ⟨[(0, .ref 0 0 l.length), (1, i64 (mkN (mkI) l k j)), (5, i64 j)], [(0, ⟨1, ints (mkP (mkI) l k j)⟩)]⟩) (fun _ _ => True) () (by simp [mkP_zero, mkN_zero]) trivial ?_
  intro j _ hj _
  have hpl := mkP_len (f := mkI) (k := k) hj
  have hN := mkN_at (f := mkI) (c := fun _ => 1) (fun _ _ => rfl) (l := l) (k := k) (j := j)
  have hlen := cntL_len (c := fun _ => 1) (l := l) (fun x => by simp)
  try simp only [go_sem, hE, hH, c_laws_markIntS_l1]
  first | refine gd_t (fun h => ?_) (fun h => ?_) | refine gd_f (fun h => ?_) (fun h => ?_)
  · have hb := h
    simp only [nf] at h
    have hlt := h
    have hc := psum_cnt (c := fun _ => 1) hlt
    have e0 := nth_mkP (f := mkI) (k := k) hlt
    have e1 := mkP_set (f := mkI) (k := k) hlt
    have e2 := mkN_succ (f := mkI) (k := k) hlt
    simp only [mkI] at e1 e2
    generalize hk : mkN (mkI) l k j = q at *
    try simp (disch := omega) only [go_sem, hE, hH, e0, hb, hpl, e0]
    repeat' (first | ((with_reducible first | refine gd_t ?_ ?_ | refine gd_f ?_ ?_) <;> (intro h; have hb := h; (try simp only [nf] at h); simp (disch := omega) only [go_sem, hE, hH, e0, hb]; (try clear hb))) | ((with_reducible refine And.intro ?_ ?_); · omega) | ((first | refine ok_view ?_ | refine cvA (markText_ok _ (by omega)) ?_); simp (disch := omega) only [go_sem, hE, hH, e0]) | (refine jn _ ?_ ?_) | (with_reducible refine both ?_ ?_) | (with_reducible refine And.intro ?_ ?_) | (refine fin_eq ?_; (try (simp (disch := omega) only [go_sem, hE, hH, e0])); first | done | rfl) | (simp (disch := omega) only [go_sem, hE, hH, e0]) | ((first | apply noMLL_sE | apply pk_sE) <;> (simp only [go_sem, hE, hH, e0]; done)) | (simp only [go_sem, hE, hH, e0]) | fail)
    try try simp (disch := omega) only [go_sem, hE, hH, e0, hpl, e0]
    repeat' (first | (refine both ?_ ?_) | omega | ((first | apply noMLL_sE | apply pk_sE) <;> (simp only [go_sem, hE, hH, e0]; done)) | fail)
    refine ⟨(), ?_⟩
    rw [e2, ← e1]
    rfl
  · have hb := h
    simp only [nf] at h
    try simp (disch := omega) only [go_sem, hE, hH, hb]
    have e3 : j = l.length := by first | omega | (rw [mkL_len] at h; omega)
    subst e3
    rw [mkN_all (Nat.le_refl _), mkP_all (Nat.le_refl _)]
    exact ⟨mkL_len.symm, rfl, rfl⟩
theorem markLetterS_ok (l : List Letter) (k : Int) (h0 : 0 ≤ k) (h1 : k + (cntL (Letter.cnt) l : Nat) ≤ 2 ^ 62) : ACall Tryz.prog n_laws_markLetterS [.sl true 4 (l.map (Letter.row true)), i64 k] (fun r a => r = i64 (mkL (Letter.mk2) l k).2 ∧ a = [.sl true 4 ((mkL (Letter.mk2) l k).1.map (Letter.row true)), i64 k]) := by
  refine fn_in h_laws_markLetterS r_laws_markLetterS ⟨by simp only [go_sem], fun E hE hH => ?_⟩; simp only [go_sem] at hE hH; simp only [go_sem, hE, hH, c_laws_markLetterS]
  refine loopNe l.length (fun j (_ : Unit) => ⟨[(0, .ref 0 0 l.length), (1, i64 (mkN (Letter.mk2) l k j)), (5, i64 j)], [(0, ⟨4, (mkP (Letter.mk2) l k j).map (Letter.row true)⟩)]⟩) (fun _ _ => True) () (by simp [mkP_zero, mkN_zero]) trivial ?_
  intro j _ hj _
  have hpl := mkP_len (f := Letter.mk2) (k := k) hj
  have hN := mkN_at (f := Letter.mk2) (c := Letter.cnt) (Letter.mk2_cnt) (l := l) (k := k) (j := j)
  have hlen := cntL_len (c := Letter.cnt) (l := l) (fun x => by simp only [Letter.cnt]; omega)
  try simp only [go_sem, hE, hH, c_laws_markLetterS_l1]
  first | refine gd_t (fun h => ?_) (fun h => ?_) | refine gd_f (fun h => ?_) (fun h => ?_)
  · have hb := h
    simp only [nf] at h
    have hlt := h
    have hc := psum_cnt (c := Letter.cnt) hlt
    have e0 := nth_mkP (f := Letter.mk2) (k := k) hlt
    have e1 := mkP_set (f := Letter.mk2) (k := k) hlt
    have e2 := mkN_succ (f := Letter.mk2) (k := k) hlt
    simp only [Letter.mk2] at e1 e2
    simp only [Letter.cnt] at hc
    generalize hk : mkN (Letter.mk2) l k j = q at *
    try simp (disch := omega) only [go_sem, hE, hH, e0, hb, hpl, e0]
    repeat' (first | ((with_reducible first | refine gd_t ?_ ?_ | refine gd_f ?_ ?_) <;> (intro h; have hb := h; (try simp only [nf] at h); simp (disch := omega) only [go_sem, hE, hH, e0, hb]; (try clear hb))) | ((with_reducible refine And.intro ?_ ?_); · omega) | ((first | refine ok_view ?_ | refine cvA (markText_ok _ (by omega)) ?_); simp (disch := omega) only [go_sem, hE, hH, e0]) | (refine jn _ ?_ ?_) | (with_reducible refine both ?_ ?_) | (with_reducible refine And.intro ?_ ?_) | (refine fin_eq ?_; (try (simp (disch := omega) only [go_sem, hE, hH, e0])); first | done | rfl) | (simp (disch := omega) only [go_sem, hE, hH, e0]) | ((first | apply noMLL_sE | apply pk_sE) <;> (simp only [go_sem, hE, hH, e0]; done)) | (simp only [go_sem, hE, hH, e0]) | fail)
    try try simp (disch := omega) only [go_sem, hE, hH, e0, hpl, e0]
    repeat' (first | (refine both ?_ ?_) | omega | ((first | apply noMLL_sE | apply pk_sE) <;> (simp only [go_sem, hE, hH, e0]; done)) | fail)
    refine ⟨(), ?_⟩
    rw [e2, ← e1, List.map_set]
    rfl
  · have hb := h
    simp only [nf] at h
    try simp (disch := omega) only [go_sem, hE, hH, hb]
    have e3 : j = l.length := by first | omega | (rw [mkL_len] at h; omega)
    subst e3
    rw [mkN_all (Nat.le_refl _), mkP_all (Nat.le_refl _)]
    exact ⟨mkL_len.symm, rfl, rfl⟩
theorem markPollActS_ok (l : List PollAct) (k : Int) (h0 : 0 ≤ k) (h1 : k + (cntL (PollAct.cnt) l : Nat) ≤ 2 ^ 62) : ACall Tryz.prog n_laws_markPollActS [.sl true 3 (l.map (PollAct.row true)), i64 k] (fun r a => r = i64 (mkL (PollAct.mk2) l k).2 ∧ a = [.sl true 3 ((mkL (PollAct.mk2) l k).1.map (PollAct.row true)), i64 k]) := by
  refine fn_in h_laws_markPollActS r_laws_markPollActS ⟨by simp only [go_sem], fun E hE hH => ?_⟩; simp only [go_sem] at hE hH; simp only [go_sem, hE, hH, c_laws_markPollActS]
  refine loopNe l.length (fun j (_ : Unit) => ⟨[(0, .ref 0 0 l.length), (1, i64 (mkN (PollAct.mk2) l k j)), (5, i64 j)], [(0, ⟨3, (mkP (PollAct.mk2) l k j).map (PollAct.row true)⟩)]⟩) (fun _ _ => True) () (by simp [mkP_zero, mkN_zero]) trivial ?_
  intro j _ hj _
  have hpl := mkP_len (f := PollAct.mk2) (k := k) hj
  have hN := mkN_at (f := PollAct.mk2) (c := PollAct.cnt) (PollAct.mk2_cnt) (l := l) (k := k) (j := j)
  have hlen := cntL_len (c := PollAct.cnt) (l := l) (fun x => by simp only [PollAct.cnt]; omega)
  try simp only [go_sem, hE, hH, c_laws_markPollActS_l1]
  first | refine gd_t (fun h => ?_) (fun h => ?_) | refine gd_f (fun h => ?_) (fun h => ?_)
  · have hb := h
    simp only [nf] at h
    have hlt := h
    have hc := psum_cnt (c := PollAct.cnt) hlt
    have e0 := nth_mkP (f := PollAct.mk2) (k := k) hlt
    have e1 := mkP_set (f := PollAct.mk2) (k := k) hlt
    have e2 := mkN_succ (f := PollAct.mk2) (k := k) hlt
    simp only [PollAct.mk2] at e1 e2
    simp only [PollAct.cnt] at hc
    generalize hk : mkN (PollAct.mk2) l k j = q at *
    try simp (disch := omega) only [go_sem, hE, hH, e0, hb, hpl, e0]
    repeat' (first | ((with_reducible first | refine gd_t ?_ ?_ | refine gd_f ?_ ?_) <;> (intro h; have hb := h; (try simp only [nf] at h); simp (disch := omega) only [go_sem, hE, hH, e0, hb]; (try clear hb))) | ((with_reducible refine And.intro ?_ ?_); · omega) | ((first | refine ok_view ?_ | refine cvA (markText_ok _ (by omega)) ?_); simp (disch := omega) only [go_sem, hE, hH, e0]) | (refine jn _ ?_ ?_) | (with_reducible refine both ?_ ?_) | (with_reducible refine And.intro ?_ ?_) | (refine fin_eq ?_; (try (simp (disch := omega) only [go_sem, hE, hH, e0])); first | done | rfl) | (simp (disch := omega) only [go_sem, hE, hH, e0]) | ((first | apply noMLL_sE | apply pk_sE) <;> (simp only [go_sem, hE, hH, e0]; done)) | (simp only [go_sem, hE, hH, e0]) | fail)
    try try simp (disch := omega) only [go_sem, hE, hH, e0, hpl, e0]
    repeat' (first | (refine both ?_ ?_) | omega | ((first | apply noMLL_sE | apply pk_sE) <;> (simp only [go_sem, hE, hH, e0]; done)) | fail)
    refine ⟨(), ?_⟩
    rw [e2, ← e1, List.map_set]
    rfl
  · have hb := h
    simp only [nf] at h
    try simp (disch := omega) only [go_sem, hE, hH, hb]
    have e3 : j = l.length := by first | omega | (rw [mkL_len] at h; omega)
    subst e3
    rw [mkN_all (Nat.le_refl _), mkP_all (Nat.le_refl _)]
    exact ⟨mkL_len.symm, rfl, rfl⟩
theorem markWonS_ok (l : List Won) (k : Int) (h0 : 0 ≤ k) (h1 : k + (cntL (Won.cnt) l : Nat) ≤ 2 ^ 62) : ACall Tryz.prog n_laws_markWonS [.sl true 2 (l.map (Won.row true)), i64 k] (fun r a => r = i64 (mkL (Won.mk2) l k).2 ∧ a = [.sl true 2 ((mkL (Won.mk2) l k).1.map (Won.row true)), i64 k]) := by
  refine fn_in h_laws_markWonS r_laws_markWonS ⟨by simp only [go_sem], fun E hE hH => ?_⟩; simp only [go_sem] at hE hH; simp only [go_sem, hE, hH, c_laws_markWonS]
  refine loopNe l.length (fun j (_ : Unit) => ⟨[(0, .ref 0 0 l.length), (1, i64 (mkN (Won.mk2) l k j)), (5, i64 j)], [(0, ⟨2, (mkP (Won.mk2) l k j).map (Won.row true)⟩)]⟩) (fun _ _ => True) () (by simp [mkP_zero, mkN_zero]) trivial ?_
  intro j _ hj _
  have hpl := mkP_len (f := Won.mk2) (k := k) hj
  have hN := mkN_at (f := Won.mk2) (c := Won.cnt) (Won.mk2_cnt) (l := l) (k := k) (j := j)
  have hlen := cntL_len (c := Won.cnt) (l := l) (fun x => by simp only [Won.cnt]; omega)
  try simp only [go_sem, hE, hH, c_laws_markWonS_l1]
  first | refine gd_t (fun h => ?_) (fun h => ?_) | refine gd_f (fun h => ?_) (fun h => ?_)
  · have hb := h
    simp only [nf] at h
    have hlt := h
    have hc := psum_cnt (c := Won.cnt) hlt
    have e0 := nth_mkP (f := Won.mk2) (k := k) hlt
    have e1 := mkP_set (f := Won.mk2) (k := k) hlt
    have e2 := mkN_succ (f := Won.mk2) (k := k) hlt
    simp only [Won.mk2] at e1 e2
    simp only [Won.cnt] at hc
    generalize hk : mkN (Won.mk2) l k j = q at *
    try simp (disch := omega) only [go_sem, hE, hH, e0, hb, hpl, e0]
    repeat' (first | ((with_reducible first | refine gd_t ?_ ?_ | refine gd_f ?_ ?_) <;> (intro h; have hb := h; (try simp only [nf] at h); simp (disch := omega) only [go_sem, hE, hH, e0, hb]; (try clear hb))) | ((with_reducible refine And.intro ?_ ?_); · omega) | ((first | refine ok_view ?_ | refine cvA (markText_ok _ (by omega)) ?_); simp (disch := omega) only [go_sem, hE, hH, e0]) | (refine jn _ ?_ ?_) | (with_reducible refine both ?_ ?_) | (with_reducible refine And.intro ?_ ?_) | (refine fin_eq ?_; (try (simp (disch := omega) only [go_sem, hE, hH, e0])); first | done | rfl) | (simp (disch := omega) only [go_sem, hE, hH, e0]) | ((first | apply noMLL_sE | apply pk_sE) <;> (simp only [go_sem, hE, hH, e0]; done)) | (simp only [go_sem, hE, hH, e0]) | fail)
    try try simp (disch := omega) only [go_sem, hE, hH, e0, hpl, e0]
    repeat' (first | (refine both ?_ ?_) | omega | ((first | apply noMLL_sE | apply pk_sE) <;> (simp only [go_sem, hE, hH, e0]; done)) | fail)
    refine ⟨(), ?_⟩
    rw [e2, ← e1, List.map_set]
    rfl
  · have hb := h
    simp only [nf] at h
    try simp (disch := omega) only [go_sem, hE, hH, hb]
    have e3 : j = l.length := by first | omega | (rw [mkL_len] at h; omega)
    subst e3
    rw [mkN_all (Nat.le_refl _), mkP_all (Nat.le_refl _)]
    exact ⟨mkL_len.symm, rfl, rfl⟩
theorem markNet_ok (x : Net) (k : Int) (h0 : 0 ≤ k) (h1 : k + (x.cntv : Nat) ≤ 2 ^ 62) : ACall Tryz.prog n_laws_markNet [.agg (Net.row true x), i64 k] (fun r a => r = i64 (x.mkv k).2 ∧ a = [.agg (Net.row true (x.mkv k).1), i64 k]) := by
  simp only [Net.cntv] at h1
  have m_Homes := mkN_cnt (f := mkI) (c := fun _ => 1) (fun _ _ => rfl) (l := x.Homes) (k := k)
  have m_Under := mkN_cnt (f := Letter.mk2) (c := Letter.cnt) (Letter.mk2_cnt) (l := x.Under) (k := (mkL (mkI) x.Homes k).2)
  simp only [Net.mkv]
  refine fn_in h_laws_markNet r_laws_markNet ⟨by simp only [go_sem], fun E hE hH => ?_⟩; simp only [go_sem] at hE hH; simp only [go_sem, hE, hH, c_laws_markNet]
  try simp (disch := omega) only [go_sem, hE, hH]
  repeat' (first | ((with_reducible first | refine gd_t ?_ ?_ | refine gd_f ?_ ?_) <;> (intro h; have hb := h; (try simp only [nf] at h); simp (disch := omega) only [go_sem, hE, hH, hb]; (try clear hb))) | ((with_reducible refine And.intro ?_ ?_); · omega) | (refine ok_lend [true, false] ?_; simp (disch := omega) only [go_sem, hE, hH]; refine cmA (markIntS_ok x.Homes k (by omega) (by omega)) ?_; simp (disch := omega) only [go_sem, hE, hH]) | (refine ok_lend [true, false] ?_; simp (disch := omega) only [go_sem, hE, hH]; refine cmA (markLetterS_ok x.Under (mkL (mkI) x.Homes k).2 (by omega) (by omega)) ?_; simp (disch := omega) only [go_sem, hE, hH]) | (refine jn _ ?_ ?_) | (with_reducible refine both ?_ ?_) | (with_reducible refine And.intro ?_ ?_) | (refine fin_eq ?_; (try (simp (disch := omega) only [go_sem, hE, hH])); first | done | rfl) | (simp (disch := omega) only [go_sem, hE, hH]) | ((first | apply noMLL_sE | apply pk_sE) <;> (simp only [go_sem, hE, hH]; done)) | (simp only [go_sem, hE, hH]) | fail)
  all_goals first | omega | (simp [mkL_len]; done) | rfl
theorem markVoterS_ok (l : List Voter) (k : Int) (h0 : 0 ≤ k) (h1 : k + (cntL (Voter.cnt) l : Nat) ≤ 2 ^ 62) : ACall Tryz.prog n_laws_markVoterS [.sl true 5 (l.map (Voter.row true)), i64 k] (fun r a => r = i64 (mkL (Voter.mk2) l k).2 ∧ a = [.sl true 5 ((mkL (Voter.mk2) l k).1.map (Voter.row true)), i64 k]) := by
  refine fn_in h_laws_markVoterS r_laws_markVoterS ⟨by simp only [go_sem], fun E hE hH => ?_⟩; simp only [go_sem] at hE hH; simp only [go_sem, hE, hH, c_laws_markVoterS]
  refine loopNe l.length (fun j (_ : Unit) => ⟨[(0, .ref 0 0 l.length), (1, i64 (mkN (Voter.mk2) l k j)), (5, i64 j)], [(0, ⟨5, (mkP (Voter.mk2) l k j).map (Voter.row true)⟩)]⟩) (fun _ _ => True) () (by simp [mkP_zero, mkN_zero]) trivial ?_
  intro j _ hj _
  have hpl := mkP_len (f := Voter.mk2) (k := k) hj
  have hN := mkN_at (f := Voter.mk2) (c := Voter.cnt) (Voter.mk2_cnt) (l := l) (k := k) (j := j)
  have hlen := cntL_len (c := Voter.cnt) (l := l) (fun x => by simp only [Voter.cnt]; omega)
  try simp only [go_sem, hE, hH, c_laws_markVoterS_l1]
  first | refine gd_t (fun h => ?_) (fun h => ?_) | refine gd_f (fun h => ?_) (fun h => ?_)
  · have hb := h
    simp only [nf] at h
    have hlt := h
    have hc := psum_cnt (c := Voter.cnt) hlt
    have e0 := nth_mkP (f := Voter.mk2) (k := k) hlt
    have e1 := mkP_set (f := Voter.mk2) (k := k) hlt
    have e2 := mkN_succ (f := Voter.mk2) (k := k) hlt
    simp only [Voter.mk2] at e1 e2
    simp only [Voter.cnt] at hc
    generalize hk : mkN (Voter.mk2) l k j = q at *
    have m_Yes := mkN_cnt (f := mkI) (c := fun _ => 1) (fun _ _ => rfl) (l := (nth l j).Yes) (k := (((q + 1) + 1) + 1))
    try simp (disch := omega) only [go_sem, hE, hH, e0, hb, hpl, e0]
    repeat' (first | ((with_reducible first | refine gd_t ?_ ?_ | refine gd_f ?_ ?_) <;> (intro h; have hb := h; (try simp only [nf] at h); simp (disch := omega) only [go_sem, hE, hH, e0, hb]; (try clear hb))) | ((with_reducible refine And.intro ?_ ?_); · omega) | (refine ok_lend [true, false] ?_; simp (disch := omega) only [go_sem, hE, hH, e0]; refine cmA (markIntS_ok ((nth l j).Yes) ((((q + 1) + 1) + 1)) (by omega) (by omega)) ?_; simp (disch := omega) only [go_sem, hE, hH, e0]) | ((first | refine ok_view ?_ | refine cvA (markText_ok _ (by omega)) ?_); simp (disch := omega) only [go_sem, hE, hH, e0]) | (refine jn _ ?_ ?_) | (with_reducible refine both ?_ ?_) | (with_reducible refine And.intro ?_ ?_) | (refine fin_eq ?_; (try (simp (disch := omega) only [go_sem, hE, hH, e0])); first | done | rfl) | (simp (disch := omega) only [go_sem, hE, hH, e0]) | ((first | apply noMLL_sE | apply pk_sE) <;> (simp only [go_sem, hE, hH, e0]; done)) | (simp only [go_sem, hE, hH, e0]) | fail)
    try try simp (disch := omega) only [go_sem, hE, hH, e0, hpl, e0]
    repeat' (first | (refine both ?_ ?_) | omega | ((first | apply noMLL_sE | apply pk_sE) <;> (simp only [go_sem, hE, hH, e0]; done)) | fail)
    refine ⟨(), ?_⟩
    rw [e2, ← e1, List.map_set]
    rfl
  · have hb := h
    simp only [nf] at h
    try simp (disch := omega) only [go_sem, hE, hH, hb]
    have e3 : j = l.length := by first | omega | (rw [mkL_len] at h; omega)
    subst e3
    rw [mkN_all (Nat.le_refl _), mkP_all (Nat.le_refl _)]
    exact ⟨mkL_len.symm, rfl, rfl⟩
theorem markPoll_ok (x : Poll) (k : Int) (h0 : 0 ≤ k) (h1 : k + (x.cntv : Nat) ≤ 2 ^ 62) : ACall Tryz.prog n_laws_markPoll [.agg (Poll.row true x), i64 k] (fun r a => r = i64 (x.mkv k).2 ∧ a = [.agg (Poll.row true (x.mkv k).1), i64 k]) := by
  simp only [Poll.cntv] at h1
  have m_Voters := mkN_cnt (f := Voter.mk2) (c := Voter.cnt) (Voter.mk2_cnt) (l := x.Voters) (k := k)
  have m_Net := Net.mkv_cnt x.Net ((mkL (Voter.mk2) x.Voters k).2)
  have m_Won := mkN_cnt (f := Won.mk2) (c := Won.cnt) (Won.mk2_cnt) (l := x.Won) (k := (Net.mkv x.Net (mkL (Voter.mk2) x.Voters k).2).2)
  simp only [Poll.mkv]
  refine fn_in h_laws_markPoll r_laws_markPoll ⟨by simp only [go_sem], fun E hE hH => ?_⟩; simp only [go_sem] at hE hH; simp only [go_sem, hE, hH, c_laws_markPoll]
  try simp (disch := omega) only [go_sem, hE, hH]
  repeat' (first | ((with_reducible first | refine gd_t ?_ ?_ | refine gd_f ?_ ?_) <;> (intro h; have hb := h; (try simp only [nf] at h); simp (disch := omega) only [go_sem, hE, hH, hb]; (try clear hb))) | ((with_reducible refine And.intro ?_ ?_); · omega) | (refine ok_lend [true, false] ?_; simp (disch := omega) only [go_sem, hE, hH]; refine cmA (markVoterS_ok x.Voters k (by omega) (by omega)) ?_; simp (disch := omega) only [go_sem, hE, hH]) | (refine ok_lend [true, false] ?_; simp (disch := omega) only [go_sem, hE, hH]; refine cmA (markNet_ok x.Net (mkL (Voter.mk2) x.Voters k).2 (by omega) (by omega)) ?_; simp (disch := omega) only [go_sem, hE, hH]) | (refine ok_lend [true, false] ?_; simp (disch := omega) only [go_sem, hE, hH]; refine cmA (markWonS_ok x.Won (Net.mkv x.Net (mkL (Voter.mk2) x.Voters k).2).2 (by omega) (by omega)) ?_; simp (disch := omega) only [go_sem, hE, hH]) | (refine jn _ ?_ ?_) | (with_reducible refine both ?_ ?_) | (with_reducible refine And.intro ?_ ?_) | (refine fin_eq ?_; (try (simp (disch := omega) only [go_sem, hE, hH])); first | done | rfl) | (simp (disch := omega) only [go_sem, hE, hH]) | ((first | apply noMLL_sE | apply pk_sE) <;> (simp only [go_sem, hE, hH]; done)) | (simp only [go_sem, hE, hH]) | fail)
  all_goals first | omega | (simp [mkL_len, Net.mkv]; done) | rfl
theorem heldIntS_ok (l : List Int) (k : Int) (h0 : 0 ≤ k) (h1 : k + (cntL (fun _ => 1) l : Nat) ≤ 2 ^ 62) : ACall Tryz.prog n_laws_heldIntS [.sl false 1 (ints (mkL (mkI) l k).1), i64 k] (fun r _ => r = i64 (mkL (mkI) l k).2) := by
  refine fn_in h_laws_heldIntS r_laws_heldIntS ⟨by simp only [go_sem], fun E hE hH => ?_⟩; simp only [go_sem] at hE hH; simp only [go_sem, hE, hH, c_laws_heldIntS]
  refine loopNe l.length (fun j (_ : Unit) => ⟨[(0, .sl false 1 (ints (mkL (mkI) l k).1)), (1, i64 (mkN (mkI) l k j)), (5, i64 j)], []⟩) (fun _ _ => True) () (by simp [mkP_zero, mkN_zero]) trivial ?_
  intro j _ hj _
  have hpl := mkL_len (f := mkI) (k := k) (l := l)
  have hN := mkN_at (f := mkI) (c := fun _ => 1) (fun _ _ => rfl) (l := l) (k := k) (j := j)
  have hlen := cntL_len (c := fun _ => 1) (l := l) (fun x => by simp)
  try simp only [go_sem, hE, hH, c_laws_heldIntS_l1]
  first | refine gd_t (fun h => ?_) (fun h => ?_) | refine gd_f (fun h => ?_) (fun h => ?_)
  · have hb := h
    simp only [nf] at h
    have hlt : j < l.length := by first | exact h | (rw [mkL_len] at h; exact h)
    have hc := psum_cnt (c := fun _ => 1) hlt
    have e0 := nth_mkL (f := mkI) (k := k) hlt
    have e2 := mkN_succ (f := mkI) (k := k) hlt
    simp only [mkI] at e0 e2
    generalize hk : mkN (mkI) l k j = q at *
    try simp (disch := omega) only [go_sem, hE, hH, e0, hb, hpl, e0]
    repeat' (first | ((with_reducible first | refine gd_t ?_ ?_ | refine gd_f ?_ ?_) <;> (intro h; have hb := h; (try simp only [nf] at h); simp (disch := omega) only [go_sem, hE, hH, e0, hb]; (try clear hb))) | ((with_reducible refine And.intro ?_ ?_); · omega) | ((first | refine ok_view ?_ | refine cvA (markText_ok _ (by omega)) ?_); simp (disch := omega) only [go_sem, hE, hH, e0]) | (refine jn _ ?_ ?_) | (with_reducible refine both ?_ ?_) | (with_reducible refine And.intro ?_ ?_) | (refine fin_eq ?_; (try (simp (disch := omega) only [go_sem, hE, hH, e0])); first | done | rfl) | (simp (disch := omega) only [go_sem, hE, hH, e0]) | ((first | apply noMLL_sE | apply pk_sE) <;> (simp only [go_sem, hE, hH, e0]; done)) | (simp only [go_sem, hE, hH, e0]) | fail)
    try try simp (disch := omega) only [go_sem, hE, hH, e0, hpl, e0]
    repeat' (first | (refine both ?_ ?_) | omega | ((first | apply noMLL_sE | apply pk_sE) <;> (simp only [go_sem, hE, hH, e0]; done)) | fail)
    refine ⟨(), ?_⟩
    rw [e2]
    rfl
  · have hb := h
    simp only [nf] at h
    try simp (disch := omega) only [go_sem, hE, hH, hb]
    have e3 : j = l.length := by first | omega | (rw [mkL_len] at h; omega)
    subst e3
    rw [mkN_all (Nat.le_refl _)]
theorem heldLetterS_ok (l : List Letter) (k : Int) (h0 : 0 ≤ k) (h1 : k + (cntL (Letter.cnt) l : Nat) ≤ 2 ^ 62) : ACall Tryz.prog n_laws_heldLetterS [.sl false 4 ((mkL (Letter.mk2) l k).1.map (Letter.row false)), i64 k] (fun r _ => r = i64 (mkL (Letter.mk2) l k).2) := by
  refine fn_in h_laws_heldLetterS r_laws_heldLetterS ⟨by simp only [go_sem], fun E hE hH => ?_⟩; simp only [go_sem] at hE hH; simp only [go_sem, hE, hH, c_laws_heldLetterS]
  refine loopNe l.length (fun j (_ : Unit) => ⟨[(0, .sl false 4 ((mkL (Letter.mk2) l k).1.map (Letter.row false))), (1, i64 (mkN (Letter.mk2) l k j)), (5, i64 j)], []⟩) (fun _ _ => True) () (by simp [mkP_zero, mkN_zero]) trivial ?_
  intro j _ hj _
  have hpl := mkL_len (f := Letter.mk2) (k := k) (l := l)
  have hN := mkN_at (f := Letter.mk2) (c := Letter.cnt) (Letter.mk2_cnt) (l := l) (k := k) (j := j)
  have hlen := cntL_len (c := Letter.cnt) (l := l) (fun x => by simp only [Letter.cnt]; omega)
  try simp only [go_sem, hE, hH, c_laws_heldLetterS_l1]
  first | refine gd_t (fun h => ?_) (fun h => ?_) | refine gd_f (fun h => ?_) (fun h => ?_)
  · have hb := h
    simp only [nf] at h
    have hlt : j < l.length := by first | exact h | (rw [mkL_len] at h; exact h)
    have hc := psum_cnt (c := Letter.cnt) hlt
    have e0 := nth_mkL (f := Letter.mk2) (k := k) hlt
    have e2 := mkN_succ (f := Letter.mk2) (k := k) hlt
    simp only [Letter.mk2] at e0 e2
    simp only [Letter.cnt] at hc
    generalize hk : mkN (Letter.mk2) l k j = q at *
    try simp (disch := omega) only [go_sem, hE, hH, e0, hb, hpl, e0]
    repeat' (first | ((with_reducible first | refine gd_t ?_ ?_ | refine gd_f ?_ ?_) <;> (intro h; have hb := h; (try simp only [nf] at h); simp (disch := omega) only [go_sem, hE, hH, e0, hb]; (try clear hb))) | ((with_reducible refine And.intro ?_ ?_); · omega) | ((first | refine ok_view ?_ | refine cvA (markText_ok _ (by omega)) ?_); simp (disch := omega) only [go_sem, hE, hH, e0]) | (refine jn _ ?_ ?_) | (with_reducible refine both ?_ ?_) | (with_reducible refine And.intro ?_ ?_) | (refine fin_eq ?_; (try (simp (disch := omega) only [go_sem, hE, hH, e0])); first | done | rfl) | (simp (disch := omega) only [go_sem, hE, hH, e0]) | ((first | apply noMLL_sE | apply pk_sE) <;> (simp only [go_sem, hE, hH, e0]; done)) | (simp only [go_sem, hE, hH, e0]) | fail)
    try try simp (disch := omega) only [go_sem, hE, hH, e0, hpl, e0]
    repeat' (first | (refine both ?_ ?_) | omega | ((first | apply noMLL_sE | apply pk_sE) <;> (simp only [go_sem, hE, hH, e0]; done)) | fail)
    refine ⟨(), ?_⟩
    rw [e2]
    rfl
  · have hb := h
    simp only [nf] at h
    try simp (disch := omega) only [go_sem, hE, hH, hb]
    have e3 : j = l.length := by first | omega | (rw [mkL_len] at h; omega)
    subst e3
    rw [mkN_all (Nat.le_refl _)]
theorem heldWonS_ok (l : List Won) (k : Int) (h0 : 0 ≤ k) (h1 : k + (cntL (Won.cnt) l : Nat) ≤ 2 ^ 62) : ACall Tryz.prog n_laws_heldWonS [.sl false 2 ((mkL (Won.mk2) l k).1.map (Won.row false)), i64 k] (fun r _ => r = i64 (mkL (Won.mk2) l k).2) := by
  refine fn_in h_laws_heldWonS r_laws_heldWonS ⟨by simp only [go_sem], fun E hE hH => ?_⟩; simp only [go_sem] at hE hH; simp only [go_sem, hE, hH, c_laws_heldWonS]
  refine loopNe l.length (fun j (_ : Unit) => ⟨[(0, .sl false 2 ((mkL (Won.mk2) l k).1.map (Won.row false))), (1, i64 (mkN (Won.mk2) l k j)), (5, i64 j)], []⟩) (fun _ _ => True) () (by simp [mkP_zero, mkN_zero]) trivial ?_
  intro j _ hj _
  have hpl := mkL_len (f := Won.mk2) (k := k) (l := l)
  have hN := mkN_at (f := Won.mk2) (c := Won.cnt) (Won.mk2_cnt) (l := l) (k := k) (j := j)
  have hlen := cntL_len (c := Won.cnt) (l := l) (fun x => by simp only [Won.cnt]; omega)
  try simp only [go_sem, hE, hH, c_laws_heldWonS_l1]
  first | refine gd_t (fun h => ?_) (fun h => ?_) | refine gd_f (fun h => ?_) (fun h => ?_)
  · have hb := h
    simp only [nf] at h
    have hlt : j < l.length := by first | exact h | (rw [mkL_len] at h; exact h)
    have hc := psum_cnt (c := Won.cnt) hlt
    have e0 := nth_mkL (f := Won.mk2) (k := k) hlt
    have e2 := mkN_succ (f := Won.mk2) (k := k) hlt
    simp only [Won.mk2] at e0 e2
    simp only [Won.cnt] at hc
    generalize hk : mkN (Won.mk2) l k j = q at *
    try simp (disch := omega) only [go_sem, hE, hH, e0, hb, hpl, e0]
    repeat' (first | ((with_reducible first | refine gd_t ?_ ?_ | refine gd_f ?_ ?_) <;> (intro h; have hb := h; (try simp only [nf] at h); simp (disch := omega) only [go_sem, hE, hH, e0, hb]; (try clear hb))) | ((with_reducible refine And.intro ?_ ?_); · omega) | ((first | refine ok_view ?_ | refine cvA (markText_ok _ (by omega)) ?_); simp (disch := omega) only [go_sem, hE, hH, e0]) | (refine jn _ ?_ ?_) | (with_reducible refine both ?_ ?_) | (with_reducible refine And.intro ?_ ?_) | (refine fin_eq ?_; (try (simp (disch := omega) only [go_sem, hE, hH, e0])); first | done | rfl) | (simp (disch := omega) only [go_sem, hE, hH, e0]) | ((first | apply noMLL_sE | apply pk_sE) <;> (simp only [go_sem, hE, hH, e0]; done)) | (simp only [go_sem, hE, hH, e0]) | fail)
    try try simp (disch := omega) only [go_sem, hE, hH, e0, hpl, e0]
    repeat' (first | (refine both ?_ ?_) | omega | ((first | apply noMLL_sE | apply pk_sE) <;> (simp only [go_sem, hE, hH, e0]; done)) | fail)
    refine ⟨(), ?_⟩
    rw [e2]
    rfl
  · have hb := h
    simp only [nf] at h
    try simp (disch := omega) only [go_sem, hE, hH, hb]
    have e3 : j = l.length := by first | omega | (rw [mkL_len] at h; omega)
    subst e3
    rw [mkN_all (Nat.le_refl _)]
theorem heldNet_ok (x : Net) (k : Int) (h0 : 0 ≤ k) (h1 : k + (x.cntv : Nat) ≤ 2 ^ 62) : ACall Tryz.prog n_laws_heldNet [.agg (Net.row false (x.mkv k).1), i64 k] (fun r _ => r = i64 (x.mkv k).2) := by
  simp only [Net.cntv] at h1
  have m_Homes := mkN_cnt (f := mkI) (c := fun _ => 1) (fun _ _ => rfl) (l := x.Homes) (k := k)
  have m_Under := mkN_cnt (f := Letter.mk2) (c := Letter.cnt) (Letter.mk2_cnt) (l := x.Under) (k := (mkL (mkI) x.Homes k).2)
  simp only [Net.mkv]
  refine fn_in h_laws_heldNet r_laws_heldNet ⟨by simp only [go_sem], fun E hE hH => ?_⟩; simp only [go_sem] at hE hH; simp only [go_sem, hE, hH, c_laws_heldNet]
  try simp (disch := omega) only [go_sem, hE, hH]
  repeat' (first | ((with_reducible first | refine gd_t ?_ ?_ | refine gd_f ?_ ?_) <;> (intro h; have hb := h; (try simp only [nf] at h); simp (disch := omega) only [go_sem, hE, hH, hb]; (try clear hb))) | ((with_reducible refine And.intro ?_ ?_); · omega) | ((first | refine ok_view ?_ | refine cvA (heldIntS_ok x.Homes k (by omega) (by omega)) ?_ | refine cvA (heldLetterS_ok x.Under (mkL (mkI) x.Homes k).2 (by omega) (by omega)) ?_); simp (disch := omega) only [go_sem, hE, hH]) | (refine jn _ ?_ ?_) | (with_reducible refine both ?_ ?_) | (with_reducible refine And.intro ?_ ?_) | (refine fin_eq ?_; (try (simp (disch := omega) only [go_sem, hE, hH])); first | done | rfl) | (simp (disch := omega) only [go_sem, hE, hH]) | ((first | apply noMLL_sE | apply pk_sE) <;> (simp only [go_sem, hE, hH]; done)) | (simp only [go_sem, hE, hH]) | fail)
  all_goals first | omega | (simp [mkL_len]; done) | rfl
theorem heldVoterS_ok (l : List Voter) (k : Int) (h0 : 0 ≤ k) (h1 : k + (cntL (Voter.cnt) l : Nat) ≤ 2 ^ 62) : ACall Tryz.prog n_laws_heldVoterS [.sl false 5 ((mkL (Voter.mk2) l k).1.map (Voter.row false)), i64 k] (fun r _ => r = i64 (mkL (Voter.mk2) l k).2) := by
  refine fn_in h_laws_heldVoterS r_laws_heldVoterS ⟨by simp only [go_sem], fun E hE hH => ?_⟩; simp only [go_sem] at hE hH; simp only [go_sem, hE, hH, c_laws_heldVoterS]
  refine loopNe l.length (fun j (_ : Unit) => ⟨[(0, .sl false 5 ((mkL (Voter.mk2) l k).1.map (Voter.row false))), (1, i64 (mkN (Voter.mk2) l k j)), (5, i64 j)], []⟩) (fun _ _ => True) () (by simp [mkP_zero, mkN_zero]) trivial ?_
  intro j _ hj _
  have hpl := mkL_len (f := Voter.mk2) (k := k) (l := l)
  have hN := mkN_at (f := Voter.mk2) (c := Voter.cnt) (Voter.mk2_cnt) (l := l) (k := k) (j := j)
  have hlen := cntL_len (c := Voter.cnt) (l := l) (fun x => by simp only [Voter.cnt]; omega)
  try simp only [go_sem, hE, hH, c_laws_heldVoterS_l1]
  first | refine gd_t (fun h => ?_) (fun h => ?_) | refine gd_f (fun h => ?_) (fun h => ?_)
  · have hb := h
    simp only [nf] at h
    have hlt : j < l.length := by first | exact h | (rw [mkL_len] at h; exact h)
    have hc := psum_cnt (c := Voter.cnt) hlt
    have e0 := nth_mkL (f := Voter.mk2) (k := k) hlt
    have e2 := mkN_succ (f := Voter.mk2) (k := k) hlt
    simp only [Voter.mk2] at e0 e2
    simp only [Voter.cnt] at hc
    generalize hk : mkN (Voter.mk2) l k j = q at *
    have m_Yes := mkN_cnt (f := mkI) (c := fun _ => 1) (fun _ _ => rfl) (l := (nth l j).Yes) (k := (((q + 1) + 1) + 1))
    try simp (disch := omega) only [go_sem, hE, hH, e0, hb, hpl, e0]
    repeat' (first | ((with_reducible first | refine gd_t ?_ ?_ | refine gd_f ?_ ?_) <;> (intro h; have hb := h; (try simp only [nf] at h); simp (disch := omega) only [go_sem, hE, hH, e0, hb]; (try clear hb))) | ((with_reducible refine And.intro ?_ ?_); · omega) | ((first | refine ok_view ?_ | refine cvA (markText_ok _ (by omega)) ?_ | refine cvA (heldIntS_ok ((nth l j).Yes) ((((q + 1) + 1) + 1)) (by omega) (by omega)) ?_); simp (disch := omega) only [go_sem, hE, hH, e0]) | (refine jn _ ?_ ?_) | (with_reducible refine both ?_ ?_) | (with_reducible refine And.intro ?_ ?_) | (refine fin_eq ?_; (try (simp (disch := omega) only [go_sem, hE, hH, e0])); first | done | rfl) | (simp (disch := omega) only [go_sem, hE, hH, e0]) | ((first | apply noMLL_sE | apply pk_sE) <;> (simp only [go_sem, hE, hH, e0]; done)) | (simp only [go_sem, hE, hH, e0]) | fail)
    try try simp (disch := omega) only [go_sem, hE, hH, e0, hpl, e0]
    repeat' (first | (refine both ?_ ?_) | omega | ((first | apply noMLL_sE | apply pk_sE) <;> (simp only [go_sem, hE, hH, e0]; done)) | fail)
    refine ⟨(), ?_⟩
    rw [e2]
    rfl
  · have hb := h
    simp only [nf] at h
    try simp (disch := omega) only [go_sem, hE, hH, hb]
    have e3 : j = l.length := by first | omega | (rw [mkL_len] at h; omega)
    subst e3
    rw [mkN_all (Nat.le_refl _)]
theorem heldPoll_ok (x : Poll) (k : Int) (h0 : 0 ≤ k) (h1 : k + (x.cntv : Nat) ≤ 2 ^ 62) : ACall Tryz.prog n_laws_heldPoll [.agg (Poll.row false (x.mkv k).1), i64 k] (fun r _ => r = i64 (x.mkv k).2) := by
  simp only [Poll.cntv] at h1
  have m_Voters := mkN_cnt (f := Voter.mk2) (c := Voter.cnt) (Voter.mk2_cnt) (l := x.Voters) (k := k)
  have m_Net := Net.mkv_cnt x.Net ((mkL (Voter.mk2) x.Voters k).2)
  have m_Won := mkN_cnt (f := Won.mk2) (c := Won.cnt) (Won.mk2_cnt) (l := x.Won) (k := (Net.mkv x.Net (mkL (Voter.mk2) x.Voters k).2).2)
  simp only [Poll.mkv]
  refine fn_in h_laws_heldPoll r_laws_heldPoll ⟨by simp only [go_sem], fun E hE hH => ?_⟩; simp only [go_sem] at hE hH; simp only [go_sem, hE, hH, c_laws_heldPoll]
  try simp (disch := omega) only [go_sem, hE, hH]
  repeat' (first | ((with_reducible first | refine gd_t ?_ ?_ | refine gd_f ?_ ?_) <;> (intro h; have hb := h; (try simp only [nf] at h); simp (disch := omega) only [go_sem, hE, hH, hb]; (try clear hb))) | ((with_reducible refine And.intro ?_ ?_); · omega) | ((first | refine ok_view ?_ | refine cvA (heldVoterS_ok x.Voters k (by omega) (by omega)) ?_ | refine cvA (heldNet_ok x.Net (mkL (Voter.mk2) x.Voters k).2 (by omega) (by omega)) ?_ | refine cvA (heldWonS_ok x.Won (Net.mkv x.Net (mkL (Voter.mk2) x.Voters k).2).2 (by omega) (by omega)) ?_); simp (disch := omega) only [go_sem, hE, hH]) | (refine jn _ ?_ ?_) | (with_reducible refine both ?_ ?_) | (with_reducible refine And.intro ?_ ?_) | (refine fin_eq ?_; (try (simp (disch := omega) only [go_sem, hE, hH])); first | done | rfl) | (simp (disch := omega) only [go_sem, hE, hH]) | ((first | apply noMLL_sE | apply pk_sE) <;> (simp only [go_sem, hE, hH]; done)) | (simp only [go_sem, hE, hH]) | fail)
  all_goals first | omega | (simp [mkL_len, Net.mkv]; done) | rfl
section
variable {α : Type} [Inhabited α] {κ : Type} [DecidableEq κ]
theorem cntN_mono {p : Nat → Bool} {n : Nat} : ∀ {m : Nat}, n ≤ m → cntN p n ≤ cntN p m
  | 0, h => by rw [show n = 0 by omega]; exact Nat.le_refl _
  | m + 1, h => by
    by_cases e : n = m + 1
    · rw [e]; exact Nat.le_refl _
    · have := cntN_mono (p := p) (n := n) (m := m) (by omega)
      simp only [cntN]
      omega
def fxI (lt : κ → κ → Bool) (f : α → κ) (l : List α) (k : κ) : Nat := cntN (fun i => lt (f (nth l i)) k) l.length
def fxF (f : α → κ) (l : List α) (k : κ) : Bool := l.any fun x => decide (f x = k)
def srtX (lt : κ → κ → Bool) (f : α → κ) (l : List α) : Prop := ∀ i j, i < j → j < l.length → lt (f (nth l i)) (f (nth l j)) = true
structure Ord (lt : κ → κ → Bool) (cmp : κ → κ → Int) : Prop where
  neg : ∀ a b, cmp a b < 0 ↔ lt a b = true
  zero : ∀ a b, cmp a b = 0 ↔ a = b
  irr : ∀ a, lt a a = false
  trans : ∀ a b c, lt a b = true → lt b c = true → lt a c = true
  total : ∀ a b, lt a b = true ∨ a = b ∨ lt b a = true
variable {lt : κ → κ → Bool} {cmp : κ → κ → Int} {f : α → κ} {l : List α} {k : κ}
theorem Ord.ge (O : Ord lt cmp) {a b : κ} (h : lt a b = false) : a = b ∨ lt b a = true := by
  rcases O.total a b with h1 | h1 | h1
  · rw [h] at h1; cases h1
  · exact .inl h1
  · exact .inr h1
theorem fxI_le : fxI lt f l k ≤ l.length := cntN_le
theorem fxI_lo (O : Ord lt cmp) (hs : srtX lt f l) {i : Nat} (hi : i < l.length) : i < fxI lt f l k ↔ lt (f (nth l i)) k = true := by
  constructor
  · intro h
    by_cases hb : lt (f (nth l i)) k = true
    · exact hb
    · exfalso
      have : fxI lt f l k ≤ i := by
        unfold fxI
        rw [cntN_none (Nat.le_of_lt hi) (fun j a b => ?_)]
        · exact cntN_le
        · by_cases e : j = i
          · rw [e]; simpa using hb
          · cases h2 : lt (f (nth l j)) k
            · rfl
            · exact absurd (O.trans _ _ _ (hs i j (by omega) b) h2) hb
      omega
  · intro h
    unfold fxI
    have h1 := cntN_all (p := fun i => lt (f (nth l i)) k) (n := i + 1) (allN_iff.2 fun j hj => by
      by_cases e : j = i
      · rw [e]; exact h
      · exact O.trans _ _ _ (hs j i (by omega) hi) h)
    have h2 := cntN_mono (p := fun i => lt (f (nth l i)) k) (n := i + 1) (m := l.length) (by omega)
    omega
theorem fxF_at (O : Ord lt cmp) (hs : srtX lt f l) {i : Nat} (hi : i < l.length) (h : f (nth l i) = k) : fxI lt f l k = i := by
  have h1 : ¬ i < fxI lt f l k := by rw [fxI_lo O hs hi, h, O.irr]; simp
  by_cases h2 : fxI lt f l k < i
  · have h3 := (fxI_lo (k := k) O hs (show fxI lt f l k < l.length by omega)).2 (by have := hs _ _ h2 hi; rwa [h] at this)
    omega
  · omega
theorem fxF_iff : fxF f l k = true ↔ ∃ i, i < l.length ∧ f (nth l i) = k := by
  unfold fxF
  rw [List.any_eq_true]
  constructor
  · rintro ⟨x, hx, h1⟩
    obtain ⟨i, hi, rfl⟩ := List.getElem_of_mem hx
    exact ⟨i, hi, by rw [nth_lt hi]; simpa using h1⟩
  · rintro ⟨i, hi, h1⟩; exact ⟨_, nth_mem hi, by simpa using h1⟩
theorem fxF_here (O : Ord lt cmp) (hs : srtX lt f l) (h : fxF f l k = true) : fxI lt f l k < l.length ∧ f (nth l (fxI lt f l k)) = k := by
  obtain ⟨i, hi, h1⟩ := fxF_iff.1 h
  rw [fxF_at O hs hi h1]; exact ⟨hi, h1⟩
def putAt (l : List α) (i : Nat) (x : α) : List α := l.take i ++ x :: l.drop i
theorem putAt_len {i : Nat} {x : α} (hi : i ≤ l.length) : (putAt l i x).length = l.length + 1 := by
  simp [putAt]; omega
theorem putAt_nth {i j : Nat} {x : α} (hi : i ≤ l.length) : nth (putAt l i x) j = if j < i then nth l j else if j = i then x else nth l (j - 1) := by
  unfold putAt nth
  simp only [List.getD, List.getElem?_append, List.length_take, Nat.min_eq_left hi]
  split
  · rename_i h; rw [List.getElem?_take_of_lt h]
  · rename_i h
    by_cases e : j = i
    · subst e; simp
    · rw [if_neg e, List.getElem?_cons, if_neg (by omega), List.getElem?_drop]
      congr 2; omega
theorem putAt_srt (O : Ord lt cmp) (hs : srtX lt f l) {x : α} (h : fxF f l (f x) = false) : srtX lt f (putAt l (fxI lt f l (f x)) x) := by
  intro i j h1 h2
  have hle := fxI_le (lt := lt) (f := f) (l := l) (k := f x)
  rw [putAt_len hle] at h2
  rw [putAt_nth hle, putAt_nth hle]
  have lo : ∀ i, i < fxI lt f l (f x) → lt (f (nth l i)) (f x) = true := fun i hi => (fxI_lo O hs (by omega)).1 hi
  have hi : ∀ i, fxI lt f l (f x) ≤ i → i < l.length → lt (f x) (f (nth l i)) = true := by
    intro i h3 h4
    have h5 : lt (f (nth l i)) (f x) = false := by
      cases h6 : lt (f (nth l i)) (f x)
      · rfl
      · have := (fxI_lo O hs h4).2 h6; omega
    rcases O.ge h5 with h6 | h6
    · have : fxF f l (f x) = true := fxF_iff.2 ⟨i, h4, h6⟩
      rw [h] at this; cases this
    · exact h6
  by_cases a : j < fxI lt f l (f x)
  · rw [if_pos (by omega), if_pos a]; exact hs i j h1 (by omega)
  · rw [if_neg a]
    by_cases b : j = fxI lt f l (f x)
    · rw [if_pos b, if_pos (by omega)]; exact lo i (by omega)
    · rw [if_neg b]
      by_cases c : i < fxI lt f l (f x)
      · rw [if_pos c]; exact hs i (j - 1) (by omega) (by omega)
      · rw [if_neg c]
        by_cases d : i = fxI lt f l (f x)
        · rw [if_pos d]; exact hi (j - 1) (by omega) (by omega)
        · rw [if_neg d]; exact hs (i - 1) (j - 1) (by omega) (by omega)
theorem mem_putAt {i : Nat} {x y : α} : y ∈ putAt l i x ↔ y = x ∨ y ∈ l := by
  unfold putAt
  conv => rhs; rw [← List.take_append_drop i l]
  simp only [List.mem_append, List.mem_cons]
  constructor
  · rintro (h | h | h) <;> simp [h]
  · rintro (h | h | h) <;> simp [h]
end
def ltI (a b : Int) : Bool := decide (a < b)
theorem Clone_Letter_ok (l : List Letter) (hl : l.length ≤ 2 ^ 20) : ACall Tryz.prog n_slices_Clone___impl_Letter_impl_Letter_ [.sl false 4 (l.map (Letter.row false))] (fun r _ => r = .sl true 4 (l.map (Letter.row false))) := by
  refine fn_in h_slices_Clone___impl_Letter_impl_Letter_ r_slices_Clone___impl_Letter_impl_Letter_ ⟨by simp only [go_sem], fun E hE hH => ?_⟩; simp only [go_sem] at hE hH; simp only [go_sem, hE, hH, c_slices_Clone___impl_Letter_impl_Letter_]
  refine ok_isn ?_
  try simp (disch := omega) only [go_sem, hE, hH]
  intro b hb
  cases b <;> try simp (disch := omega) only [go_sem, hE, hH]
  all_goals first | omega | (simp_all; done) | (simp_all; exact ⟨by omega, fun a _ => rfl⟩)
theorem Clone_Voter_ok (l : List Voter) (hl : l.length ≤ 2 ^ 20) : ACall Tryz.prog n_slices_Clone___impl_Voter_impl_Voter_ [.sl false 5 (l.map (Voter.row false))] (fun r _ => r = .sl true 5 (l.map (Voter.row false))) := by
  refine fn_in h_slices_Clone___impl_Voter_impl_Voter_ r_slices_Clone___impl_Voter_impl_Voter_ ⟨by simp only [go_sem], fun E hE hH => ?_⟩; simp only [go_sem] at hE hH; simp only [go_sem, hE, hH, c_slices_Clone___impl_Voter_impl_Voter_]
  refine ok_isn ?_
  try simp (disch := omega) only [go_sem, hE, hH]
  intro b hb
  cases b <;> try simp (disch := omega) only [go_sem, hE, hH]
  all_goals first | omega | (simp_all; done) | (simp_all; exact ⟨by omega, fun a _ => rfl⟩)
theorem Clone_Won_ok (l : List Won) (hl : l.length ≤ 2 ^ 20) : ACall Tryz.prog n_slices_Clone___impl_Won_impl_Won_ [.sl false 2 (l.map (Won.row false))] (fun r _ => r = .sl true 2 (l.map (Won.row false))) := by
  refine fn_in h_slices_Clone___impl_Won_impl_Won_ r_slices_Clone___impl_Won_impl_Won_ ⟨by simp only [go_sem], fun E hE hH => ?_⟩; simp only [go_sem] at hE hH; simp only [go_sem, hE, hH, c_slices_Clone___impl_Won_impl_Won_]
  refine ok_isn ?_
  try simp (disch := omega) only [go_sem, hE, hH]
  intro b hb
  cases b <;> try simp (disch := omega) only [go_sem, hE, hH]
  all_goals first | omega | (simp_all; done) | (simp_all; exact ⟨by omega, fun a _ => rfl⟩)
theorem Clone_Int_ok (l : List Int) (hl : l.length ≤ 2 ^ 20) : ACall Tryz.prog n_slices_Clone___int_int_ [.sl false 1 (ints l)] (fun r _ => r = .sl true 1 (ints l)) := by
  refine fn_in h_slices_Clone___int_int_ r_slices_Clone___int_int_ ⟨by simp only [go_sem], fun E hE hH => ?_⟩; simp only [go_sem] at hE hH; simp only [go_sem, hE, hH, c_slices_Clone___int_int_]
  refine ok_isn ?_
  try simp (disch := omega) only [go_sem, hE, hH]
  intro b hb
  cases b <;> try simp (disch := omega) only [go_sem, hE, hH]
  all_goals first | omega | (simp_all; done) | (simp_all; exact ⟨by omega, fun a _ => rfl⟩)
theorem Delete_Letter_ok (l : List Letter) (i j : Int) (hi : 0 ≤ i) (hij : i ≤ j) (hj : j ≤ l.length) (hl : l.length ≤ maxLen) : ACall Tryz.prog n_slices_Delete___impl_Letter_impl_Letter_ [.sl true 4 (l.map (Letter.row true)), i64 i, i64 j] (fun r a => r = .sl true 4 ((l.take i.toNat ++ l.drop j.toNat).map (Letter.row true)) ∧ a = [.any, i64 i, i64 j]) := by
  have hmx := mx_eq
  have hij' : i.toNat ≤ j.toNat := by omega
  have hj' : j.toNat ≤ l.length := by omega
  have e1 := del_len1 (f := Letter.row true) hij' hj'
  have e2 := fun z => del_len2 (f := Letter.row true) (z := z) hij' hj'
  have e3 := fun Z => del_rows (f := Letter.row true) (Z := Z) hij' hj'
  refine fn_inD [true, false, false] h_slices_Delete___impl_Letter_impl_Letter_ r_slices_Delete___impl_Letter_impl_Letter_ ⟨by simp only [go_sem], fun E hE hH => ?_⟩; simp only [go_sem] at hE hH; simp only [go_sem, hE, hH, c_slices_Delete___impl_Letter_impl_Letter_]
  repeat' (first | ((with_reducible first | refine gd_t ?_ ?_ | refine gd_f ?_ ?_) <;> (intro h; have hb := h; (try simp only [nf] at h); simp (disch := omega) only [go_sem, hE, hH, e1, e2, e3, Option.isSome_some, hb]; (try clear hb))) | ((with_reducible refine And.intro ?_ ?_); · omega) | (refine jn _ ?_ ?_) | (with_reducible refine both ?_ ?_) | (with_reducible refine And.intro ?_ ?_) | (refine fin_eq ?_; (try (simp (disch := omega) only [go_sem, hE, hH, e1, e2, e3, Option.isSome_some])); first | done | rfl) | (simp (disch := omega) only [go_sem, hE, hH, e1, e2, e3, Option.isSome_some]) | ((first | apply noMLL_sE | apply pk_sE) <;> (simp only [go_sem, hE, hH, e1, e2, e3, Option.isSome_some]; done)) | (simp only [go_sem, hE, hH, e1, e2, e3, Option.isSome_some]) | fail)
  · subst h
    rw [List.take_append_drop]
  · rw [List.length_take, List.length_drop]; omega
theorem IndexFunc_Letter_ok (l : List Letter) (f : Nat) (caps : List T) (p : Letter → Bool) (hent : entB Tryz.prog f = true) (hcap : caps.all T.cap = true) (hl : l.length ≤ maxLen) (hp : ∀ x, x ∈ l → ACall Tryz.prog f ([.agg (Letter.row false x)] ++ caps) (fun r _ => r = bl (p x))) :
    ACall Tryz.prog n_slices_IndexFunc___impl_Letter_impl_Letter_ [.sl false 4 (l.map (Letter.row false)), .fn f caps] (fun r _ => r = i64 (ixf p l)) := by
  have hmx := mx_eq
  refine fn_in h_slices_IndexFunc___impl_Letter_impl_Letter_ r_slices_IndexFunc___impl_Letter_impl_Letter_ ⟨by simp only [go_sem, caps_bare hcap, caps_pk hcap, caps_noM hcap, caps_lt hcap, caps_ids hcap], fun E hE hH => ?_⟩; simp only [go_sem, caps_bare hcap, caps_pk hcap, caps_noM hcap, caps_lt hcap, caps_ids hcap] at hE hH; simp only [go_sem, hE, hH, caps_bare hcap, caps_pk hcap, caps_noM hcap, caps_lt hcap, caps_ids hcap, c_slices_IndexFunc___impl_Letter_impl_Letter_]
  refine loopN l.length (fun j (_ : Unit) => ⟨[(0, .sl false 4 (l.map (Letter.row false))), (1, .fn f caps), (7, i64 l.length), (8, i64 j)], []⟩) (fun j _ => allN (fun i => !p (nth l i)) j = true) () rfl ?_
  intro j _ hj hI
  try simp only [go_sem, hE, hH, caps_bare hcap, caps_pk hcap, caps_noM hcap, caps_lt hcap, caps_ids hcap, c_slices_IndexFunc___impl_Letter_impl_Letter__l1]
  first | refine gd_t (fun h => ?_) (fun h => ?_) | refine gd_f (fun h => ?_) (fun h => ?_)
  · have hb := h
    simp only [nf] at h
    have hlt := h; clear h
    try simp (disch := omega) only [go_sem, hE, hH, caps_bare hcap, caps_pk hcap, caps_noM hcap, caps_lt hcap, caps_ids hcap, hb]
    refine And.intro (by omega) ?_
    refine ok_cfv rfl rfl rfl (hent) (hcap) (hp _ (nth_mem hlt)) ?_
    try simp (disch := omega) only [go_sem, hE, hH, caps_bare hcap, caps_pk hcap, caps_noM hcap, caps_lt hcap, caps_ids hcap]
    repeat' (first | ((with_reducible first | refine gd_t ?_ ?_ | refine gd_f ?_ ?_) <;> (intro h; have hb := h; (try simp only [nf] at h); simp (disch := omega) only [go_sem, hE, hH, caps_bare hcap, caps_pk hcap, caps_noM hcap, caps_lt hcap, caps_ids hcap, hb]; (try clear hb))) | ((with_reducible refine And.intro ?_ ?_); · omega) | (refine jn _ ?_ ?_) | (with_reducible refine both ?_ ?_) | (with_reducible refine And.intro ?_ ?_) | (refine fin_eq ?_; (try (simp (disch := omega) only [go_sem, hE, hH, caps_bare hcap, caps_pk hcap, caps_noM hcap, caps_lt hcap, caps_ids hcap])); first | done | rfl) | (simp (disch := omega) only [go_sem, hE, hH, caps_bare hcap, caps_pk hcap, caps_noM hcap, caps_lt hcap, caps_ids hcap]) | ((first | apply noMLL_sE | apply pk_sE) <;> (simp only [go_sem, hE, hH, caps_bare hcap, caps_pk hcap, caps_noM hcap, caps_lt hcap, caps_ids hcap]; done)) | (simp only [go_sem, hE, hH, caps_bare hcap, caps_pk hcap, caps_noM hcap, caps_lt hcap, caps_ids hcap]) | fail)
    · rw [ixf_at hlt hI h]
    · exact ⟨(), rfl, allN_step hI (by simp [h])⟩
  · try simp (disch := omega) only [go_sem, hE, hH, caps_bare hcap, caps_pk hcap, caps_noM hcap, caps_lt hcap, caps_ids hcap, h]
    simp only [nf] at h
    rw [show j = l.length by omega] at hI
    rw [ixf_none hI]
theorem IndexFunc_Won_ok (l : List Won) (f : Nat) (caps : List T) (p : Won → Bool) (hent : entB Tryz.prog f = true) (hcap : caps.all T.cap = true) (hl : l.length ≤ maxLen) (hp : ∀ x, x ∈ l → ACall Tryz.prog f ([.agg (Won.row false x)] ++ caps) (fun r _ => r = bl (p x))) :
    ACall Tryz.prog n_slices_IndexFunc___impl_Won_impl_Won_ [.sl false 2 (l.map (Won.row false)), .fn f caps] (fun r _ => r = i64 (ixf p l)) := by
  have hmx := mx_eq
  refine fn_in h_slices_IndexFunc___impl_Won_impl_Won_ r_slices_IndexFunc___impl_Won_impl_Won_ ⟨by simp only [go_sem, caps_bare hcap, caps_pk hcap, caps_noM hcap, caps_lt hcap, caps_ids hcap], fun E hE hH => ?_⟩; simp only [go_sem, caps_bare hcap, caps_pk hcap, caps_noM hcap, caps_lt hcap, caps_ids hcap] at hE hH; simp only [go_sem, hE, hH, caps_bare hcap, caps_pk hcap, caps_noM hcap, caps_lt hcap, caps_ids hcap, c_slices_IndexFunc___impl_Won_impl_Won_]
  refine loopN l.length (fun j (_ : Unit) => ⟨[(0, .sl false 2 (l.map (Won.row false))), (1, .fn f caps), (7, i64 l.length), (8, i64 j)], []⟩) (fun j _ => allN (fun i => !p (nth l i)) j = true) () rfl ?_
  intro j _ hj hI
  try simp only [go_sem, hE, hH, caps_bare hcap, caps_pk hcap, caps_noM hcap, caps_lt hcap, caps_ids hcap, c_slices_IndexFunc___impl_Won_impl_Won__l1]
  first | refine gd_t (fun h => ?_) (fun h => ?_) | refine gd_f (fun h => ?_) (fun h => ?_)
  · have hb := h
    simp only [nf] at h
    have hlt := h; clear h
    try simp (disch := omega) only [go_sem, hE, hH, caps_bare hcap, caps_pk hcap, caps_noM hcap, caps_lt hcap, caps_ids hcap, hb]
    refine And.intro (by omega) ?_
    refine ok_cfv rfl rfl rfl (hent) (hcap) (hp _ (nth_mem hlt)) ?_
    try simp (disch := omega) only [go_sem, hE, hH, caps_bare hcap, caps_pk hcap, caps_noM hcap, caps_lt hcap, caps_ids hcap]
    repeat' (first | ((with_reducible first | refine gd_t ?_ ?_ | refine gd_f ?_ ?_) <;> (intro h; have hb := h; (try simp only [nf] at h); simp (disch := omega) only [go_sem, hE, hH, caps_bare hcap, caps_pk hcap, caps_noM hcap, caps_lt hcap, caps_ids hcap, hb]; (try clear hb))) | ((with_reducible refine And.intro ?_ ?_); · omega) | (refine jn _ ?_ ?_) | (with_reducible refine both ?_ ?_) | (with_reducible refine And.intro ?_ ?_) | (refine fin_eq ?_; (try (simp (disch := omega) only [go_sem, hE, hH, caps_bare hcap, caps_pk hcap, caps_noM hcap, caps_lt hcap, caps_ids hcap])); first | done | rfl) | (simp (disch := omega) only [go_sem, hE, hH, caps_bare hcap, caps_pk hcap, caps_noM hcap, caps_lt hcap, caps_ids hcap]) | ((first | apply noMLL_sE | apply pk_sE) <;> (simp only [go_sem, hE, hH, caps_bare hcap, caps_pk hcap, caps_noM hcap, caps_lt hcap, caps_ids hcap]; done)) | (simp only [go_sem, hE, hH, caps_bare hcap, caps_pk hcap, caps_noM hcap, caps_lt hcap, caps_ids hcap]) | fail)
    · rw [ixf_at hlt hI h]
    · exact ⟨(), rfl, allN_step hI (by simp [h])⟩
  · try simp (disch := omega) only [go_sem, hE, hH, caps_bare hcap, caps_pk hcap, caps_noM hcap, caps_lt hcap, caps_ids hcap, h]
    simp only [nf] at h
    rw [show j = l.length by omega] at hI
    rw [ixf_none hI]
theorem IndexFunc_Int_ok (l : List Int) (f : Nat) (caps : List T) (p : Int → Bool) (hent : entB Tryz.prog f = true) (hcap : caps.all T.cap = true) (hl : l.length ≤ maxLen) (hp : ∀ x, x ∈ l → ACall Tryz.prog f ([i64 x] ++ caps) (fun r _ => r = bl (p x))) :
    ACall Tryz.prog n_slices_IndexFunc___int_int_ [.sl false 1 (ints l), .fn f caps] (fun r _ => r = i64 (ixf p l)) := by
  have hmx := mx_eq
  refine fn_in h_slices_IndexFunc___int_int_ r_slices_IndexFunc___int_int_ ⟨by simp only [go_sem, caps_bare hcap, caps_pk hcap, caps_noM hcap, caps_lt hcap, caps_ids hcap], fun E hE hH => ?_⟩; simp only [go_sem, caps_bare hcap, caps_pk hcap, caps_noM hcap, caps_lt hcap, caps_ids hcap] at hE hH; simp only [go_sem, hE, hH, caps_bare hcap, caps_pk hcap, caps_noM hcap, caps_lt hcap, caps_ids hcap, c_slices_IndexFunc___int_int_]
  refine loopN l.length (fun j (_ : Unit) => ⟨[(0, .sl false 1 (ints l)), (1, .fn f caps), (7, i64 l.length), (8, i64 j)], []⟩) (fun j _ => allN (fun i => !p (nth l i)) j = true) () rfl ?_
  intro j _ hj hI
  try simp only [go_sem, hE, hH, caps_bare hcap, caps_pk hcap, caps_noM hcap, caps_lt hcap, caps_ids hcap, c_slices_IndexFunc___int_int__l1]
  first | refine gd_t (fun h => ?_) (fun h => ?_) | refine gd_f (fun h => ?_) (fun h => ?_)
  · have hb := h
    simp only [nf] at h
    have hlt := h; clear h
    try simp (disch := omega) only [go_sem, hE, hH, caps_bare hcap, caps_pk hcap, caps_noM hcap, caps_lt hcap, caps_ids hcap, hb]
    refine And.intro (by omega) ?_
    refine ok_cfv rfl rfl rfl (hent) (hcap) (hp _ (nth_mem hlt)) ?_
    try simp (disch := omega) only [go_sem, hE, hH, caps_bare hcap, caps_pk hcap, caps_noM hcap, caps_lt hcap, caps_ids hcap]
    repeat' (first | ((with_reducible first | refine gd_t ?_ ?_ | refine gd_f ?_ ?_) <;> (intro h; have hb := h; (try simp only [nf] at h); simp (disch := omega) only [go_sem, hE, hH, caps_bare hcap, caps_pk hcap, caps_noM hcap, caps_lt hcap, caps_ids hcap, hb]; (try clear hb))) | ((with_reducible refine And.intro ?_ ?_); · omega) | (refine jn _ ?_ ?_) | (with_reducible refine both ?_ ?_) | (with_reducible refine And.intro ?_ ?_) | (refine fin_eq ?_; (try (simp (disch := omega) only [go_sem, hE, hH, caps_bare hcap, caps_pk hcap, caps_noM hcap, caps_lt hcap, caps_ids hcap])); first | done | rfl) | (simp (disch := omega) only [go_sem, hE, hH, caps_bare hcap, caps_pk hcap, caps_noM hcap, caps_lt hcap, caps_ids hcap]) | ((first | apply noMLL_sE | apply pk_sE) <;> (simp only [go_sem, hE, hH, caps_bare hcap, caps_pk hcap, caps_noM hcap, caps_lt hcap, caps_ids hcap]; done)) | (simp only [go_sem, hE, hH, caps_bare hcap, caps_pk hcap, caps_noM hcap, caps_lt hcap, caps_ids hcap]) | fail)
    · rw [ixf_at hlt hI h]
    · exact ⟨(), rfl, allN_step hI (by simp [h])⟩
  · try simp (disch := omega) only [go_sem, hE, hH, caps_bare hcap, caps_pk hcap, caps_noM hcap, caps_lt hcap, caps_ids hcap, h]
    simp only [nf] at h
    rw [show j = l.length by omega] at hI
    rw [ixf_none hI]
theorem Insert_Letter_ok (l v : List Letter) (i : Int) (hi : 0 ≤ i) (hin : i ≤ l.length) (hl : l.length ≤ 2 ^ 20) (hv : v.length ≤ 2 ^ 20) : ACall Tryz.prog n_slices_Insert___impl_Letter_impl_Letter_ [.sl true 4 (l.map (Letter.row true)), i64 i, .sl false 4 (v.map (Letter.row false))] (fun r a => r = .sl true 4 ((l.take i.toNat ++ v ++ l.drop i.toNat).map (Letter.row true)) ∧ a = [.any, i64 i, .sl false 4 (v.map (Letter.row false))]) := by
  have hmx := mx_eq
  refine fn_inC [true, false, false] 0 4 (l.map (Letter.row true)) h_slices_Insert___impl_Letter_impl_Letter_ r_slices_Insert___impl_Letter_impl_Letter_ (by simp only [go_sem, List.mem_cons, true_or, or_true]) (by simp only [go_sem]) ⟨by simp only [go_sem], fun E hE hH c hc hF => ?_⟩; simp only [go_sem] at hE hH hc hF; simp only [go_sem, hE, hH, c_slices_Insert___impl_Letter_impl_Letter_]
  have e0 : l.length + (c - l.length) = c := by omega
  have hn : i.toNat ≤ l.length := by omega
  have t1 : ((l.length : Int) + v.length - i).toNat = l.length + v.length - i.toNat := by omega
  have t2 : (i + (v.length : Int)).toNat = i.toNat + v.length := by omega
  have t3 : ((l.length : Int) + v.length).toNat = l.length + v.length := by omega
  have t4 : i.toNat + (l.length + v.length - i.toNat) = l.length + v.length := by omega
  have t5 : l.length + v.length - (i.toNat + v.length) = l.length - i.toNat := by omega
  have t6 : min (l.length - i.toNat) (l.length + v.length - i.toNat) = l.length - i.toNat := by omega
  have t7 : i.toNat + (l.length - i.toNat) = l.length := by omega
  have a1 := ins_take (f := Letter.row true) (l := l) (G := List.replicate (c - l.length) (anyRow 4)) (Nat.le_refl l.length)
  have a2 := ins_take (f := Letter.row true) (l := l) (G := List.replicate (c - l.length) (anyRow 4)) hn
  have a3 := ins_mid (f := Letter.row true) (l := l) (G := List.replicate (c - l.length) (anyRow 4)) hn
  have a4 : v.take (l.length + v.length - i.toNat) = v := List.take_of_length_le (by omega)
  have b1 := fun z => ins_len1 (f := Letter.row true) (g := fun x => (Letter.row true) x) (v := v) (z := z) hn
  have b2 := fun z => ins_len2 (f := Letter.row true) (g := fun x => (Letter.row true) x) (v := v) (z := z) hn
  have b3 := fun z => ins_rows1 (f := Letter.row true) (v := v) (z := z) hn
  have b4 := ins_app (f := Letter.row true) (v := v) (l := l)
  have d1 := fun z hc => fit_len1 (f := Letter.row true) (m := v.length) (c := c) (z := z) hn hc
  have d2 := fun z hc => fit_len2 (f := Letter.row true) (g := fun x => (Letter.row true) x) (v := v) (c := c) (z := z) hn hc
  have d3 := fun z hc => fit_rows (f := Letter.row true) (v := v) (c := c) (z := z) hn hc
  have t8 : min (l.length + v.length - i.toNat) v.length = v.length := by omega
  have t9 : i.toNat + v.length + (l.length - i.toNat) = l.length + v.length := by omega
  simp only [go_sem] at a1 a2 a3 b1 b2 b3 b4 d1 d2 d3
  repeat' (first | ((with_reducible first | refine gd_t ?_ ?_ | refine gd_f ?_ ?_) <;> (intro h; have hb := h; (try simp only [nf] at h); simp (disch := omega) only [go_sem, hE, hH, e0, hF, t1, t2, t3, t4, t5, t6, t7, t8, t9, d1, d2, d3, a1, a2, a3, a4, b1, b2, b3, b4, List.take_length, List.length_drop, Nat.add_sub_cancel_left, List.length_take, Nat.min_eq_left hn, Nat.min_self, hb]; (try clear hb))) | ((with_reducible refine And.intro ?_ ?_); · omega) | (refine jn _ ?_ ?_) | (with_reducible refine both ?_ ?_) | (with_reducible refine And.intro ?_ ?_) | (refine fin_eq ?_; (try (simp (disch := omega) only [go_sem, hE, hH, e0, hF, t1, t2, t3, t4, t5, t6, t7, t8, t9, d1, d2, d3, a1, a2, a3, a4, b1, b2, b3, b4, List.take_length, List.length_drop, Nat.add_sub_cancel_left, List.length_take, Nat.min_eq_left hn, Nat.min_self])); first | done | rfl) | (simp (disch := omega) only [go_sem, hE, hH, e0, hF, t1, t2, t3, t4, t5, t6, t7, t8, t9, d1, d2, d3, a1, a2, a3, a4, b1, b2, b3, b4, List.take_length, List.length_drop, Nat.add_sub_cancel_left, List.length_take, Nat.min_eq_left hn, Nat.min_self]) | ((first | apply noMLL_sE | apply pk_sE) <;> (simp only [go_sem, hE, hH, e0, hF, t1, t2, t3, t4, t5, t6, t7, t8, t9, d1, d2, d3, a1, a2, a3, a4, b1, b2, b3, b4, List.take_length, List.length_drop, Nat.add_sub_cancel_left, List.length_take, Nat.min_eq_left hn, Nat.min_self]; done)) | (simp only [go_sem, hE, hH, e0, hF, t1, t2, t3, t4, t5, t6, t7, t8, t9, d1, d2, d3, a1, a2, a3, a4, b1, b2, b3, b4, List.take_length, List.length_drop, Nat.add_sub_cancel_left, List.length_take, Nat.min_eq_left hn, Nat.min_self]) | fail)
  all_goals try (refine ok_ovl rfl rfl rfl u_slices_overlaps_impl_Letter_ wd_slices_overlaps_impl_Letter_ x_slices_overlaps_impl_Letter_ (by decide) (by simp only [List.length_map]; omega) (by simp only [go_sem]; omega) ?_)
  repeat' (first | ((with_reducible first | refine gd_t ?_ ?_ | refine gd_f ?_ ?_) <;> (intro h; have hb := h; (try simp only [nf] at h); simp (disch := omega) only [go_sem, hE, hH, e0, hF, t1, t2, t3, t4, t5, t6, t7, t8, t9, d1, d2, d3, a1, a2, a3, a4, b1, b2, b3, b4, List.take_length, List.length_drop, Nat.add_sub_cancel_left, List.length_take, Nat.min_eq_left hn, Nat.min_self, hb]; (try clear hb))) | ((with_reducible refine And.intro ?_ ?_); · omega) | (refine jn _ ?_ ?_) | (with_reducible refine both ?_ ?_) | (with_reducible refine And.intro ?_ ?_) | (refine fin_eq ?_; (try (simp (disch := omega) only [go_sem, hE, hH, e0, hF, t1, t2, t3, t4, t5, t6, t7, t8, t9, d1, d2, d3, a1, a2, a3, a4, b1, b2, b3, b4, List.take_length, List.length_drop, Nat.add_sub_cancel_left, List.length_take, Nat.min_eq_left hn, Nat.min_self])); first | done | rfl) | (simp (disch := omega) only [go_sem, hE, hH, e0, hF, t1, t2, t3, t4, t5, t6, t7, t8, t9, d1, d2, d3, a1, a2, a3, a4, b1, b2, b3, b4, List.take_length, List.length_drop, Nat.add_sub_cancel_left, List.length_take, Nat.min_eq_left hn, Nat.min_self]) | ((first | apply noMLL_sE | apply pk_sE) <;> (simp only [go_sem, hE, hH, e0, hF, t1, t2, t3, t4, t5, t6, t7, t8, t9, d1, d2, d3, a1, a2, a3, a4, b1, b2, b3, b4, List.take_length, List.length_drop, Nat.add_sub_cancel_left, List.length_take, Nat.min_eq_left hn, Nat.min_self]; done)) | (simp only [go_sem, hE, hH, e0, hF, t1, t2, t3, t4, t5, t6, t7, t8, t9, d1, d2, d3, a1, a2, a3, a4, b1, b2, b3, b4, List.take_length, List.length_drop, Nat.add_sub_cancel_left, List.length_take, Nat.min_eq_left hn, Nat.min_self]) | fail)
  · have e : v = [] := List.length_eq_zero_iff.1 (by omega)
    subst e
    rw [List.append_nil, List.take_append_drop]
  · have e : i.toNat = l.length := by omega
    rw [e, List.take_length, List.drop_length, List.append_nil, List.map_append]
    try rfl
  all_goals omega
theorem Insert_Int_ok (l v : List Int) (i : Int) (hi : 0 ≤ i) (hin : i ≤ l.length) (hl : l.length ≤ 2 ^ 20) (hv : v.length ≤ 2 ^ 20) : ACall Tryz.prog n_slices_Insert___int_int_ [.sl true 1 (l.map (fun x : Int => [i64 x])), i64 i, .sl false 1 (v.map (fun x : Int => [i64 x]))] (fun r a => r = .sl true 1 ((l.take i.toNat ++ v ++ l.drop i.toNat).map (fun x : Int => [i64 x])) ∧ a = [.any, i64 i, .sl false 1 (v.map (fun x : Int => [i64 x]))]) := by
  have hmx := mx_eq
  refine fn_inC [true, false, false] 0 1 (l.map (fun x : Int => [i64 x])) h_slices_Insert___int_int_ r_slices_Insert___int_int_ (by simp only [go_sem, List.mem_cons, true_or, or_true]) (by simp only [go_sem]) ⟨by simp only [go_sem], fun E hE hH c hc hF => ?_⟩; simp only [go_sem] at hE hH hc hF; simp only [go_sem, hE, hH, c_slices_Insert___int_int_]
  have e0 : l.length + (c - l.length) = c := by omega
  have hn : i.toNat ≤ l.length := by omega
  have t1 : ((l.length : Int) + v.length - i).toNat = l.length + v.length - i.toNat := by omega
  have t2 : (i + (v.length : Int)).toNat = i.toNat + v.length := by omega
  have t3 : ((l.length : Int) + v.length).toNat = l.length + v.length := by omega
  have t4 : i.toNat + (l.length + v.length - i.toNat) = l.length + v.length := by omega
  have t5 : l.length + v.length - (i.toNat + v.length) = l.length - i.toNat := by omega
  have t6 : min (l.length - i.toNat) (l.length + v.length - i.toNat) = l.length - i.toNat := by omega
  have t7 : i.toNat + (l.length - i.toNat) = l.length := by omega
  have a1 := ins_take (f := fun x : Int => [i64 x]) (l := l) (G := List.replicate (c - l.length) (anyRow 1)) (Nat.le_refl l.length)
  have a2 := ins_take (f := fun x : Int => [i64 x]) (l := l) (G := List.replicate (c - l.length) (anyRow 1)) hn
  have a3 := ins_mid (f := fun x : Int => [i64 x]) (l := l) (G := List.replicate (c - l.length) (anyRow 1)) hn
  have a4 : v.take (l.length + v.length - i.toNat) = v := List.take_of_length_le (by omega)
  have b1 := fun z => ins_len1 (f := fun x : Int => [i64 x]) (g := fun x => (fun x : Int => [i64 x]) x) (v := v) (z := z) hn
  have b2 := fun z => ins_len2 (f := fun x : Int => [i64 x]) (g := fun x => (fun x : Int => [i64 x]) x) (v := v) (z := z) hn
  have b3 := fun z => ins_rows1 (f := fun x : Int => [i64 x]) (v := v) (z := z) hn
  have b4 := ins_app (f := fun x : Int => [i64 x]) (v := v) (l := l)
  have d1 := fun z hc => fit_len1 (f := fun x : Int => [i64 x]) (m := v.length) (c := c) (z := z) hn hc
  have d2 := fun z hc => fit_len2 (f := fun x : Int => [i64 x]) (g := fun x => (fun x : Int => [i64 x]) x) (v := v) (c := c) (z := z) hn hc
  have d3 := fun z hc => fit_rows (f := fun x : Int => [i64 x]) (v := v) (c := c) (z := z) hn hc
  have t8 : min (l.length + v.length - i.toNat) v.length = v.length := by omega
  have t9 : i.toNat + v.length + (l.length - i.toNat) = l.length + v.length := by omega
  simp only [go_sem] at a1 a2 a3 b1 b2 b3 b4 d1 d2 d3
  repeat' (first | ((with_reducible first | refine gd_t ?_ ?_ | refine gd_f ?_ ?_) <;> (intro h; have hb := h; (try simp only [nf] at h); simp (disch := omega) only [go_sem, hE, hH, e0, hF, t1, t2, t3, t4, t5, t6, t7, t8, t9, d1, d2, d3, a1, a2, a3, a4, b1, b2, b3, b4, List.take_length, List.length_drop, Nat.add_sub_cancel_left, List.length_take, Nat.min_eq_left hn, Nat.min_self, hb]; (try clear hb))) | ((with_reducible refine And.intro ?_ ?_); · omega) | (refine jn _ ?_ ?_) | (with_reducible refine both ?_ ?_) | (with_reducible refine And.intro ?_ ?_) | (refine fin_eq ?_; (try (simp (disch := omega) only [go_sem, hE, hH, e0, hF, t1, t2, t3, t4, t5, t6, t7, t8, t9, d1, d2, d3, a1, a2, a3, a4, b1, b2, b3, b4, List.take_length, List.length_drop, Nat.add_sub_cancel_left, List.length_take, Nat.min_eq_left hn, Nat.min_self])); first | done | rfl) | (simp (disch := omega) only [go_sem, hE, hH, e0, hF, t1, t2, t3, t4, t5, t6, t7, t8, t9, d1, d2, d3, a1, a2, a3, a4, b1, b2, b3, b4, List.take_length, List.length_drop, Nat.add_sub_cancel_left, List.length_take, Nat.min_eq_left hn, Nat.min_self]) | ((first | apply noMLL_sE | apply pk_sE) <;> (simp only [go_sem, hE, hH, e0, hF, t1, t2, t3, t4, t5, t6, t7, t8, t9, d1, d2, d3, a1, a2, a3, a4, b1, b2, b3, b4, List.take_length, List.length_drop, Nat.add_sub_cancel_left, List.length_take, Nat.min_eq_left hn, Nat.min_self]; done)) | (simp only [go_sem, hE, hH, e0, hF, t1, t2, t3, t4, t5, t6, t7, t8, t9, d1, d2, d3, a1, a2, a3, a4, b1, b2, b3, b4, List.take_length, List.length_drop, Nat.add_sub_cancel_left, List.length_take, Nat.min_eq_left hn, Nat.min_self]) | fail)
  all_goals try (refine ok_ovl rfl rfl rfl u_slices_overlaps_int_ wd_slices_overlaps_int_ x_slices_overlaps_int_ (by decide) (by simp only [List.length_map]; omega) (by simp only [go_sem]; omega) ?_)
  repeat' (first | ((with_reducible first | refine gd_t ?_ ?_ | refine gd_f ?_ ?_) <;> (intro h; have hb := h; (try simp only [nf] at h); simp (disch := omega) only [go_sem, hE, hH, e0, hF, t1, t2, t3, t4, t5, t6, t7, t8, t9, d1, d2, d3, a1, a2, a3, a4, b1, b2, b3, b4, List.take_length, List.length_drop, Nat.add_sub_cancel_left, List.length_take, Nat.min_eq_left hn, Nat.min_self, hb]; (try clear hb))) | ((with_reducible refine And.intro ?_ ?_); · omega) | (refine jn _ ?_ ?_) | (with_reducible refine both ?_ ?_) | (with_reducible refine And.intro ?_ ?_) | (refine fin_eq ?_; (try (simp (disch := omega) only [go_sem, hE, hH, e0, hF, t1, t2, t3, t4, t5, t6, t7, t8, t9, d1, d2, d3, a1, a2, a3, a4, b1, b2, b3, b4, List.take_length, List.length_drop, Nat.add_sub_cancel_left, List.length_take, Nat.min_eq_left hn, Nat.min_self])); first | done | rfl) | (simp (disch := omega) only [go_sem, hE, hH, e0, hF, t1, t2, t3, t4, t5, t6, t7, t8, t9, d1, d2, d3, a1, a2, a3, a4, b1, b2, b3, b4, List.take_length, List.length_drop, Nat.add_sub_cancel_left, List.length_take, Nat.min_eq_left hn, Nat.min_self]) | ((first | apply noMLL_sE | apply pk_sE) <;> (simp only [go_sem, hE, hH, e0, hF, t1, t2, t3, t4, t5, t6, t7, t8, t9, d1, d2, d3, a1, a2, a3, a4, b1, b2, b3, b4, List.take_length, List.length_drop, Nat.add_sub_cancel_left, List.length_take, Nat.min_eq_left hn, Nat.min_self]; done)) | (simp only [go_sem, hE, hH, e0, hF, t1, t2, t3, t4, t5, t6, t7, t8, t9, d1, d2, d3, a1, a2, a3, a4, b1, b2, b3, b4, List.take_length, List.length_drop, Nat.add_sub_cancel_left, List.length_take, Nat.min_eq_left hn, Nat.min_self]) | fail)
  · have e : v = [] := List.length_eq_zero_iff.1 (by omega)
    subst e
    rw [List.append_nil, List.take_append_drop]
  · have e : i.toNat = l.length := by omega
    rw [e, List.take_length, List.drop_length, List.append_nil, List.map_append]
    try rfl
  all_goals omega
theorem ContainsFunc_Won_ok (l : List Won) (f : Nat) (caps : List T) (p : Won → Bool) (hent : entB Tryz.prog f = true) (hcap : caps.all T.cap = true) (hl : l.length ≤ maxLen) (hp : ∀ x, x ∈ l → ACall Tryz.prog f ([.agg (Won.row false x)] ++ caps) (fun r _ => r = bl (p x))) :
    ACall Tryz.prog n_slices_ContainsFunc___impl_Won_impl_Won_ [.sl false 2 (l.map (Won.row false)), .fn f caps] (fun r _ => r = bl (l.any p)) := by
  refine fn_in h_slices_ContainsFunc___impl_Won_impl_Won_ r_slices_ContainsFunc___impl_Won_impl_Won_ ⟨by simp only [go_sem, caps_bare hcap, caps_pk hcap, caps_noM hcap, caps_lt hcap, caps_ids hcap], fun E hE hH => ?_⟩; simp only [go_sem, caps_bare hcap, caps_pk hcap, caps_noM hcap, caps_lt hcap, caps_ids hcap] at hE hH; simp only [go_sem, hE, hH, caps_bare hcap, caps_pk hcap, caps_noM hcap, caps_lt hcap, caps_ids hcap, c_slices_ContainsFunc___impl_Won_impl_Won_]
  refine ok_cv rfl (by simp only [zipF, argL, vwT, vwLeaf, vwRow_caps hcap, Bool.false_eq_true, if_false]; rfl) (IndexFunc_Won_ok l f caps p hent hcap hl hp) ?_
  try simp (disch := omega) only [go_sem, hE, hH, caps_bare hcap, caps_pk hcap, caps_noM hcap, caps_lt hcap, caps_ids hcap, ixf_any, vwC_ok hcap]
theorem ContainsFunc_Int_ok (l : List Int) (f : Nat) (caps : List T) (p : Int → Bool) (hent : entB Tryz.prog f = true) (hcap : caps.all T.cap = true) (hl : l.length ≤ maxLen) (hp : ∀ x, x ∈ l → ACall Tryz.prog f ([i64 x] ++ caps) (fun r _ => r = bl (p x))) :
    ACall Tryz.prog n_slices_ContainsFunc___int_int_ [.sl false 1 (ints l), .fn f caps] (fun r _ => r = bl (l.any p)) := by
  refine fn_in h_slices_ContainsFunc___int_int_ r_slices_ContainsFunc___int_int_ ⟨by simp only [go_sem, caps_bare hcap, caps_pk hcap, caps_noM hcap, caps_lt hcap, caps_ids hcap], fun E hE hH => ?_⟩; simp only [go_sem, caps_bare hcap, caps_pk hcap, caps_noM hcap, caps_lt hcap, caps_ids hcap] at hE hH; simp only [go_sem, hE, hH, caps_bare hcap, caps_pk hcap, caps_noM hcap, caps_lt hcap, caps_ids hcap, c_slices_ContainsFunc___int_int_]
  refine ok_cv rfl (by simp only [zipF, argL, vwT, vwLeaf, vwRow_caps hcap, Bool.false_eq_true, if_false]; rfl) (IndexFunc_Int_ok l f caps p hent hcap hl hp) ?_
  try simp (disch := omega) only [go_sem, hE, hH, caps_bare hcap, caps_pk hcap, caps_noM hcap, caps_lt hcap, caps_ids hcap, ixf_any, vwC_ok hcap]
def bys (code : List Int) : List (List T) := code.map fun b => [.v (.int .u8 b)]
@[go_sem] theorem bys_eq (code : List Int) : bys code = code.map fun b => [.v (.int .u8 b)] := rfl
def rng (n lo hi : Int) : Bool := decide (lo ≤ n) && decide (n ≤ hi)
theorem rng_iff {n lo hi : Int} : rng n lo hi = true ↔ lo ≤ n ∧ n ≤ hi := by simp [rng]
theorem rng_no {n lo hi : Int} : rng n lo hi = false ↔ ¬ (lo ≤ n ∧ n ≤ hi) := by rw [← rng_iff]; simp
theorem within_ok (n lo hi : Int) : ACall Tryz.prog n_impl_within [i64 n, i64 lo, i64 hi] (fun r _ => r = bl (rng n lo hi)) := by
  refine fn_in h_impl_within r_impl_within ⟨by simp only [go_sem], fun E hE hH => ?_⟩; simp only [go_sem] at hE hH; simp only [go_sem, hE, hH, c_impl_within]
  repeat' (first | ((with_reducible first | refine gd_t ?_ ?_ | refine gd_f ?_ ?_) <;> (intro h; have hb := h; (try simp only [nf] at h); simp (disch := omega) only [go_sem, hE, hH, hb]; (try clear hb))) | ((with_reducible refine And.intro ?_ ?_); · omega) | (refine jn _ ?_ ?_) | (with_reducible refine both ?_ ?_) | (with_reducible refine And.intro ?_ ?_) | (refine fin_eq ?_; (try (simp (disch := omega) only [go_sem, hE, hH])); first | done | rfl) | (simp (disch := omega) only [go_sem, hE, hH]) | ((first | apply noMLL_sE | apply pk_sE) <;> (simp only [go_sem, hE, hH]; done)) | (simp only [go_sem, hE, hH]) | fail)
  all_goals (simp_all [rng]; try omega)
theorem l1In_ok (n lo hi : Int) : ACall Tryz.prog n_spec_l1In [i64 n, i64 lo, i64 hi] (fun r _ => r = bl (rng n lo hi)) := by
  refine fn_in h_spec_l1In r_spec_l1In ⟨by simp only [go_sem], fun E hE hH => ?_⟩; simp only [go_sem] at hE hH; simp only [go_sem, hE, hH, c_spec_l1In]
  repeat' (first | ((with_reducible first | refine gd_t ?_ ?_ | refine gd_f ?_ ?_) <;> (intro h; have hb := h; (try simp only [nf] at h); simp (disch := omega) only [go_sem, hE, hH, hb]; (try clear hb))) | ((with_reducible refine And.intro ?_ ?_); · omega) | (refine jn _ ?_ ?_) | (with_reducible refine both ?_ ?_) | (with_reducible refine And.intro ?_ ?_) | (refine fin_eq ?_; (try (simp (disch := omega) only [go_sem, hE, hH])); first | done | rfl) | (simp (disch := omega) only [go_sem, hE, hH]) | ((first | apply noMLL_sE | apply pk_sE) <;> (simp only [go_sem, hE, hH]; done)) | (simp only [go_sem, hE, hH]) | fail)
  all_goals (simp_all [rng]; try omega)
def allR (l : List Int) (lo hi : Int) : Bool := allN (fun i => rng (nth l i) lo hi) l.length
theorem l1All_ok (l : List Int) (lo hi : Int) (hl : l.length ≤ maxLen) : ACall Tryz.prog n_spec_l1All [.sl false 1 (ints l), i64 lo, i64 hi] (fun r _ => r = bl (allR l lo hi)) := by
  have hmx := mx_eq
  refine fn_in h_spec_l1All r_spec_l1All ⟨by simp only [go_sem], fun E hE hH => ?_⟩; simp only [go_sem] at hE hH; simp only [go_sem, hE, hH, c_spec_l1All]
  refine loopN l.length (fun j (_ : Unit) => ⟨[(1, i64 lo), (2, i64 hi), (9, .sl false 1 (ints l)), (10, i64 l.length), (11, i64 j)], []⟩) (fun j _ => allN (fun i => rng (nth l i) lo hi) j = true) () rfl ?_
  intro j _ hj hI
  try simp only [go_sem, hE, hH, c_spec_l1All_l1]
  first | refine gd_t (fun h => ?_) (fun h => ?_) | refine gd_f (fun h => ?_) (fun h => ?_)
  · have hb := h
    simp only [nf] at h
    have hlt := h; clear h
    try simp (disch := omega) only [go_sem, hE, hH, hb]
    repeat' (first | ((with_reducible first | refine gd_t ?_ ?_ | refine gd_f ?_ ?_) <;> (intro h; have hb := h; (try simp only [nf] at h); simp (disch := omega) only [go_sem, hE, hH, hb]; (try clear hb))) | ((with_reducible refine And.intro ?_ ?_); · omega) | ((first | refine ok_view ?_ | refine cvA (l1In_ok _ _ _) ?_); simp (disch := omega) only [go_sem, hE, hH]) | (refine jn _ ?_ ?_) | (with_reducible refine both ?_ ?_) | (with_reducible refine And.intro ?_ ?_) | (refine fin_eq ?_; (try (simp (disch := omega) only [go_sem, hE, hH])); first | done | rfl) | (simp (disch := omega) only [go_sem, hE, hH]) | ((first | apply noMLL_sE | apply pk_sE) <;> (simp only [go_sem, hE, hH]; done)) | (simp only [go_sem, hE, hH]) | fail)
    · rw [allR, allN_no hlt h]
    · exact ⟨(), rfl, allN_step hI h⟩
  · try simp (disch := omega) only [go_sem, hE, hH, h]
    simp only [nf] at h
    rw [show j = l.length by omega] at hI
    rw [allR, hI]
theorem allR_any (l : List Int) (lo hi : Int) : (!l.any fun n => !rng n lo hi) = allR l lo hi := by
  rw [allR, allN_all (p := fun n => rng n lo hi)]
  simp [List.any_eq_not_all_not]
theorem l1Own_ok (l : List Int) (hl : l.length ≤ 2 ^ 20) : ACall Tryz.prog n_spec_l1Own [.sl false 1 (ints l)] (fun r _ => r = .sl true 1 (ints l)) := by
  refine fn_in h_spec_l1Own r_spec_l1Own ⟨by simp only [go_sem], fun E hE hH => ?_⟩; simp only [go_sem] at hE hH; simp only [go_sem, hE, hH, c_spec_l1Own]
  try simp (disch := omega) only [go_sem, hE, hH]
  omega
theorem isTrue_ok (n : Int) : ACall Tryz.prog n_impl_isTrue [i64 n] (fun r _ => r = bl (rng n 0 100000)) := by
  refine fn_in h_impl_isTrue r_impl_isTrue ⟨by simp only [go_sem], fun E hE hH => ?_⟩; simp only [go_sem] at hE hH; simp only [go_sem, hE, hH, c_impl_isTrue]
  repeat' (first | ((with_reducible first | refine gd_t ?_ ?_ | refine gd_f ?_ ?_) <;> (intro h; have hb := h; (try simp only [nf] at h); simp (disch := omega) only [go_sem, hE, hH, hb]; (try clear hb))) | ((with_reducible refine And.intro ?_ ?_); · omega) | ((first | refine ok_view ?_ | refine cvA (within_ok _ _ _) ?_); simp (disch := omega) only [go_sem, hE, hH]) | (refine jn _ ?_ ?_) | (with_reducible refine both ?_ ?_) | (with_reducible refine And.intro ?_ ?_) | (refine fin_eq ?_; (try (simp (disch := omega) only [go_sem, hE, hH])); first | done | rfl) | (simp (disch := omega) only [go_sem, hE, hH]) | ((first | apply noMLL_sE | apply pk_sE) <;> (simp only [go_sem, hE, hH]; done)) | (simp only [go_sem, hE, hH]) | fail)
theorem areHomes_1_ok (n : Int) : ACall Tryz.prog n_impl_areHomes_1 [i64 n] (fun r _ => r = bl (!rng n 0 2)) := by
  refine fn_in h_impl_areHomes_1 r_impl_areHomes_1 ⟨by simp only [go_sem], fun E hE hH => ?_⟩; simp only [go_sem] at hE hH; simp only [go_sem, hE, hH, c_impl_areHomes_1]
  repeat' (first | ((with_reducible first | refine gd_t ?_ ?_ | refine gd_f ?_ ?_) <;> (intro h; have hb := h; (try simp only [nf] at h); simp (disch := omega) only [go_sem, hE, hH, hb]; (try clear hb))) | ((with_reducible refine And.intro ?_ ?_); · omega) | ((first | refine ok_view ?_ | refine cvA (within_ok _ _ _) ?_); simp (disch := omega) only [go_sem, hE, hH]) | (refine jn _ ?_ ?_) | (with_reducible refine both ?_ ?_) | (with_reducible refine And.intro ?_ ?_) | (refine fin_eq ?_; (try (simp (disch := omega) only [go_sem, hE, hH])); first | done | rfl) | (simp (disch := omega) only [go_sem, hE, hH]) | ((first | apply noMLL_sE | apply pk_sE) <;> (simp only [go_sem, hE, hH]; done)) | (simp only [go_sem, hE, hH]) | fail)
def goodHomes (l : List Int) (far : Int) : Bool := rng (l.length : Int) 1 5 && allR l 0 2 && rng far 0 20
theorem areHomes_ok (l : List Int) (far : Int) (hl : l.length ≤ maxLen) : ACall Tryz.prog n_impl_areHomes [.sl false 1 (ints l), i64 far] (fun r _ => r = bl (goodHomes l far)) := by
  have hmx := mx_eq
  have e := (allR_any l 0 2).symm
  refine fn_in h_impl_areHomes r_impl_areHomes ⟨by simp only [go_sem], fun E hE hH => ?_⟩; simp only [go_sem] at hE hH; simp only [go_sem, hE, hH, c_impl_areHomes]
  repeat' (first | ((with_reducible first | refine gd_t ?_ ?_ | refine gd_f ?_ ?_) <;> (intro h; have hb := h; (try simp only [nf] at h); simp (disch := omega) only [go_sem, hE, hH, hb]; (try clear hb))) | ((with_reducible refine And.intro ?_ ?_); · omega) | ((first | refine ok_view ?_ | refine cvA (within_ok _ _ _) ?_ | refine cvA (ContainsFunc_Int_ok _ _ [] (fun n => !rng n 0 2) (by kernel_rfl) rfl hl (fun n _ => areHomes_1_ok n)) ?_); simp (disch := omega) only [go_sem, hE, hH]) | (refine jn _ ?_ ?_) | (with_reducible refine both ?_ ?_) | (with_reducible refine And.intro ?_ ?_) | (refine fin_eq ?_; (try (simp (disch := omega) only [go_sem, hE, hH])); first | done | rfl) | (simp (disch := omega) only [go_sem, hE, hH]) | ((first | apply noMLL_sE | apply pk_sE) <;> (simp only [go_sem, hE, hH]; done)) | (simp only [go_sem, hE, hH]) | fail)
  all_goals simp_all [goodHomes]
theorem isNode_ok (n : Net) (v : Int) (hm : n.Homes.length ≤ maxLen) : ACall Tryz.prog n_impl_Net_isNode [.agg (Net.row false n), i64 v] (fun r _ => r = bl (rng v 0 ((n.Homes.length : Int) - 1))) := by
  have hmx := mx_eq
  refine fn_in h_impl_Net_isNode r_impl_Net_isNode ⟨by simp only [go_sem], fun E hE hH => ?_⟩; simp only [go_sem] at hE hH; simp only [go_sem, hE, hH, c_impl_Net_isNode]
  repeat' (first | ((with_reducible first | refine gd_t ?_ ?_ | refine gd_f ?_ ?_) <;> (intro h; have hb := h; (try simp only [nf] at h); simp (disch := omega) only [go_sem, hE, hH, hb]; (try clear hb))) | ((with_reducible refine And.intro ?_ ?_); · omega) | ((first | refine ok_view ?_ | refine cvA (within_ok _ _ _) ?_); simp (disch := omega) only [go_sem, hE, hH]) | (refine jn _ ?_ ?_) | (with_reducible refine both ?_ ?_) | (with_reducible refine And.intro ?_ ?_) | (refine fin_eq ?_; (try (simp (disch := omega) only [go_sem, hE, hH])); first | done | rfl) | (simp (disch := omega) only [go_sem, hE, hH]) | ((first | apply noMLL_sE | apply pk_sE) <;> (simp only [go_sem, hE, hH]; done)) | (simp only [go_sem, hE, hH]) | fail)
theorem l7Node_ok (n : Net) (v : Int) (hm : n.Homes.length ≤ maxLen) : ACall Tryz.prog n_spec_l7Node [.agg (Net.row false n), i64 v] (fun r _ => r = bl (rng v 0 ((n.Homes.length : Int) - 1))) := by
  have hmx := mx_eq
  refine fn_in h_spec_l7Node r_spec_l7Node ⟨by simp only [go_sem], fun E hE hH => ?_⟩; simp only [go_sem] at hE hH; simp only [go_sem, hE, hH, c_spec_l7Node]
  repeat' (first | ((with_reducible first | refine gd_t ?_ ?_ | refine gd_f ?_ ?_) <;> (intro h; have hb := h; (try simp only [nf] at h); simp (disch := omega) only [go_sem, hE, hH, hb]; (try clear hb))) | ((with_reducible refine And.intro ?_ ?_); · omega) | ((first | refine ok_view ?_ | refine cvA (l1In_ok _ _ _) ?_); simp (disch := omega) only [go_sem, hE, hH]) | (refine jn _ ?_ ?_) | (with_reducible refine both ?_ ?_) | (with_reducible refine And.intro ?_ ?_) | (refine fin_eq ?_; (try (simp (disch := omega) only [go_sem, hE, hH])); first | done | rfl) | (simp (disch := omega) only [go_sem, hE, hH]) | ((first | apply noMLL_sE | apply pk_sE) <;> (simp only [go_sem, hE, hH]; done)) | (simp only [go_sem, hE, hH]) | fail)
def letOk (m : Nat) (l : Letter) : Bool := rng l.From 0 ((m : Int) - 1) && rng l.To 0 ((m : Int) - 1) && !decide (l.From = l.To) && rng l.Due 0 100200 && rng (l.Body.size : Int) 1 40
def dueOk (l : List Letter) (i : Nat) : Bool := decide (i = 0) || !decide ((nth l i).Due < (nth l (i - 1)).Due)
def lastD (l : List Letter) (j : Nat) : Int := if j = 0 then 0 else (nth l (j - 1)).Due
theorem due_eq {l : List Letter} {j : Nat} (h : 0 ≤ lastD l j) : rng (nth l j).Due (lastD l j) 100200 = (rng (nth l j).Due 0 100200 && dueOk l j) := by
  unfold lastD at h ⊢
  rw [Bool.eq_iff_iff]
  by_cases hj : j = 0
  · simp [hj, dueOk]
  · simp only [if_neg hj] at h ⊢
    simp only [Bool.and_eq_true, rng_iff, dueOk, hj, Bool.or_eq_true, Bool.not_eq_true', decide_eq_false_iff_not, decide_eq_true_eq, false_or]
    omega
def goodNet (n : Net) : Bool := rng n.Now 0 100000 && goodHomes n.Homes n.Far && decide ((n.Under.length : Int) ≤ 60) && allN (fun i => letOk n.Homes.length (nth n.Under i) && dueOk n.Under i) n.Under.length
theorem goodNet_no {n : Net} {j : Nat} (hlt : j < n.Under.length) (h : (letOk n.Homes.length (nth n.Under j) && dueOk n.Under j) = false) : goodNet n = false := by
  rw [goodNet, allN_no hlt h]; simp
theorem isLetter_ok (n : Net) (l : Letter) (hm : n.Homes.length ≤ maxLen) : ACall Tryz.prog n_impl_Net_isLetter [.agg (Net.row false n), .agg (Letter.row false l)] (fun r _ => r = bl (letOk n.Homes.length l)) := by
  have hmx := mx_eq
  refine fn_in h_impl_Net_isLetter r_impl_Net_isLetter ⟨by simp only [go_sem], fun E hE hH => ?_⟩; simp only [go_sem] at hE hH; simp only [go_sem, hE, hH, c_impl_Net_isLetter]
  repeat' (first | ((with_reducible first | refine gd_t ?_ ?_ | refine gd_f ?_ ?_) <;> (intro h; have hb := h; (try simp only [nf] at h); simp (disch := omega) only [go_sem, hE, hH, hb]; (try clear hb))) | ((with_reducible refine And.intro ?_ ?_); · omega) | ((first | refine ok_view ?_ | refine cvA (isNode_ok n _ hm) ?_ | refine cvA (within_ok _ _ _) ?_); simp (disch := omega) only [go_sem, hE, hH]) | (refine jn _ ?_ ?_) | (with_reducible refine both ?_ ?_) | (with_reducible refine And.intro ?_ ?_) | (refine fin_eq ?_; (try (simp (disch := omega) only [go_sem, hE, hH])); first | done | rfl) | (simp (disch := omega) only [go_sem, hE, hH]) | ((first | apply noMLL_sE | apply pk_sE) <;> (simp only [go_sem, hE, hH]; done)) | (simp only [go_sem, hE, hH]) | fail)
  all_goals (first | (simp_all [letOk]; done) | (simp_all [letOk] <;> first | omega | (intros; omega)))
theorem GoodNet_ok (n : Net) (hm : n.Homes.length ≤ maxLen) : ACall Tryz.prog n_impl_GoodNet [.agg (Net.row false n)] (fun r _ => r = bl (goodNet n)) := by
  have hmx := mx_eq
  refine fn_in h_impl_GoodNet r_impl_GoodNet ⟨by simp only [go_sem], fun E hE hH => ?_⟩; simp only [go_sem] at hE hH; simp only [go_sem, hE, hH, c_impl_GoodNet]
  repeat' (first | ((with_reducible first | refine gd_t ?_ ?_ | refine gd_f ?_ ?_) <;> (intro h; have hb := h; (try simp only [nf] at h); simp (disch := omega) only [go_sem, hE, hH, hb]; (try clear hb))) | ((with_reducible refine And.intro ?_ ?_); · omega) | ((first | refine ok_view ?_ | refine cvA (isTrue_ok _) ?_ | refine cvA (areHomes_ok _ _ hm) ?_); simp (disch := omega) only [go_sem, hE, hH]) | (refine jn _ ?_ ?_) | (with_reducible refine both ?_ ?_) | (with_reducible refine And.intro ?_ ?_) | (refine fin_eq ?_; (try (simp (disch := omega) only [go_sem, hE, hH])); first | done | rfl) | (simp (disch := omega) only [go_sem, hE, hH]) | ((first | apply noMLL_sE | apply pk_sE) <;> (simp only [go_sem, hE, hH]; done)) | (simp only [go_sem, hE, hH]) | fail)
  · simp [goodNet, h]
  · simp [goodNet, h]
  · simp_all [goodNet]; intros; omega
  rename_i ha hb
  refine loopN n.Under.length (fun j (_ : Unit) => ⟨[(1, .ptr 2000000 0 0), (24, .sl false 4 (n.Under.map (Letter.row false))), (25, i64 n.Under.length), (26, i64 j)], [(2000000, ⟨4, [Net.row false n]⟩)]⟩) (fun j _ => allN (fun i => letOk n.Homes.length (nth n.Under i) && dueOk n.Under i) j = true) () rfl ?_
  intro j _ hj hI
  try simp only [go_sem, hE, hH, c_impl_GoodNet_l1]
  first | refine gd_t (fun h1 => ?_) (fun h1 => ?_) | refine gd_f (fun h1 => ?_) (fun h1 => ?_)
  · have hb1 := h1
    simp only [nf] at h1
    have hlt := h1; clear h1
    try simp (disch := omega) only [go_sem, hE, hH, hb1]
    repeat' (first | ((with_reducible first | refine gd_t ?_ ?_ | refine gd_f ?_ ?_) <;> (intro h; have hb := h; (try simp only [nf] at h); simp (disch := omega) only [go_sem, hE, hH, hb]; (try clear hb))) | ((with_reducible refine And.intro ?_ ?_); · omega) | ((first | refine ok_view ?_ | refine cvA (isLetter_ok n (nth n.Under j) hm) ?_); simp (disch := omega) only [go_sem, hE, hH]) | (refine jn _ ?_ ?_) | (with_reducible refine both ?_ ?_) | (with_reducible refine And.intro ?_ ?_) | (refine fin_eq ?_; (try (simp (disch := omega) only [go_sem, hE, hH])); first | done | rfl) | (simp (disch := omega) only [go_sem, hE, hH]) | ((first | apply noMLL_sE | apply pk_sE) <;> (simp only [go_sem, hE, hH]; done)) | (simp only [go_sem, hE, hH]) | fail)
    · rw [goodNet_no hlt (by simp [h])]
    · rw [goodNet_no hlt (by simp_all [dueOk]; try omega)]
    · first | exact ⟨(), rfl, allN_step hI (by simp_all [dueOk])⟩ | exact ⟨by omega, (), rfl, allN_step hI (by simp_all [dueOk])⟩ | exact ⟨by omega, by omega, (), rfl, allN_step hI (by simp_all [dueOk])⟩
    · first | exact ⟨(), rfl, allN_step hI (by simp_all [dueOk]; try omega)⟩ | exact ⟨by omega, (), rfl, allN_step hI (by simp_all [dueOk]; try omega)⟩ | exact ⟨by omega, by omega, (), rfl, allN_step hI (by simp_all [dueOk]; try omega)⟩
  · try simp (disch := omega) only [go_sem, hE, hH, h1]
    simp only [nf] at h1
    rw [show j = n.Under.length by omega] at hI
    simp_all [goodNet]
theorem l7Good_ok (n : Net) (hm : n.Homes.length ≤ maxLen) : ACall Tryz.prog n_spec_l7Good [.agg (Net.row false n)] (fun r _ => r = bl (goodNet n)) := by
  have hmx := mx_eq
  refine fn_in h_spec_l7Good r_spec_l7Good ⟨by simp only [go_sem], fun E hE hH => ?_⟩; simp only [go_sem] at hE hH; simp only [go_sem, hE, hH, c_spec_l7Good]
  repeat' (first | ((with_reducible first | refine gd_t ?_ ?_ | refine gd_f ?_ ?_) <;> (intro h; have hb := h; (try simp only [nf] at h); simp (disch := omega) only [go_sem, hE, hH, hb]; (try clear hb))) | ((with_reducible refine And.intro ?_ ?_); · omega) | ((first | refine ok_view ?_ | refine cvA (l1In_ok _ _ _) ?_ | refine cvA (l1All_ok _ _ _ hm) ?_); simp (disch := omega) only [go_sem, hE, hH]) | (refine jn _ ?_ ?_) | (with_reducible refine both ?_ ?_) | (with_reducible refine And.intro ?_ ?_) | (refine fin_eq ?_; (try (simp (disch := omega) only [go_sem, hE, hH])); first | done | rfl) | (simp (disch := omega) only [go_sem, hE, hH]) | ((first | apply noMLL_sE | apply pk_sE) <;> (simp only [go_sem, hE, hH]; done)) | (simp only [go_sem, hE, hH]) | fail)
  · simp [goodNet, h]
  · simp [goodNet, goodHomes, h]
  · simp [goodNet, goodHomes, h]
  · simp [goodNet, goodHomes, h]
  · simp_all [goodNet]; intros; omega
  rename_i ha hb hc hd
  have hg : goodHomes n.Homes n.Far = true := by simp [goodHomes, hb, hc, hd]
  refine loopN n.Under.length (fun j (x : Int) => ⟨[(1, .ptr 2000000 0 0), (3, i64 x), (4, i64 j)], [(2000000, ⟨4, [Net.row false n]⟩)]⟩) (fun j x => allN (fun i => letOk n.Homes.length (nth n.Under i) && dueOk n.Under i) j = true ∧ x = lastD n.Under j ∧ 0 ≤ x) 0 ⟨rfl, rfl, by omega⟩ ?_
  rintro j x hj ⟨hI, rfl, h0⟩
  have he := due_eq h0
  try simp only [go_sem, hE, hH, c_spec_l7Good_l1]
  first | refine gd_t (fun h1 => ?_) (fun h1 => ?_) | refine gd_f (fun h1 => ?_) (fun h1 => ?_)
  · have hb1 := h1
    simp only [nf] at h1
    have hlt := h1; clear h1
    try simp (disch := omega) only [go_sem, hE, hH, hb1]
    repeat' (first | ((with_reducible first | refine gd_t ?_ ?_ | refine gd_f ?_ ?_) <;> (intro h; have hb := h; (try simp only [nf] at h); simp (disch := omega) only [go_sem, hE, hH, hb]; (try clear hb))) | ((with_reducible refine And.intro ?_ ?_); · omega) | ((first | refine ok_view ?_ | refine cvA (l7Node_ok n _ hm) ?_ | refine cvA (l1In_ok _ _ _) ?_); simp (disch := omega) only [go_sem, hE, hH]) | (refine jn _ ?_ ?_) | (with_reducible refine both ?_ ?_) | (with_reducible refine And.intro ?_ ?_) | (refine fin_eq ?_; (try (simp (disch := omega) only [go_sem, hE, hH])); first | done | rfl) | (simp (disch := omega) only [go_sem, hE, hH]) | ((first | apply noMLL_sE | apply pk_sE) <;> (simp only [go_sem, hE, hH]; done)) | (simp only [go_sem, hE, hH]) | fail)
    · rw [goodNet_no hlt (by simp [letOk, h])]
    · rw [goodNet_no hlt (by simp [letOk, h])]
    · rw [goodNet_no hlt (by simp [letOk, h])]
    · rw [goodNet_no hlt (by rw [he] at h; simp_all [letOk])]
    · rw [goodNet_no hlt (by simp [letOk, h])]
    · rename_i hD
      have hD' := rng_iff.1 hD
      rw [he] at hD
      exact ⟨(nth n.Under j).Due, rfl, allN_step hI (by simp_all [letOk]), by simp [lastD], by omega⟩
  · try simp (disch := omega) only [go_sem, hE, hH, h1]
    simp only [nf] at h1
    rw [show j = n.Under.length by omega] at hI
    simp_all [goodNet]
def risR (l : List Int) (lo hi : Int) : Bool := allN (fun i => rng (nth l i) lo hi && (decide (i = 0) || decide (nth l (i - 1) < nth l i))) l.length
theorem areInts_ok (l : List Int) (n : Int) (hl : l.length ≤ maxLen) (h1 : 0 ≤ n) (h2 : n ≤ 2 ^ 62) : ACall Tryz.prog n_impl_areInts [.sl false 1 (ints l), i64 n] (fun r _ => r = bl (risR l 0 (n - 1))) := by
  have hmx := mx_eq
  refine fn_in h_impl_areInts r_impl_areInts ⟨by simp only [go_sem], fun E hE hH => ?_⟩; simp only [go_sem] at hE hH; simp only [go_sem, hE, hH, c_impl_areInts]
  refine loopN l.length (fun j (_ : Unit) => ⟨[(0, .sl false 1 (ints l)), (1, i64 n), (7, .sl false 1 (ints l)), (8, i64 l.length), (9, i64 j)], []⟩) (fun j _ => allN (fun i => rng (nth l i) 0 (n - 1) && (decide (i = 0) || decide (nth l (i - 1) < nth l i))) j = true) () rfl ?_
  intro j _ hj hI
  try simp only [go_sem, hE, hH, c_impl_areInts_l1]
  first | refine gd_t (fun h => ?_) (fun h => ?_) | refine gd_f (fun h => ?_) (fun h => ?_)
  · have hb := h
    simp only [nf] at h
    have hlt := h; clear h
    try simp (disch := omega) only [go_sem, hE, hH, hb]
    repeat' (first | ((with_reducible first | refine gd_t ?_ ?_ | refine gd_f ?_ ?_) <;> (intro h; have hb := h; (try simp only [nf] at h); simp (disch := omega) only [go_sem, hE, hH, hb]; (try clear hb))) | ((with_reducible refine And.intro ?_ ?_); · omega) | ((first | refine ok_view ?_ | refine cvA (within_ok _ _ _) ?_); simp (disch := omega) only [go_sem, hE, hH]) | (refine jn _ ?_ ?_) | (with_reducible refine both ?_ ?_) | (with_reducible refine And.intro ?_ ?_) | (refine fin_eq ?_; (try (simp (disch := omega) only [go_sem, hE, hH])); first | done | rfl) | (simp (disch := omega) only [go_sem, hE, hH]) | ((first | apply noMLL_sE | apply pk_sE) <;> (simp only [go_sem, hE, hH]; done)) | (simp only [go_sem, hE, hH]) | fail)
    · rw [risR, allN_no hlt (by simp [h])]
    · rw [risR, allN_no hlt (by simp_all <;> omega)]
    · first | exact ⟨(), rfl, allN_step hI (by simp_all <;> omega)⟩ | exact ⟨by omega, (), rfl, allN_step hI (by simp_all <;> omega)⟩ | exact ⟨by omega, by omega, (), rfl, allN_step hI (by simp_all <;> omega)⟩
    · first | exact ⟨(), rfl, allN_step hI (by simp_all <;> omega)⟩ | exact ⟨by omega, (), rfl, allN_step hI (by simp_all <;> omega)⟩ | exact ⟨by omega, by omega, (), rfl, allN_step hI (by simp_all <;> omega)⟩
  · try simp (disch := omega) only [go_sem, hE, hH, h]
    simp only [nf] at h
    rw [show j = l.length by omega] at hI
    rw [risR, hI]
theorem l1Rising_ok (l : List Int) (lo hi : Int) (hl : l.length ≤ maxLen) : ACall Tryz.prog n_spec_l1Rising [.sl false 1 (ints l), i64 lo, i64 hi] (fun r _ => r = bl (risR l lo hi)) := by
  have hmx := mx_eq
  refine fn_in h_spec_l1Rising r_spec_l1Rising ⟨by simp only [go_sem], fun E hE hH => ?_⟩; simp only [go_sem] at hE hH; simp only [go_sem, hE, hH, c_spec_l1Rising]
  refine loopN l.length (fun j (_ : Unit) => ⟨[(0, .sl false 1 (ints l)), (1, i64 lo), (2, i64 hi), (9, .sl false 1 (ints l)), (10, i64 l.length), (11, i64 j)], []⟩) (fun j _ => allN (fun i => rng (nth l i) lo hi && (decide (i = 0) || decide (nth l (i - 1) < nth l i))) j = true) () rfl ?_
  intro j _ hj hI
  try simp only [go_sem, hE, hH, c_spec_l1Rising_l1]
  first | refine gd_t (fun h => ?_) (fun h => ?_) | refine gd_f (fun h => ?_) (fun h => ?_)
  · have hb := h
    simp only [nf] at h
    have hlt := h; clear h
    try simp (disch := omega) only [go_sem, hE, hH, hb]
    repeat' (first | ((with_reducible first | refine gd_t ?_ ?_ | refine gd_f ?_ ?_) <;> (intro h; have hb := h; (try simp only [nf] at h); simp (disch := omega) only [go_sem, hE, hH, hb]; (try clear hb))) | ((with_reducible refine And.intro ?_ ?_); · omega) | ((first | refine ok_view ?_ | refine cvA (l1In_ok _ _ _) ?_); simp (disch := omega) only [go_sem, hE, hH]) | (refine jn _ ?_ ?_) | (with_reducible refine both ?_ ?_) | (with_reducible refine And.intro ?_ ?_) | (refine fin_eq ?_; (try (simp (disch := omega) only [go_sem, hE, hH])); first | done | rfl) | (simp (disch := omega) only [go_sem, hE, hH]) | ((first | apply noMLL_sE | apply pk_sE) <;> (simp only [go_sem, hE, hH]; done)) | (simp only [go_sem, hE, hH]) | fail)
    · rw [risR, allN_no hlt (by simp [h])]
    · rw [risR, allN_no hlt (by simp_all <;> omega)]
    · first | exact ⟨(), rfl, allN_step hI (by simp_all <;> omega)⟩ | exact ⟨by omega, (), rfl, allN_step hI (by simp_all <;> omega)⟩ | exact ⟨by omega, by omega, (), rfl, allN_step hI (by simp_all <;> omega)⟩
    · first | exact ⟨(), rfl, allN_step hI (by simp_all <;> omega)⟩ | exact ⟨by omega, (), rfl, allN_step hI (by simp_all <;> omega)⟩ | exact ⟨by omega, by omega, (), rfl, allN_step hI (by simp_all <;> omega)⟩
  · try simp (disch := omega) only [go_sem, hE, hH, h]
    simp only [nf] at h
    rw [show j = l.length by omega] at hI
    rw [risR, hI]
def ownV (x : Voter) (v : Int) : Bool := x.Up && decide (x.For = v)
def voterOk (x : Voter) (v n : Int) : Bool := rng x.Term 0 200 && rng x.For (-1) (n - 1) && risR x.Yes 0 (n - 1) && (ownV x v || decide ((x.Yes.length : Int) = 0)) && (!x.Leads || ownV x v && decide (n < 2 * x.Yes.length))
theorem isVoter_ok (x : Voter) (v n : Int) (hy : x.Yes.length ≤ 2 ^ 60) (h1 : 0 ≤ n) (h2 : n ≤ 2 ^ 62) : ACall Tryz.prog n_impl_isVoter [.agg (Voter.row false x), i64 v, i64 n] (fun r _ => r = bl (voterOk x v n)) := by
  have hmx := mx_eq
  refine fn_in h_impl_isVoter r_impl_isVoter ⟨by simp only [go_sem], fun E hE hH => ?_⟩; simp only [go_sem] at hE hH; simp only [go_sem, hE, hH, c_impl_isVoter]
  repeat' (first | ((with_reducible first | refine gd_t ?_ ?_ | refine gd_f ?_ ?_) <;> (intro h; have hb := h; (try simp only [nf] at h); simp (disch := omega) only [go_sem, hE, hH, hb]; (try clear hb))) | ((with_reducible refine And.intro ?_ ?_); · omega) | ((first | refine ok_view ?_ | refine cvA (within_ok _ _ _) ?_ | refine cvA (areInts_ok _ _ (by omega) h1 h2) ?_); simp (disch := omega) only [go_sem, hE, hH]) | (refine jn _ ?_ ?_) | (with_reducible refine both ?_ ?_) | (with_reducible refine And.intro ?_ ?_) | (refine fin_eq ?_; (try (simp (disch := omega) only [go_sem, hE, hH])); first | done | rfl) | (simp (disch := omega) only [go_sem, hE, hH]) | ((first | apply noMLL_sE | apply pk_sE) <;> (simp only [go_sem, hE, hH]; done)) | (simp only [go_sem, hE, hH]) | fail)
  all_goals (first | (simp_all [voterOk, ownV]; done) | (simp_all [voterOk, ownV] <;> first | omega | (intros; omega)))
theorem l8Voter_ok (x : Voter) (v n : Int) (hy : x.Yes.length ≤ 2 ^ 60) (h1 : 0 ≤ n) (h2 : n ≤ 2 ^ 62) : ACall Tryz.prog n_spec_l8Voter [.agg (Voter.row false x), i64 v, i64 n] (fun r _ => r = bl (voterOk x v n)) := by
  have hmx := mx_eq
  refine fn_in h_spec_l8Voter r_spec_l8Voter ⟨by simp only [go_sem], fun E hE hH => ?_⟩; simp only [go_sem] at hE hH; simp only [go_sem, hE, hH, c_spec_l8Voter]
  repeat' (first | ((with_reducible first | refine gd_t ?_ ?_ | refine gd_f ?_ ?_) <;> (intro h; have hb := h; (try simp only [nf] at h); simp (disch := omega) only [go_sem, hE, hH, hb]; (try clear hb))) | ((with_reducible refine And.intro ?_ ?_); · omega) | ((first | refine ok_view ?_ | refine cvA (l1In_ok _ _ _) ?_ | refine cvA (l1Rising_ok _ _ _ (by omega)) ?_); simp (disch := omega) only [go_sem, hE, hH]) | (refine jn _ ?_ ?_) | (with_reducible refine both ?_ ?_) | (with_reducible refine And.intro ?_ ?_) | (refine fin_eq ?_; (try (simp (disch := omega) only [go_sem, hE, hH])); first | done | rfl) | (simp (disch := omega) only [go_sem, hE, hH]) | ((first | apply noMLL_sE | apply pk_sE) <;> (simp only [go_sem, hE, hH]; done)) | (simp only [go_sem, hE, hH]) | fail)
  all_goals try (simp_all [voterOk, ownV]; done)
  all_goals (simp_all [voterOk, ownV]; intro q; simp_all)
theorem isMany_ok (n : Int) : ACall Tryz.prog n_impl_isMany [i64 n] (fun r _ => r = bl (decide (n = 3) || decide (n = 5))) := by
  refine fn_in h_impl_isMany r_impl_isMany ⟨by simp only [go_sem], fun E hE hH => ?_⟩; simp only [go_sem] at hE hH; simp only [go_sem, hE, hH, c_impl_isMany]
  repeat' (first | ((with_reducible first | refine gd_t ?_ ?_ | refine gd_f ?_ ?_) <;> (intro h; have hb := h; (try simp only [nf] at h); simp (disch := omega) only [go_sem, hE, hH, hb]; (try clear hb))) | ((with_reducible refine And.intro ?_ ?_); · omega) | (refine jn _ ?_ ?_) | (with_reducible refine both ?_ ?_) | (with_reducible refine And.intro ?_ ?_) | (refine fin_eq ?_; (try (simp (disch := omega) only [go_sem, hE, hH])); first | done | rfl) | (simp (disch := omega) only [go_sem, hE, hH]) | ((first | apply noMLL_sE | apply pk_sE) <;> (simp only [go_sem, hE, hH]; done)) | (simp only [go_sem, hE, hH]) | fail)
  all_goals (first | (simp_all []; done) | (simp_all [] <;> first | omega | (intros; omega)))
def wonOk (m : Nat) (w : Won) : Bool := rng w.Term 1 200 && rng w.Who 0 ((m : Int) - 1)
def goodPoll (p : Poll) : Bool := goodNet p.Net && (decide ((p.Net.Homes.length : Int) = 3) || decide ((p.Net.Homes.length : Int) = 5)) && decide ((p.Voters.length : Int) = p.Net.Homes.length) && decide ((p.Won.length : Int) ≤ 60) && allN (fun i => voterOk (nth p.Voters i) i p.Net.Homes.length) p.Voters.length && p.Won.all (wonOk p.Net.Homes.length)
theorem won_no {m : Nat} {l : List Won} {k : Nat} (hlt : k < l.length) (h : wonOk m (nth l k) = false) : l.all (wonOk m) = false := by
  rw [← allN_all]; exact allN_no hlt h
def pollOk (p : Poll) : Prop := p.Net.Homes.length ≤ maxLen ∧ p.Voters.length ≤ maxLen ∧ p.Won.length ≤ maxLen ∧ ∀ x ∈ p.Voters, x.Yes.length ≤ 2 ^ 60
theorem pollOk_of {p : Poll} (h : p.sz ≤ 2 ^ 20) : pollOk p := by
  have hmx := mx_eq
  unfold Poll.sz Net.sz at h
  have h1 := szL_len (f := Voter.sz) (l := p.Voters)
  refine ⟨by omega, by omega, by omega, fun x hx => ?_⟩
  have q := szL_mem (f := Voter.sz) hx
  have e : Voter.sz x = x.Yes.length := rfl
  omega
theorem GoodPoll_1_ok (w : Won) (p : Poll) (hp : pollOk p) : ACall Tryz.prog n_impl_GoodPoll_1 ([.agg (Won.row false w)] ++ [.bx false (Poll.row false p)]) (fun r _ => r = bl (!wonOk p.Net.Homes.length w)) := by
  have hmx := mx_eq
  refine fn_in h_impl_GoodPoll_1 r_impl_GoodPoll_1 ⟨by simp only [go_sem], fun E hE hH => ?_⟩; simp only [go_sem] at hE hH; simp only [go_sem, hE, hH, c_impl_GoodPoll_1]
  repeat' (first | ((with_reducible first | refine gd_t ?_ ?_ | refine gd_f ?_ ?_) <;> (intro h; have hb := h; (try simp only [nf] at h); simp (disch := omega) only [go_sem, hE, hH, hb]; (try clear hb))) | ((with_reducible refine And.intro ?_ ?_); · omega) | ((first | refine ok_view ?_ | refine cvA (within_ok _ _ _) ?_ | refine cvA (isNode_ok p.Net _ hp.1) ?_); simp (disch := omega) only [go_sem, hE, hH]) | (refine jn _ ?_ ?_) | (with_reducible refine both ?_ ?_) | (with_reducible refine And.intro ?_ ?_) | (refine fin_eq ?_; (try (simp (disch := omega) only [go_sem, hE, hH])); first | done | rfl) | (simp (disch := omega) only [go_sem, hE, hH]) | ((first | apply noMLL_sE | apply pk_sE) <;> (simp only [go_sem, hE, hH]; done)) | (simp only [go_sem, hE, hH]) | fail)
  all_goals simp_all [wonOk]
theorem GoodPoll_ok (p : Poll) (hp : pollOk p) : ACall Tryz.prog n_impl_GoodPoll [.agg (Poll.row false p)] (fun r _ => r = bl (goodPoll p)) := by
  have hmx := mx_eq
  obtain ⟨p1, p2, p3, p4⟩ := id hp
  refine fn_in h_impl_GoodPoll r_impl_GoodPoll ⟨by simp only [go_sem], fun E hE hH => ?_⟩; simp only [go_sem] at hE hH; simp only [go_sem, hE, hH, c_impl_GoodPoll]
  repeat' (first | ((with_reducible first | refine gd_t ?_ ?_ | refine gd_f ?_ ?_) <;> (intro h; have hb := h; (try simp only [nf] at h); simp (disch := omega) only [go_sem, hE, hH, hb]; (try clear hb))) | ((with_reducible refine And.intro ?_ ?_); · omega) | ((first | refine ok_view ?_ | refine cvA (GoodNet_ok p.Net p1) ?_ | refine cvA (isMany_ok _) ?_); simp (disch := omega) only [go_sem, hE, hH]) | (refine jn _ ?_ ?_) | (with_reducible refine both ?_ ?_) | (with_reducible refine And.intro ?_ ?_) | (refine fin_eq ?_; (try (simp (disch := omega) only [go_sem, hE, hH])); first | done | rfl) | (simp (disch := omega) only [go_sem, hE, hH]) | ((first | apply noMLL_sE | apply pk_sE) <;> (simp only [go_sem, hE, hH]; done)) | (simp only [go_sem, hE, hH]) | fail)
  · simp [goodPoll, h]
  · simp [goodPoll, h]
  · simp [goodPoll, h]
  · rw [show goodPoll p = false from by simp [goodPoll]; intros; omega]
  rename_i g1 g2 g3
  have g4 := h; clear h
  have e : (p.Won.any fun w => !wonOk p.Net.Homes.length w) = !p.Won.all (wonOk p.Net.Homes.length) := by simp [List.all_eq_not_any_not]
  have hd : goodPoll p = (allN (fun i => voterOk (nth p.Voters i) i p.Net.Homes.length) p.Voters.length && p.Won.all (wonOk p.Net.Homes.length)) := by
    rw [goodPoll, g1, g2, decide_eq_true g3, decide_eq_true g4]; rfl
  have hn : p.Net.Homes.length ≤ 5 := by simp at g2; omega
  rw [hd]
  refine loopN p.Voters.length (fun j (_ : Unit) => ⟨[(1, .ptr 2000000 0 0), (3, i64 p.Net.Homes.length), (33, .sl false 5 (p.Voters.map (Voter.row false))), (34, i64 p.Voters.length), (35, i64 j)], [(2000000, ⟨6, [Poll.row false p]⟩)]⟩) (fun j _ => allN (fun i => voterOk (nth p.Voters i) i p.Net.Homes.length) j = true) () rfl ?_
  intro j _ hj hI
  try simp only [go_sem, hE, hH, c_impl_GoodPoll_l1]
  first | refine gd_t (fun h1 => ?_) (fun h1 => ?_) | refine gd_f (fun h1 => ?_) (fun h1 => ?_)
  · have hb1 := h1
    simp only [nf] at h1
    have hlt := h1; clear h1
    try simp (disch := omega) only [go_sem, hE, hH, hb1]
    repeat' (first | ((with_reducible first | refine gd_t ?_ ?_ | refine gd_f ?_ ?_) <;> (intro h; have hb := h; (try simp only [nf] at h); simp (disch := omega) only [go_sem, hE, hH, hb]; (try clear hb))) | ((with_reducible refine And.intro ?_ ?_); · omega) | ((first | refine ok_view ?_ | refine cvA (isVoter_ok (nth p.Voters j) j _ (p4 _ (nth_mem hlt)) (by omega) (by omega)) ?_); simp (disch := omega) only [go_sem, hE, hH]) | (refine jn _ ?_ ?_) | (with_reducible refine both ?_ ?_) | (with_reducible refine And.intro ?_ ?_) | (refine fin_eq ?_; (try (simp (disch := omega) only [go_sem, hE, hH])); first | done | rfl) | (simp (disch := omega) only [go_sem, hE, hH]) | ((first | apply noMLL_sE | apply pk_sE) <;> (simp only [go_sem, hE, hH]; done)) | (simp only [go_sem, hE, hH]) | fail)
    · rw [allN_no hlt h]; rfl
    · first | exact ⟨(), rfl, allN_step hI h⟩ | exact ⟨by omega, (), rfl, allN_step hI h⟩ | exact ⟨by omega, by omega, (), rfl, allN_step hI h⟩
  · try simp (disch := omega) only [go_sem, hE, hH, h1]
    simp only [nf] at h1
    rw [show j = p.Voters.length by omega] at hI
    rw [hI]
    repeat' (first | ((with_reducible first | refine gd_t ?_ ?_ | refine gd_f ?_ ?_) <;> (intro h; have hb := h; (try simp only [nf] at h); simp (disch := omega) only [go_sem, hE, hH, hb]; (try clear hb))) | ((with_reducible refine And.intro ?_ ?_); · omega) | ((first | refine ok_view ?_ | refine cvA (ContainsFunc_Won_ok p.Won _ [.bx false (Poll.row false p)] (fun w => !wonOk p.Net.Homes.length w) (by kernel_rfl) rfl p3 (fun w _ => GoodPoll_1_ok w p hp)) ?_); simp (disch := omega) only [go_sem, hE, hH]) | (refine jn _ ?_ ?_) | (with_reducible refine both ?_ ?_) | (with_reducible refine And.intro ?_ ?_) | (refine fin_eq ?_; (try (simp (disch := omega) only [go_sem, hE, hH])); first | done | rfl) | (simp (disch := omega) only [go_sem, hE, hH]) | ((first | apply noMLL_sE | apply pk_sE) <;> (simp only [go_sem, hE, hH]; done)) | (simp only [go_sem, hE, hH]) | fail)
    rw [e]; simp
theorem l8Good_ok (p : Poll) (hp : pollOk p) : ACall Tryz.prog n_spec_l8Good [.agg (Poll.row false p)] (fun r _ => r = bl (goodPoll p)) := by
  have hmx := mx_eq
  obtain ⟨p1, p2, p3, p4⟩ := id hp
  refine fn_in h_spec_l8Good r_spec_l8Good ⟨by simp only [go_sem], fun E hE hH => ?_⟩; simp only [go_sem] at hE hH; simp only [go_sem, hE, hH, c_spec_l8Good]
  repeat' (first | ((with_reducible first | refine gd_t ?_ ?_ | refine gd_f ?_ ?_) <;> (intro h; have hb := h; (try simp only [nf] at h); simp (disch := omega) only [go_sem, hE, hH, hb]; (try clear hb))) | ((with_reducible refine And.intro ?_ ?_); · omega) | ((first | refine ok_view ?_ | refine cvA (l7Good_ok p.Net p1) ?_); simp (disch := omega) only [go_sem, hE, hH]) | (refine jn _ ?_ ?_) | (with_reducible refine both ?_ ?_) | (with_reducible refine And.intro ?_ ?_) | (refine fin_eq ?_; (try (simp (disch := omega) only [go_sem, hE, hH])); first | done | rfl) | (simp (disch := omega) only [go_sem, hE, hH]) | ((first | apply noMLL_sE | apply pk_sE) <;> (simp only [go_sem, hE, hH]; done)) | (simp only [go_sem, hE, hH]) | fail)
  · simp [goodPoll, h]
  · rw [show goodPoll p = false from by simp_all [goodPoll]]
  · rw [show goodPoll p = false from by simp [goodPoll, h]]
  · rw [show goodPoll p = false from by simp [goodPoll]; intros; omega]
  · rename_i g1 _ q g3
    have g2 : (decide ((p.Net.Homes.length : Int) = 3) || decide ((p.Net.Homes.length : Int) = 5)) = true := by simp [q]
    have g4 := h; clear h
    have hd : goodPoll p = (allN (fun i => voterOk (nth p.Voters i) i p.Net.Homes.length) p.Voters.length && p.Won.all (wonOk p.Net.Homes.length)) := by
      rw [goodPoll, g1, g2, decide_eq_true g3, decide_eq_true g4]; rfl
    have hn : p.Net.Homes.length ≤ 5 := by simp at g2; omega
    rw [hd]
    refine loopN p.Net.Homes.length (fun j (_ : Unit) => ⟨[(1, .ptr 2000000 0 0), (3, i64 p.Net.Homes.length), (4, i64 j)], [(2000000, ⟨6, [Poll.row false p]⟩)]⟩) (fun j _ => allN (fun i => voterOk (nth p.Voters i) i p.Net.Homes.length) j = true) () rfl ?_
    intro j _ hj hI
    try simp only [go_sem, hE, hH, c_spec_l8Good_l1]
    first | refine gd_t (fun h1 => ?_) (fun h1 => ?_) | refine gd_f (fun h1 => ?_) (fun h1 => ?_)
    · have hb1 := h1
      simp only [nf] at h1
      have hlt : j < p.Voters.length := by omega
      try simp (disch := omega) only [go_sem, hE, hH, hb1]
      repeat' (first | ((with_reducible first | refine gd_t ?_ ?_ | refine gd_f ?_ ?_) <;> (intro h; have hb := h; (try simp only [nf] at h); simp (disch := omega) only [go_sem, hE, hH, hb]; (try clear hb))) | ((with_reducible refine And.intro ?_ ?_); · omega) | ((first | refine ok_view ?_ | refine cvA (l8Voter_ok (nth p.Voters j) j _ (p4 _ (nth_mem hlt)) (by omega) (by omega)) ?_); simp (disch := omega) only [go_sem, hE, hH]) | (refine jn _ ?_ ?_) | (with_reducible refine both ?_ ?_) | (with_reducible refine And.intro ?_ ?_) | (refine fin_eq ?_; (try (simp (disch := omega) only [go_sem, hE, hH])); first | done | rfl) | (simp (disch := omega) only [go_sem, hE, hH]) | ((first | apply noMLL_sE | apply pk_sE) <;> (simp only [go_sem, hE, hH]; done)) | (simp only [go_sem, hE, hH]) | fail)
      · rw [allN_no hlt h]; rfl
      · first | exact ⟨(), rfl, allN_step hI h⟩ | exact ⟨by omega, (), rfl, allN_step hI h⟩ | exact ⟨by omega, by omega, (), rfl, allN_step hI h⟩
    · try simp (disch := omega) only [go_sem, hE, hH, h1]
      simp only [nf] at h1
      rw [show j = p.Voters.length by omega] at hI
      rw [hI]
      refine loopN p.Won.length (fun j (_ : Unit) => ⟨[(1, .ptr 2000000 0 0), (3, i64 p.Net.Homes.length), (5, i64 j)], [(2000000, ⟨6, [Poll.row false p]⟩)]⟩) (fun j _ => allN (fun i => wonOk p.Net.Homes.length (nth p.Won i)) j = true) () rfl ?_
      intro k _ hk hK
      try simp only [go_sem, hE, hH, c_spec_l8Good_l2]
      first | refine gd_t (fun h2 => ?_) (fun h2 => ?_) | refine gd_f (fun h2 => ?_) (fun h2 => ?_)
      · have hb2 := h2
        simp only [nf] at h2
        have hlt2 := h2; clear h2
        try simp (disch := omega) only [go_sem, hE, hH, hb2]
        repeat' (first | ((with_reducible first | refine gd_t ?_ ?_ | refine gd_f ?_ ?_) <;> (intro h; have hb := h; (try simp only [nf] at h); simp (disch := omega) only [go_sem, hE, hH, hb]; (try clear hb))) | ((with_reducible refine And.intro ?_ ?_); · omega) | ((first | refine ok_view ?_ | refine cvA (l1In_ok _ _ _) ?_); simp (disch := omega) only [go_sem, hE, hH]) | (refine jn _ ?_ ?_) | (with_reducible refine both ?_ ?_) | (with_reducible refine And.intro ?_ ?_) | (refine fin_eq ?_; (try (simp (disch := omega) only [go_sem, hE, hH])); first | done | rfl) | (simp (disch := omega) only [go_sem, hE, hH]) | ((first | apply noMLL_sE | apply pk_sE) <;> (simp only [go_sem, hE, hH]; done)) | (simp only [go_sem, hE, hH]) | fail)
        · rw [won_no hlt2 (by simp [wonOk, h])]
        · rw [won_no hlt2 (by simp [wonOk, h])]
        · first | exact ⟨(), rfl, allN_step hK (by simp_all [wonOk])⟩ | exact ⟨by omega, (), rfl, allN_step hK (by simp_all [wonOk])⟩ | exact ⟨by omega, by omega, (), rfl, allN_step hK (by simp_all [wonOk])⟩
      · try simp (disch := omega) only [go_sem, hE, hH, h2]
        simp only [nf] at h2
        rw [show k = p.Won.length by omega, allN_all (p := wonOk p.Net.Homes.length)] at hK
        simp [hK]
  · rw [show goodPoll p = false from by simp [goodPoll, h]]
  · rw [show goodPoll p = false from by simp [goodPoll]; intros; omega]
  · rename_i g1 q g3
    have g2 : (decide ((p.Net.Homes.length : Int) = 3) || decide ((p.Net.Homes.length : Int) = 5)) = true := by simp [q]
    have g4 := h; clear h
    have hd : goodPoll p = (allN (fun i => voterOk (nth p.Voters i) i p.Net.Homes.length) p.Voters.length && p.Won.all (wonOk p.Net.Homes.length)) := by
      rw [goodPoll, g1, g2, decide_eq_true g3, decide_eq_true g4]; rfl
    have hn : p.Net.Homes.length ≤ 5 := by simp at g2; omega
    rw [hd]
    refine loopN p.Net.Homes.length (fun j (_ : Unit) => ⟨[(1, .ptr 2000000 0 0), (3, i64 p.Net.Homes.length), (4, i64 j)], [(2000000, ⟨6, [Poll.row false p]⟩)]⟩) (fun j _ => allN (fun i => voterOk (nth p.Voters i) i p.Net.Homes.length) j = true) () rfl ?_
    intro j _ hj hI
    try simp only [go_sem, hE, hH, c_spec_l8Good_l1]
    first | refine gd_t (fun h1 => ?_) (fun h1 => ?_) | refine gd_f (fun h1 => ?_) (fun h1 => ?_)
    · have hb1 := h1
      simp only [nf] at h1
      have hlt : j < p.Voters.length := by omega
      try simp (disch := omega) only [go_sem, hE, hH, hb1]
      repeat' (first | ((with_reducible first | refine gd_t ?_ ?_ | refine gd_f ?_ ?_) <;> (intro h; have hb := h; (try simp only [nf] at h); simp (disch := omega) only [go_sem, hE, hH, hb]; (try clear hb))) | ((with_reducible refine And.intro ?_ ?_); · omega) | ((first | refine ok_view ?_ | refine cvA (l8Voter_ok (nth p.Voters j) j _ (p4 _ (nth_mem hlt)) (by omega) (by omega)) ?_); simp (disch := omega) only [go_sem, hE, hH]) | (refine jn _ ?_ ?_) | (with_reducible refine both ?_ ?_) | (with_reducible refine And.intro ?_ ?_) | (refine fin_eq ?_; (try (simp (disch := omega) only [go_sem, hE, hH])); first | done | rfl) | (simp (disch := omega) only [go_sem, hE, hH]) | ((first | apply noMLL_sE | apply pk_sE) <;> (simp only [go_sem, hE, hH]; done)) | (simp only [go_sem, hE, hH]) | fail)
      · rw [allN_no hlt h]; rfl
      · first | exact ⟨(), rfl, allN_step hI h⟩ | exact ⟨by omega, (), rfl, allN_step hI h⟩ | exact ⟨by omega, by omega, (), rfl, allN_step hI h⟩
    · try simp (disch := omega) only [go_sem, hE, hH, h1]
      simp only [nf] at h1
      rw [show j = p.Voters.length by omega] at hI
      rw [hI]
      refine loopN p.Won.length (fun j (_ : Unit) => ⟨[(1, .ptr 2000000 0 0), (3, i64 p.Net.Homes.length), (5, i64 j)], [(2000000, ⟨6, [Poll.row false p]⟩)]⟩) (fun j _ => allN (fun i => wonOk p.Net.Homes.length (nth p.Won i)) j = true) () rfl ?_
      intro k _ hk hK
      try simp only [go_sem, hE, hH, c_spec_l8Good_l2]
      first | refine gd_t (fun h2 => ?_) (fun h2 => ?_) | refine gd_f (fun h2 => ?_) (fun h2 => ?_)
      · have hb2 := h2
        simp only [nf] at h2
        have hlt2 := h2; clear h2
        try simp (disch := omega) only [go_sem, hE, hH, hb2]
        repeat' (first | ((with_reducible first | refine gd_t ?_ ?_ | refine gd_f ?_ ?_) <;> (intro h; have hb := h; (try simp only [nf] at h); simp (disch := omega) only [go_sem, hE, hH, hb]; (try clear hb))) | ((with_reducible refine And.intro ?_ ?_); · omega) | ((first | refine ok_view ?_ | refine cvA (l1In_ok _ _ _) ?_); simp (disch := omega) only [go_sem, hE, hH]) | (refine jn _ ?_ ?_) | (with_reducible refine both ?_ ?_) | (with_reducible refine And.intro ?_ ?_) | (refine fin_eq ?_; (try (simp (disch := omega) only [go_sem, hE, hH])); first | done | rfl) | (simp (disch := omega) only [go_sem, hE, hH]) | ((first | apply noMLL_sE | apply pk_sE) <;> (simp only [go_sem, hE, hH]; done)) | (simp only [go_sem, hE, hH]) | fail)
        · rw [won_no hlt2 (by simp [wonOk, h])]
        · rw [won_no hlt2 (by simp [wonOk, h])]
        · first | exact ⟨(), rfl, allN_step hK (by simp_all [wonOk])⟩ | exact ⟨by omega, (), rfl, allN_step hK (by simp_all [wonOk])⟩ | exact ⟨by omega, by omega, (), rfl, allN_step hK (by simp_all [wonOk])⟩
      · try simp (disch := omega) only [go_sem, hE, hH, h2]
        simp only [nf] at h2
        rw [show k = p.Won.length by omega, allN_all (p := wonOk p.Net.Homes.length)] at hK
        simp [hK]
theorem copyNet_ok (n : Net) (h1 : n.Homes.length ≤ 2 ^ 20) (h2 : n.Under.length ≤ 2 ^ 20) : ACall Tryz.prog n_impl_copyNet [.agg (Net.row false n)] (fun r _ => r = .agg (Net.row true n)) := by
  refine fn_in h_impl_copyNet r_impl_copyNet ⟨by simp only [go_sem], fun E hE hH => ?_⟩; simp only [go_sem] at hE hH; simp only [go_sem, hE, hH, c_impl_copyNet]
  repeat' (first | ((with_reducible first | refine gd_t ?_ ?_ | refine gd_f ?_ ?_) <;> (intro h; have hb := h; (try simp only [nf] at h); simp (disch := omega) only [go_sem, hE, hH, hb]; (try clear hb))) | ((with_reducible refine And.intro ?_ ?_); · omega) | ((first | refine ok_view ?_ | refine cvA (Clone_Int_ok _ h1) ?_ | refine cvA (Clone_Letter_ok _ h2) ?_); simp (disch := omega) only [go_sem, hE, hH]) | (refine jn _ ?_ ?_) | (with_reducible refine both ?_ ?_) | (with_reducible refine And.intro ?_ ?_) | (refine fin_eq ?_; (try (simp (disch := omega) only [go_sem, hE, hH])); first | done | rfl) | (simp (disch := omega) only [go_sem, hE, hH]) | ((first | apply noMLL_sE | apply pk_sE) <;> (simp only [go_sem, hE, hH]; done)) | (simp only [go_sem, hE, hH]) | fail)
  all_goals rfl
theorem l7OwnL_ok (l : List Letter) (hl : l.length ≤ 2 ^ 20) : ACall Tryz.prog n_spec_l7OwnL [.sl false 4 (l.map (Letter.row false))] (fun r _ => r = .sl true 4 (l.map (Letter.row true))) := by
  refine fn_in h_spec_l7OwnL r_spec_l7OwnL ⟨by simp only [go_sem], fun E hE hH => ?_⟩; simp only [go_sem] at hE hH; simp only [go_sem, hE, hH, c_spec_l7OwnL]
  try simp (disch := omega) only [go_sem, hE, hH]
  exact ⟨by omega, rfl⟩
theorem l7Own_ok (n : Net) (l : List Letter) (h1 : n.Homes.length ≤ 2 ^ 20) (h2 : l.length ≤ 2 ^ 20) : ACall Tryz.prog n_spec_l7Own [.agg (Net.row false n), .sl false 4 (l.map (Letter.row false))] (fun r _ => r = .agg (Net.row true ⟨n.Now, n.Homes, n.Far, l⟩)) := by
  refine fn_in h_spec_l7Own r_spec_l7Own ⟨by simp only [go_sem], fun E hE hH => ?_⟩; simp only [go_sem] at hE hH; simp only [go_sem, hE, hH, c_spec_l7Own]
  repeat' (first | ((with_reducible first | refine gd_t ?_ ?_ | refine gd_f ?_ ?_) <;> (intro h; have hb := h; (try simp only [nf] at h); simp (disch := omega) only [go_sem, hE, hH, hb]; (try clear hb))) | ((with_reducible refine And.intro ?_ ?_); · omega) | ((first | refine ok_view ?_ | refine cvA (l1Own_ok _ h1) ?_ | refine cvA (l7OwnL_ok l h2) ?_); simp (disch := omega) only [go_sem, hE, hH]) | (refine jn _ ?_ ?_) | (with_reducible refine both ?_ ?_) | (with_reducible refine And.intro ?_ ?_) | (refine fin_eq ?_; (try (simp (disch := omega) only [go_sem, hE, hH])); first | done | rfl) | (simp (disch := omega) only [go_sem, hE, hH]) | ((first | apply noMLL_sE | apply pk_sE) <;> (simp only [go_sem, hE, hH]; done)) | (simp only [go_sem, hE, hH]) | fail)
theorem goodNet_len {n : Net} (h : goodNet n = true) : n.Homes.length ≤ 5 ∧ n.Under.length ≤ 60 := by
  simp only [goodNet, goodHomes, Bool.and_eq_true, rng_iff, decide_eq_true_eq] at h
  omega
def cutD (n : Net) : Nat := if ixf (fun l : Letter => decide (n.Now < l.Due)) n.Under < 0 then n.Under.length else (ixf (fun l : Letter => decide (n.Now < l.Due)) n.Under).toNat
def leftN (n : Net) (k : Nat) : Net := ⟨n.Now, n.Homes, n.Far, n.Under.drop k⟩
def deliverN (n : Net) : Net × List Letter × Bool := if goodNet n then (leftN n (cutD n), n.Under.take (cutD n), true) else (⟨0, [], 0, []⟩, [], false)
theorem cutD_at {n : Net} {j : Nat} (hlt : j < n.Under.length) (hI : allN (fun i => !decide (n.Now < (nth n.Under i).Due)) j = true) (h : n.Now < (nth n.Under j).Due) : cutD n = j := by
  have e := ixf_at (p := fun l : Letter => decide (n.Now < l.Due)) hlt hI (by simpa using h)
  rw [cutD, e, if_neg (by omega)]; rfl
theorem cutD_end {n : Net} (hI : allN (fun i => !decide (n.Now < (nth n.Under i).Due)) n.Under.length = true) : cutD n = n.Under.length := by
  have e := ixf_none (p := fun l : Letter => decide (n.Now < l.Due)) hI
  rw [cutD, e, if_pos (by omega)]
theorem take_drop_all {α : Type} {l : List α} {k : Nat} : (l.drop k).take (l.length - k) = l.drop k := List.take_of_length_le (by simp)
theorem cutD_neg {n : Net} (h : ixf (fun l : Letter => decide (n.Now < l.Due)) n.Under < 0) : cutD n = n.Under.length := if_pos h
theorem cutD_pos {n : Net} (h : 0 ≤ ixf (fun l : Letter => decide (n.Now < l.Due)) n.Under) : cutD n = (ixf (fun l : Letter => decide (n.Now < l.Due)) n.Under).toNat := if_neg (by omega)
theorem delivered_1_ok (l : Letter) (n : Net) : ACall Tryz.prog n_impl_Net_delivered_1 ([.agg (Letter.row false l)] ++ [.bx false (Net.row false n)]) (fun r _ => r = bl (decide (n.Now < l.Due))) := by
  refine fn_in h_impl_Net_delivered_1 r_impl_Net_delivered_1 ⟨by simp only [go_sem], fun E hE hH => ?_⟩; simp only [go_sem] at hE hH; simp only [go_sem, hE, hH, c_impl_Net_delivered_1]
  try simp (disch := omega) only [go_sem, hE, hH]
  try rfl
theorem delivered_ok (n : Net) (h1 : n.Homes.length ≤ 2 ^ 20) (h2 : n.Under.length ≤ 2 ^ 20) : ACall Tryz.prog n_impl_Net_delivered [.agg (Net.row false n)] (fun r _ => r = .tup [.agg (Net.row true (leftN n (cutD n))), .sl true 4 ((n.Under.take (cutD n)).map (Letter.row true))]) := by
  have hmx := mx_eq
  have hi := ixf_hi (p := fun l : Letter => decide (n.Now < l.Due)) (l := n.Under)
  refine fn_in h_impl_Net_delivered r_impl_Net_delivered ⟨by simp only [go_sem], fun E hE hH => ?_⟩; simp only [go_sem] at hE hH; simp only [go_sem, hE, hH, c_impl_Net_delivered]
  repeat' (first | ((with_reducible first | refine gd_t ?_ ?_ | refine gd_f ?_ ?_) <;> (intro h; have hb := h; (try simp only [nf] at h); simp (disch := omega) only [go_sem, hE, hH, hb]; (try clear hb))) | ((with_reducible refine And.intro ?_ ?_); · omega) | ((first | refine ok_view ?_ | refine cvA (IndexFunc_Letter_ok n.Under _ [.bx false (Net.row false n)] (fun l => decide (n.Now < l.Due)) (by kernel_rfl) rfl (by omega) (fun l _ => delivered_1_ok l n)) ?_ | refine cvA (copyNet_ok n h1 h2) ?_ | refine cvA (Clone_Letter_ok _ (by simp <;> omega)) ?_); simp (disch := omega) only [go_sem, hE, hH]) | (refine jn _ ?_ ?_) | (with_reducible refine both ?_ ?_) | (with_reducible refine And.intro ?_ ?_) | (refine fin_eq ?_; (try (simp (disch := omega) only [go_sem, hE, hH])); first | done | rfl) | (simp (disch := omega) only [go_sem, hE, hH]) | ((first | apply noMLL_sE | apply pk_sE) <;> (simp only [go_sem, hE, hH]; done)) | (simp only [go_sem, hE, hH]) | fail)
  all_goals try omega
  all_goals first | rfl | (rw [cutD_neg h, take_drop_all]; rfl) | (rw [cutD_neg h, List.take_length]; rfl) | (rw [cutD_pos h, take_drop_all]; rfl) | (rw [cutD_pos h]; rfl)
theorem sDeliver_ok (n : Net) (hm : n.Homes.length ≤ maxLen) : ACall Tryz.prog n_spec_Deliver [.agg (Net.row false n)] (fun r _ => r = .tup [.agg (Net.row true (deliverN n).1), .sl true 4 ((deliverN n).2.1.map (Letter.row true)), bl (deliverN n).2.2]) := by
  have hmx := mx_eq
  refine fn_in h_spec_Deliver r_spec_Deliver ⟨by simp only [go_sem], fun E hE hH => ?_⟩; simp only [go_sem] at hE hH; simp only [go_sem, hE, hH, c_spec_Deliver]
  repeat' (first | ((with_reducible first | refine gd_t ?_ ?_ | refine gd_f ?_ ?_) <;> (intro h; have hb := h; (try simp only [nf] at h); simp (disch := omega) only [go_sem, hE, hH, hb]; (try clear hb))) | ((with_reducible refine And.intro ?_ ?_); · omega) | ((first | refine ok_view ?_ | refine cvA (l7Good_ok n hm) ?_); simp (disch := omega) only [go_sem, hE, hH]) | (refine jn _ ?_ ?_) | (with_reducible refine both ?_ ?_) | (with_reducible refine And.intro ?_ ?_) | (refine fin_eq ?_; (try (simp (disch := omega) only [go_sem, hE, hH])); first | done | rfl) | (simp (disch := omega) only [go_sem, hE, hH]) | ((first | apply noMLL_sE | apply pk_sE) <;> (simp only [go_sem, hE, hH]; done)) | (simp only [go_sem, hE, hH]) | fail)
  all_goals try (simp only [deliverN, h]; first | rfl | done)
  obtain ⟨g1, g2⟩ := goodNet_len h
  have hg := h; clear h
  refine loopN n.Under.length (fun j (_ : Unit) => ⟨[(1, .ptr 2000000 0 0), (2, .ptr 3000000 0 0), (5, i64 j)], [(2000000, ⟨4, [Net.row false n]⟩), (3000000, ⟨4, [[i64 0, nils, i64 0, nils]]⟩)]⟩) (fun j _ => allN (fun i => !decide (n.Now < (nth n.Under i).Due)) j = true) () rfl ?_
  intro j _ hj hI
  try simp only [go_sem, hE, hH, c_spec_Deliver_l1]
  repeat' (first | ((with_reducible first | refine gd_t ?_ ?_ | refine gd_f ?_ ?_) <;> (intro h; have hb := h; (try simp only [nf] at h); simp (disch := omega) only [go_sem, hE, hH, hb]; (try clear hb))) | ((with_reducible refine And.intro ?_ ?_); · omega) | ((first | refine ok_view ?_ | refine cvA (l7Own_ok n _ (by omega) (by simp <;> omega)) ?_ | refine cvA (l7OwnL_ok _ (by simp <;> omega)) ?_); simp (disch := omega) only [go_sem, hE, hH]) | (refine jn _ ?_ ?_) | (with_reducible refine both ?_ ?_) | (with_reducible refine And.intro ?_ ?_) | (refine fin_eq ?_; (try (simp (disch := omega) only [go_sem, hE, hH])); first | done | rfl) | (simp (disch := omega) only [go_sem, hE, hH]) | ((first | apply noMLL_sE | apply pk_sE) <;> (simp only [go_sem, hE, hH]; done)) | (simp only [go_sem, hE, hH]) | fail)
  · first | exact ⟨(), rfl, allN_step hI (by simp; omega)⟩ | exact ⟨by omega, (), rfl, allN_step hI (by simp; omega)⟩ | exact ⟨by omega, by omega, (), rfl, allN_step hI (by simp; omega)⟩
  all_goals (have hc : cutD n = j := by first | exact cutD_at (by assumption) hI h | (rw [cutD_end (by rw [show n.Under.length = j by omega]; exact hI)]; omega))
  all_goals (have hd : deliverN n = (leftN n (cutD n), n.Under.take (cutD n), true) := if_pos hg)
  all_goals (rw [hd, hc])
  all_goals first | rfl | (rw [take_drop_all]; rfl)
end Go.Proofs.Wb

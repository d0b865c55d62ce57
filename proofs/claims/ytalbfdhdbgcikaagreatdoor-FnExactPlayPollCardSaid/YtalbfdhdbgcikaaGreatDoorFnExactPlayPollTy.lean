import Derived.Test.YtalbfdhdbgcikaaGreatDoorFnExactPlayPollCodes
import Derived.Test.YtalbfdhdbgcikaaGreatDoorFnExactPlayPollCodes1
import Derived.Test.YtalbfdhdbgcikaaGreatDoorAmRaw
set_option linter.unusedSimpArgs false
set_option linter.unusedVariables false
set_option linter.unusedSectionVars false
namespace Go.Proofs.Wb
open Go Go.Am
structure Letter where
  From : Int
  To : Int
  Due : Int
  Body : ByteArray
  deriving DecidableEq, Inhabited
def Letter.row (o : Bool) (x : Letter) : List T := [i64 x.From, i64 x.To, i64 x.Due, str x.Body]
@[go_sem] theorem Letter.row_eq (o : Bool) (x : Letter) : Letter.row o x = [i64 x.From, i64 x.To, i64 x.Due, str x.Body] := rfl
def Letter.wf (x : Letter) : Prop := (-9223372036854775808 ≤ x.From ∧ x.From ≤ 9223372036854775807) ∧ (-9223372036854775808 ≤ x.To ∧ x.To ≤ 9223372036854775807) ∧ (-9223372036854775808 ≤ x.Due ∧ x.Due ≤ 9223372036854775807) ∧ (x.Body.size ≤ maxLen)
def Letter.sz (x : Letter) : Nat := x.Body.size
structure PollAct where
  Kind : Int
  Who : Int
  By : Int
  deriving DecidableEq, Inhabited
def PollAct.row (o : Bool) (x : PollAct) : List T := [i64 x.Kind, i64 x.Who, i64 x.By]
@[go_sem] theorem PollAct.row_eq (o : Bool) (x : PollAct) : PollAct.row o x = [i64 x.Kind, i64 x.Who, i64 x.By] := rfl
def PollAct.wf (x : PollAct) : Prop := (-9223372036854775808 ≤ x.Kind ∧ x.Kind ≤ 9223372036854775807) ∧ (-9223372036854775808 ≤ x.Who ∧ x.Who ≤ 9223372036854775807) ∧ (-9223372036854775808 ≤ x.By ∧ x.By ≤ 9223372036854775807)
structure Voter where
  Up : Bool
  Term : Int
  For : Int
  Yes : List Int
  Leads : Bool
  deriving DecidableEq, Inhabited
def Voter.row (o : Bool) (x : Voter) : List T := [bl x.Up, i64 x.Term, i64 x.For, .sl o 1 (ints x.Yes), bl x.Leads]
@[go_sem] theorem Voter.row_eq (o : Bool) (x : Voter) : Voter.row o x = [bl x.Up, i64 x.Term, i64 x.For, .sl o 1 (ints x.Yes), bl x.Leads] := rfl
def Voter.wf (x : Voter) : Prop := (-9223372036854775808 ≤ x.Term ∧ x.Term ≤ 9223372036854775807) ∧ (-9223372036854775808 ≤ x.For ∧ x.For ≤ 9223372036854775807) ∧ (wfL (fun n => -9223372036854775808 ≤ n ∧ n ≤ 9223372036854775807) x.Yes)
def Voter.sz (x : Voter) : Nat := x.Yes.length
structure Won where
  Term : Int
  Who : Int
  deriving DecidableEq, Inhabited
def Won.row (o : Bool) (x : Won) : List T := [i64 x.Term, i64 x.Who]
@[go_sem] theorem Won.row_eq (o : Bool) (x : Won) : Won.row o x = [i64 x.Term, i64 x.Who] := rfl
def Won.wf (x : Won) : Prop := (-9223372036854775808 ≤ x.Term ∧ x.Term ≤ 9223372036854775807) ∧ (-9223372036854775808 ≤ x.Who ∧ x.Who ≤ 9223372036854775807)
structure Net where
  Now : Int
  Homes : List Int
  Far : Int
  Under : List Letter
  deriving DecidableEq, Inhabited
def Net.row (o : Bool) (x : Net) : List T := [i64 x.Now, .sl o 1 (ints x.Homes), i64 x.Far, .sl o 4 (x.Under.map (Letter.row o))]
@[go_sem] theorem Net.row_eq (o : Bool) (x : Net) : Net.row o x = [i64 x.Now, .sl o 1 (ints x.Homes), i64 x.Far, .sl o 4 (x.Under.map (Letter.row o))] := rfl
def Net.wf (x : Net) : Prop := (-9223372036854775808 ≤ x.Now ∧ x.Now ≤ 9223372036854775807) ∧ (wfL (fun n => -9223372036854775808 ≤ n ∧ n ≤ 9223372036854775807) x.Homes) ∧ (-9223372036854775808 ≤ x.Far ∧ x.Far ≤ 9223372036854775807) ∧ (wfL (Letter.wf) x.Under)
def Net.sz (x : Net) : Nat := x.Homes.length + szL (Letter.sz) x.Under
structure Poll where
  Voters : List Voter
  Net : Net
  Won : List Won
  deriving DecidableEq, Inhabited
def Poll.row (o : Bool) (x : Poll) : List T := [.sl o 5 (x.Voters.map (Voter.row o)), i64 x.Net.Now, .sl o 1 (ints x.Net.Homes), i64 x.Net.Far, .sl o 4 (x.Net.Under.map (Letter.row o)), .sl o 2 (x.Won.map (Won.row o))]
@[go_sem] theorem Poll.row_eq (o : Bool) (x : Poll) : Poll.row o x = [.sl o 5 (x.Voters.map (Voter.row o)), i64 x.Net.Now, .sl o 1 (ints x.Net.Homes), i64 x.Net.Far, .sl o 4 (x.Net.Under.map (Letter.row o)), .sl o 2 (x.Won.map (Won.row o))] := rfl
def Poll.wf (x : Poll) : Prop := (wfL (Voter.wf) x.Voters) ∧ (x.Net.wf) ∧ (wfL (Won.wf) x.Won)
def Poll.sz (x : Poll) : Nat := szL (Voter.sz) x.Voters + x.Net.sz + x.Won.length
def Letter.lim (x : Letter) : Prop := True
theorem Letter.lim_of {x : Letter} (h : x.wf) : x.lim := by
  exact trivial
def PollAct.lim (x : PollAct) : Prop := True
theorem PollAct.lim_of {x : PollAct} (h : x.wf) : x.lim := by
  exact trivial
def Voter.lim (x : Voter) : Prop := (limL (fun _ => True) x.Yes)
theorem Voter.lim_of {x : Voter} (h : x.wf) : x.lim := by
  obtain ⟨w_Term, w_For, w_Yes⟩ := h
  exact ⟨w_Yes.1, fun _ _ => trivial⟩
theorem Voter.lim_sz {x : Voter} (h : x.sz ≤ 2 ^ 62) : x.lim := by
  unfold Voter.sz at h
  exact ⟨Nat.le_trans (by omega) mx62, fun y hy => trivial⟩
def Won.lim (x : Won) : Prop := True
theorem Won.lim_of {x : Won} (h : x.wf) : x.lim := by
  exact trivial
def Net.lim (x : Net) : Prop := (limL (fun _ => True) x.Homes) ∧ (limL (Letter.lim) x.Under)
theorem Net.lim_of {x : Net} (h : x.wf) : x.lim := by
  obtain ⟨w_Now, w_Homes, w_Far, w_Under⟩ := h
  exact ⟨⟨w_Homes.1, fun _ _ => trivial⟩, ⟨w_Under.1, fun y hy => Letter.lim_of (w_Under.2 y hy)⟩⟩
theorem Net.lim_sz {x : Net} (h : x.sz ≤ 2 ^ 62) : x.lim := by
  unfold Net.sz at h
  exact ⟨⟨Nat.le_trans (by omega) mx62, fun y hy => trivial⟩, ⟨Nat.le_trans (szL_len (f := Letter.sz)) (Nat.le_trans (by omega) mx62), fun y hy => trivial⟩⟩
def Poll.lim (x : Poll) : Prop := (limL (Voter.lim) x.Voters) ∧ (x.Net.lim) ∧ (limL (Won.lim) x.Won)
theorem Poll.lim_of {x : Poll} (h : x.wf) : x.lim := by
  obtain ⟨w_Voters, w_Net, w_Won⟩ := h
  exact ⟨⟨w_Voters.1, fun y hy => Voter.lim_of (w_Voters.2 y hy)⟩, Net.lim_of w_Net, ⟨w_Won.1, fun y hy => Won.lim_of (w_Won.2 y hy)⟩⟩
theorem Poll.lim_sz {x : Poll} (h : x.sz ≤ 2 ^ 62) : x.lim := by
  unfold Poll.sz at h
  exact ⟨⟨Nat.le_trans (szL_len (f := Voter.sz)) (Nat.le_trans (by omega) mx62), fun y hy => Voter.lim_sz (Nat.le_trans (szL_mem (f := Voter.sz) hy) (by omega))⟩, Net.lim_sz (by omega), ⟨Nat.le_trans (by omega) mx62, fun y hy => trivial⟩⟩
theorem szIntS_ok (l : List Int) (left : Int) (h0 : 0 ≤ left) (h1 : left ≤ 2 ^ 20) (hw : wfL (fun n => -9223372036854775808 ≤ n ∧ n ≤ 9223372036854775807) l) : ACall Tryz.prog n_laws_szIntS [.sl false 1 (ints l), i64 left]
    (fun r _ => ∃ n : Int, r = i64 n ∧ n ≤ left ∧ (0 ≤ n → n + (l.length : Nat) = left)) := by
  obtain ⟨hl, hx⟩ := hw
  have hm := mx_eq
  refine fn_in h_laws_szIntS r_laws_szIntS ⟨by simp only [go_sem], fun E hE hH => ?_⟩; simp only [go_sem] at hE hH; simp only [go_sem, hE, hH, c_laws_szIntS]
  try simp (disch := omega) only [go_sem, hE, hH]
  repeat' (first | ((with_reducible first | refine gd_t ?_ ?_ | refine gd_f ?_ ?_) <;> (intro h; have hb := h; (try simp only [nf] at h); simp (disch := omega) only [go_sem, hE, hH, hb]; (try clear hb))) | ((with_reducible refine And.intro ?_ ?_); · omega) | (refine jn _ ?_ ?_) | (with_reducible refine both ?_ ?_) | (with_reducible refine And.intro ?_ ?_) | (refine fin_eq ?_; (try (simp (disch := omega) only [go_sem, hE, hH])); first | done | rfl) | (simp (disch := omega) only [go_sem, hE, hH]) | ((first | apply noMLL_sE | apply pk_sE) <;> (simp only [go_sem, hE, hH]; done)) | (simp only [go_sem, hE, hH]) | fail)
  · exact ⟨_, rfl, by omega, by omega⟩
  · exact ⟨_, rfl, by omega, by omega⟩
theorem szLetter_ok (x : Letter) (left : Int) (h0 : 0 ≤ left) (h1 : left ≤ 2 ^ 20) (hw : x.wf) : ACall Tryz.prog n_laws_szLetter [.agg (Letter.row false x), i64 left]
    (fun r _ => ∃ n : Int, r = i64 n ∧ n ≤ left ∧ (0 ≤ n → n + (x.sz : Nat) = left)) := by
  obtain ⟨w_From, w_To, w_Due, w_Body⟩ := hw
  have hm := mx_eq
  refine fn_in h_laws_szLetter r_laws_szLetter ⟨by simp only [go_sem], fun E hE hH => ?_⟩; simp only [go_sem] at hE hH; simp only [go_sem, hE, hH, c_laws_szLetter]
  try simp (disch := omega) only [go_sem, hE, hH]
  first | refine gd_t (fun h => ?_) (fun h => ?_) | refine gd_f (fun h => ?_) (fun h => ?_)
  · have hb := h
    simp only [nf] at h
    try simp (disch := omega) only [go_sem, hE, hH, hb]
    exact ⟨_, rfl, by omega, by omega⟩
  have hb := h
  simp only [nf] at h
  try simp (disch := omega) only [go_sem, hE, hH, hb]
  have p0 : 0 ≤ left - (x.Body.size : Int) := by omega
  clear h hb
  exact ⟨_, rfl, by omega, fun _ => by unfold Letter.sz; omega⟩
theorem szLetterS_ok (l : List Letter) (left : Int) (h0 : 0 ≤ left) (h1 : left ≤ 2 ^ 20) (hw : wfL (Letter.wf) l) : ACall Tryz.prog n_laws_szLetterS [.sl false 4 (l.map (Letter.row false)), i64 left]
    (fun r _ => ∃ n : Int, r = i64 n ∧ n ≤ left ∧ (0 ≤ n → n + (szL (Letter.sz) l : Nat) = left)) := by
  obtain ⟨hl, hx⟩ := hw
  have hm := mx_eq
  refine fn_in h_laws_szLetterS r_laws_szLetterS ⟨by simp only [go_sem], fun E hE hH => ?_⟩; simp only [go_sem] at hE hH; simp only [go_sem, hE, hH, c_laws_szLetterS]
  try simp (disch := omega) only [go_sem, hE, hH]
  repeat' (first | ((with_reducible first | refine gd_t ?_ ?_ | refine gd_f ?_ ?_) <;> (intro h; have hb := h; (try simp only [nf] at h); simp (disch := omega) only [go_sem, hE, hH, hb]; (try clear hb))) | ((with_reducible refine And.intro ?_ ?_); · omega) | (refine jn _ ?_ ?_) | (with_reducible refine both ?_ ?_) | (with_reducible refine And.intro ?_ ?_) | (refine fin_eq ?_; (try (simp (disch := omega) only [go_sem, hE, hH])); first | done | rfl) | (simp (disch := omega) only [go_sem, hE, hH]) | ((first | apply noMLL_sE | apply pk_sE) <;> (simp only [go_sem, hE, hH]; done)) | (simp only [go_sem, hE, hH]) | fail)
  · exact ⟨_, rfl, by omega, by omega⟩
  refine loopN l.length (fun j (n : Int) => ⟨[(0, .sl false 4 (l.map (Letter.row false))), (1, i64 n), (5, i64 j)], []⟩) (fun j n => 0 ≤ n ∧ n ≤ left ∧ n + l.length + psum (Letter.sz) l j = left) (left - (l.length : Int)) (by rw [psum_zero]; omega) ?_
  intro j n hj hI
  obtain ⟨i1, i0, i2⟩ := hI
  try simp only [go_sem, hE, hH, c_laws_szLetterS_l1]
  first | refine gd_t (fun h => ?_) (fun h => ?_) | refine gd_f (fun h => ?_) (fun h => ?_)
  · have hb := h
    simp only [nf] at h
    have hlt := h; clear h
    have hs := hx _ (nth_mem hlt)
    try simp (disch := omega) only [go_sem, hE, hH, hb]
    repeat refine And.intro (by omega) ?_
    refine ok_view ?_; simp (disch := omega) only [go_sem, hE, hH]; refine cvA (szLetter_ok (nth l j) n i1 (by omega) hs) ?_
    try simp only [go_sem, hE, hH]
    refine aftV_intro ?_
    rintro r k ⟨q, rfl, q1, q2⟩
    try simp (disch := omega) only [go_sem, hE, hH]
    repeat' (first | ((with_reducible first | refine gd_t ?_ ?_ | refine gd_f ?_ ?_) <;> (intro h; have hb := h; (try simp only [nf] at h); simp (disch := omega) only [go_sem, hE, hH, hb]; (try clear hb))) | ((with_reducible refine And.intro ?_ ?_); · omega) | (refine jn _ ?_ ?_) | (with_reducible refine both ?_ ?_) | (with_reducible refine And.intro ?_ ?_) | (refine fin_eq ?_; (try (simp (disch := omega) only [go_sem, hE, hH])); first | done | rfl) | (simp (disch := omega) only [go_sem, hE, hH]) | ((first | apply noMLL_sE | apply pk_sE) <;> (simp only [go_sem, hE, hH]; done)) | (simp only [go_sem, hE, hH]) | fail)
    · exact ⟨_, rfl, by omega, by omega⟩
    · exact ⟨_, rfl, by omega, by omega, by have q2 := q2 (by omega); rw [psum_succ hlt]; omega⟩
  · have hb := h
    simp only [nf] at h
    try simp (disch := omega) only [go_sem, hE, hH, hb]
    exact ⟨_, rfl, by omega, fun _ => by rw [psum_all (by omega)] at i2; rw [show szL (Letter.sz) l = l.length + (l.map (Letter.sz)).sum from rfl]; omega⟩
theorem szPollActS_ok (l : List PollAct) (left : Int) (h0 : 0 ≤ left) (h1 : left ≤ 2 ^ 20) (hw : wfL (PollAct.wf) l) : ACall Tryz.prog n_laws_szPollActS [.sl false 3 (l.map (PollAct.row false)), i64 left]
    (fun r _ => ∃ n : Int, r = i64 n ∧ n ≤ left ∧ (0 ≤ n → n + (l.length : Nat) = left)) := by
  obtain ⟨hl, hx⟩ := hw
  have hm := mx_eq
  refine fn_in h_laws_szPollActS r_laws_szPollActS ⟨by simp only [go_sem], fun E hE hH => ?_⟩; simp only [go_sem] at hE hH; simp only [go_sem, hE, hH, c_laws_szPollActS]
  try simp (disch := omega) only [go_sem, hE, hH]
  repeat' (first | ((with_reducible first | refine gd_t ?_ ?_ | refine gd_f ?_ ?_) <;> (intro h; have hb := h; (try simp only [nf] at h); simp (disch := omega) only [go_sem, hE, hH, hb]; (try clear hb))) | ((with_reducible refine And.intro ?_ ?_); · omega) | (refine jn _ ?_ ?_) | (with_reducible refine both ?_ ?_) | (with_reducible refine And.intro ?_ ?_) | (refine fin_eq ?_; (try (simp (disch := omega) only [go_sem, hE, hH])); first | done | rfl) | (simp (disch := omega) only [go_sem, hE, hH]) | ((first | apply noMLL_sE | apply pk_sE) <;> (simp only [go_sem, hE, hH]; done)) | (simp only [go_sem, hE, hH]) | fail)
  · exact ⟨_, rfl, by omega, by omega⟩
  · exact ⟨_, rfl, by omega, by omega⟩
theorem szVoter_ok (x : Voter) (left : Int) (h0 : 0 ≤ left) (h1 : left ≤ 2 ^ 20) (hw : x.wf) : ACall Tryz.prog n_laws_szVoter [.agg (Voter.row false x), i64 left]
    (fun r _ => ∃ n : Int, r = i64 n ∧ n ≤ left ∧ (0 ≤ n → n + (x.sz : Nat) = left)) := by
  obtain ⟨w_Term, w_For, w_Yes⟩ := hw
  have hm := mx_eq
  refine fn_in h_laws_szVoter r_laws_szVoter ⟨by simp only [go_sem], fun E hE hH => ?_⟩; simp only [go_sem] at hE hH; simp only [go_sem, hE, hH, c_laws_szVoter]
  refine ok_view ?_; simp (disch := omega) only [go_sem, hE, hH]; refine cvA (szIntS_ok _ _ (by omega) (by omega) w_Yes) ?_
  try simp (disch := omega) only [go_sem, hE, hH]
  refine aftV_intro ?_
  rintro r k ⟨n0, rfl, a0, b0⟩
  try simp (disch := omega) only [go_sem, hE, hH]
  first | refine gd_t (fun h => ?_) (fun h => ?_) | refine gd_f (fun h => ?_) (fun h => ?_)
  · have hb := h
    simp only [nf] at h
    try simp (disch := omega) only [go_sem, hE, hH, hb]
    exact ⟨_, rfl, by omega, by omega⟩
  have hb := h
  simp only [nf] at h
  try simp (disch := omega) only [go_sem, hE, hH, hb]
  have p0 : 0 ≤ n0 := by omega
  have b0 := b0 p0
  clear h hb
  exact ⟨_, rfl, by omega, fun _ => by unfold Voter.sz; omega⟩
theorem szWonS_ok (l : List Won) (left : Int) (h0 : 0 ≤ left) (h1 : left ≤ 2 ^ 20) (hw : wfL (Won.wf) l) : ACall Tryz.prog n_laws_szWonS [.sl false 2 (l.map (Won.row false)), i64 left]
    (fun r _ => ∃ n : Int, r = i64 n ∧ n ≤ left ∧ (0 ≤ n → n + (l.length : Nat) = left)) := by
  obtain ⟨hl, hx⟩ := hw
  have hm := mx_eq
  refine fn_in h_laws_szWonS r_laws_szWonS ⟨by simp only [go_sem], fun E hE hH => ?_⟩; simp only [go_sem] at hE hH; simp only [go_sem, hE, hH, c_laws_szWonS]
  try simp (disch := omega) only [go_sem, hE, hH]
  repeat' (first | ((with_reducible first | refine gd_t ?_ ?_ | refine gd_f ?_ ?_) <;> (intro h; have hb := h; (try simp only [nf] at h); simp (disch := omega) only [go_sem, hE, hH, hb]; (try clear hb))) | ((with_reducible refine And.intro ?_ ?_); · omega) | (refine jn _ ?_ ?_) | (with_reducible refine both ?_ ?_) | (with_reducible refine And.intro ?_ ?_) | (refine fin_eq ?_; (try (simp (disch := omega) only [go_sem, hE, hH])); first | done | rfl) | (simp (disch := omega) only [go_sem, hE, hH]) | ((first | apply noMLL_sE | apply pk_sE) <;> (simp only [go_sem, hE, hH]; done)) | (simp only [go_sem, hE, hH]) | fail)
  · exact ⟨_, rfl, by omega, by omega⟩
  · exact ⟨_, rfl, by omega, by omega⟩
theorem szNet_ok (x : Net) (left : Int) (h0 : 0 ≤ left) (h1 : left ≤ 2 ^ 20) (hw : x.wf) : ACall Tryz.prog n_laws_szNet [.agg (Net.row false x), i64 left]
    (fun r _ => ∃ n : Int, r = i64 n ∧ n ≤ left ∧ (0 ≤ n → n + (x.sz : Nat) = left)) := by
  obtain ⟨w_Now, w_Homes, w_Far, w_Under⟩ := hw
  have hm := mx_eq
  refine fn_in h_laws_szNet r_laws_szNet ⟨by simp only [go_sem], fun E hE hH => ?_⟩; simp only [go_sem] at hE hH; simp only [go_sem, hE, hH, c_laws_szNet]
  refine ok_view ?_; simp (disch := omega) only [go_sem, hE, hH]; refine cvA (szIntS_ok _ _ (by omega) (by omega) w_Homes) ?_
  try simp (disch := omega) only [go_sem, hE, hH]
  refine aftV_intro ?_
  rintro r k ⟨n0, rfl, a0, b0⟩
  try simp (disch := omega) only [go_sem, hE, hH]
  first | refine gd_t (fun h => ?_) (fun h => ?_) | refine gd_f (fun h => ?_) (fun h => ?_)
  · have hb := h
    simp only [nf] at h
    try simp (disch := omega) only [go_sem, hE, hH, hb]
    exact ⟨_, rfl, by omega, by omega⟩
  have hb := h
  simp only [nf] at h
  try simp (disch := omega) only [go_sem, hE, hH, hb]
  have p0 : 0 ≤ n0 := by omega
  have b0 := b0 p0
  clear h hb
  refine ok_view ?_; simp (disch := omega) only [go_sem, hE, hH]; refine cvA (szLetterS_ok _ _ p0 (by omega) w_Under) ?_
  try simp (disch := omega) only [go_sem, hE, hH]
  refine aftV_intro ?_
  rintro r k ⟨n1, rfl, a1, b1⟩
  try simp (disch := omega) only [go_sem, hE, hH]
  first | refine gd_t (fun h => ?_) (fun h => ?_) | refine gd_f (fun h => ?_) (fun h => ?_)
  · have hb := h
    simp only [nf] at h
    try simp (disch := omega) only [go_sem, hE, hH, hb]
    exact ⟨_, rfl, by omega, by omega⟩
  have hb := h
  simp only [nf] at h
  try simp (disch := omega) only [go_sem, hE, hH, hb]
  have p1 : 0 ≤ n1 := by omega
  have b1 := b1 p1
  clear h hb
  exact ⟨_, rfl, by omega, fun _ => by unfold Net.sz; omega⟩
theorem szVoterS_ok (l : List Voter) (left : Int) (h0 : 0 ≤ left) (h1 : left ≤ 2 ^ 20) (hw : wfL (Voter.wf) l) : ACall Tryz.prog n_laws_szVoterS [.sl false 5 (l.map (Voter.row false)), i64 left]
    (fun r _ => ∃ n : Int, r = i64 n ∧ n ≤ left ∧ (0 ≤ n → n + (szL (Voter.sz) l : Nat) = left)) := by
  obtain ⟨hl, hx⟩ := hw
  have hm := mx_eq
  refine fn_in h_laws_szVoterS r_laws_szVoterS ⟨by simp only [go_sem], fun E hE hH => ?_⟩; simp only [go_sem] at hE hH; simp only [go_sem, hE, hH, c_laws_szVoterS]
  try simp (disch := omega) only [go_sem, hE, hH]
  repeat' (first | ((with_reducible first | refine gd_t ?_ ?_ | refine gd_f ?_ ?_) <;> (intro h; have hb := h; (try simp only [nf] at h); simp (disch := omega) only [go_sem, hE, hH, hb]; (try clear hb))) | ((with_reducible refine And.intro ?_ ?_); · omega) | (refine jn _ ?_ ?_) | (with_reducible refine both ?_ ?_) | (with_reducible refine And.intro ?_ ?_) | (refine fin_eq ?_; (try (simp (disch := omega) only [go_sem, hE, hH])); first | done | rfl) | (simp (disch := omega) only [go_sem, hE, hH]) | ((first | apply noMLL_sE | apply pk_sE) <;> (simp only [go_sem, hE, hH]; done)) | (simp only [go_sem, hE, hH]) | fail)
  · exact ⟨_, rfl, by omega, by omega⟩
  refine loopN l.length (fun j (n : Int) => ⟨[(0, .sl false 5 (l.map (Voter.row false))), (1, i64 n), (5, i64 j)], []⟩) (fun j n => 0 ≤ n ∧ n ≤ left ∧ n + l.length + psum (Voter.sz) l j = left) (left - (l.length : Int)) (by rw [psum_zero]; omega) ?_
  intro j n hj hI
  obtain ⟨i1, i0, i2⟩ := hI
  try simp only [go_sem, hE, hH, c_laws_szVoterS_l1]
  first | refine gd_t (fun h => ?_) (fun h => ?_) | refine gd_f (fun h => ?_) (fun h => ?_)
  · have hb := h
    simp only [nf] at h
    have hlt := h; clear h
    have hs := hx _ (nth_mem hlt)
    try simp (disch := omega) only [go_sem, hE, hH, hb]
    repeat refine And.intro (by omega) ?_
    refine ok_view ?_; simp (disch := omega) only [go_sem, hE, hH]; refine cvA (szVoter_ok (nth l j) n i1 (by omega) hs) ?_
    try simp only [go_sem, hE, hH]
    refine aftV_intro ?_
    rintro r k ⟨q, rfl, q1, q2⟩
    try simp (disch := omega) only [go_sem, hE, hH]
    repeat' (first | ((with_reducible first | refine gd_t ?_ ?_ | refine gd_f ?_ ?_) <;> (intro h; have hb := h; (try simp only [nf] at h); simp (disch := omega) only [go_sem, hE, hH, hb]; (try clear hb))) | ((with_reducible refine And.intro ?_ ?_); · omega) | (refine jn _ ?_ ?_) | (with_reducible refine both ?_ ?_) | (with_reducible refine And.intro ?_ ?_) | (refine fin_eq ?_; (try (simp (disch := omega) only [go_sem, hE, hH])); first | done | rfl) | (simp (disch := omega) only [go_sem, hE, hH]) | ((first | apply noMLL_sE | apply pk_sE) <;> (simp only [go_sem, hE, hH]; done)) | (simp only [go_sem, hE, hH]) | fail)
    · exact ⟨_, rfl, by omega, by omega⟩
    · exact ⟨_, rfl, by omega, by omega, by have q2 := q2 (by omega); rw [psum_succ hlt]; omega⟩
  · have hb := h
    simp only [nf] at h
    try simp (disch := omega) only [go_sem, hE, hH, hb]
    exact ⟨_, rfl, by omega, fun _ => by rw [psum_all (by omega)] at i2; rw [show szL (Voter.sz) l = l.length + (l.map (Voter.sz)).sum from rfl]; omega⟩
theorem szPoll_ok (x : Poll) (left : Int) (h0 : 0 ≤ left) (h1 : left ≤ 2 ^ 20) (hw : x.wf) : ACall Tryz.prog n_laws_szPoll [.agg (Poll.row false x), i64 left]
    (fun r _ => ∃ n : Int, r = i64 n ∧ n ≤ left ∧ (0 ≤ n → n + (x.sz : Nat) = left)) := by
  obtain ⟨w_Voters, w_Net, w_Won⟩ := hw
  have hm := mx_eq
  refine fn_in h_laws_szPoll r_laws_szPoll ⟨by simp only [go_sem], fun E hE hH => ?_⟩; simp only [go_sem] at hE hH; simp only [go_sem, hE, hH, c_laws_szPoll]
  refine ok_view ?_; simp (disch := omega) only [go_sem, hE, hH]; refine cvA (szVoterS_ok _ _ (by omega) (by omega) w_Voters) ?_
  try simp (disch := omega) only [go_sem, hE, hH]
  refine aftV_intro ?_
  rintro r k ⟨n0, rfl, a0, b0⟩
  try simp (disch := omega) only [go_sem, hE, hH]
  first | refine gd_t (fun h => ?_) (fun h => ?_) | refine gd_f (fun h => ?_) (fun h => ?_)
  · have hb := h
    simp only [nf] at h
    try simp (disch := omega) only [go_sem, hE, hH, hb]
    exact ⟨_, rfl, by omega, by omega⟩
  have hb := h
  simp only [nf] at h
  try simp (disch := omega) only [go_sem, hE, hH, hb]
  have p0 : 0 ≤ n0 := by omega
  have b0 := b0 p0
  clear h hb
  refine ok_view ?_; simp (disch := omega) only [go_sem, hE, hH]; refine cvA (szNet_ok _ _ p0 (by omega) w_Net) ?_
  try simp (disch := omega) only [go_sem, hE, hH]
  refine aftV_intro ?_
  rintro r k ⟨n1, rfl, a1, b1⟩
  try simp (disch := omega) only [go_sem, hE, hH]
  first | refine gd_t (fun h => ?_) (fun h => ?_) | refine gd_f (fun h => ?_) (fun h => ?_)
  · have hb := h
    simp only [nf] at h
    try simp (disch := omega) only [go_sem, hE, hH, hb]
    exact ⟨_, rfl, by omega, by omega⟩
  have hb := h
  simp only [nf] at h
  try simp (disch := omega) only [go_sem, hE, hH, hb]
  have p1 : 0 ≤ n1 := by omega
  have b1 := b1 p1
  clear h hb
  refine ok_view ?_; simp (disch := omega) only [go_sem, hE, hH]; refine cvA (szWonS_ok _ _ p1 (by omega) w_Won) ?_
  try simp (disch := omega) only [go_sem, hE, hH]
  refine aftV_intro ?_
  rintro r k ⟨n2, rfl, a2, b2⟩
  try simp (disch := omega) only [go_sem, hE, hH]
  first | refine gd_t (fun h => ?_) (fun h => ?_) | refine gd_f (fun h => ?_) (fun h => ?_)
  · have hb := h
    simp only [nf] at h
    try simp (disch := omega) only [go_sem, hE, hH, hb]
    exact ⟨_, rfl, by omega, by omega⟩
  have hb := h
  simp only [nf] at h
  try simp (disch := omega) only [go_sem, hE, hH, hb]
  have p2 : 0 ≤ n2 := by omega
  have b2 := b2 p2
  clear h hb
  exact ⟨_, rfl, by omega, fun _ => by unfold Poll.sz; omega⟩
theorem toIntS_ok (l : List Int) (hl : l.length ≤ 2 ^ 20) : ACall Tryz.prog n_laws_toIntS [.sl false 1 (ints l)] (fun r _ => r = .sl true 1 (ints l)) := by
  refine fn_in h_laws_toIntS r_laws_toIntS ⟨by simp only [go_sem], fun E hE hH => ?_⟩; simp only [go_sem] at hE hH; simp only [go_sem, hE, hH, c_laws_toIntS]
  refine And.intro (by omega) ?_
  rw [cpy_zero (fun x => [i64 x])]
  refine loopN l.length (fun j (_ : Unit) => ⟨[(0, .sl false 1 (ints l)), (3, .ref 4000000 0 l.length), (4, i64 j)], [(4000000, ⟨1, cpy (fun x => [i64 x]) [i64 0] l j⟩)]⟩) (fun _ _ => True) () trivial ?_
  intro j _ hj _
  try simp only [go_sem, hE, hH, c_laws_toIntS_l1]
  first | refine gd_t (fun h => ?_) (fun h => ?_) | refine gd_f (fun h => ?_) (fun h => ?_)
  · have hb := h
    simp only [nf] at h
    have hlt := h; clear h
    try simp (disch := omega) only [go_sem, hE, hH, hb, cpy_at, cpy_len]
    repeat' (first | ((with_reducible first | refine gd_t ?_ ?_ | refine gd_f ?_ ?_) <;> (intro h; have hb := h; (try simp only [nf] at h); simp (disch := omega) only [go_sem, hE, hH, hb]; (try clear hb))) | ((with_reducible refine And.intro ?_ ?_); · omega) | (refine jn _ ?_ ?_) | (with_reducible refine both ?_ ?_) | (with_reducible refine And.intro ?_ ?_) | (refine fin_eq ?_; (try (simp (disch := omega) only [go_sem, hE, hH])); first | done | rfl) | (simp (disch := omega) only [go_sem, hE, hH]) | ((first | apply noMLL_sE | apply pk_sE) <;> (simp only [go_sem, hE, hH]; done)) | (simp only [go_sem, hE, hH]) | fail)
    try try simp (disch := omega) only [go_sem, hE, hH, cpy_at, cpy_len]
    repeat refine And.intro (by omega) ?_
    try try simp (disch := omega) only [go_sem, hE, hH, cpy_at, cpy_len]
    repeat refine And.intro (by omega) ?_
    first | refine ⟨(), ?_, trivial⟩ | refine ⟨(), ?_⟩ | skip
    have hc := cpy_step (f := fun x => [i64 x]) (z := [i64 0]) hlt
    rw [hc]
    rfl
  · have hb := h
    simp only [nf] at h
    try simp (disch := omega) only [go_sem, hE, hH, hb, cpy_end]
theorem toLetter_ok (x : Letter) (hs : x.sz ≤ 2 ^ 20) : ACall Tryz.prog n_laws_toLetter [.agg (Letter.row false x)] (fun r _ => r = .agg (Letter.row true x)) := by
  unfold Letter.sz at hs
  refine fn_in h_laws_toLetter r_laws_toLetter ⟨by simp only [go_sem], fun E hE hH => ?_⟩; simp only [go_sem] at hE hH; simp only [go_sem, hE, hH, c_laws_toLetter]
  repeat' (first | ((with_reducible first | refine gd_t ?_ ?_ | refine gd_f ?_ ?_) <;> (intro h; have hb := h; (try simp only [nf] at h); simp (disch := omega) only [go_sem, hE, hH, hb]; (try clear hb))) | ((with_reducible refine And.intro ?_ ?_); · omega) | (refine jn _ ?_ ?_) | (with_reducible refine both ?_ ?_) | (with_reducible refine And.intro ?_ ?_) | (refine fin_eq ?_; (try (simp (disch := omega) only [go_sem, hE, hH])); first | done | rfl) | (simp (disch := omega) only [go_sem, hE, hH]) | ((first | apply noMLL_sE | apply pk_sE) <;> (simp only [go_sem, hE, hH]; done)) | (simp only [go_sem, hE, hH]) | fail)
theorem toPollAct_ok (x : PollAct) : ACall Tryz.prog n_laws_toPollAct [.agg (PollAct.row false x)] (fun r _ => r = .agg (PollAct.row true x)) := by
  refine fn_in h_laws_toPollAct r_laws_toPollAct ⟨by simp only [go_sem], fun E hE hH => ?_⟩; simp only [go_sem] at hE hH; simp only [go_sem, hE, hH, c_laws_toPollAct]
  repeat' (first | ((with_reducible first | refine gd_t ?_ ?_ | refine gd_f ?_ ?_) <;> (intro h; have hb := h; (try simp only [nf] at h); simp (disch := omega) only [go_sem, hE, hH, hb]; (try clear hb))) | ((with_reducible refine And.intro ?_ ?_); · omega) | (refine jn _ ?_ ?_) | (with_reducible refine both ?_ ?_) | (with_reducible refine And.intro ?_ ?_) | (refine fin_eq ?_; (try (simp (disch := omega) only [go_sem, hE, hH])); first | done | rfl) | (simp (disch := omega) only [go_sem, hE, hH]) | ((first | apply noMLL_sE | apply pk_sE) <;> (simp only [go_sem, hE, hH]; done)) | (simp only [go_sem, hE, hH]) | fail)
theorem toWon_ok (x : Won) : ACall Tryz.prog n_laws_toWon [.agg (Won.row false x)] (fun r _ => r = .agg (Won.row true x)) := by
  refine fn_in h_laws_toWon r_laws_toWon ⟨by simp only [go_sem], fun E hE hH => ?_⟩; simp only [go_sem] at hE hH; simp only [go_sem, hE, hH, c_laws_toWon]
  repeat' (first | ((with_reducible first | refine gd_t ?_ ?_ | refine gd_f ?_ ?_) <;> (intro h; have hb := h; (try simp only [nf] at h); simp (disch := omega) only [go_sem, hE, hH, hb]; (try clear hb))) | ((with_reducible refine And.intro ?_ ?_); · omega) | (refine jn _ ?_ ?_) | (with_reducible refine both ?_ ?_) | (with_reducible refine And.intro ?_ ?_) | (refine fin_eq ?_; (try (simp (disch := omega) only [go_sem, hE, hH])); first | done | rfl) | (simp (disch := omega) only [go_sem, hE, hH]) | ((first | apply noMLL_sE | apply pk_sE) <;> (simp only [go_sem, hE, hH]; done)) | (simp only [go_sem, hE, hH]) | fail)
theorem toLetterS_ok (l : List Letter) (hl : szL (Letter.sz) l ≤ 2 ^ 20) : ACall Tryz.prog n_laws_toLetterS [.sl false 4 (l.map (Letter.row false))] (fun r _ => r = .sl true 4 (l.map (Letter.row true))) := by
  have hl0 : l.length ≤ 2 ^ 20 := Nat.le_trans szL_len hl
  refine fn_in h_laws_toLetterS r_laws_toLetterS ⟨by simp only [go_sem], fun E hE hH => ?_⟩; simp only [go_sem] at hE hH; simp only [go_sem, hE, hH, c_laws_toLetterS]
  refine And.intro (by omega) ?_
  rw [cpy_zero (Letter.row true)]
  refine loopN l.length (fun j (_ : Unit) => ⟨[(0, .sl false 4 (l.map (Letter.row false))), (3, .ref 4000000 0 l.length), (4, i64 j)], [(4000000, ⟨4, cpy (Letter.row true) [i64 0, i64 0, i64 0, str ⟨⟨[]⟩⟩] l j⟩)]⟩) (fun _ _ => True) () trivial ?_
  intro j _ hj _
  try simp only [go_sem, hE, hH, c_laws_toLetterS_l1]
  first | refine gd_t (fun h => ?_) (fun h => ?_) | refine gd_f (fun h => ?_) (fun h => ?_)
  · have hb := h
    simp only [nf] at h
    have hlt := h; clear h
    have hs := Nat.le_trans (szL_mem (f := Letter.sz) (nth_mem hlt)) hl
    try simp (disch := omega) only [go_sem, hE, hH, hb, cpy_at, cpy_len]
    repeat' (first | ((with_reducible first | refine gd_t ?_ ?_ | refine gd_f ?_ ?_) <;> (intro h; have hb := h; (try simp only [nf] at h); simp (disch := omega) only [go_sem, hE, hH, hb]; (try clear hb))) | ((with_reducible refine And.intro ?_ ?_); · omega) | ((first | refine ok_view ?_ | refine cvA (toLetter_ok _ (by assumption)) ?_); simp (disch := omega) only [go_sem, hE, hH]) | (refine jn _ ?_ ?_) | (with_reducible refine both ?_ ?_) | (with_reducible refine And.intro ?_ ?_) | (refine fin_eq ?_; (try (simp (disch := omega) only [go_sem, hE, hH])); first | done | rfl) | (simp (disch := omega) only [go_sem, hE, hH]) | ((first | apply noMLL_sE | apply pk_sE) <;> (simp only [go_sem, hE, hH]; done)) | (simp only [go_sem, hE, hH]) | fail)
    try try simp (disch := omega) only [go_sem, hE, hH, cpy_at, cpy_len]
    repeat refine And.intro (by omega) ?_
    try try simp (disch := omega) only [go_sem, hE, hH, cpy_at, cpy_len]
    repeat refine And.intro (by omega) ?_
    first | refine ⟨(), ?_, trivial⟩ | refine ⟨(), ?_⟩ | skip
    have hc := cpy_step (f := Letter.row true) (z := [i64 0, i64 0, i64 0, str ⟨⟨[]⟩⟩]) hlt
    simp only [Letter.row_eq] at hc ⊢
    rw [hc]
    rfl
  · have hb := h
    simp only [nf] at h
    try simp (disch := omega) only [go_sem, hE, hH, hb, cpy_end]
theorem toPollActS_ok (l : List PollAct) (hl : l.length ≤ 2 ^ 20) : ACall Tryz.prog n_laws_toPollActS [.sl false 3 (l.map (PollAct.row false))] (fun r _ => r = .sl true 3 (l.map (PollAct.row true))) := by
  refine fn_in h_laws_toPollActS r_laws_toPollActS ⟨by simp only [go_sem], fun E hE hH => ?_⟩; simp only [go_sem] at hE hH; simp only [go_sem, hE, hH, c_laws_toPollActS]
  refine And.intro (by omega) ?_
  rw [cpy_zero (PollAct.row true)]
  refine loopN l.length (fun j (_ : Unit) => ⟨[(0, .sl false 3 (l.map (PollAct.row false))), (3, .ref 4000000 0 l.length), (4, i64 j)], [(4000000, ⟨3, cpy (PollAct.row true) [i64 0, i64 0, i64 0] l j⟩)]⟩) (fun _ _ => True) () trivial ?_
  intro j _ hj _
  try simp only [go_sem, hE, hH, c_laws_toPollActS_l1]
  first | refine gd_t (fun h => ?_) (fun h => ?_) | refine gd_f (fun h => ?_) (fun h => ?_)
  · have hb := h
    simp only [nf] at h
    have hlt := h; clear h
    try simp (disch := omega) only [go_sem, hE, hH, hb, cpy_at, cpy_len]
    repeat' (first | ((with_reducible first | refine gd_t ?_ ?_ | refine gd_f ?_ ?_) <;> (intro h; have hb := h; (try simp only [nf] at h); simp (disch := omega) only [go_sem, hE, hH, hb]; (try clear hb))) | ((with_reducible refine And.intro ?_ ?_); · omega) | ((first | refine ok_view ?_ | refine cvA (toPollAct_ok _) ?_); simp (disch := omega) only [go_sem, hE, hH]) | (refine jn _ ?_ ?_) | (with_reducible refine both ?_ ?_) | (with_reducible refine And.intro ?_ ?_) | (refine fin_eq ?_; (try (simp (disch := omega) only [go_sem, hE, hH])); first | done | rfl) | (simp (disch := omega) only [go_sem, hE, hH]) | ((first | apply noMLL_sE | apply pk_sE) <;> (simp only [go_sem, hE, hH]; done)) | (simp only [go_sem, hE, hH]) | fail)
    try try simp (disch := omega) only [go_sem, hE, hH, cpy_at, cpy_len]
    repeat refine And.intro (by omega) ?_
    try try simp (disch := omega) only [go_sem, hE, hH, cpy_at, cpy_len]
    repeat refine And.intro (by omega) ?_
    first | refine ⟨(), ?_, trivial⟩ | refine ⟨(), ?_⟩ | skip
    have hc := cpy_step (f := PollAct.row true) (z := [i64 0, i64 0, i64 0]) hlt
    simp only [PollAct.row_eq] at hc ⊢
    rw [hc]
    rfl
  · have hb := h
    simp only [nf] at h
    try simp (disch := omega) only [go_sem, hE, hH, hb, cpy_end]
theorem toVoter_ok (x : Voter) (hs : x.sz ≤ 2 ^ 20) : ACall Tryz.prog n_laws_toVoter [.agg (Voter.row false x)] (fun r _ => r = .agg (Voter.row true x)) := by
  unfold Voter.sz at hs
  refine fn_in h_laws_toVoter r_laws_toVoter ⟨by simp only [go_sem], fun E hE hH => ?_⟩; simp only [go_sem] at hE hH; simp only [go_sem, hE, hH, c_laws_toVoter]
  repeat' (first | ((with_reducible first | refine gd_t ?_ ?_ | refine gd_f ?_ ?_) <;> (intro h; have hb := h; (try simp only [nf] at h); simp (disch := omega) only [go_sem, hE, hH, hb]; (try clear hb))) | ((with_reducible refine And.intro ?_ ?_); · omega) | ((first | refine ok_view ?_ | refine cvA (toIntS_ok _ (by omega)) ?_); simp (disch := omega) only [go_sem, hE, hH]) | (refine jn _ ?_ ?_) | (with_reducible refine both ?_ ?_) | (with_reducible refine And.intro ?_ ?_) | (refine fin_eq ?_; (try (simp (disch := omega) only [go_sem, hE, hH])); first | done | rfl) | (simp (disch := omega) only [go_sem, hE, hH]) | ((first | apply noMLL_sE | apply pk_sE) <;> (simp only [go_sem, hE, hH]; done)) | (simp only [go_sem, hE, hH]) | fail)
theorem toWonS_ok (l : List Won) (hl : l.length ≤ 2 ^ 20) : ACall Tryz.prog n_laws_toWonS [.sl false 2 (l.map (Won.row false))] (fun r _ => r = .sl true 2 (l.map (Won.row true))) := by
  refine fn_in h_laws_toWonS r_laws_toWonS ⟨by simp only [go_sem], fun E hE hH => ?_⟩; simp only [go_sem] at hE hH; simp only [go_sem, hE, hH, c_laws_toWonS]
  refine And.intro (by omega) ?_
  rw [cpy_zero (Won.row true)]
  refine loopN l.length (fun j (_ : Unit) => ⟨[(0, .sl false 2 (l.map (Won.row false))), (3, .ref 4000000 0 l.length), (4, i64 j)], [(4000000, ⟨2, cpy (Won.row true) [i64 0, i64 0] l j⟩)]⟩) (fun _ _ => True) () trivial ?_
  intro j _ hj _
  try simp only [go_sem, hE, hH, c_laws_toWonS_l1]
  first | refine gd_t (fun h => ?_) (fun h => ?_) | refine gd_f (fun h => ?_) (fun h => ?_)
  · have hb := h
    simp only [nf] at h
    have hlt := h; clear h
    try simp (disch := omega) only [go_sem, hE, hH, hb, cpy_at, cpy_len]
    repeat' (first | ((with_reducible first | refine gd_t ?_ ?_ | refine gd_f ?_ ?_) <;> (intro h; have hb := h; (try simp only [nf] at h); simp (disch := omega) only [go_sem, hE, hH, hb]; (try clear hb))) | ((with_reducible refine And.intro ?_ ?_); · omega) | ((first | refine ok_view ?_ | refine cvA (toWon_ok _) ?_); simp (disch := omega) only [go_sem, hE, hH]) | (refine jn _ ?_ ?_) | (with_reducible refine both ?_ ?_) | (with_reducible refine And.intro ?_ ?_) | (refine fin_eq ?_; (try (simp (disch := omega) only [go_sem, hE, hH])); first | done | rfl) | (simp (disch := omega) only [go_sem, hE, hH]) | ((first | apply noMLL_sE | apply pk_sE) <;> (simp only [go_sem, hE, hH]; done)) | (simp only [go_sem, hE, hH]) | fail)
    try try simp (disch := omega) only [go_sem, hE, hH, cpy_at, cpy_len]
    repeat refine And.intro (by omega) ?_
    try try simp (disch := omega) only [go_sem, hE, hH, cpy_at, cpy_len]
    repeat refine And.intro (by omega) ?_
    first | refine ⟨(), ?_, trivial⟩ | refine ⟨(), ?_⟩ | skip
    have hc := cpy_step (f := Won.row true) (z := [i64 0, i64 0]) hlt
    simp only [Won.row_eq] at hc ⊢
    rw [hc]
    rfl
  · have hb := h
    simp only [nf] at h
    try simp (disch := omega) only [go_sem, hE, hH, hb, cpy_end]
theorem toNet_ok (x : Net) (hs : x.sz ≤ 2 ^ 20) : ACall Tryz.prog n_laws_toNet [.agg (Net.row false x)] (fun r _ => r = .agg (Net.row true x)) := by
  unfold Net.sz at hs
  refine fn_in h_laws_toNet r_laws_toNet ⟨by simp only [go_sem], fun E hE hH => ?_⟩; simp only [go_sem] at hE hH; simp only [go_sem, hE, hH, c_laws_toNet]
  repeat' (first | ((with_reducible first | refine gd_t ?_ ?_ | refine gd_f ?_ ?_) <;> (intro h; have hb := h; (try simp only [nf] at h); simp (disch := omega) only [go_sem, hE, hH, hb]; (try clear hb))) | ((with_reducible refine And.intro ?_ ?_); · omega) | ((first | refine ok_view ?_ | refine cvA (toIntS_ok _ (by omega)) ?_ | refine cvA (toLetterS_ok _ (by omega)) ?_); simp (disch := omega) only [go_sem, hE, hH]) | (refine jn _ ?_ ?_) | (with_reducible refine both ?_ ?_) | (with_reducible refine And.intro ?_ ?_) | (refine fin_eq ?_; (try (simp (disch := omega) only [go_sem, hE, hH])); first | done | rfl) | (simp (disch := omega) only [go_sem, hE, hH]) | ((first | apply noMLL_sE | apply pk_sE) <;> (simp only [go_sem, hE, hH]; done)) | (simp only [go_sem, hE, hH]) | fail)
theorem toVoterS_ok (l : List Voter) (hl : szL (Voter.sz) l ≤ 2 ^ 20) : ACall Tryz.prog n_laws_toVoterS [.sl false 5 (l.map (Voter.row false))] (fun r _ => r = .sl true 5 (l.map (Voter.row true))) := by
  have hl0 : l.length ≤ 2 ^ 20 := Nat.le_trans szL_len hl
  refine fn_in h_laws_toVoterS r_laws_toVoterS ⟨by simp only [go_sem], fun E hE hH => ?_⟩; simp only [go_sem] at hE hH; simp only [go_sem, hE, hH, c_laws_toVoterS]
  refine And.intro (by omega) ?_
  rw [cpy_zero (Voter.row true)]
  refine loopN l.length (fun j (_ : Unit) => ⟨[(0, .sl false 5 (l.map (Voter.row false))), (3, .ref 4000000 0 l.length), (4, i64 j)], [(4000000, ⟨5, cpy (Voter.row true) [bl false, i64 0, i64 0, nils, bl false] l j⟩)]⟩) (fun _ _ => True) () trivial ?_
  intro j _ hj _
  try simp only [go_sem, hE, hH, c_laws_toVoterS_l1]
  first | refine gd_t (fun h => ?_) (fun h => ?_) | refine gd_f (fun h => ?_) (fun h => ?_)
  · have hb := h
    simp only [nf] at h
    have hlt := h; clear h
    have hs := Nat.le_trans (szL_mem (f := Voter.sz) (nth_mem hlt)) hl
    try simp (disch := omega) only [go_sem, hE, hH, hb, cpy_at, cpy_len]
    repeat' (first | ((with_reducible first | refine gd_t ?_ ?_ | refine gd_f ?_ ?_) <;> (intro h; have hb := h; (try simp only [nf] at h); simp (disch := omega) only [go_sem, hE, hH, hb]; (try clear hb))) | ((with_reducible refine And.intro ?_ ?_); · omega) | ((first | refine ok_view ?_ | refine cvA (toVoter_ok _ (by assumption)) ?_); simp (disch := omega) only [go_sem, hE, hH]) | (refine jn _ ?_ ?_) | (with_reducible refine both ?_ ?_) | (with_reducible refine And.intro ?_ ?_) | (refine fin_eq ?_; (try (simp (disch := omega) only [go_sem, hE, hH])); first | done | rfl) | (simp (disch := omega) only [go_sem, hE, hH]) | ((first | apply noMLL_sE | apply pk_sE) <;> (simp only [go_sem, hE, hH]; done)) | (simp only [go_sem, hE, hH]) | fail)
    try try simp (disch := omega) only [go_sem, hE, hH, cpy_at, cpy_len]
    repeat refine And.intro (by omega) ?_
    try try simp (disch := omega) only [go_sem, hE, hH, cpy_at, cpy_len]
    repeat refine And.intro (by omega) ?_
    first | refine ⟨(), ?_, trivial⟩ | refine ⟨(), ?_⟩ | skip
    have hc := cpy_step (f := Voter.row true) (z := [bl false, i64 0, i64 0, nils, bl false]) hlt
    simp only [Voter.row_eq] at hc ⊢
    rw [hc]
    rfl
  · have hb := h
    simp only [nf] at h
    try simp (disch := omega) only [go_sem, hE, hH, hb, cpy_end]
theorem toPoll_ok (x : Poll) (hs : x.sz ≤ 2 ^ 20) : ACall Tryz.prog n_laws_toPoll [.agg (Poll.row false x)] (fun r _ => r = .agg (Poll.row true x)) := by
  unfold Poll.sz at hs
  refine fn_in h_laws_toPoll r_laws_toPoll ⟨by simp only [go_sem], fun E hE hH => ?_⟩; simp only [go_sem] at hE hH; simp only [go_sem, hE, hH, c_laws_toPoll]
  repeat' (first | ((with_reducible first | refine gd_t ?_ ?_ | refine gd_f ?_ ?_) <;> (intro h; have hb := h; (try simp only [nf] at h); simp (disch := omega) only [go_sem, hE, hH, hb]; (try clear hb))) | ((with_reducible refine And.intro ?_ ?_); · omega) | ((first | refine ok_view ?_ | refine cvA (toVoterS_ok _ (by omega)) ?_ | refine cvA (toNet_ok _ (by omega)) ?_ | refine cvA (toWonS_ok _ (by omega)) ?_); simp (disch := omega) only [go_sem, hE, hH]) | (refine jn _ ?_ ?_) | (with_reducible refine both ?_ ?_) | (with_reducible refine And.intro ?_ ?_) | (refine fin_eq ?_; (try (simp (disch := omega) only [go_sem, hE, hH])); first | done | rfl) | (simp (disch := omega) only [go_sem, hE, hH]) | ((first | apply noMLL_sE | apply pk_sE) <;> (simp only [go_sem, hE, hH]; done)) | (simp only [go_sem, hE, hH]) | fail)
theorem eqIntS_ok (l m : List Int) (hl : limL (fun _ => True) l) : ACall Tryz.prog n_laws_eqIntS [.sl false 1 (ints l), .sl false 1 (ints m)] (fun r _ => r = bl (decide (l = m))) := by
  obtain ⟨hl, hx⟩ := hl
  have hm := mx_eq
  refine fn_in h_laws_eqIntS r_laws_eqIntS ⟨by simp only [go_sem], fun E hE hH => ?_⟩; simp only [go_sem] at hE hH; simp only [go_sem, hE, hH, c_laws_eqIntS]
  repeat' (first | ((with_reducible first | refine gd_t ?_ ?_ | refine gd_f ?_ ?_) <;> (intro h; have hb := h; (try simp only [nf] at h); simp (disch := omega) only [go_sem, hE, hH, hb]; (try clear hb))) | ((with_reducible refine And.intro ?_ ?_); · omega) | (refine jn _ ?_ ?_) | (with_reducible refine both ?_ ?_) | (with_reducible refine And.intro ?_ ?_) | (refine fin_eq ?_; (try (simp (disch := omega) only [go_sem, hE, hH])); first | done | rfl) | (simp (disch := omega) only [go_sem, hE, hH]) | ((first | apply noMLL_sE | apply pk_sE) <;> (simp only [go_sem, hE, hH]; done)) | (simp only [go_sem, hE, hH]) | fail)
  · rw [decide_eq_false (fun e => h (by rw [e]))]
  have hlen : l.length = m.length := by omega
  clear h
  refine loopN l.length (fun j (_ : Unit) => ⟨[(0, .sl false 1 (ints l)), (1, .sl false 1 (ints m)), (5, i64 j)], []⟩) (fun j _ => decide (l = m) = decide (l.drop j = m.drop j)) () (by simp) ?_
  intro j _ hj hI
  try simp only [go_sem, hE, hH, c_laws_eqIntS_l1]
  first | refine gd_t (fun h => ?_) (fun h => ?_) | refine gd_f (fun h => ?_) (fun h => ?_)
  · have hb := h
    simp only [nf] at h
    have hlt := h; clear h
    have hlm : j < m.length := by omega
    rw [drop_eq hlt hlm] at hI
    try simp (disch := omega) only [go_sem, hE, hH, hb]
    repeat' (first | ((with_reducible first | refine gd_t ?_ ?_ | refine gd_f ?_ ?_) <;> (intro h; have hb := h; (try simp only [nf] at h); simp (disch := omega) only [go_sem, hE, hH, hb]; (try clear hb))) | ((with_reducible refine And.intro ?_ ?_); · omega) | (refine jn _ ?_ ?_) | (with_reducible refine both ?_ ?_) | (with_reducible refine And.intro ?_ ?_) | (refine fin_eq ?_; (try (simp (disch := omega) only [go_sem, hE, hH])); first | done | rfl) | (simp (disch := omega) only [go_sem, hE, hH]) | ((first | apply noMLL_sE | apply pk_sE) <;> (simp only [go_sem, hE, hH]; done)) | (simp only [go_sem, hE, hH]) | fail)
    · rw [hI]; simp [h]
    · exact ⟨(), rfl, by rw [hI]; simp [h]⟩
  · have hb := h
    simp only [nf] at h
    try simp (disch := omega) only [go_sem, hE, hH, hb]
    rw [hI, List.drop_of_length_le (by omega), List.drop_of_length_le (by omega)]
    rfl
theorem eqLetter_ok (x y : Letter) (hl : x.lim) : ACall Tryz.prog n_laws_eqLetter [.agg (Letter.row false x), .agg (Letter.row false y)] (fun r _ => r = bl (decide (x = y))) := by
  obtain ⟨x_From, x_To, x_Due, x_Body⟩ := x
  obtain ⟨y_From, y_To, y_Due, y_Body⟩ := y
  refine fn_in h_laws_eqLetter r_laws_eqLetter ⟨by simp only [go_sem], fun E hE hH => ?_⟩; simp only [go_sem] at hE hH; simp only [go_sem, hE, hH, c_laws_eqLetter]
  repeat' (first | ((with_reducible first | refine gd_t ?_ ?_ | refine gd_f ?_ ?_) <;> (intro h; have hb := h; (try simp only [nf] at h); simp (disch := omega) only [go_sem, hE, hH, hb]; (try clear hb))) | ((with_reducible refine And.intro ?_ ?_); · omega) | (refine jn _ ?_ ?_) | (with_reducible refine both ?_ ?_) | (with_reducible refine And.intro ?_ ?_) | (refine fin_eq ?_; (try (simp (disch := omega) only [go_sem, hE, hH])); first | done | rfl) | (simp (disch := omega) only [go_sem, hE, hH]) | ((first | apply noMLL_sE | apply pk_sE) <;> (simp only [go_sem, hE, hH]; done)) | (simp only [go_sem, hE, hH]) | fail)
  all_goals simp_all [Letter.mk.injEq]
theorem eqPollAct_ok (x y : PollAct) (hl : x.lim) : ACall Tryz.prog n_laws_eqPollAct [.agg (PollAct.row false x), .agg (PollAct.row false y)] (fun r _ => r = bl (decide (x = y))) := by
  obtain ⟨x_Kind, x_Who, x_By⟩ := x
  obtain ⟨y_Kind, y_Who, y_By⟩ := y
  refine fn_in h_laws_eqPollAct r_laws_eqPollAct ⟨by simp only [go_sem], fun E hE hH => ?_⟩; simp only [go_sem] at hE hH; simp only [go_sem, hE, hH, c_laws_eqPollAct]
  repeat' (first | ((with_reducible first | refine gd_t ?_ ?_ | refine gd_f ?_ ?_) <;> (intro h; have hb := h; (try simp only [nf] at h); simp (disch := omega) only [go_sem, hE, hH, hb]; (try clear hb))) | ((with_reducible refine And.intro ?_ ?_); · omega) | (refine jn _ ?_ ?_) | (with_reducible refine both ?_ ?_) | (with_reducible refine And.intro ?_ ?_) | (refine fin_eq ?_; (try (simp (disch := omega) only [go_sem, hE, hH])); first | done | rfl) | (simp (disch := omega) only [go_sem, hE, hH]) | ((first | apply noMLL_sE | apply pk_sE) <;> (simp only [go_sem, hE, hH]; done)) | (simp only [go_sem, hE, hH]) | fail)
  all_goals simp_all [PollAct.mk.injEq]
theorem eqWon_ok (x y : Won) (hl : x.lim) : ACall Tryz.prog n_laws_eqWon [.agg (Won.row false x), .agg (Won.row false y)] (fun r _ => r = bl (decide (x = y))) := by
  obtain ⟨x_Term, x_Who⟩ := x
  obtain ⟨y_Term, y_Who⟩ := y
  refine fn_in h_laws_eqWon r_laws_eqWon ⟨by simp only [go_sem], fun E hE hH => ?_⟩; simp only [go_sem] at hE hH; simp only [go_sem, hE, hH, c_laws_eqWon]
  repeat' (first | ((with_reducible first | refine gd_t ?_ ?_ | refine gd_f ?_ ?_) <;> (intro h; have hb := h; (try simp only [nf] at h); simp (disch := omega) only [go_sem, hE, hH, hb]; (try clear hb))) | ((with_reducible refine And.intro ?_ ?_); · omega) | (refine jn _ ?_ ?_) | (with_reducible refine both ?_ ?_) | (with_reducible refine And.intro ?_ ?_) | (refine fin_eq ?_; (try (simp (disch := omega) only [go_sem, hE, hH])); first | done | rfl) | (simp (disch := omega) only [go_sem, hE, hH]) | ((first | apply noMLL_sE | apply pk_sE) <;> (simp only [go_sem, hE, hH]; done)) | (simp only [go_sem, hE, hH]) | fail)
  all_goals simp_all [Won.mk.injEq]
theorem eqLetterS_ok (l m : List Letter) (hl : limL (Letter.lim) l) : ACall Tryz.prog n_laws_eqLetterS [.sl false 4 (l.map (Letter.row false)), .sl false 4 (m.map (Letter.row false))] (fun r _ => r = bl (decide (l = m))) := by
  obtain ⟨hl, hx⟩ := hl
  have hm := mx_eq
  refine fn_in h_laws_eqLetterS r_laws_eqLetterS ⟨by simp only [go_sem], fun E hE hH => ?_⟩; simp only [go_sem] at hE hH; simp only [go_sem, hE, hH, c_laws_eqLetterS]
  repeat' (first | ((with_reducible first | refine gd_t ?_ ?_ | refine gd_f ?_ ?_) <;> (intro h; have hb := h; (try simp only [nf] at h); simp (disch := omega) only [go_sem, hE, hH, hb]; (try clear hb))) | ((with_reducible refine And.intro ?_ ?_); · omega) | (refine jn _ ?_ ?_) | (with_reducible refine both ?_ ?_) | (with_reducible refine And.intro ?_ ?_) | (refine fin_eq ?_; (try (simp (disch := omega) only [go_sem, hE, hH])); first | done | rfl) | (simp (disch := omega) only [go_sem, hE, hH]) | ((first | apply noMLL_sE | apply pk_sE) <;> (simp only [go_sem, hE, hH]; done)) | (simp only [go_sem, hE, hH]) | fail)
  · rw [decide_eq_false (fun e => h (by rw [e]))]
  have hlen : l.length = m.length := by omega
  clear h
  refine loopN l.length (fun j (_ : Unit) => ⟨[(0, .sl false 4 (l.map (Letter.row false))), (1, .sl false 4 (m.map (Letter.row false))), (5, i64 j)], []⟩) (fun j _ => decide (l = m) = decide (l.drop j = m.drop j)) () (by simp) ?_
  intro j _ hj hI
  try simp only [go_sem, hE, hH, c_laws_eqLetterS_l1]
  first | refine gd_t (fun h => ?_) (fun h => ?_) | refine gd_f (fun h => ?_) (fun h => ?_)
  · have hb := h
    simp only [nf] at h
    have hlt := h; clear h
    have hlm : j < m.length := by omega
    rw [drop_eq hlt hlm] at hI
    have hs := hx _ (nth_mem hlt)
    try simp (disch := omega) only [go_sem, hE, hH, hb]
    repeat' (first | ((with_reducible first | refine gd_t ?_ ?_ | refine gd_f ?_ ?_) <;> (intro h; have hb := h; (try simp only [nf] at h); simp (disch := omega) only [go_sem, hE, hH, hb]; (try clear hb))) | ((with_reducible refine And.intro ?_ ?_); · omega) | ((first | refine ok_view ?_ | refine cvA (eqLetter_ok _ _ (by assumption)) ?_); simp (disch := omega) only [go_sem, hE, hH]) | (refine jn _ ?_ ?_) | (with_reducible refine both ?_ ?_) | (with_reducible refine And.intro ?_ ?_) | (refine fin_eq ?_; (try (simp (disch := omega) only [go_sem, hE, hH])); first | done | rfl) | (simp (disch := omega) only [go_sem, hE, hH]) | ((first | apply noMLL_sE | apply pk_sE) <;> (simp only [go_sem, hE, hH]; done)) | (simp only [go_sem, hE, hH]) | fail)
    · rw [hI]; simp [h]
    · exact ⟨(), rfl, by rw [hI]; simp [h]⟩
  · have hb := h
    simp only [nf] at h
    try simp (disch := omega) only [go_sem, hE, hH, hb]
    rw [hI, List.drop_of_length_le (by omega), List.drop_of_length_le (by omega)]
    rfl
theorem eqPollActS_ok (l m : List PollAct) (hl : limL (PollAct.lim) l) : ACall Tryz.prog n_laws_eqPollActS [.sl false 3 (l.map (PollAct.row false)), .sl false 3 (m.map (PollAct.row false))] (fun r _ => r = bl (decide (l = m))) := by
  obtain ⟨hl, hx⟩ := hl
  have hm := mx_eq
  refine fn_in h_laws_eqPollActS r_laws_eqPollActS ⟨by simp only [go_sem], fun E hE hH => ?_⟩; simp only [go_sem] at hE hH; simp only [go_sem, hE, hH, c_laws_eqPollActS]
  repeat' (first | ((with_reducible first | refine gd_t ?_ ?_ | refine gd_f ?_ ?_) <;> (intro h; have hb := h; (try simp only [nf] at h); simp (disch := omega) only [go_sem, hE, hH, hb]; (try clear hb))) | ((with_reducible refine And.intro ?_ ?_); · omega) | (refine jn _ ?_ ?_) | (with_reducible refine both ?_ ?_) | (with_reducible refine And.intro ?_ ?_) | (refine fin_eq ?_; (try (simp (disch := omega) only [go_sem, hE, hH])); first | done | rfl) | (simp (disch := omega) only [go_sem, hE, hH]) | ((first | apply noMLL_sE | apply pk_sE) <;> (simp only [go_sem, hE, hH]; done)) | (simp only [go_sem, hE, hH]) | fail)
  · rw [decide_eq_false (fun e => h (by rw [e]))]
  have hlen : l.length = m.length := by omega
  clear h
  refine loopN l.length (fun j (_ : Unit) => ⟨[(0, .sl false 3 (l.map (PollAct.row false))), (1, .sl false 3 (m.map (PollAct.row false))), (5, i64 j)], []⟩) (fun j _ => decide (l = m) = decide (l.drop j = m.drop j)) () (by simp) ?_
  intro j _ hj hI
  try simp only [go_sem, hE, hH, c_laws_eqPollActS_l1]
  first | refine gd_t (fun h => ?_) (fun h => ?_) | refine gd_f (fun h => ?_) (fun h => ?_)
  · have hb := h
    simp only [nf] at h
    have hlt := h; clear h
    have hlm : j < m.length := by omega
    rw [drop_eq hlt hlm] at hI
    have hs := hx _ (nth_mem hlt)
    try simp (disch := omega) only [go_sem, hE, hH, hb]
    repeat' (first | ((with_reducible first | refine gd_t ?_ ?_ | refine gd_f ?_ ?_) <;> (intro h; have hb := h; (try simp only [nf] at h); simp (disch := omega) only [go_sem, hE, hH, hb]; (try clear hb))) | ((with_reducible refine And.intro ?_ ?_); · omega) | ((first | refine ok_view ?_ | refine cvA (eqPollAct_ok _ _ (by assumption)) ?_); simp (disch := omega) only [go_sem, hE, hH]) | (refine jn _ ?_ ?_) | (with_reducible refine both ?_ ?_) | (with_reducible refine And.intro ?_ ?_) | (refine fin_eq ?_; (try (simp (disch := omega) only [go_sem, hE, hH])); first | done | rfl) | (simp (disch := omega) only [go_sem, hE, hH]) | ((first | apply noMLL_sE | apply pk_sE) <;> (simp only [go_sem, hE, hH]; done)) | (simp only [go_sem, hE, hH]) | fail)
    · rw [hI]; simp [h]
    · exact ⟨(), rfl, by rw [hI]; simp [h]⟩
  · have hb := h
    simp only [nf] at h
    try simp (disch := omega) only [go_sem, hE, hH, hb]
    rw [hI, List.drop_of_length_le (by omega), List.drop_of_length_le (by omega)]
    rfl
theorem eqVoter_ok (x y : Voter) (hl : x.lim) : ACall Tryz.prog n_laws_eqVoter [.agg (Voter.row false x), .agg (Voter.row false y)] (fun r _ => r = bl (decide (x = y))) := by
  have l_Yes := hl; unfold Voter.lim at l_Yes
  obtain ⟨x_Up, x_Term, x_For, x_Yes, x_Leads⟩ := x
  obtain ⟨y_Up, y_Term, y_For, y_Yes, y_Leads⟩ := y
  refine fn_in h_laws_eqVoter r_laws_eqVoter ⟨by simp only [go_sem], fun E hE hH => ?_⟩; simp only [go_sem] at hE hH; simp only [go_sem, hE, hH, c_laws_eqVoter]
  repeat' (first | ((with_reducible first | refine gd_t ?_ ?_ | refine gd_f ?_ ?_) <;> (intro h; have hb := h; (try simp only [nf] at h); simp (disch := omega) only [go_sem, hE, hH, hb]; (try clear hb))) | ((with_reducible refine And.intro ?_ ?_); · omega) | ((first | refine ok_view ?_ | refine cvA (eqIntS_ok _ _ (by assumption)) ?_); simp (disch := omega) only [go_sem, hE, hH]) | (refine jn _ ?_ ?_) | (with_reducible refine both ?_ ?_) | (with_reducible refine And.intro ?_ ?_) | (refine fin_eq ?_; (try (simp (disch := omega) only [go_sem, hE, hH])); first | done | rfl) | (simp (disch := omega) only [go_sem, hE, hH]) | ((first | apply noMLL_sE | apply pk_sE) <;> (simp only [go_sem, hE, hH]; done)) | (simp only [go_sem, hE, hH]) | fail)
  all_goals simp_all [Voter.mk.injEq]
theorem eqWonS_ok (l m : List Won) (hl : limL (Won.lim) l) : ACall Tryz.prog n_laws_eqWonS [.sl false 2 (l.map (Won.row false)), .sl false 2 (m.map (Won.row false))] (fun r _ => r = bl (decide (l = m))) := by
  obtain ⟨hl, hx⟩ := hl
  have hm := mx_eq
  refine fn_in h_laws_eqWonS r_laws_eqWonS ⟨by simp only [go_sem], fun E hE hH => ?_⟩; simp only [go_sem] at hE hH; simp only [go_sem, hE, hH, c_laws_eqWonS]
  repeat' (first | ((with_reducible first | refine gd_t ?_ ?_ | refine gd_f ?_ ?_) <;> (intro h; have hb := h; (try simp only [nf] at h); simp (disch := omega) only [go_sem, hE, hH, hb]; (try clear hb))) | ((with_reducible refine And.intro ?_ ?_); · omega) | (refine jn _ ?_ ?_) | (with_reducible refine both ?_ ?_) | (with_reducible refine And.intro ?_ ?_) | (refine fin_eq ?_; (try (simp (disch := omega) only [go_sem, hE, hH])); first | done | rfl) | (simp (disch := omega) only [go_sem, hE, hH]) | ((first | apply noMLL_sE | apply pk_sE) <;> (simp only [go_sem, hE, hH]; done)) | (simp only [go_sem, hE, hH]) | fail)
  · rw [decide_eq_false (fun e => h (by rw [e]))]
  have hlen : l.length = m.length := by omega
  clear h
  refine loopN l.length (fun j (_ : Unit) => ⟨[(0, .sl false 2 (l.map (Won.row false))), (1, .sl false 2 (m.map (Won.row false))), (5, i64 j)], []⟩) (fun j _ => decide (l = m) = decide (l.drop j = m.drop j)) () (by simp) ?_
  intro j _ hj hI
  try simp only [go_sem, hE, hH, c_laws_eqWonS_l1]
  first | refine gd_t (fun h => ?_) (fun h => ?_) | refine gd_f (fun h => ?_) (fun h => ?_)
  · have hb := h
    simp only [nf] at h
    have hlt := h; clear h
    have hlm : j < m.length := by omega
    rw [drop_eq hlt hlm] at hI
    have hs := hx _ (nth_mem hlt)
    try simp (disch := omega) only [go_sem, hE, hH, hb]
    repeat' (first | ((with_reducible first | refine gd_t ?_ ?_ | refine gd_f ?_ ?_) <;> (intro h; have hb := h; (try simp only [nf] at h); simp (disch := omega) only [go_sem, hE, hH, hb]; (try clear hb))) | ((with_reducible refine And.intro ?_ ?_); · omega) | ((first | refine ok_view ?_ | refine cvA (eqWon_ok _ _ (by assumption)) ?_); simp (disch := omega) only [go_sem, hE, hH]) | (refine jn _ ?_ ?_) | (with_reducible refine both ?_ ?_) | (with_reducible refine And.intro ?_ ?_) | (refine fin_eq ?_; (try (simp (disch := omega) only [go_sem, hE, hH])); first | done | rfl) | (simp (disch := omega) only [go_sem, hE, hH]) | ((first | apply noMLL_sE | apply pk_sE) <;> (simp only [go_sem, hE, hH]; done)) | (simp only [go_sem, hE, hH]) | fail)
    · rw [hI]; simp [h]
    · exact ⟨(), rfl, by rw [hI]; simp [h]⟩
  · have hb := h
    simp only [nf] at h
    try simp (disch := omega) only [go_sem, hE, hH, hb]
    rw [hI, List.drop_of_length_le (by omega), List.drop_of_length_le (by omega)]
    rfl
theorem eqNet_ok (x y : Net) (hl : x.lim) : ACall Tryz.prog n_laws_eqNet [.agg (Net.row false x), .agg (Net.row false y)] (fun r _ => r = bl (decide (x = y))) := by
  obtain ⟨l_Homes, l_Under⟩ := hl
  obtain ⟨x_Now, x_Homes, x_Far, x_Under⟩ := x
  obtain ⟨y_Now, y_Homes, y_Far, y_Under⟩ := y
  refine fn_in h_laws_eqNet r_laws_eqNet ⟨by simp only [go_sem], fun E hE hH => ?_⟩; simp only [go_sem] at hE hH; simp only [go_sem, hE, hH, c_laws_eqNet]
  repeat' (first | ((with_reducible first | refine gd_t ?_ ?_ | refine gd_f ?_ ?_) <;> (intro h; have hb := h; (try simp only [nf] at h); simp (disch := omega) only [go_sem, hE, hH, hb]; (try clear hb))) | ((with_reducible refine And.intro ?_ ?_); · omega) | ((first | refine ok_view ?_ | refine cvA (eqIntS_ok _ _ (by assumption)) ?_ | refine cvA (eqLetterS_ok _ _ (by assumption)) ?_); simp (disch := omega) only [go_sem, hE, hH]) | (refine jn _ ?_ ?_) | (with_reducible refine both ?_ ?_) | (with_reducible refine And.intro ?_ ?_) | (refine fin_eq ?_; (try (simp (disch := omega) only [go_sem, hE, hH])); first | done | rfl) | (simp (disch := omega) only [go_sem, hE, hH]) | ((first | apply noMLL_sE | apply pk_sE) <;> (simp only [go_sem, hE, hH]; done)) | (simp only [go_sem, hE, hH]) | fail)
  all_goals simp_all [Net.mk.injEq]
theorem eqVoterS_ok (l m : List Voter) (hl : limL (Voter.lim) l) : ACall Tryz.prog n_laws_eqVoterS [.sl false 5 (l.map (Voter.row false)), .sl false 5 (m.map (Voter.row false))] (fun r _ => r = bl (decide (l = m))) := by
  obtain ⟨hl, hx⟩ := hl
  have hm := mx_eq
  refine fn_in h_laws_eqVoterS r_laws_eqVoterS ⟨by simp only [go_sem], fun E hE hH => ?_⟩; simp only [go_sem] at hE hH; simp only [go_sem, hE, hH, c_laws_eqVoterS]
  repeat' (first | ((with_reducible first | refine gd_t ?_ ?_ | refine gd_f ?_ ?_) <;> (intro h; have hb := h; (try simp only [nf] at h); simp (disch := omega) only [go_sem, hE, hH, hb]; (try clear hb))) | ((with_reducible refine And.intro ?_ ?_); · omega) | (refine jn _ ?_ ?_) | (with_reducible refine both ?_ ?_) | (with_reducible refine And.intro ?_ ?_) | (refine fin_eq ?_; (try (simp (disch := omega) only [go_sem, hE, hH])); first | done | rfl) | (simp (disch := omega) only [go_sem, hE, hH]) | ((first | apply noMLL_sE | apply pk_sE) <;> (simp only [go_sem, hE, hH]; done)) | (simp only [go_sem, hE, hH]) | fail)
  · rw [decide_eq_false (fun e => h (by rw [e]))]
  have hlen : l.length = m.length := by omega
  clear h
  refine loopN l.length (fun j (_ : Unit) => ⟨[(0, .sl false 5 (l.map (Voter.row false))), (1, .sl false 5 (m.map (Voter.row false))), (5, i64 j)], []⟩) (fun j _ => decide (l = m) = decide (l.drop j = m.drop j)) () (by simp) ?_
  intro j _ hj hI
  try simp only [go_sem, hE, hH, c_laws_eqVoterS_l1]
  first | refine gd_t (fun h => ?_) (fun h => ?_) | refine gd_f (fun h => ?_) (fun h => ?_)
  · have hb := h
    simp only [nf] at h
    have hlt := h; clear h
    have hlm : j < m.length := by omega
    rw [drop_eq hlt hlm] at hI
    have hs := hx _ (nth_mem hlt)
    try simp (disch := omega) only [go_sem, hE, hH, hb]
    repeat' (first | ((with_reducible first | refine gd_t ?_ ?_ | refine gd_f ?_ ?_) <;> (intro h; have hb := h; (try simp only [nf] at h); simp (disch := omega) only [go_sem, hE, hH, hb]; (try clear hb))) | ((with_reducible refine And.intro ?_ ?_); · omega) | ((first | refine ok_view ?_ | refine cvA (eqVoter_ok _ _ (by assumption)) ?_); simp (disch := omega) only [go_sem, hE, hH]) | (refine jn _ ?_ ?_) | (with_reducible refine both ?_ ?_) | (with_reducible refine And.intro ?_ ?_) | (refine fin_eq ?_; (try (simp (disch := omega) only [go_sem, hE, hH])); first | done | rfl) | (simp (disch := omega) only [go_sem, hE, hH]) | ((first | apply noMLL_sE | apply pk_sE) <;> (simp only [go_sem, hE, hH]; done)) | (simp only [go_sem, hE, hH]) | fail)
    · rw [hI]; simp [h]
    · exact ⟨(), rfl, by rw [hI]; simp [h]⟩
  · have hb := h
    simp only [nf] at h
    try simp (disch := omega) only [go_sem, hE, hH, hb]
    rw [hI, List.drop_of_length_le (by omega), List.drop_of_length_le (by omega)]
    rfl
theorem eqPoll_ok (x y : Poll) (hl : x.lim) : ACall Tryz.prog n_laws_eqPoll [.agg (Poll.row false x), .agg (Poll.row false y)] (fun r _ => r = bl (decide (x = y))) := by
  obtain ⟨l_Voters, l_Net, l_Won⟩ := hl
  obtain ⟨x_Voters, x_Net, x_Won⟩ := x
  obtain ⟨y_Voters, y_Net, y_Won⟩ := y
  refine fn_in h_laws_eqPoll r_laws_eqPoll ⟨by simp only [go_sem], fun E hE hH => ?_⟩; simp only [go_sem] at hE hH; simp only [go_sem, hE, hH, c_laws_eqPoll]
  repeat' (first | ((with_reducible first | refine gd_t ?_ ?_ | refine gd_f ?_ ?_) <;> (intro h; have hb := h; (try simp only [nf] at h); simp (disch := omega) only [go_sem, hE, hH, hb]; (try clear hb))) | ((with_reducible refine And.intro ?_ ?_); · omega) | ((first | refine ok_view ?_ | refine cvA (eqVoterS_ok _ _ (by assumption)) ?_ | refine cvA (eqNet_ok _ _ (by assumption)) ?_ | refine cvA (eqWonS_ok _ _ (by assumption)) ?_); simp (disch := omega) only [go_sem, hE, hH]) | (refine jn _ ?_ ?_) | (with_reducible refine both ?_ ?_) | (with_reducible refine And.intro ?_ ?_) | (refine fin_eq ?_; (try (simp (disch := omega) only [go_sem, hE, hH])); first | done | rfl) | (simp (disch := omega) only [go_sem, hE, hH]) | ((first | apply noMLL_sE | apply pk_sE) <;> (simp only [go_sem, hE, hH]; done)) | (simp only [go_sem, hE, hH]) | fail)
  all_goals simp_all [Poll.mk.injEq]
end Go.Proofs.Wb

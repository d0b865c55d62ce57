/- The types of the laws and their helper functions. -/
import Derived.Test.YtdahmcffofifdaaFnExactDeliverCodes
import Derived.Test.YtdahmcffofifdaaAmSet
set_option linter.unusedSimpArgs false
set_option linter.unusedVariables false
set_option linter.unusedSectionVars false
namespace Go.Proofs.Wb
open Go Go.Am
--@T Got
structure Got where
  Key : ByteArray
  Val : ByteArray
  There : Bool
  deriving DecidableEq, Inhabited
def Got.row (o : Bool) (x : Got) : List T := [str x.Key, str x.Val, bl x.There]
@[go_sem] theorem Got.row_eq (o : Bool) (x : Got) : Got.row o x = [str x.Key, str x.Val, bl x.There] := rfl
def Got.wf (x : Got) : Prop := (x.Key.size ≤ maxLen) ∧ (x.Val.size ≤ maxLen)
def Got.sz (x : Got) : Nat := x.Key.size + x.Val.size
--@T Letter
structure Letter where
  From : Int
  To : Int
  Due : Int
  Body : ByteArray
  deriving DecidableEq, Inhabited
def Letter.row (o : Bool) (x : Letter) : List T := [i64 x.From, i64 x.To, i64 x.Due, str x.Body]
@[go_sem] theorem Letter.row_eq (o : Bool) (x : Letter) : Letter.row o x = [i64 x.From, i64 x.To, i64 x.Due, str x.Body] := rfl
def Letter.wf (x : Letter) : Prop := (-9223372036854775808 ≤ x.From ∧ x.From ≤ 9223372036854775807) ∧ (-9223372036854775808 ≤ x.To ∧ x.To ≤ 9223372036854775807) ∧ (-9223372036854775808 ≤ x.Due ∧ x.Due ≤ 9223372036854775807) ∧ (x.Body.size ≤ maxLen)
def Letter.sz (x : Letter) : Nat := x.Body.size
--@T Write
structure Write where
  Key : ByteArray
  Val : ByteArray
  Gone : Bool
  deriving DecidableEq, Inhabited
def Write.row (o : Bool) (x : Write) : List T := [str x.Key, str x.Val, bl x.Gone]
@[go_sem] theorem Write.row_eq (o : Bool) (x : Write) : Write.row o x = [str x.Key, str x.Val, bl x.Gone] := rfl
def Write.wf (x : Write) : Prop := (x.Key.size ≤ maxLen) ∧ (x.Val.size ≤ maxLen)
def Write.sz (x : Write) : Nat := x.Key.size + x.Val.size
--@T Voter
structure Voter where
  Up : Bool
  Term : Int
  For : Int
  Yes : List Int
  Leads : Bool
  deriving DecidableEq, Inhabited
def Voter.row (o : Bool) (x : Voter) : List T := [bl x.Up, i64 x.Term, i64 x.For, .sl o 1 (ints x.Yes), bl x.Leads]
@[go_sem] theorem Voter.row_eq (o : Bool) (x : Voter) : Voter.row o x = [bl x.Up, i64 x.Term, i64 x.For, .sl o 1 (ints x.Yes), bl x.Leads] := rfl
def Voter.wf (x : Voter) : Prop := (-9223372036854775808 ≤ x.Term ∧ x.Term ≤ 9223372036854775807) ∧ (-9223372036854775808 ≤ x.For ∧ x.For ≤ 9223372036854775807) ∧ (wfL (fun n => -9223372036854775808 ≤ n ∧ n ≤ 9223372036854775807) x.Yes)
def Voter.sz (x : Voter) : Nat := x.Yes.length
--@T Won
structure Won where
  Term : Int
  Who : Int
  deriving DecidableEq, Inhabited
def Won.row (o : Bool) (x : Won) : List T := [i64 x.Term, i64 x.Who]
@[go_sem] theorem Won.row_eq (o : Bool) (x : Won) : Won.row o x = [i64 x.Term, i64 x.Who] := rfl
def Won.wf (x : Won) : Prop := (-9223372036854775808 ≤ x.Term ∧ x.Term ≤ 9223372036854775807) ∧ (-9223372036854775808 ≤ x.Who ∧ x.Who ≤ 9223372036854775807)
--@T Deed
structure Deed where
  Txn : Int
  Begin : Int
  End : Int
  Yes : Bool
  Look : Bool
  Time : Int
  Got : List Got
  Writes : List Write
  deriving DecidableEq, Inhabited
def Deed.row (o : Bool) (x : Deed) : List T := [i64 x.Txn, i64 x.Begin, i64 x.End, bl x.Yes, bl x.Look, i64 x.Time, .sl o 3 (x.Got.map (Got.row o)), .sl o 3 (x.Writes.map (Write.row o))]
@[go_sem] theorem Deed.row_eq (o : Bool) (x : Deed) : Deed.row o x = [i64 x.Txn, i64 x.Begin, i64 x.End, bl x.Yes, bl x.Look, i64 x.Time, .sl o 3 (x.Got.map (Got.row o)), .sl o 3 (x.Writes.map (Write.row o))] := rfl
def Deed.wf (x : Deed) : Prop := (-9223372036854775808 ≤ x.Txn ∧ x.Txn ≤ 9223372036854775807) ∧ (-9223372036854775808 ≤ x.Begin ∧ x.Begin ≤ 9223372036854775807) ∧ (-9223372036854775808 ≤ x.End ∧ x.End ≤ 9223372036854775807) ∧ (-9223372036854775808 ≤ x.Time ∧ x.Time ≤ 9223372036854775807) ∧ (wfL (Got.wf) x.Got) ∧ (wfL (Write.wf) x.Writes)
def Deed.sz (x : Deed) : Nat := szL (Got.sz) x.Got + szL (Write.sz) x.Writes
--@T Net
structure Net where
  Now : Int
  Homes : List Int
  Far : Int
  Under : List Letter
  deriving DecidableEq, Inhabited
def Net.row (o : Bool) (x : Net) : List T := [i64 x.Now, .sl o 1 (ints x.Homes), i64 x.Far, .sl o 4 (x.Under.map (Letter.row o))]
@[go_sem] theorem Net.row_eq (o : Bool) (x : Net) : Net.row o x = [i64 x.Now, .sl o 1 (ints x.Homes), i64 x.Far, .sl o 4 (x.Under.map (Letter.row o))] := rfl
def Net.wf (x : Net) : Prop := (-9223372036854775808 ≤ x.Now ∧ x.Now ≤ 9223372036854775807) ∧ (wfL (fun n => -9223372036854775808 ≤ n ∧ n ≤ 9223372036854775807) x.Homes) ∧ (-9223372036854775808 ≤ x.Far ∧ x.Far ≤ 9223372036854775807) ∧ (wfL (Letter.wf) x.Under)
def Net.sz (x : Net) : Nat := x.Homes.length + szL (Letter.sz) x.Under
--@T Poll
structure Poll where
  Voters : List Voter
  Net : Net
  Won : List Won
  deriving DecidableEq, Inhabited
def Poll.row (o : Bool) (x : Poll) : List T := [.sl o 5 (x.Voters.map (Voter.row o)), i64 x.Net.Now, .sl o 1 (ints x.Net.Homes), i64 x.Net.Far, .sl o 4 (x.Net.Under.map (Letter.row o)), .sl o 2 (x.Won.map (Won.row o))]
@[go_sem] theorem Poll.row_eq (o : Bool) (x : Poll) : Poll.row o x = [.sl o 5 (x.Voters.map (Voter.row o)), i64 x.Net.Now, .sl o 1 (ints x.Net.Homes), i64 x.Net.Far, .sl o 4 (x.Net.Under.map (Letter.row o)), .sl o 2 (x.Won.map (Won.row o))] := rfl
def Poll.wf (x : Poll) : Prop := (wfL (Voter.wf) x.Voters) ∧ (x.Net.wf) ∧ (wfL (Won.wf) x.Won)
def Poll.sz (x : Poll) : Nat := szL (Voter.sz) x.Voters + x.Net.sz + x.Won.length
def Got.lim (x : Got) : Prop := True
theorem Got.lim_of {x : Got} (h : x.wf) : x.lim := by
  exact trivial
def Letter.lim (x : Letter) : Prop := True
theorem Letter.lim_of {x : Letter} (h : x.wf) : x.lim := by
  exact trivial
def Write.lim (x : Write) : Prop := True
theorem Write.lim_of {x : Write} (h : x.wf) : x.lim := by
  exact trivial
def Voter.lim (x : Voter) : Prop := (limL (fun _ => True) x.Yes)
theorem Voter.lim_of {x : Voter} (h : x.wf) : x.lim := by
  obtain ⟨w_Term, w_For, w_Yes⟩ := h
  exact ⟨w_Yes.1, fun _ _ => trivial⟩
def Won.lim (x : Won) : Prop := True
theorem Won.lim_of {x : Won} (h : x.wf) : x.lim := by
  exact trivial
def Deed.lim (x : Deed) : Prop := (limL (Got.lim) x.Got) ∧ (limL (Write.lim) x.Writes)
theorem Deed.lim_of {x : Deed} (h : x.wf) : x.lim := by
  obtain ⟨w_Txn, w_Begin, w_End, w_Time, w_Got, w_Writes⟩ := h
  exact ⟨⟨w_Got.1, fun y hy => Got.lim_of (w_Got.2 y hy)⟩, ⟨w_Writes.1, fun y hy => Write.lim_of (w_Writes.2 y hy)⟩⟩
def Net.lim (x : Net) : Prop := (limL (fun _ => True) x.Homes) ∧ (limL (Letter.lim) x.Under)
theorem Net.lim_of {x : Net} (h : x.wf) : x.lim := by
  obtain ⟨w_Now, w_Homes, w_Far, w_Under⟩ := h
  exact ⟨⟨w_Homes.1, fun _ _ => trivial⟩, ⟨w_Under.1, fun y hy => Letter.lim_of (w_Under.2 y hy)⟩⟩
def Poll.lim (x : Poll) : Prop := (limL (Voter.lim) x.Voters) ∧ (x.Net.lim) ∧ (limL (Won.lim) x.Won)
theorem Poll.lim_of {x : Poll} (h : x.wf) : x.lim := by
  obtain ⟨w_Voters, w_Net, w_Won⟩ := h
  exact ⟨⟨w_Voters.1, fun y hy => Voter.lim_of (w_Voters.2 y hy)⟩, Net.lim_of w_Net, ⟨w_Won.1, fun y hy => Won.lim_of (w_Won.2 y hy)⟩⟩
theorem szIntS_ok (l : List Int) (left : Int) (h0 : 0 ≤ left) (h1 : left ≤ 2 ^ 20) (hw : wfL (fun n => -9223372036854775808 ≤ n ∧ n ≤ 9223372036854775807) l) : ACall Try.prog n_laws_szIntS [.sl false 1 (ints l), i64 left]
    (fun r _ => ∃ n : Int, r = i64 n ∧ n ≤ left ∧ (0 ≤ n → n + (l.length : Nat) = left)) := by
  obtain ⟨hl, hx⟩ := hw
  have hm := mx_eq
  refine fn_in h_laws_szIntS r_laws_szIntS ⟨by simp only [go_sem, ↓reduceIte, Nat.reduceEqDiff, Nat.reduceAdd, Nat.reduceSub, Nat.reduceMul, Nat.reduceLT, Nat.reduceLeDiff, Int.reduceToNat, reduceCtorEq], fun E hE hH => ?_⟩; simp only [go_sem, ↓reduceIte, Nat.reduceEqDiff, Nat.reduceAdd, Nat.reduceSub, Nat.reduceMul, Nat.reduceLT, Nat.reduceLeDiff, Int.reduceToNat, reduceCtorEq] at hE hH; simp only [go_sem, hE, hH, ↓reduceIte, Nat.reduceEqDiff, Nat.reduceAdd, Nat.reduceSub, Nat.reduceMul, Nat.reduceLT, Nat.reduceLeDiff, Int.reduceToNat, reduceCtorEq, c_laws_szIntS]
  try simp (disch := omega) only [go_sem, hE, hH, ↓reduceIte, Nat.reduceEqDiff, Nat.reduceAdd, Nat.reduceSub, Nat.reduceMul, Nat.reduceLT, Nat.reduceLeDiff, Int.reduceToNat, reduceCtorEq, wrap_id, getD_map, getD_ms, getD_cs, cpy_len]
  repeat' (first | ((first | refine gd_t (fun h => ?_) (fun h => ?_) | refine gd_f (fun h => ?_) (fun h => ?_)) <;> (have hb := h; (try simp only [decide_eq_true_eq, decide_eq_false_iff_not, Int.not_lt, Int.not_le, ge_iff_le, gt_iff_lt, Bool.not_eq_true', Bool.not_eq_false', beq_iff_eq, bne_iff_ne, beq_eq_false_iff_ne, bne_eq_false_iff_eq, Int.ofNat_lt, Int.ofNat_le] at h); simp (disch := omega) only [go_sem, hE, hH, ↓reduceIte, Nat.reduceEqDiff, Nat.reduceAdd, Nat.reduceSub, Nat.reduceMul, Nat.reduceLT, Nat.reduceLeDiff, Int.reduceToNat, reduceCtorEq, wrap_id, getD_map, getD_ms, getD_cs, cpy_len, hb]; (try clear hb))) | (refine And.intro (by omega) ?_) | (refine jn _ ?_ ?_) | (refine both ?_ ?_) | (refine fin_eq ?_; (try (simp (disch := omega) only [go_sem, hE, hH, ↓reduceIte, Nat.reduceEqDiff, Nat.reduceAdd, Nat.reduceSub, Nat.reduceMul, Nat.reduceLT, Nat.reduceLeDiff, Int.reduceToNat, reduceCtorEq, wrap_id, getD_map, getD_ms, getD_cs, cpy_len])); first | done | rfl) | (simp (disch := omega) only [go_sem, hE, hH, ↓reduceIte, Nat.reduceEqDiff, Nat.reduceAdd, Nat.reduceSub, Nat.reduceMul, Nat.reduceLT, Nat.reduceLeDiff, Int.reduceToNat, reduceCtorEq, wrap_id, getD_map, getD_ms, getD_cs, cpy_len]) | (exact (noMLL_set (by simp only [go_sem, hE, hH, ↓reduceIte, Nat.reduceEqDiff, Nat.reduceAdd, Nat.reduceSub, Nat.reduceMul, Nat.reduceLT, Nat.reduceLeDiff, Int.reduceToNat, reduceCtorEq]) (by simp only [go_sem, hE, hH, ↓reduceIte, Nat.reduceEqDiff, Nat.reduceAdd, Nat.reduceSub, Nat.reduceMul, Nat.reduceLT, Nat.reduceLeDiff, Int.reduceToNat, reduceCtorEq])).2 trivial) | (exact (pk_set (by simp only [go_sem, hE, hH, ↓reduceIte, Nat.reduceEqDiff, Nat.reduceAdd, Nat.reduceSub, Nat.reduceMul, Nat.reduceLT, Nat.reduceLeDiff, Int.reduceToNat, reduceCtorEq]) (by simp only [go_sem, hE, hH, ↓reduceIte, Nat.reduceEqDiff, Nat.reduceAdd, Nat.reduceSub, Nat.reduceMul, Nat.reduceLT, Nat.reduceLeDiff, Int.reduceToNat, reduceCtorEq])).2 trivial) | (simp only [go_sem, hE, hH, ↓reduceIte, Nat.reduceEqDiff, Nat.reduceAdd, Nat.reduceSub, Nat.reduceMul, Nat.reduceLT, Nat.reduceLeDiff, Int.reduceToNat, reduceCtorEq]) | fail)
  · exact ⟨_, rfl, by omega, by omega⟩
  · exact ⟨_, rfl, by omega, by omega⟩
theorem szLetter_ok (x : Letter) (left : Int) (h0 : 0 ≤ left) (h1 : left ≤ 2 ^ 20) (hw : x.wf) : ACall Try.prog n_laws_szLetter [.agg (Letter.row false x), i64 left]
    (fun r _ => ∃ n : Int, r = i64 n ∧ n ≤ left ∧ (0 ≤ n → n + (x.sz : Nat) = left)) := by
  obtain ⟨w_From, w_To, w_Due, w_Body⟩ := hw
  have hm := mx_eq
  refine fn_in h_laws_szLetter r_laws_szLetter ⟨by simp only [go_sem, ↓reduceIte, Nat.reduceEqDiff, Nat.reduceAdd, Nat.reduceSub, Nat.reduceMul, Nat.reduceLT, Nat.reduceLeDiff, Int.reduceToNat, reduceCtorEq], fun E hE hH => ?_⟩; simp only [go_sem, ↓reduceIte, Nat.reduceEqDiff, Nat.reduceAdd, Nat.reduceSub, Nat.reduceMul, Nat.reduceLT, Nat.reduceLeDiff, Int.reduceToNat, reduceCtorEq] at hE hH; simp only [go_sem, hE, hH, ↓reduceIte, Nat.reduceEqDiff, Nat.reduceAdd, Nat.reduceSub, Nat.reduceMul, Nat.reduceLT, Nat.reduceLeDiff, Int.reduceToNat, reduceCtorEq, c_laws_szLetter]
  try simp (disch := omega) only [go_sem, hE, hH, ↓reduceIte, Nat.reduceEqDiff, Nat.reduceAdd, Nat.reduceSub, Nat.reduceMul, Nat.reduceLT, Nat.reduceLeDiff, Int.reduceToNat, reduceCtorEq, wrap_id, getD_map, getD_ms, getD_cs, cpy_len]
  first | refine gd_t (fun h => ?_) (fun h => ?_) | refine gd_f (fun h => ?_) (fun h => ?_)
  · have hb := h
    simp only [decide_eq_true_eq, decide_eq_false_iff_not, Int.not_lt, Int.not_le, ge_iff_le, gt_iff_lt, Bool.not_eq_true', Bool.not_eq_false', beq_iff_eq, bne_iff_ne, beq_eq_false_iff_ne, bne_eq_false_iff_eq, Int.ofNat_lt, Int.ofNat_le] at h
    try simp (disch := omega) only [go_sem, hE, hH, ↓reduceIte, Nat.reduceEqDiff, Nat.reduceAdd, Nat.reduceSub, Nat.reduceMul, Nat.reduceLT, Nat.reduceLeDiff, Int.reduceToNat, reduceCtorEq, wrap_id, getD_map, getD_ms, getD_cs, cpy_len, hb]
    exact ⟨_, rfl, by omega, by omega⟩
  have hb := h
  simp only [decide_eq_true_eq, decide_eq_false_iff_not, Int.not_lt, Int.not_le, ge_iff_le, gt_iff_lt, Bool.not_eq_true', Bool.not_eq_false', beq_iff_eq, bne_iff_ne, beq_eq_false_iff_ne, bne_eq_false_iff_eq, Int.ofNat_lt, Int.ofNat_le] at h
  try simp (disch := omega) only [go_sem, hE, hH, ↓reduceIte, Nat.reduceEqDiff, Nat.reduceAdd, Nat.reduceSub, Nat.reduceMul, Nat.reduceLT, Nat.reduceLeDiff, Int.reduceToNat, reduceCtorEq, wrap_id, getD_map, getD_ms, getD_cs, cpy_len, hb]
  have p0 : 0 ≤ left - (x.Body.size : Int) := by omega
  clear h hb
  exact ⟨_, rfl, by omega, fun _ => by unfold Letter.sz; omega⟩
theorem szLetterS_ok (l : List Letter) (left : Int) (h0 : 0 ≤ left) (h1 : left ≤ 2 ^ 20) (hw : wfL (Letter.wf) l) : ACall Try.prog n_laws_szLetterS [.sl false 4 (l.map (Letter.row false)), i64 left]
    (fun r _ => ∃ n : Int, r = i64 n ∧ n ≤ left ∧ (0 ≤ n → n + (szL (Letter.sz) l : Nat) = left)) := by
  obtain ⟨hl, hx⟩ := hw
  have hm := mx_eq
  refine fn_in h_laws_szLetterS r_laws_szLetterS ⟨by simp only [go_sem, ↓reduceIte, Nat.reduceEqDiff, Nat.reduceAdd, Nat.reduceSub, Nat.reduceMul, Nat.reduceLT, Nat.reduceLeDiff, Int.reduceToNat, reduceCtorEq], fun E hE hH => ?_⟩; simp only [go_sem, ↓reduceIte, Nat.reduceEqDiff, Nat.reduceAdd, Nat.reduceSub, Nat.reduceMul, Nat.reduceLT, Nat.reduceLeDiff, Int.reduceToNat, reduceCtorEq] at hE hH; simp only [go_sem, hE, hH, ↓reduceIte, Nat.reduceEqDiff, Nat.reduceAdd, Nat.reduceSub, Nat.reduceMul, Nat.reduceLT, Nat.reduceLeDiff, Int.reduceToNat, reduceCtorEq, c_laws_szLetterS]
  try simp (disch := omega) only [go_sem, hE, hH, ↓reduceIte, Nat.reduceEqDiff, Nat.reduceAdd, Nat.reduceSub, Nat.reduceMul, Nat.reduceLT, Nat.reduceLeDiff, Int.reduceToNat, reduceCtorEq, wrap_id, getD_map, getD_ms, getD_cs, cpy_len]
  repeat' (first | ((first | refine gd_t (fun h => ?_) (fun h => ?_) | refine gd_f (fun h => ?_) (fun h => ?_)) <;> (have hb := h; (try simp only [decide_eq_true_eq, decide_eq_false_iff_not, Int.not_lt, Int.not_le, ge_iff_le, gt_iff_lt, Bool.not_eq_true', Bool.not_eq_false', beq_iff_eq, bne_iff_ne, beq_eq_false_iff_ne, bne_eq_false_iff_eq, Int.ofNat_lt, Int.ofNat_le] at h); simp (disch := omega) only [go_sem, hE, hH, ↓reduceIte, Nat.reduceEqDiff, Nat.reduceAdd, Nat.reduceSub, Nat.reduceMul, Nat.reduceLT, Nat.reduceLeDiff, Int.reduceToNat, reduceCtorEq, wrap_id, getD_map, getD_ms, getD_cs, cpy_len, hb]; (try clear hb))) | (refine And.intro (by omega) ?_) | (refine jn _ ?_ ?_) | (refine both ?_ ?_) | (refine fin_eq ?_; (try (simp (disch := omega) only [go_sem, hE, hH, ↓reduceIte, Nat.reduceEqDiff, Nat.reduceAdd, Nat.reduceSub, Nat.reduceMul, Nat.reduceLT, Nat.reduceLeDiff, Int.reduceToNat, reduceCtorEq, wrap_id, getD_map, getD_ms, getD_cs, cpy_len])); first | done | rfl) | (simp (disch := omega) only [go_sem, hE, hH, ↓reduceIte, Nat.reduceEqDiff, Nat.reduceAdd, Nat.reduceSub, Nat.reduceMul, Nat.reduceLT, Nat.reduceLeDiff, Int.reduceToNat, reduceCtorEq, wrap_id, getD_map, getD_ms, getD_cs, cpy_len]) | (exact (noMLL_set (by simp only [go_sem, hE, hH, ↓reduceIte, Nat.reduceEqDiff, Nat.reduceAdd, Nat.reduceSub, Nat.reduceMul, Nat.reduceLT, Nat.reduceLeDiff, Int.reduceToNat, reduceCtorEq]) (by simp only [go_sem, hE, hH, ↓reduceIte, Nat.reduceEqDiff, Nat.reduceAdd, Nat.reduceSub, Nat.reduceMul, Nat.reduceLT, Nat.reduceLeDiff, Int.reduceToNat, reduceCtorEq])).2 trivial) | (exact (pk_set (by simp only [go_sem, hE, hH, ↓reduceIte, Nat.reduceEqDiff, Nat.reduceAdd, Nat.reduceSub, Nat.reduceMul, Nat.reduceLT, Nat.reduceLeDiff, Int.reduceToNat, reduceCtorEq]) (by simp only [go_sem, hE, hH, ↓reduceIte, Nat.reduceEqDiff, Nat.reduceAdd, Nat.reduceSub, Nat.reduceMul, Nat.reduceLT, Nat.reduceLeDiff, Int.reduceToNat, reduceCtorEq])).2 trivial) | (simp only [go_sem, hE, hH, ↓reduceIte, Nat.reduceEqDiff, Nat.reduceAdd, Nat.reduceSub, Nat.reduceMul, Nat.reduceLT, Nat.reduceLeDiff, Int.reduceToNat, reduceCtorEq]) | fail)
  · exact ⟨_, rfl, by omega, by omega⟩
  refine loopN l.length (fun j (n : Int) => ⟨[(0, .sl false 4 (l.map (Letter.row false))), (1, i64 n), (5, i64 j)], []⟩) (fun j n => 0 ≤ n ∧ n ≤ left ∧ n + l.length + psum (Letter.sz) l j = left) _ (by rw [psum_zero]; omega) ?_
  intro j n hj hI
  obtain ⟨i1, i0, i2⟩ := hI
  try simp only [go_sem, hE, hH, ↓reduceIte, Nat.reduceEqDiff, Nat.reduceAdd, Nat.reduceSub, Nat.reduceMul, Nat.reduceLT, Nat.reduceLeDiff, Int.reduceToNat, reduceCtorEq, c_laws_szLetterS_l1]
  first | refine gd_t (fun h => ?_) (fun h => ?_) | refine gd_f (fun h => ?_) (fun h => ?_)
  · have hb := h
    simp only [decide_eq_true_eq, decide_eq_false_iff_not, Int.not_lt, Int.not_le, ge_iff_le, gt_iff_lt, Bool.not_eq_true', Bool.not_eq_false', beq_iff_eq, bne_iff_ne, beq_eq_false_iff_ne, bne_eq_false_iff_eq, Int.ofNat_lt, Int.ofNat_le] at h
    have hlt := h; clear h
    have hs := hx _ (nth_mem hlt)
    try simp (disch := omega) only [go_sem, hE, hH, ↓reduceIte, Nat.reduceEqDiff, Nat.reduceAdd, Nat.reduceSub, Nat.reduceMul, Nat.reduceLT, Nat.reduceLeDiff, Int.reduceToNat, reduceCtorEq, wrap_id, getD_map, getD_ms, getD_cs, cpy_len, hb]
    repeat refine And.intro (by omega) ?_
    refine ok_view ?_; simp (disch := omega) only [go_sem, hE, hH, ↓reduceIte, Nat.reduceEqDiff, Nat.reduceAdd, Nat.reduceSub, Nat.reduceMul, Nat.reduceLT, Nat.reduceLeDiff, Int.reduceToNat, reduceCtorEq, wrap_id, getD_map, getD_ms, getD_cs, cpy_len]; refine cvA (szLetter_ok (nth l j) n i1 (by omega) hs) ?_
    try simp only [go_sem, hE, hH, ↓reduceIte, Nat.reduceEqDiff, Nat.reduceAdd, Nat.reduceSub, Nat.reduceMul, Nat.reduceLT, Nat.reduceLeDiff, Int.reduceToNat, reduceCtorEq]
    refine aftV_intro ?_
    rintro r k ⟨q, rfl, q1, q2⟩
    try simp (disch := omega) only [go_sem, hE, hH, ↓reduceIte, Nat.reduceEqDiff, Nat.reduceAdd, Nat.reduceSub, Nat.reduceMul, Nat.reduceLT, Nat.reduceLeDiff, Int.reduceToNat, reduceCtorEq, wrap_id, getD_map, getD_ms, getD_cs, cpy_len]
    repeat' (first | ((first | refine gd_t (fun h => ?_) (fun h => ?_) | refine gd_f (fun h => ?_) (fun h => ?_)) <;> (have hb := h; (try simp only [decide_eq_true_eq, decide_eq_false_iff_not, Int.not_lt, Int.not_le, ge_iff_le, gt_iff_lt, Bool.not_eq_true', Bool.not_eq_false', beq_iff_eq, bne_iff_ne, beq_eq_false_iff_ne, bne_eq_false_iff_eq, Int.ofNat_lt, Int.ofNat_le] at h); simp (disch := omega) only [go_sem, hE, hH, ↓reduceIte, Nat.reduceEqDiff, Nat.reduceAdd, Nat.reduceSub, Nat.reduceMul, Nat.reduceLT, Nat.reduceLeDiff, Int.reduceToNat, reduceCtorEq, wrap_id, getD_map, getD_ms, getD_cs, cpy_len, hb]; (try clear hb))) | (refine And.intro (by omega) ?_) | (refine jn _ ?_ ?_) | (refine both ?_ ?_) | (refine fin_eq ?_; (try (simp (disch := omega) only [go_sem, hE, hH, ↓reduceIte, Nat.reduceEqDiff, Nat.reduceAdd, Nat.reduceSub, Nat.reduceMul, Nat.reduceLT, Nat.reduceLeDiff, Int.reduceToNat, reduceCtorEq, wrap_id, getD_map, getD_ms, getD_cs, cpy_len])); first | done | rfl) | (simp (disch := omega) only [go_sem, hE, hH, ↓reduceIte, Nat.reduceEqDiff, Nat.reduceAdd, Nat.reduceSub, Nat.reduceMul, Nat.reduceLT, Nat.reduceLeDiff, Int.reduceToNat, reduceCtorEq, wrap_id, getD_map, getD_ms, getD_cs, cpy_len]) | (exact (noMLL_set (by simp only [go_sem, hE, hH, ↓reduceIte, Nat.reduceEqDiff, Nat.reduceAdd, Nat.reduceSub, Nat.reduceMul, Nat.reduceLT, Nat.reduceLeDiff, Int.reduceToNat, reduceCtorEq]) (by simp only [go_sem, hE, hH, ↓reduceIte, Nat.reduceEqDiff, Nat.reduceAdd, Nat.reduceSub, Nat.reduceMul, Nat.reduceLT, Nat.reduceLeDiff, Int.reduceToNat, reduceCtorEq])).2 trivial) | (exact (pk_set (by simp only [go_sem, hE, hH, ↓reduceIte, Nat.reduceEqDiff, Nat.reduceAdd, Nat.reduceSub, Nat.reduceMul, Nat.reduceLT, Nat.reduceLeDiff, Int.reduceToNat, reduceCtorEq]) (by simp only [go_sem, hE, hH, ↓reduceIte, Nat.reduceEqDiff, Nat.reduceAdd, Nat.reduceSub, Nat.reduceMul, Nat.reduceLT, Nat.reduceLeDiff, Int.reduceToNat, reduceCtorEq])).2 trivial) | (simp only [go_sem, hE, hH, ↓reduceIte, Nat.reduceEqDiff, Nat.reduceAdd, Nat.reduceSub, Nat.reduceMul, Nat.reduceLT, Nat.reduceLeDiff, Int.reduceToNat, reduceCtorEq]) | fail)
    · exact ⟨_, rfl, by omega, by omega⟩
    · exact ⟨_, rfl, by omega, by omega, by have q2 := q2 (by omega); rw [psum_succ hlt]; omega⟩
  · have hb := h
    simp only [decide_eq_true_eq, decide_eq_false_iff_not, Int.not_lt, Int.not_le, ge_iff_le, gt_iff_lt, Bool.not_eq_true', Bool.not_eq_false', beq_iff_eq, bne_iff_ne, beq_eq_false_iff_ne, bne_eq_false_iff_eq, Int.ofNat_lt, Int.ofNat_le] at h
    try simp (disch := omega) only [go_sem, hE, hH, ↓reduceIte, Nat.reduceEqDiff, Nat.reduceAdd, Nat.reduceSub, Nat.reduceMul, Nat.reduceLT, Nat.reduceLeDiff, Int.reduceToNat, reduceCtorEq, wrap_id, getD_map, getD_ms, getD_cs, cpy_len, hb]
    exact ⟨_, rfl, by omega, fun _ => by rw [psum_all (by omega)] at i2; unfold szL; omega⟩
theorem szNet_ok (x : Net) (left : Int) (h0 : 0 ≤ left) (h1 : left ≤ 2 ^ 20) (hw : x.wf) : ACall Try.prog n_laws_szNet [.agg (Net.row false x), i64 left]
    (fun r _ => ∃ n : Int, r = i64 n ∧ n ≤ left ∧ (0 ≤ n → n + (x.sz : Nat) = left)) := by
  obtain ⟨w_Now, w_Homes, w_Far, w_Under⟩ := hw
  have hm := mx_eq
  refine fn_in h_laws_szNet r_laws_szNet ⟨by simp only [go_sem, ↓reduceIte, Nat.reduceEqDiff, Nat.reduceAdd, Nat.reduceSub, Nat.reduceMul, Nat.reduceLT, Nat.reduceLeDiff, Int.reduceToNat, reduceCtorEq], fun E hE hH => ?_⟩; simp only [go_sem, ↓reduceIte, Nat.reduceEqDiff, Nat.reduceAdd, Nat.reduceSub, Nat.reduceMul, Nat.reduceLT, Nat.reduceLeDiff, Int.reduceToNat, reduceCtorEq] at hE hH; simp only [go_sem, hE, hH, ↓reduceIte, Nat.reduceEqDiff, Nat.reduceAdd, Nat.reduceSub, Nat.reduceMul, Nat.reduceLT, Nat.reduceLeDiff, Int.reduceToNat, reduceCtorEq, c_laws_szNet]
  refine ok_view ?_; simp (disch := omega) only [go_sem, hE, hH, ↓reduceIte, Nat.reduceEqDiff, Nat.reduceAdd, Nat.reduceSub, Nat.reduceMul, Nat.reduceLT, Nat.reduceLeDiff, Int.reduceToNat, reduceCtorEq, wrap_id, getD_map, getD_ms, getD_cs, cpy_len]; refine cvA (szIntS_ok _ _ (by omega) (by omega) w_Homes) ?_
  try simp (disch := omega) only [go_sem, hE, hH, ↓reduceIte, Nat.reduceEqDiff, Nat.reduceAdd, Nat.reduceSub, Nat.reduceMul, Nat.reduceLT, Nat.reduceLeDiff, Int.reduceToNat, reduceCtorEq, wrap_id, getD_map, getD_ms, getD_cs, cpy_len]
  refine aftV_intro ?_
  rintro r k ⟨n0, rfl, a0, b0⟩
  try simp (disch := omega) only [go_sem, hE, hH, ↓reduceIte, Nat.reduceEqDiff, Nat.reduceAdd, Nat.reduceSub, Nat.reduceMul, Nat.reduceLT, Nat.reduceLeDiff, Int.reduceToNat, reduceCtorEq, wrap_id, getD_map, getD_ms, getD_cs, cpy_len]
  first | refine gd_t (fun h => ?_) (fun h => ?_) | refine gd_f (fun h => ?_) (fun h => ?_)
  · have hb := h
    simp only [decide_eq_true_eq, decide_eq_false_iff_not, Int.not_lt, Int.not_le, ge_iff_le, gt_iff_lt, Bool.not_eq_true', Bool.not_eq_false', beq_iff_eq, bne_iff_ne, beq_eq_false_iff_ne, bne_eq_false_iff_eq, Int.ofNat_lt, Int.ofNat_le] at h
    try simp (disch := omega) only [go_sem, hE, hH, ↓reduceIte, Nat.reduceEqDiff, Nat.reduceAdd, Nat.reduceSub, Nat.reduceMul, Nat.reduceLT, Nat.reduceLeDiff, Int.reduceToNat, reduceCtorEq, wrap_id, getD_map, getD_ms, getD_cs, cpy_len, hb]
    exact ⟨_, rfl, by omega, by omega⟩
  have hb := h
  simp only [decide_eq_true_eq, decide_eq_false_iff_not, Int.not_lt, Int.not_le, ge_iff_le, gt_iff_lt, Bool.not_eq_true', Bool.not_eq_false', beq_iff_eq, bne_iff_ne, beq_eq_false_iff_ne, bne_eq_false_iff_eq, Int.ofNat_lt, Int.ofNat_le] at h
  try simp (disch := omega) only [go_sem, hE, hH, ↓reduceIte, Nat.reduceEqDiff, Nat.reduceAdd, Nat.reduceSub, Nat.reduceMul, Nat.reduceLT, Nat.reduceLeDiff, Int.reduceToNat, reduceCtorEq, wrap_id, getD_map, getD_ms, getD_cs, cpy_len, hb]
  have p0 : 0 ≤ n0 := by omega
  have b0 := b0 p0
  clear h hb
  refine ok_view ?_; simp (disch := omega) only [go_sem, hE, hH, ↓reduceIte, Nat.reduceEqDiff, Nat.reduceAdd, Nat.reduceSub, Nat.reduceMul, Nat.reduceLT, Nat.reduceLeDiff, Int.reduceToNat, reduceCtorEq, wrap_id, getD_map, getD_ms, getD_cs, cpy_len]; refine cvA (szLetterS_ok _ _ p0 (by omega) w_Under) ?_
  try simp (disch := omega) only [go_sem, hE, hH, ↓reduceIte, Nat.reduceEqDiff, Nat.reduceAdd, Nat.reduceSub, Nat.reduceMul, Nat.reduceLT, Nat.reduceLeDiff, Int.reduceToNat, reduceCtorEq, wrap_id, getD_map, getD_ms, getD_cs, cpy_len]
  refine aftV_intro ?_
  rintro r k ⟨n1, rfl, a1, b1⟩
  try simp (disch := omega) only [go_sem, hE, hH, ↓reduceIte, Nat.reduceEqDiff, Nat.reduceAdd, Nat.reduceSub, Nat.reduceMul, Nat.reduceLT, Nat.reduceLeDiff, Int.reduceToNat, reduceCtorEq, wrap_id, getD_map, getD_ms, getD_cs, cpy_len]
  first | refine gd_t (fun h => ?_) (fun h => ?_) | refine gd_f (fun h => ?_) (fun h => ?_)
  · have hb := h
    simp only [decide_eq_true_eq, decide_eq_false_iff_not, Int.not_lt, Int.not_le, ge_iff_le, gt_iff_lt, Bool.not_eq_true', Bool.not_eq_false', beq_iff_eq, bne_iff_ne, beq_eq_false_iff_ne, bne_eq_false_iff_eq, Int.ofNat_lt, Int.ofNat_le] at h
    try simp (disch := omega) only [go_sem, hE, hH, ↓reduceIte, Nat.reduceEqDiff, Nat.reduceAdd, Nat.reduceSub, Nat.reduceMul, Nat.reduceLT, Nat.reduceLeDiff, Int.reduceToNat, reduceCtorEq, wrap_id, getD_map, getD_ms, getD_cs, cpy_len, hb]
    exact ⟨_, rfl, by omega, by omega⟩
  have hb := h
  simp only [decide_eq_true_eq, decide_eq_false_iff_not, Int.not_lt, Int.not_le, ge_iff_le, gt_iff_lt, Bool.not_eq_true', Bool.not_eq_false', beq_iff_eq, bne_iff_ne, beq_eq_false_iff_ne, bne_eq_false_iff_eq, Int.ofNat_lt, Int.ofNat_le] at h
  try simp (disch := omega) only [go_sem, hE, hH, ↓reduceIte, Nat.reduceEqDiff, Nat.reduceAdd, Nat.reduceSub, Nat.reduceMul, Nat.reduceLT, Nat.reduceLeDiff, Int.reduceToNat, reduceCtorEq, wrap_id, getD_map, getD_ms, getD_cs, cpy_len, hb]
  have p1 : 0 ≤ n1 := by omega
  have b1 := b1 p1
  clear h hb
  exact ⟨_, rfl, by omega, fun _ => by unfold Net.sz; omega⟩
theorem toIntS_ok (l : List Int) (hl : l.length ≤ 2 ^ 20) : ACall Try.prog n_laws_toIntS [.sl false 1 (ints l)] (fun r _ => r = .sl true 1 (ints l)) := by
  refine fn_in h_laws_toIntS r_laws_toIntS ⟨by simp only [go_sem, ↓reduceIte, Nat.reduceEqDiff, Nat.reduceAdd, Nat.reduceSub, Nat.reduceMul, Nat.reduceLT, Nat.reduceLeDiff, Int.reduceToNat, reduceCtorEq], fun E hE hH => ?_⟩; simp only [go_sem, ↓reduceIte, Nat.reduceEqDiff, Nat.reduceAdd, Nat.reduceSub, Nat.reduceMul, Nat.reduceLT, Nat.reduceLeDiff, Int.reduceToNat, reduceCtorEq] at hE hH; simp only [go_sem, hE, hH, ↓reduceIte, Nat.reduceEqDiff, Nat.reduceAdd, Nat.reduceSub, Nat.reduceMul, Nat.reduceLT, Nat.reduceLeDiff, Int.reduceToNat, reduceCtorEq, c_laws_toIntS]
  refine And.intro (by omega) ?_
  rw [cpy_zero (fun x => [i64 x])]
  refine loopN l.length (fun j (_ : Unit) => ⟨[(0, .sl false 1 (ints l)), (3, .ref 4000000 0 l.length), (4, i64 j)], [(4000000, ⟨1, cpy (fun x => [i64 x]) [i64 0] l j⟩)]⟩) (fun _ _ => True) () trivial ?_
  intro j _ hj _
  try simp only [go_sem, hE, hH, ↓reduceIte, Nat.reduceEqDiff, Nat.reduceAdd, Nat.reduceSub, Nat.reduceMul, Nat.reduceLT, Nat.reduceLeDiff, Int.reduceToNat, reduceCtorEq, c_laws_toIntS_l1]
  first | refine gd_t (fun h => ?_) (fun h => ?_) | refine gd_f (fun h => ?_) (fun h => ?_)
  · have hb := h
    simp only [decide_eq_true_eq, decide_eq_false_iff_not, Int.not_lt, Int.not_le, ge_iff_le, gt_iff_lt, Bool.not_eq_true', Bool.not_eq_false', beq_iff_eq, bne_iff_ne, beq_eq_false_iff_ne, bne_eq_false_iff_eq, Int.ofNat_lt, Int.ofNat_le] at h
    have hlt := h; clear h
    try simp (disch := omega) only [go_sem, hE, hH, ↓reduceIte, Nat.reduceEqDiff, Nat.reduceAdd, Nat.reduceSub, Nat.reduceMul, Nat.reduceLT, Nat.reduceLeDiff, Int.reduceToNat, reduceCtorEq, wrap_id, getD_map, getD_ms, getD_cs, cpy_len, hb, cpy_at, cpy_len]
    repeat' (first | ((first | refine gd_t (fun h => ?_) (fun h => ?_) | refine gd_f (fun h => ?_) (fun h => ?_)) <;> (have hb := h; (try simp only [decide_eq_true_eq, decide_eq_false_iff_not, Int.not_lt, Int.not_le, ge_iff_le, gt_iff_lt, Bool.not_eq_true', Bool.not_eq_false', beq_iff_eq, bne_iff_ne, beq_eq_false_iff_ne, bne_eq_false_iff_eq, Int.ofNat_lt, Int.ofNat_le] at h); simp (disch := omega) only [go_sem, hE, hH, ↓reduceIte, Nat.reduceEqDiff, Nat.reduceAdd, Nat.reduceSub, Nat.reduceMul, Nat.reduceLT, Nat.reduceLeDiff, Int.reduceToNat, reduceCtorEq, wrap_id, getD_map, getD_ms, getD_cs, cpy_len, hb]; (try clear hb))) | (refine And.intro (by omega) ?_) | (refine jn _ ?_ ?_) | (refine both ?_ ?_) | (refine fin_eq ?_; (try (simp (disch := omega) only [go_sem, hE, hH, ↓reduceIte, Nat.reduceEqDiff, Nat.reduceAdd, Nat.reduceSub, Nat.reduceMul, Nat.reduceLT, Nat.reduceLeDiff, Int.reduceToNat, reduceCtorEq, wrap_id, getD_map, getD_ms, getD_cs, cpy_len])); first | done | rfl) | (simp (disch := omega) only [go_sem, hE, hH, ↓reduceIte, Nat.reduceEqDiff, Nat.reduceAdd, Nat.reduceSub, Nat.reduceMul, Nat.reduceLT, Nat.reduceLeDiff, Int.reduceToNat, reduceCtorEq, wrap_id, getD_map, getD_ms, getD_cs, cpy_len]) | (exact (noMLL_set (by simp only [go_sem, hE, hH, ↓reduceIte, Nat.reduceEqDiff, Nat.reduceAdd, Nat.reduceSub, Nat.reduceMul, Nat.reduceLT, Nat.reduceLeDiff, Int.reduceToNat, reduceCtorEq]) (by simp only [go_sem, hE, hH, ↓reduceIte, Nat.reduceEqDiff, Nat.reduceAdd, Nat.reduceSub, Nat.reduceMul, Nat.reduceLT, Nat.reduceLeDiff, Int.reduceToNat, reduceCtorEq])).2 trivial) | (exact (pk_set (by simp only [go_sem, hE, hH, ↓reduceIte, Nat.reduceEqDiff, Nat.reduceAdd, Nat.reduceSub, Nat.reduceMul, Nat.reduceLT, Nat.reduceLeDiff, Int.reduceToNat, reduceCtorEq]) (by simp only [go_sem, hE, hH, ↓reduceIte, Nat.reduceEqDiff, Nat.reduceAdd, Nat.reduceSub, Nat.reduceMul, Nat.reduceLT, Nat.reduceLeDiff, Int.reduceToNat, reduceCtorEq])).2 trivial) | (simp only [go_sem, hE, hH, ↓reduceIte, Nat.reduceEqDiff, Nat.reduceAdd, Nat.reduceSub, Nat.reduceMul, Nat.reduceLT, Nat.reduceLeDiff, Int.reduceToNat, reduceCtorEq]) | fail)
    try try simp (disch := omega) only [go_sem, hE, hH, ↓reduceIte, Nat.reduceEqDiff, Nat.reduceAdd, Nat.reduceSub, Nat.reduceMul, Nat.reduceLT, Nat.reduceLeDiff, Int.reduceToNat, reduceCtorEq, wrap_id, getD_map, getD_ms, getD_cs, cpy_len, cpy_at, cpy_len]
    repeat refine And.intro (by omega) ?_
    try try simp (disch := omega) only [go_sem, hE, hH, ↓reduceIte, Nat.reduceEqDiff, Nat.reduceAdd, Nat.reduceSub, Nat.reduceMul, Nat.reduceLT, Nat.reduceLeDiff, Int.reduceToNat, reduceCtorEq, wrap_id, getD_map, getD_ms, getD_cs, cpy_len, cpy_at, cpy_len]
    repeat refine And.intro (by omega) ?_
    first | refine ⟨(), ?_, trivial⟩ | refine ⟨(), ?_⟩ | skip
    have hc := cpy_step (f := fun x => [i64 x]) (z := [i64 0]) hlt
    rw [hc]
    rfl
  · have hb := h
    simp only [decide_eq_true_eq, decide_eq_false_iff_not, Int.not_lt, Int.not_le, ge_iff_le, gt_iff_lt, Bool.not_eq_true', Bool.not_eq_false', beq_iff_eq, bne_iff_ne, beq_eq_false_iff_ne, bne_eq_false_iff_eq, Int.ofNat_lt, Int.ofNat_le] at h
    try simp (disch := omega) only [go_sem, hE, hH, ↓reduceIte, Nat.reduceEqDiff, Nat.reduceAdd, Nat.reduceSub, Nat.reduceMul, Nat.reduceLT, Nat.reduceLeDiff, Int.reduceToNat, reduceCtorEq, wrap_id, getD_map, getD_ms, getD_cs, cpy_len, hb, cpy_end]
theorem toLetter_ok (x : Letter) (hs : x.sz ≤ 2 ^ 20) : ACall Try.prog n_laws_toLetter [.agg (Letter.row false x)] (fun r _ => r = .agg (Letter.row true x)) := by
  unfold Letter.sz at hs
  refine fn_in h_laws_toLetter r_laws_toLetter ⟨by simp only [go_sem, ↓reduceIte, Nat.reduceEqDiff, Nat.reduceAdd, Nat.reduceSub, Nat.reduceMul, Nat.reduceLT, Nat.reduceLeDiff, Int.reduceToNat, reduceCtorEq], fun E hE hH => ?_⟩; simp only [go_sem, ↓reduceIte, Nat.reduceEqDiff, Nat.reduceAdd, Nat.reduceSub, Nat.reduceMul, Nat.reduceLT, Nat.reduceLeDiff, Int.reduceToNat, reduceCtorEq] at hE hH; simp only [go_sem, hE, hH, ↓reduceIte, Nat.reduceEqDiff, Nat.reduceAdd, Nat.reduceSub, Nat.reduceMul, Nat.reduceLT, Nat.reduceLeDiff, Int.reduceToNat, reduceCtorEq, c_laws_toLetter]
  repeat' (first | ((first | refine gd_t (fun h => ?_) (fun h => ?_) | refine gd_f (fun h => ?_) (fun h => ?_)) <;> (have hb := h; (try simp only [decide_eq_true_eq, decide_eq_false_iff_not, Int.not_lt, Int.not_le, ge_iff_le, gt_iff_lt, Bool.not_eq_true', Bool.not_eq_false', beq_iff_eq, bne_iff_ne, beq_eq_false_iff_ne, bne_eq_false_iff_eq, Int.ofNat_lt, Int.ofNat_le] at h); simp (disch := omega) only [go_sem, hE, hH, ↓reduceIte, Nat.reduceEqDiff, Nat.reduceAdd, Nat.reduceSub, Nat.reduceMul, Nat.reduceLT, Nat.reduceLeDiff, Int.reduceToNat, reduceCtorEq, wrap_id, getD_map, getD_ms, getD_cs, cpy_len, hb]; (try clear hb))) | (refine And.intro (by omega) ?_) | (refine jn _ ?_ ?_) | (refine both ?_ ?_) | (refine fin_eq ?_; (try (simp (disch := omega) only [go_sem, hE, hH, ↓reduceIte, Nat.reduceEqDiff, Nat.reduceAdd, Nat.reduceSub, Nat.reduceMul, Nat.reduceLT, Nat.reduceLeDiff, Int.reduceToNat, reduceCtorEq, wrap_id, getD_map, getD_ms, getD_cs, cpy_len])); first | done | rfl) | (simp (disch := omega) only [go_sem, hE, hH, ↓reduceIte, Nat.reduceEqDiff, Nat.reduceAdd, Nat.reduceSub, Nat.reduceMul, Nat.reduceLT, Nat.reduceLeDiff, Int.reduceToNat, reduceCtorEq, wrap_id, getD_map, getD_ms, getD_cs, cpy_len]) | (exact (noMLL_set (by simp only [go_sem, hE, hH, ↓reduceIte, Nat.reduceEqDiff, Nat.reduceAdd, Nat.reduceSub, Nat.reduceMul, Nat.reduceLT, Nat.reduceLeDiff, Int.reduceToNat, reduceCtorEq]) (by simp only [go_sem, hE, hH, ↓reduceIte, Nat.reduceEqDiff, Nat.reduceAdd, Nat.reduceSub, Nat.reduceMul, Nat.reduceLT, Nat.reduceLeDiff, Int.reduceToNat, reduceCtorEq])).2 trivial) | (exact (pk_set (by simp only [go_sem, hE, hH, ↓reduceIte, Nat.reduceEqDiff, Nat.reduceAdd, Nat.reduceSub, Nat.reduceMul, Nat.reduceLT, Nat.reduceLeDiff, Int.reduceToNat, reduceCtorEq]) (by simp only [go_sem, hE, hH, ↓reduceIte, Nat.reduceEqDiff, Nat.reduceAdd, Nat.reduceSub, Nat.reduceMul, Nat.reduceLT, Nat.reduceLeDiff, Int.reduceToNat, reduceCtorEq])).2 trivial) | (simp only [go_sem, hE, hH, ↓reduceIte, Nat.reduceEqDiff, Nat.reduceAdd, Nat.reduceSub, Nat.reduceMul, Nat.reduceLT, Nat.reduceLeDiff, Int.reduceToNat, reduceCtorEq]) | fail)
theorem toLetterS_ok (l : List Letter) (hl : szL (Letter.sz) l ≤ 2 ^ 20) : ACall Try.prog n_laws_toLetterS [.sl false 4 (l.map (Letter.row false))] (fun r _ => r = .sl true 4 (l.map (Letter.row true))) := by
  have hl0 : l.length ≤ 2 ^ 20 := Nat.le_trans szL_len hl
  refine fn_in h_laws_toLetterS r_laws_toLetterS ⟨by simp only [go_sem, ↓reduceIte, Nat.reduceEqDiff, Nat.reduceAdd, Nat.reduceSub, Nat.reduceMul, Nat.reduceLT, Nat.reduceLeDiff, Int.reduceToNat, reduceCtorEq], fun E hE hH => ?_⟩; simp only [go_sem, ↓reduceIte, Nat.reduceEqDiff, Nat.reduceAdd, Nat.reduceSub, Nat.reduceMul, Nat.reduceLT, Nat.reduceLeDiff, Int.reduceToNat, reduceCtorEq] at hE hH; simp only [go_sem, hE, hH, ↓reduceIte, Nat.reduceEqDiff, Nat.reduceAdd, Nat.reduceSub, Nat.reduceMul, Nat.reduceLT, Nat.reduceLeDiff, Int.reduceToNat, reduceCtorEq, c_laws_toLetterS]
  refine And.intro (by omega) ?_
  rw [cpy_zero (Letter.row true)]
  refine loopN l.length (fun j (_ : Unit) => ⟨[(0, .sl false 4 (l.map (Letter.row false))), (3, .ref 4000000 0 l.length), (4, i64 j)], [(4000000, ⟨4, cpy (Letter.row true) [i64 0, i64 0, i64 0, str ⟨⟨[]⟩⟩] l j⟩)]⟩) (fun _ _ => True) () trivial ?_
  intro j _ hj _
  try simp only [go_sem, hE, hH, ↓reduceIte, Nat.reduceEqDiff, Nat.reduceAdd, Nat.reduceSub, Nat.reduceMul, Nat.reduceLT, Nat.reduceLeDiff, Int.reduceToNat, reduceCtorEq, c_laws_toLetterS_l1]
  first | refine gd_t (fun h => ?_) (fun h => ?_) | refine gd_f (fun h => ?_) (fun h => ?_)
  · have hb := h
    simp only [decide_eq_true_eq, decide_eq_false_iff_not, Int.not_lt, Int.not_le, ge_iff_le, gt_iff_lt, Bool.not_eq_true', Bool.not_eq_false', beq_iff_eq, bne_iff_ne, beq_eq_false_iff_ne, bne_eq_false_iff_eq, Int.ofNat_lt, Int.ofNat_le] at h
    have hlt := h; clear h
    have hs := Nat.le_trans (szL_mem (f := Letter.sz) (nth_mem hlt)) hl
    try simp (disch := omega) only [go_sem, hE, hH, ↓reduceIte, Nat.reduceEqDiff, Nat.reduceAdd, Nat.reduceSub, Nat.reduceMul, Nat.reduceLT, Nat.reduceLeDiff, Int.reduceToNat, reduceCtorEq, wrap_id, getD_map, getD_ms, getD_cs, cpy_len, hb, cpy_at, cpy_len]
    repeat' (first | ((first | refine gd_t (fun h => ?_) (fun h => ?_) | refine gd_f (fun h => ?_) (fun h => ?_)) <;> (have hb := h; (try simp only [decide_eq_true_eq, decide_eq_false_iff_not, Int.not_lt, Int.not_le, ge_iff_le, gt_iff_lt, Bool.not_eq_true', Bool.not_eq_false', beq_iff_eq, bne_iff_ne, beq_eq_false_iff_ne, bne_eq_false_iff_eq, Int.ofNat_lt, Int.ofNat_le] at h); simp (disch := omega) only [go_sem, hE, hH, ↓reduceIte, Nat.reduceEqDiff, Nat.reduceAdd, Nat.reduceSub, Nat.reduceMul, Nat.reduceLT, Nat.reduceLeDiff, Int.reduceToNat, reduceCtorEq, wrap_id, getD_map, getD_ms, getD_cs, cpy_len, hb]; (try clear hb))) | (refine And.intro (by omega) ?_) | (refine ok_view ?_; simp (disch := omega) only [go_sem, hE, hH, ↓reduceIte, Nat.reduceEqDiff, Nat.reduceAdd, Nat.reduceSub, Nat.reduceMul, Nat.reduceLT, Nat.reduceLeDiff, Int.reduceToNat, reduceCtorEq, wrap_id, getD_map, getD_ms, getD_cs, cpy_len]) | (refine cvA (toLetter_ok _ (by assumption)) ?_; simp (disch := omega) only [go_sem, hE, hH, ↓reduceIte, Nat.reduceEqDiff, Nat.reduceAdd, Nat.reduceSub, Nat.reduceMul, Nat.reduceLT, Nat.reduceLeDiff, Int.reduceToNat, reduceCtorEq, wrap_id, getD_map, getD_ms, getD_cs, cpy_len]) | (refine jn _ ?_ ?_) | (refine both ?_ ?_) | (refine fin_eq ?_; (try (simp (disch := omega) only [go_sem, hE, hH, ↓reduceIte, Nat.reduceEqDiff, Nat.reduceAdd, Nat.reduceSub, Nat.reduceMul, Nat.reduceLT, Nat.reduceLeDiff, Int.reduceToNat, reduceCtorEq, wrap_id, getD_map, getD_ms, getD_cs, cpy_len])); first | done | rfl) | (simp (disch := omega) only [go_sem, hE, hH, ↓reduceIte, Nat.reduceEqDiff, Nat.reduceAdd, Nat.reduceSub, Nat.reduceMul, Nat.reduceLT, Nat.reduceLeDiff, Int.reduceToNat, reduceCtorEq, wrap_id, getD_map, getD_ms, getD_cs, cpy_len]) | (exact (noMLL_set (by simp only [go_sem, hE, hH, ↓reduceIte, Nat.reduceEqDiff, Nat.reduceAdd, Nat.reduceSub, Nat.reduceMul, Nat.reduceLT, Nat.reduceLeDiff, Int.reduceToNat, reduceCtorEq]) (by simp only [go_sem, hE, hH, ↓reduceIte, Nat.reduceEqDiff, Nat.reduceAdd, Nat.reduceSub, Nat.reduceMul, Nat.reduceLT, Nat.reduceLeDiff, Int.reduceToNat, reduceCtorEq])).2 trivial) | (exact (pk_set (by simp only [go_sem, hE, hH, ↓reduceIte, Nat.reduceEqDiff, Nat.reduceAdd, Nat.reduceSub, Nat.reduceMul, Nat.reduceLT, Nat.reduceLeDiff, Int.reduceToNat, reduceCtorEq]) (by simp only [go_sem, hE, hH, ↓reduceIte, Nat.reduceEqDiff, Nat.reduceAdd, Nat.reduceSub, Nat.reduceMul, Nat.reduceLT, Nat.reduceLeDiff, Int.reduceToNat, reduceCtorEq])).2 trivial) | (simp only [go_sem, hE, hH, ↓reduceIte, Nat.reduceEqDiff, Nat.reduceAdd, Nat.reduceSub, Nat.reduceMul, Nat.reduceLT, Nat.reduceLeDiff, Int.reduceToNat, reduceCtorEq]) | fail)
    try try simp (disch := omega) only [go_sem, hE, hH, ↓reduceIte, Nat.reduceEqDiff, Nat.reduceAdd, Nat.reduceSub, Nat.reduceMul, Nat.reduceLT, Nat.reduceLeDiff, Int.reduceToNat, reduceCtorEq, wrap_id, getD_map, getD_ms, getD_cs, cpy_len, cpy_at, cpy_len]
    repeat refine And.intro (by omega) ?_
    try try simp (disch := omega) only [go_sem, hE, hH, ↓reduceIte, Nat.reduceEqDiff, Nat.reduceAdd, Nat.reduceSub, Nat.reduceMul, Nat.reduceLT, Nat.reduceLeDiff, Int.reduceToNat, reduceCtorEq, wrap_id, getD_map, getD_ms, getD_cs, cpy_len, cpy_at, cpy_len]
    repeat refine And.intro (by omega) ?_
    first | refine ⟨(), ?_, trivial⟩ | refine ⟨(), ?_⟩ | skip
    have hc := cpy_step (f := Letter.row true) (z := [i64 0, i64 0, i64 0, str ⟨⟨[]⟩⟩]) hlt
    simp only [Letter.row_eq] at hc ⊢
    rw [hc]
    rfl
  · have hb := h
    simp only [decide_eq_true_eq, decide_eq_false_iff_not, Int.not_lt, Int.not_le, ge_iff_le, gt_iff_lt, Bool.not_eq_true', Bool.not_eq_false', beq_iff_eq, bne_iff_ne, beq_eq_false_iff_ne, bne_eq_false_iff_eq, Int.ofNat_lt, Int.ofNat_le] at h
    try simp (disch := omega) only [go_sem, hE, hH, ↓reduceIte, Nat.reduceEqDiff, Nat.reduceAdd, Nat.reduceSub, Nat.reduceMul, Nat.reduceLT, Nat.reduceLeDiff, Int.reduceToNat, reduceCtorEq, wrap_id, getD_map, getD_ms, getD_cs, cpy_len, hb, cpy_end]
theorem toNet_ok (x : Net) (hs : x.sz ≤ 2 ^ 20) : ACall Try.prog n_laws_toNet [.agg (Net.row false x)] (fun r _ => r = .agg (Net.row true x)) := by
  unfold Net.sz at hs
  refine fn_in h_laws_toNet r_laws_toNet ⟨by simp only [go_sem, ↓reduceIte, Nat.reduceEqDiff, Nat.reduceAdd, Nat.reduceSub, Nat.reduceMul, Nat.reduceLT, Nat.reduceLeDiff, Int.reduceToNat, reduceCtorEq], fun E hE hH => ?_⟩; simp only [go_sem, ↓reduceIte, Nat.reduceEqDiff, Nat.reduceAdd, Nat.reduceSub, Nat.reduceMul, Nat.reduceLT, Nat.reduceLeDiff, Int.reduceToNat, reduceCtorEq] at hE hH; simp only [go_sem, hE, hH, ↓reduceIte, Nat.reduceEqDiff, Nat.reduceAdd, Nat.reduceSub, Nat.reduceMul, Nat.reduceLT, Nat.reduceLeDiff, Int.reduceToNat, reduceCtorEq, c_laws_toNet]
  repeat' (first | ((first | refine gd_t (fun h => ?_) (fun h => ?_) | refine gd_f (fun h => ?_) (fun h => ?_)) <;> (have hb := h; (try simp only [decide_eq_true_eq, decide_eq_false_iff_not, Int.not_lt, Int.not_le, ge_iff_le, gt_iff_lt, Bool.not_eq_true', Bool.not_eq_false', beq_iff_eq, bne_iff_ne, beq_eq_false_iff_ne, bne_eq_false_iff_eq, Int.ofNat_lt, Int.ofNat_le] at h); simp (disch := omega) only [go_sem, hE, hH, ↓reduceIte, Nat.reduceEqDiff, Nat.reduceAdd, Nat.reduceSub, Nat.reduceMul, Nat.reduceLT, Nat.reduceLeDiff, Int.reduceToNat, reduceCtorEq, wrap_id, getD_map, getD_ms, getD_cs, cpy_len, hb]; (try clear hb))) | (refine And.intro (by omega) ?_) | (refine ok_view ?_; simp (disch := omega) only [go_sem, hE, hH, ↓reduceIte, Nat.reduceEqDiff, Nat.reduceAdd, Nat.reduceSub, Nat.reduceMul, Nat.reduceLT, Nat.reduceLeDiff, Int.reduceToNat, reduceCtorEq, wrap_id, getD_map, getD_ms, getD_cs, cpy_len]) | (refine cvA (toIntS_ok _ (by omega)) ?_; simp (disch := omega) only [go_sem, hE, hH, ↓reduceIte, Nat.reduceEqDiff, Nat.reduceAdd, Nat.reduceSub, Nat.reduceMul, Nat.reduceLT, Nat.reduceLeDiff, Int.reduceToNat, reduceCtorEq, wrap_id, getD_map, getD_ms, getD_cs, cpy_len]) | (refine cvA (toLetterS_ok _ (by omega)) ?_; simp (disch := omega) only [go_sem, hE, hH, ↓reduceIte, Nat.reduceEqDiff, Nat.reduceAdd, Nat.reduceSub, Nat.reduceMul, Nat.reduceLT, Nat.reduceLeDiff, Int.reduceToNat, reduceCtorEq, wrap_id, getD_map, getD_ms, getD_cs, cpy_len]) | (refine jn _ ?_ ?_) | (refine both ?_ ?_) | (refine fin_eq ?_; (try (simp (disch := omega) only [go_sem, hE, hH, ↓reduceIte, Nat.reduceEqDiff, Nat.reduceAdd, Nat.reduceSub, Nat.reduceMul, Nat.reduceLT, Nat.reduceLeDiff, Int.reduceToNat, reduceCtorEq, wrap_id, getD_map, getD_ms, getD_cs, cpy_len])); first | done | rfl) | (simp (disch := omega) only [go_sem, hE, hH, ↓reduceIte, Nat.reduceEqDiff, Nat.reduceAdd, Nat.reduceSub, Nat.reduceMul, Nat.reduceLT, Nat.reduceLeDiff, Int.reduceToNat, reduceCtorEq, wrap_id, getD_map, getD_ms, getD_cs, cpy_len]) | (exact (noMLL_set (by simp only [go_sem, hE, hH, ↓reduceIte, Nat.reduceEqDiff, Nat.reduceAdd, Nat.reduceSub, Nat.reduceMul, Nat.reduceLT, Nat.reduceLeDiff, Int.reduceToNat, reduceCtorEq]) (by simp only [go_sem, hE, hH, ↓reduceIte, Nat.reduceEqDiff, Nat.reduceAdd, Nat.reduceSub, Nat.reduceMul, Nat.reduceLT, Nat.reduceLeDiff, Int.reduceToNat, reduceCtorEq])).2 trivial) | (exact (pk_set (by simp only [go_sem, hE, hH, ↓reduceIte, Nat.reduceEqDiff, Nat.reduceAdd, Nat.reduceSub, Nat.reduceMul, Nat.reduceLT, Nat.reduceLeDiff, Int.reduceToNat, reduceCtorEq]) (by simp only [go_sem, hE, hH, ↓reduceIte, Nat.reduceEqDiff, Nat.reduceAdd, Nat.reduceSub, Nat.reduceMul, Nat.reduceLT, Nat.reduceLeDiff, Int.reduceToNat, reduceCtorEq])).2 trivial) | (simp only [go_sem, hE, hH, ↓reduceIte, Nat.reduceEqDiff, Nat.reduceAdd, Nat.reduceSub, Nat.reduceMul, Nat.reduceLT, Nat.reduceLeDiff, Int.reduceToNat, reduceCtorEq]) | fail)
theorem eqIntS_ok (l m : List Int) (hl : limL (fun _ => True) l) : ACall Try.prog n_laws_eqIntS [.sl false 1 (ints l), .sl false 1 (ints m)] (fun r _ => r = bl (decide (l = m))) := by
  obtain ⟨hl, hx⟩ := hl
  have hm := mx_eq
  refine fn_in h_laws_eqIntS r_laws_eqIntS ⟨by simp only [go_sem, ↓reduceIte, Nat.reduceEqDiff, Nat.reduceAdd, Nat.reduceSub, Nat.reduceMul, Nat.reduceLT, Nat.reduceLeDiff, Int.reduceToNat, reduceCtorEq], fun E hE hH => ?_⟩; simp only [go_sem, ↓reduceIte, Nat.reduceEqDiff, Nat.reduceAdd, Nat.reduceSub, Nat.reduceMul, Nat.reduceLT, Nat.reduceLeDiff, Int.reduceToNat, reduceCtorEq] at hE hH; simp only [go_sem, hE, hH, ↓reduceIte, Nat.reduceEqDiff, Nat.reduceAdd, Nat.reduceSub, Nat.reduceMul, Nat.reduceLT, Nat.reduceLeDiff, Int.reduceToNat, reduceCtorEq, c_laws_eqIntS]
  repeat' (first | ((first | refine gd_t (fun h => ?_) (fun h => ?_) | refine gd_f (fun h => ?_) (fun h => ?_)) <;> (have hb := h; (try simp only [decide_eq_true_eq, decide_eq_false_iff_not, Int.not_lt, Int.not_le, ge_iff_le, gt_iff_lt, Bool.not_eq_true', Bool.not_eq_false', beq_iff_eq, bne_iff_ne, beq_eq_false_iff_ne, bne_eq_false_iff_eq, Int.ofNat_lt, Int.ofNat_le] at h); simp (disch := omega) only [go_sem, hE, hH, ↓reduceIte, Nat.reduceEqDiff, Nat.reduceAdd, Nat.reduceSub, Nat.reduceMul, Nat.reduceLT, Nat.reduceLeDiff, Int.reduceToNat, reduceCtorEq, wrap_id, getD_map, getD_ms, getD_cs, cpy_len, hb]; (try clear hb))) | (refine And.intro (by omega) ?_) | (refine jn _ ?_ ?_) | (refine both ?_ ?_) | (refine fin_eq ?_; (try (simp (disch := omega) only [go_sem, hE, hH, ↓reduceIte, Nat.reduceEqDiff, Nat.reduceAdd, Nat.reduceSub, Nat.reduceMul, Nat.reduceLT, Nat.reduceLeDiff, Int.reduceToNat, reduceCtorEq, wrap_id, getD_map, getD_ms, getD_cs, cpy_len])); first | done | rfl) | (simp (disch := omega) only [go_sem, hE, hH, ↓reduceIte, Nat.reduceEqDiff, Nat.reduceAdd, Nat.reduceSub, Nat.reduceMul, Nat.reduceLT, Nat.reduceLeDiff, Int.reduceToNat, reduceCtorEq, wrap_id, getD_map, getD_ms, getD_cs, cpy_len]) | (exact (noMLL_set (by simp only [go_sem, hE, hH, ↓reduceIte, Nat.reduceEqDiff, Nat.reduceAdd, Nat.reduceSub, Nat.reduceMul, Nat.reduceLT, Nat.reduceLeDiff, Int.reduceToNat, reduceCtorEq]) (by simp only [go_sem, hE, hH, ↓reduceIte, Nat.reduceEqDiff, Nat.reduceAdd, Nat.reduceSub, Nat.reduceMul, Nat.reduceLT, Nat.reduceLeDiff, Int.reduceToNat, reduceCtorEq])).2 trivial) | (exact (pk_set (by simp only [go_sem, hE, hH, ↓reduceIte, Nat.reduceEqDiff, Nat.reduceAdd, Nat.reduceSub, Nat.reduceMul, Nat.reduceLT, Nat.reduceLeDiff, Int.reduceToNat, reduceCtorEq]) (by simp only [go_sem, hE, hH, ↓reduceIte, Nat.reduceEqDiff, Nat.reduceAdd, Nat.reduceSub, Nat.reduceMul, Nat.reduceLT, Nat.reduceLeDiff, Int.reduceToNat, reduceCtorEq])).2 trivial) | (simp only [go_sem, hE, hH, ↓reduceIte, Nat.reduceEqDiff, Nat.reduceAdd, Nat.reduceSub, Nat.reduceMul, Nat.reduceLT, Nat.reduceLeDiff, Int.reduceToNat, reduceCtorEq]) | fail)
  · rw [decide_eq_false (fun e => h (by rw [e]))]
  have hlen : l.length = m.length := by omega
  clear h
  refine loopN l.length (fun j (_ : Unit) => ⟨[(0, .sl false 1 (ints l)), (1, .sl false 1 (ints m)), (5, i64 j)], []⟩) (fun j _ => decide (l = m) = decide (l.drop j = m.drop j)) () (by simp) ?_
  intro j _ hj hI
  try simp only [go_sem, hE, hH, ↓reduceIte, Nat.reduceEqDiff, Nat.reduceAdd, Nat.reduceSub, Nat.reduceMul, Nat.reduceLT, Nat.reduceLeDiff, Int.reduceToNat, reduceCtorEq, c_laws_eqIntS_l1]
  first | refine gd_t (fun h => ?_) (fun h => ?_) | refine gd_f (fun h => ?_) (fun h => ?_)
  · have hb := h
    simp only [decide_eq_true_eq, decide_eq_false_iff_not, Int.not_lt, Int.not_le, ge_iff_le, gt_iff_lt, Bool.not_eq_true', Bool.not_eq_false', beq_iff_eq, bne_iff_ne, beq_eq_false_iff_ne, bne_eq_false_iff_eq, Int.ofNat_lt, Int.ofNat_le] at h
    have hlt := h; clear h
    have hlm : j < m.length := by omega
    rw [drop_eq hlt hlm] at hI
    try simp (disch := omega) only [go_sem, hE, hH, ↓reduceIte, Nat.reduceEqDiff, Nat.reduceAdd, Nat.reduceSub, Nat.reduceMul, Nat.reduceLT, Nat.reduceLeDiff, Int.reduceToNat, reduceCtorEq, wrap_id, getD_map, getD_ms, getD_cs, cpy_len, hb]
    repeat' (first | ((first | refine gd_t (fun h => ?_) (fun h => ?_) | refine gd_f (fun h => ?_) (fun h => ?_)) <;> (have hb := h; (try simp only [decide_eq_true_eq, decide_eq_false_iff_not, Int.not_lt, Int.not_le, ge_iff_le, gt_iff_lt, Bool.not_eq_true', Bool.not_eq_false', beq_iff_eq, bne_iff_ne, beq_eq_false_iff_ne, bne_eq_false_iff_eq, Int.ofNat_lt, Int.ofNat_le] at h); simp (disch := omega) only [go_sem, hE, hH, ↓reduceIte, Nat.reduceEqDiff, Nat.reduceAdd, Nat.reduceSub, Nat.reduceMul, Nat.reduceLT, Nat.reduceLeDiff, Int.reduceToNat, reduceCtorEq, wrap_id, getD_map, getD_ms, getD_cs, cpy_len, hb]; (try clear hb))) | (refine And.intro (by omega) ?_) | (refine jn _ ?_ ?_) | (refine both ?_ ?_) | (refine fin_eq ?_; (try (simp (disch := omega) only [go_sem, hE, hH, ↓reduceIte, Nat.reduceEqDiff, Nat.reduceAdd, Nat.reduceSub, Nat.reduceMul, Nat.reduceLT, Nat.reduceLeDiff, Int.reduceToNat, reduceCtorEq, wrap_id, getD_map, getD_ms, getD_cs, cpy_len])); first | done | rfl) | (simp (disch := omega) only [go_sem, hE, hH, ↓reduceIte, Nat.reduceEqDiff, Nat.reduceAdd, Nat.reduceSub, Nat.reduceMul, Nat.reduceLT, Nat.reduceLeDiff, Int.reduceToNat, reduceCtorEq, wrap_id, getD_map, getD_ms, getD_cs, cpy_len]) | (exact (noMLL_set (by simp only [go_sem, hE, hH, ↓reduceIte, Nat.reduceEqDiff, Nat.reduceAdd, Nat.reduceSub, Nat.reduceMul, Nat.reduceLT, Nat.reduceLeDiff, Int.reduceToNat, reduceCtorEq]) (by simp only [go_sem, hE, hH, ↓reduceIte, Nat.reduceEqDiff, Nat.reduceAdd, Nat.reduceSub, Nat.reduceMul, Nat.reduceLT, Nat.reduceLeDiff, Int.reduceToNat, reduceCtorEq])).2 trivial) | (exact (pk_set (by simp only [go_sem, hE, hH, ↓reduceIte, Nat.reduceEqDiff, Nat.reduceAdd, Nat.reduceSub, Nat.reduceMul, Nat.reduceLT, Nat.reduceLeDiff, Int.reduceToNat, reduceCtorEq]) (by simp only [go_sem, hE, hH, ↓reduceIte, Nat.reduceEqDiff, Nat.reduceAdd, Nat.reduceSub, Nat.reduceMul, Nat.reduceLT, Nat.reduceLeDiff, Int.reduceToNat, reduceCtorEq])).2 trivial) | (simp only [go_sem, hE, hH, ↓reduceIte, Nat.reduceEqDiff, Nat.reduceAdd, Nat.reduceSub, Nat.reduceMul, Nat.reduceLT, Nat.reduceLeDiff, Int.reduceToNat, reduceCtorEq]) | fail)
    · rw [hI]; simp [h]
    · exact ⟨(), rfl, by rw [hI]; simp [h]⟩
  · have hb := h
    simp only [decide_eq_true_eq, decide_eq_false_iff_not, Int.not_lt, Int.not_le, ge_iff_le, gt_iff_lt, Bool.not_eq_true', Bool.not_eq_false', beq_iff_eq, bne_iff_ne, beq_eq_false_iff_ne, bne_eq_false_iff_eq, Int.ofNat_lt, Int.ofNat_le] at h
    try simp (disch := omega) only [go_sem, hE, hH, ↓reduceIte, Nat.reduceEqDiff, Nat.reduceAdd, Nat.reduceSub, Nat.reduceMul, Nat.reduceLT, Nat.reduceLeDiff, Int.reduceToNat, reduceCtorEq, wrap_id, getD_map, getD_ms, getD_cs, cpy_len, hb]
    rw [hI, List.drop_of_length_le (by omega), List.drop_of_length_le (by omega)]
    rfl
theorem eqLetter_ok (x y : Letter) (hl : x.lim) : ACall Try.prog n_laws_eqLetter [.agg (Letter.row false x), .agg (Letter.row false y)] (fun r _ => r = bl (decide (x = y))) := by
  obtain ⟨x_From, x_To, x_Due, x_Body⟩ := x
  obtain ⟨y_From, y_To, y_Due, y_Body⟩ := y
  refine fn_in h_laws_eqLetter r_laws_eqLetter ⟨by simp only [go_sem, ↓reduceIte, Nat.reduceEqDiff, Nat.reduceAdd, Nat.reduceSub, Nat.reduceMul, Nat.reduceLT, Nat.reduceLeDiff, Int.reduceToNat, reduceCtorEq], fun E hE hH => ?_⟩; simp only [go_sem, ↓reduceIte, Nat.reduceEqDiff, Nat.reduceAdd, Nat.reduceSub, Nat.reduceMul, Nat.reduceLT, Nat.reduceLeDiff, Int.reduceToNat, reduceCtorEq] at hE hH; simp only [go_sem, hE, hH, ↓reduceIte, Nat.reduceEqDiff, Nat.reduceAdd, Nat.reduceSub, Nat.reduceMul, Nat.reduceLT, Nat.reduceLeDiff, Int.reduceToNat, reduceCtorEq, c_laws_eqLetter]
  repeat' (first | ((first | refine gd_t (fun h => ?_) (fun h => ?_) | refine gd_f (fun h => ?_) (fun h => ?_)) <;> (have hb := h; (try simp only [decide_eq_true_eq, decide_eq_false_iff_not, Int.not_lt, Int.not_le, ge_iff_le, gt_iff_lt, Bool.not_eq_true', Bool.not_eq_false', beq_iff_eq, bne_iff_ne, beq_eq_false_iff_ne, bne_eq_false_iff_eq, Int.ofNat_lt, Int.ofNat_le] at h); simp (disch := omega) only [go_sem, hE, hH, ↓reduceIte, Nat.reduceEqDiff, Nat.reduceAdd, Nat.reduceSub, Nat.reduceMul, Nat.reduceLT, Nat.reduceLeDiff, Int.reduceToNat, reduceCtorEq, wrap_id, getD_map, getD_ms, getD_cs, cpy_len, hb]; (try clear hb))) | (refine And.intro (by omega) ?_) | (refine jn _ ?_ ?_) | (refine both ?_ ?_) | (refine fin_eq ?_; (try (simp (disch := omega) only [go_sem, hE, hH, ↓reduceIte, Nat.reduceEqDiff, Nat.reduceAdd, Nat.reduceSub, Nat.reduceMul, Nat.reduceLT, Nat.reduceLeDiff, Int.reduceToNat, reduceCtorEq, wrap_id, getD_map, getD_ms, getD_cs, cpy_len])); first | done | rfl) | (simp (disch := omega) only [go_sem, hE, hH, ↓reduceIte, Nat.reduceEqDiff, Nat.reduceAdd, Nat.reduceSub, Nat.reduceMul, Nat.reduceLT, Nat.reduceLeDiff, Int.reduceToNat, reduceCtorEq, wrap_id, getD_map, getD_ms, getD_cs, cpy_len]) | (exact (noMLL_set (by simp only [go_sem, hE, hH, ↓reduceIte, Nat.reduceEqDiff, Nat.reduceAdd, Nat.reduceSub, Nat.reduceMul, Nat.reduceLT, Nat.reduceLeDiff, Int.reduceToNat, reduceCtorEq]) (by simp only [go_sem, hE, hH, ↓reduceIte, Nat.reduceEqDiff, Nat.reduceAdd, Nat.reduceSub, Nat.reduceMul, Nat.reduceLT, Nat.reduceLeDiff, Int.reduceToNat, reduceCtorEq])).2 trivial) | (exact (pk_set (by simp only [go_sem, hE, hH, ↓reduceIte, Nat.reduceEqDiff, Nat.reduceAdd, Nat.reduceSub, Nat.reduceMul, Nat.reduceLT, Nat.reduceLeDiff, Int.reduceToNat, reduceCtorEq]) (by simp only [go_sem, hE, hH, ↓reduceIte, Nat.reduceEqDiff, Nat.reduceAdd, Nat.reduceSub, Nat.reduceMul, Nat.reduceLT, Nat.reduceLeDiff, Int.reduceToNat, reduceCtorEq])).2 trivial) | (simp only [go_sem, hE, hH, ↓reduceIte, Nat.reduceEqDiff, Nat.reduceAdd, Nat.reduceSub, Nat.reduceMul, Nat.reduceLT, Nat.reduceLeDiff, Int.reduceToNat, reduceCtorEq]) | fail)
  all_goals simp_all [Letter.mk.injEq]
theorem eqLetterS_ok (l m : List Letter) (hl : limL (Letter.lim) l) : ACall Try.prog n_laws_eqLetterS [.sl false 4 (l.map (Letter.row false)), .sl false 4 (m.map (Letter.row false))] (fun r _ => r = bl (decide (l = m))) := by
  obtain ⟨hl, hx⟩ := hl
  have hm := mx_eq
  refine fn_in h_laws_eqLetterS r_laws_eqLetterS ⟨by simp only [go_sem, ↓reduceIte, Nat.reduceEqDiff, Nat.reduceAdd, Nat.reduceSub, Nat.reduceMul, Nat.reduceLT, Nat.reduceLeDiff, Int.reduceToNat, reduceCtorEq], fun E hE hH => ?_⟩; simp only [go_sem, ↓reduceIte, Nat.reduceEqDiff, Nat.reduceAdd, Nat.reduceSub, Nat.reduceMul, Nat.reduceLT, Nat.reduceLeDiff, Int.reduceToNat, reduceCtorEq] at hE hH; simp only [go_sem, hE, hH, ↓reduceIte, Nat.reduceEqDiff, Nat.reduceAdd, Nat.reduceSub, Nat.reduceMul, Nat.reduceLT, Nat.reduceLeDiff, Int.reduceToNat, reduceCtorEq, c_laws_eqLetterS]
  repeat' (first | ((first | refine gd_t (fun h => ?_) (fun h => ?_) | refine gd_f (fun h => ?_) (fun h => ?_)) <;> (have hb := h; (try simp only [decide_eq_true_eq, decide_eq_false_iff_not, Int.not_lt, Int.not_le, ge_iff_le, gt_iff_lt, Bool.not_eq_true', Bool.not_eq_false', beq_iff_eq, bne_iff_ne, beq_eq_false_iff_ne, bne_eq_false_iff_eq, Int.ofNat_lt, Int.ofNat_le] at h); simp (disch := omega) only [go_sem, hE, hH, ↓reduceIte, Nat.reduceEqDiff, Nat.reduceAdd, Nat.reduceSub, Nat.reduceMul, Nat.reduceLT, Nat.reduceLeDiff, Int.reduceToNat, reduceCtorEq, wrap_id, getD_map, getD_ms, getD_cs, cpy_len, hb]; (try clear hb))) | (refine And.intro (by omega) ?_) | (refine jn _ ?_ ?_) | (refine both ?_ ?_) | (refine fin_eq ?_; (try (simp (disch := omega) only [go_sem, hE, hH, ↓reduceIte, Nat.reduceEqDiff, Nat.reduceAdd, Nat.reduceSub, Nat.reduceMul, Nat.reduceLT, Nat.reduceLeDiff, Int.reduceToNat, reduceCtorEq, wrap_id, getD_map, getD_ms, getD_cs, cpy_len])); first | done | rfl) | (simp (disch := omega) only [go_sem, hE, hH, ↓reduceIte, Nat.reduceEqDiff, Nat.reduceAdd, Nat.reduceSub, Nat.reduceMul, Nat.reduceLT, Nat.reduceLeDiff, Int.reduceToNat, reduceCtorEq, wrap_id, getD_map, getD_ms, getD_cs, cpy_len]) | (exact (noMLL_set (by simp only [go_sem, hE, hH, ↓reduceIte, Nat.reduceEqDiff, Nat.reduceAdd, Nat.reduceSub, Nat.reduceMul, Nat.reduceLT, Nat.reduceLeDiff, Int.reduceToNat, reduceCtorEq]) (by simp only [go_sem, hE, hH, ↓reduceIte, Nat.reduceEqDiff, Nat.reduceAdd, Nat.reduceSub, Nat.reduceMul, Nat.reduceLT, Nat.reduceLeDiff, Int.reduceToNat, reduceCtorEq])).2 trivial) | (exact (pk_set (by simp only [go_sem, hE, hH, ↓reduceIte, Nat.reduceEqDiff, Nat.reduceAdd, Nat.reduceSub, Nat.reduceMul, Nat.reduceLT, Nat.reduceLeDiff, Int.reduceToNat, reduceCtorEq]) (by simp only [go_sem, hE, hH, ↓reduceIte, Nat.reduceEqDiff, Nat.reduceAdd, Nat.reduceSub, Nat.reduceMul, Nat.reduceLT, Nat.reduceLeDiff, Int.reduceToNat, reduceCtorEq])).2 trivial) | (simp only [go_sem, hE, hH, ↓reduceIte, Nat.reduceEqDiff, Nat.reduceAdd, Nat.reduceSub, Nat.reduceMul, Nat.reduceLT, Nat.reduceLeDiff, Int.reduceToNat, reduceCtorEq]) | fail)
  · rw [decide_eq_false (fun e => h (by rw [e]))]
  have hlen : l.length = m.length := by omega
  clear h
  refine loopN l.length (fun j (_ : Unit) => ⟨[(0, .sl false 4 (l.map (Letter.row false))), (1, .sl false 4 (m.map (Letter.row false))), (5, i64 j)], []⟩) (fun j _ => decide (l = m) = decide (l.drop j = m.drop j)) () (by simp) ?_
  intro j _ hj hI
  try simp only [go_sem, hE, hH, ↓reduceIte, Nat.reduceEqDiff, Nat.reduceAdd, Nat.reduceSub, Nat.reduceMul, Nat.reduceLT, Nat.reduceLeDiff, Int.reduceToNat, reduceCtorEq, c_laws_eqLetterS_l1]
  first | refine gd_t (fun h => ?_) (fun h => ?_) | refine gd_f (fun h => ?_) (fun h => ?_)
  · have hb := h
    simp only [decide_eq_true_eq, decide_eq_false_iff_not, Int.not_lt, Int.not_le, ge_iff_le, gt_iff_lt, Bool.not_eq_true', Bool.not_eq_false', beq_iff_eq, bne_iff_ne, beq_eq_false_iff_ne, bne_eq_false_iff_eq, Int.ofNat_lt, Int.ofNat_le] at h
    have hlt := h; clear h
    have hlm : j < m.length := by omega
    rw [drop_eq hlt hlm] at hI
    have hs := hx _ (nth_mem hlt)
    try simp (disch := omega) only [go_sem, hE, hH, ↓reduceIte, Nat.reduceEqDiff, Nat.reduceAdd, Nat.reduceSub, Nat.reduceMul, Nat.reduceLT, Nat.reduceLeDiff, Int.reduceToNat, reduceCtorEq, wrap_id, getD_map, getD_ms, getD_cs, cpy_len, hb]
    repeat' (first | ((first | refine gd_t (fun h => ?_) (fun h => ?_) | refine gd_f (fun h => ?_) (fun h => ?_)) <;> (have hb := h; (try simp only [decide_eq_true_eq, decide_eq_false_iff_not, Int.not_lt, Int.not_le, ge_iff_le, gt_iff_lt, Bool.not_eq_true', Bool.not_eq_false', beq_iff_eq, bne_iff_ne, beq_eq_false_iff_ne, bne_eq_false_iff_eq, Int.ofNat_lt, Int.ofNat_le] at h); simp (disch := omega) only [go_sem, hE, hH, ↓reduceIte, Nat.reduceEqDiff, Nat.reduceAdd, Nat.reduceSub, Nat.reduceMul, Nat.reduceLT, Nat.reduceLeDiff, Int.reduceToNat, reduceCtorEq, wrap_id, getD_map, getD_ms, getD_cs, cpy_len, hb]; (try clear hb))) | (refine And.intro (by omega) ?_) | (refine ok_view ?_; simp (disch := omega) only [go_sem, hE, hH, ↓reduceIte, Nat.reduceEqDiff, Nat.reduceAdd, Nat.reduceSub, Nat.reduceMul, Nat.reduceLT, Nat.reduceLeDiff, Int.reduceToNat, reduceCtorEq, wrap_id, getD_map, getD_ms, getD_cs, cpy_len]) | (refine cvA (eqLetter_ok _ _ (by assumption)) ?_; simp (disch := omega) only [go_sem, hE, hH, ↓reduceIte, Nat.reduceEqDiff, Nat.reduceAdd, Nat.reduceSub, Nat.reduceMul, Nat.reduceLT, Nat.reduceLeDiff, Int.reduceToNat, reduceCtorEq, wrap_id, getD_map, getD_ms, getD_cs, cpy_len]) | (refine jn _ ?_ ?_) | (refine both ?_ ?_) | (refine fin_eq ?_; (try (simp (disch := omega) only [go_sem, hE, hH, ↓reduceIte, Nat.reduceEqDiff, Nat.reduceAdd, Nat.reduceSub, Nat.reduceMul, Nat.reduceLT, Nat.reduceLeDiff, Int.reduceToNat, reduceCtorEq, wrap_id, getD_map, getD_ms, getD_cs, cpy_len])); first | done | rfl) | (simp (disch := omega) only [go_sem, hE, hH, ↓reduceIte, Nat.reduceEqDiff, Nat.reduceAdd, Nat.reduceSub, Nat.reduceMul, Nat.reduceLT, Nat.reduceLeDiff, Int.reduceToNat, reduceCtorEq, wrap_id, getD_map, getD_ms, getD_cs, cpy_len]) | (exact (noMLL_set (by simp only [go_sem, hE, hH, ↓reduceIte, Nat.reduceEqDiff, Nat.reduceAdd, Nat.reduceSub, Nat.reduceMul, Nat.reduceLT, Nat.reduceLeDiff, Int.reduceToNat, reduceCtorEq]) (by simp only [go_sem, hE, hH, ↓reduceIte, Nat.reduceEqDiff, Nat.reduceAdd, Nat.reduceSub, Nat.reduceMul, Nat.reduceLT, Nat.reduceLeDiff, Int.reduceToNat, reduceCtorEq])).2 trivial) | (exact (pk_set (by simp only [go_sem, hE, hH, ↓reduceIte, Nat.reduceEqDiff, Nat.reduceAdd, Nat.reduceSub, Nat.reduceMul, Nat.reduceLT, Nat.reduceLeDiff, Int.reduceToNat, reduceCtorEq]) (by simp only [go_sem, hE, hH, ↓reduceIte, Nat.reduceEqDiff, Nat.reduceAdd, Nat.reduceSub, Nat.reduceMul, Nat.reduceLT, Nat.reduceLeDiff, Int.reduceToNat, reduceCtorEq])).2 trivial) | (simp only [go_sem, hE, hH, ↓reduceIte, Nat.reduceEqDiff, Nat.reduceAdd, Nat.reduceSub, Nat.reduceMul, Nat.reduceLT, Nat.reduceLeDiff, Int.reduceToNat, reduceCtorEq]) | fail)
    · rw [hI]; simp [h]
    · exact ⟨(), rfl, by rw [hI]; simp [h]⟩
  · have hb := h
    simp only [decide_eq_true_eq, decide_eq_false_iff_not, Int.not_lt, Int.not_le, ge_iff_le, gt_iff_lt, Bool.not_eq_true', Bool.not_eq_false', beq_iff_eq, bne_iff_ne, beq_eq_false_iff_ne, bne_eq_false_iff_eq, Int.ofNat_lt, Int.ofNat_le] at h
    try simp (disch := omega) only [go_sem, hE, hH, ↓reduceIte, Nat.reduceEqDiff, Nat.reduceAdd, Nat.reduceSub, Nat.reduceMul, Nat.reduceLT, Nat.reduceLeDiff, Int.reduceToNat, reduceCtorEq, wrap_id, getD_map, getD_ms, getD_cs, cpy_len, hb]
    rw [hI, List.drop_of_length_le (by omega), List.drop_of_length_le (by omega)]
    rfl
theorem eqNet_ok (x y : Net) (hl : x.lim) : ACall Try.prog n_laws_eqNet [.agg (Net.row false x), .agg (Net.row false y)] (fun r _ => r = bl (decide (x = y))) := by
  obtain ⟨l_Homes, l_Under⟩ := hl
  obtain ⟨x_Now, x_Homes, x_Far, x_Under⟩ := x
  obtain ⟨y_Now, y_Homes, y_Far, y_Under⟩ := y
  refine fn_in h_laws_eqNet r_laws_eqNet ⟨by simp only [go_sem, ↓reduceIte, Nat.reduceEqDiff, Nat.reduceAdd, Nat.reduceSub, Nat.reduceMul, Nat.reduceLT, Nat.reduceLeDiff, Int.reduceToNat, reduceCtorEq], fun E hE hH => ?_⟩; simp only [go_sem, ↓reduceIte, Nat.reduceEqDiff, Nat.reduceAdd, Nat.reduceSub, Nat.reduceMul, Nat.reduceLT, Nat.reduceLeDiff, Int.reduceToNat, reduceCtorEq] at hE hH; simp only [go_sem, hE, hH, ↓reduceIte, Nat.reduceEqDiff, Nat.reduceAdd, Nat.reduceSub, Nat.reduceMul, Nat.reduceLT, Nat.reduceLeDiff, Int.reduceToNat, reduceCtorEq, c_laws_eqNet]
  repeat' (first | ((first | refine gd_t (fun h => ?_) (fun h => ?_) | refine gd_f (fun h => ?_) (fun h => ?_)) <;> (have hb := h; (try simp only [decide_eq_true_eq, decide_eq_false_iff_not, Int.not_lt, Int.not_le, ge_iff_le, gt_iff_lt, Bool.not_eq_true', Bool.not_eq_false', beq_iff_eq, bne_iff_ne, beq_eq_false_iff_ne, bne_eq_false_iff_eq, Int.ofNat_lt, Int.ofNat_le] at h); simp (disch := omega) only [go_sem, hE, hH, ↓reduceIte, Nat.reduceEqDiff, Nat.reduceAdd, Nat.reduceSub, Nat.reduceMul, Nat.reduceLT, Nat.reduceLeDiff, Int.reduceToNat, reduceCtorEq, wrap_id, getD_map, getD_ms, getD_cs, cpy_len, hb]; (try clear hb))) | (refine And.intro (by omega) ?_) | (refine ok_view ?_; simp (disch := omega) only [go_sem, hE, hH, ↓reduceIte, Nat.reduceEqDiff, Nat.reduceAdd, Nat.reduceSub, Nat.reduceMul, Nat.reduceLT, Nat.reduceLeDiff, Int.reduceToNat, reduceCtorEq, wrap_id, getD_map, getD_ms, getD_cs, cpy_len]) | (refine cvA (eqIntS_ok _ _ (by assumption)) ?_; simp (disch := omega) only [go_sem, hE, hH, ↓reduceIte, Nat.reduceEqDiff, Nat.reduceAdd, Nat.reduceSub, Nat.reduceMul, Nat.reduceLT, Nat.reduceLeDiff, Int.reduceToNat, reduceCtorEq, wrap_id, getD_map, getD_ms, getD_cs, cpy_len]) | (refine cvA (eqLetterS_ok _ _ (by assumption)) ?_; simp (disch := omega) only [go_sem, hE, hH, ↓reduceIte, Nat.reduceEqDiff, Nat.reduceAdd, Nat.reduceSub, Nat.reduceMul, Nat.reduceLT, Nat.reduceLeDiff, Int.reduceToNat, reduceCtorEq, wrap_id, getD_map, getD_ms, getD_cs, cpy_len]) | (refine jn _ ?_ ?_) | (refine both ?_ ?_) | (refine fin_eq ?_; (try (simp (disch := omega) only [go_sem, hE, hH, ↓reduceIte, Nat.reduceEqDiff, Nat.reduceAdd, Nat.reduceSub, Nat.reduceMul, Nat.reduceLT, Nat.reduceLeDiff, Int.reduceToNat, reduceCtorEq, wrap_id, getD_map, getD_ms, getD_cs, cpy_len])); first | done | rfl) | (simp (disch := omega) only [go_sem, hE, hH, ↓reduceIte, Nat.reduceEqDiff, Nat.reduceAdd, Nat.reduceSub, Nat.reduceMul, Nat.reduceLT, Nat.reduceLeDiff, Int.reduceToNat, reduceCtorEq, wrap_id, getD_map, getD_ms, getD_cs, cpy_len]) | (exact (noMLL_set (by simp only [go_sem, hE, hH, ↓reduceIte, Nat.reduceEqDiff, Nat.reduceAdd, Nat.reduceSub, Nat.reduceMul, Nat.reduceLT, Nat.reduceLeDiff, Int.reduceToNat, reduceCtorEq]) (by simp only [go_sem, hE, hH, ↓reduceIte, Nat.reduceEqDiff, Nat.reduceAdd, Nat.reduceSub, Nat.reduceMul, Nat.reduceLT, Nat.reduceLeDiff, Int.reduceToNat, reduceCtorEq])).2 trivial) | (exact (pk_set (by simp only [go_sem, hE, hH, ↓reduceIte, Nat.reduceEqDiff, Nat.reduceAdd, Nat.reduceSub, Nat.reduceMul, Nat.reduceLT, Nat.reduceLeDiff, Int.reduceToNat, reduceCtorEq]) (by simp only [go_sem, hE, hH, ↓reduceIte, Nat.reduceEqDiff, Nat.reduceAdd, Nat.reduceSub, Nat.reduceMul, Nat.reduceLT, Nat.reduceLeDiff, Int.reduceToNat, reduceCtorEq])).2 trivial) | (simp only [go_sem, hE, hH, ↓reduceIte, Nat.reduceEqDiff, Nat.reduceAdd, Nat.reduceSub, Nat.reduceMul, Nat.reduceLT, Nat.reduceLeDiff, Int.reduceToNat, reduceCtorEq]) | fail)
  all_goals simp_all [Net.mk.injEq]
end Go.Proofs.Wb

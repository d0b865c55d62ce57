import Derived.Test.YtgdngiecjoeniaaGreatFnExactStaleByL2
import Derived.Laws.Externs
set_option linter.unusedSimpArgs false
set_option linter.unusedVariables false
set_option linter.unusedSectionVars false
namespace Go.Proofs.Wb
open Go Go.Am
set_option maxHeartbeats 2000000 in
theorem l13Own_ok (s : State) (hs : stB s) : ACall Tryz.prog 174 [.agg (State.row false s)] (fun x _ => x = .agg (State.row true s)) := by
 have hmx := mx_eq
 obtain ⟨h1, h2, h3, h4, h5⟩ := hs
 refine fi H174 fun E hE hH => ?_; simp only [go_sem] at hE hH; simp only [go_sem, hE, hH, C174]
 repeat' (first | ((with_reducible first | refine gd_t ?_ ?_ | refine gd_f ?_ ?_) <;> (intro h; have hb := h; (try simp only [nf] at h); refine sb ?_; (try clear hb))) | ((with_reducible refine And.intro ?_ ?_); · omega) | ((first | refine ok_view ?_ | refine cvA (l3Own_ok _ h1 h2) ?_); refine st ?_) | (with_reducible apply jn) | (with_reducible apply both) | (with_reducible refine And.intro ?_ ?_) | exact fj | refine st ?_ | exact fm | refine s1 ?_ | (with_reducible exact True.intro) | fail)
 all_goals try omega
 refine loopNe s.Held.length (fun j (_ : Unit) => cpS 17 s j) (fun _ _ => True) () rfl trivial ?_
 intro j _ hj _
 cases j with
 | zero =>
  try simp only [go_sem, hE, hH, C174_l1, cpS]
  first | refine gd_t (fun h => ?_) (fun h => ?_) | refine gd_f (fun h => ?_) (fun h => ?_)
  ·have hb := h
   simp only [nf] at h
   have hlt : 0 < s.Held.length := by omega
   obtain ⟨q1, q2⟩ := h4 _ (nth_mem hlt)
   have ht : s.Held.take 1 = [nth s.Held 0] := by rw [take_nth hlt]; rfl
   try simp (disch := omega) only [go_sem, hE, hH, hb]
   repeat' (first | ((with_reducible first | refine gd_t ?_ ?_ | refine gd_f ?_ ?_) <;> (intro h; have hb := h; (try simp only [nf] at h); refine sb ?_; (try clear hb))) | ((with_reducible refine And.intro ?_ ?_); · omega) | ((first | refine ok_view ?_ | refine cvA (l13OwnHeld_ok _ q1 q2) ?_); refine st ?_) | refine jn _ ?_ ?_ | (with_reducible first | refine both ?_ ?_ | refine And.intro ?_ ?_) | exact fe | refine st ?_ | exact fm | refine s1 ?_ | (with_reducible exact True.intro) | fail)
   repeat' (first | (refine both ?_ ?_) | omega | ((first | apply noMLL_sE | apply pk_sE) <;> (simp only [go_sem, hE, hH]; done)) | fail)
   refine ⟨(), ?_⟩
   rw [ht]
   rfl
  ·try simp (disch := omega) only [go_sem, hE, hH, h]
   simp only [nf] at h
   have e : s.Held = [] := List.length_eq_zero_iff.1 (by omega)
   rw [e]; rfl
 | succ j =>
  try simp only [go_sem, hE, hH, C174_l1, cpS]
  first | refine gd_t (fun h => ?_) (fun h => ?_) | refine gd_f (fun h => ?_) (fun h => ?_)
  ·have hb := h
   simp only [nf] at h
   have hlt : j + 1 < s.Held.length := by omega
   obtain ⟨q1, q2⟩ := h4 _ (nth_mem hlt)
   have hn : (s.Held.take (j + 1)).length = j + 1 := by simp; omega
   have ht : (s.Held.take (j + 1)).take (j + 1) = s.Held.take (j + 1) := by rw [List.take_take, Nat.min_self]
   try simp (disch := omega) only [go_sem, hE, hH, hn, hb]
   repeat' (first | ((with_reducible first | refine gd_t ?_ ?_ | refine gd_f ?_ ?_) <;> (intro h; have hb := h; (try simp only [nf] at h); simp (disch := omega) only [go_sem, hE, hH, hn, hb]; (try clear hb))) | ((with_reducible refine And.intro ?_ ?_); · omega) | ((first | refine ok_view ?_ | refine cvA (l13OwnHeld_ok _ q1 q2) ?_); simp (disch := omega) only [go_sem, hE, hH, hn]) | refine jn _ ?_ ?_ | (with_reducible first | refine both ?_ ?_ | refine And.intro ?_ ?_) | (refine fin_eq ?_; (try (simp (disch := omega) only [go_sem, hE, hH, hn])); first | done | rfl) | (simp (disch := omega) only [go_sem, hE, hH, hn]) | ((first | apply noMLL_sE | apply pk_sE) <;> (simp only [go_sem, hE, hH, hn]; done)) | (simp only [go_sem, hE, hH, hn]) | fail)
   repeat' (first | (refine both ?_ ?_) | omega | ((first | apply noMLL_sE | apply pk_sE) <;> (simp only [go_sem, hE, hH, hn]; done)) | fail)
   all_goals try simp only [ht, hn]
   all_goals try first | omega | exact Nat.le_trans (Nat.mul_le_mul_right _ (show j + 1 + 1 ≤ 2 ^ 20 + 1 by omega)) (by decide)
   all_goals (
    refine ⟨(), ?_⟩
    rw [take_nth hlt, List.map_append]
    rfl)
  ·try simp (disch := omega) only [go_sem, hE, hH, h]
   simp only [nf] at h
   rw [show j + 1 = s.Held.length by omega, List.take_length]
   exact ⟨rfl, rfl⟩
open Go.Proofs.Wb renaming H226 → z0_, T17_x → z1_, Compare_int_ok → z2_ in
theorem findHeld_1_ok (h : Held) (t : Int) : ACall Tryz.prog 226 ([.agg (Held.row false h), i64 t] ++ []) (fun r _ => r = i64 (cmpI h.Txn t)) := Q15_
open Go.Proofs.Wb renaming H170 → z0_, T17_x → z1_, Compare_int_ok → z2_ in
theorem findTold_1_ok (h : Told) (t : Int) : ACall Tryz.prog 170 ([.agg (Told.row false h), i64 t] ++ []) (fun r _ => r = i64 (cmpI h.Txn t)) := Q15_
theorem findHeld_ok (s : State) (t : Int) (hl : s.Held.length ≤ 2 ^ 60) (hs : srtX ltI Held.Txn s.Held) : ACall Tryz.prog 194 [.agg (State.row false s), i64 t] (fun r _ => r = .tup [i64 (hI s.Held t), bl (hF s.Held t)]) := by
 obtain ⟨e1, e2⟩ := fx_eq cmpJ_ord hs t
 refine fi H194 fun E hE hH => ?_; simp only [go_sem] at hE hH; simp only [go_sem, hE, hH, C194]
 repeat' (first | ((with_reducible first | refine gd_t ?_ ?_ | refine gd_f ?_ ?_) <;> (intro h; have hb := h; (try simp only [nf] at h); refine sb ?_; (try clear hb))) | ((with_reducible refine And.intro ?_ ?_); · omega) | ((first | refine ok_view ?_ | refine cvA (BinarySearchFunc_Held_ok s.Held t _ [] (fun c => cmpI c.Txn t) (by kernel_rfl) rfl hl (fx_mono cmpJ_ord hs) (fun c _ => findHeld_1_ok c t)) ?_); refine st ?_) | refine jn _ ?_ ?_ | (with_reducible first | refine both ?_ ?_ | refine And.intro ?_ ?_) | exact fe | refine st ?_ | exact fm | refine s1 ?_ | (with_reducible exact True.intro) | fail)
 all_goals simp only [e1, e2]
 all_goals rfl
theorem findTold_ok (s : State) (t : Int) (hl : s.Told.length ≤ 2 ^ 60) (hs : srtX ltI Told.Txn s.Told) : ACall Tryz.prog 143 [.agg (State.row false s), i64 t] (fun r _ => r = .tup [i64 (tI s.Told t), bl (tF s.Told t)]) := by
 obtain ⟨e1, e2⟩ := fx_eq cmpJ_ord hs t
 refine fi H143 fun E hE hH => ?_; simp only [go_sem] at hE hH; simp only [go_sem, hE, hH, C143]
 repeat' (first | ((with_reducible first | refine gd_t ?_ ?_ | refine gd_f ?_ ?_) <;> (intro h; have hb := h; (try simp only [nf] at h); refine sb ?_; (try clear hb))) | ((with_reducible refine And.intro ?_ ?_); · omega) | ((first | refine ok_view ?_ | refine cvA (BinarySearchFunc_Told_ok s.Told t _ [] (fun c => cmpI c.Txn t) (by kernel_rfl) rfl hl (fx_mono cmpJ_ord hs) (fun c _ => findTold_1_ok c t)) ?_); refine st ?_) | refine jn _ ?_ ?_ | (with_reducible first | refine both ?_ ?_ | refine And.intro ?_ ?_) | exact fe | refine st ?_ | exact fm | refine s1 ?_ | (with_reducible exact True.intro) | fail)
 all_goals simp only [e1, e2]
 all_goals rfl
def hNth (l : List Held) (t : Int) : Held := if hF l t then nth l (hI l t) else ⟨0, 0, 0, [], []⟩
theorem l13HeldOf_ok (s : State) (t : Int) (hl : s.Held.length ≤ maxLen) (hs : srtX ltI Held.Txn s.Held) : ACall Tryz.prog 175 [.agg (State.row false s), i64 t] (fun r _ => r = .tup [.agg (Held.row false (hNth s.Held t)), bl (hF s.Held t)]) := by
 have hmx := mx_eq
 refine fi H175 fun E hE hH => ?_; simp only [go_sem] at hE hH; simp only [go_sem, hE, hH, C175]
 refine loopN s.Held.length (fun j (_ : Unit) => ⟨[(1, i64 t), (4, .ptr 5000000 0 0), (9, .sl false 5 (s.Held.map (Held.row false))), (10, i64 s.Held.length), (11, i64 j)], [(5000000, ⟨5, [[i64 0, i64 0, i64 0, nils, nils]]⟩)]⟩) (fun j _ => allN (fun i => !decide ((nth s.Held i).Txn = t)) j = true) () rfl ?_
 intro j _ hj hIn
 try simp only [go_sem, hE, hH, C175_l1]
 first | refine gd_t (fun h => ?_) (fun h => ?_) | refine gd_f (fun h => ?_) (fun h => ?_)
 ·have hb := h
  simp only [nf] at h
  have hlt := h; clear h
  try simp (disch := omega) only [go_sem, hE, hH, hb]
  repeat' (first | ((with_reducible first | refine gd_t ?_ ?_ | refine gd_f ?_ ?_) <;> (intro h; have hb := h; (try simp only [nf] at h); refine sb ?_; (try clear hb))) | ((with_reducible refine And.intro ?_ ?_); · omega) | refine jn _ ?_ ?_ | (with_reducible first | refine both ?_ ?_ | refine And.intro ?_ ?_) | exact fe | refine st ?_ | exact fm | refine s1 ?_ | (with_reducible exact True.intro) | fail)
  all_goals try (exact ⟨(), rfl, allN_step hIn (by simp [h])⟩)
  all_goals (
   have e : hF s.Held t = true := fxF_iff.2 ⟨j, hlt, h⟩
   have e2 : hNth s.Held t = nth s.Held j := by rw [hNth, e, if_pos rfl, show hI s.Held t = j from fxF_at cmpJ_ord hs hlt h]
   first | rfl | (rw [e2]; done) | (rw [e2]; rfl) | (rw [e]; done))
 ·try simp (disch := omega) only [go_sem, hE, hH, h]
  simp only [nf] at h
  rw [show j = s.Held.length by omega, allN_all (p := fun c : Held => !decide (c.Txn = t))] at hIn
  have e : hF s.Held t = false := by
   rw [hF, fxF, List.any_eq_false]; intro x hx; simpa using List.all_eq_true.1 hIn x hx
  simp [hNth, e, strs]
def tNth (l : List Told) (t : Int) : Told := if tF l t then nth l (tI l t) else ⟨0, false, 0⟩
theorem l13ToldOf_ok (s : State) (t : Int) (hl : s.Told.length ≤ maxLen) (hs : srtX ltI Told.Txn s.Told) : ACall Tryz.prog 50 [.agg (State.row false s), i64 t] (fun r _ => r = .tup [.agg (Told.row false (tNth s.Told t)), bl (tF s.Told t)]) := by
 have hmx := mx_eq
 refine fi H50 fun E hE hH => ?_; simp only [go_sem] at hE hH; simp only [go_sem, hE, hH, C50]
 refine loopN s.Told.length (fun j (_ : Unit) => ⟨[(1, i64 t), (4, .ptr 5000000 0 0), (9, .sl false 3 (s.Told.map (Told.row false))), (10, i64 s.Told.length), (11, i64 j)], [(5000000, ⟨3, [[i64 0, bl false, i64 0]]⟩)]⟩) (fun j _ => allN (fun i => !decide ((nth s.Told i).Txn = t)) j = true) () rfl ?_
 intro j _ hj hIn
 try simp only [go_sem, hE, hH, C50_l1]
 first | refine gd_t (fun h => ?_) (fun h => ?_) | refine gd_f (fun h => ?_) (fun h => ?_)
 ·have hb := h
  simp only [nf] at h
  have hlt := h; clear h
  try simp (disch := omega) only [go_sem, hE, hH, hb]
  repeat' (first | ((with_reducible first | refine gd_t ?_ ?_ | refine gd_f ?_ ?_) <;> (intro h; have hb := h; (try simp only [nf] at h); refine sb ?_; (try clear hb))) | ((with_reducible refine And.intro ?_ ?_); · omega) | refine jn _ ?_ ?_ | (with_reducible first | refine both ?_ ?_ | refine And.intro ?_ ?_) | exact fe | refine st ?_ | exact fm | refine s1 ?_ | (with_reducible exact True.intro) | fail)
  all_goals try (exact ⟨(), rfl, allN_step hIn (by simp [h])⟩)
  all_goals (
   have e : tF s.Told t = true := fxF_iff.2 ⟨j, hlt, h⟩
   have e2 : tNth s.Told t = nth s.Told j := by rw [tNth, e, if_pos rfl, show tI s.Told t = j from fxF_at cmpJ_ord hs hlt h]
   first | rfl | (rw [e2]; done) | (rw [e2]; rfl) | (rw [e]; done))
 ·try simp (disch := omega) only [go_sem, hE, hH, h]
  simp only [nf] at h
  rw [show j = s.Told.length by omega, allN_all (p := fun c : Told => !decide (c.Txn = t))] at hIn
  have e : tF s.Told t = false := by
   rw [tF, fxF, List.any_eq_false]; intro x hx; simpa using List.all_eq_true.1 hIn x hx
  simp [tNth, e]
theorem clash_ok (a b : Held) (h1 : a.Writes.length ≤ 2 ^ 20) (h2 : b.Writes.length ≤ 2 ^ 20) (h3 : a.Reads.length ≤ 2 ^ 20) (h4 : b.Reads.length ≤ 2 ^ 20) (s1 : srtW a.Writes) (s2 : srtW b.Writes) : ACall Tryz.prog 229 [.agg (Held.row false a), .agg (Held.row false b)] (fun r _ => r = bl (clashH a b)) := by
 have hmx := mx_eq
 refine fi H229 fun E hE hH => ?_; simp only [go_sem] at hE hH; simp only [go_sem, hE, hH, C229]
 repeat' (first | ((with_reducible first | refine gd_t ?_ ?_ | refine gd_f ?_ ?_) <;> (intro h; have hb := h; (try simp only [nf] at h); refine sb ?_; (try clear hb))) | ((with_reducible refine And.intro ?_ ?_); · omega) | ((first | refine ok_view ?_ | refine cvA (overlap_ok a.Writes b.Reads b.Writes (by omega) (by omega) (by omega) s2) ?_ | refine cvA (overlap_ok b.Writes a.Reads a.Writes (by omega) (by omega) (by omega) s1) ?_); refine st ?_) | (with_reducible apply jn) | (with_reducible apply both) | (with_reducible refine And.intro ?_ ?_) | exact fj | refine st ?_ | exact fm | refine s1 ?_ | (with_reducible exact True.intro) | fail)
 all_goals simp_all [clashH]
theorem l1HasS_ok (l : List ByteArray) (k : ByteArray) (hl : l.length ≤ maxLen) : ACall Tryz.prog 240 [.sl false 1 (strs l), str k] (fun r _ => r = bl (l.any fun x => decide (k = x))) := by
 have hmx := mx_eq
 refine fi H240 fun E hE hH => ?_; simp only [go_sem] at hE hH; simp only [go_sem, hE, hH, C240]
 refine loopN l.length (fun j (_ : Unit) => ⟨[(1, str k), (7, .sl false 1 (strs l)), (8, i64 l.length), (9, i64 j)], []⟩) (fun j _ => allN (fun i => !decide (k = nth l i)) j = true) () rfl ?_
 intro j _ hj hI
 try simp only [go_sem, hE, hH, C240_l1]
 first | refine gd_t (fun h => ?_) (fun h => ?_) | refine gd_f (fun h => ?_) (fun h => ?_)
 ·have hb := h
  simp only [nf] at h
  have hlt := h; clear h
  try simp (disch := omega) only [go_sem, hE, hH, hb]
  repeat' (first | ((with_reducible first | refine gd_t ?_ ?_ | refine gd_f ?_ ?_) <;> (intro h; have hb := h; (try simp only [nf] at h); refine sb ?_; (try clear hb))) | ((with_reducible refine And.intro ?_ ?_); · omega) | refine jn _ ?_ ?_ | (with_reducible first | refine both ?_ ?_ | refine And.intro ?_ ?_) | exact fe | refine st ?_ | exact fm | refine s1 ?_ | (with_reducible exact True.intro) | fail)
  ·rw [List.any_eq_true.2 ⟨_, nth_mem hlt, by simp [h]⟩]
  ·exact ⟨(), rfl, allN_step hI (by simp [Ne.symm h])⟩
 ·try simp (disch := omega) only [go_sem, hE, hH, h]
  simp only [nf] at h
  rw [show j = l.length by omega, allN_all (p := fun x => !decide (k = x))] at hI
  rw [show (l.any fun x => decide (k = x)) = false by rw [List.any_eq_false]; intro x hx; simpa using List.all_eq_true.1 hI x hx]
theorem cptL_snoc {x : ByteArray} : ∀ {p : List ByteArray}, 0 < p.length → cptL (p ++ [x]) = if nth p (p.length - 1) = x then cptL p else cptL p ++ [x]
 | [], h => by simp at h
 | [y], _ => by
  simp only [List.cons_append, List.nil_append, cptL, List.length_cons, List.length_nil, Nat.zero_add, Nat.sub_self, nth, List.getD_cons_zero]
  split
  ·rename_i h; rw [h]
  ·rfl
 | y :: z :: t, _ => by
  have ih := cptL_snoc (x := x) (p := z :: t) (by simp)
  have e : nth (y :: z :: t) ((y :: z :: t).length - 1) = nth (z :: t) ((z :: t).length - 1) := by
   simp [nth, List.getD]
  rw [e, List.cons_append, List.cons_append, cptL, ← List.cons_append, ih]
  by_cases h1 : y = z
  ·rw [if_pos h1]
   by_cases h2 : nth (z :: t) ((z :: t).length - 1) = x
   ·rw [if_pos h2, if_pos h2, cptL, if_pos h1]
   ·rw [if_neg h2, if_neg h2, cptL, if_pos h1]
  ·rw [if_neg h1]
   by_cases h2 : nth (z :: t) ((z :: t).length - 1) = x
   ·rw [if_pos h2, if_pos h2, cptL, if_neg h1]
   ·rw [if_neg h2, if_neg h2, cptL, if_neg h1]; rfl
theorem cptL_take {l : List ByteArray} {m : Nat} (h0 : 0 < m) (hm : m < l.length) : cptL (l.take (m + 1)) = if nth l (m - 1) = nth l m then cptL (l.take m) else cptL (l.take m) ++ [nth l m] := by
 have e : (l.take m).length = m := by rw [List.length_take]; omega
 have e2 : nth (l.take m) (m - 1) = nth l (m - 1) := by simp [nth, List.getD, List.getElem?_take, show m - 1 < m by omega]
 rw [take_nth hm, cptL_snoc (by omega), e, e2]
theorem take_set_succ {α : Type} {R : List α} {k : Nat} {y : α} (h : k < R.length) : (R.set k y).take (k + 1) = R.take k ++ [y] := by
 rw [List.take_add_one, List.getElem?_set_self h, List.take_set_of_le (Nat.le_refl _)]; rfl
theorem nth_set_ne {α : Type} [Inhabited α] {R : List α} {k q : Nat} {y : α} (h : k ≠ q) : nth (R.set k y) q = nth R q := by
 simp [nth, List.getD, List.getElem?_set_ne h]
theorem cptL_pos {l : List ByteArray} (h : 0 < l.length) : 0 < (cptL l).length := by
 cases l with
 | nil => simp at h
 | cons x t =>
  have : x ∈ cptL (x :: t) := mem_cptL.2 List.mem_cons_self
  exact List.length_pos_of_mem this
set_option maxRecDepth 100000 in
theorem Len64_0_ok : ACall Tryz.prog 297 [.v (.int .u64 0)] (fun r _ => r = i64 0) := by
 have z1 : decide ((4294967296 : Int) ≤ 0) = false := rfl
 have z2 : decide ((65536 : Int) ≤ 0) = false := rfl
 have z3 : decide ((256 : Int) ≤ 0) = false := rfl
 have z4 : IntKind.u8.wrap 0 = 0 := rfl
 refine fi H297 fun E hE hH => ?_; simp only [go_sem] at hE hH; simp only [go_sem, hE, hH, C297]
 repeat' (first | ((with_reducible first | refine gd_t ?_ ?_ | refine gd_f ?_ ?_) <;> (intro h; have hb := h; (try simp only [nf] at h); simp (disch := omega) only [go_sem, hE, hH, z1, z2, z3, z4, hb]; (try clear hb))) | ((with_reducible refine And.intro ?_ ?_); · omega) | (with_reducible apply jn) | (with_reducible apply both) | (with_reducible refine And.intro ?_ ?_) | ((with_reducible apply fin_eq); (try (simp (disch := omega) only [go_sem, hE, hH, z1, z2, z3, z4])); first | done | rfl) | (simp (disch := omega) only [go_sem, hE, hH, z1, z2, z3, z4]) | ((first | apply noMLL_sE | apply pk_sE) <;> (simp only [go_sem, hE, hH, z1, z2, z3, z4]; done)) | (simp only [go_sem, hE, hH, z1, z2, z3, z4]) | fail)
 all_goals first | rfl | decide | (exfalso; omega)
theorem Len_0_ok : ACall Tryz.prog 276 [.v (.int .u64 0)] (fun r _ => r = i64 0) := by
 refine fi H276 fun E hE hH => ?_; simp only [go_sem] at hE hH; simp only [go_sem, hE, hH, C276]
 repeat' (first | ((with_reducible first | refine gd_t ?_ ?_ | refine gd_f ?_ ?_) <;> (intro h; have hb := h; (try simp only [nf] at h); refine sb ?_; (try clear hb))) | ((with_reducible refine And.intro ?_ ?_); · omega) | ((first | refine ok_view ?_ | refine cvA (Len64_0_ok) ?_); refine st ?_) | (with_reducible apply jn) | (with_reducible apply both) | (with_reducible refine And.intro ?_ ?_) | exact fj | refine st ?_ | exact fm | refine s1 ?_ | (with_reducible exact True.intro) | fail)
 all_goals first | rfl
theorem insSort0_ok : ACall Tryz.prog 287 [.sl true 1 [], i64 0, i64 0] (fun r a => r = .tup [] ∧ a = [.sl true 1 [], i64 0, i64 0]) := by
 refine fi H287 fun E hE hH => ?_; simp only [go_sem] at hE hH; simp only [go_sem, hE, hH, C287]
 try simp (disch := omega) only [go_sem, hE, hH]
 refine loopN 0 (fun j (_ : Unit) => ⟨[(0, .ref 0 0 0), (1, i64 0), (2, i64 0), (6, i64 1)], [(0, ⟨1, []⟩)]⟩) (fun _ _ => True) () trivial ?_
 intro j _ hj _
 have z1 : decide ((1 : Int) < 0) = false := rfl
 try simp only [go_sem, hE, hH, z1, C287_l2]
 repeat' (first | ((with_reducible first | refine gd_t ?_ ?_ | refine gd_f ?_ ?_) <;> (intro h; have hb := h; (try simp only [nf] at h); simp (disch := omega) only [go_sem, hE, hH, z1, hb]; (try clear hb))) | ((with_reducible refine And.intro ?_ ?_); · omega) | (with_reducible apply jn) | (with_reducible apply both) | (with_reducible refine And.intro ?_ ?_) | ((with_reducible apply fin_eq); (try (simp (disch := omega) only [go_sem, hE, hH, z1])); first | done | rfl) | (simp (disch := omega) only [go_sem, hE, hH, z1]) | ((first | apply noMLL_sE | apply pk_sE) <;> (simp only [go_sem, hE, hH, z1]; done)) | (simp only [go_sem, hE, hH, z1]) | fail)
 all_goals trace_state
theorem pdq0_ok : ACall Tryz.prog 275 [.sl true 1 [], i64 0, i64 0, i64 0] (fun r a => r = .tup [] ∧ a = [.sl true 1 [], i64 0, i64 0, i64 0]) := by
 refine fi H275 fun E hE hH => ?_; simp only [go_sem] at hE hH; simp only [go_sem, hE, hH, C275]
 try simp (disch := omega) only [go_sem, hE, hH]
 refine loopN 0 (fun j (_ : Unit) => ⟨[(0, .ref 0 0 0), (1, i64 0), (2, i64 0), (3, i64 0), (8, bl true), (9, bl true)], [(0, ⟨1, []⟩)]⟩) (fun _ _ => True) () trivial ?_
 intro j _ hj _
 have z1 : decide ((0 : Int) - 0 ≤ 12) = true := rfl
 have z2 : decide ((0 : Int) ≤ 12) = true := rfl
 have z3 : IntKind.i64.wrap 0 = 0 := rfl
 try simp only [go_sem, hE, hH, z1, z2, z3, Int.sub_self, C275_l1]
 repeat' (first | ((with_reducible first | refine gd_t ?_ ?_ | refine gd_f ?_ ?_) <;> (intro h; have hb := h; (try simp only [nf] at h); simp (disch := omega) only [go_sem, hE, hH, z1, z2, z3, Int.sub_self, hb]; (try clear hb))) | ((with_reducible refine And.intro ?_ ?_); · omega) | (refine ok_lend [true, false, false] ?_; simp (disch := omega) only [go_sem, hE, hH, z1, z2, z3, Int.sub_self]; refine cmA (insSort0_ok) ?_; simp (disch := omega) only [go_sem, hE, hH, z1, z2, z3, Int.sub_self]) | (with_reducible apply jn) | (with_reducible apply both) | (with_reducible refine And.intro ?_ ?_) | ((with_reducible apply fin_eq); (try (simp (disch := omega) only [go_sem, hE, hH, z1, z2, z3, Int.sub_self])); first | done | rfl) | (simp (disch := omega) only [go_sem, hE, hH, z1, z2, z3, Int.sub_self]) | ((first | apply noMLL_sE | apply pk_sE) <;> (simp only [go_sem, hE, hH, z1, z2, z3, Int.sub_self]; done)) | (simp only [go_sem, hE, hH, z1, z2, z3, Int.sub_self]) | fail)
 all_goals first | (exfalso; omega) | (exfalso; simp_all; done)
theorem sort0_ok : ACall Tryz.prog 258 [.sl true 1 []] (fun r a => r = .tup [] ∧ a = [.sl true 1 []]) := by
 refine fi H258 fun E hE hH => ?_; simp only [go_sem] at hE hH; simp only [go_sem, hE, hH, C258]
 have z1 : IntKind.u64.wrap 0 = 0 := rfl
 repeat' (first | ((with_reducible first | refine gd_t ?_ ?_ | refine gd_f ?_ ?_) <;> (intro h; have hb := h; (try simp only [nf] at h); simp (disch := omega) only [go_sem, hE, hH, z1, hb]; (try clear hb))) | ((with_reducible refine And.intro ?_ ?_); · omega) | (refine ok_lend [true, false, false, false] ?_; simp (disch := omega) only [go_sem, hE, hH, z1]; refine cmA (pdq0_ok) ?_; simp (disch := omega) only [go_sem, hE, hH, z1]) | ((first | refine ok_view ?_ | refine cvA (Len_0_ok) ?_); simp (disch := omega) only [go_sem, hE, hH, z1]) | (with_reducible apply jn) | (with_reducible apply both) | (with_reducible refine And.intro ?_ ?_) | ((with_reducible apply fin_eq); (try (simp (disch := omega) only [go_sem, hE, hH, z1])); first | done | rfl) | (simp (disch := omega) only [go_sem, hE, hH, z1]) | ((first | apply noMLL_sE | apply pk_sE) <;> (simp only [go_sem, hE, hH, z1]; done)) | (simp only [go_sem, hE, hH, z1]) | fail)
 all_goals trace_state
def SortNe : Prop := ∀ l : List ByteArray, l ≠ [] → l.length ≤ 2 ^ 20 → ACall Tryz.prog 258 [.sl true 1 (strs l)] (fun r a => r = .tup [] ∧ a = [.sl true 1 (strs (sortB l))])
theorem sort_ok (hS : SortNe) (l : List ByteArray) (hl : l.length ≤ 2 ^ 20) : ACall Tryz.prog 258 [.sl true 1 (strs l)] (fun r a => r = .tup [] ∧ a = [.sl true 1 (strs (sortB l))]) := by
 by_cases e : l = []
 ·subst e
  have : sortB [] = [] := List.length_eq_zero_iff.1 (by rw [sortB_len]; rfl)
  rw [this]
  exact sort0_ok
 ·exact hS l e hl
theorem Compact_string_ok (l : List ByteArray) (hl : l.length ≤ 2 ^ 20) : ACall Tryz.prog 259 [.sl true 1 (strs l)] (fun r a => r = .sl true 1 (strs (cptL l)) ∧ a = [.any]) := by
 have hmx := mx_eq
 refine fn_inD [true] (hqA H259) (hqB H259) ⟨by simp only [go_sem], fun E hE hH => ?_⟩; simp only [go_sem] at hE hH; simp only [go_sem, hE, hH, C259]
 repeat' (first | ((with_reducible first | refine gd_t ?_ ?_ | refine gd_f ?_ ?_) <;> (intro h; have hb := h; (try simp only [nf] at h); refine sb ?_; (try clear hb))) | ((with_reducible refine And.intro ?_ ?_); · omega) | (with_reducible apply jn) | (with_reducible apply both) | (with_reducible refine And.intro ?_ ?_) | exact fj | refine st ?_ | exact fm | refine s1 ?_ | (with_reducible exact True.intro) | fail)
 ·have : cptL l = l := by
   rcases l with _ | ⟨a, _ | ⟨b, t⟩⟩
   ·rfl
   ·rfl
   ·exfalso; simp only [List.length_cons] at h; try omega
  rw [this]; try rfl
 have h2 : 2 ≤ l.length := by omega
 have t1 : cptL (l.take 1) = l.take 1 := by
  match l, h2 with
  | _ :: _ :: _, _ => rfl
 refine loopNe (l.length - 1) (fun j (_ : Unit) => ⟨[(0, .ref 0 0 l.length), (3, i64 (j + 1 : Nat))], [(0, ⟨1, strs l⟩)]⟩) (fun j _ => cptL (l.take (j + 1)) = l.take (j + 1)) () rfl t1 ?_
 intro j _ hj hI
 have e1 : (((j + 1 : Nat) : Int) - 1).toNat = j := by omega
 have e2 : ((j + 1 : Nat) : Int).toNat = j + 1 := by omega
 try simp only [go_sem, hE, hH, C259_l2]
 first | refine gd_t (fun hh => ?_) (fun hh => ?_) | refine gd_f (fun hh => ?_) (fun hh => ?_)
 ·have hb := hh
  simp only [nf] at hh
  have hlt : j + 1 < l.length := by omega
  have hct := cptL_take (l := l) (Nat.succ_pos j) hlt
  rw [show j.succ - 1 = j from rfl, show j.succ = j + 1 from rfl] at hct
  try simp (disch := omega) only [go_sem, hE, hH, e1, e2, hb]
  repeat' (first | ((with_reducible first | refine gd_t ?_ ?_ | refine gd_f ?_ ?_) <;> (intro h; have hb := h; (try simp only [nf] at h); simp (disch := omega) only [go_sem, hE, hH, e1, e2, hb]; (try clear hb))) | ((with_reducible refine And.intro ?_ ?_); · omega) | (with_reducible apply jn) | (with_reducible apply both) | (with_reducible refine And.intro ?_ ?_) | ((with_reducible apply fin_eq); (try (simp (disch := omega) only [go_sem, hE, hH, e1, e2])); first | done | rfl) | (simp (disch := omega) only [go_sem, hE, hH, e1, e2]) | ((first | apply noMLL_sE | apply pk_sE) <;> (simp only [go_sem, hE, hH, e1, e2]; done)) | (simp only [go_sem, hE, hH, e1, e2]) | fail)
  all_goals try omega
  ·rw [if_pos (by first | exact h.symm | exact h), hI] at hct
   refine loopNe (l.length - (j + 1) - 1) (fun m (x : List ByteArray × Nat) => ⟨[(0, .ref 0 0 l.length), (3, i64 x.2), (4, .ref 0 (j + 1) (l.length - (j + 1))), (5, i64 (m + 1 : Nat))], [(0, ⟨1, strs x.1⟩)]⟩) (fun m x => x.1.length = l.length ∧ x.1.take x.2 = cptL (l.take (j + 1 + (m + 1))) ∧ x.2 = (cptL (l.take (j + 1 + (m + 1)))).length ∧ (∀ q, j + 1 + m ≤ q → q < l.length → nth x.1 q = nth l q) ∧ x.2 ≤ j + 1 + m) (l, j + 1) rfl ⟨rfl, hct.symm, by rw [hct, List.length_take]; omega, fun _ _ _ => rfl, Nat.le_refl _⟩ ?_
   rintro m ⟨R, k⟩ hm ⟨i1, i2, i3, i4, i5⟩
   simp only at i1 i2 i3 i4 i5
   have hkp : 0 < k := by rw [i3]; exact cptL_pos (by rw [List.length_take]; omega)
   have f1 : (((m + 1 : Nat) : Int) - 1).toNat = m := by omega
   have f2 : ((m + 1 : Nat) : Int).toNat = m + 1 := by omega
   try simp only [go_sem, hE, hH, C259_l1]
   first | refine gd_t (fun hq => ?_) (fun hq => ?_) | refine gd_f (fun hq => ?_) (fun hq => ?_)
   ·have hbq := hq
    simp only [nf] at hq
    have hlt2 : j + 1 + (m + 1) < l.length := by omega
    have hct2 := cptL_take (l := l) (show 0 < j + 1 + (m + 1) by omega) hlt2
    have g1 := i4 (j + 1 + m) (by omega) (by omega)
    have g2 := i4 (j + 1 + (m + 1)) (by omega) (by omega)
    rw [show j + 1 + (m + 1) - 1 = j + 1 + m by omega] at hct2
    try simp (disch := omega) only [go_sem, hE, hH, f1, f2, i1, g1, g2, hbq]
    repeat' (first | ((with_reducible first | refine gd_t ?_ ?_ | refine gd_f ?_ ?_) <;> (intro h; have hb := h; (try simp only [nf] at h); simp (disch := omega) only [go_sem, hE, hH, f1, f2, i1, g1, g2, hb]; (try clear hb))) | ((with_reducible refine And.intro ?_ ?_); · omega) | (with_reducible apply jn) | (with_reducible apply both) | (with_reducible refine And.intro ?_ ?_) | ((with_reducible apply fin_eq); (try (simp (disch := omega) only [go_sem, hE, hH, f1, f2, i1, g1, g2])); first | done | rfl) | (simp (disch := omega) only [go_sem, hE, hH, f1, f2, i1, g1, g2]) | ((first | apply noMLL_sE | apply pk_sE) <;> (simp only [go_sem, hE, hH, f1, f2, i1, g1, g2]; done)) | (simp only [go_sem, hE, hH, f1, f2, i1, g1, g2]) | fail)
    all_goals try omega
    ·rw [if_neg (by first | exact h | exact fun e => h e.symm)] at hct2
     refine ⟨(R.set k (nth l (j + 1 + (m + 1))), k + 1), by simp [strs, List.map_set], by simp [i1], ?_, ?_, ?_, by simp only; omega⟩
     ·simp only
      rw [take_set_succ (by omega), i2, show j + 1 + (m + 1 + 1) = j + 1 + (m + 1) + 1 by omega, hct2]
     ·simp only
      rw [show j + 1 + (m + 1 + 1) = j + 1 + (m + 1) + 1 by omega, hct2, List.length_append, ← i3]; rfl
     ·intro q a b
      simp only
      rw [nth_set_ne (by omega)]; exact i4 q (by omega) b
    ·rw [if_pos (by first | exact h.symm | exact h)] at hct2
     refine ⟨(R, k), rfl, i1, ?_, ?_, fun q a b => i4 q (by omega) b, by simp only; omega⟩
     ·simp only
      rw [i2, show j + 1 + (m + 1 + 1) = j + 1 + (m + 1) + 1 by omega, hct2]
     ·simp only
      rw [show j + 1 + (m + 1 + 1) = j + 1 + (m + 1) + 1 by omega, hct2, ← i3]
   ·have hkl : k < l.length := by omega
    simp only [nf] at hq
    rw [show j + 1 + (m + 1) = l.length by omega, List.take_length] at i2 i3
    have r1 : ∀ z, (putRows (strs R) k (List.replicate (l.length - k) z)).take k = strs (R.take k) := fun z => by
     rw [putRows, List.append_assoc, List.take_append_of_le_length (by simp [strs]; omega), List.take_take, Nat.min_self, strs, strs, List.map_take]
    have r2 : ∀ z, (putRows (strs R) k (List.replicate (l.length - k) z)).length = l.length := fun z => by
     rw [putRows_length (by simp [strs]; omega)]; simp [strs, i1]
    have hqf : decide (((m + 1 : Nat) : Int) < ((l.length - (j + 1) : Nat) : Int)) = false := decide_eq_false (by omega)
    have e4 : ((k : Nat) : Int).toNat = k := rfl
    try simp (disch := omega) only [go_sem, hE, hH, i1, r1, r2, hqf, e4]
    repeat' (first | ((with_reducible first | refine gd_t ?_ ?_ | refine gd_f ?_ ?_) <;> (intro h; have hb := h; (try simp only [nf] at h); simp (disch := omega) only [go_sem, hE, hH, i1, r1, r2, hqf, e4, hb]; (try clear hb))) | ((with_reducible refine And.intro ?_ ?_); · omega) | (with_reducible apply jn) | (with_reducible apply both) | (with_reducible refine And.intro ?_ ?_) | ((with_reducible apply fin_eq); (try (simp (disch := omega) only [go_sem, hE, hH, i1, r1, r2, hqf, e4])); first | done | rfl) | (simp (disch := omega) only [go_sem, hE, hH, i1, r1, r2, hqf, e4]) | ((first | apply noMLL_sE | apply pk_sE) <;> (simp only [go_sem, hE, hH, i1, r1, r2, hqf, e4]; done)) | (simp only [go_sem, hE, hH, i1, r1, r2, hqf, e4]) | fail)
    ·rw [List.length_take]; omega
    ·rw [i2]
  ·rw [if_neg (by first | exact h | exact fun e => h e.symm), hI] at hct
   exact ⟨(), rfl, by rw [hct, take_nth hlt]⟩
 ·try simp (disch := omega) only [go_sem, hE, hH, hh]
  simp only [nf] at hh
  rw [show j + 1 = l.length by omega, List.take_length] at hI
  rw [hI]
theorem allWs_snoc {l : List Held} {j : Nat} (h : j < l.length) : allWs (l.take (j + 1)) = allWs (l.take j) ++ (nth l j).Writes := by
 rw [take_nth h, allWs, List.flatMap_append]; simp [allWs]
theorem allWs_len {l : List Held} {m : Nat} (h : ∀ x ∈ l, x.Writes.length ≤ m) : (allWs l).length ≤ l.length * m := by
 induction l with
 | nil => simp [allWs]
 | cons x t ih =>
  have h1 := h x List.mem_cons_self
  have h2 := ih fun y hy => h y (List.mem_cons_of_mem _ hy)
  simp only [allWs, List.flatMap_cons, List.length_append, List.length_cons, Nat.succ_mul] at h2 ⊢
  omega
theorem mem_allWs {l : List Held} {j i : Nat} (h : j < l.length) (h2 : i < (nth l j).Writes.length) : nth (nth l j).Writes i ∈ allWs l :=
 List.mem_flatMap.2 ⟨_, nth_mem h, nth_mem h2⟩
theorem roomS_full {cs : List Cell} {ws : List Write} {w : Write} (hw : w ∈ ws) (h : fullK cs w.Key = true) : roomS cs ws = false := by
 unfold roomS
 rw [List.any_eq_true.2 ⟨w, hw, h⟩]; rfl
set_option maxHeartbeats 1000000 in
theorem room_ok (hS : SortNe) (s : State) (held : List Held) (hc : goodCells s.Cells = true) (hl : held.length ≤ 100) (hw : ∀ h ∈ held, h.Writes.length ≤ 100) : ACall Tryz.prog 230 [.agg (State.row false s), .sl false 5 (held.map (Held.row false))] (fun r _ => r = bl (decide ((held.length : Int) ≤ 12) && roomS s.Cells (allWs held))) := by
 have hmx := mx_eq
 have hI0 := goodCells_I hc
 have hcl := hI0.len
 have hone : ∀ c ∈ s.Cells, c.Vers.length ≤ 100 := fun c q => by have := (hI0.one c q).2; omega
 have hal : ∀ j, (allWs (held.take j)).length ≤ 10000 := fun j => by
  have h1 := allWs_len (l := held.take j) (m := 100) fun x hx => hw x (List.mem_of_mem_take hx)
  have h2 : (held.take j).length ≤ 100 := by rw [List.length_take]; omega
  have := Nat.mul_le_mul_right 100 h2
  omega
 refine fi H230 fun E hE hH => ?_; simp only [go_sem] at hE hH; simp only [go_sem, hE, hH, C230]
 repeat' (first | ((with_reducible first | refine gd_t ?_ ?_ | refine gd_f ?_ ?_) <;> (intro h; have hb := h; (try simp only [nf] at h); refine sb ?_; (try clear hb))) | ((with_reducible refine And.intro ?_ ?_); · omega) | (with_reducible apply jn) | (with_reducible apply both) | (with_reducible refine And.intro ?_ ?_) | exact fj | refine st ?_ | exact fm | refine s1 ?_ | (with_reducible exact True.intro) | fail)
 refine loopN s.Cells.length (fun j (x : List ByteArray) => ⟨[(1, .sl false 5 (held.map (Held.row false))), (2, .ptr 3000000 0 0), (5, .ref 6000000 0 x.length), (16, .sl false 2 (s.Cells.map (Cell.row false))), (17, i64 s.Cells.length), (18, i64 j)], [(3000000, ⟨4, [State.row false s]⟩), (6000000, ⟨1, strs x⟩)]⟩) (fun j x => x = (s.Cells.take j).map (·.Key)) [] rfl ?_
 rintro j x hj hx
 have hlen : x.length = j := by rw [hx]; simp; omega
 try simp only [go_sem, hE, hH, C230_l1]
 first | refine gd_t (fun h1 => ?_) (fun h1 => ?_) | refine gd_f (fun h1 => ?_) (fun h1 => ?_)
 ·have hb1 := h1
  simp only [nf] at h1
  try simp (disch := omega) only [go_sem, hE, hH, hb1]
  repeat' (first | ((with_reducible first | refine gd_t ?_ ?_ | refine gd_f ?_ ?_) <;> (intro h; have hb := h; (try simp only [nf] at h); refine sb ?_; (try clear hb))) | ((with_reducible refine And.intro ?_ ?_); · omega) | (with_reducible apply jn) | (with_reducible apply both) | (with_reducible refine And.intro ?_ ?_) | exact fj | refine st ?_ | exact fm | refine s1 ?_ | (with_reducible exact True.intro) | fail)
  have e : (s.Cells.take (j + 1)).map (·.Key) = x ++ [(nth s.Cells j).Key] := by rw [take_nth h1, List.map_append, ← hx]; rfl
  have e2 : (s.Cells.take (j + 1)).length = x.length + 1 := by rw [List.length_take, hlen]; omega
  rw [e, e2, strs, List.map_append]
  rfl
 ·try simp (disch := omega) only [go_sem, hE, hH, h1]
  simp only [nf] at h1
  rw [show j = s.Cells.length by omega, List.take_length] at hx
  subst hx
  clear hlen
  repeat' (first | ((with_reducible first | refine gd_t ?_ ?_ | refine gd_f ?_ ?_) <;> (intro h; have hb := h; (try simp only [nf] at h); refine sb ?_; (try clear hb))) | ((with_reducible refine And.intro ?_ ?_); · omega) | (with_reducible apply jn) | (with_reducible apply both) | (with_reducible refine And.intro ?_ ?_) | exact fj | refine st ?_ | exact fm | refine s1 ?_ | (with_reducible exact True.intro) | fail)
  refine loopNe held.length (fun j (x : List ByteArray) => ⟨[(1, .sl false 5 (held.map (Held.row false))), (2, .ptr 3000000 0 0), (5, .ref 6000000 0 x.length), (28, .sl false 5 (held.map (Held.row false))), (29, i64 held.length), (30, i64 j)], [(3000000, ⟨4, [State.row false s]⟩), (6000000, ⟨1, strs x⟩)]⟩) (fun j x => x = s.Cells.map (·.Key) ++ (allWs (held.take j)).map (·.Key) ∧ (allWs (held.take j)).any (fun w => fullK s.Cells w.Key) = false) (s.Cells.map (·.Key)) (by rw [List.length_map]; rfl) ⟨by simp [allWs], by simp [allWs]⟩ ?_
  rintro j x hj ⟨hx, hnf⟩
  try simp only [go_sem, hE, hH, C230_l3]
  first | refine gd_t (fun h2 => ?_) (fun h2 => ?_) | refine gd_f (fun h2 => ?_) (fun h2 => ?_)
  ·have hb2 := h2
   simp only [nf] at h2
   have hlt2 := h2; clear h2
   try simp (disch := omega) only [go_sem, hE, hH, hb2]
   repeat' (first | ((with_reducible first | refine gd_t ?_ ?_ | refine gd_f ?_ ?_) <;> (intro h; have hb := h; (try simp only [nf] at h); refine sb ?_; (try clear hb))) | ((with_reducible refine And.intro ?_ ?_); · omega) | (with_reducible apply jn) | (with_reducible apply both) | (with_reducible refine And.intro ?_ ?_) | exact fj | refine st ?_ | exact fm | refine s1 ?_ | (with_reducible exact True.intro) | fail)
   refine loopN (nth held j).Writes.length (fun i (x : List ByteArray) => ⟨[(1, .sl false 5 (held.map (Held.row false))), (2, .ptr 3000000 0 0), (5, .ref 6000000 0 x.length), (28, .sl false 5 (held.map (Held.row false))), (29, i64 held.length), (30, i64 j), (35, .sl false 3 ((nth held j).Writes.map (Write.row false))), (36, i64 (nth held j).Writes.length), (37, i64 i)], [(3000000, ⟨4, [State.row false s]⟩), (6000000, ⟨1, strs x⟩)]⟩) (fun i x => x = s.Cells.map (·.Key) ++ (allWs (held.take j) ++ (nth held j).Writes.take i).map (·.Key) ∧ ((nth held j).Writes.take i).any (fun w => fullK s.Cells w.Key) = false) x ⟨by simp [hx], rfl⟩ ?_
   rintro i y hi ⟨hy, hfi⟩
   have hwj := hw _ (nth_mem hlt2)
   have hyl : y.length ≤ 20000 := by
    have := hal j
    rw [hy, List.length_append, List.length_map, List.length_map, List.length_append, List.length_take]; omega
   try simp only [go_sem, hE, hH, C230_l2]
   first | refine gd_t (fun h3 => ?_) (fun h3 => ?_) | refine gd_f (fun h3 => ?_) (fun h3 => ?_)
   ·have hb3 := h3
    simp only [nf] at h3
    have hlt3 := h3; clear h3
    have cF1 := findCell_ok s.Cells (nth (nth held j).Writes i).Key (by omega) hI0.srt
    have hci := cI_le (l := s.Cells) (k := (nth (nth held j).Writes i).Key)
    cases hf : cF s.Cells (nth (nth held j).Writes i).Key with
    | true =>
     rw [hf] at cF1
     obtain ⟨k1, k2⟩ := cF_here hI0.srt hf
     try simp (disch := omega) only [go_sem, hE, hH, hb3]
     repeat' (first | ((with_reducible first | refine gd_t ?_ ?_ | refine gd_f ?_ ?_) <;> (intro h; have hb := h; (try simp only [nf] at h); refine sb ?_; (try clear hb))) | ((with_reducible refine And.intro ?_ ?_); · omega) | ((first | refine ok_view ?_ | refine cvA (cF1) ?_); refine st ?_) | (with_reducible apply jn) | (with_reducible apply both) | (with_reducible refine And.intro ?_ ?_) | exact fj | refine st ?_ | exact fm | refine s1 ?_ | (with_reducible exact True.intro) | fail)
     ·rw [roomS_full (mem_allWs hlt2 hlt3) (by simp only [fullK, hf, Bool.true_and, decide_eq_true_eq]; omega), Bool.and_false]
     ·refine ⟨y ++ [(nth (nth held j).Writes i).Key], by simp [strs], ?_, ?_⟩
      ·rw [take_nth hlt3, hy]; simp [List.map_append]
      ·rw [take_nth hlt3, List.any_append, hfi]
       simp only [List.any_cons, List.any_nil, Bool.or_false, Bool.false_or, fullK, hf, Bool.true_and, decide_eq_false_iff_not]
       omega
    | false =>
     rw [hf] at cF1
     try simp (disch := omega) only [go_sem, hE, hH, hb3]
     repeat' (first | ((with_reducible first | refine gd_t ?_ ?_ | refine gd_f ?_ ?_) <;> (intro h; have hb := h; (try simp only [nf] at h); refine sb ?_; (try clear hb))) | ((with_reducible refine And.intro ?_ ?_); · omega) | ((first | refine ok_view ?_ | refine cvA (cF1) ?_); refine st ?_) | (with_reducible apply jn) | (with_reducible apply both) | (with_reducible refine And.intro ?_ ?_) | exact fj | refine st ?_ | exact fm | refine s1 ?_ | (with_reducible exact True.intro) | fail)
     all_goals try omega
     refine ⟨y ++ [(nth (nth held j).Writes i).Key], by simp [strs], ?_, ?_⟩
     ·rw [take_nth hlt3, hy]; simp [List.map_append]
     ·rw [take_nth hlt3, List.any_append, hfi]
      simp only [List.any_cons, List.any_nil, Bool.or_false, Bool.false_or, fullK, hf, Bool.false_and]
   ·try simp (disch := omega) only [go_sem, hE, hH, h3]
    simp only [nf] at h3
    rw [show i = (nth held j).Writes.length by omega, List.take_length] at hy hfi
    refine ⟨hlt2, y, rfl, ?_, ?_⟩
    ·rw [allWs_snoc hlt2, hy]
    ·rw [allWs_snoc hlt2, List.any_append, hnf, hfi]; rfl
  ·try simp (disch := omega) only [go_sem, hE, hH, h2]
   simp only [nf] at h2
   rw [show j = held.length by omega, List.take_length] at hx hnf
   have hxl : x.length ≤ 20000 := by
    have := hal held.length
    rw [List.take_length] at this
    rw [hx, List.length_append, List.length_map, List.length_map]; omega
   have hsl : (sortB x).length = x.length := sortB_len
   have hst : (sortB x).take x.length = sortB x := List.take_of_length_le (by omega)
   have hdn : (cptL (sortB x)).length = dnN x := dn_cpt (sortB_wk x) fun y => mem_sortB
   have hrm : roomS s.Cells (allWs held) = decide (dnN x ≤ 24) := by rw [roomS, hnf, ← hx]; rfl
   repeat' (first | ((with_reducible first | refine gd_t ?_ ?_ | refine gd_f ?_ ?_) <;> (intro h; have hb := h; (try simp only [nf] at h); simp (disch := omega) only [go_sem, hE, hH, hsl, hst, hb]; (try clear hb))) | ((with_reducible refine And.intro ?_ ?_); · omega) | (refine ok_lend [true] ?_; simp (disch := omega) only [go_sem, hE, hH, hsl, hst]; refine cmA (sort_ok hS x (by omega)) ?_; simp (disch := omega) only [go_sem, hE, hH, hsl, hst]) | (refine ok_lend [true] ?_; simp (disch := omega) only [go_sem, hE, hH, hsl, hst]; refine cmA (Compact_string_ok (sortB x) (by rw [sortB_len]; omega)) ?_; simp (disch := omega) only [go_sem, hE, hH, hsl, hst]) | (with_reducible apply jn) | (with_reducible apply both) | (with_reducible refine And.intro ?_ ?_) | ((with_reducible apply fin_eq); (try (simp (disch := omega) only [go_sem, hE, hH, hsl, hst])); first | done | rfl) | (simp (disch := omega) only [go_sem, hE, hH, hsl, hst]) | ((first | apply noMLL_sE | apply pk_sE) <;> (simp only [go_sem, hE, hH, hsl, hst]; done)) | (simp only [go_sem, hE, hH, hsl, hst]) | fail)
   all_goals rw [hrm, hdn, show decide (((dnN x : Nat) : Int) ≤ 24) = decide (dnN x ≤ 24) by rw [decide_eq_decide]; omega]
theorem dnI_foundN {l : List ByteArray} {k : ByteArray} (hs : srtX strLt id l) (h : fxF id l k = true) : dnI (fun y : ByteArray => strLt k y) l l.length = fxI strLt id l k + 1 := by
 obtain ⟨h1, h2⟩ := fxF_here cmpS_ord hs h
 simp only [id] at h2
 refine dnI_at (by omega) (fun i a b => ?_) (.inr ?_)
 ·have := hs _ _ (show fxI strLt id l k < i by omega) b
  simp only [id] at this
  rwa [h2] at this
 ·simp only [Nat.add_sub_cancel, h2, strLt_irr]
theorem l4PutS_ok (l : List ByteArray) (key : ByteArray) (hl : l.length ≤ 2 ^ 20) (hs : srtX strLt id l) : ACall Tryz.prog 241 [.sl true 1 (strs l), str key] (fun r a => r = .sl true 1 (strs (putN l key)) ∧ a = [.any, str key]) := by
 have hmx := mx_eq
 refine fn_inD [true, false] (hqA H241) (hqB H241) ⟨by simp only [go_sem], fun E hE hH => ?_⟩; simp only [go_sem] at hE hH; simp only [go_sem, hE, hH, C241]
 try simp (disch := omega) only [go_sem, hE, hH]
 refine loopM (fun (k : Nat) => ⟨[(0, .ref 0 0 l.length), (1, str key), (5, i64 k)], [(0, ⟨1, strs l⟩)]⟩) (fun k => k ≤ l.length ∧ ∀ i, k ≤ i → i < l.length → strLt key (nth l i) = true) (fun k => k) l.length ⟨Nat.le_refl _, fun i a b => absurd b (by omega)⟩ ?_
 rintro k ⟨hk, hK⟩
 have e1 : ((k : Int) - 1).toNat = k - 1 := by omega
 by_cases hgo : k ≠ 0 ∧ strLt key (nth l (k - 1)) = true
 ·obtain ⟨hk0, hq⟩ := hgo
  have e2 : decide ((0 : Int) < (k : Int)) = true := decide_eq_true (by omega)
  try simp only [go_sem, hE, hH, e1, e2, hq, C241_l1]
  repeat' (first | ((with_reducible first | refine gd_t ?_ ?_ | refine gd_f ?_ ?_) <;> (intro h; have hb := h; (try simp only [nf] at h); simp (disch := omega) only [go_sem, hE, hH, e1, e2, hq, hb]; (try clear hb))) | ((with_reducible refine And.intro ?_ ?_); · omega) | (with_reducible apply jn) | (with_reducible apply both) | (with_reducible refine And.intro ?_ ?_) | ((with_reducible apply fin_eq); (try (simp (disch := omega) only [go_sem, hE, hH, e1, e2, hq])); first | done | rfl) | (simp (disch := omega) only [go_sem, hE, hH, e1, e2, hq]) | ((first | apply noMLL_sE | apply pk_sE) <;> (simp only [go_sem, hE, hH, e1, e2, hq]; done)) | (simp only [go_sem, hE, hH, e1, e2, hq]) | fail)
  all_goals first | omega | (refine ⟨k - 1, ?_, ⟨by omega, fun i a b => ?_⟩, by omega⟩)
  ·rw [show ((k - 1 : Nat) : Int) = (k : Int) - 1 by omega]
  ·by_cases e : i = k - 1
   ·rw [e]; exact hq
   ·exact hK i (by omega) b
 have hd : dnI (fun y : ByteArray => strLt key y) l l.length = k := dnI_at hk hK (by
  by_cases e : k = 0
  ·exact .inl e
  ·right
   cases q : strLt key (nth l (k - 1)) with
   | false => rfl
   | true => exact absurd ⟨e, q⟩ hgo)
 cases hf : fxF id l key with
 | true =>
  have hc0 := dnI_foundN hs hf
  obtain ⟨k1, k2⟩ := fxF_here cmpS_ord hs hf
  have hk0 : k ≠ 0 := by omega
  have e2 : decide ((0 : Int) < (k : Int)) = true := decide_eq_true (by omega)
  have e3 : nth l (k - 1) = key := by rw [show k - 1 = fxI strLt id l key by omega]; exact k2
  have hq : strLt key key = false := strLt_irr _
  try simp only [go_sem, hE, hH, e1, e2, e3, hq, C241_l1]
  repeat' (first | ((with_reducible first | refine gd_t ?_ ?_ | refine gd_f ?_ ?_) <;> (intro h; have hb := h; (try simp only [nf] at h); simp (disch := omega) only [go_sem, hE, hH, e1, e2, e3, hq, hb]; (try clear hb))) | ((with_reducible refine And.intro ?_ ?_); · omega) | (with_reducible apply jn) | (with_reducible apply both) | (with_reducible refine And.intro ?_ ?_) | ((with_reducible apply fin_eq); (try (simp (disch := omega) only [go_sem, hE, hH, e1, e2, e3, hq])); first | done | rfl) | (simp (disch := omega) only [go_sem, hE, hH, e1, e2, e3, hq]) | ((first | apply noMLL_sE | apply pk_sE) <;> (simp only [go_sem, hE, hH, e1, e2, e3, hq]; done)) | (simp only [go_sem, hE, hH, e1, e2, e3, hq]) | fail)
  all_goals first | omega | (simp only [putN, hf, if_true]; done)
 | false =>
  have hc0 : k = fxI strLt id l key := by
   rw [← hd]; exact dnI_eq (f := id) (x := key) cmpS_ord hs hf
  have hP : putN l key = l.take k ++ key :: l.drop k := by rw [putN, hf, hc0]; rfl
  have lt1 : (l.take k).length = k := by rw [List.length_take]; omega
  have hdx : (l.drop k).length = l.length - k := by simp
  have d1 : (l.drop k).take (l.length - k) = l.drop k := List.take_of_length_le (by simp)
  have d2 : (l.take k).take k = l.take k := by rw [List.take_take, Nat.min_self]
  have d3 : ∀ q, (strs (l.take k) ++ [q]).take (k + 1) = strs (l.take k) ++ [q] := fun q => List.take_of_length_le (by simp [strs]; omega)
  by_cases hk0 : k = 0
  ·subst hk0
   have fC : decide ((0 : Int) < ((0 : Nat) : Int)) = false := rfl
   have fD : decide ((0 : Int) < (0 : Int)) = false := rfl
   try simp only [go_sem, hE, hH, fC, fD, d1, d2, d3, hdx, C241_l1]
   repeat' (first | ((with_reducible first | refine gd_t ?_ ?_ | refine gd_f ?_ ?_) <;> (intro h; have hb := h; (try simp only [nf] at h); simp (disch := omega) only [go_sem, hE, hH, fC, fD, d1, d2, d3, hdx, hb]; (try clear hb))) | ((with_reducible refine And.intro ?_ ?_); · omega) | ((first | refine ok_view ?_ | refine cvA (l1OwnS_ok [] (by decide)) ?_ | refine cvA (l1OwnS_ok _ (by simp; omega)) ?_); simp (disch := omega) only [go_sem, hE, hH, fC, fD, d1, d2, d3, hdx]) | (with_reducible apply jn) | (with_reducible apply both) | (with_reducible refine And.intro ?_ ?_) | ((with_reducible apply fin_eq); (try (simp (disch := omega) only [go_sem, hE, hH, fC, fD, d1, d2, d3, hdx])); first | done | rfl) | (simp (disch := omega) only [go_sem, hE, hH, fC, fD, d1, d2, d3, hdx]) | ((first | apply noMLL_sE | apply pk_sE) <;> (simp only [go_sem, hE, hH, fC, fD, d1, d2, d3, hdx]; done)) | (simp only [go_sem, hE, hH, fC, fD, d1, d2, d3, hdx]) | fail)
   all_goals first | omega | (rw [hP]; simp [strs]; done)
  ·have fC : decide ((0 : Int) < (k : Int)) = true := decide_eq_true (by omega)
   have fE : decide (nth l (k - 1) = key) = false := decide_eq_false fun e => by
    have : fxF id l key = true := fxF_iff.2 ⟨k - 1, by omega, e⟩
    rw [hf] at this; cases this
   have fF : strLt (nth l (k - 1)) key = true := by
    rcases strLt_total (nth l (k - 1)) key with q | q | q
    ·exact q
    ·exact absurd q (of_decide_eq_false fE)
    ·exact absurd ⟨hk0, q⟩ hgo
   try simp only [go_sem, hE, hH, e1, fC, fE, fF, d1, d2, d3, hdx, lt1, C241_l1]
   repeat' (first | ((with_reducible first | refine gd_t ?_ ?_ | refine gd_f ?_ ?_) <;> (intro h; have hb := h; (try simp only [nf] at h); simp (disch := omega) only [go_sem, hE, hH, e1, fC, fE, fF, d1, d2, d3, hdx, lt1, hb]; (try clear hb))) | ((with_reducible refine And.intro ?_ ?_); · omega) | ((first | refine ok_view ?_ | refine cvA (l1OwnS_ok _ (by simp; omega)) ?_); simp (disch := omega) only [go_sem, hE, hH, e1, fC, fE, fF, d1, d2, d3, hdx, lt1]) | (with_reducible apply jn) | (with_reducible apply both) | (with_reducible refine And.intro ?_ ?_) | ((with_reducible apply fin_eq); (try (simp (disch := omega) only [go_sem, hE, hH, e1, fC, fE, fF, d1, d2, d3, hdx, lt1])); first | done | rfl) | (simp (disch := omega) only [go_sem, hE, hH, e1, fC, fE, fF, d1, d2, d3, hdx, lt1]) | ((first | apply noMLL_sE | apply pk_sE) <;> (simp only [go_sem, hE, hH, e1, fC, fE, fF, d1, d2, d3, hdx, lt1]; done)) | (simp only [go_sem, hE, hH, e1, fC, fE, fF, d1, d2, d3, hdx, lt1]) | fail)
   all_goals first | omega | (rw [hP]; simp [strs]; done)
set_option maxHeartbeats 1000000 in
theorem l13Room_ok (s : State) (ws : List Write) (hc : goodCells s.Cells = true) (hws : ws.length ≤ 100) (hl : s.Held.length ≤ 100) (hw : ∀ h ∈ s.Held, h.Writes.length ≤ 100) : ACall Tryz.prog 207 [.agg (State.row false s), .sl false 3 (ws.map (Write.row false))] (fun r _ => r = bl (roomS s.Cells (ws ++ allWs s.Held))) := by
 have hmx := mx_eq
 have hI0 := goodCells_I hc
 have hcl := hI0.len
 have hone : ∀ c ∈ s.Cells, c.Vers.length ≤ 100 := fun c q => by have := (hI0.one c q).2; omega
 have hal : ∀ j, (allWs (s.Held.take j)).length ≤ 10000 := fun j => by
  have h1 := allWs_len (l := s.Held.take j) (m := 100) fun x hx => hw x (List.mem_of_mem_take hx)
  have h2 : (s.Held.take j).length ≤ 100 := by rw [List.length_take]; omega
  have := Nat.mul_le_mul_right 100 h2
  omega
 have hal2 : (ws ++ allWs s.Held).length ≤ 20000 := by
  have := hal s.Held.length
  rw [List.take_length] at this
  rw [List.length_append]; omega
 refine fi H207 fun E hE hH => ?_; simp only [go_sem] at hE hH; simp only [go_sem, hE, hH, C207]
 repeat' (first | ((with_reducible first | refine gd_t ?_ ?_ | refine gd_f ?_ ?_) <;> (intro h; have hb := h; (try simp only [nf] at h); refine sb ?_; (try clear hb))) | ((with_reducible refine And.intro ?_ ?_); · omega) | (with_reducible apply jn) | (with_reducible apply both) | (with_reducible refine And.intro ?_ ?_) | exact fj | refine st ?_ | exact fm | refine s1 ?_ | (with_reducible exact True.intro) | fail)
 refine loopN s.Cells.length (fun j (x : List ByteArray) => ⟨[(1, .sl false 3 (ws.map (Write.row false))), (2, .ptr 3000000 0 0), (5, .ref 6000000 0 x.length), (15, .sl false 2 (s.Cells.map (Cell.row false))), (16, i64 s.Cells.length), (17, i64 j)], [(3000000, ⟨4, [State.row false s]⟩), (6000000, ⟨1, strs x⟩)]⟩) (fun j x => x = ((s.Cells.take j).map (·.Key)).foldl putN [] ∧ x.length ≤ j ∧ srtX strLt id x) [] ⟨rfl, Nat.le_refl _, fun i j _ h => absurd h (by simp)⟩ ?_
 rintro j x hj ⟨hx, hxl, hxs⟩
 try simp only [go_sem, hE, hH, C207_l1]
 first | refine gd_t (fun h1 => ?_) (fun h1 => ?_) | refine gd_f (fun h1 => ?_) (fun h1 => ?_)
 ·have hb1 := h1
  simp only [nf] at h1
  try simp (disch := omega) only [go_sem, hE, hH, hb1]
  repeat' (first | ((with_reducible first | refine gd_t ?_ ?_ | refine gd_f ?_ ?_) <;> (intro h; have hb := h; (try simp only [nf] at h); refine sb ?_; (try clear hb))) | ((with_reducible refine And.intro ?_ ?_); · omega) | (refine ok_lend [true, false] ?_; refine st ?_; refine cmA (l4PutS_ok x _ (by omega) hxs) ?_; refine st ?_) | (with_reducible apply jn) | (with_reducible apply both) | (with_reducible refine And.intro ?_ ?_) | exact fj | refine st ?_ | exact fm | refine s1 ?_ | (with_reducible exact True.intro) | fail)
  have := putN_len (l := x) (k := (nth s.Cells j).Key)
  exact ⟨putN x (nth s.Cells j).Key, rfl, by rw [take_nth h1, List.map_append, List.foldl_append, ← hx]; rfl, by omega, putN_srt hxs⟩
 ·try simp (disch := omega) only [go_sem, hE, hH, h1]
  simp only [nf] at h1
  rw [show j = s.Cells.length by omega, List.take_length] at hx
  repeat' (first | ((with_reducible first | refine gd_t ?_ ?_ | refine gd_f ?_ ?_) <;> (intro h; have hb := h; (try simp only [nf] at h); refine sb ?_; (try clear hb))) | ((with_reducible refine And.intro ?_ ?_); · omega) | (with_reducible apply jn) | (with_reducible apply both) | (with_reducible refine And.intro ?_ ?_) | exact fj | refine st ?_ | exact fm | refine s1 ?_ | (with_reducible exact True.intro) | fail)
  refine loopNe s.Held.length (fun j (z : List Write) => ⟨[(2, .ptr 3000000 0 0), (5, .ref 6000000 0 x.length), (8, .ref 9000000 0 z.length), (30, .sl false 5 (s.Held.map (Held.row false))), (31, i64 s.Held.length), (32, i64 j)], [(3000000, ⟨4, [State.row false s]⟩), (6000000, ⟨1, strs x⟩), (9000000, ⟨3, z.map (Write.row true)⟩)]⟩) (fun j z => z = ws ++ allWs (s.Held.take j)) ws rfl (by simp [allWs]) ?_
  rintro j z hj hz
  have hzl : z.length ≤ 20000 := by
   have := hal j
   rw [hz, List.length_append]; omega
  try simp only [go_sem, hE, hH, C207_l2]
  first | refine gd_t (fun h2 => ?_) (fun h2 => ?_) | refine gd_f (fun h2 => ?_) (fun h2 => ?_)
  ·have hb2 := h2
   simp only [nf] at h2
   have hwj := hw _ (nth_mem h2)
   try simp (disch := omega) only [go_sem, hE, hH, hb2]
   repeat' (first | ((with_reducible first | refine gd_t ?_ ?_ | refine gd_f ?_ ?_) <;> (intro h; have hb := h; (try simp only [nf] at h); refine sb ?_; (try clear hb))) | ((with_reducible refine And.intro ?_ ?_); · omega) | (with_reducible apply jn) | (with_reducible apply both) | (with_reducible refine And.intro ?_ ?_) | exact fj | refine st ?_ | exact fm | refine s1 ?_ | (with_reducible exact True.intro) | fail)
   all_goals try omega
   have el : ws.length + (allWs (s.Held.take (j + 1))).length = z.length + (nth s.Held j).Writes.length := by rw [allWs_snoc h2, hz, List.length_append, List.length_append, Nat.add_assoc]
   have er : ws ++ allWs (s.Held.take (j + 1)) = z ++ (nth s.Held j).Writes := by rw [allWs_snoc h2, hz, List.append_assoc]
   rw [el, er, List.map_append]
   rfl
  ·try simp (disch := omega) only [go_sem, hE, hH, h2]
   simp only [nf] at h2
   rw [show j = s.Held.length by omega, List.take_length] at hz
   rw [← hz] at hal2
   repeat' (first | ((with_reducible first | refine gd_t ?_ ?_ | refine gd_f ?_ ?_) <;> (intro h; have hb := h; (try simp only [nf] at h); refine sb ?_; (try clear hb))) | ((with_reducible refine And.intro ?_ ?_); · omega) | (with_reducible apply jn) | (with_reducible apply both) | (with_reducible refine And.intro ?_ ?_) | exact fj | refine st ?_ | exact fm | refine s1 ?_ | (with_reducible exact True.intro) | fail)
   refine loopNe z.length (fun i (y : List ByteArray) => ⟨[(2, .ptr 3000000 0 0), (5, .ref 6000000 0 y.length), (41, .ref 9000000 0 z.length), (42, i64 z.length), (43, i64 i)], [(3000000, ⟨4, [State.row false s]⟩), (6000000, ⟨1, strs y⟩), (9000000, ⟨3, z.map (Write.row true)⟩)]⟩) (fun i y => y = ((z.take i).map (·.Key)).foldl putN x ∧ (z.take i).any (fun w => fullK s.Cells w.Key) = false) x ?_ ⟨by simp, by simp⟩ ?_
   ·rfl
   rintro i y hi ⟨hy, hfi⟩
   have hys : srtX strLt id y := by rw [hy]; exact putNs_srt hxs
   have hyl : y.length ≤ 30000 := by
    have := putNs_len (ws := (z.take i).map (·.Key)) (l := x)
    rw [← hy, List.length_map, List.length_take] at this
    omega
   try simp only [go_sem, hE, hH, C207_l3]
   first | refine gd_t (fun h3 => ?_) (fun h3 => ?_) | refine gd_f (fun h3 => ?_) (fun h3 => ?_)
   ·have hb3 := h3
    simp only [nf] at h3
    have hlt3 := h3; clear h3
    have hAt := l3At_ok s.Cells (nth z i).Key (by omega) hI0.srt
    have hstep : putN y (nth z i).Key = ((z.take (i + 1)).map (·.Key)).foldl putN x := by
     rw [take_nth hlt3, List.map_append, List.foldl_append, ← hy]; rfl
    cases hf : cF s.Cells (nth z i).Key with
    | true =>
     rw [hf, if_pos rfl] at hAt
     obtain ⟨k1, k2⟩ := cF_here hI0.srt hf
     try simp (disch := omega) only [go_sem, hE, hH, hb3]
     repeat' (first | ((with_reducible first | refine gd_t ?_ ?_ | refine gd_f ?_ ?_) <;> (intro h; have hb := h; (try simp only [nf] at h); refine sb ?_; (try clear hb))) | ((with_reducible refine And.intro ?_ ?_); · omega) | (refine ok_lend [true, false] ?_; refine st ?_; refine cmA (l4PutS_ok y _ (by omega) hys) ?_; refine st ?_) | ((first | refine ok_view ?_ | refine cvA (hAt) ?_); refine st ?_) | (with_reducible apply jn) | (with_reducible apply both) | (with_reducible refine And.intro ?_ ?_) | exact fj | refine st ?_ | exact fm | refine s1 ?_ | (with_reducible exact True.intro) | fail)
     all_goals try omega
     ·rw [← hz, roomS_full (nth_mem hlt3) (by simp only [fullK, hf, Bool.true_and, decide_eq_true_eq]; omega)]
     ·refine ⟨_, rfl, hstep, ?_⟩
      rw [take_nth hlt3, List.any_append, hfi]
      simp only [List.any_cons, List.any_nil, Bool.or_false, Bool.false_or, fullK, hf, Bool.true_and, decide_eq_false_iff_not]
      omega
    | false =>
     rw [hf] at hAt
     simp only [Bool.false_eq_true, if_false] at hAt
     try simp (disch := omega) only [go_sem, hE, hH, hb3]
     repeat' (first | ((with_reducible first | refine gd_t ?_ ?_ | refine gd_f ?_ ?_) <;> (intro h; have hb := h; (try simp only [nf] at h); refine sb ?_; (try clear hb))) | ((with_reducible refine And.intro ?_ ?_); · omega) | (refine ok_lend [true, false] ?_; refine st ?_; refine cmA (l4PutS_ok y _ (by omega) hys) ?_; refine st ?_) | ((first | refine ok_view ?_ | refine cvA (hAt) ?_); refine st ?_) | (with_reducible apply jn) | (with_reducible apply both) | (with_reducible refine And.intro ?_ ?_) | exact fj | refine st ?_ | exact fm | refine s1 ?_ | (with_reducible exact True.intro) | fail)
     all_goals try omega
     refine ⟨_, rfl, hstep, ?_⟩
     rw [take_nth hlt3, List.any_append, hfi]
     simp only [List.any_cons, List.any_nil, Bool.or_false, Bool.false_or, fullK, hf, Bool.false_and]
   ·try simp (disch := omega) only [go_sem, hE, hH, h3]
    simp only [nf] at h3
    rw [show i = z.length by omega, List.take_length] at hy hfi
    repeat' (first | ((with_reducible first | refine gd_t ?_ ?_ | refine gd_f ?_ ?_) <;> (intro h; have hb := h; (try simp only [nf] at h); refine sb ?_; (try clear hb))) | ((with_reducible refine And.intro ?_ ?_); · omega) | (with_reducible apply jn) | (with_reducible apply both) | (with_reducible refine And.intro ?_ ?_) | exact fj | refine st ?_ | exact fm | refine s1 ?_ | (with_reducible exact True.intro) | fail)
    have hy2 : y = (s.Cells.map (·.Key) ++ z.map (·.Key)).foldl putN [] := by rw [List.foldl_append, ← hx, ← hy]
    have hrm : roomS s.Cells (ws ++ allWs s.Held) = decide (y.length ≤ 24) := by rw [← hz, roomS, hfi, hy2, dn_putNs]; rfl
    rw [hrm, show decide (((y.length : Nat) : Int) ≤ 24) = decide (y.length ≤ 24) by rw [decide_eq_decide]; omega]
def apartB (h : Held) (reads : List ByteArray) (writes : List Write) : Bool := !(reads.any (fun k => fwF h.Writes k) || writes.any fun w => fwF h.Writes w.Key || h.Reads.any fun x => decide (w.Key = x))
theorem clash_apart (h : Held) (reads : List ByteArray) (writes : List Write) : clashH ⟨0, 0, 0, reads, writes⟩ h = !apartB h reads writes := by
 unfold apartB clashH overlapW fwF
 rw [Bool.not_not, Bool.eq_iff_iff]
 simp only [Bool.or_eq_true, List.any_eq_true, decide_eq_true_eq]
 constructor
 ·rintro (⟨w, h1, h2⟩ | ⟨w, h1, ⟨v, h2, h3⟩ | ⟨x, h2, h3⟩⟩)
  ·exact .inr ⟨w, h1, h2⟩
  ·exact .inr ⟨v, h2, .inl ⟨w, h1, h3.symm⟩⟩
  ·exact .inl ⟨x, h2, w, h1, h3⟩
 ·rintro (⟨x, h1, w, h2, h3⟩ | ⟨w, h1, h2⟩)
  ·exact .inr ⟨w, h2, .inr ⟨x, h1, h3⟩⟩
  ·exact .inl ⟨w, h1, h2⟩
theorem any_clash (l : List Held) (reads : List ByteArray) (writes : List Write) : (l.any fun k => clashH ⟨0, 0, 0, reads, writes⟩ k) = !allN (fun i => apartB (nth l i) reads writes) l.length := by
 rw [allN_all (p := fun k => apartB k reads writes), List.all_eq_not_any_not, Bool.not_not]
 congr 1; funext k; exact clash_apart k reads writes
theorem l13Apart_ok (a : Held) (reads : List ByteArray) (writes : List Write) (h1 : a.Writes.length ≤ maxLen) (h2 : a.Reads.length ≤ maxLen) (h3 : reads.length ≤ maxLen) (h4 : writes.length ≤ maxLen) : ACall Tryz.prog 206 [.agg (Held.row false a), .sl false 1 (strs reads), .sl false 3 (writes.map (Write.row false))] (fun r _ => r = bl (apartB a reads writes)) := by
 have hmx := mx_eq
 refine fi H206 fun E hE hH => ?_; simp only [go_sem] at hE hH; simp only [go_sem, hE, hH, C206]
 repeat' (first | ((with_reducible first | refine gd_t ?_ ?_ | refine gd_f ?_ ?_) <;> (intro h; have hb := h; (try simp only [nf] at h); refine sb ?_; (try clear hb))) | ((with_reducible refine And.intro ?_ ?_); · omega) | (with_reducible apply jn) | (with_reducible apply both) | (with_reducible refine And.intro ?_ ?_) | exact fj | refine st ?_ | exact fm | refine s1 ?_ | (with_reducible exact True.intro) | fail)
 refine loopN reads.length (fun j (_ : Unit) => ⟨[(2, .sl false 3 (writes.map (Write.row false))), (3, .ptr 4000000 0 0), (11, .sl false 1 (strs reads)), (12, i64 reads.length), (13, i64 j)], [(4000000, ⟨5, [Held.row false a]⟩)]⟩) (fun j _ => allN (fun i => !fwF a.Writes (nth reads i)) j = true) () rfl ?_
 intro j _ hj hIn
 try simp only [go_sem, hE, hH, C206_l1]
 first | refine gd_t (fun hh => ?_) (fun hh => ?_) | refine gd_f (fun hh => ?_) (fun hh => ?_)
 ·have hb := hh
  simp only [nf] at hh
  have hlt := hh; clear hh
  try simp (disch := omega) only [go_sem, hE, hH, hb]
  repeat' (first | ((with_reducible first | refine gd_t ?_ ?_ | refine gd_f ?_ ?_) <;> (intro h; have hb := h; (try simp only [nf] at h); refine sb ?_; (try clear hb))) | ((with_reducible refine And.intro ?_ ?_); · omega) | ((first | refine ok_view ?_ | refine cvA (l13Wrote_ok _ _ h1) ?_); refine st ?_) | (with_reducible apply jn) | (with_reducible apply both) | (with_reducible refine And.intro ?_ ?_) | exact fj | refine st ?_ | exact fm | refine s1 ?_ | (with_reducible exact True.intro) | fail)
  all_goals first | (exact ⟨(), rfl, allN_step hIn (by simp_all)⟩) | (have e : (reads.any fun k => fwF a.Writes k) = true := List.any_eq_true.2 ⟨_, nth_mem hlt, by simp_all⟩; rw [apartB, e]; rfl)
 ·try simp (disch := omega) only [go_sem, hE, hH, hh]
  simp only [nf] at hh
  rw [show j = reads.length by omega, allN_all (p := fun k => !fwF a.Writes k)] at hIn
  have e1 : (reads.any fun k => fwF a.Writes k) = false := by
   rw [List.any_eq_false]; intro x hx; have := List.all_eq_true.1 hIn x hx; simpa using this
  clear hIn hh
  repeat' (first | ((with_reducible first | refine gd_t ?_ ?_ | refine gd_f ?_ ?_) <;> (intro h; have hb := h; (try simp only [nf] at h); refine sb ?_; (try clear hb))) | ((with_reducible refine And.intro ?_ ?_); · omega) | (with_reducible apply jn) | (with_reducible apply both) | (with_reducible refine And.intro ?_ ?_) | exact fj | refine st ?_ | exact fm | refine s1 ?_ | (with_reducible exact True.intro) | fail)
  refine loopN writes.length (fun j (_ : Unit) => ⟨[(3, .ptr 4000000 0 0), (22, .sl false 3 (writes.map (Write.row false))), (23, i64 writes.length), (24, i64 j)], [(4000000, ⟨5, [Held.row false a]⟩)]⟩) (fun j _ => allN (fun i => !(fwF a.Writes (nth writes i).Key || a.Reads.any fun x => decide ((nth writes i).Key = x))) j = true) () rfl ?_
  intro j _ hj hIn2
  try simp only [go_sem, hE, hH, C206_l2]
  first | refine gd_t (fun hh2 => ?_) (fun hh2 => ?_) | refine gd_f (fun hh2 => ?_) (fun hh2 => ?_)
  ·have hb2 := hh2
   simp only [nf] at hh2
   have hlt2 := hh2; clear hh2
   try simp (disch := omega) only [go_sem, hE, hH, hb2]
   repeat' (first | ((with_reducible first | refine gd_t ?_ ?_ | refine gd_f ?_ ?_) <;> (intro h; have hb := h; (try simp only [nf] at h); refine sb ?_; (try clear hb))) | ((with_reducible refine And.intro ?_ ?_); · omega) | ((first | refine ok_view ?_ | refine cvA (l13Wrote_ok _ _ h1) ?_ | refine cvA (l1HasS_ok _ _ h2) ?_); refine st ?_) | (with_reducible apply jn) | (with_reducible apply both) | (with_reducible refine And.intro ?_ ?_) | exact fj | refine st ?_ | exact fm | refine s1 ?_ | (with_reducible exact True.intro) | fail)
   all_goals first | (exact ⟨(), rfl, allN_step hIn2 (by simp_all)⟩) | (have e : (writes.any fun w => fwF a.Writes w.Key || a.Reads.any fun x => decide (w.Key = x)) = true := List.any_eq_true.2 ⟨_, nth_mem hlt2, by simp_all⟩; rw [apartB, e]; simp; done)
  ·try simp (disch := omega) only [go_sem, hE, hH, hh2]
   simp only [nf] at hh2
   rw [show j = writes.length by omega, allN_all (p := fun w : Write => !(fwF a.Writes w.Key || a.Reads.any fun x => decide (w.Key = x)))] at hIn2
   have e : (writes.any fun w => fwF a.Writes w.Key || a.Reads.any fun x => decide (w.Key = x)) = false := by
    rw [List.any_eq_false]; intro x hx; have := List.all_eq_true.1 hIn2 x hx; simpa only [Bool.not_eq_true', Bool.not_eq_true] using this
   rw [apartB, e1, e]
   rfl
theorem fits_1_ok (k a : Held) (h1 : a.Writes.length ≤ 2 ^ 20) (h2 : k.Writes.length ≤ 2 ^ 20) (h3 : a.Reads.length ≤ 2 ^ 20) (h4 : k.Reads.length ≤ 2 ^ 20) (s1 : srtW a.Writes) (s2 : srtW k.Writes) : ACall Tryz.prog 228 ([.agg (Held.row false k)] ++ [.bx false (Held.row false a)]) (fun r _ => r = bl (clashH a k)) := by
 refine fi H228 fun E hE hH => ?_; simp only [go_sem] at hE hH; simp only [go_sem, hE, hH, C228]
 repeat' (first | ((with_reducible first | refine gd_t ?_ ?_ | refine gd_f ?_ ?_) <;> (intro h; have hb := h; (try simp only [nf] at h); refine sb ?_; (try clear hb))) | ((with_reducible refine And.intro ?_ ?_); · omega) | ((first | refine ok_view ?_ | refine cvA (clash_ok a k h1 h2 h3 h4 s1 s2) ?_); refine st ?_) | refine jn _ ?_ ?_ | (with_reducible first | refine both ?_ ?_ | refine And.intro ?_ ?_) | exact fe | refine st ?_ | exact fm | refine s1 ?_ | (with_reducible exact True.intro) | fail)
set_option maxHeartbeats 1000000 in
theorem fits_ok (hS : SortNe) {n : Nat} (s : State) (reads : List ByteArray) (writes : List Write) (hi : stI n s) (h1 : reads.length ≤ 100) (h2 : writes.length ≤ 100) (hs : srtW writes) : ACall Tryz.prog 195 [.agg (State.row false s), .sl false 1 (strs reads), .sl false 3 (writes.map (Write.row false))] (fun r _ => r = bl (fitsS s reads writes)) := by
 have hmx := mx_eq
 have hl := hi.hlen
 have hw : ∀ h ∈ s.Held, h.Writes.length ≤ 100 := fun x hx => by have := hldOk_lists (hi.hok x hx); omega
 have hw2 : ∀ h ∈ s.Held ++ [(⟨0, 0, 0, reads, writes⟩ : Held)], h.Writes.length ≤ 100 := fun x hx => by
  rcases List.mem_append.1 hx with hx | hx
  ·exact hw x hx
  ·rw [List.mem_singleton.1 hx]; exact h2
 have cR := room_ok hS s (s.Held ++ [⟨0, 0, 0, reads, writes⟩]) hi.cells (by rw [List.length_append]; simp; omega) hw2
 have eW : allWs (s.Held ++ [(⟨0, 0, 0, reads, writes⟩ : Held)]) = allWs s.Held ++ writes := by simp [allWs]
 rw [List.map_append, eW] at cR
 have cC := ContainsFunc_Held_ok s.Held 228 [.bx false (Held.row false ⟨0, 0, 0, reads, writes⟩)] (fun k => clashH ⟨0, 0, 0, reads, writes⟩ k) (by kernel_rfl) rfl (by omega) (fun k hk => by
  have q := hldOk_lists (hi.hok k hk)
  exact fits_1_ok k ⟨0, 0, 0, reads, writes⟩ (by simp only; omega) (by omega) (by simp only; omega) (by omega) hs (goodWrites_srt q.2.2.1))
 have et : ∀ (f : Held → List T) (q : List T), (s.Held.map f ++ [q]).take (s.Held.length + 1) = s.Held.map f ++ [q] := fun f q => List.take_of_length_le (by simp)
 refine fi H195 fun E hE hH => ?_; simp only [go_sem] at hE hH; simp only [go_sem, hE, hH, C195]
 repeat' (first | ((with_reducible first | refine gd_t ?_ ?_ | refine gd_f ?_ ?_) <;> (intro h; have hb := h; (try simp only [nf] at h); simp (disch := omega) only [go_sem, hE, hH, et, hb]; (try clear hb))) | ((with_reducible refine And.intro ?_ ?_); · omega) | ((first | refine ok_view ?_ | refine cvA (cC) ?_ | refine cvA (Clone_Held_ok _ (by omega)) ?_ | refine cvA (cR) ?_); simp (disch := omega) only [go_sem, hE, hH, et]) | (with_reducible apply jn) | (with_reducible apply both) | (with_reducible refine And.intro ?_ ?_) | ((with_reducible apply fin_eq); (try (simp (disch := omega) only [go_sem, hE, hH, et])); first | done | rfl) | (simp (disch := omega) only [go_sem, hE, hH, et]) | ((first | apply noMLL_sE | apply pk_sE) <;> (simp only [go_sem, hE, hH, et]; done)) | (simp only [go_sem, hE, hH, et]) | fail)
 all_goals first | omega | (rw [fitsS, h]; rfl) | (rw [fitsS, h, List.length_append]; simp; done)
theorem l13Fits_ok {n : Nat} (s : State) (reads : List ByteArray) (writes : List Write) (hi : stI n s) (h1 : reads.length ≤ 100) (h2 : writes.length ≤ 100) : ACall Tryz.prog 178 [.agg (State.row false s), .sl false 1 (strs reads), .sl false 3 (writes.map (Write.row false))] (fun r _ => r = bl (fitsS s reads writes)) := by
 have hmx := mx_eq
 have hl := hi.hlen
 have hw : ∀ h ∈ s.Held, h.Writes.length ≤ 100 ∧ h.Reads.length ≤ 100 := fun x hx => by have := hldOk_lists (hi.hok x hx); omega
 have cR := l13Room_ok s writes hi.cells h2 (by omega) fun h hh => (hw h hh).1
 have hR : roomS s.Cells (allWs s.Held ++ writes) = roomS s.Cells (writes ++ allWs s.Held) := roomS_congr fun x => by simp only [List.mem_append]; exact Or.comm
 refine fi H178 fun E hE hH => ?_; simp only [go_sem] at hE hH; simp only [go_sem, hE, hH, C178]
 repeat' (first | ((with_reducible first | refine gd_t ?_ ?_ | refine gd_f ?_ ?_) <;> (intro h; have hb := h; (try simp only [nf] at h); refine sb ?_; (try clear hb))) | ((with_reducible refine And.intro ?_ ?_); · omega) | (with_reducible apply jn) | (with_reducible apply both) | (with_reducible refine And.intro ?_ ?_) | exact fj | refine st ?_ | exact fm | refine s1 ?_ | (with_reducible exact True.intro) | fail)
 refine loopN s.Held.length (fun j (_ : Unit) => ⟨[(1, .sl false 1 (strs reads)), (2, .sl false 3 (writes.map (Write.row false))), (3, .ptr 4000000 0 0), (10, .sl false 5 (s.Held.map (Held.row false))), (11, i64 s.Held.length), (12, i64 j)], [(4000000, ⟨4, [State.row false s]⟩)]⟩) (fun j _ => allN (fun i => apartB (nth s.Held i) reads writes) j = true) () rfl ?_
 intro j _ hj hIn
 try simp only [go_sem, hE, hH, C178_l1]
 first | refine gd_t (fun hh => ?_) (fun hh => ?_) | refine gd_f (fun hh => ?_) (fun hh => ?_)
 ·have hb := hh
  simp only [nf] at hh
  have hlt := hh; clear hh
  obtain ⟨q1, q2⟩ := hw _ (nth_mem hlt)
  try simp (disch := omega) only [go_sem, hE, hH, hb]
  repeat' (first | ((with_reducible first | refine gd_t ?_ ?_ | refine gd_f ?_ ?_) <;> (intro h; have hb := h; (try simp only [nf] at h); refine sb ?_; (try clear hb))) | ((with_reducible refine And.intro ?_ ?_); · omega) | ((first | refine ok_view ?_ | refine cvA (l13Apart_ok _ _ _ (by omega) (by omega) (by omega) (by omega)) ?_); refine st ?_) | (with_reducible apply jn) | (with_reducible apply both) | (with_reducible refine And.intro ?_ ?_) | exact fj | refine st ?_ | exact fm | refine s1 ?_ | (with_reducible exact True.intro) | fail)
  all_goals first | (exact ⟨(), rfl, allN_step hIn (by simp_all)⟩) | (rw [fitsS, any_clash, allN_no hlt (by simp_all)]; rfl)
 ·try simp (disch := omega) only [go_sem, hE, hH, hh]
  simp only [nf] at hh
  rw [show j = s.Held.length by omega] at hIn
  have hF : fitsS s reads writes = (decide ((s.Held.length : Int) + 1 ≤ 12) && roomS s.Cells (writes ++ allWs s.Held)) := by rw [fitsS, any_clash, hIn, hR]; rfl
  rw [hF]
  repeat' (first | ((with_reducible first | refine gd_t ?_ ?_ | refine gd_f ?_ ?_) <;> (intro h; have hb := h; (try simp only [nf] at h); refine sb ?_; (try clear hb))) | ((with_reducible refine And.intro ?_ ?_); · omega) | ((first | refine ok_view ?_ | refine cvA (cR) ?_); refine st ?_) | (with_reducible apply jn) | (with_reducible apply both) | (with_reducible refine And.intro ?_ ?_) | exact fj | refine st ?_ | exact fm | refine s1 ?_ | (with_reducible exact True.intro) | fail)
  all_goals first | (simp_all; done) | (simp_all; omega)
theorem goodWrites_sizes {l : List Write} (h : goodWrites l = true) {x : Write} (hx : x ∈ l) : x.Key.size ≤ 100 ∧ x.Val.size ≤ 100 := by
 obtain ⟨i, hi, rfl⟩ := List.getElem_of_mem hx
 simp only [goodWrites, Bool.and_eq_true] at h
 have := allN_iff.1 h.2 i hi
 simp only [Bool.and_eq_true, nth_lt hi] at this
 have h1 := goodKey_size this.1.1
 have h2 := stored_size this.1.2
 exact ⟨by omega, by omega⟩
theorem ok_pack {P : Program} {E : Env} (ms : List (Nat × Nat × List (Nat × Nat))) {i : IN} {K : St → Prop} {s : St} (h : clsQ (InstrOk P E i K) (clsM ms (True, s))) : InstrOk P E i K s := instrOk_ent (clsM_ent (r := (True, s)) (fun _ => Ent.refl s) h.1).2 h.2
theorem lt_sE {d : Nat} {rows : List (List T)} {i : Nat} {r : List T} (h1 : ltLL d rows) (h2 : ltL d r) : ltLL d (rows.set i r) := fun x hx => (List.mem_or_eq_of_mem_set hx).elim (h1 x) fun e => e ▸ h2
theorem set_same {α : Type} [Inhabited α] {f : α → List T} {l : List α} {k : Nat} (h : k < l.length) : (l.map f).set k (f (nth l k)) = l.map f := by
 rw [← List.map_set, nth_lt h, List.set_getElem_self]
def appR : Option State → T
 | none => .tup [.agg (State.row true st0), bl false]
 | some s => .tup [.agg (State.row true s), bl true]
theorem hF_at {l : List Held} {t : Int} (hs : srtX ltI Held.Txn l) (h : hF l t = true) : hI l t < l.length ∧ (nth l (hI l t)).Txn = t := fxF_here cmpJ_ord hs h
theorem delHeld_ok (l : List Held) (i : Nat) (hi : i < l.length) (hl : l.length ≤ 100) : ACall Tryz.prog 223 [.sl true 5 (l.map (Held.row true)), i64 i, i64 ((i : Int) + 1)] (fun r a => r = .sl true 5 ((cutAt l i).map (Held.row true)) ∧ a = [.any, i64 i, i64 ((i : Int) + 1)]) := by
 have hmx := mx_eq
 have q := Delete_Held_ok l i ((i : Int) + 1) (by omega) (by omega) (by omega) (by omega)
 rwa [show l.take ((i : Int)).toNat ++ l.drop ((i : Int) + 1).toNat = cutAt l i by unfold cutAt; rfl] at q
theorem insTold_ok (l : List Told) (i : Nat) (x : Told) (hi : i ≤ l.length) (hl : l.length ≤ 2 ^ 20) : ACall Tryz.prog 224 [.sl true 3 (l.map (Told.row true)), i64 i, .sl false 3 [Told.row false x]] (fun r a => r = .sl true 3 ((putAt l i x).map (Told.row true)) ∧ a = [.any, i64 i, .sl false 3 [Told.row false x]]) := by
 have q := Insert_Told_ok l [x] i (by omega) (by omega) hl (by simp)
 rwa [show l.take ((i : Int)).toNat ++ [x] ++ l.drop ((i : Int)).toNat = putAt l i x by unfold putAt; simp] at q
set_option maxHeartbeats 4000000 in
theorem decided_ok {n : Nat} (s : State) (r : Rec) (hi : stI n s) (hn : n ≤ 100) (ht : r.Yes = true → 1 ≤ r.Time) : ACall Tryz.prog 193 [.agg (State.row false s), .agg (Rec.row false r)] (fun x _ => x = appR (decS s r)) := by
 have hmx := mx_eq
 have hb := hi.b (by omega)
 have hHl := hi.hlen
 have hTl := hi.tlen
 have cFH := findHeld_ok s r.Txn (by omega) hi.hsrt
 have hIl : hI s.Held r.Txn ≤ s.Held.length := fxI_le
 have tIl : tI s.Told r.Txn ≤ s.Told.length := fxI_le
 have cIT := insTold_ok s.Told (tI s.Told r.Txn) ⟨r.Txn, r.Yes, r.Time⟩ tIl (by omega)
 rw [show putAt s.Told (tI s.Told r.Txn) (⟨r.Txn, r.Yes, r.Time⟩ : Told) = toldAdd s r from rfl] at cIT
 have hcl : (heldCut s r).length ≤ 12 := (heldCut_I hi r).1
 have hct : (toldAdd s r).length = s.Told.length + 1 := putAt_len tIl
 cases hY : r.Yes with
 | false =>
  rw [hY] at cIT
  have hD : decS s r = some ⟨s.Floor, s.Cells, heldCut s r, toldAdd s r⟩ := by rw [decS, hY]; rfl
  rw [hD, appR]
  have cFT := findTold_ok ⟨s.Floor, s.Cells, heldCut s r, s.Told⟩ r.Txn (by simp only; omega) hi.tsrt
  cases hH : hF s.Held r.Txn with
  | false =>
   rw [hH] at cFH
   have hC : heldCut s r = s.Held := by rw [heldCut, hH]; rfl
   rw [hC] at cFT ⊢
   refine fi H193 fun E hE hH => ?_; simp only [go_sem] at hE hH; simp only [go_sem, hE, hH, C193]
   repeat' (first | ((with_reducible first | refine gd_t ?_ ?_ | refine gd_f ?_ ?_) <;> (intro h; have hb := h; (try simp only [nf] at h); simp (disch := omega) only [go_sem, hE, hH, hY, hb]; (try clear hb))) | ((with_reducible refine And.intro ?_ ?_); · omega) | (refine ok_lend [true, false, false] ?_; simp (disch := omega) only [go_sem, hE, hH, hY]; refine cmA (cIT) ?_; simp (disch := omega) only [go_sem, hE, hH, hY]) | ((first | refine ok_view ?_ | refine cvA (copyState_ok s hb) ?_ | refine cvA (cFH) ?_ | refine cvA (cFT) ?_); simp (disch := omega) only [go_sem, hE, hH, hY]) | (with_reducible apply jn) | (with_reducible apply both) | (with_reducible refine And.intro ?_ ?_) | ((with_reducible apply fin_eq); (try (simp (disch := omega) only [go_sem, hE, hH, hY])); first | done | rfl) | (simp (disch := omega) only [go_sem, hE, hH, hY]) | ((first | apply noMLL_sE | apply pk_sE) <;> (simp only [go_sem, hE, hH, hY]; done)) | (simp only [go_sem, hE, hH, hY]) | fail)
  | true =>
   rw [hH] at cFH
   obtain ⟨k1, k2⟩ := hF_at hi.hsrt hH
   have cD := delHeld_ok s.Held (hI s.Held r.Txn) k1 (by omega)
   rw [show cutAt s.Held (hI s.Held r.Txn) = heldCut s r by rw [heldCut, hH]; rfl] at cD
   refine fi H193 fun E hE hH => ?_; simp only [go_sem] at hE hH; simp only [go_sem, hE, hH, C193]
   repeat' (first | ((with_reducible first | refine gd_t ?_ ?_ | refine gd_f ?_ ?_) <;> (intro h; have hb := h; (try simp only [nf] at h); simp (disch := omega) only [go_sem, hE, hH, hY, hb]; (try clear hb))) | ((with_reducible refine And.intro ?_ ?_); · omega) | (refine ok_lend [true, false, false] ?_; simp (disch := omega) only [go_sem, hE, hH, hY]; refine cmA (cD) ?_; simp (disch := omega) only [go_sem, hE, hH, hY]) | (refine ok_lend [true, false, false] ?_; simp (disch := omega) only [go_sem, hE, hH, hY]; refine cmA (cIT) ?_; simp (disch := omega) only [go_sem, hE, hH, hY]) | ((first | refine ok_view ?_ | refine cvA (copyState_ok s hb) ?_ | refine cvA (cFH) ?_ | refine cvA (cFT) ?_); simp (disch := omega) only [go_sem, hE, hH, hY]) | (with_reducible apply jn) | (with_reducible apply both) | (with_reducible refine And.intro ?_ ?_) | ((with_reducible apply fin_eq); (try (simp (disch := omega) only [go_sem, hE, hH, hY])); first | done | rfl) | (simp (disch := omega) only [go_sem, hE, hH, hY]) | ((first | apply noMLL_sE | apply pk_sE) <;> (simp only [go_sem, hE, hH, hY]; done)) | (simp only [go_sem, hE, hH, hY]) | fail)
 | true =>
  rw [hY] at cIT
  have ht := ht hY
  cases hH : hF s.Held r.Txn with
  | false =>
   rw [hH] at cFH
   have hD : decS s r = none := by rw [decS, hY, hH]; rfl
   rw [hD, appR]
   refine fi H193 fun E hE hH => ?_; simp only [go_sem] at hE hH; simp only [go_sem, hE, hH, C193]
   repeat' (first | ((with_reducible first | refine gd_t ?_ ?_ | refine gd_f ?_ ?_) <;> (intro h; have hb := h; (try simp only [nf] at h); simp (disch := omega) only [go_sem, hE, hH, hY, hb]; (try clear hb))) | ((with_reducible refine And.intro ?_ ?_); · omega) | ((first | refine ok_view ?_ | refine cvA (copyState_ok s hb) ?_ | refine cvA (cFH) ?_); simp (disch := omega) only [go_sem, hE, hH, hY]) | (with_reducible apply jn) | (with_reducible apply both) | (with_reducible refine And.intro ?_ ?_) | ((with_reducible apply fin_eq); (try (simp (disch := omega) only [go_sem, hE, hH, hY])); first | done | rfl) | (simp (disch := omega) only [go_sem, hE, hH, hY]) | ((first | apply noMLL_sE | apply pk_sE) <;> (simp only [go_sem, hE, hH, hY]; done)) | (simp only [go_sem, hE, hH, hY]) | fail)
   all_goals rfl
  | true =>
   rw [hH] at cFH
   obtain ⟨k1, k2⟩ := hF_at hi.hsrt hH
   have hld := hldOk_lists (hi.hok _ (nth_mem k1))
   have hI0 := goodCells_I hi.cells
   have cD := delHeld_ok s.Held (hI s.Held r.Txn) k1 (by omega)
   rw [show cutAt s.Held (hI s.Held r.Txn) = heldCut s r by rw [heldCut, hH]; rfl] at cD
   have hs := fun r => getD_set_map (f := Held.row true) (r := r) k1
   have hset := set_same (f := Held.row true) k1
   simp only [Held.row_eq] at hset
   by_cases hT : r.Time < (nth s.Held (hI s.Held r.Txn)).Time
   ·have hD : decS s r = none := by rw [decS, hY, hH, decide_eq_true hT]; rfl
    rw [hD, appR]
    have hT2 := decide_eq_true hT
    refine fi H193 fun E hE hH => ?_; simp only [go_sem] at hE hH; simp only [go_sem, hE, hH, C193]
    repeat' (first | ((with_reducible first | refine gd_t ?_ ?_ | refine gd_f ?_ ?_) <;> (intro h; have hb := h; (try simp only [nf] at h); simp (disch := omega) only [go_sem, hE, hH, hY, hT2, hb]; (try clear hb))) | ((with_reducible refine And.intro ?_ ?_); · omega) | ((first | refine ok_view ?_ | refine cvA (copyState_ok s hb) ?_ | refine cvA (cFH) ?_); simp (disch := omega) only [go_sem, hE, hH, hY, hT2]) | (with_reducible apply jn) | (with_reducible apply both) | (with_reducible refine And.intro ?_ ?_) | ((with_reducible apply fin_eq); (try (simp (disch := omega) only [go_sem, hE, hH, hY, hT2])); first | done | rfl) | (simp (disch := omega) only [go_sem, hE, hH, hY, hT2]) | ((first | apply noMLL_sE | apply pk_sE) <;> (simp only [go_sem, hE, hH, hY, hT2]; done)) | (simp only [go_sem, hE, hH, hY, hT2]) | fail)
    all_goals first | rfl
   have hT2 := decide_eq_false hT
   have cP := putCells_ok s.Cells (nth s.Held (hI s.Held r.Txn)).Writes r.Time hI0 (fun x hx => goodWrites_sizes hld.2.2.1 hx) (by omega) ht
   cases hP : putC r.Time s.Cells (nth s.Held (hI s.Held r.Txn)).Writes with
   | none =>
    rw [hP, putR] at cP
    have hD : decS s r = none := by rw [decS, hY, hH, decide_eq_false hT, hP]; rfl
    rw [hD, appR]
    refine fi H193 fun E hE hH => ?_; simp only [go_sem] at hE hH; simp only [go_sem, hE, hH, C193]
    repeat' (first | ((with_reducible first | refine gd_t ?_ ?_ | refine gd_f ?_ ?_) <;> (intro h; have hb := h; (try simp only [nf] at h); simp (disch := omega) only [go_sem, hE, hH, hY, hT2, hs, hset, hb]; (try clear hb))) | ((with_reducible refine And.intro ?_ ?_); · omega) | ((first | refine ok_view ?_ | refine cvA (copyState_ok s hb) ?_ | refine cvA (cFH) ?_ | refine cvA (cP) ?_); simp (disch := omega) only [go_sem, hE, hH, hY, hT2, hs, hset]) | (with_reducible apply jn) | (with_reducible apply both) | (with_reducible refine And.intro ?_ ?_) | ((with_reducible apply fin_eq); (try (simp (disch := omega) only [go_sem, hE, hH, hY, hT2, hs, hset])); first | done | rfl) | (simp (disch := omega) only [go_sem, hE, hH, hY, hT2, hs, hset]) | ((first | apply noMLL_sE | apply pk_sE) <;> (simp only [go_sem, hE, hH, hY, hT2, hs, hset]; done)) | (simp only [go_sem, hE, hH, hY, hT2, hs, hset]) | fail)
    all_goals try (apply lt_sE <;> simp only [go_sem]; done)
    all_goals first | rfl
   | some c =>
    rw [hP, putR] at cP
    have hD : decS s r = some ⟨max s.Floor r.Time, c, heldCut s r, toldAdd s r⟩ := by rw [decS, hY, hH, decide_eq_false hT, hP]; rfl
    rw [hD, appR]
    have hmax : (if r.Time > s.Floor then r.Time else s.Floor) = max s.Floor r.Time := by
     rw [Int.max_def]; split <;> split <;> omega
    have cFT := findTold_ok ⟨max s.Floor r.Time, c, heldCut s r, s.Told⟩ r.Txn (by simp only; omega) hi.tsrt
    refine fi H193 fun E hE hH => ?_; simp only [go_sem] at hE hH; simp only [go_sem, hE, hH, C193]
    repeat' (first | ((with_reducible first | refine gd_t ?_ ?_ | refine gd_f ?_ ?_) <;> (intro h; have hb := h; (try simp only [nf] at h); simp (disch := omega) only [go_sem, hE, hH, hY, hT2, hs, hset, hmax, hb]; (try clear hb))) | ((with_reducible refine And.intro ?_ ?_); · omega) | (refine ok_lend [true, false, false] ?_; simp (disch := omega) only [go_sem, hE, hH, hY, hT2, hs, hset, hmax]; refine cmA (cD) ?_; simp (disch := omega) only [go_sem, hE, hH, hY, hT2, hs, hset, hmax]) | (refine ok_lend [true, false, false] ?_; simp (disch := omega) only [go_sem, hE, hH, hY, hT2, hs, hset, hmax]; refine cmA (cIT) ?_; simp (disch := omega) only [go_sem, hE, hH, hY, hT2, hs, hset, hmax]) | ((first | refine ok_view ?_ | refine cvA (copyState_ok s hb) ?_ | refine cvA (cFH) ?_ | refine cvA (cP) ?_ | refine cvA (cFT) ?_); simp (disch := omega) only [go_sem, hE, hH, hY, hT2, hs, hset, hmax]) | (with_reducible apply jn) | (with_reducible apply both) | (with_reducible refine And.intro ?_ ?_) | ((with_reducible apply fin_eq); (try (simp (disch := omega) only [go_sem, hE, hH, hY, hT2, hs, hset, hmax])); first | done | rfl) | (simp (disch := omega) only [go_sem, hE, hH, hY, hT2, hs, hset, hmax]) | ((first | apply noMLL_sE | apply pk_sE) <;> (simp only [go_sem, hE, hH, hY, hT2, hs, hset, hmax]; done)) | (simp only [go_sem, hE, hH, hY, hT2, hs, hset, hmax]) | fail)
    all_goals try (apply lt_sE <;> simp only [go_sem]; done)
    all_goals first | rfl
set_option maxHeartbeats 2000000 in
theorem applied_ok (hS : SortNe) {n : Nat} (s : State) (r : Rec) (hi : stI n s) (hn : n ≤ 100) (hr : recOk r = true) : ACall Tryz.prog 165 [.agg (State.row false s), .agg (Rec.row false r)] (fun x _ => x = appR (appS s r)) := by
 have hmx := mx_eq
 have hb := hi.b (by omega)
 have hHl := hi.hlen
 have hTl := hi.tlen
 have cFH := findHeld_ok s r.Txn (by omega) hi.hsrt
 have cFT := findTold_ok s r.Txn (by omega) hi.tsrt
 have hIl : hI s.Held r.Txn ≤ s.Held.length := fxI_le
 by_cases h4 : r.Kind = 4
 ·have z1 : decide (r.Kind = 4) = true := decide_eq_true h4
  by_cases hT : r.Time ≤ s.Floor
  ·have z2 := decide_eq_true hT
   have hD : appS s r = none := by rw [appS, if_pos h4, if_pos hT]
   rw [hD, appR]
   refine fi H165 fun E hE hH => ?_; simp only [go_sem] at hE hH; simp only [go_sem, hE, hH, C165]
   try simp (disch := omega) only [go_sem, hE, hH, z1, z2]
   repeat' (first | ((with_reducible first | refine gd_t ?_ ?_ | refine gd_f ?_ ?_) <;> (intro h; have hb := h; (try simp only [nf] at h); simp (disch := omega) only [go_sem, hE, hH, z1, z2, hb]; (try clear hb))) | ((with_reducible refine And.intro ?_ ?_); · omega) | (with_reducible apply jn) | (with_reducible apply both) | (with_reducible refine And.intro ?_ ?_) | ((with_reducible apply fin_eq); (try (simp (disch := omega) only [go_sem, hE, hH, z1, z2])); first | done | rfl) | (simp (disch := omega) only [go_sem, hE, hH, z1, z2]) | ((first | apply noMLL_sE | apply pk_sE) <;> (simp only [go_sem, hE, hH, z1, z2]; done)) | (simp only [go_sem, hE, hH, z1, z2]) | fail)
   all_goals first | rfl
  ·have z2 := decide_eq_false hT
   have hD : appS s r = some ⟨r.Time, s.Cells, s.Held, s.Told⟩ := by rw [appS, if_pos h4, if_neg hT]
   rw [hD, appR]
   refine fi H165 fun E hE hH => ?_; simp only [go_sem] at hE hH; simp only [go_sem, hE, hH, C165]
   try simp (disch := omega) only [go_sem, hE, hH, z1, z2]
   repeat' (first | ((with_reducible first | refine gd_t ?_ ?_ | refine gd_f ?_ ?_) <;> (intro h; have hb := h; (try simp only [nf] at h); simp (disch := omega) only [go_sem, hE, hH, z1, z2, hb]; (try clear hb))) | ((with_reducible refine And.intro ?_ ?_); · omega) | ((first | refine ok_view ?_ | refine cvA (copyState_ok s hb) ?_); simp (disch := omega) only [go_sem, hE, hH, z1, z2]) | (with_reducible apply jn) | (with_reducible apply both) | (with_reducible refine And.intro ?_ ?_) | ((with_reducible apply fin_eq); (try (simp (disch := omega) only [go_sem, hE, hH, z1, z2])); first | done | rfl) | (simp (disch := omega) only [go_sem, hE, hH, z1, z2]) | ((first | apply noMLL_sE | apply pk_sE) <;> (simp only [go_sem, hE, hH, z1, z2]; done)) | (simp only [go_sem, hE, hH, z1, z2]) | fail)
   all_goals first | rfl
 have z1 : decide (r.Kind = 4) = false := decide_eq_false h4
 cases hTF : tF s.Told r.Txn with
 | true =>
  rw [hTF] at cFT
  have hD : appS s r = none := by rw [appS, if_neg h4, hTF]; rfl
  rw [hD, appR]
  refine fi H165 fun E hE hH => ?_; simp only [go_sem] at hE hH; simp only [go_sem, hE, hH, C165]
  try simp (disch := omega) only [go_sem, hE, hH, z1]
  repeat' (first | ((with_reducible first | refine gd_t ?_ ?_ | refine gd_f ?_ ?_) <;> (intro h; have hb := h; (try simp only [nf] at h); simp (disch := omega) only [go_sem, hE, hH, z1, hb]; (try clear hb))) | ((with_reducible refine And.intro ?_ ?_); · omega) | ((first | refine ok_view ?_ | refine cvA (cFT) ?_); simp (disch := omega) only [go_sem, hE, hH, z1]) | (with_reducible apply jn) | (with_reducible apply both) | (with_reducible refine And.intro ?_ ?_) | ((with_reducible apply fin_eq); (try (simp (disch := omega) only [go_sem, hE, hH, z1])); first | done | rfl) | (simp (disch := omega) only [go_sem, hE, hH, z1]) | ((first | apply noMLL_sE | apply pk_sE) <;> (simp only [go_sem, hE, hH, z1]; done)) | (simp only [go_sem, hE, hH, z1]) | fail)
  all_goals first | rfl
 | false =>
  rw [hTF] at cFT
  by_cases h1 : r.Kind = 1
  ·have z2 : decide (r.Kind = 1) = true := decide_eq_true h1
   have hld := hldOk_lists (recOk_kind hr h1)
   have hld1 : r.Reads.length ≤ 8 := hld.1
   have hld2 : r.Writes.length ≤ 8 := hld.2.1
   have cF := fits_ok hS s r.Reads r.Writes hi (by omega) (by omega) (goodWrites_srt hld.2.2.1)
   cases hHF : hF s.Held r.Txn with
   | true =>
    rw [hHF] at cFH
    have hD : appS s r = none := by rw [appS, if_neg h4, hTF, if_neg (by simp), if_neg (by simp [h1]), hHF]; rfl
    rw [hD, appR]
    refine fi H165 fun E hE hH => ?_; simp only [go_sem] at hE hH; simp only [go_sem, hE, hH, C165]
    try simp (disch := omega) only [go_sem, hE, hH, z1, z2]
    repeat' (first | ((with_reducible first | refine gd_t ?_ ?_ | refine gd_f ?_ ?_) <;> (intro h; have hb := h; (try simp only [nf] at h); simp (disch := omega) only [go_sem, hE, hH, z1, z2, hb]; (try clear hb))) | ((with_reducible refine And.intro ?_ ?_); · omega) | ((first | refine ok_view ?_ | refine cvA (cFT) ?_ | refine cvA (cFH) ?_); simp (disch := omega) only [go_sem, hE, hH, z1, z2]) | (with_reducible apply jn) | (with_reducible apply both) | (with_reducible refine And.intro ?_ ?_) | ((with_reducible apply fin_eq); (try (simp (disch := omega) only [go_sem, hE, hH, z1, z2])); first | done | rfl) | (simp (disch := omega) only [go_sem, hE, hH, z1, z2]) | ((first | apply noMLL_sE | apply pk_sE) <;> (simp only [go_sem, hE, hH, z1, z2]; done)) | (simp only [go_sem, hE, hH, z1, z2]) | fail)
    all_goals first | rfl
   | false =>
    rw [hHF] at cFH
    by_cases hT : r.Time ≤ s.Floor
    ·have z3 := decide_eq_true hT
     have hD : appS s r = none := by rw [appS, if_neg h4, hTF, if_neg (by simp), if_neg (by simp [h1]), hHF, z3]; rfl
     rw [hD, appR]
     refine fi H165 fun E hE hH => ?_; simp only [go_sem] at hE hH; simp only [go_sem, hE, hH, C165]
     try simp (disch := omega) only [go_sem, hE, hH, z1, z2, z3]
     repeat' (first | ((with_reducible first | refine gd_t ?_ ?_ | refine gd_f ?_ ?_) <;> (intro h; have hb := h; (try simp only [nf] at h); simp (disch := omega) only [go_sem, hE, hH, z1, z2, z3, hb]; (try clear hb))) | ((with_reducible refine And.intro ?_ ?_); · omega) | ((first | refine ok_view ?_ | refine cvA (cFT) ?_ | refine cvA (cFH) ?_); simp (disch := omega) only [go_sem, hE, hH, z1, z2, z3]) | (with_reducible apply jn) | (with_reducible apply both) | (with_reducible refine And.intro ?_ ?_) | ((with_reducible apply fin_eq); (try (simp (disch := omega) only [go_sem, hE, hH, z1, z2, z3])); first | done | rfl) | (simp (disch := omega) only [go_sem, hE, hH, z1, z2, z3]) | ((first | apply noMLL_sE | apply pk_sE) <;> (simp only [go_sem, hE, hH, z1, z2, z3]; done)) | (simp only [go_sem, hE, hH, z1, z2, z3]) | fail)
     all_goals first | rfl
    have z3 := decide_eq_false hT
    cases hFt : fitsS s r.Reads r.Writes with
    | false =>
     rw [hFt] at cF
     have hD : appS s r = none := by rw [appS, if_neg h4, hTF, if_neg (by simp), if_neg (by simp [h1]), hHF, z3, hFt]; rfl
     rw [hD, appR]
     refine fi H165 fun E hE hH => ?_; simp only [go_sem] at hE hH; simp only [go_sem, hE, hH, C165]
     try simp (disch := omega) only [go_sem, hE, hH, z1, z2, z3]
     repeat' (first | ((with_reducible first | refine gd_t ?_ ?_ | refine gd_f ?_ ?_) <;> (intro h; have hb := h; (try simp only [nf] at h); simp (disch := omega) only [go_sem, hE, hH, z1, z2, z3, hb]; (try clear hb))) | ((with_reducible refine And.intro ?_ ?_); · omega) | ((first | refine ok_view ?_ | refine cvA (cFT) ?_ | refine cvA (cFH) ?_ | refine cvA (cF) ?_); simp (disch := omega) only [go_sem, hE, hH, z1, z2, z3]) | (with_reducible apply jn) | (with_reducible apply both) | (with_reducible refine And.intro ?_ ?_) | ((with_reducible apply fin_eq); (try (simp (disch := omega) only [go_sem, hE, hH, z1, z2, z3])); first | done | rfl) | (simp (disch := omega) only [go_sem, hE, hH, z1, z2, z3]) | ((first | apply noMLL_sE | apply pk_sE) <;> (simp only [go_sem, hE, hH, z1, z2, z3]; done)) | (simp only [go_sem, hE, hH, z1, z2, z3]) | fail)
     all_goals first | rfl
    | true =>
     rw [hFt] at cF
     have hD : appS s r = some ⟨r.Time, s.Cells, putAt s.Held (hI s.Held r.Txn) (hOf r), s.Told⟩ := by rw [appS, if_neg h4, hTF, if_neg (by simp), if_neg (by simp [h1]), hHF, z3, hFt]; rfl
     rw [hD, appR]
     have cI := Insert_Held_ok s.Held (hOf r) (hI s.Held r.Txn) (by omega) (by omega) (by omega)
     refine fi H165 fun E hE hH => ?_; simp only [go_sem] at hE hH; simp only [go_sem, hE, hH, C165]
     try simp (disch := omega) only [go_sem, hE, hH, z1, z2, z3]
     repeat' (first | ((with_reducible first | refine gd_t ?_ ?_ | refine gd_f ?_ ?_) <;> (intro h; have hb := h; (try simp only [nf] at h); simp (disch := omega) only [go_sem, hE, hH, z1, z2, z3, hb]; (try clear hb))) | ((with_reducible refine And.intro ?_ ?_); · omega) | (refine ok_pack [(76, 1, [(3, 1), (4, 3)])] ?_; simp (disch := omega) only [go_sem, hE, hH, z1, z2, z3]; refine ok_lend [true, false, true] ?_; simp (disch := omega) only [go_sem, hE, hH, z1, z2, z3]; refine cmA (cI) ?_; simp (disch := omega) only [go_sem, hE, hH, z1, z2, z3]) | ((first | refine ok_view ?_ | refine cvA (cFT) ?_ | refine cvA (cFH) ?_ | refine cvA (cF) ?_ | refine cvA (copyState_ok s hb) ?_ | refine cvA (heldOf_ok r (by omega) (by omega)) ?_); simp (disch := omega) only [go_sem, hE, hH, z1, z2, z3]) | (with_reducible apply jn) | (with_reducible apply both) | (with_reducible refine And.intro ?_ ?_) | ((with_reducible apply fin_eq); (try (simp (disch := omega) only [go_sem, hE, hH, z1, z2, z3])); first | done | rfl) | (simp (disch := omega) only [go_sem, hE, hH, z1, z2, z3]) | ((first | apply noMLL_sE | apply pk_sE) <;> (simp only [go_sem, hE, hH, z1, z2, z3]; done)) | (simp only [go_sem, hE, hH, z1, z2, z3]) | fail)
     all_goals first | rfl
  ·have z2 : decide (r.Kind = 1) = false := decide_eq_false h1
   have hD : appS s r = decS s r := by rw [appS, if_neg h4, hTF, if_neg (by simp), if_pos h1]
   rw [hD]
   have hY : r.Yes = true → 1 ≤ r.Time := fun hY => by
    simp only [recOk, h1, h4, if_false, hY] at hr
    split at hr
    ·simp only [Bool.and_eq_true, Bool.or_eq_true, rng_iff, Bool.not_true, Bool.false_and, Bool.true_and, Bool.false_eq_true, or_false] at hr
     omega
    ·cases hr
   have cDec := decided_ok s r hi hn hY
   cases hdec : decS s r with
   | none =>
    rw [hdec, appR] at cDec
    rw [appR]
    refine fi H165 fun E hE hH => ?_; simp only [go_sem] at hE hH; simp only [go_sem, hE, hH, C165]
    try simp (disch := omega) only [go_sem, hE, hH, z1, z2]
    repeat' (first | ((with_reducible first | refine gd_t ?_ ?_ | refine gd_f ?_ ?_) <;> (intro h; have hb := h; (try simp only [nf] at h); simp (disch := omega) only [go_sem, hE, hH, z1, z2, hb]; (try clear hb))) | ((with_reducible refine And.intro ?_ ?_); · omega) | ((first | refine ok_view ?_ | refine cvA (cFT) ?_ | refine cvA (cDec) ?_); simp (disch := omega) only [go_sem, hE, hH, z1, z2]) | (with_reducible apply jn) | (with_reducible apply both) | (with_reducible refine And.intro ?_ ?_) | ((with_reducible apply fin_eq); (try (simp (disch := omega) only [go_sem, hE, hH, z1, z2])); first | done | rfl) | (simp (disch := omega) only [go_sem, hE, hH, z1, z2]) | ((first | apply noMLL_sE | apply pk_sE) <;> (simp only [go_sem, hE, hH, z1, z2]; done)) | (simp only [go_sem, hE, hH, z1, z2]) | fail)
    all_goals first | rfl
   | some q =>
    rw [hdec, appR] at cDec
    rw [appR]
    refine fi H165 fun E hE hH => ?_; simp only [go_sem] at hE hH; simp only [go_sem, hE, hH, C165]
    try simp (disch := omega) only [go_sem, hE, hH, z1, z2]
    repeat' (first | ((with_reducible first | refine gd_t ?_ ?_ | refine gd_f ?_ ?_) <;> (intro h; have hb := h; (try simp only [nf] at h); simp (disch := omega) only [go_sem, hE, hH, z1, z2, hb]; (try clear hb))) | ((with_reducible refine And.intro ?_ ?_); · omega) | ((first | refine ok_view ?_ | refine cvA (cFT) ?_ | refine cvA (cDec) ?_); simp (disch := omega) only [go_sem, hE, hH, z1, z2]) | (with_reducible apply jn) | (with_reducible apply both) | (with_reducible refine And.intro ?_ ?_) | ((with_reducible apply fin_eq); (try (simp (disch := omega) only [go_sem, hE, hH, z1, z2])); first | done | rfl) | (simp (disch := omega) only [go_sem, hE, hH, z1, z2]) | ((first | apply noMLL_sE | apply pk_sE) <;> (simp only [go_sem, hE, hH, z1, z2]; done)) | (simp only [go_sem, hE, hH, z1, z2]) | fail)
    all_goals first | rfl
def tPl (l : List Told) (t : Int) : Nat := dnI (fun y : Told => ltI t y.Txn) l l.length
def hPl (l : List Held) (t : Int) : Nat := dnI (fun y : Held => ltI t y.Txn) l l.length
theorem tPl_eq {l : List Told} (hs : srtX ltI Told.Txn l) {x : Told} (h : tF l x.Txn = false) : tPl l x.Txn = tI l x.Txn := dnI_eq (f := Told.Txn) cmpJ_ord hs h
theorem hPl_eq {l : List Held} (hs : srtX ltI Held.Txn l) {x : Held} (h : hF l x.Txn = false) : hPl l x.Txn = hI l x.Txn := dnI_eq (f := Held.Txn) cmpJ_ord hs h
set_option maxHeartbeats 1000000 in
theorem l13PutTold_ok (l : List Told) (t : Told) (hl : l.length ≤ 2 ^ 20) : ACall Tryz.prog 182 [.sl false 3 (l.map (Told.row false)), .agg (Told.row false t)] (fun r _ => r = .sl true 3 ((putAt l (tPl l t.Txn) t).map (Told.row true))) := by
 have hmx := mx_eq
 refine fi H182 fun E hE hH => ?_; simp only [go_sem] at hE hH; simp only [go_sem, hE, hH, C182]
 try simp (disch := omega) only [go_sem, hE, hH]
 refine loopM (fun (k : Nat) => ⟨[(0, .sl false 3 (l.map (Told.row false))), (3, .ptr 4000000 0 0), (5, i64 k)], [(4000000, ⟨3, [Told.row false t]⟩)]⟩) (fun k => k ≤ l.length ∧ ∀ i, k ≤ i → i < l.length → ltI t.Txn (nth l i).Txn = true) (fun k => k) l.length ⟨Nat.le_refl _, fun i a b => absurd b (by omega)⟩ ?_
 rintro k ⟨hk, hK⟩
 have e1 : ((k : Int) - 1).toNat = k - 1 := by omega
 by_cases hgo : k ≠ 0 ∧ ltI t.Txn (nth l (k - 1)).Txn = true
 ·obtain ⟨hk0, hq⟩ := hgo
  have e2 : decide ((0 : Int) < (k : Int)) = true := decide_eq_true (by omega)
  have e3 : decide (t.Txn < (nth l (k - 1)).Txn) = true := hq
  try simp only [go_sem, hE, hH, e1, e2, e3, C182_l1]
  repeat' (first | ((with_reducible first | refine gd_t ?_ ?_ | refine gd_f ?_ ?_) <;> (intro h; have hb := h; (try simp only [nf] at h); simp (disch := omega) only [go_sem, hE, hH, e1, e2, e3, hb]; (try clear hb))) | ((with_reducible refine And.intro ?_ ?_); · omega) | (with_reducible apply jn) | (with_reducible apply both) | (with_reducible refine And.intro ?_ ?_) | ((with_reducible apply fin_eq); (try (simp (disch := omega) only [go_sem, hE, hH, e1, e2, e3])); first | done | rfl) | (simp (disch := omega) only [go_sem, hE, hH, e1, e2, e3]) | ((first | apply noMLL_sE | apply pk_sE) <;> (simp only [go_sem, hE, hH, e1, e2, e3]; done)) | (simp only [go_sem, hE, hH, e1, e2, e3]) | fail)
  all_goals first | omega | (refine ⟨k - 1, ?_, ⟨by omega, fun i a b => ?_⟩, by omega⟩)
  ·rw [show ((k - 1 : Nat) : Int) = (k : Int) - 1 by omega]
  ·by_cases e : i = k - 1
   ·rw [e]; exact hq
   ·exact hK i (by omega) b
 have hd : tPl l t.Txn = k := dnI_at hk hK (by
  by_cases e : k = 0
  ·exact .inl e
  ·right
   cases q : ltI t.Txn (nth l (k - 1)).Txn with
   | false => rfl
   | true => exact absurd ⟨e, q⟩ hgo)
 rw [hd]
 have d1 : (l.drop k).take (l.length - k) = l.drop k := List.take_of_length_le (by simp)
 have lt1 : (l.take k).length = k := by rw [List.length_take]; omega
 have d2 : (l.take k).take k = l.take k := by rw [List.take_take, Nat.min_self]
 have d3 : ∀ (f : Told → List T) q, ((l.take k).map f ++ [q]).take (k + 1) = (l.take k).map f ++ [q] := fun f q => List.take_of_length_le (by simp; omega)
 have hdx : (l.drop k).length = l.length - k := by simp
 by_cases hk0 : k = 0
 ·subst hk0
  have fC : decide ((0 : Int) < ((0 : Nat) : Int)) = false := rfl
  have fD : decide ((0 : Int) < (0 : Int)) = false := rfl
  try simp only [go_sem, hE, hH, fC, fD, d1, d2, d3, hdx, C182_l1]
  repeat' (first | ((with_reducible first | refine gd_t ?_ ?_ | refine gd_f ?_ ?_) <;> (intro h; have hb := h; (try simp only [nf] at h); simp (disch := omega) only [go_sem, hE, hH, fC, fD, d1, d2, d3, hdx, hb]; (try clear hb))) | ((with_reducible refine And.intro ?_ ?_); · omega) | (with_reducible apply jn) | (with_reducible apply both) | (with_reducible refine And.intro ?_ ?_) | ((with_reducible apply fin_eq); (try (simp (disch := omega) only [go_sem, hE, hH, fC, fD, d1, d2, d3, hdx])); first | done | rfl) | (simp (disch := omega) only [go_sem, hE, hH, fC, fD, d1, d2, d3, hdx]) | ((first | apply noMLL_sE | apply pk_sE) <;> (simp only [go_sem, hE, hH, fC, fD, d1, d2, d3, hdx]; done)) | (simp only [go_sem, hE, hH, fC, fD, d1, d2, d3, hdx]) | fail)
  all_goals first | omega | (simp only [putAt, List.map_append, List.map_cons, List.take_zero, List.drop_zero, List.nil_append, List.append_assoc, List.cons_append]; rfl)
 ·have fC : decide ((0 : Int) < (k : Int)) = true := decide_eq_true (by omega)
  have fE : decide (t.Txn < (nth l (k - 1)).Txn) = false := by
   cases q : ltI t.Txn (nth l (k - 1)).Txn with
   | false => exact q
   | true => exact absurd ⟨hk0, q⟩ hgo
  try simp only [go_sem, hE, hH, e1, fC, fE, d1, d2, d3, hdx, lt1, C182_l1]
  repeat' (first | ((with_reducible first | refine gd_t ?_ ?_ | refine gd_f ?_ ?_) <;> (intro h; have hb := h; (try simp only [nf] at h); simp (disch := omega) only [go_sem, hE, hH, e1, fC, fE, d1, d2, d3, hdx, lt1, hb]; (try clear hb))) | ((with_reducible refine And.intro ?_ ?_); · omega) | (with_reducible apply jn) | (with_reducible apply both) | (with_reducible refine And.intro ?_ ?_) | ((with_reducible apply fin_eq); (try (simp (disch := omega) only [go_sem, hE, hH, e1, fC, fE, d1, d2, d3, hdx, lt1])); first | done | rfl) | (simp (disch := omega) only [go_sem, hE, hH, e1, fC, fE, d1, d2, d3, hdx, lt1]) | ((first | apply noMLL_sE | apply pk_sE) <;> (simp only [go_sem, hE, hH, e1, fC, fE, d1, d2, d3, hdx, lt1]; done)) | (simp only [go_sem, hE, hH, e1, fC, fE, d1, d2, d3, hdx, lt1]) | fail)
  all_goals first | omega | (simp only [putAt, List.map_append, List.map_cons, List.take_zero, List.drop_zero, List.nil_append, List.append_assoc, List.cons_append]; rfl)
set_option maxHeartbeats 1000000 in
theorem l13PutHeld_ok (l : List Held) (t : Held) (hl : l.length ≤ 2 ^ 20) : ACall Tryz.prog 176 [.sl false 5 (l.map (Held.row false)), .agg (Held.row false t)] (fun r _ => r = .sl true 5 ((putAt l (hPl l t.Txn) t).map (Held.row false))) := by
 have hmx := mx_eq
 refine fi H176 fun E hE hH => ?_; simp only [go_sem] at hE hH; simp only [go_sem, hE, hH, C176]
 try simp (disch := omega) only [go_sem, hE, hH]
 refine loopM (fun (k : Nat) => ⟨[(0, .sl false 5 (l.map (Held.row false))), (3, .ptr 4000000 0 0), (5, i64 k)], [(4000000, ⟨5, [Held.row false t]⟩)]⟩) (fun k => k ≤ l.length ∧ ∀ i, k ≤ i → i < l.length → ltI t.Txn (nth l i).Txn = true) (fun k => k) l.length ⟨Nat.le_refl _, fun i a b => absurd b (by omega)⟩ ?_
 rintro k ⟨hk, hK⟩
 have e1 : ((k : Int) - 1).toNat = k - 1 := by omega
 by_cases hgo : k ≠ 0 ∧ ltI t.Txn (nth l (k - 1)).Txn = true
 ·obtain ⟨hk0, hq⟩ := hgo
  have e2 : decide ((0 : Int) < (k : Int)) = true := decide_eq_true (by omega)
  have e3 : decide (t.Txn < (nth l (k - 1)).Txn) = true := hq
  try simp only [go_sem, hE, hH, e1, e2, e3, C176_l1]
  repeat' (first | ((with_reducible first | refine gd_t ?_ ?_ | refine gd_f ?_ ?_) <;> (intro h; have hb := h; (try simp only [nf] at h); simp (disch := omega) only [go_sem, hE, hH, e1, e2, e3, hb]; (try clear hb))) | ((with_reducible refine And.intro ?_ ?_); · omega) | (with_reducible apply jn) | (with_reducible apply both) | (with_reducible refine And.intro ?_ ?_) | ((with_reducible apply fin_eq); (try (simp (disch := omega) only [go_sem, hE, hH, e1, e2, e3])); first | done | rfl) | (simp (disch := omega) only [go_sem, hE, hH, e1, e2, e3]) | ((first | apply noMLL_sE | apply pk_sE) <;> (simp only [go_sem, hE, hH, e1, e2, e3]; done)) | (simp only [go_sem, hE, hH, e1, e2, e3]) | fail)
  all_goals first | omega | (refine ⟨k - 1, ?_, ⟨by omega, fun i a b => ?_⟩, by omega⟩)
  ·rw [show ((k - 1 : Nat) : Int) = (k : Int) - 1 by omega]
  ·by_cases e : i = k - 1
   ·rw [e]; exact hq
   ·exact hK i (by omega) b
 have hd : hPl l t.Txn = k := dnI_at hk hK (by
  by_cases e : k = 0
  ·exact .inl e
  ·right
   cases q : ltI t.Txn (nth l (k - 1)).Txn with
   | false => rfl
   | true => exact absurd ⟨e, q⟩ hgo)
 rw [hd]
 have d1 : (l.drop k).take (l.length - k) = l.drop k := List.take_of_length_le (by simp)
 have lt1 : (l.take k).length = k := by rw [List.length_take]; omega
 have d2 : (l.take k).take k = l.take k := by rw [List.take_take, Nat.min_self]
 have d3 : ∀ (f : Held → List T) q, ((l.take k).map f ++ [q]).take (k + 1) = (l.take k).map f ++ [q] := fun f q => List.take_of_length_le (by simp; omega)
 have hdx : (l.drop k).length = l.length - k := by simp
 by_cases hk0 : k = 0
 ·subst hk0
  have fC : decide ((0 : Int) < ((0 : Nat) : Int)) = false := rfl
  have fD : decide ((0 : Int) < (0 : Int)) = false := rfl
  try simp only [go_sem, hE, hH, fC, fD, d1, d2, d3, hdx, C176_l1]
  repeat' (first | ((with_reducible first | refine gd_t ?_ ?_ | refine gd_f ?_ ?_) <;> (intro h; have hb := h; (try simp only [nf] at h); simp (disch := omega) only [go_sem, hE, hH, fC, fD, d1, d2, d3, hdx, hb]; (try clear hb))) | ((with_reducible refine And.intro ?_ ?_); · omega) | (with_reducible apply jn) | (with_reducible apply both) | (with_reducible refine And.intro ?_ ?_) | ((with_reducible apply fin_eq); (try (simp (disch := omega) only [go_sem, hE, hH, fC, fD, d1, d2, d3, hdx])); first | done | rfl) | (simp (disch := omega) only [go_sem, hE, hH, fC, fD, d1, d2, d3, hdx]) | ((first | apply noMLL_sE | apply pk_sE) <;> (simp only [go_sem, hE, hH, fC, fD, d1, d2, d3, hdx]; done)) | (simp only [go_sem, hE, hH, fC, fD, d1, d2, d3, hdx]) | fail)
  all_goals first | omega | (simp only [putAt, List.map_append, List.map_cons, List.take_zero, List.drop_zero, List.nil_append, List.append_assoc, List.cons_append]; rfl)
 ·have fC : decide ((0 : Int) < (k : Int)) = true := decide_eq_true (by omega)
  have fE : decide (t.Txn < (nth l (k - 1)).Txn) = false := by
   cases q : ltI t.Txn (nth l (k - 1)).Txn with
   | false => exact q
   | true => exact absurd ⟨hk0, q⟩ hgo
  have g3 : ∀ (f : Held → List T) q, ((l.take k).map f ++ [q] ++ (l.drop k).map f).getD k [] = q := fun f q => by
   have ea : ((l.take k).map f).length = k := by rw [List.length_map, lt1]
   rw [List.append_assoc, List.getD_eq_getElem?_getD, List.getElem?_append_right (by omega), ea, Nat.sub_self]; rfl
  try simp only [go_sem, hE, hH, e1, fC, fE, d1, d2, d3, hdx, lt1, g3, C176_l1]
  repeat' (first | ((with_reducible first | refine gd_t ?_ ?_ | refine gd_f ?_ ?_) <;> (intro h; have hb := h; (try simp only [nf] at h); simp (disch := omega) only [go_sem, hE, hH, e1, fC, fE, d1, d2, d3, hdx, lt1, g3, hb]; (try clear hb))) | ((with_reducible refine And.intro ?_ ?_); · omega) | (with_reducible apply jn) | (with_reducible apply both) | (with_reducible refine And.intro ?_ ?_) | ((with_reducible apply fin_eq); (try (simp (disch := omega) only [go_sem, hE, hH, e1, fC, fE, d1, d2, d3, hdx, lt1, g3])); first | done | rfl) | (simp (disch := omega) only [go_sem, hE, hH, e1, fC, fE, d1, d2, d3, hdx, lt1, g3]) | ((first | apply noMLL_sE | apply pk_sE) <;> (simp only [go_sem, hE, hH, e1, fC, fE, d1, d2, d3, hdx, lt1, g3]; done)) | (simp only [go_sem, hE, hH, e1, fC, fE, d1, d2, d3, hdx, lt1, g3]) | fail)
  all_goals first | omega | (simp only [putAt, List.map_append, List.map_cons, List.take_zero, List.drop_zero, List.nil_append, List.append_assoc, List.cons_append]; rfl)
theorem l13Less_ok (l : List Held) (t : Int) (hl : l.length ≤ 2 ^ 20) : ACall Tryz.prog 181 [.sl false 5 (l.map (Held.row false)), i64 t] (fun r _ => r = .sl true 5 ((l.filter fun x => !decide (x.Txn = t)).map (Held.row false))) := by
 have hmx := mx_eq
 refine fi H181 fun E hE hH => ?_; simp only [go_sem] at hE hH; simp only [go_sem, hE, hH, C181]
 refine loopN l.length (fun j (x : List Held) => ⟨[(1, i64 t), (5, .ref 6000000 0 x.length), (8, .sl false 5 (l.map (Held.row false))), (9, i64 l.length), (10, i64 j)], [(6000000, ⟨5, x.map (Held.row false)⟩)]⟩) (fun j x => x = (l.take j).filter fun x => !decide (x.Txn = t)) [] rfl ?_
 intro j x hj hx
 have hxl : x.length ≤ j := by
  have h1 : x.length ≤ (l.take j).length := by rw [hx]; exact List.length_filter_le _ _
  rw [List.length_take] at h1; omega
 have hxt : x.take x.length = x := List.take_length
 try simp only [go_sem, hE, hH, C181_l1]
 first | refine gd_t (fun h => ?_) (fun h => ?_) | refine gd_f (fun h => ?_) (fun h => ?_)
 ·have hb := h
  simp only [nf] at h
  have hlt := h; clear h
  try simp (disch := omega) only [go_sem, hE, hH, hb]
  repeat' (first | ((with_reducible first | refine gd_t ?_ ?_ | refine gd_f ?_ ?_) <;> (intro h; have hb := h; (try simp only [nf] at h); refine sb ?_; (try clear hb))) | ((with_reducible refine And.intro ?_ ?_); · omega) | (with_reducible apply jn) | (with_reducible apply both) | (with_reducible refine And.intro ?_ ?_) | exact fj | refine st ?_ | exact fm | refine s1 ?_ | (with_reducible exact True.intro) | fail)
  all_goals try omega
  ·have e : (l.take (j + 1)).filter (fun x => !decide (x.Txn = t)) = x ++ [nth l j] := by
    rw [take_nth hlt, List.filter_append, ← hx]
    simp [h]
   rw [e, List.length_append, List.map_append]
   rfl
  ·have e : (l.take (j + 1)).filter (fun x => !decide (x.Txn = t)) = x := by
    rw [take_nth hlt, List.filter_append, ← hx]
    simp [h]
   rw [e]
   rfl
 ·try simp (disch := omega) only [go_sem, hE, hH, h]
  simp only [nf] at h
  rw [show j = l.length by omega, List.take_length] at hx
  subst hx
  rfl
theorem ACall.dshN {P : Program} {f : Nat} {args : List T} {α : Type} {X : α → T} {C : α → Prop} (h : ACall P f args (fun r _ => ∃ q, nilLe r.dsh (X q) ∧ C q)) : ACall P f args (fun r _ => ∃ q, r = X q ∧ C q) := by
 refine ACall.nil (h.dshR.mono ?_)
 rintro r l ⟨r0, ⟨q, h1, h2⟩, rfl⟩
 exact ⟨X q, h1, q, rfl, h2⟩
def sAppR (q : State) (b : Bool) : T := .tup [.agg (State.row false q), bl b]
theorem nilR_sApp {C : State → Prop} {r : T} {l : List T} {b : Bool} (q : State) (h : nilLe r.dsh (sAppR q b)) (hC : C q) : nilR (fun r _ => ∃ q, nilLe r.dsh (sAppR q b) ∧ C q) r l := nilR_of ⟨q, h, hC⟩
theorem nilR_sApp2 {C : State → Prop} {r : T} {l : List T} {b : Bool} (q : State) (b0 : Bool) (h : nilLe r.dsh (sAppR q b0)) (hb : b0 = b) (hC : C q) : nilR (fun r _ => ∃ q, nilLe r.dsh (sAppR q b) ∧ C q) r l := nilR_sApp q (hb ▸ h) hC
theorem heldCut_filter {n : Nat} {s : State} {r : Rec} (hi : stI n s) : heldCut s r = s.Held.filter fun x => !decide (x.Txn = r.Txn) := by
 unfold heldCut
 cases hH : hF s.Held r.Txn with
 | true =>
  obtain ⟨k1, k2⟩ := hF_at hi.hsrt hH
  rw [if_pos rfl, cutAt_filter (f := Held.Txn) cmpJ_ord hi.hsrt k1, k2]
 | false =>
  rw [if_neg (by simp)]
  symm
  rw [List.filter_eq_self]
  intro x hx
  rw [hF, fxF, List.any_eq_false] at hH
  simpa using hH x hx
set_option maxHeartbeats 4000000 in
theorem l13Apply_ok {n : Nat} (s : State) (r : Rec) (hi : stI n s) (hn : n ≤ 100) (hr : recOk r = true) : ACall Tryz.prog 151 [.agg (State.row false s), .agg (Rec.row false r)] (fun x _ => ∃ q, x = sAppR q (appS s r).isSome ∧ ∀ s', appS s r = some s' → q = s') := by
 have hmx := mx_eq
 have hb := hi.b (by omega)
 have hHl := hi.hlen
 have hTl := hi.tlen
 have cO := l13Own_ok s hb
 have cFH := l13HeldOf_ok s r.Txn (by omega) hi.hsrt
 have cFT := l13ToldOf_ok s r.Txn (by omega) hi.tsrt
 refine ACall.dshN (X := fun q => sAppR q (appS s r).isSome) ?_
 by_cases h4 : r.Kind = 4
 ·have z1 : decide (r.Kind = 4) = true := decide_eq_true h4
  have hD : appS s r = if r.Time ≤ s.Floor then none else some ⟨r.Time, s.Cells, s.Held, s.Told⟩ := by rw [appS, if_pos h4]
  refine fi H151 fun E hE hH => ?_; simp only [go_sem] at hE hH; simp only [go_sem, hE, hH, C151]
  try simp (disch := omega) only [go_sem, hE, hH, z1]
  repeat' (first | ((with_reducible first | refine gd_t ?_ ?_ | refine gd_f ?_ ?_) <;> (intro h; have hb := h; (try simp only [nf] at h); simp (disch := omega) only [go_sem, hE, hH, z1, hb]; (try clear hb))) | ((with_reducible refine And.intro ?_ ?_); · omega) | ((first | refine ok_view ?_ | refine cvA (cO) ?_ | refine cvA (cFH) ?_ | refine cvA (cFT) ?_); simp (disch := omega) only [go_sem, hE, hH, z1]) | (with_reducible apply jn) | (with_reducible apply both) | (with_reducible refine And.intro ?_ ?_) | ((with_reducible apply fin_eq); (try (simp (disch := omega) only [go_sem, hE, hH, z1])); first | done | rfl) | (simp (disch := omega) only [go_sem, hE, hH, z1]) | ((first | apply noMLL_sE | apply pk_sE) <;> (simp only [go_sem, hE, hH, z1]; done)) | (simp only [go_sem, hE, hH, z1]) | fail)
  by_cases hT : r.Time ≤ s.Floor
  ·rw [if_pos hT] at hD
   refine nilR_sApp ⟨r.Time, s.Cells, s.Held, s.Told⟩ ?_ (fun s' e => by rw [hD] at e; cases e)
   rw [hD, sAppR, decide_eq_false (by omega)]
   simp only [go_sem]
   (repeat' apply And.intro) <;> rfl
  ·rw [if_neg hT] at hD
   refine nilR_sApp ⟨r.Time, s.Cells, s.Held, s.Told⟩ ?_ (fun s' e => by rw [hD] at e; injection e)
   rw [hD, sAppR, decide_eq_true (by omega)]
   simp only [go_sem]
   (repeat' apply And.intro) <;> rfl
 have z1 : decide (r.Kind = 4) = false := decide_eq_false h4
 cases hTF : tF s.Told r.Txn with
 | true =>
  rw [hTF] at cFT
  have hD : appS s r = none := by rw [appS, if_neg h4, hTF]; rfl
  refine fi H151 fun E hE hH => ?_; simp only [go_sem] at hE hH; simp only [go_sem, hE, hH, C151]
  try simp (disch := omega) only [go_sem, hE, hH, z1]
  repeat' (first | ((with_reducible first | refine gd_t ?_ ?_ | refine gd_f ?_ ?_) <;> (intro h; have hb := h; (try simp only [nf] at h); simp (disch := omega) only [go_sem, hE, hH, z1, hb]; (try clear hb))) | ((with_reducible refine And.intro ?_ ?_); · omega) | ((first | refine ok_view ?_ | refine cvA (cO) ?_ | refine cvA (cFH) ?_ | refine cvA (cFT) ?_); simp (disch := omega) only [go_sem, hE, hH, z1]) | (with_reducible apply jn) | (with_reducible apply both) | (with_reducible refine And.intro ?_ ?_) | ((with_reducible apply fin_eq); (try (simp (disch := omega) only [go_sem, hE, hH, z1])); first | done | rfl) | (simp (disch := omega) only [go_sem, hE, hH, z1]) | ((first | apply noMLL_sE | apply pk_sE) <;> (simp only [go_sem, hE, hH, z1]; done)) | (simp only [go_sem, hE, hH, z1]) | fail)
  refine nilR_sApp s ?_ (fun s' e => by rw [hD] at e; cases e)
  rw [hD, sAppR]
  simp only [go_sem]
  (repeat' apply And.intro) <;> rfl
 | false =>
  rw [hTF] at cFT
  by_cases h1 : r.Kind = 1
  ·have z2 : decide (r.Kind = 1) = true := decide_eq_true h1
   have hld := hldOk_lists (recOk_kind hr h1)
   have hld1 : r.Reads.length ≤ 8 := hld.1
   have hld2 : r.Writes.length ≤ 8 := hld.2.1
   have cF := l13Fits_ok s r.Reads r.Writes hi (by omega) (by omega)
   have hA : appS s r = if (hF s.Held r.Txn || decide (r.Time ≤ s.Floor) || !fitsS s r.Reads r.Writes) = true then none else some ⟨r.Time, s.Cells, putAt s.Held (hI s.Held r.Txn) (hOf r), s.Told⟩ := by rw [appS, if_neg h4, hTF, if_neg (by simp), if_neg (by simp [h1])]
   have hQ : ∀ s', appS s r = some s' → (⟨r.Time, s.Cells, putAt s.Held (hPl s.Held r.Txn) (hOf r), s.Told⟩ : State) = s' := by
    intro s' e
    rw [hA] at e
    split at e
    ·cases e
    ·rename_i hcond
     injection e with e
     have hh : hF s.Held r.Txn = false := by
      cases q : hF s.Held r.Txn with
      | false => rfl
      | true => rw [q] at hcond; simp at hcond
     rw [← e, show hPl s.Held r.Txn = hI s.Held r.Txn from hPl_eq (x := hOf r) hi.hsrt hh]
   have cPH : ACall Tryz.prog 176 [.sl true 5 (s.Held.map (Held.row true)), .agg (Held.row true (hOf r))] (fun x l => x = .sl true 5 ((putAt s.Held (hPl s.Held r.Txn) (hOf r)).map (Held.row false)) ∧ l = [.any, .any]) := frz_eq (l13PutHeld_ok s.Held (hOf r) (by omega)) (by simp only [go_sem]; rfl) rfl
   refine fi H151 fun E hE hH => ?_; simp only [go_sem] at hE hH; simp only [go_sem, hE, hH, C151]
   try simp (disch := omega) only [go_sem, hE, hH, z1, z2]
   repeat' (first | ((with_reducible first | refine gd_t ?_ ?_ | refine gd_f ?_ ?_) <;> (intro h; have hb := h; (try simp only [nf] at h); simp (disch := omega) only [go_sem, hE, hH, z1, z2, hb]; (try clear hb))) | ((with_reducible refine And.intro ?_ ?_); · omega) | (refine ok_lend [true, true] ?_; simp (disch := omega) only [go_sem, hE, hH, z1, z2]; refine cmA (cPH) ?_; simp (disch := omega) only [go_sem, hE, hH, z1, z2]) | ((first | refine ok_view ?_ | refine cvA (cO) ?_ | refine cvA (cFH) ?_ | refine cvA (cFT) ?_ | refine cvA (l1OwnS_ok _ (by omega)) ?_ | refine cvA (cF) ?_); simp (disch := omega) only [go_sem, hE, hH, z1, z2]) | (with_reducible apply jn) | (with_reducible apply both) | (with_reducible refine And.intro ?_ ?_) | ((with_reducible apply fin_eq); (try (simp (disch := omega) only [go_sem, hE, hH, z1, z2])); first | done | rfl) | (simp (disch := omega) only [go_sem, hE, hH, z1, z2]) | ((first | apply noMLL_sE | apply pk_sE) <;> (simp only [go_sem, hE, hH, z1, z2]; done)) | (simp only [go_sem, hE, hH, z1, z2]) | fail)
   ·refine nilR_sApp2 ⟨r.Time, s.Cells, putAt s.Held (hPl s.Held r.Txn) (hOf r), s.Told⟩ (fitsS s r.Reads r.Writes) ?_ ?_ hQ
    ·(rw [sAppR]; simp only [go_sem]; (repeat' apply And.intro) <;> rfl)
    ·rw [hA]
     cases hq : fitsS s r.Reads r.Writes <;> (split <;> simp_all <;> omega)
   all_goals (
    refine nilR_sApp2 ⟨r.Time, s.Cells, putAt s.Held (hPl s.Held r.Txn) (hOf r), s.Told⟩ false ?_ ?_ hQ
    ·(rw [sAppR]; simp only [go_sem]; (repeat' apply And.intro) <;> rfl)
    ·rw [hA]
     split <;> simp_all <;> omega)
  ·have z2 : decide (r.Kind = 1) = false := decide_eq_false h1
   have hD : appS s r = decS s r := by rw [appS, if_neg h4, hTF, if_neg (by simp), if_pos h1]
   have hpt : tPl s.Told r.Txn = tI s.Told r.Txn := tPl_eq (x := (⟨r.Txn, r.Yes, r.Time⟩ : Told)) hi.tsrt hTF
   have cPT := l13PutTold_ok s.Told ⟨r.Txn, r.Yes, r.Time⟩ (by omega)
   rw [show (⟨r.Txn, r.Yes, r.Time⟩ : Told).Txn = r.Txn from rfl, hpt, show putAt s.Told (tI s.Told r.Txn) (⟨r.Txn, r.Yes, r.Time⟩ : Told) = toldAdd s r from rfl] at cPT
   have cLs : ACall Tryz.prog 181 [.sl true 5 (s.Held.map (Held.row true)), i64 r.Txn] (fun x l => x = .sl true 5 ((heldCut s r).map (Held.row false)) ∧ l = [.any, .any]) := by
    rw [heldCut_filter hi]
    exact frz_eq (l13Less_ok s.Held r.Txn (by omega)) (by simp only [go_sem]; rfl) rfl
   have hcl : (heldCut s r).length ≤ 12 := (heldCut_I hi r).1
   cases hY : r.Yes with
   | false =>
    rw [hY] at cPT
    have hE2 : decS s r = some ⟨s.Floor, s.Cells, heldCut s r, toldAdd s r⟩ := by rw [decS, hY]; rfl
    rw [hE2] at hD
    refine fi H151 fun E hE hH => ?_; simp only [go_sem] at hE hH; simp only [go_sem, hE, hH, C151]
    try simp (disch := omega) only [go_sem, hE, hH, z1, z2, hY]
    repeat' (first | ((with_reducible first | refine gd_t ?_ ?_ | refine gd_f ?_ ?_) <;> (intro h; have hb := h; (try simp only [nf] at h); simp (disch := omega) only [go_sem, hE, hH, z1, z2, hY, hb]; (try clear hb))) | ((with_reducible refine And.intro ?_ ?_); · omega) | (refine ok_lend [true, false] ?_; simp (disch := omega) only [go_sem, hE, hH, z1, z2, hY]; refine cmA (cLs) ?_; simp (disch := omega) only [go_sem, hE, hH, z1, z2, hY]) | ((first | refine ok_view ?_ | refine cvA (cO) ?_ | refine cvA (cFH) ?_ | refine cvA (cFT) ?_ | refine cvA (cPT) ?_); simp (disch := omega) only [go_sem, hE, hH, z1, z2, hY]) | (with_reducible apply jn) | (with_reducible apply both) | (with_reducible refine And.intro ?_ ?_) | ((with_reducible apply fin_eq); (try (simp (disch := omega) only [go_sem, hE, hH, z1, z2, hY])); first | done | rfl) | (simp (disch := omega) only [go_sem, hE, hH, z1, z2, hY]) | ((first | apply noMLL_sE | apply pk_sE) <;> (simp only [go_sem, hE, hH, z1, z2, hY]; done)) | (simp only [go_sem, hE, hH, z1, z2, hY]) | fail)
    refine nilR_sApp2 ⟨s.Floor, s.Cells, heldCut s r, toldAdd s r⟩ true ?_ (by rw [hD]; rfl) (fun s' e => by rw [hD] at e; injection e)
    (rw [sAppR]; simp only [go_sem]; (repeat' apply And.intro) <;> rfl)
   | true =>
    rw [hY] at cPT
    have hTm : 1 ≤ r.Time := by
     simp only [recOk, h1, h4, if_false, hY] at hr
     split at hr
     ·simp only [Bool.and_eq_true, Bool.or_eq_true, rng_iff, Bool.not_true, Bool.false_and, Bool.true_and, Bool.false_eq_true, or_false] at hr
      omega
     ·cases hr
    cases hH : hF s.Held r.Txn with
    | false =>
     rw [hH] at cFH
     have hE2 : decS s r = none := by rw [decS, hY, hH]; rfl
     rw [hE2] at hD
     refine fi H151 fun E hE hH => ?_; simp only [go_sem] at hE hH; simp only [go_sem, hE, hH, C151]
     try simp (disch := omega) only [go_sem, hE, hH, z1, z2, hY]
     repeat' (first | ((with_reducible first | refine gd_t ?_ ?_ | refine gd_f ?_ ?_) <;> (intro h; have hb := h; (try simp only [nf] at h); simp (disch := omega) only [go_sem, hE, hH, z1, z2, hY, hb]; (try clear hb))) | ((with_reducible refine And.intro ?_ ?_); · omega) | ((first | refine ok_view ?_ | refine cvA (cO) ?_ | refine cvA (cFH) ?_ | refine cvA (cFT) ?_); simp (disch := omega) only [go_sem, hE, hH, z1, z2, hY]) | (with_reducible apply jn) | (with_reducible apply both) | (with_reducible refine And.intro ?_ ?_) | ((with_reducible apply fin_eq); (try (simp (disch := omega) only [go_sem, hE, hH, z1, z2, hY])); first | done | rfl) | (simp (disch := omega) only [go_sem, hE, hH, z1, z2, hY]) | ((first | apply noMLL_sE | apply pk_sE) <;> (simp only [go_sem, hE, hH, z1, z2, hY]; done)) | (simp only [go_sem, hE, hH, z1, z2, hY]) | fail)
     refine nilR_sApp2 s false ?_ (by rw [hD]; rfl) (fun s' e => by rw [hD] at e; cases e)
     (rw [sAppR]; simp only [go_sem]; (repeat' apply And.intro) <;> rfl)
    | true =>
     rw [hH] at cFH
     obtain ⟨k1, k2⟩ := hF_at hi.hsrt hH
     have hld := hldOk_lists (hi.hok _ (nth_mem k1))
     have hI0 := goodCells_I hi.cells
     have hN : hNth s.Held r.Txn = nth s.Held (hI s.Held r.Txn) := by rw [hNth, hH, if_pos rfl]
     rw [hN] at cFH
     by_cases hT : r.Time < (nth s.Held (hI s.Held r.Txn)).Time
     ·have hE2 : decS s r = none := by rw [decS, hY, hH, decide_eq_true hT]; rfl
      rw [hE2] at hD
      have hT2 := decide_eq_true hT
      refine fi H151 fun E hE hH => ?_; simp only [go_sem] at hE hH; simp only [go_sem, hE, hH, C151]
      try simp (disch := omega) only [go_sem, hE, hH, z1, z2, hY, hT2]
      repeat' (first | ((with_reducible first | refine gd_t ?_ ?_ | refine gd_f ?_ ?_) <;> (intro h; have hb := h; (try simp only [nf] at h); simp (disch := omega) only [go_sem, hE, hH, z1, z2, hY, hT2, hb]; (try clear hb))) | ((with_reducible refine And.intro ?_ ?_); · omega) | ((first | refine ok_view ?_ | refine cvA (cO) ?_ | refine cvA (cFH) ?_ | refine cvA (cFT) ?_); simp (disch := omega) only [go_sem, hE, hH, z1, z2, hY, hT2]) | (with_reducible apply jn) | (with_reducible apply both) | (with_reducible refine And.intro ?_ ?_) | ((with_reducible apply fin_eq); (try (simp (disch := omega) only [go_sem, hE, hH, z1, z2, hY, hT2])); first | done | rfl) | (simp (disch := omega) only [go_sem, hE, hH, z1, z2, hY, hT2]) | ((first | apply noMLL_sE | apply pk_sE) <;> (simp only [go_sem, hE, hH, z1, z2, hY, hT2]; done)) | (simp only [go_sem, hE, hH, z1, z2, hY, hT2]) | fail)
      refine nilR_sApp2 s false ?_ (by rw [hD]; rfl) (fun s' e => by rw [hD] at e; cases e)
      (rw [sAppR]; simp only [go_sem]; (repeat' apply And.intro) <;> rfl)
     have hT2 := decide_eq_false hT
     have cP := l3Put_ok s.Cells (nth s.Held (hI s.Held r.Txn)).Writes r.Time hI0 (fun x hx => goodWrites_sizes hld.2.2.1 hx) (by omega) hTm
     cases hP : putVs r.Time (nth s.Held (hI s.Held r.Txn)).Writes (some s.Cells) with
     | none =>
      rw [hP] at cP
      simp only [sPutR] at cP
      have hE2 : decS s r = none := by rw [decS, hY, hH, hT2, putC, hP]; rfl
      rw [hE2] at hD
      refine fi H151 fun E hE hH => ?_; simp only [go_sem] at hE hH; simp only [go_sem, hE, hH, C151]
      try simp (disch := omega) only [go_sem, hE, hH, z1, z2, hY, hT2]
      repeat' (first | ((with_reducible first | refine gd_t ?_ ?_ | refine gd_f ?_ ?_) <;> (intro h; have hb := h; (try simp only [nf] at h); simp (disch := omega) only [go_sem, hE, hH, z1, z2, hY, hT2, hb]; (try clear hb))) | ((with_reducible refine And.intro ?_ ?_); · omega) | ((first | refine ok_view ?_ | refine cvA (cO) ?_ | refine cvA (cFH) ?_ | refine cvA (cFT) ?_ | refine cvA (cP) ?_); simp (disch := omega) only [go_sem, hE, hH, z1, z2, hY, hT2]) | (with_reducible apply jn) | (with_reducible apply both) | (with_reducible refine And.intro ?_ ?_) | ((with_reducible apply fin_eq); (try (simp (disch := omega) only [go_sem, hE, hH, z1, z2, hY, hT2])); first | done | rfl) | (simp (disch := omega) only [go_sem, hE, hH, z1, z2, hY, hT2]) | ((first | apply noMLL_sE | apply pk_sE) <;> (simp only [go_sem, hE, hH, z1, z2, hY, hT2]; done)) | (simp only [go_sem, hE, hH, z1, z2, hY, hT2]) | fail)
      refine nilR_sApp2 s false ?_ (by rw [hD]; rfl) (fun s' e => by rw [hD] at e; cases e)
      (rw [sAppR]; simp only [go_sem]; (repeat' apply And.intro) <;> rfl)
     | some c =>
      rw [hP] at cP
      simp only [sPutR] at cP
      cases hG : goodCells c with
      | false =>
       rw [hG] at cP
       have hE2 : decS s r = none := by rw [decS, hY, hH, hT2, putC, hP]; simp [hG]
       rw [hE2] at hD
       refine fi H151 fun E hE hH => ?_; simp only [go_sem] at hE hH; simp only [go_sem, hE, hH, C151]
       try simp (disch := omega) only [go_sem, hE, hH, z1, z2, hY, hT2]
       repeat' (first | ((with_reducible first | refine gd_t ?_ ?_ | refine gd_f ?_ ?_) <;> (intro h; have hb := h; (try simp only [nf] at h); simp (disch := omega) only [go_sem, hE, hH, z1, z2, hY, hT2, hb]; (try clear hb))) | ((with_reducible refine And.intro ?_ ?_); · omega) | ((first | refine ok_view ?_ | refine cvA (cO) ?_ | refine cvA (cFH) ?_ | refine cvA (cFT) ?_ | refine cvA (cP) ?_); simp (disch := omega) only [go_sem, hE, hH, z1, z2, hY, hT2]) | (with_reducible apply jn) | (with_reducible apply both) | (with_reducible refine And.intro ?_ ?_) | ((with_reducible apply fin_eq); (try (simp (disch := omega) only [go_sem, hE, hH, z1, z2, hY, hT2])); first | done | rfl) | (simp (disch := omega) only [go_sem, hE, hH, z1, z2, hY, hT2]) | ((first | apply noMLL_sE | apply pk_sE) <;> (simp only [go_sem, hE, hH, z1, z2, hY, hT2]; done)) | (simp only [go_sem, hE, hH, z1, z2, hY, hT2]) | fail)
       refine nilR_sApp2 s false ?_ (by rw [hD]; rfl) (fun s' e => by rw [hD] at e; cases e)
       (rw [sAppR]; simp only [go_sem]; (repeat' apply And.intro) <;> rfl)
      | true =>
       rw [hG] at cP
       have hE2 : decS s r = some ⟨max s.Floor r.Time, c, heldCut s r, toldAdd s r⟩ := by rw [decS, hY, hH, hT2, putC, hP]; simp [hG]
       rw [hE2] at hD
       have hmx2 : mostI s.Floor r.Time = max s.Floor r.Time := by
        rw [mostI, Int.max_def]; split <;> split <;> omega
       refine fi H151 fun E hE hH => ?_; simp only [go_sem] at hE hH; simp only [go_sem, hE, hH, C151]
       try simp (disch := omega) only [go_sem, hE, hH, z1, z2, hY, hT2, hmx2]
       repeat' (first | ((with_reducible first | refine gd_t ?_ ?_ | refine gd_f ?_ ?_) <;> (intro h; have hb := h; (try simp only [nf] at h); simp (disch := omega) only [go_sem, hE, hH, z1, z2, hY, hT2, hmx2, hb]; (try clear hb))) | ((with_reducible refine And.intro ?_ ?_); · omega) | (refine ok_lend [true, false] ?_; simp (disch := omega) only [go_sem, hE, hH, z1, z2, hY, hT2, hmx2]; refine cmA (cLs) ?_; simp (disch := omega) only [go_sem, hE, hH, z1, z2, hY, hT2, hmx2]) | ((first | refine ok_view ?_ | refine cvA (cO) ?_ | refine cvA (cFH) ?_ | refine cvA (cFT) ?_ | refine cvA (cP) ?_ | refine cvA (l1Most_ok _ _) ?_ | refine cvA (cPT) ?_); simp (disch := omega) only [go_sem, hE, hH, z1, z2, hY, hT2, hmx2]) | (with_reducible apply jn) | (with_reducible apply both) | (with_reducible refine And.intro ?_ ?_) | ((with_reducible apply fin_eq); (try (simp (disch := omega) only [go_sem, hE, hH, z1, z2, hY, hT2, hmx2])); first | done | rfl) | (simp (disch := omega) only [go_sem, hE, hH, z1, z2, hY, hT2, hmx2]) | ((first | apply noMLL_sE | apply pk_sE) <;> (simp only [go_sem, hE, hH, z1, z2, hY, hT2, hmx2]; done)) | (simp only [go_sem, hE, hH, z1, z2, hY, hT2, hmx2]) | fail)
       refine nilR_sApp2 ⟨max s.Floor r.Time, c, heldCut s r, toldAdd s r⟩ true ?_ (by rw [hD]; rfl) (fun s' e => by rw [hD] at e; injection e)
       (rw [sAppR]; simp only [go_sem]; (repeat' apply And.intro) <;> rfl)
end Go.Proofs.Wb

import Derived.Test.YthaildflhjfikaaGreatDoorFnExactSnapSumL2
import Derived.Laws.Externs
set_option linter.all false
set_option maxHeartbeats 4000000
namespace Go.Proofs.Wb
open Tryz renaming prog → p_
open Go Go.Am
theorem zU5 (s : State) (hs : stB s) : ACall p_ 209 [.agg (State.row false s)] (fun x _ => x = .agg (State.row true s)) := by
 have hmx := zAf
 obtain ⟨h1, h2, h3, h4, h5⟩ := hs
 refine fg H209 fun E hE hH => ?_; simp only [go_sem, hE, hH, zZP]
 repeat' (first | ((with_reducible apply ga) <;> refine gs fun h => ?_) | ((with_reducible apply an); · omega) | ((first | refine zAa ?_ | refine cvA (zP0 _ h1 h2) ?_); refine st ?_) | (with_reducible first | apply jn | apply both | apply an | exact ti) | exact fj | refine st ?_ | exact fm | refine s1 ?_)
 all_goals try omega
 refine zA0 s.Held.length (fun j (_ : Unit) => cpS 17 s j) (fun _ _ => True) () rfl trivial ?_
 intro j _ hj _
 cases j with
 | zero =>
  try simp only [go_sem, hE, hH, zMK, cpS]
  first | refine zAg (fun h => ?_) (fun h => ?_) | refine zAh (fun h => ?_) (fun h => ?_)
  ·have hb := h
   simp only [nf] at h
   have hlt : 0 < s.Held.length := by omega
   obtain ⟨q1, q2⟩ := h4 _ (zAc hlt)
   have ht : s.Held.take 1 = [nth s.Held 0] := by rw [zAD hlt]; rfl
   try refine sb ?_; try exact ⟨⟩
   repeat' (first | ((with_reducible apply ga) <;> refine gs fun h => ?_) | ((with_reducible apply an); · omega) | ((first | refine zAa ?_ | refine cvA (zIy _ q1 q2) ?_); refine st ?_) | refine jn _ ?_ ?_ | (with_reducible first | apply both | apply an | exact ti) | exact fe | refine st ?_ | exact fm | refine s1 ?_)
   repeat' (first | (refine both ?_ ?_) | omega | ((first | apply zAN | apply zBs) <;> (simp only [go_sem, hE, hH]; done)) | fail)
   refine ⟨(), ?_⟩
   rw [ht]
   rfl
  ·try simp (disch := omega) only [go_sem, hE, hH, h]
   simp only [nf] at h
   have e : s.Held = [] := List.length_eq_zero_iff.1 (by omega)
   rw [e]; rfl
 | succ j =>
  try simp only [go_sem, hE, hH, zMK, cpS]
  first | refine zAg (fun h => ?_) (fun h => ?_) | refine zAh (fun h => ?_) (fun h => ?_)
  ·have hb := h
   simp only [nf] at h
   have hlt : j + 1 < s.Held.length := by omega
   obtain ⟨q1, q2⟩ := h4 _ (zAc hlt)
   have hn : (s.Held.take (j + 1)).length = j + 1 := by simp; omega
   have ht : (s.Held.take (j + 1)).take (j + 1) = s.Held.take (j + 1) := by rw [List.take_take, Nat.min_self]
   try simp (disch := omega) only [go_sem, hE, hH, hn, hb]
   all_goals (have y1_ := hn; repeat' (first | ((with_reducible apply ga) <;> refine zCO fun h => ?_) | ((with_reducible apply an); · omega) | ((first | refine zAa ?_ | refine cvA (zIy _ q1 q2) ?_); refine zAR ?_) | refine jn _ ?_ ?_ | (with_reducible first | apply both | apply an | exact ti) | exact zJE | refine zAR ?_ | exact zCH | refine zCG ?_))
   repeat' (first | (refine both ?_ ?_) | omega | ((first | apply zAN | apply zBs) <;> (simp only [go_sem, hE, hH, hn]; done)) | fail)
   all_goals try simp only [ht, hn]
   all_goals try first | omega | exact Nat.le_trans (Nat.mul_le_mul_right _ (show j + 1 + 1 ≤ 2 ^ 20 + 1 by omega)) (by decide)
   all_goals (
    refine ⟨(), ?_⟩
    rw [zAD hlt, List.map_append]
    rfl)
  ·try simp (disch := omega) only [go_sem, hE, hH, h]
   simp only [nf] at h
   rw [show j + 1 = s.Held.length by omega, List.take_length]
   exact ⟨rfl, rfl⟩
open Go.Proofs.Wb renaming H260 → z0_, zGE → z1_, zHE → z2_ in
theorem zOl (h : Held) (t : Int) : ACall p_ 260 ([.agg (Held.row false h), i64 t] ++ []) (fun r _ => r = i64 (zIc h.Txn t)) := zP9
open Go.Proofs.Wb renaming H254 → z0_, zGE → z1_, zHE → z2_ in
theorem zOm (h : Told) (t : Int) : ACall p_ 254 ([.agg (Told.row false h), i64 t] ++ []) (fun r _ => r = i64 (zIc h.Txn t)) := zP9
theorem zKr (s : State) (t : Int) (hl : s.Held.length ≤ 2 ^ 60) (hs : zA7 ltI Held.Txn s.Held) : ACall p_ 229 [.agg (State.row false s), i64 t] (fun r _ => r = .tup [i64 (hI s.Held t), bl (hF s.Held t)]) := by
 obtain ⟨e1, e2⟩ := zSU zBO hs t
 refine fg H229 fun E hE hH => ?_; simp only [go_sem, hE, hH, zZ6]
 repeat' (first | ((with_reducible apply ga) <;> refine gs fun h => ?_) | ((with_reducible apply an); · omega) | ((first | refine zAa ?_ | refine cvA (zGa s.Held t _ [] (fun c => zIc c.Txn t) (by kernel_rfl) rfl hl (zMT zBO hs) (fun c _ => zOl c t)) ?_); refine st ?_) | refine jn _ ?_ ?_ | (with_reducible first | apply both | apply an | exact ti) | exact fe | refine st ?_ | exact fm | refine s1 ?_)
 all_goals simp only [e1, e2]
 all_goals rfl
theorem zHg (s : State) (t : Int) (hl : s.Told.length ≤ 2 ^ 60) (hs : zA7 ltI Told.Txn s.Told) : ACall p_ 227 [.agg (State.row false s), i64 t] (fun r _ => r = .tup [i64 (tI s.Told t), bl (tF s.Told t)]) := by
 obtain ⟨e1, e2⟩ := zSU zBO hs t
 refine fg H227 fun E hE hH => ?_; simp only [go_sem, hE, hH, zZ5]
 repeat' (first | ((with_reducible apply ga) <;> refine gs fun h => ?_) | ((with_reducible apply an); · omega) | ((first | refine zAa ?_ | refine cvA (zGb s.Told t _ [] (fun c => zIc c.Txn t) (by kernel_rfl) rfl hl (zMT zBO hs) (fun c _ => zOm c t)) ?_); refine st ?_) | refine jn _ ?_ ?_ | (with_reducible first | apply both | apply an | exact ti) | exact fe | refine st ?_ | exact fm | refine s1 ?_)
 all_goals simp only [e1, e2]
 all_goals rfl
def zM7 (l : List Held) (t : Int) : Held := if hF l t then nth l (hI l t) else ⟨0, 0, 0, [], []⟩
theorem zP1 (s : State) (t : Int) (hl : s.Held.length ≤ maxLen) (hs : zA7 ltI Held.Txn s.Held) : ACall p_ 210 [.agg (State.row false s), i64 t] (fun r _ => r = .tup [.agg (Held.row false (zM7 s.Held t)), bl (hF s.Held t)]) := by
 have hmx := zAf
 refine fg H210 fun E hE hH => ?_; simp only [go_sem, hE, hH, zZQ]
 refine zAs s.Held.length (fun j (_ : Unit) => ⟨[(1, i64 t), (4, .ptr 5000000 0 0), (9, .sl false 5 (s.Held.map (Held.row false))), (10, i64 s.Held.length), (11, i64 j)], [(5000000, ⟨5, [[i64 0, i64 0, i64 0, zAI, zAI]]⟩)]⟩) (fun j _ => zAq (fun i => !decide ((nth s.Held i).Txn = t)) j = true) () rfl ?_
 intro j _ hj hIn
 try simp only [go_sem, hE, hH, zRp]
 first | refine zAg (fun h => ?_) (fun h => ?_) | refine zAh (fun h => ?_) (fun h => ?_)
 ·have hb := h
  simp only [nf] at h
  have hlt := h; clear h
  try refine sb ?_; try exact ⟨⟩
  repeat' (first | ((with_reducible apply ga) <;> refine gs fun h => ?_) | ((with_reducible apply an); · omega) | refine jn _ ?_ ?_ | (with_reducible first | apply both | apply an | exact ti) | exact fe | refine st ?_ | exact fm | refine s1 ?_)
  all_goals try (exact ⟨(), rfl, zAd hIn (by simp [h])⟩)
  all_goals (
   have e : hF s.Held t = true := zC7.2 ⟨j, hlt, h⟩
   have e2 : zM7 s.Held t = nth s.Held j := by rw [zM7, e, if_pos rfl, show hI s.Held t = j from zLO zBO hs hlt h]
   first | rfl | (rw [e2]; done) | (rw [e2]; rfl) | (rw [e]; done))
 ·try simp (disch := omega) only [go_sem, hE, hH, h]
  simp only [nf] at h
  rw [show j = s.Held.length by omega, zAQ (p := fun c : Held => !decide (c.Txn = t))] at hIn
  have e : hF s.Held t = false := by
   rw [hF, fxF, List.any_eq_false]; intro x hx; simpa using List.all_eq_true.1 hIn x hx
  simp [zM7, e, strs]
def zTe (l : List Told) (t : Int) : Told := if tF l t then nth l (tI l t) else ⟨0, false, 0⟩
theorem zP2 (s : State) (t : Int) (hl : s.Told.length ≤ maxLen) (hs : zA7 ltI Told.Txn s.Told) : ACall p_ 211 [.agg (State.row false s), i64 t] (fun r _ => r = .tup [.agg (Told.row false (zTe s.Told t)), bl (tF s.Told t)]) := by
 have hmx := zAf
 refine fg H211 fun E hE hH => ?_; simp only [go_sem, hE, hH, zZR]
 refine zAs s.Told.length (fun j (_ : Unit) => ⟨[(1, i64 t), (4, .ptr 5000000 0 0), (9, .sl false 3 (s.Told.map (Told.row false))), (10, i64 s.Told.length), (11, i64 j)], [(5000000, ⟨3, [[i64 0, bl false, i64 0]]⟩)]⟩) (fun j _ => zAq (fun i => !decide ((nth s.Told i).Txn = t)) j = true) () rfl ?_
 intro j _ hj hIn
 try simp only [go_sem, hE, hH, zRq]
 first | refine zAg (fun h => ?_) (fun h => ?_) | refine zAh (fun h => ?_) (fun h => ?_)
 ·have hb := h
  simp only [nf] at h
  have hlt := h; clear h
  try refine sb ?_; try exact ⟨⟩
  repeat' (first | ((with_reducible apply ga) <;> refine gs fun h => ?_) | ((with_reducible apply an); · omega) | refine jn _ ?_ ?_ | (with_reducible first | apply both | apply an | exact ti) | exact fe | refine st ?_ | exact fm | refine s1 ?_)
  all_goals try (exact ⟨(), rfl, zAd hIn (by simp [h])⟩)
  all_goals (
   have e : tF s.Told t = true := zC7.2 ⟨j, hlt, h⟩
   have e2 : zTe s.Told t = nth s.Told j := by rw [zTe, e, if_pos rfl, show tI s.Told t = j from zLO zBO hs hlt h]
   first | rfl | (rw [e2]; done) | (rw [e2]; rfl) | (rw [e]; done))
 ·try simp (disch := omega) only [go_sem, hE, hH, h]
  simp only [nf] at h
  rw [show j = s.Told.length by omega, zAQ (p := fun c : Told => !decide (c.Txn = t))] at hIn
  have e : tF s.Told t = false := by
   rw [tF, fxF, List.any_eq_false]; intro x hx; simpa using List.all_eq_true.1 hIn x hx
  simp [zTe, e]
theorem zWB (a b : Held) (h1 : a.Writes.length ≤ 2 ^ 20) (h2 : b.Writes.length ≤ 2 ^ 20) (h3 : a.Reads.length ≤ 2 ^ 20) (h4 : b.Reads.length ≤ 2 ^ 20) (s1 : zB6 a.Writes) (s2 : zB6 b.Writes) : ACall p_ 263 [.agg (Held.row false a), .agg (Held.row false b)] (fun r _ => r = bl (zFn a b)) := by
 have hmx := zAf
 refine fg H263 fun E hE hH => ?_; simp only [go_sem, hE, hH, C263]
 repeat' (first | ((with_reducible apply ga) <;> refine gs fun h => ?_) | ((with_reducible apply an); · omega) | ((first | refine zAa ?_ | refine cvA (zLZ a.Writes b.Reads b.Writes (by omega) (by omega) (by omega) s2) ?_ | refine cvA (zLZ b.Writes a.Reads a.Writes (by omega) (by omega) (by omega) s1) ?_); refine st ?_) | (with_reducible first | apply jn | apply both | apply an | exact ti) | exact fj | refine st ?_ | exact fm | refine s1 ?_)
 all_goals simp_all [zFn]
theorem zU6 (l : List ByteArray) (k : ByteArray) (hl : l.length ≤ maxLen) : ACall p_ 275 [.sl false 1 (strs l), str k] (fun r _ => r = bl (l.any fun x => decide (k = x))) := by
 have hmx := zAf
 refine fg H275 fun E hE hH => ?_; simp only [go_sem, hE, hH, C275]
 refine zAs l.length (fun j (_ : Unit) => ⟨[(1, str k), (7, .sl false 1 (strs l)), (8, i64 l.length), (9, i64 j)], []⟩) (fun j _ => zAq (fun i => !decide (k = nth l i)) j = true) () rfl ?_
 intro j _ hj hI
 try simp only [go_sem, hE, hH, zRH]
 first | refine zAg (fun h => ?_) (fun h => ?_) | refine zAh (fun h => ?_) (fun h => ?_)
 ·have hb := h
  simp only [nf] at h
  have hlt := h; clear h
  try refine sb ?_; try exact ⟨⟩
  repeat' (first | ((with_reducible apply ga) <;> refine gs fun h => ?_) | ((with_reducible apply an); · omega) | refine jn _ ?_ ?_ | (with_reducible first | apply both | apply an | exact ti) | exact fe | refine st ?_ | exact fm | refine s1 ?_)
  ·rw [List.any_eq_true.2 ⟨_, zAc hlt, by simp [h]⟩]
  ·exact ⟨(), rfl, zAd hI (by simp [Ne.symm h])⟩
 ·try simp (disch := omega) only [go_sem, hE, hH, h]
  simp only [nf] at h
  rw [show j = l.length by omega, zAQ (p := fun x => !decide (k = x))] at hI
  rw [show (l.any fun x => decide (k = x)) = false by rw [List.any_eq_false]; intro x hx; simpa using List.all_eq_true.1 hI x hx]
theorem zNX {x : ByteArray} : ∀ {p : List ByteArray}, 0 < p.length → zBF (p ++ [x]) = if nth p (p.length - 1) = x then zBF p else zBF p ++ [x]
 | [], h => by simp at h
 | [y], _ => by
  simp only [List.cons_append, List.nil_append, zBF, List.length_cons, List.length_nil, Nat.zero_add, Nat.sub_self, nth, List.getD_cons_zero]
  split
  ·rename_i h; rw [h]
  ·rfl
 | y :: z :: t, _ => by
  have ih := zNX (x := x) (p := z :: t) (by simp)
  have e : nth (y :: z :: t) ((y :: z :: t).length - 1) = nth (z :: t) ((z :: t).length - 1) := by
   simp [nth, List.getD]
  rw [e, List.cons_append, List.cons_append, zBF, ← List.cons_append, ih]
  by_cases h1 : y = z
  ·rw [if_pos h1]
   by_cases h2 : nth (z :: t) ((z :: t).length - 1) = x
   ·rw [if_pos h2, if_pos h2, zBF, if_pos h1]
   ·rw [if_neg h2, if_neg h2, zBF, if_pos h1]
  ·rw [if_neg h1]
   by_cases h2 : nth (z :: t) ((z :: t).length - 1) = x
   ·rw [if_pos h2, if_pos h2, zBF, if_neg h1]
   ·rw [if_neg h2, if_neg h2, zBF, if_neg h1]; rfl
theorem zNY {l : List ByteArray} {m : Nat} (h0 : 0 < m) (hm : m < l.length) : zBF (l.take (m + 1)) = if nth l (m - 1) = nth l m then zBF (l.take m) else zBF (l.take m) ++ [nth l m] := by
 have e : (l.take m).length = m := by rw [List.length_take]; omega
 have e2 : nth (l.take m) (m - 1) = nth l (m - 1) := by simp [nth, List.getD, List.getElem?_take, show m - 1 < m by omega]
 rw [zAD hm, zNX (by omega), e, e2]
theorem zOn {α : Type} {R : List α} {k : Nat} {y : α} (h : k < R.length) : (R.set k y).take (k + 1) = R.take k ++ [y] := by
 rw [List.take_add_one, List.getElem?_set_self h, List.take_set_of_le (Nat.le_refl _)]; rfl
theorem zTf {α : Type} [Inhabited α] {R : List α} {k q : Nat} {y : α} (h : k ≠ q) : nth (R.set k y) q = nth R q := by
 simp [nth, List.getD, List.getElem?_set_ne h]
theorem zWC {l : List ByteArray} (h : 0 < l.length) : 0 < (zBF l).length := by
 cases l with
 | nil => simp at h
 | cons x t =>
  have : x ∈ zBF (x :: t) := zGh.2 List.mem_cons_self
  exact List.length_pos_of_mem this
set_option maxRecDepth 100000 in
theorem zTg : ACall p_ 236 [.v (.int .u64 0)] (fun r _ => r = i64 0) := by
 have z1 : decide ((4294967296 : Int) ≤ 0) = false := rfl
 have z2 : decide ((65536 : Int) ≤ 0) = false := rfl
 have z3 : decide ((256 : Int) ≤ 0) = false := rfl
 have z4 : IntKind.u8.wrap 0 = 0 := rfl
 refine fg H236 fun E hE hH => ?_; simp only [go_sem, hE, hH, C236]
 all_goals (have y1_ := z1; have y2_ := z2; have y3_ := z3; have y4_ := z4; repeat' (first | ((with_reducible apply ga) <;> refine zJF fun h => ?_) | ((with_reducible apply an); · omega) | (with_reducible first | apply jn | apply both | apply an | exact ti) | exact zJH | refine zFu ?_ | exact zJI | refine zJG ?_))
 all_goals first | rfl | decide | (exfalso; omega)
theorem zWD : ACall p_ 306 [.v (.int .u64 0)] (fun r _ => r = i64 0) := by
 refine fg H306 fun E hE hH => ?_; simp only [go_sem, hE, hH, C306]
 repeat' (first | ((with_reducible apply ga) <;> refine gs fun h => ?_) | ((with_reducible apply an); · omega) | ((first | refine zAa ?_ | refine cvA (zTg) ?_); refine st ?_) | (with_reducible first | apply jn | apply both | apply an | exact ti) | exact fj | refine st ?_ | exact fm | refine s1 ?_)
 all_goals first | rfl
theorem zQJ : ACall p_ 311 [.sl true 1 [], i64 0, i64 0] (fun r a => r = .tup [] ∧ a = [.sl true 1 [], i64 0, i64 0]) := by
 refine fg H311 fun E hE hH => ?_; simp only [go_sem, hE, hH, C311]
 try refine st ?_; try exact ⟨⟩
 refine zAs 0 (fun j (_ : Unit) => ⟨[(0, .ref 0 0 0), (1, i64 0), (2, i64 0), (6, i64 1)], [(0, ⟨1, []⟩)]⟩) (fun _ _ => True) () trivial ?_
 intro j _ hj _
 have z1 : decide ((1 : Int) < 0) = false := rfl
 try simp only [go_sem, hE, hH, z1, zRQ]
 all_goals (have y1_ := z1; repeat' (first | ((with_reducible apply ga) <;> refine zCO fun h => ?_) | ((with_reducible apply an); · omega) | (with_reducible first | apply jn | apply both | apply an | exact ti) | exact zES | refine zAR ?_ | exact zCH | refine zCG ?_))
 all_goals trace_state
theorem zXR : ACall p_ 305 [.sl true 1 [], i64 0, i64 0, i64 0] (fun r a => r = .tup [] ∧ a = [.sl true 1 [], i64 0, i64 0, i64 0]) := by
 refine fg H305 fun E hE hH => ?_; simp only [go_sem, hE, hH, C305]
 try refine st ?_; try exact ⟨⟩
 refine zAs 0 (fun j (_ : Unit) => ⟨[(0, .ref 0 0 0), (1, i64 0), (2, i64 0), (3, i64 0), (8, bl true), (9, bl true)], [(0, ⟨1, []⟩)]⟩) (fun _ _ => True) () trivial ?_
 intro j _ hj _
 have z1 : decide ((0 : Int) - 0 ≤ 12) = true := rfl
 have z2 : decide ((0 : Int) ≤ 12) = true := rfl
 have z3 : IntKind.i64.wrap 0 = 0 := rfl
 try simp only [go_sem, hE, hH, z1, z2, z3, Int.sub_self, zRO]
 repeat' (first | ((with_reducible first | refine zAg ?_ ?_ | refine zAh ?_ ?_) <;> (intro h; have hb := h; (try simp only [nf] at h); simp (disch := omega) only [go_sem, hE, hH, z1, z2, z3, Int.sub_self, hb]; (try clear hb))) | ((with_reducible refine And.intro ?_ ?_); · omega) | (refine zBj [true, false, false] ?_; simp (disch := omega) only [go_sem, hE, hH, z1, z2, z3, Int.sub_self]; refine cmA (zQJ) ?_; simp (disch := omega) only [go_sem, hE, hH, z1, z2, z3, Int.sub_self]) | (with_reducible first | apply jn | apply both | refine And.intro ?_ ?_) | ((with_reducible apply zA4); (try (simp (disch := omega) only [go_sem, hE, hH, z1, z2, z3, Int.sub_self])); first | done | rfl) | (simp (disch := omega) only [go_sem, hE, hH, z1, z2, z3, Int.sub_self]) | ((first | apply zAN | apply zBs) <;> (simp only [go_sem, hE, hH, z1, z2, z3, Int.sub_self]; done)) | (simp only [go_sem, hE, hH, z1, z2, z3, Int.sub_self]) | fail)
 all_goals first | (exfalso; omega) | (exfalso; simp_all; done)
theorem zWE : ACall p_ 293 [.sl true 1 []] (fun r a => r = .tup [] ∧ a = [.sl true 1 []]) := by
 refine fg H293 fun E hE hH => ?_; simp only [go_sem, hE, hH, C293]
 have z1 : IntKind.u64.wrap 0 = 0 := rfl
 all_goals (have y1_ := z1; repeat' (first | ((with_reducible apply ga) <;> refine zCO fun h => ?_) | ((with_reducible apply an); · omega) | (refine zBj [true, false, false, false] ?_; refine zAR ?_; refine cmA (zXR) ?_; refine zAR ?_) | ((first | refine zAa ?_ | refine cvA (zWD) ?_); refine zAR ?_) | (with_reducible first | apply jn | apply both | apply an | exact ti) | exact zES | refine zAR ?_ | exact zCH | refine zCG ?_))
 all_goals trace_state
def zC2 : Prop := ∀ l : List ByteArray, l ≠ [] → l.length ≤ 2 ^ 20 → ACall p_ 293 [.sl true 1 (strs l)] (fun r a => r = .tup [] ∧ a = [.sl true 1 (strs (zCx l))])
theorem zXS (hS : zC2) (l : List ByteArray) (hl : l.length ≤ 2 ^ 20) : ACall p_ 293 [.sl true 1 (strs l)] (fun r a => r = .tup [] ∧ a = [.sl true 1 (strs (zCx l))]) := by
 by_cases e : l = []
 ·subst e
  have : zCx [] = [] := List.length_eq_zero_iff.1 (by rw [zJw]; rfl)
  rw [this]
  exact zWE
 ·exact hS l e hl
theorem zJ7 (l : List ByteArray) (hl : l.length ≤ 2 ^ 20) : ACall p_ 294 [.sl true 1 (strs l)] (fun r a => r = .sl true 1 (strs (zBF l)) ∧ a = [.any]) := by
 have hmx := zAf
 refine zI9 [true] (hqA H294) (hqB H294) ⟨by simp only [go_sem], fun E hE hH => ?_⟩; simp only [go_sem] at hE hH; simp only [go_sem, hE, hH, C294]
 repeat' (first | ((with_reducible apply ga) <;> refine gs fun h => ?_) | ((with_reducible apply an); · omega) | (with_reducible first | apply jn | apply both | apply an | exact ti) | exact fj | refine st ?_ | exact fm | refine s1 ?_)
 ·have : zBF l = l := by
   rcases l with _ | ⟨a, _ | ⟨b, t⟩⟩
   ·rfl
   ·rfl
   ·exfalso; simp only [List.length_cons] at h; try omega
  rw [this]; try rfl
 have h2 : 2 ≤ l.length := by omega
 have t1 : zBF (l.take 1) = l.take 1 := by
  match l, h2 with
  | _ :: _ :: _, _ => rfl
 refine zA0 (l.length - 1) (fun j (_ : Unit) => ⟨[(0, .ref 0 0 l.length), (3, i64 (j + 1 : Nat))], [(0, ⟨1, strs l⟩)]⟩) (fun j _ => zBF (l.take (j + 1)) = l.take (j + 1)) () rfl t1 ?_
 intro j _ hj hI
 have e1 : (((j + 1 : Nat) : Int) - 1).toNat = j := by omega
 have e2 : ((j + 1 : Nat) : Int).toNat = j + 1 := by omega
 try simp only [go_sem, hE, hH, zRM]
 first | refine zAg (fun hh => ?_) (fun hh => ?_) | refine zAh (fun hh => ?_) (fun hh => ?_)
 ·have hb := hh
  simp only [nf] at hh
  have hlt : j + 1 < l.length := by omega
  have hct := zNY (l := l) (Nat.succ_pos j) hlt
  rw [show j.succ - 1 = j from rfl, show j.succ = j + 1 from rfl] at hct
  try simp (disch := omega) only [go_sem, hE, hH, e1, e2, hb]
  all_goals (have y1_ := e1; have y2_ := e2; repeat' (first | ((with_reducible apply ga) <;> refine zDR fun h => ?_) | ((with_reducible apply an); · omega) | (with_reducible first | apply jn | apply both | apply an | exact ti) | exact zDT | refine zBn ?_ | exact zDU | refine zDS ?_))
  all_goals try omega
  ·rw [if_pos (by first | exact h.symm | exact h), hI] at hct
   refine zA0 (l.length - (j + 1) - 1) (fun m (x : List ByteArray × Nat) => ⟨[(0, .ref 0 0 l.length), (3, i64 x.2), (4, .ref 0 (j + 1) (l.length - (j + 1))), (5, i64 (m + 1 : Nat))], [(0, ⟨1, strs x.1⟩)]⟩) (fun m x => x.1.length = l.length ∧ x.1.take x.2 = zBF (l.take (j + 1 + (m + 1))) ∧ x.2 = (zBF (l.take (j + 1 + (m + 1)))).length ∧ (∀ q, j + 1 + m ≤ q → q < l.length → nth x.1 q = nth l q) ∧ x.2 ≤ j + 1 + m) (l, j + 1) rfl ⟨rfl, hct.symm, by rw [hct, List.length_take]; omega, fun _ _ _ => rfl, Nat.le_refl _⟩ ?_
   rintro m ⟨R, k⟩ hm ⟨i1, i2, i3, i4, i5⟩
   simp only at i1 i2 i3 i4 i5
   have hkp : 0 < k := by rw [i3]; exact zWC (by rw [List.length_take]; omega)
   have f1 : (((m + 1 : Nat) : Int) - 1).toNat = m := by omega
   have f2 : ((m + 1 : Nat) : Int).toNat = m + 1 := by omega
   try simp only [go_sem, hE, hH, zRL]
   first | refine zAg (fun hq => ?_) (fun hq => ?_) | refine zAh (fun hq => ?_) (fun hq => ?_)
   ·have hbq := hq
    simp only [nf] at hq
    have hlt2 : j + 1 + (m + 1) < l.length := by omega
    have hct2 := zNY (l := l) (show 0 < j + 1 + (m + 1) by omega) hlt2
    have g1 := i4 (j + 1 + m) (by omega) (by omega)
    have g2 := i4 (j + 1 + (m + 1)) (by omega) (by omega)
    rw [show j + 1 + (m + 1) - 1 = j + 1 + m by omega] at hct2
    try simp (disch := omega) only [go_sem, hE, hH, f1, f2, i1, g1, g2, hbq]
    all_goals (have y1_ := f1; have y2_ := f2; have y3_ := i1; have y4_ := g1; have y5_ := g2; repeat' (first | ((with_reducible apply ga) <;> refine zK8 fun h => ?_) | ((with_reducible apply an); · omega) | (with_reducible first | apply jn | apply both | apply an | exact ti) | exact zLa | refine zDb ?_ | exact zLb | refine zK9 ?_))
    all_goals try omega
    ·rw [if_neg (by first | exact h | exact fun e => h e.symm)] at hct2
     refine ⟨(R.set k (nth l (j + 1 + (m + 1))), k + 1), by simp [strs, List.map_set], by simp [i1], ?_, ?_, ?_, by simp only; omega⟩
     ·simp only
      rw [zOn (by omega), i2, show j + 1 + (m + 1 + 1) = j + 1 + (m + 1) + 1 by omega, hct2]
     ·simp only
      rw [show j + 1 + (m + 1 + 1) = j + 1 + (m + 1) + 1 by omega, hct2, List.length_append, ← i3]; rfl
     ·intro q a b
      simp only
      rw [zTf (by omega)]; exact i4 q (by omega) b
    ·rw [if_pos (by first | exact h.symm | exact h)] at hct2
     refine ⟨(R, k), rfl, i1, ?_, ?_, fun q a b => i4 q (by omega) b, by simp only; omega⟩
     ·simp only
      rw [i2, show j + 1 + (m + 1 + 1) = j + 1 + (m + 1) + 1 by omega, hct2]
     ·simp only
      rw [show j + 1 + (m + 1 + 1) = j + 1 + (m + 1) + 1 by omega, hct2, ← i3]
   ·have hkl : k < l.length := by omega
    simp only [nf] at hq
    rw [show j + 1 + (m + 1) = l.length by omega, List.take_length] at i2 i3
    have r1 : ∀ z, (zAl (strs R) k (List.replicate (l.length - k) z)).take k = strs (R.take k) := fun z => by
     rw [zAl, List.append_assoc, List.take_append_of_le_length (by simp [strs]; omega), List.take_take, Nat.min_self, strs, strs, List.map_take]
    have r2 : ∀ z, (zAl (strs R) k (List.replicate (l.length - k) z)).length = l.length := fun z => by
     rw [zBg (by simp [strs]; omega)]; simp [strs, i1]
    have hqf : decide (((m + 1 : Nat) : Int) < ((l.length - (j + 1) : Nat) : Int)) = false := decide_eq_false (by omega)
    have e4 : ((k : Nat) : Int).toNat = k := rfl
    try simp (disch := omega) only [go_sem, hE, hH, i1, r1, r2, hqf, e4]
    all_goals (have y1_ := i1; have y2_ := r1; have y3_ := r2; have y4_ := hqf; have y5_ := e4; repeat' (first | ((with_reducible apply ga) <;> refine zK8 fun h => ?_) | ((with_reducible apply an); · omega) | (with_reducible first | apply jn | apply both | apply an | exact ti) | exact zLa | refine zDb ?_ | exact zLb | refine zK9 ?_))
    ·rw [List.length_take]; omega
    ·rw [i2]
  ·rw [if_neg (by first | exact h | exact fun e => h e.symm), hI] at hct
   exact ⟨(), rfl, by rw [hct, zAD hlt]⟩
 ·try simp (disch := omega) only [go_sem, hE, hH, hh]
  simp only [nf] at hh
  rw [show j + 1 = l.length by omega, List.take_length] at hI
  rw [hI]
theorem zFG {l : List Held} {j : Nat} (h : j < l.length) : zBd (l.take (j + 1)) = zBd (l.take j) ++ (nth l j).Writes := by
 rw [zAD h, zBd, List.flatMap_append]; simp [zBd]
theorem zNZ {l : List Held} {m : Nat} (h : ∀ x ∈ l, x.Writes.length ≤ m) : (zBd l).length ≤ l.length * m := by
 induction l with
 | nil => simp [zBd]
 | cons x t ih =>
  have h1 := h x List.mem_cons_self
  have h2 := ih fun y hy => h y (List.mem_cons_of_mem _ hy)
  simp only [zBd, List.flatMap_cons, List.length_append, List.length_cons, Nat.succ_mul] at h2 ⊢
  omega
theorem zU7 {l : List Held} {j i : Nat} (h : j < l.length) (h2 : i < (nth l j).Writes.length) : nth (nth l j).Writes i ∈ zBd l :=
 List.mem_flatMap.2 ⟨_, zAc h, zAc h2⟩
theorem zL9 {cs : List Cell} {ws : List Write} {w : Write} (hw : w ∈ ws) (h : zEj cs w.Key = true) : zCU cs ws = false := by
 unfold zCU
 rw [List.any_eq_true.2 ⟨w, hw, h⟩]; rfl
theorem zXT (hS : zC2) (s : State) (held : List Held) (hc : zAZ s.Cells = true) (hl : held.length ≤ 100) (hw : ∀ h ∈ held, h.Writes.length ≤ 100) : ACall p_ 264 [.agg (State.row false s), .sl false 5 (held.map (Held.row false))] (fun r _ => r = bl (decide ((held.length : Int) ≤ 12) && zCU s.Cells (zBd held))) := by
 have hmx := zAf
 have hI0 := zBC hc
 have hcl := hI0.len
 have hone : ∀ c ∈ s.Cells, c.Vers.length ≤ 100 := fun c q => by have := (hI0.one c q).2; omega
 have hal : ∀ j, (zBd (held.take j)).length ≤ 10000 := fun j => by
  have h1 := zNZ (l := held.take j) (m := 100) fun x hx => hw x (List.mem_of_mem_take hx)
  have h2 : (held.take j).length ≤ 100 := by rw [List.length_take]; omega
  have := Nat.mul_le_mul_right 100 h2
  omega
 refine fg H264 fun E hE hH => ?_; simp only [go_sem, hE, hH, C264]
 repeat' (first | ((with_reducible apply ga) <;> refine gs fun h => ?_) | ((with_reducible apply an); · omega) | (with_reducible first | apply jn | apply both | apply an | exact ti) | exact fj | refine st ?_ | exact fm | refine s1 ?_)
 refine zAs s.Cells.length (fun j (x : List ByteArray) => ⟨[(1, .sl false 5 (held.map (Held.row false))), (2, .ptr 3000000 0 0), (5, .ref 6000000 0 x.length), (16, .sl false 2 (s.Cells.map (Cell.row false))), (17, i64 s.Cells.length), (18, i64 j)], [(3000000, ⟨4, [State.row false s]⟩), (6000000, ⟨1, strs x⟩)]⟩) (fun j x => x = (s.Cells.take j).map (·.Key)) [] rfl ?_
 rintro j x hj hx
 have hlen : x.length = j := by rw [hx]; simp; omega
 try simp only [go_sem, hE, hH, zRD]
 first | refine zAg (fun h1 => ?_) (fun h1 => ?_) | refine zAh (fun h1 => ?_) (fun h1 => ?_)
 ·have hb1 := h1
  simp only [nf] at h1
  try simp (disch := omega) only [go_sem, hE, hH, hb1]
  repeat' (first | ((with_reducible apply ga) <;> refine gs fun h => ?_) | ((with_reducible apply an); · omega) | (with_reducible first | apply jn | apply both | apply an | exact ti) | exact fj | refine st ?_ | exact fm | refine s1 ?_)
  have e : (s.Cells.take (j + 1)).map (·.Key) = x ++ [(nth s.Cells j).Key] := by rw [zAD h1, List.map_append, ← hx]; rfl
  have e2 : (s.Cells.take (j + 1)).length = x.length + 1 := by rw [List.length_take, hlen]; omega
  rw [e, e2, strs, List.map_append]
  rfl
 ·try simp (disch := omega) only [go_sem, hE, hH, h1]
  simp only [nf] at h1
  rw [show j = s.Cells.length by omega, List.take_length] at hx
  subst hx
  clear hlen
  repeat' (first | ((with_reducible apply ga) <;> refine gs fun h => ?_) | ((with_reducible apply an); · omega) | (with_reducible first | apply jn | apply both | apply an | exact ti) | exact fj | refine st ?_ | exact fm | refine s1 ?_)
  refine zA0 held.length (fun j (x : List ByteArray) => ⟨[(1, .sl false 5 (held.map (Held.row false))), (2, .ptr 3000000 0 0), (5, .ref 6000000 0 x.length), (28, .sl false 5 (held.map (Held.row false))), (29, i64 held.length), (30, i64 j)], [(3000000, ⟨4, [State.row false s]⟩), (6000000, ⟨1, strs x⟩)]⟩) (fun j x => x = s.Cells.map (·.Key) ++ (zBd (held.take j)).map (·.Key) ∧ (zBd (held.take j)).any (fun w => zEj s.Cells w.Key) = false) (s.Cells.map (·.Key)) (by rw [List.length_map]; rfl) ⟨by simp [zBd], by simp [zBd]⟩ ?_
  rintro j x hj ⟨hx, hnf⟩
  try simp only [go_sem, hE, hH, zRF]
  first | refine zAg (fun h2 => ?_) (fun h2 => ?_) | refine zAh (fun h2 => ?_) (fun h2 => ?_)
  ·have hb2 := h2
   simp only [nf] at h2
   have hlt2 := h2; clear h2
   try simp (disch := omega) only [go_sem, hE, hH, hb2]
   repeat' (first | ((with_reducible apply ga) <;> refine gs fun h => ?_) | ((with_reducible apply an); · omega) | (with_reducible first | apply jn | apply both | apply an | exact ti) | exact fj | refine st ?_ | exact fm | refine s1 ?_)
   refine zAs (nth held j).Writes.length (fun i (x : List ByteArray) => ⟨[(1, .sl false 5 (held.map (Held.row false))), (2, .ptr 3000000 0 0), (5, .ref 6000000 0 x.length), (28, .sl false 5 (held.map (Held.row false))), (29, i64 held.length), (30, i64 j), (35, .sl false 3 ((nth held j).Writes.map (Write.row false))), (36, i64 (nth held j).Writes.length), (37, i64 i)], [(3000000, ⟨4, [State.row false s]⟩), (6000000, ⟨1, strs x⟩)]⟩) (fun i x => x = s.Cells.map (·.Key) ++ (zBd (held.take j) ++ (nth held j).Writes.take i).map (·.Key) ∧ ((nth held j).Writes.take i).any (fun w => zEj s.Cells w.Key) = false) x ⟨by simp [hx], rfl⟩ ?_
   rintro i y hi ⟨hy, hfi⟩
   have hwj := hw _ (zAc hlt2)
   have hyl : y.length ≤ 20000 := by
    have := hal j
    rw [hy, List.length_append, List.length_map, List.length_map, List.length_append, List.length_take]; omega
   try simp only [go_sem, hE, hH, zRE]
   first | refine zAg (fun h3 => ?_) (fun h3 => ?_) | refine zAh (fun h3 => ?_) (fun h3 => ?_)
   ·have hb3 := h3
    simp only [nf] at h3
    have hlt3 := h3; clear h3
    have cF1 := zE3 s.Cells (nth (nth held j).Writes i).Key (by omega) hI0.srt
    have hci := zJ3 (l := s.Cells) (k := (nth (nth held j).Writes i).Key)
    cases hf : cF s.Cells (nth (nth held j).Writes i).Key with
    | true =>
     rw [hf] at cF1
     obtain ⟨k1, k2⟩ := zDY hI0.srt hf
     try simp (disch := omega) only [go_sem, hE, hH, hb3]
     repeat' (first | ((with_reducible apply ga) <;> refine gs fun h => ?_) | ((with_reducible apply an); · omega) | ((first | refine zAa ?_ | refine cvA (cF1) ?_); refine st ?_) | (with_reducible first | apply jn | apply both | apply an | exact ti) | exact fj | refine st ?_ | exact fm | refine s1 ?_)
     ·rw [zL9 (zU7 hlt2 hlt3) (by simp only [zEj, hf, Bool.true_and, decide_eq_true_eq]; omega), Bool.and_false]
     ·refine ⟨y ++ [(nth (nth held j).Writes i).Key], by simp [strs], ?_, ?_⟩
      ·rw [zAD hlt3, hy]; simp [List.map_append]
      ·rw [zAD hlt3, List.any_append, hfi]
       simp only [List.any_cons, List.any_nil, Bool.or_false, Bool.false_or, zEj, hf, Bool.true_and, decide_eq_false_iff_not]
       omega
    | false =>
     rw [hf] at cF1
     try simp (disch := omega) only [go_sem, hE, hH, hb3]
     repeat' (first | ((with_reducible apply ga) <;> refine gs fun h => ?_) | ((with_reducible apply an); · omega) | ((first | refine zAa ?_ | refine cvA (cF1) ?_); refine st ?_) | (with_reducible first | apply jn | apply both | apply an | exact ti) | exact fj | refine st ?_ | exact fm | refine s1 ?_)
     all_goals try omega
     refine ⟨y ++ [(nth (nth held j).Writes i).Key], by simp [strs], ?_, ?_⟩
     ·rw [zAD hlt3, hy]; simp [List.map_append]
     ·rw [zAD hlt3, List.any_append, hfi]
      simp only [List.any_cons, List.any_nil, Bool.or_false, Bool.false_or, zEj, hf, Bool.false_and]
   ·try simp (disch := omega) only [go_sem, hE, hH, h3]
    simp only [nf] at h3
    rw [show i = (nth held j).Writes.length by omega, List.take_length] at hy hfi
    refine ⟨hlt2, y, rfl, ?_, ?_⟩
    ·rw [zFG hlt2, hy]
    ·rw [zFG hlt2, List.any_append, hnf, hfi]; rfl
  ·try simp (disch := omega) only [go_sem, hE, hH, h2]
   simp only [nf] at h2
   rw [show j = held.length by omega, List.take_length] at hx hnf
   have hxl : x.length ≤ 20000 := by
    have := hal held.length
    rw [List.take_length] at this
    rw [hx, List.length_append, List.length_map, List.length_map]; omega
   have hsl : (zCx x).length = x.length := zJw
   have hst : (zCx x).take x.length = zCx x := List.take_of_length_le (by omega)
   have hdn : (zBF (zCx x)).length = dnN x := zAaS (zWw x) fun y => zUY
   have hrm : zCU s.Cells (zBd held) = decide (dnN x ≤ 24) := by rw [zCU, hnf, ← hx]; rfl
   all_goals (have y1_ := hsl; have y2_ := hst; repeat' (first | ((with_reducible apply ga) <;> refine zDR fun h => ?_) | ((with_reducible apply an); · omega) | (refine zBj [true] ?_; refine zBn ?_; refine cmA (zXS hS x (by omega)) ?_; refine zBn ?_) | (refine zBj [true] ?_; refine zBn ?_; refine cmA (zJ7 (zCx x) (by rw [zJw]; omega)) ?_; refine zBn ?_) | (with_reducible first | apply jn | apply both | apply an | exact ti) | exact zDT | refine zBn ?_ | exact zDU | refine zDS ?_))
   all_goals rw [hrm, hdn, show decide (((dnN x : Nat) : Int) ≤ 24) = decide (dnN x ≤ 24) by rw [decide_eq_decide]; omega]
theorem zTh {l : List ByteArray} {k : ByteArray} (hs : zA7 zAj id l) (h : fxF id l k = true) : dnI (fun y : ByteArray => zAj k y) l l.length = fxI zAj id l k + 1 := by
 obtain ⟨h1, h2⟩ := zEO zCE hs h
 simp only [id] at h2
 refine zFi (by omega) (fun i a b => ?_) (.inr ?_)
 ·have := hs _ _ (show fxI zAj id l k < i by omega) b
  simp only [id] at this
  rwa [h2] at this
 ·simp only [Nat.add_sub_cancel, h2, zBr]
theorem zJy (l : List ByteArray) (key : ByteArray) (hl : l.length ≤ 2 ^ 20) (hs : zA7 zAj id l) : ACall p_ 276 [.sl true 1 (strs l), str key] (fun r a => r = .sl true 1 (strs (zCF l key)) ∧ a = [.any, str key]) := by
 have hmx := zAf
 refine zI9 [true, false] (hqA H276) (hqB H276) ⟨by simp only [go_sem], fun E hE hH => ?_⟩; simp only [go_sem] at hE hH; simp only [go_sem, hE, hH, C276]
 try refine st ?_; try exact ⟨⟩
 refine zJU (fun (k : Nat) => ⟨[(0, .ref 0 0 l.length), (1, str key), (5, i64 k)], [(0, ⟨1, strs l⟩)]⟩) (fun k => k ≤ l.length ∧ ∀ i, k ≤ i → i < l.length → zAj key (nth l i) = true) (fun k => k) l.length ⟨Nat.le_refl _, fun i a b => absurd b (by omega)⟩ ?_
 rintro k ⟨hk, hK⟩
 have e1 : ((k : Int) - 1).toNat = k - 1 := by omega
 by_cases hgo : k ≠ 0 ∧ zAj key (nth l (k - 1)) = true
 ·obtain ⟨hk0, hq⟩ := hgo
  have e2 : decide ((0 : Int) < (k : Int)) = true := decide_eq_true (by omega)
  try simp only [go_sem, hE, hH, e1, e2, hq, zHz]
  all_goals (have y1_ := e1; have y2_ := e2; have y3_ := hq; repeat' (first | ((with_reducible apply ga) <;> refine zGn fun h => ?_) | ((with_reducible apply an); · omega) | (with_reducible first | apply jn | apply both | apply an | exact ti) | exact zHj | refine zB7 ?_ | exact zGp | refine zGo ?_))
  all_goals first | omega | (refine ⟨k - 1, ?_, ⟨by omega, fun i a b => ?_⟩, by omega⟩)
  ·rw [show ((k - 1 : Nat) : Int) = (k : Int) - 1 by omega]
  ·by_cases e : i = k - 1
   ·rw [e]; exact hq
   ·exact hK i (by omega) b
 have hd : dnI (fun y : ByteArray => zAj key y) l l.length = k := zFi hk hK (by
  by_cases e : k = 0
  ·exact .inl e
  ·right
   cases q : zAj key (nth l (k - 1)) with
   | false => rfl
   | true => exact absurd ⟨e, q⟩ hgo)
 cases hf : fxF id l key with
 | true =>
  have hc0 := zTh hs hf
  obtain ⟨k1, k2⟩ := zEO zCE hs hf
  have hk0 : k ≠ 0 := by omega
  have e2 : decide ((0 : Int) < (k : Int)) = true := decide_eq_true (by omega)
  have e3 : nth l (k - 1) = key := by rw [show k - 1 = fxI zAj id l key by omega]; exact k2
  have hq : zAj key key = false := zBr _
  try simp only [go_sem, hE, hH, e1, e2, e3, hq, zHz]
  all_goals (have y1_ := e1; have y2_ := e2; have y3_ := e3; have y4_ := hq; repeat' (first | ((with_reducible apply ga) <;> refine zJF fun h => ?_) | ((with_reducible apply an); · omega) | (with_reducible first | apply jn | apply both | apply an | exact ti) | exact zJH | refine zFu ?_ | exact zJI | refine zJG ?_))
  all_goals first | omega | (simp only [zCF, hf, if_true]; done)
 | false =>
  have hc0 : k = fxI zAj id l key := by
   rw [← hd]; exact zLP (f := id) (x := key) zCE hs hf
  have hP : zCF l key = l.take k ++ key :: l.drop k := by rw [zCF, hf, hc0]; rfl
  have lt1 : (l.take k).length = k := by rw [List.length_take]; omega
  have hdx : (l.drop k).length = l.length - k := by simp
  have d1 : (l.drop k).take (l.length - k) = l.drop k := List.take_of_length_le (by simp)
  have d2 : (l.take k).take k = l.take k := by rw [List.take_take, Nat.min_self]
  have d3 : ∀ q, (strs (l.take k) ++ [q]).take (k + 1) = strs (l.take k) ++ [q] := fun q => List.take_of_length_le (by simp [strs]; omega)
  by_cases hk0 : k = 0
  ·subst hk0
   have fC : decide ((0 : Int) < ((0 : Nat) : Int)) = false := rfl
   have fD : decide ((0 : Int) < (0 : Int)) = false := rfl
   try simp only [go_sem, hE, hH, fC, fD, d1, d2, d3, hdx, zHz]
   all_goals (have y1_ := fC; have y2_ := fD; have y3_ := d1; have y4_ := d2; have y5_ := d3; have y6_ := hdx; repeat' (first | ((with_reducible apply ga) <;> refine zIi fun h => ?_) | ((with_reducible apply an); · omega) | ((first | refine zAa ?_ | refine cvA (zFo [] (by decide)) ?_ | refine cvA (zFo _ (by simp; omega)) ?_); refine zDd ?_) | (with_reducible first | apply jn | apply both | apply an | exact ti) | exact zIk | refine zDd ?_ | exact zIl | refine zIj ?_))
   all_goals first | omega | (rw [hP]; simp [strs]; done)
  ·have fC : decide ((0 : Int) < (k : Int)) = true := decide_eq_true (by omega)
   have fE : decide (nth l (k - 1) = key) = false := decide_eq_false fun e => by
    have : fxF id l key = true := zC7.2 ⟨k - 1, by omega, e⟩
    rw [hf] at this; cases this
   have fF : zAj (nth l (k - 1)) key = true := by
    rcases zBP (nth l (k - 1)) key with q | q | q
    ·exact q
    ·exact absurd q (of_decide_eq_false fE)
    ·exact absurd ⟨hk0, q⟩ hgo
   try simp only [go_sem, hE, hH, e1, fC, fE, fF, d1, d2, d3, hdx, lt1, zHz]
   repeat' (first | ((with_reducible first | refine zAg ?_ ?_ | refine zAh ?_ ?_) <;> (intro h; have hb := h; (try simp only [nf] at h); simp (disch := omega) only [go_sem, hE, hH, e1, fC, fE, fF, d1, d2, d3, hdx, lt1, hb]; (try clear hb))) | ((with_reducible refine And.intro ?_ ?_); · omega) | ((first | refine zAa ?_ | refine cvA (zFo _ (by simp; omega)) ?_); simp (disch := omega) only [go_sem, hE, hH, e1, fC, fE, fF, d1, d2, d3, hdx, lt1]) | (with_reducible first | apply jn | apply both | refine And.intro ?_ ?_) | ((with_reducible apply zA4); (try (simp (disch := omega) only [go_sem, hE, hH, e1, fC, fE, fF, d1, d2, d3, hdx, lt1])); first | done | rfl) | (simp (disch := omega) only [go_sem, hE, hH, e1, fC, fE, fF, d1, d2, d3, hdx, lt1]) | ((first | apply zAN | apply zBs) <;> (simp only [go_sem, hE, hH, e1, fC, fE, fF, d1, d2, d3, hdx, lt1]; done)) | (simp only [go_sem, hE, hH, e1, fC, fE, fF, d1, d2, d3, hdx, lt1]) | fail)
   all_goals first | omega | (rw [hP]; simp [strs]; done)
theorem zTi (s : State) (ws : List Write) (hc : zAZ s.Cells = true) (hws : ws.length ≤ 100) (hl : s.Held.length ≤ 100) (hw : ∀ h ∈ s.Held, h.Writes.length ≤ 100) : ACall p_ 245 [.agg (State.row false s), .sl false 3 (ws.map (Write.row false))] (fun r _ => r = bl (zCU s.Cells (ws ++ zBd s.Held))) := by
 have hmx := zAf
 have hI0 := zBC hc
 have hcl := hI0.len
 have hone : ∀ c ∈ s.Cells, c.Vers.length ≤ 100 := fun c q => by have := (hI0.one c q).2; omega
 have hal : ∀ j, (zBd (s.Held.take j)).length ≤ 10000 := fun j => by
  have h1 := zNZ (l := s.Held.take j) (m := 100) fun x hx => hw x (List.mem_of_mem_take hx)
  have h2 : (s.Held.take j).length ≤ 100 := by rw [List.length_take]; omega
  have := Nat.mul_le_mul_right 100 h2
  omega
 have hal2 : (ws ++ zBd s.Held).length ≤ 20000 := by
  have := hal s.Held.length
  rw [List.take_length] at this
  rw [List.length_append]; omega
 refine fg H245 fun E hE hH => ?_; simp only [go_sem, hE, hH, C245]
 repeat' (first | ((with_reducible apply ga) <;> refine gs fun h => ?_) | ((with_reducible apply an); · omega) | (with_reducible first | apply jn | apply both | apply an | exact ti) | exact fj | refine st ?_ | exact fm | refine s1 ?_)
 refine zAs s.Cells.length (fun j (x : List ByteArray) => ⟨[(1, .sl false 3 (ws.map (Write.row false))), (2, .ptr 3000000 0 0), (5, .ref 6000000 0 x.length), (15, .sl false 2 (s.Cells.map (Cell.row false))), (16, i64 s.Cells.length), (17, i64 j)], [(3000000, ⟨4, [State.row false s]⟩), (6000000, ⟨1, strs x⟩)]⟩) (fun j x => x = ((s.Cells.take j).map (·.Key)).foldl zCF [] ∧ x.length ≤ j ∧ zA7 zAj id x) [] ⟨rfl, Nat.le_refl _, fun i j _ h => absurd h (by simp)⟩ ?_
 rintro j x hj ⟨hx, hxl, hxs⟩
 try simp only [go_sem, hE, hH, zRx]
 first | refine zAg (fun h1 => ?_) (fun h1 => ?_) | refine zAh (fun h1 => ?_) (fun h1 => ?_)
 ·have hb1 := h1
  simp only [nf] at h1
  try simp (disch := omega) only [go_sem, hE, hH, hb1]
  repeat' (first | ((with_reducible apply ga) <;> refine gs fun h => ?_) | ((with_reducible apply an); · omega) | (refine zBj [true, false] ?_; refine st ?_; refine cmA (zJy x _ (by omega) hxs) ?_; refine st ?_) | (with_reducible first | apply jn | apply both | apply an | exact ti) | exact fj | refine st ?_ | exact fm | refine s1 ?_)
  have := zPT (l := x) (k := (nth s.Cells j).Key)
  exact ⟨zCF x (nth s.Cells j).Key, rfl, by rw [zAD h1, List.map_append, List.foldl_append, ← hx]; rfl, by omega, zPS hxs⟩
 ·try simp (disch := omega) only [go_sem, hE, hH, h1]
  simp only [nf] at h1
  rw [show j = s.Cells.length by omega, List.take_length] at hx
  repeat' (first | ((with_reducible apply ga) <;> refine gs fun h => ?_) | ((with_reducible apply an); · omega) | (with_reducible first | apply jn | apply both | apply an | exact ti) | exact fj | refine st ?_ | exact fm | refine s1 ?_)
  refine zA0 s.Held.length (fun j (z : List Write) => ⟨[(2, .ptr 3000000 0 0), (5, .ref 6000000 0 x.length), (8, .ref 9000000 0 z.length), (30, .sl false 5 (s.Held.map (Held.row false))), (31, i64 s.Held.length), (32, i64 j)], [(3000000, ⟨4, [State.row false s]⟩), (6000000, ⟨1, strs x⟩), (9000000, ⟨3, z.map (Write.row true)⟩)]⟩) (fun j z => z = ws ++ zBd (s.Held.take j)) ws rfl (by simp [zBd]) ?_
  rintro j z hj hz
  have hzl : z.length ≤ 20000 := by
   have := hal j
   rw [hz, List.length_append]; omega
  try simp only [go_sem, hE, hH, zRy]
  first | refine zAg (fun h2 => ?_) (fun h2 => ?_) | refine zAh (fun h2 => ?_) (fun h2 => ?_)
  ·have hb2 := h2
   simp only [nf] at h2
   have hwj := hw _ (zAc h2)
   try simp (disch := omega) only [go_sem, hE, hH, hb2]
   repeat' (first | ((with_reducible apply ga) <;> refine gs fun h => ?_) | ((with_reducible apply an); · omega) | (with_reducible first | apply jn | apply both | apply an | exact ti) | exact fj | refine st ?_ | exact fm | refine s1 ?_)
   all_goals try omega
   have el : ws.length + (zBd (s.Held.take (j + 1))).length = z.length + (nth s.Held j).Writes.length := by rw [zFG h2, hz, List.length_append, List.length_append, Nat.add_assoc]
   have er : ws ++ zBd (s.Held.take (j + 1)) = z ++ (nth s.Held j).Writes := by rw [zFG h2, hz, List.append_assoc]
   rw [el, er, List.map_append]
   rfl
  ·try simp (disch := omega) only [go_sem, hE, hH, h2]
   simp only [nf] at h2
   rw [show j = s.Held.length by omega, List.take_length] at hz
   rw [← hz] at hal2
   repeat' (first | ((with_reducible apply ga) <;> refine gs fun h => ?_) | ((with_reducible apply an); · omega) | (with_reducible first | apply jn | apply both | apply an | exact ti) | exact fj | refine st ?_ | exact fm | refine s1 ?_)
   refine zA0 z.length (fun i (y : List ByteArray) => ⟨[(2, .ptr 3000000 0 0), (5, .ref 6000000 0 y.length), (41, .ref 9000000 0 z.length), (42, i64 z.length), (43, i64 i)], [(3000000, ⟨4, [State.row false s]⟩), (6000000, ⟨1, strs y⟩), (9000000, ⟨3, z.map (Write.row true)⟩)]⟩) (fun i y => y = ((z.take i).map (·.Key)).foldl zCF x ∧ (z.take i).any (fun w => zEj s.Cells w.Key) = false) x ?_ ⟨by simp, by simp⟩ ?_
   ·rfl
   rintro i y hi ⟨hy, hfi⟩
   have hys : zA7 zAj id y := by rw [hy]; exact zNV hxs
   have hyl : y.length ≤ 30000 := by
    have := zUV (ws := (z.take i).map (·.Key)) (l := x)
    rw [← hy, List.length_map, List.length_take] at this
    omega
   try simp only [go_sem, hE, hH, zRz]
   first | refine zAg (fun h3 => ?_) (fun h3 => ?_) | refine zAh (fun h3 => ?_) (fun h3 => ?_)
   ·have hb3 := h3
    simp only [nf] at h3
    have hlt3 := h3; clear h3
    have hAt := zRV s.Cells (nth z i).Key (by omega) hI0.srt
    have hstep : zCF y (nth z i).Key = ((z.take (i + 1)).map (·.Key)).foldl zCF x := by
     rw [zAD hlt3, List.map_append, List.foldl_append, ← hy]; rfl
    cases hf : cF s.Cells (nth z i).Key with
    | true =>
     rw [hf, if_pos rfl] at hAt
     obtain ⟨k1, k2⟩ := zDY hI0.srt hf
     try simp (disch := omega) only [go_sem, hE, hH, hb3]
     repeat' (first | ((with_reducible apply ga) <;> refine gs fun h => ?_) | ((with_reducible apply an); · omega) | (refine zBj [true, false] ?_; refine st ?_; refine cmA (zJy y _ (by omega) hys) ?_; refine st ?_) | ((first | refine zAa ?_ | refine cvA (hAt) ?_); refine st ?_) | (with_reducible first | apply jn | apply both | apply an | exact ti) | exact fj | refine st ?_ | exact fm | refine s1 ?_)
     all_goals try omega
     ·rw [← hz, zL9 (zAc hlt3) (by simp only [zEj, hf, Bool.true_and, decide_eq_true_eq]; omega)]
     ·refine ⟨_, rfl, hstep, ?_⟩
      rw [zAD hlt3, List.any_append, hfi]
      simp only [List.any_cons, List.any_nil, Bool.or_false, Bool.false_or, zEj, hf, Bool.true_and, decide_eq_false_iff_not]
      omega
    | false =>
     rw [hf] at hAt
     simp only [Bool.false_eq_true, if_false] at hAt
     try simp (disch := omega) only [go_sem, hE, hH, hb3]
     repeat' (first | ((with_reducible apply ga) <;> refine gs fun h => ?_) | ((with_reducible apply an); · omega) | (refine zBj [true, false] ?_; refine st ?_; refine cmA (zJy y _ (by omega) hys) ?_; refine st ?_) | ((first | refine zAa ?_ | refine cvA (hAt) ?_); refine st ?_) | (with_reducible first | apply jn | apply both | apply an | exact ti) | exact fj | refine st ?_ | exact fm | refine s1 ?_)
     all_goals try omega
     refine ⟨_, rfl, hstep, ?_⟩
     rw [zAD hlt3, List.any_append, hfi]
     simp only [List.any_cons, List.any_nil, Bool.or_false, Bool.false_or, zEj, hf, Bool.false_and]
   ·try simp (disch := omega) only [go_sem, hE, hH, h3]
    simp only [nf] at h3
    rw [show i = z.length by omega, List.take_length] at hy hfi
    repeat' (first | ((with_reducible apply ga) <;> refine gs fun h => ?_) | ((with_reducible apply an); · omega) | (with_reducible first | apply jn | apply both | apply an | exact ti) | exact fj | refine st ?_ | exact fm | refine s1 ?_)
    have hy2 : y = (s.Cells.map (·.Key) ++ z.map (·.Key)).foldl zCF [] := by rw [List.foldl_append, ← hx, ← hy]
    have hrm : zCU s.Cells (ws ++ zBd s.Held) = decide (y.length ≤ 24) := by rw [← hz, zCU, hfi, hy2, zWv]; rfl
    rw [hrm, show decide (((y.length : Nat) : Int) ≤ 24) = decide (y.length ≤ 24) by rw [decide_eq_decide]; omega]
def zEl (h : Held) (reads : List ByteArray) (writes : List Write) : Bool := !(reads.any (fun k => fwF h.Writes k) || writes.any fun w => fwF h.Writes w.Key || h.Reads.any fun x => decide (w.Key = x))
theorem zQK (h : Held) (reads : List ByteArray) (writes : List Write) : zFn ⟨0, 0, 0, reads, writes⟩ h = !zEl h reads writes := by
 unfold zEl zFn zIb fwF
 rw [Bool.not_not, Bool.eq_iff_iff]
 simp only [Bool.or_eq_true, List.any_eq_true, decide_eq_true_eq]
 constructor
 ·rintro (⟨w, h1, h2⟩ | ⟨w, h1, ⟨v, h2, h3⟩ | ⟨x, h2, h3⟩⟩)
  ·exact .inr ⟨w, h1, h2⟩
  ·exact .inr ⟨v, h2, .inl ⟨w, h1, h3.symm⟩⟩
  ·exact .inl ⟨x, h2, w, h1, h3⟩
 ·rintro (⟨x, h1, w, h2, h3⟩ | ⟨w, h1, h2⟩)
  ·exact .inr ⟨w, h2, .inr ⟨x, h1, h3⟩⟩
  ·exact .inl ⟨w, h1, h2⟩
theorem zN0 (l : List Held) (reads : List ByteArray) (writes : List Write) : (l.any fun k => zFn ⟨0, 0, 0, reads, writes⟩ k) = !zAq (fun i => zEl (nth l i) reads writes) l.length := by
 rw [zAQ (p := fun k => zEl k reads writes), List.all_eq_not_any_not, Bool.not_not]
 congr 1; funext k; exact zQK k reads writes
theorem zQL (a : Held) (reads : List ByteArray) (writes : List Write) (h1 : a.Writes.length ≤ maxLen) (h2 : a.Reads.length ≤ maxLen) (h3 : reads.length ≤ maxLen) (h4 : writes.length ≤ maxLen) : ACall p_ 244 [.agg (Held.row false a), .sl false 1 (strs reads), .sl false 3 (writes.map (Write.row false))] (fun r _ => r = bl (zEl a reads writes)) := by
 have hmx := zAf
 refine fg H244 fun E hE hH => ?_; simp only [go_sem, hE, hH, C244]
 repeat' (first | ((with_reducible apply ga) <;> refine gs fun h => ?_) | ((with_reducible apply an); · omega) | (with_reducible first | apply jn | apply both | apply an | exact ti) | exact fj | refine st ?_ | exact fm | refine s1 ?_)
 refine zAs reads.length (fun j (_ : Unit) => ⟨[(2, .sl false 3 (writes.map (Write.row false))), (3, .ptr 4000000 0 0), (11, .sl false 1 (strs reads)), (12, i64 reads.length), (13, i64 j)], [(4000000, ⟨5, [Held.row false a]⟩)]⟩) (fun j _ => zAq (fun i => !fwF a.Writes (nth reads i)) j = true) () rfl ?_
 intro j _ hj hIn
 try simp only [go_sem, hE, hH, zRv]
 first | refine zAg (fun hh => ?_) (fun hh => ?_) | refine zAh (fun hh => ?_) (fun hh => ?_)
 ·have hb := hh
  simp only [nf] at hh
  have hlt := hh; clear hh
  try refine sb ?_; try exact ⟨⟩
  repeat' (first | ((with_reducible apply ga) <;> refine gs fun h => ?_) | ((with_reducible apply an); · omega) | ((first | refine zAa ?_ | refine cvA (zKp _ _ h1) ?_); refine st ?_) | (with_reducible first | apply jn | apply both | apply an | exact ti) | exact fj | refine st ?_ | exact fm | refine s1 ?_)
  all_goals first | (exact ⟨(), rfl, zAd hIn (by simp_all)⟩) | (have e : (reads.any fun k => fwF a.Writes k) = true := List.any_eq_true.2 ⟨_, zAc hlt, by simp_all⟩; rw [zEl, e]; rfl)
 ·try simp (disch := omega) only [go_sem, hE, hH, hh]
  simp only [nf] at hh
  rw [show j = reads.length by omega, zAQ (p := fun k => !fwF a.Writes k)] at hIn
  have e1 : (reads.any fun k => fwF a.Writes k) = false := by
   rw [List.any_eq_false]; intro x hx; have := List.all_eq_true.1 hIn x hx; simpa using this
  clear hIn hh
  repeat' (first | ((with_reducible apply ga) <;> refine gs fun h => ?_) | ((with_reducible apply an); · omega) | (with_reducible first | apply jn | apply both | apply an | exact ti) | exact fj | refine st ?_ | exact fm | refine s1 ?_)
  refine zAs writes.length (fun j (_ : Unit) => ⟨[(3, .ptr 4000000 0 0), (22, .sl false 3 (writes.map (Write.row false))), (23, i64 writes.length), (24, i64 j)], [(4000000, ⟨5, [Held.row false a]⟩)]⟩) (fun j _ => zAq (fun i => !(fwF a.Writes (nth writes i).Key || a.Reads.any fun x => decide ((nth writes i).Key = x))) j = true) () rfl ?_
  intro j _ hj hIn2
  try simp only [go_sem, hE, hH, zRw]
  first | refine zAg (fun hh2 => ?_) (fun hh2 => ?_) | refine zAh (fun hh2 => ?_) (fun hh2 => ?_)
  ·have hb2 := hh2
   simp only [nf] at hh2
   have hlt2 := hh2; clear hh2
   try simp (disch := omega) only [go_sem, hE, hH, hb2]
   repeat' (first | ((with_reducible apply ga) <;> refine gs fun h => ?_) | ((with_reducible apply an); · omega) | ((first | refine zAa ?_ | refine cvA (zKp _ _ h1) ?_ | refine cvA (zU6 _ _ h2) ?_); refine st ?_) | (with_reducible first | apply jn | apply both | apply an | exact ti) | exact fj | refine st ?_ | exact fm | refine s1 ?_)
   all_goals first | (exact ⟨(), rfl, zAd hIn2 (by simp_all)⟩) | (have e : (writes.any fun w => fwF a.Writes w.Key || a.Reads.any fun x => decide (w.Key = x)) = true := List.any_eq_true.2 ⟨_, zAc hlt2, by simp_all⟩; rw [zEl, e]; simp; done)
  ·try simp (disch := omega) only [go_sem, hE, hH, hh2]
   simp only [nf] at hh2
   rw [show j = writes.length by omega, zAQ (p := fun w : Write => !(fwF a.Writes w.Key || a.Reads.any fun x => decide (w.Key = x)))] at hIn2
   have e : (writes.any fun w => fwF a.Writes w.Key || a.Reads.any fun x => decide (w.Key = x)) = false := by
    rw [List.any_eq_false]; intro x hx; have := List.all_eq_true.1 hIn2 x hx; simpa only [Bool.not_eq_true', Bool.not_eq_true] using this
   rw [zEl, e1, e]
   rfl
theorem zU8 (k a : Held) (h1 : a.Writes.length ≤ 2 ^ 20) (h2 : k.Writes.length ≤ 2 ^ 20) (h3 : a.Reads.length ≤ 2 ^ 20) (h4 : k.Reads.length ≤ 2 ^ 20) (s1 : zB6 a.Writes) (s2 : zB6 k.Writes) : ACall p_ 262 ([.agg (Held.row false k)] ++ [.bx false (Held.row false a)]) (fun r _ => r = bl (zFn a k)) := by
 refine fg H262 fun E hE hH => ?_; simp only [go_sem, hE, hH, C262]
 repeat' (first | ((with_reducible apply ga) <;> refine gs fun h => ?_) | ((with_reducible apply an); · omega) | ((first | refine zAa ?_ | refine cvA (zWB a k h1 h2 h3 h4 s1 s2) ?_); refine st ?_) | refine jn _ ?_ ?_ | (with_reducible first | apply both | apply an | exact ti) | exact fe | refine st ?_ | exact fm | refine s1 ?_)
theorem zXU (hS : zC2) {n : Nat} (s : State) (reads : List ByteArray) (writes : List Write) (hi : stI n s) (h1 : reads.length ≤ 100) (h2 : writes.length ≤ 100) (hs : zB6 writes) : ACall p_ 230 [.agg (State.row false s), .sl false 1 (strs reads), .sl false 3 (writes.map (Write.row false))] (fun r _ => r = bl (zCV s reads writes)) := by
 have hmx := zAf
 have hl := hi.hlen
 have hw : ∀ h ∈ s.Held, h.Writes.length ≤ 100 := fun x hx => by have := zBQ (hi.hok x hx); omega
 have hw2 : ∀ h ∈ s.Held ++ [(⟨0, 0, 0, reads, writes⟩ : Held)], h.Writes.length ≤ 100 := fun x hx => by
  rcases List.mem_append.1 hx with hx | hx
  ·exact hw x hx
  ·rw [List.mem_singleton.1 hx]; exact h2
 have cR := zXT hS s (s.Held ++ [⟨0, 0, 0, reads, writes⟩]) hi.cells (by rw [List.length_append]; simp; omega) hw2
 have eW : zBd (s.Held ++ [(⟨0, 0, 0, reads, writes⟩ : Held)]) = zBd s.Held ++ writes := by simp [zBd]
 rw [List.map_append, eW] at cR
 have cC := zH9 s.Held 262 [.bx false (Held.row false ⟨0, 0, 0, reads, writes⟩)] (fun k => zFn ⟨0, 0, 0, reads, writes⟩ k) (by kernel_rfl) rfl (by omega) (fun k hk => by
  have q := zBQ (hi.hok k hk)
  exact zU8 k ⟨0, 0, 0, reads, writes⟩ (by simp only; omega) (by omega) (by simp only; omega) (by omega) hs (zHD q.2.2.1))
 have et : ∀ (f : Held → List T) (q : List T), (s.Held.map f ++ [q]).take (s.Held.length + 1) = s.Held.map f ++ [q] := fun f q => List.take_of_length_le (by simp)
 refine fg H230 fun E hE hH => ?_; simp only [go_sem, hE, hH, zZ7]
 all_goals (have y1_ := et; repeat' (first | ((with_reducible apply ga) <;> refine zCO fun h => ?_) | ((with_reducible apply an); · omega) | ((first | refine zAa ?_ | refine cvA (cC) ?_ | refine cvA (zOf _ (by omega)) ?_ | refine cvA (cR) ?_); refine zAR ?_) | (with_reducible first | apply jn | apply both | apply an | exact ti) | exact zES | refine zAR ?_ | exact zCH | refine zCG ?_))
 all_goals first | omega | (rw [zCV, h]; rfl) | (rw [zCV, h, List.length_append]; simp; done)
theorem zTj {n : Nat} (s : State) (reads : List ByteArray) (writes : List Write) (hi : stI n s) (h1 : reads.length ≤ 100) (h2 : writes.length ≤ 100) : ACall p_ 214 [.agg (State.row false s), .sl false 1 (strs reads), .sl false 3 (writes.map (Write.row false))] (fun r _ => r = bl (zCV s reads writes)) := by
 have hmx := zAf
 have hl := hi.hlen
 have hw : ∀ h ∈ s.Held, h.Writes.length ≤ 100 ∧ h.Reads.length ≤ 100 := fun x hx => by have := zBQ (hi.hok x hx); omega
 have cR := zTi s writes hi.cells h2 (by omega) fun h hh => (hw h hh).1
 have hR : zCU s.Cells (zBd s.Held ++ writes) = zCU s.Cells (writes ++ zBd s.Held) := zQF fun x => by simp only [List.mem_append]; exact Or.comm
 refine fg H214 fun E hE hH => ?_; simp only [go_sem, hE, hH, zZU]
 repeat' (first | ((with_reducible apply ga) <;> refine gs fun h => ?_) | ((with_reducible apply an); · omega) | (with_reducible first | apply jn | apply both | apply an | exact ti) | exact fj | refine st ?_ | exact fm | refine s1 ?_)
 refine zAs s.Held.length (fun j (_ : Unit) => ⟨[(1, .sl false 1 (strs reads)), (2, .sl false 3 (writes.map (Write.row false))), (3, .ptr 4000000 0 0), (10, .sl false 5 (s.Held.map (Held.row false))), (11, i64 s.Held.length), (12, i64 j)], [(4000000, ⟨4, [State.row false s]⟩)]⟩) (fun j _ => zAq (fun i => zEl (nth s.Held i) reads writes) j = true) () rfl ?_
 intro j _ hj hIn
 try simp only [go_sem, hE, hH, zRr]
 first | refine zAg (fun hh => ?_) (fun hh => ?_) | refine zAh (fun hh => ?_) (fun hh => ?_)
 ·have hb := hh
  simp only [nf] at hh
  have hlt := hh; clear hh
  obtain ⟨q1, q2⟩ := hw _ (zAc hlt)
  try refine sb ?_; try exact ⟨⟩
  repeat' (first | ((with_reducible apply ga) <;> refine gs fun h => ?_) | ((with_reducible apply an); · omega) | ((first | refine zAa ?_ | refine cvA (zQL _ _ _ (by omega) (by omega) (by omega) (by omega)) ?_); refine st ?_) | (with_reducible first | apply jn | apply both | apply an | exact ti) | exact fj | refine st ?_ | exact fm | refine s1 ?_)
  all_goals first | (exact ⟨(), rfl, zAd hIn (by simp_all)⟩) | (rw [zCV, zN0, zAz hlt (by simp_all)]; rfl)
 ·try simp (disch := omega) only [go_sem, hE, hH, hh]
  simp only [nf] at hh
  rw [show j = s.Held.length by omega] at hIn
  have hF : zCV s reads writes = (decide ((s.Held.length : Int) + 1 ≤ 12) && zCU s.Cells (writes ++ zBd s.Held)) := by rw [zCV, zN0, hIn, hR]; rfl
  rw [hF]
  repeat' (first | ((with_reducible apply ga) <;> refine gs fun h => ?_) | ((with_reducible apply an); · omega) | ((first | refine zAa ?_ | refine cvA (cR) ?_); refine st ?_) | (with_reducible first | apply jn | apply both | apply an | exact ti) | exact fj | refine st ?_ | exact fm | refine s1 ?_)
  all_goals first | (simp_all; done) | (simp_all; omega)
theorem zGi {l : List Write} (h : zAV l = true) {x : Write} (hx : x ∈ l) : x.Key.size ≤ 100 ∧ x.Val.size ≤ 100 := by
 obtain ⟨i, hi, rfl⟩ := List.getElem_of_mem hx
 simp only [zAV, Bool.and_eq_true] at h
 have := zAE.1 h.2 i hi
 simp only [Bool.and_eq_true, zA6 hi] at this
 have h1 := zEh this.1.1
 have h2 := zHe this.1.2
 exact ⟨by omega, by omega⟩
theorem zXV {P : Program} {E : Env} (ms : List (Nat × Nat × List (Nat × Nat))) {i : IN} {K : St → Prop} {s : St} (h : zI6 (zAp P E i K) (zDP ms (True, s))) : zAp P E i K s := zJ9 (zEz (r := (True, s)) (fun _ => Ent.refl s) h.1).2 h.2
theorem zW0 {d : Nat} {rows : List (List T)} {i : Nat} {r : List T} (h1 : zCS d rows) (h2 : ltL d r) : zCS d (rows.set i r) := fun x hx => (List.mem_or_eq_of_mem_set hx).elim (h1 x) fun e => e ▸ h2
theorem zWF {α : Type} [Inhabited α] {f : α → List T} {l : List α} {k : Nat} (h : k < l.length) : (l.map f).set k (f (nth l k)) = l.map f := by
 rw [← List.map_set, zA6 h, List.set_getElem_self]
def zCn : Option State → T
 | none => .tup [.agg (State.row true st0), bl false]
 | some s => .tup [.agg (State.row true s), bl true]
theorem zOC {l : List Held} {t : Int} (hs : zA7 ltI Held.Txn l) (h : hF l t = true) : hI l t < l.length ∧ (nth l (hI l t)).Txn = t := zEO zBO hs h
theorem zMa (l : List Held) (i : Nat) (hi : i < l.length) (hl : l.length ≤ 100) : ACall p_ 257 [.sl true 5 (l.map (Held.row true)), i64 i, i64 ((i : Int) + 1)] (fun r a => r = .sl true 5 ((cutAt l i).map (Held.row true)) ∧ a = [.any, i64 i, i64 ((i : Int) + 1)]) := by
 have hmx := zAf
 have q := zMV l i ((i : Int) + 1) (by omega) (by omega) (by omega) (by omega)
 rwa [show l.take ((i : Int)).toNat ++ l.drop ((i : Int) + 1).toNat = cutAt l i by unfold cutAt; rfl] at q
theorem zTk (l : List Told) (i : Nat) (x : Told) (hi : i ≤ l.length) (hl : l.length ≤ 2 ^ 20) : ACall p_ 258 [.sl true 3 (l.map (Told.row true)), i64 i, .sl false 3 [Told.row false x]] (fun r a => r = .sl true 3 ((putAt l i x).map (Told.row true)) ∧ a = [.any, i64 i, .sl false 3 [Told.row false x]]) := by
 have q := zMY l [x] i (by omega) (by omega) hl (by simp)
 rwa [show l.take ((i : Int)).toNat ++ [x] ++ l.drop ((i : Int)).toNat = putAt l i x by unfold putAt; simp] at q
theorem zTl {n : Nat} (s : State) (r : Rec) (hi : stI n s) (hn : n ≤ 100) (ht : r.Yes = true → 1 ≤ r.Time) : ACall p_ 228 [.agg (State.row false s), .agg (Rec.row false r)] (fun x _ => x = zCn (zBI s r)) := by
 have hmx := zAf
 have hb := hi.b (by omega)
 have hHl := hi.hlen
 have hTl := hi.tlen
 have cFH := zKr s r.Txn (by omega) hi.hsrt
 have hIl : hI s.Held r.Txn ≤ s.Held.length := zDH
 have tIl : tI s.Told r.Txn ≤ s.Told.length := zDH
 have cIT := zTk s.Told (tI s.Told r.Txn) ⟨r.Txn, r.Yes, r.Time⟩ tIl (by omega)
 rw [show putAt s.Told (tI s.Told r.Txn) (⟨r.Txn, r.Yes, r.Time⟩ : Told) = zB0 s r from rfl] at cIT
 have hcl : (zA2 s r).length ≤ 12 := (zJv hi r).1
 have hct : (zB0 s r).length = s.Told.length + 1 := zBH tIl
 cases hY : r.Yes with
 | false =>
  rw [hY] at cIT
  have hD : zBI s r = some ⟨s.Floor, s.Cells, zA2 s r, zB0 s r⟩ := by rw [zBI, hY]; rfl
  rw [hD, zCn]
  have cFT := zHg ⟨s.Floor, s.Cells, zA2 s r, s.Told⟩ r.Txn (by simp only; omega) hi.tsrt
  cases hH : hF s.Held r.Txn with
  | false =>
   rw [hH] at cFH
   have hC : zA2 s r = s.Held := by rw [zA2, hH]; rfl
   rw [hC] at cFT ⊢
   refine fg zMM fun E hE hH => ?_; simp only [go_sem, hE, hH, zK0]
   all_goals (have y1_ := hY; repeat' (first | ((with_reducible apply ga) <;> refine zCO fun h => ?_) | ((with_reducible apply an); · omega) | (refine zBj [true, false, false] ?_; refine zAR ?_; refine cmA (cIT) ?_; refine zAR ?_) | ((first | refine zAa ?_ | refine cvA (zBX s hb) ?_ | refine cvA (cFH) ?_ | refine cvA (cFT) ?_); refine zAR ?_) | (with_reducible first | apply jn | apply both | apply an | exact ti) | exact zES | refine zAR ?_ | exact zCH | refine zCG ?_))
  | true =>
   rw [hH] at cFH
   obtain ⟨k1, k2⟩ := zOC hi.hsrt hH
   have cD := zMa s.Held (hI s.Held r.Txn) k1 (by omega)
   rw [show cutAt s.Held (hI s.Held r.Txn) = zA2 s r by rw [zA2, hH]; rfl] at cD
   refine fg zMM fun E hE hH => ?_; simp only [go_sem, hE, hH, zK0]
   all_goals (have y1_ := hY; repeat' (first | ((with_reducible apply ga) <;> refine zCO fun h => ?_) | ((with_reducible apply an); · omega) | (refine zBj [true, false, false] ?_; refine zAR ?_; refine cmA (cD) ?_; refine zAR ?_) | (refine zBj [true, false, false] ?_; refine zAR ?_; refine cmA (cIT) ?_; refine zAR ?_) | ((first | refine zAa ?_ | refine cvA (zBX s hb) ?_ | refine cvA (cFH) ?_ | refine cvA (cFT) ?_); refine zAR ?_) | (with_reducible first | apply jn | apply both | apply an | exact ti) | exact zES | refine zAR ?_ | exact zCH | refine zCG ?_))
 | true =>
  rw [hY] at cIT
  have ht := ht hY
  cases hH : hF s.Held r.Txn with
  | false =>
   rw [hH] at cFH
   have hD : zBI s r = none := by rw [zBI, hY, hH]; rfl
   rw [hD, zCn]
   refine fg zMM fun E hE hH => ?_; simp only [go_sem, hE, hH, zK0]
   all_goals (have y1_ := hY; repeat' (first | ((with_reducible apply ga) <;> refine zCO fun h => ?_) | ((with_reducible apply an); · omega) | ((first | refine zAa ?_ | refine cvA (zBX s hb) ?_ | refine cvA (cFH) ?_); refine zAR ?_) | (with_reducible first | apply jn | apply both | apply an | exact ti) | exact zES | refine zAR ?_ | exact zCH | refine zCG ?_))
   all_goals rfl
  | true =>
   rw [hH] at cFH
   obtain ⟨k1, k2⟩ := zOC hi.hsrt hH
   have hld := zBQ (hi.hok _ (zAc k1))
   have hI0 := zBC hi.cells
   have cD := zMa s.Held (hI s.Held r.Txn) k1 (by omega)
   rw [show cutAt s.Held (hI s.Held r.Txn) = zA2 s r by rw [zA2, hH]; rfl] at cD
   have hs := fun r => zEb (f := Held.row true) (r := r) k1
   have hset := zWF (f := Held.row true) k1
   simp only [Held.row_eq] at hset
   by_cases hT : r.Time < (nth s.Held (hI s.Held r.Txn)).Time
   ·have hD : zBI s r = none := by rw [zBI, hY, hH, decide_eq_true hT]; rfl
    rw [hD, zCn]
    have hT2 := decide_eq_true hT
    refine fg zMM fun E hE hH => ?_; simp only [go_sem, hE, hH, zK0]
    all_goals (have y1_ := hY; have y2_ := hT2; repeat' (first | ((with_reducible apply ga) <;> refine zDR fun h => ?_) | ((with_reducible apply an); · omega) | ((first | refine zAa ?_ | refine cvA (zBX s hb) ?_ | refine cvA (cFH) ?_); refine zBn ?_) | (with_reducible first | apply jn | apply both | apply an | exact ti) | exact zDT | refine zBn ?_ | exact zDU | refine zDS ?_))
    all_goals first | rfl
   have hT2 := decide_eq_false hT
   have cP := zQH s.Cells (nth s.Held (hI s.Held r.Txn)).Writes r.Time hI0 (fun x hx => zGi hld.2.2.1 hx) (by omega) ht
   cases hP : zHf r.Time s.Cells (nth s.Held (hI s.Held r.Txn)).Writes with
   | none =>
    rw [hP, zWy] at cP
    have hD : zBI s r = none := by rw [zBI, hY, hH, decide_eq_false hT, hP]; rfl
    rw [hD, zCn]
    refine fg zMM fun E hE hH => ?_; simp only [go_sem, hE, hH, zK0]
    all_goals (have y1_ := hY; have y2_ := hT2; have y3_ := hs; have y4_ := hset; repeat' (first | ((with_reducible apply ga) <;> refine zJF fun h => ?_) | ((with_reducible apply an); · omega) | ((first | refine zAa ?_ | refine cvA (zBX s hb) ?_ | refine cvA (cFH) ?_ | refine cvA (cP) ?_); refine zFu ?_) | (with_reducible first | apply jn | apply both | apply an | exact ti) | exact zJH | refine zFu ?_ | exact zJI | refine zJG ?_))
    all_goals try (apply zW0 <;> simp only [go_sem]; done)
    all_goals first | rfl
   | some c =>
    rw [hP, zWy] at cP
    have hD : zBI s r = some ⟨max s.Floor r.Time, c, zA2 s r, zB0 s r⟩ := by rw [zBI, hY, hH, decide_eq_false hT, hP]; rfl
    rw [hD, zCn]
    have hmax : (if r.Time > s.Floor then r.Time else s.Floor) = max s.Floor r.Time := by
     rw [Int.max_def]; split <;> split <;> omega
    have cFT := zHg ⟨max s.Floor r.Time, c, zA2 s r, s.Told⟩ r.Txn (by simp only; omega) hi.tsrt
    refine fg zMM fun E hE hH => ?_; simp only [go_sem, hE, hH, zK0]
    all_goals (have y1_ := hY; have y2_ := hT2; have y3_ := hs; have y4_ := hset; have y5_ := hmax; repeat' (first | ((with_reducible apply ga) <;> refine zK8 fun h => ?_) | ((with_reducible apply an); · omega) | (refine zBj [true, false, false] ?_; refine zDb ?_; refine cmA (cD) ?_; refine zDb ?_) | (refine zBj [true, false, false] ?_; refine zDb ?_; refine cmA (cIT) ?_; refine zDb ?_) | ((first | refine zAa ?_ | refine cvA (zBX s hb) ?_ | refine cvA (cFH) ?_ | refine cvA (cP) ?_ | refine cvA (cFT) ?_); refine zDb ?_) | (with_reducible first | apply jn | apply both | apply an | exact ti) | exact zLa | refine zDb ?_ | exact zLb | refine zK9 ?_))
    all_goals try (apply zW0 <;> simp only [go_sem]; done)
    all_goals first | rfl
theorem zMb (hS : zC2) {n : Nat} (s : State) (r : Rec) (hi : stI n s) (hn : n ≤ 100) (hr : zA8 r = true) : ACall p_ 197 [.agg (State.row false s), .agg (Rec.row false r)] (fun x _ => x = zCn (zAU s r)) := by
 have hmx := zAf
 have hb := hi.b (by omega)
 have hHl := hi.hlen
 have hTl := hi.tlen
 have cFH := zKr s r.Txn (by omega) hi.hsrt
 have cFT := zHg s r.Txn (by omega) hi.tsrt
 have hIl : hI s.Held r.Txn ≤ s.Held.length := zDH
 by_cases h4 : r.Kind = 4
 ·have z1 : decide (r.Kind = 4) = true := decide_eq_true h4
  by_cases hT : r.Time ≤ s.Floor
  ·have z2 := decide_eq_true hT
   have hD : zAU s r = none := by rw [zAU, if_pos h4, if_pos hT]
   rw [hD, zCn]
   refine fg zH7 fun E hE hH => ?_; simp only [go_sem, hE, hH, zHa]
   try simp (disch := omega) only [go_sem, hE, hH, z1, z2]
   all_goals (have y1_ := z1; have y2_ := z2; repeat' (first | ((with_reducible apply ga) <;> refine zDR fun h => ?_) | ((with_reducible apply an); · omega) | (with_reducible first | apply jn | apply both | apply an | exact ti) | exact zDT | refine zBn ?_ | exact zDU | refine zDS ?_))
   all_goals first | rfl
  ·have z2 := decide_eq_false hT
   have hD : zAU s r = some ⟨r.Time, s.Cells, s.Held, s.Told⟩ := by rw [zAU, if_pos h4, if_neg hT]
   rw [hD, zCn]
   refine fg zH7 fun E hE hH => ?_; simp only [go_sem, hE, hH, zHa]
   try simp (disch := omega) only [go_sem, hE, hH, z1, z2]
   all_goals (have y1_ := z1; have y2_ := z2; repeat' (first | ((with_reducible apply ga) <;> refine zDR fun h => ?_) | ((with_reducible apply an); · omega) | ((first | refine zAa ?_ | refine cvA (zBX s hb) ?_); refine zBn ?_) | (with_reducible first | apply jn | apply both | apply an | exact ti) | exact zDT | refine zBn ?_ | exact zDU | refine zDS ?_))
   all_goals first | rfl
 have z1 : decide (r.Kind = 4) = false := decide_eq_false h4
 cases hTF : tF s.Told r.Txn with
 | true =>
  rw [hTF] at cFT
  have hD : zAU s r = none := by rw [zAU, if_neg h4, hTF]; rfl
  rw [hD, zCn]
  refine fg zH7 fun E hE hH => ?_; simp only [go_sem, hE, hH, zHa]
  try simp (disch := omega) only [go_sem, hE, hH, z1]
  all_goals (have y1_ := z1; repeat' (first | ((with_reducible apply ga) <;> refine zCO fun h => ?_) | ((with_reducible apply an); · omega) | ((first | refine zAa ?_ | refine cvA (cFT) ?_); refine zAR ?_) | (with_reducible first | apply jn | apply both | apply an | exact ti) | exact zES | refine zAR ?_ | exact zCH | refine zCG ?_))
  all_goals first | rfl
 | false =>
  rw [hTF] at cFT
  by_cases h1 : r.Kind = 1
  ·have z2 : decide (r.Kind = 1) = true := decide_eq_true h1
   have hld := zBQ (zIf hr h1)
   have hld1 : r.Reads.length ≤ 8 := hld.1
   have hld2 : r.Writes.length ≤ 8 := hld.2.1
   have cF := zXU hS s r.Reads r.Writes hi (by omega) (by omega) (zHD hld.2.2.1)
   cases hHF : hF s.Held r.Txn with
   | true =>
    rw [hHF] at cFH
    have hD : zAU s r = none := by rw [zAU, if_neg h4, hTF, if_neg (by simp), if_neg (by simp [h1]), hHF]; rfl
    rw [hD, zCn]
    refine fg zH7 fun E hE hH => ?_; simp only [go_sem, hE, hH, zHa]
    try simp (disch := omega) only [go_sem, hE, hH, z1, z2]
    all_goals (have y1_ := z1; have y2_ := z2; repeat' (first | ((with_reducible apply ga) <;> refine zDR fun h => ?_) | ((with_reducible apply an); · omega) | ((first | refine zAa ?_ | refine cvA (cFT) ?_ | refine cvA (cFH) ?_); refine zBn ?_) | (with_reducible first | apply jn | apply both | apply an | exact ti) | exact zDT | refine zBn ?_ | exact zDU | refine zDS ?_))
    all_goals first | rfl
   | false =>
    rw [hHF] at cFH
    by_cases hT : r.Time ≤ s.Floor
    ·have z3 := decide_eq_true hT
     have hD : zAU s r = none := by rw [zAU, if_neg h4, hTF, if_neg (by simp), if_neg (by simp [h1]), hHF, z3]; rfl
     rw [hD, zCn]
     refine fg zH7 fun E hE hH => ?_; simp only [go_sem, hE, hH, zHa]
     try simp (disch := omega) only [go_sem, hE, hH, z1, z2, z3]
     all_goals (have y1_ := z1; have y2_ := z2; have y3_ := z3; repeat' (first | ((with_reducible apply ga) <;> refine zGn fun h => ?_) | ((with_reducible apply an); · omega) | ((first | refine zAa ?_ | refine cvA (cFT) ?_ | refine cvA (cFH) ?_); refine zB7 ?_) | (with_reducible first | apply jn | apply both | apply an | exact ti) | exact zHj | refine zB7 ?_ | exact zGp | refine zGo ?_))
     all_goals first | rfl
    have z3 := decide_eq_false hT
    cases hFt : zCV s r.Reads r.Writes with
    | false =>
     rw [hFt] at cF
     have hD : zAU s r = none := by rw [zAU, if_neg h4, hTF, if_neg (by simp), if_neg (by simp [h1]), hHF, z3, hFt]; rfl
     rw [hD, zCn]
     refine fg zH7 fun E hE hH => ?_; simp only [go_sem, hE, hH, zHa]
     try simp (disch := omega) only [go_sem, hE, hH, z1, z2, z3]
     all_goals (have y1_ := z1; have y2_ := z2; have y3_ := z3; repeat' (first | ((with_reducible apply ga) <;> refine zGn fun h => ?_) | ((with_reducible apply an); · omega) | ((first | refine zAa ?_ | refine cvA (cFT) ?_ | refine cvA (cFH) ?_ | refine cvA (cF) ?_); refine zB7 ?_) | (with_reducible first | apply jn | apply both | apply an | exact ti) | exact zHj | refine zB7 ?_ | exact zGp | refine zGo ?_))
     all_goals first | rfl
    | true =>
     rw [hFt] at cF
     have hD : zAU s r = some ⟨r.Time, s.Cells, putAt s.Held (hI s.Held r.Txn) (hOf r), s.Told⟩ := by rw [zAU, if_neg h4, hTF, if_neg (by simp), if_neg (by simp [h1]), hHF, z3, hFt]; rfl
     rw [hD, zCn]
     have cI := zMX s.Held (hOf r) (hI s.Held r.Txn) (by omega) (by omega) (by omega)
     refine fg zH7 fun E hE hH => ?_; simp only [go_sem, hE, hH, zHa]
     try simp (disch := omega) only [go_sem, hE, hH, z1, z2, z3]
     all_goals (have y1_ := z1; have y2_ := z2; have y3_ := z3; repeat' (first | ((with_reducible apply ga) <;> refine zGn fun h => ?_) | ((with_reducible apply an); · omega) | (refine zXV [(76, 1, [(3, 1), (4, 3)])] ?_; refine zB7 ?_; refine zBj [true, false, true] ?_; refine zB7 ?_; refine cmA (cI) ?_; refine zB7 ?_) | ((first | refine zAa ?_ | refine cvA (cFT) ?_ | refine cvA (cFH) ?_ | refine cvA (cF) ?_ | refine cvA (zBX s hb) ?_ | refine cvA (zNW r (by omega) (by omega)) ?_); refine zB7 ?_) | (with_reducible first | apply jn | apply both | apply an | exact ti) | exact zHj | refine zB7 ?_ | exact zGp | refine zGo ?_))
     all_goals first | rfl
  ·have z2 : decide (r.Kind = 1) = false := decide_eq_false h1
   have hD : zAU s r = zBI s r := by rw [zAU, if_neg h4, hTF, if_neg (by simp), if_pos h1]
   rw [hD]
   have hY : r.Yes = true → 1 ≤ r.Time := fun hY => by
    simp only [zA8, h1, h4, if_false, hY] at hr
    split at hr
    ·simp only [Bool.and_eq_true, Bool.or_eq_true, zBy, Bool.not_true, Bool.false_and, Bool.true_and, Bool.false_eq_true, or_false] at hr
     omega
    ·cases hr
   have cDec := zTl s r hi hn hY
   cases hdec : zBI s r with
   | none =>
    rw [hdec, zCn] at cDec
    rw [zCn]
    refine fg zH7 fun E hE hH => ?_; simp only [go_sem, hE, hH, zHa]
    try simp (disch := omega) only [go_sem, hE, hH, z1, z2]
    all_goals (have y1_ := z1; have y2_ := z2; repeat' (first | ((with_reducible apply ga) <;> refine zDR fun h => ?_) | ((with_reducible apply an); · omega) | ((first | refine zAa ?_ | refine cvA (cFT) ?_ | refine cvA (cDec) ?_); refine zBn ?_) | (with_reducible first | apply jn | apply both | apply an | exact ti) | exact zDT | refine zBn ?_ | exact zDU | refine zDS ?_))
    all_goals first | rfl
   | some q =>
    rw [hdec, zCn] at cDec
    rw [zCn]
    refine fg zH7 fun E hE hH => ?_; simp only [go_sem, hE, hH, zHa]
    try simp (disch := omega) only [go_sem, hE, hH, z1, z2]
    all_goals (have y1_ := z1; have y2_ := z2; repeat' (first | ((with_reducible apply ga) <;> refine zDR fun h => ?_) | ((with_reducible apply an); · omega) | ((first | refine zAa ?_ | refine cvA (cFT) ?_ | refine cvA (cDec) ?_); refine zBn ?_) | (with_reducible first | apply jn | apply both | apply an | exact ti) | exact zDT | refine zBn ?_ | exact zDU | refine zDS ?_))
    all_goals first | rfl
def tPl (l : List Told) (t : Int) : Nat := dnI (fun y : Told => ltI t y.Txn) l l.length
def hPl (l : List Held) (t : Int) : Nat := dnI (fun y : Held => ltI t y.Txn) l l.length
theorem zAaU {l : List Told} (hs : zA7 ltI Told.Txn l) {x : Told} (h : tF l x.Txn = false) : tPl l x.Txn = tI l x.Txn := zLP (f := Told.Txn) zBO hs h
theorem zAaV {l : List Held} (hs : zA7 ltI Held.Txn l) {x : Held} (h : hF l x.Txn = false) : hPl l x.Txn = hI l x.Txn := zLP (f := Held.Txn) zBO hs h
theorem zOo (l : List Told) (t : Told) (hl : l.length ≤ 2 ^ 20) : ACall p_ 218 [.sl false 3 (l.map (Told.row false)), .agg (Told.row false t)] (fun r _ => r = .sl true 3 ((putAt l (tPl l t.Txn) t).map (Told.row true))) := by
 have hmx := zAf
 refine fg H218 fun E hE hH => ?_; simp only [go_sem, hE, hH, zZY]
 try refine st ?_; try exact ⟨⟩
 refine zJU (fun (k : Nat) => ⟨[(0, .sl false 3 (l.map (Told.row false))), (3, .ptr 4000000 0 0), (5, i64 k)], [(4000000, ⟨3, [Told.row false t]⟩)]⟩) (fun k => k ≤ l.length ∧ ∀ i, k ≤ i → i < l.length → ltI t.Txn (nth l i).Txn = true) (fun k => k) l.length ⟨Nat.le_refl _, fun i a b => absurd b (by omega)⟩ ?_
 rintro k ⟨hk, hK⟩
 have e1 : ((k : Int) - 1).toNat = k - 1 := by omega
 by_cases hgo : k ≠ 0 ∧ ltI t.Txn (nth l (k - 1)).Txn = true
 ·obtain ⟨hk0, hq⟩ := hgo
  have e2 : decide ((0 : Int) < (k : Int)) = true := decide_eq_true (by omega)
  have e3 : decide (t.Txn < (nth l (k - 1)).Txn) = true := hq
  try simp only [go_sem, hE, hH, e1, e2, e3, zJ0]
  all_goals (have y1_ := e1; have y2_ := e2; have y3_ := e3; repeat' (first | ((with_reducible apply ga) <;> refine zGn fun h => ?_) | ((with_reducible apply an); · omega) | (with_reducible first | apply jn | apply both | apply an | exact ti) | exact zHj | refine zB7 ?_ | exact zGp | refine zGo ?_))
  all_goals first | omega | (refine ⟨k - 1, ?_, ⟨by omega, fun i a b => ?_⟩, by omega⟩)
  ·rw [show ((k - 1 : Nat) : Int) = (k : Int) - 1 by omega]
  ·by_cases e : i = k - 1
   ·rw [e]; exact hq
   ·exact hK i (by omega) b
 have hd : tPl l t.Txn = k := zFi hk hK (by
  by_cases e : k = 0
  ·exact .inl e
  ·right
   cases q : ltI t.Txn (nth l (k - 1)).Txn with
   | false => rfl
   | true => exact absurd ⟨e, q⟩ hgo)
 rw [hd]
 have d1 : (l.drop k).take (l.length - k) = l.drop k := List.take_of_length_le (by simp)
 have lt1 : (l.take k).length = k := by rw [List.length_take]; omega
 have d2 : (l.take k).take k = l.take k := by rw [List.take_take, Nat.min_self]
 have d3 : ∀ (f : Told → List T) q, ((l.take k).map f ++ [q]).take (k + 1) = (l.take k).map f ++ [q] := fun f q => List.take_of_length_le (by simp; omega)
 have hdx : (l.drop k).length = l.length - k := by simp
 by_cases hk0 : k = 0
 ·subst hk0
  have fC : decide ((0 : Int) < ((0 : Nat) : Int)) = false := rfl
  have fD : decide ((0 : Int) < (0 : Int)) = false := rfl
  try simp only [go_sem, hE, hH, fC, fD, d1, d2, d3, hdx, zJ0]
  all_goals (have y1_ := fC; have y2_ := fD; have y3_ := d1; have y4_ := d2; have y5_ := d3; have y6_ := hdx; repeat' (first | ((with_reducible apply ga) <;> refine zIi fun h => ?_) | ((with_reducible apply an); · omega) | (with_reducible first | apply jn | apply both | apply an | exact ti) | exact zIk | refine zDd ?_ | exact zIl | refine zIj ?_))
  all_goals first | omega | (simp only [putAt, List.map_append, List.map_cons, List.take_zero, List.drop_zero, List.nil_append, List.append_assoc, List.cons_append]; rfl)
 ·have fC : decide ((0 : Int) < (k : Int)) = true := decide_eq_true (by omega)
  have fE : decide (t.Txn < (nth l (k - 1)).Txn) = false := by
   cases q : ltI t.Txn (nth l (k - 1)).Txn with
   | false => exact q
   | true => exact absurd ⟨hk0, q⟩ hgo
  try simp only [go_sem, hE, hH, e1, fC, fE, d1, d2, d3, hdx, lt1, zJ0]
  repeat' (first | ((with_reducible first | refine zAg ?_ ?_ | refine zAh ?_ ?_) <;> (intro h; have hb := h; (try simp only [nf] at h); simp (disch := omega) only [go_sem, hE, hH, e1, fC, fE, d1, d2, d3, hdx, lt1, hb]; (try clear hb))) | ((with_reducible refine And.intro ?_ ?_); · omega) | (with_reducible first | apply jn | apply both | refine And.intro ?_ ?_) | ((with_reducible apply zA4); (try (simp (disch := omega) only [go_sem, hE, hH, e1, fC, fE, d1, d2, d3, hdx, lt1])); first | done | rfl) | (simp (disch := omega) only [go_sem, hE, hH, e1, fC, fE, d1, d2, d3, hdx, lt1]) | ((first | apply zAN | apply zBs) <;> (simp only [go_sem, hE, hH, e1, fC, fE, d1, d2, d3, hdx, lt1]; done)) | (simp only [go_sem, hE, hH, e1, fC, fE, d1, d2, d3, hdx, lt1]) | fail)
  all_goals first | omega | (simp only [putAt, List.map_append, List.map_cons, List.take_zero, List.drop_zero, List.nil_append, List.append_assoc, List.cons_append]; rfl)
theorem zOp (l : List Held) (t : Held) (hl : l.length ≤ 2 ^ 20) : ACall p_ 212 [.sl false 5 (l.map (Held.row false)), .agg (Held.row false t)] (fun r _ => r = .sl true 5 ((putAt l (hPl l t.Txn) t).map (Held.row false))) := by
 have hmx := zAf
 refine fg H212 fun E hE hH => ?_; simp only [go_sem, hE, hH, zZS]
 try refine st ?_; try exact ⟨⟩
 refine zJU (fun (k : Nat) => ⟨[(0, .sl false 5 (l.map (Held.row false))), (3, .ptr 4000000 0 0), (5, i64 k)], [(4000000, ⟨5, [Held.row false t]⟩)]⟩) (fun k => k ≤ l.length ∧ ∀ i, k ≤ i → i < l.length → ltI t.Txn (nth l i).Txn = true) (fun k => k) l.length ⟨Nat.le_refl _, fun i a b => absurd b (by omega)⟩ ?_
 rintro k ⟨hk, hK⟩
 have e1 : ((k : Int) - 1).toNat = k - 1 := by omega
 by_cases hgo : k ≠ 0 ∧ ltI t.Txn (nth l (k - 1)).Txn = true
 ·obtain ⟨hk0, hq⟩ := hgo
  have e2 : decide ((0 : Int) < (k : Int)) = true := decide_eq_true (by omega)
  have e3 : decide (t.Txn < (nth l (k - 1)).Txn) = true := hq
  try simp only [go_sem, hE, hH, e1, e2, e3, zJZ]
  all_goals (have y1_ := e1; have y2_ := e2; have y3_ := e3; repeat' (first | ((with_reducible apply ga) <;> refine zGn fun h => ?_) | ((with_reducible apply an); · omega) | (with_reducible first | apply jn | apply both | apply an | exact ti) | exact zHj | refine zB7 ?_ | exact zGp | refine zGo ?_))
  all_goals first | omega | (refine ⟨k - 1, ?_, ⟨by omega, fun i a b => ?_⟩, by omega⟩)
  ·rw [show ((k - 1 : Nat) : Int) = (k : Int) - 1 by omega]
  ·by_cases e : i = k - 1
   ·rw [e]; exact hq
   ·exact hK i (by omega) b
 have hd : hPl l t.Txn = k := zFi hk hK (by
  by_cases e : k = 0
  ·exact .inl e
  ·right
   cases q : ltI t.Txn (nth l (k - 1)).Txn with
   | false => rfl
   | true => exact absurd ⟨e, q⟩ hgo)
 rw [hd]
 have d1 : (l.drop k).take (l.length - k) = l.drop k := List.take_of_length_le (by simp)
 have lt1 : (l.take k).length = k := by rw [List.length_take]; omega
 have d2 : (l.take k).take k = l.take k := by rw [List.take_take, Nat.min_self]
 have d3 : ∀ (f : Held → List T) q, ((l.take k).map f ++ [q]).take (k + 1) = (l.take k).map f ++ [q] := fun f q => List.take_of_length_le (by simp; omega)
 have hdx : (l.drop k).length = l.length - k := by simp
 by_cases hk0 : k = 0
 ·subst hk0
  have fC : decide ((0 : Int) < ((0 : Nat) : Int)) = false := rfl
  have fD : decide ((0 : Int) < (0 : Int)) = false := rfl
  try simp only [go_sem, hE, hH, fC, fD, d1, d2, d3, hdx, zJZ]
  all_goals (have y1_ := fC; have y2_ := fD; have y3_ := d1; have y4_ := d2; have y5_ := d3; have y6_ := hdx; repeat' (first | ((with_reducible apply ga) <;> refine zIi fun h => ?_) | ((with_reducible apply an); · omega) | (with_reducible first | apply jn | apply both | apply an | exact ti) | exact zIk | refine zDd ?_ | exact zIl | refine zIj ?_))
  all_goals first | omega | (simp only [putAt, List.map_append, List.map_cons, List.take_zero, List.drop_zero, List.nil_append, List.append_assoc, List.cons_append]; rfl)
 ·have fC : decide ((0 : Int) < (k : Int)) = true := decide_eq_true (by omega)
  have fE : decide (t.Txn < (nth l (k - 1)).Txn) = false := by
   cases q : ltI t.Txn (nth l (k - 1)).Txn with
   | false => exact q
   | true => exact absurd ⟨hk0, q⟩ hgo
  have g3 : ∀ (f : Held → List T) q, ((l.take k).map f ++ [q] ++ (l.drop k).map f).getD k [] = q := fun f q => by
   have ea : ((l.take k).map f).length = k := by rw [List.length_map, lt1]
   rw [List.append_assoc, List.getD_eq_getElem?_getD, List.getElem?_append_right (by omega), ea, Nat.sub_self]; rfl
  try simp only [go_sem, hE, hH, e1, fC, fE, d1, d2, d3, hdx, lt1, g3, zJZ]
  repeat' (first | ((with_reducible first | refine zAg ?_ ?_ | refine zAh ?_ ?_) <;> (intro h; have hb := h; (try simp only [nf] at h); simp (disch := omega) only [go_sem, hE, hH, e1, fC, fE, d1, d2, d3, hdx, lt1, g3, hb]; (try clear hb))) | ((with_reducible refine And.intro ?_ ?_); · omega) | (with_reducible first | apply jn | apply both | refine And.intro ?_ ?_) | ((with_reducible apply zA4); (try (simp (disch := omega) only [go_sem, hE, hH, e1, fC, fE, d1, d2, d3, hdx, lt1, g3])); first | done | rfl) | (simp (disch := omega) only [go_sem, hE, hH, e1, fC, fE, d1, d2, d3, hdx, lt1, g3]) | ((first | apply zAN | apply zBs) <;> (simp only [go_sem, hE, hH, e1, fC, fE, d1, d2, d3, hdx, lt1, g3]; done)) | (simp only [go_sem, hE, hH, e1, fC, fE, d1, d2, d3, hdx, lt1, g3]) | fail)
  all_goals first | omega | (simp only [putAt, List.map_append, List.map_cons, List.take_zero, List.drop_zero, List.nil_append, List.append_assoc, List.cons_append]; rfl)
theorem zTm (l : List Held) (t : Int) (hl : l.length ≤ 2 ^ 20) : ACall p_ 217 [.sl false 5 (l.map (Held.row false)), i64 t] (fun r _ => r = .sl true 5 ((l.filter fun x => !decide (x.Txn = t)).map (Held.row false))) := by
 have hmx := zAf
 refine fg H217 fun E hE hH => ?_; simp only [go_sem, hE, hH, zZX]
 refine zAs l.length (fun j (x : List Held) => ⟨[(1, i64 t), (5, .ref 6000000 0 x.length), (8, .sl false 5 (l.map (Held.row false))), (9, i64 l.length), (10, i64 j)], [(6000000, ⟨5, x.map (Held.row false)⟩)]⟩) (fun j x => x = (l.take j).filter fun x => !decide (x.Txn = t)) [] rfl ?_
 intro j x hj hx
 have hxl : x.length ≤ j := by
  have h1 : x.length ≤ (l.take j).length := by rw [hx]; exact List.length_filter_le _ _
  rw [List.length_take] at h1; omega
 have hxt : x.take x.length = x := List.take_length
 try simp only [go_sem, hE, hH, zRt]
 first | refine zAg (fun h => ?_) (fun h => ?_) | refine zAh (fun h => ?_) (fun h => ?_)
 ·have hb := h
  simp only [nf] at h
  have hlt := h; clear h
  try refine sb ?_; try exact ⟨⟩
  repeat' (first | ((with_reducible apply ga) <;> refine gs fun h => ?_) | ((with_reducible apply an); · omega) | (with_reducible first | apply jn | apply both | apply an | exact ti) | exact fj | refine st ?_ | exact fm | refine s1 ?_)
  all_goals try omega
  ·have e : (l.take (j + 1)).filter (fun x => !decide (x.Txn = t)) = x ++ [nth l j] := by
    rw [zAD hlt, List.filter_append, ← hx]
    simp [h]
   rw [e, List.length_append, List.map_append]
   rfl
  ·have e : (l.take (j + 1)).filter (fun x => !decide (x.Txn = t)) = x := by
    rw [zAD hlt, List.filter_append, ← hx]
    simp [h]
   rw [e]
   rfl
 ·try simp (disch := omega) only [go_sem, hE, hH, h]
  simp only [nf] at h
  rw [show j = l.length by omega, List.take_length] at hx
  subst hx
  rfl
theorem ACall.dshN {P : Program} {f : Nat} {args : List T} {α : Type} {X : α → T} {C : α → Prop} (h : ACall P f args (fun r _ => ∃ q, zAS r.dsh (X q) ∧ C q)) : ACall P f args (fun r _ => ∃ q, r = X q ∧ C q) := by
 refine ACall.nil (h.dshR.mono ?_)
 rintro r l ⟨r0, ⟨q, h1, h2⟩, rfl⟩
 exact ⟨X q, h1, q, rfl, h2⟩
def zBR (q : State) (b : Bool) : T := .tup [.agg (State.row false q), bl b]
theorem zGN {C : State → Prop} {r : T} {l : List T} {b : Bool} (q : State) (h : zAS r.dsh (zBR q b)) (hC : C q) : zEC (fun r _ => ∃ q, zAS r.dsh (zBR q b) ∧ C q) r l := zXu ⟨q, h, hC⟩
theorem zCy {C : State → Prop} {r : T} {l : List T} {b : Bool} (q : State) (b0 : Bool) (h : zAS r.dsh (zBR q b0)) (hb : b0 = b) (hC : C q) : zEC (fun r _ => ∃ q, zAS r.dsh (zBR q b) ∧ C q) r l := zGN q (hb ▸ h) hC
theorem zM8 {n : Nat} {s : State} {r : Rec} (hi : stI n s) : zA2 s r = s.Held.filter fun x => !decide (x.Txn = r.Txn) := by
 unfold zA2
 cases hH : hF s.Held r.Txn with
 | true =>
  obtain ⟨k1, k2⟩ := zOC hi.hsrt hH
  rw [if_pos rfl, zPB (f := Held.Txn) zBO hi.hsrt k1, k2]
 | false =>
  rw [if_neg (by simp)]
  symm
  rw [List.filter_eq_self]
  intro x hx
  rw [hF, fxF, List.any_eq_false] at hH
  simpa using hH x hx
theorem zKs {n : Nat} (s : State) (r : Rec) (hi : stI n s) (hn : n ≤ 100) (hr : zA8 r = true) : ACall p_ 186 [.agg (State.row false s), .agg (Rec.row false r)] (fun x _ => ∃ q, x = zBR q (zAU s r).isSome ∧ ∀ s', zAU s r = some s' → q = s') := by
 have hmx := zAf
 have hb := hi.b (by omega)
 have hHl := hi.hlen
 have hTl := hi.tlen
 have cO := zU5 s hb
 have cFH := zP1 s r.Txn (by omega) hi.hsrt
 have cFT := zP2 s r.Txn (by omega) hi.tsrt
 refine ACall.dshN (X := fun q => zBR q (zAU s r).isSome) ?_
 by_cases h4 : r.Kind = 4
 ·have z1 : decide (r.Kind = 4) = true := decide_eq_true h4
  have hD : zAU s r = if r.Time ≤ s.Floor then none else some ⟨r.Time, s.Cells, s.Held, s.Told⟩ := by rw [zAU, if_pos h4]
  refine fg zH6 fun E hE hH => ?_; simp only [go_sem, hE, hH, zG9]
  try simp (disch := omega) only [go_sem, hE, hH, z1]
  all_goals (have y1_ := z1; repeat' (first | ((with_reducible apply ga) <;> refine zCO fun h => ?_) | ((with_reducible apply an); · omega) | ((first | refine zAa ?_ | refine cvA (cO) ?_ | refine cvA (cFH) ?_ | refine cvA (cFT) ?_); refine zAR ?_) | (with_reducible first | apply jn | apply both | apply an | exact ti) | exact zES | refine zAR ?_ | exact zCH | refine zCG ?_))
  by_cases hT : r.Time ≤ s.Floor
  ·rw [if_pos hT] at hD
   refine zGN ⟨r.Time, s.Cells, s.Held, s.Told⟩ ?_ (fun s' e => by rw [hD] at e; cases e)
   rw [hD, zBR, decide_eq_false (by omega)]
   simp only [go_sem]
   (repeat' apply And.intro) <;> rfl
  ·rw [if_neg hT] at hD
   refine zGN ⟨r.Time, s.Cells, s.Held, s.Told⟩ ?_ (fun s' e => by rw [hD] at e; injection e)
   rw [hD, zBR, decide_eq_true (by omega)]
   simp only [go_sem]
   (repeat' apply And.intro) <;> rfl
 have z1 : decide (r.Kind = 4) = false := decide_eq_false h4
 cases hTF : tF s.Told r.Txn with
 | true =>
  rw [hTF] at cFT
  have hD : zAU s r = none := by rw [zAU, if_neg h4, hTF]; rfl
  refine fg zH6 fun E hE hH => ?_; simp only [go_sem, hE, hH, zG9]
  try simp (disch := omega) only [go_sem, hE, hH, z1]
  all_goals (have y1_ := z1; repeat' (first | ((with_reducible apply ga) <;> refine zCO fun h => ?_) | ((with_reducible apply an); · omega) | ((first | refine zAa ?_ | refine cvA (cO) ?_ | refine cvA (cFH) ?_ | refine cvA (cFT) ?_); refine zAR ?_) | (with_reducible first | apply jn | apply both | apply an | exact ti) | exact zES | refine zAR ?_ | exact zCH | refine zCG ?_))
  refine zGN s ?_ (fun s' e => by rw [hD] at e; cases e)
  rw [hD, zBR]
  simp only [go_sem]
  (repeat' apply And.intro) <;> rfl
 | false =>
  rw [hTF] at cFT
  by_cases h1 : r.Kind = 1
  ·have z2 : decide (r.Kind = 1) = true := decide_eq_true h1
   have hld := zBQ (zIf hr h1)
   have hld1 : r.Reads.length ≤ 8 := hld.1
   have hld2 : r.Writes.length ≤ 8 := hld.2.1
   have cF := zTj s r.Reads r.Writes hi (by omega) (by omega)
   have hA : zAU s r = if (hF s.Held r.Txn || decide (r.Time ≤ s.Floor) || !zCV s r.Reads r.Writes) = true then none else some ⟨r.Time, s.Cells, putAt s.Held (hI s.Held r.Txn) (hOf r), s.Told⟩ := by rw [zAU, if_neg h4, hTF, if_neg (by simp), if_neg (by simp [h1])]
   have hQ : ∀ s', zAU s r = some s' → (⟨r.Time, s.Cells, putAt s.Held (hPl s.Held r.Txn) (hOf r), s.Told⟩ : State) = s' := by
    intro s' e
    rw [hA] at e
    split at e
    ·cases e
    ·rename_i hcond
     injection e with e
     have hh : hF s.Held r.Txn = false := by
      cases q : hF s.Held r.Txn with
      | false => rfl
      | true => rw [q] at hcond; simp at hcond
     rw [← e, show hPl s.Held r.Txn = hI s.Held r.Txn from zAaV (x := hOf r) hi.hsrt hh]
   have cPH : ACall p_ 212 [.sl true 5 (s.Held.map (Held.row true)), .agg (Held.row true (hOf r))] (fun x l => x = .sl true 5 ((putAt s.Held (hPl s.Held r.Txn) (hOf r)).map (Held.row false)) ∧ l = [.any, .any]) := zPr (zOp s.Held (hOf r) (by omega)) (by simp only [go_sem]; rfl) rfl
   refine fg zH6 fun E hE hH => ?_; simp only [go_sem, hE, hH, zG9]
   try simp (disch := omega) only [go_sem, hE, hH, z1, z2]
   all_goals (have y1_ := z1; have y2_ := z2; repeat' (first | ((with_reducible apply ga) <;> refine zDR fun h => ?_) | ((with_reducible apply an); · omega) | (refine zBj [true, true] ?_; refine zBn ?_; refine cmA (cPH) ?_; refine zBn ?_) | ((first | refine zAa ?_ | refine cvA (cO) ?_ | refine cvA (cFH) ?_ | refine cvA (cFT) ?_ | refine cvA (zFo _ (by omega)) ?_ | refine cvA (cF) ?_); refine zBn ?_) | (with_reducible first | apply jn | apply both | apply an | exact ti) | exact zDT | refine zBn ?_ | exact zDU | refine zDS ?_))
   ·refine zCy ⟨r.Time, s.Cells, putAt s.Held (hPl s.Held r.Txn) (hOf r), s.Told⟩ (zCV s r.Reads r.Writes) ?_ ?_ hQ
    ·(rw [zBR]; simp only [go_sem]; (repeat' apply And.intro) <;> rfl)
    ·rw [hA]
     cases hq : zCV s r.Reads r.Writes <;> (split <;> simp_all <;> omega)
   all_goals (
    refine zCy ⟨r.Time, s.Cells, putAt s.Held (hPl s.Held r.Txn) (hOf r), s.Told⟩ false ?_ ?_ hQ
    ·(rw [zBR]; simp only [go_sem]; (repeat' apply And.intro) <;> rfl)
    ·rw [hA]
     split <;> simp_all <;> omega)
  ·have z2 : decide (r.Kind = 1) = false := decide_eq_false h1
   have hD : zAU s r = zBI s r := by rw [zAU, if_neg h4, hTF, if_neg (by simp), if_pos h1]
   have hpt : tPl s.Told r.Txn = tI s.Told r.Txn := zAaU (x := (⟨r.Txn, r.Yes, r.Time⟩ : Told)) hi.tsrt hTF
   have cPT := zOo s.Told ⟨r.Txn, r.Yes, r.Time⟩ (by omega)
   rw [show (⟨r.Txn, r.Yes, r.Time⟩ : Told).Txn = r.Txn from rfl, hpt, show putAt s.Told (tI s.Told r.Txn) (⟨r.Txn, r.Yes, r.Time⟩ : Told) = zB0 s r from rfl] at cPT
   have cLs : ACall p_ 217 [.sl true 5 (s.Held.map (Held.row true)), i64 r.Txn] (fun x l => x = .sl true 5 ((zA2 s r).map (Held.row false)) ∧ l = [.any, .any]) := by
    rw [zM8 hi]
    exact zPr (zTm s.Held r.Txn (by omega)) (by simp only [go_sem]; rfl) rfl
   have hcl : (zA2 s r).length ≤ 12 := (zJv hi r).1
   cases hY : r.Yes with
   | false =>
    rw [hY] at cPT
    have hE2 : zBI s r = some ⟨s.Floor, s.Cells, zA2 s r, zB0 s r⟩ := by rw [zBI, hY]; rfl
    rw [hE2] at hD
    refine fg zH6 fun E hE hH => ?_; simp only [go_sem, hE, hH, zG9]
    try simp (disch := omega) only [go_sem, hE, hH, z1, z2, hY]
    all_goals (have y1_ := z1; have y2_ := z2; have y3_ := hY; repeat' (first | ((with_reducible apply ga) <;> refine zGn fun h => ?_) | ((with_reducible apply an); · omega) | (refine zBj [true, false] ?_; refine zB7 ?_; refine cmA (cLs) ?_; refine zB7 ?_) | ((first | refine zAa ?_ | refine cvA (cO) ?_ | refine cvA (cFH) ?_ | refine cvA (cFT) ?_ | refine cvA (cPT) ?_); refine zB7 ?_) | (with_reducible first | apply jn | apply both | apply an | exact ti) | exact zHj | refine zB7 ?_ | exact zGp | refine zGo ?_))
    refine zCy ⟨s.Floor, s.Cells, zA2 s r, zB0 s r⟩ true ?_ (by rw [hD]; rfl) (fun s' e => by rw [hD] at e; injection e)
    (rw [zBR]; simp only [go_sem]; (repeat' apply And.intro) <;> rfl)
   | true =>
    rw [hY] at cPT
    have hTm : 1 ≤ r.Time := by
     simp only [zA8, h1, h4, if_false, hY] at hr
     split at hr
     ·simp only [Bool.and_eq_true, Bool.or_eq_true, zBy, Bool.not_true, Bool.false_and, Bool.true_and, Bool.false_eq_true, or_false] at hr
      omega
     ·cases hr
    cases hH : hF s.Held r.Txn with
    | false =>
     rw [hH] at cFH
     have hE2 : zBI s r = none := by rw [zBI, hY, hH]; rfl
     rw [hE2] at hD
     refine fg zH6 fun E hE hH => ?_; simp only [go_sem, hE, hH, zG9]
     try simp (disch := omega) only [go_sem, hE, hH, z1, z2, hY]
     all_goals (have y1_ := z1; have y2_ := z2; have y3_ := hY; repeat' (first | ((with_reducible apply ga) <;> refine zGn fun h => ?_) | ((with_reducible apply an); · omega) | ((first | refine zAa ?_ | refine cvA (cO) ?_ | refine cvA (cFH) ?_ | refine cvA (cFT) ?_); refine zB7 ?_) | (with_reducible first | apply jn | apply both | apply an | exact ti) | exact zHj | refine zB7 ?_ | exact zGp | refine zGo ?_))
     refine zCy s false ?_ (by rw [hD]; rfl) (fun s' e => by rw [hD] at e; cases e)
     (rw [zBR]; simp only [go_sem]; (repeat' apply And.intro) <;> rfl)
    | true =>
     rw [hH] at cFH
     obtain ⟨k1, k2⟩ := zOC hi.hsrt hH
     have hld := zBQ (hi.hok _ (zAc k1))
     have hI0 := zBC hi.cells
     have hN : zM7 s.Held r.Txn = nth s.Held (hI s.Held r.Txn) := by rw [zM7, hH, if_pos rfl]
     rw [hN] at cFH
     by_cases hT : r.Time < (nth s.Held (hI s.Held r.Txn)).Time
     ·have hE2 : zBI s r = none := by rw [zBI, hY, hH, decide_eq_true hT]; rfl
      rw [hE2] at hD
      have hT2 := decide_eq_true hT
      refine fg zH6 fun E hE hH => ?_; simp only [go_sem, hE, hH, zG9]
      try simp (disch := omega) only [go_sem, hE, hH, z1, z2, hY, hT2]
      all_goals (have y1_ := z1; have y2_ := z2; have y3_ := hY; have y4_ := hT2; repeat' (first | ((with_reducible apply ga) <;> refine zJF fun h => ?_) | ((with_reducible apply an); · omega) | ((first | refine zAa ?_ | refine cvA (cO) ?_ | refine cvA (cFH) ?_ | refine cvA (cFT) ?_); refine zFu ?_) | (with_reducible first | apply jn | apply both | apply an | exact ti) | exact zJH | refine zFu ?_ | exact zJI | refine zJG ?_))
      refine zCy s false ?_ (by rw [hD]; rfl) (fun s' e => by rw [hD] at e; cases e)
      (rw [zBR]; simp only [go_sem]; (repeat' apply And.intro) <;> rfl)
     have hT2 := decide_eq_false hT
     have cP := zWA s.Cells (nth s.Held (hI s.Held r.Txn)).Writes r.Time hI0 (fun x hx => zGi hld.2.2.1 hx) (by omega) hTm
     cases hP : zDr r.Time (nth s.Held (hI s.Held r.Txn)).Writes (some s.Cells) with
     | none =>
      rw [hP] at cP
      simp only [zTd] at cP
      have hE2 : zBI s r = none := by rw [zBI, hY, hH, hT2, zHf, hP]; rfl
      rw [hE2] at hD
      refine fg zH6 fun E hE hH => ?_; simp only [go_sem, hE, hH, zG9]
      try simp (disch := omega) only [go_sem, hE, hH, z1, z2, hY, hT2]
      all_goals (have y1_ := z1; have y2_ := z2; have y3_ := hY; have y4_ := hT2; repeat' (first | ((with_reducible apply ga) <;> refine zJF fun h => ?_) | ((with_reducible apply an); · omega) | ((first | refine zAa ?_ | refine cvA (cO) ?_ | refine cvA (cFH) ?_ | refine cvA (cFT) ?_ | refine cvA (cP) ?_); refine zFu ?_) | (with_reducible first | apply jn | apply both | apply an | exact ti) | exact zJH | refine zFu ?_ | exact zJI | refine zJG ?_))
      refine zCy s false ?_ (by rw [hD]; rfl) (fun s' e => by rw [hD] at e; cases e)
      (rw [zBR]; simp only [go_sem]; (repeat' apply And.intro) <;> rfl)
     | some c =>
      rw [hP] at cP
      simp only [zTd] at cP
      cases hG : zAZ c with
      | false =>
       rw [hG] at cP
       have hE2 : zBI s r = none := by rw [zBI, hY, hH, hT2, zHf, hP]; simp [hG]
       rw [hE2] at hD
       refine fg zH6 fun E hE hH => ?_; simp only [go_sem, hE, hH, zG9]
       try simp (disch := omega) only [go_sem, hE, hH, z1, z2, hY, hT2]
       all_goals (have y1_ := z1; have y2_ := z2; have y3_ := hY; have y4_ := hT2; repeat' (first | ((with_reducible apply ga) <;> refine zJF fun h => ?_) | ((with_reducible apply an); · omega) | ((first | refine zAa ?_ | refine cvA (cO) ?_ | refine cvA (cFH) ?_ | refine cvA (cFT) ?_ | refine cvA (cP) ?_); refine zFu ?_) | (with_reducible first | apply jn | apply both | apply an | exact ti) | exact zJH | refine zFu ?_ | exact zJI | refine zJG ?_))
       refine zCy s false ?_ (by rw [hD]; rfl) (fun s' e => by rw [hD] at e; cases e)
       (rw [zBR]; simp only [go_sem]; (repeat' apply And.intro) <;> rfl)
      | true =>
       rw [hG] at cP
       have hE2 : zBI s r = some ⟨max s.Floor r.Time, c, zA2 s r, zB0 s r⟩ := by rw [zBI, hY, hH, hT2, zHf, hP]; simp [hG]
       rw [hE2] at hD
       have hmx2 : zOB s.Floor r.Time = max s.Floor r.Time := by
        rw [zOB, Int.max_def]; split <;> split <;> omega
       refine fg zH6 fun E hE hH => ?_; simp only [go_sem, hE, hH, zG9]
       try simp (disch := omega) only [go_sem, hE, hH, z1, z2, hY, hT2, hmx2]
       all_goals (have y1_ := z1; have y2_ := z2; have y3_ := hY; have y4_ := hT2; have y5_ := hmx2; repeat' (first | ((with_reducible apply ga) <;> refine zK8 fun h => ?_) | ((with_reducible apply an); · omega) | (refine zBj [true, false] ?_; refine zDb ?_; refine cmA (cLs) ?_; refine zDb ?_) | ((first | refine zAa ?_ | refine cvA (cO) ?_ | refine cvA (cFH) ?_ | refine cvA (cFT) ?_ | refine cvA (cP) ?_ | refine cvA (zUI _ _) ?_ | refine cvA (cPT) ?_); refine zDb ?_) | (with_reducible first | apply jn | apply both | apply an | exact ti) | exact zLa | refine zDb ?_ | exact zLb | refine zK9 ?_))
       refine zCy ⟨max s.Floor r.Time, c, zA2 s r, zB0 s r⟩ true ?_ (by rw [hD]; rfl) (fun s' e => by rw [hD] at e; injection e)
       (rw [zBR]; simp only [go_sem]; (repeat' apply And.intro) <;> rfl)
end Go.Proofs.Wb

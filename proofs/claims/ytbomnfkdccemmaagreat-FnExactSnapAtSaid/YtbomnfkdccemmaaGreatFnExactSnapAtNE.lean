import Derived.Test.YtbomnfkdccemmaaGreatFnExactSnapAtN7
import Derived.Laws.Externs
set_option linter.all false
set_option maxHeartbeats 4000000
namespace Go.Proofs.Wb
open Tryz renaming prog → p_
open Go Go.Am
def zBo (l : List Rec) (j : Nat) : List Bool := (List.range j).map fun i => (zAZ (zBJ (l.take i)) (nth l i)).isSome
theorem zCS (l : List Rec) (j : Nat) : (zBo l j).length = j := by simp [zBo]
theorem zFU (l : List Rec) (j : Nat) : zBo l (j + 1) = zBo l j ++ [(zAZ (zBJ (l.take j)) (nth l j)).isSome] := by simp [zBo, List.range_succ]
theorem zFj {l : List Rec} {j : Nat} (h : j < l.length) : zBJ (l.take (j + 1)) = zBy (zBJ (l.take j)) (nth l j) := by
 rw [zAE h, zBJ, List.foldl_append]; rfl
theorem zJN {l : List Rec} (hl : ∀ r ∈ l, zBe r = true) (j : Nat) (hj : j ≤ l.length) : stI j (zBJ (l.take j)) := by
 have := zQa (l := l.take j) fun r h => hl r (List.mem_of_mem_take h)
 rwa [List.length_take, Nat.min_eq_left hj] at this
def soF (l : List Rec) (j : Nat) : Option State → St
 | none => ⟨[(2, .ptr 3000000 0 0), (4, .ptr 5000000 0 0), (5, .ref 6000000 0 j), (12, .sl false 7 (l.map (Rec.row false))), (13, i64 l.length), (14, i64 j)], [(3000000, ⟨4, [[i64 0, zAO, zAO, zAO]]⟩), (5000000, ⟨4, [[i64 0, zAO, zAO, zAO]]⟩), (6000000, ⟨1, (zBo l j).map (fun b => [bl b])⟩)]⟩
 | some s => ⟨[(2, .ptr 3000000 0 0), (4, .ptr 5000000 0 0), (5, .ref 6000000 0 j), (12, .sl false 7 (l.map (Rec.row false))), (13, i64 l.length), (14, i64 j)], [(3000000, ⟨4, [[i64 0, zAO, zAO, zAO]]⟩), (5000000, ⟨4, [[i64 s.Floor, .ref 5000002 0 s.Cells.length, .ref 5000003 0 s.Held.length, .ref 5000004 0 s.Told.length]]⟩), (5000002, ⟨2, s.Cells.map (Cell.row true)⟩), (5000003, ⟨5, s.Held.map (Held.row true)⟩), (5000004, ⟨3, s.Told.map (Told.row true)⟩), (6000000, ⟨1, (zBo l j).map (fun b => [bl b])⟩)]⟩
theorem zTG (hS : zDs) (l : List Rec) (hl : ∀ r ∈ l, zBe r = true) (hn : l.length ≤ 60) : ACall p_ 178 [.sl false 7 (l.map (Rec.row false))] (fun x _ => x = .tup [.agg (State.row true (zBJ l)), .sl true 1 ((zBo l l.length).map (fun b => [bl b]))]) := by
 have hmx := zAf
 refine fg H178 fun E hE hH => ?_; simp only [go_sem, hE, hH, zZ4]
 try refine st ?_; try exact ⟨⟩
 refine zAR l.length (fun j x => soF l j x) (fun j x => x.getD st0 = zBJ (l.take j)) none rfl rfl ?_
 intro j x hj hI
 have z1 : st0.Cells = [] := rfl
 have z2 : st0.Held = [] := rfl
 have z3 : st0.Told = [] := rfl
 have z4 : st0.Floor = 0 := rfl
 have hSI := zJN hl j hj
 rw [← hI] at hSI
 cases x with
 | none =>
  try simp only [go_sem, hE, hH, zMU, soF]
  first | refine zAg (fun h => ?_) (fun h => ?_) | refine zAh (fun h => ?_) (fun h => ?_)
  ·have hb := h
   simp only [nf] at h
   have hlt : j < l.length := by omega
   have cA := zMo hS st0 (nth l j) hSI (by omega) (hl _ (zAd hlt))
   have hst : zBJ (l.take (j + 1)) = zBy st0 (nth l j) := by rw [zFj hlt, ← hI]; rfl
   have hdn : zBo l (j + 1) = zBo l j ++ [(zAZ st0 (nth l j)).isSome] := by rw [zFU, ← hI]; rfl
   have hdl := zCS l j
   have hdt : (zBo l j).take j = zBo l j := by rw [List.take_of_length_le (by omega)]
   cases hA : zAZ st0 (nth l j) with
   | none =>
    rw [hA, zCu] at cA
    rw [hA] at hdn
    try refine sb ?_; try exact ⟨⟩
    all_goals (have y1_ := hdl; have y2_ := hdt; have y3_ := z1; have y4_ := z2; have y5_ := z3; have y6_ := z4; repeat' (first | ((with_reducible apply ga) <;> refine zIy fun h => ?_) | ((with_reducible apply an); · omega) | ((first | refine zAa ?_ | refine zSL (cA) ?_); refine zDj ?_) | (with_reducible first | apply jn | apply both | apply an | exact ti) | exact zIA | refine zDj ?_ | exact zIB | refine zIz ?_))
    all_goals try first | omega | rfl
    all_goals (
     refine ⟨none, ?_, by (first | (rw [hst, zBy, hA]; done) | (rw [hst, zBy, hA]; rfl))⟩
     rw [hdn, List.map_append]
     rfl)
   | some s' =>
    rw [hA, zCu] at cA
    rw [hA] at hdn
    try refine sb ?_; try exact ⟨⟩
    all_goals (have y1_ := hdl; have y2_ := hdt; have y3_ := z1; have y4_ := z2; have y5_ := z3; have y6_ := z4; repeat' (first | ((with_reducible apply ga) <;> refine zIy fun h => ?_) | ((with_reducible apply an); · omega) | ((first | refine zAa ?_ | refine zSL (cA) ?_); refine zDj ?_) | (with_reducible first | apply jn | apply both | apply an | exact ti) | exact zIA | refine zDj ?_ | exact zIB | refine zIz ?_))
    all_goals try first | omega | rfl
    all_goals (
     refine ⟨some s', ?_, by (first | (rw [hst, zBy, hA]; done) | (rw [hst, zBy, hA]; rfl))⟩
     rw [hdn, List.map_append]
     rfl)
  ·try simp (disch := omega) only [go_sem, hE, hH, h]
   simp only [nf] at h
   have hjl : j = l.length := by omega
   have hdl := zCS l j
   rw [hjl, List.take_length] at hI
   subst hjl
   rw [← hI]
   simp [hdl, zHG, zAy]
   exact ⟨rfl, rfl, rfl, rfl⟩
 | some s =>
  try simp only [go_sem, hE, hH, zMU, soF]
  first | refine zAg (fun h => ?_) (fun h => ?_) | refine zAh (fun h => ?_) (fun h => ?_)
  ·have hb := h
   simp only [nf] at h
   have hlt : j < l.length := by omega
   have cA := zMo hS s (nth l j) hSI (by omega) (hl _ (zAd hlt))
   have hst : zBJ (l.take (j + 1)) = zBy s (nth l j) := by rw [zFj hlt, ← hI]; rfl
   have hdn : zBo l (j + 1) = zBo l j ++ [(zAZ s (nth l j)).isSome] := by rw [zFU, ← hI]; rfl
   have hdl := zCS l j
   have hdt : (zBo l j).take j = zBo l j := by rw [List.take_of_length_le (by omega)]
   cases hA : zAZ s (nth l j) with
   | none =>
    rw [hA, zCu] at cA
    rw [hA] at hdn
    try refine sb ?_; try exact ⟨⟩
    all_goals (have y1_ := hdl; have y2_ := hdt; repeat' (first | ((with_reducible apply ga) <;> refine zE4 fun h => ?_) | ((with_reducible apply an); · omega) | ((first | refine zAa ?_ | refine cvA (cA) ?_); refine zBz ?_) | (with_reducible first | apply jn | apply both | apply an | exact ti) | exact zE6 | refine zBz ?_ | exact zE7 | refine zE5 ?_))
    all_goals try first | omega | rfl
    all_goals (
     refine ⟨some s, ?_, by (first | (rw [hst, zBy, hA]; done) | (rw [hst, zBy, hA]; rfl))⟩
     rw [hdn, List.map_append]
     rfl)
   | some s' =>
    rw [hA, zCu] at cA
    rw [hA] at hdn
    try refine sb ?_; try exact ⟨⟩
    all_goals (have y1_ := hdl; have y2_ := hdt; repeat' (first | ((with_reducible apply ga) <;> refine zE4 fun h => ?_) | ((with_reducible apply an); · omega) | ((first | refine zAa ?_ | refine cvA (cA) ?_); refine zBz ?_) | (with_reducible first | apply jn | apply both | apply an | exact ti) | exact zE6 | refine zBz ?_ | exact zE7 | refine zE5 ?_))
    all_goals try first | omega | rfl
    all_goals (
     refine ⟨some s', ?_, by (first | (rw [hst, zBy, hA]; done) | (rw [hst, zBy, hA]; rfl))⟩
     rw [hdn, List.map_append]
     rfl)
  ·try simp (disch := omega) only [go_sem, hE, hH, h]
   simp only [nf] at h
   have hjl : j = l.length := by omega
   have hdl := zCS l j
   rw [hjl, List.take_length] at hI
   subst hjl
   rw [← hI]
   simp [hdl, zHG, zAy]
def soG (l : List Rec) (j : Nat) : Option State → St
 | none => ⟨[(2, .ptr 3000000 0 0), (4, .ptr 5000000 0 0), (5, .ref 6000000 0 j), (10, .sl false 7 (l.map (Rec.row false))), (11, i64 l.length), (12, i64 j)], [(3000000, ⟨4, [[i64 0, zAO, zAO, zAO]]⟩), (5000000, ⟨4, [[i64 0, zAO, zAO, zAO]]⟩), (6000000, ⟨1, (zBo l j).map (fun b => [bl b])⟩)]⟩
 | some s => ⟨[(2, .ptr 3000000 0 0), (4, .ptr 5000000 0 0), (5, .ref 6000000 0 j), (10, .sl false 7 (l.map (Rec.row false))), (11, i64 l.length), (12, i64 j)], [(3000000, ⟨4, [[i64 0, zAO, zAO, zAO]]⟩), (5000000, ⟨4, [State.row false s]⟩), (6000000, ⟨1, (zBo l j).map (fun b => [bl b])⟩)]⟩
theorem zXb (l : List Rec) (hl : ∀ r ∈ l, zBe r = true) (hn : l.length ≤ 60) : ACall p_ 157 [.sl false 7 (l.map (Rec.row false))] (fun x _ => x = .tup [.agg (State.row false (zBJ l)), .sl true 1 ((zBo l l.length).map (fun b => [bl b]))]) := by
 have hmx := zAf
 refine fg H157 fun E hE hH => ?_; simp only [go_sem, hE, hH, zZT]
 try refine st ?_; try exact ⟨⟩
 refine zAR l.length (fun j x => soG l j x) (fun j x => x.getD st0 = zBJ (l.take j)) none rfl rfl ?_
 intro j x hj hI
 have z1 : st0.Cells = [] := rfl
 have z2 : st0.Held = [] := rfl
 have z3 : st0.Told = [] := rfl
 have z4 : st0.Floor = 0 := rfl
 have hSI := zJN hl j hj
 rw [← hI] at hSI
 cases x with
 | none =>
  try simp only [go_sem, hE, hH, zMT, soG]
  first | refine zAg (fun h => ?_) (fun h => ?_) | refine zAh (fun h => ?_) (fun h => ?_)
  ·have hb := h
   simp only [nf] at h
   have hlt : j < l.length := by omega
   have cA := zKF st0 (nth l j) hSI (by omega) (hl _ (zAd hlt))
   have hst : zBJ (l.take (j + 1)) = zBy st0 (nth l j) := by rw [zFj hlt, ← hI]; rfl
   have hdn : zBo l (j + 1) = zBo l j ++ [(zAZ st0 (nth l j)).isSome] := by rw [zFU, ← hI]; rfl
   have hdl := zCS l j
   have hdt : (zBo l j).take j = zBo l j := by rw [List.take_of_length_le (by omega)]
   cases hA : zAZ st0 (nth l j) with
   | none =>
    rw [hA, Option.isSome_none] at cA
    simp only [zBY] at cA
    rw [hA] at hdn
    try refine sb ?_; try exact ⟨⟩
    all_goals (have y1_ := hdl; have y2_ := hdt; have y3_ := z1; have y4_ := z2; have y5_ := z3; have y6_ := z4; repeat' (first | ((with_reducible apply ga) <;> refine zIy fun h => ?_) | ((with_reducible apply an); · omega) | (refine zAa ?_; refine zDj ?_; refine zSL (cA) (And.intro (by (simp (disch := omega) only [go_sem, hE, hH, hdl, hdt, z1, z2, z3, z4]); done) (zAK ?_)); rintro _ _ ⟨q, rfl, _⟩; refine zDj ?_) | (with_reducible first | apply jn | apply both | apply an | exact ti) | exact zIA | refine zDj ?_ | exact zIB | refine zIz ?_))
    all_goals try first | omega | rfl
    all_goals (
     refine ⟨none, ?_, by (first | (rw [hst, zBy, hA]; done) | (rw [hst, zBy, hA]; rfl))⟩
     rw [hdn, List.map_append]
     rfl)
   | some s' =>
    rw [hA, Option.isSome_some] at cA
    simp only [zBY] at cA
    rw [hA] at hdn
    try refine sb ?_; try exact ⟨⟩
    all_goals (have y1_ := hdl; have y2_ := hdt; have y3_ := z1; have y4_ := z2; have y5_ := z3; have y6_ := z4; repeat' (first | ((with_reducible apply ga) <;> refine zIy fun h => ?_) | ((with_reducible apply an); · omega) | (refine zAa ?_; refine zDj ?_; refine zSL (cA) (And.intro (by (simp (disch := omega) only [go_sem, hE, hH, hdl, hdt, z1, z2, z3, z4]); done) (zAK ?_)); rintro _ _ ⟨q, rfl, hq⟩; refine zDj ?_) | (with_reducible first | apply jn | apply both | apply an | exact ti) | exact zIA | refine zDj ?_ | exact zIB | refine zIz ?_))
    all_goals try first | omega | rfl
    all_goals (
     obtain rfl := hq _ rfl
     refine ⟨some q, ?_, by (first | (rw [hst, zBy, hA]; done) | (rw [hst, zBy, hA]; rfl))⟩
     rw [hdn, List.map_append]
     rfl)
  ·try simp (disch := omega) only [go_sem, hE, hH, h]
   simp only [nf] at h
   have hjl : j = l.length := by omega
   have hdl := zCS l j
   rw [hjl, List.take_length] at hI
   subst hjl
   rw [← hI]
   simp [hdl, zHG, zAy]
   exact ⟨rfl, rfl, rfl, rfl⟩
 | some s =>
  try simp only [go_sem, hE, hH, zMT, soG]
  first | refine zAg (fun h => ?_) (fun h => ?_) | refine zAh (fun h => ?_) (fun h => ?_)
  ·have hb := h
   simp only [nf] at h
   have hlt : j < l.length := by omega
   have cA := zKF s (nth l j) hSI (by omega) (hl _ (zAd hlt))
   have hst : zBJ (l.take (j + 1)) = zBy s (nth l j) := by rw [zFj hlt, ← hI]; rfl
   have hdn : zBo l (j + 1) = zBo l j ++ [(zAZ s (nth l j)).isSome] := by rw [zFU, ← hI]; rfl
   have hdl := zCS l j
   have hdt : (zBo l j).take j = zBo l j := by rw [List.take_of_length_le (by omega)]
   cases hA : zAZ s (nth l j) with
   | none =>
    rw [hA, Option.isSome_none] at cA
    simp only [zBY] at cA
    rw [hA] at hdn
    try refine sb ?_; try exact ⟨⟩
    all_goals (have y1_ := hdl; have y2_ := hdt; repeat' (first | ((with_reducible apply ga) <;> refine zE4 fun h => ?_) | ((with_reducible apply an); · omega) | (refine zAa ?_; refine zBz ?_; refine cvA (cA) ?_; refine zAK ?_; rintro _ _ ⟨q, rfl, _⟩; refine zBz ?_) | (with_reducible first | apply jn | apply both | apply an | exact ti) | exact zE6 | refine zBz ?_ | exact zE7 | refine zE5 ?_))
    all_goals try first | omega | rfl
    all_goals (
     refine ⟨some s, ?_, by (first | (rw [hst, zBy, hA]; done) | (rw [hst, zBy, hA]; rfl))⟩
     rw [hdn, List.map_append]
     rfl)
   | some s' =>
    rw [hA, Option.isSome_some] at cA
    simp only [zBY] at cA
    rw [hA] at hdn
    try refine sb ?_; try exact ⟨⟩
    all_goals (have y1_ := hdl; have y2_ := hdt; repeat' (first | ((with_reducible apply ga) <;> refine zE4 fun h => ?_) | ((with_reducible apply an); · omega) | (refine zAa ?_; refine zBz ?_; refine cvA (cA) ?_; refine zAK ?_; rintro _ _ ⟨q, rfl, hq⟩; refine zBz ?_) | (with_reducible first | apply jn | apply both | apply an | exact ti) | exact zE6 | refine zBz ?_ | exact zE7 | refine zE5 ?_))
    all_goals try first | omega | rfl
    all_goals (
     obtain rfl := hq _ rfl
     refine ⟨some q, ?_, by (first | (rw [hst, zBy, hA]; done) | (rw [hst, zBy, hA]; rfl))⟩
     rw [hdn, List.map_append]
     rfl)
  ·try simp (disch := omega) only [go_sem, hE, hH, h]
   simp only [nf] at h
   have hjl : j = l.length := by omega
   have hdl := zCS l j
   rw [hjl, List.take_length] at hI
   subst hjl
   rw [← hI]
   simp [hdl, zHG, zAy]
def zNl (l : List Entry) : State := zBJ (l.map Entry.Rec)
theorem zAbp {l : List Entry} (hl : ∀ e ∈ l, zBe e.Rec = true) : stI l.length (zNl l) := by
 have := zQa (l := l.map Entry.Rec) fun r h => by
  obtain ⟨e, he, rfl⟩ := List.mem_map.1 h
  exact hl e he
 rwa [List.length_map] at this
theorem zTH (hS : zDs) (l : List Entry) (hl : ∀ e ∈ l, zBe e.Rec = true) (hn : l.length ≤ 60) : ACall p_ 143 [.sl false 8 (l.map (Entry.row false))] (fun x _ => x = .agg (State.row true (zNl l))) := by
 have hmx := zAf
 have cO := zTG hS (l.map Entry.Rec) (fun r h => by obtain ⟨e, he, rfl⟩ := List.mem_map.1 h; exact hl e he) (by rw [List.length_map]; exact hn)
 refine fg H143 fun E hE hH => ?_; simp only [go_sem, hE, hH, zZL]
 try refine st ?_; try exact ⟨⟩
 refine zAR l.length (fun j (_ : Unit) => ⟨[(2, .ptr 3000000 0 0), (3, .ref 4000000 0 j), (9, .sl false 8 (l.map (Entry.row false))), (10, i64 l.length), (11, i64 j)], [(3000000, ⟨4, [[i64 0, zAO, zAO, zAO]]⟩), (4000000, ⟨7, ((l.take j).map Entry.Rec).map (Rec.row false)⟩)]⟩) (fun _ _ => True) () rfl trivial ?_
 intro j x hj hI
 try simp only [go_sem, hE, hH, zRy]
 first | refine zAg (fun h => ?_) (fun h => ?_) | refine zAh (fun h => ?_) (fun h => ?_)
 ·have hb := h
  simp only [nf] at h
  have hlt : j < l.length := by omega
  have hjl : ((l.take j).map Entry.Rec).length = j := by simp; omega
  have hjt : (l.take j).take j = l.take j := by rw [List.take_take, Nat.min_self]
  have hs : (l.take (j + 1)).map Entry.Rec = (l.take j).map Entry.Rec ++ [(nth l j).Rec] := by rw [zAE hlt, List.map_append]; rfl
  have hg := getD_map (f := Entry.row false) hlt
  have hga : ∀ r, (((l.take j).map Entry.Rec).map (Rec.row false) ++ [r]).getD j [] = r := fun r => by
   have := zMN (f := Rec.row false) (l := (l.take j).map Entry.Rec) (r := r)
   rwa [hjl] at this
  try simp (disch := omega) only [go_sem, hE, hH, hjl, hjt, hg, hga, hb]
  all_goals (have y1_ := hjl; have y2_ := hjt; have y3_ := hg; have y4_ := hga; repeat' (first | ((with_reducible apply ga) <;> refine zJR fun h => ?_) | ((with_reducible apply an); · omega) | (with_reducible first | apply jn | apply both | apply an | exact ti) | exact zJT | refine zFH ?_ | exact zJU | refine zJS ?_))
  repeat' (first | (refine both ?_ ?_) | omega | ((first | apply zAC | apply zA9) <;> (simp only [go_sem, hE, hH]; done)) | fail)
  refine ⟨(), ?_⟩
  rw [hs, List.map_append]
  rfl
 ·try simp (disch := omega) only [go_sem, hE, hH, h]
  simp only [nf] at h
  have hjl : j = l.length := by omega
  rw [hjl, List.take_length]
  have hl2 : (l.map Entry.Rec).length = l.length := List.length_map _
  have hd : zNl l = zBJ (l.map Entry.Rec) := rfl
  rw [hd]
  try refine st ?_; try exact ⟨⟩
  all_goals (have y1_ := hl2; repeat' (first | ((with_reducible apply ga) <;> refine zBK fun h => ?_) | ((with_reducible apply an); · omega) | ((first | refine zAa ?_ | refine cvA (cO) ?_); refine zAq ?_) | (with_reducible first | apply jn | apply both | apply an | exact ti) | exact zE3 | refine zAq ?_ | exact zBM | refine zBL ?_))
theorem zQ5 (log : List Entry) (n : Nat) (hln : n ≤ log.length) (hmx0 : log.length ≤ maxLen) (l : List Entry) (hle : l = log.take n) (hl : ∀ e ∈ l, zBe e.Rec = true) (hn : l.length ≤ 60) : ACall p_ 111 [.sl false 8 (log.map (Entry.row false)), i64 n] (fun x _ => x = .agg (State.row false (zNl l))) := by
 have hmx := zAf
 have cO := zXb (l.map Entry.Rec) (fun r h => by obtain ⟨e, he, rfl⟩ := List.mem_map.1 h; exact hl e he) (by rw [List.length_map]; exact hn)
 have hll : l.length = n := by rw [hle, List.length_take]; omega
 refine fg H111 fun E hE hH => ?_; simp only [go_sem, hE, hH, zZs]
 try refine st ?_; try exact ⟨⟩
 repeat' (first | ((with_reducible apply ga) <;> refine gs fun h => ?_) | ((with_reducible apply an); · omega) | (with_reducible first | apply jn | apply both | apply an | exact ti) | exact fj | refine st ?_ | exact fm | refine s1 ?_)
 refine zAR l.length (fun j (_ : Unit) => ⟨[(4, .ptr 5000000 0 0), (5, .ref 6000000 0 j), (12, .sl false 8 (l.map (Entry.row false))), (13, i64 l.length), (14, i64 j)], [(5000000, ⟨4, [[i64 0, zAO, zAO, zAO]]⟩), (6000000, ⟨7, ((l.take j).map Entry.Rec).map (Rec.row false)⟩)]⟩) (fun _ _ => True) () (by rw [hle, List.map_take, List.length_take, Nat.min_eq_left hln]; rfl) trivial ?_
 intro j x hj hI
 try simp only [go_sem, hE, hH, zRt]
 first | refine zAg (fun h => ?_) (fun h => ?_) | refine zAh (fun h => ?_) (fun h => ?_)
 ·have hb := h
  simp only [nf] at h
  have hlt : j < l.length := by omega
  have hjl : ((l.take j).map Entry.Rec).length = j := by simp; omega
  have hjt : (l.take j).take j = l.take j := by rw [List.take_take, Nat.min_self]
  have hs : (l.take (j + 1)).map Entry.Rec = (l.take j).map Entry.Rec ++ [(nth l j).Rec] := by rw [zAE hlt, List.map_append]; rfl
  have hg := getD_map (f := Entry.row false) hlt
  have hga : ∀ r, (((l.take j).map Entry.Rec).map (Rec.row false) ++ [r]).getD j [] = r := fun r => by
   have := zMN (f := Rec.row false) (l := (l.take j).map Entry.Rec) (r := r)
   rwa [hjl] at this
  try simp (disch := omega) only [go_sem, hE, hH, hjl, hjt, hg, hga, hb]
  all_goals (have y1_ := hjl; have y2_ := hjt; have y3_ := hg; have y4_ := hga; repeat' (first | ((with_reducible apply ga) <;> refine zJR fun h => ?_) | ((with_reducible apply an); · omega) | (with_reducible first | apply jn | apply both | apply an | exact ti) | exact zJT | refine zFH ?_ | exact zJU | refine zJS ?_))
  repeat' (first | (refine both ?_ ?_) | omega | ((first | apply zAC | apply zA9) <;> (simp only [go_sem, hE, hH]; done)) | fail)
  refine ⟨(), ?_⟩
  rw [hs, List.map_append]
  rfl
 ·try simp (disch := omega) only [go_sem, hE, hH, h]
  simp only [nf] at h
  have hjl : j = l.length := by omega
  rw [hjl, List.take_length]
  have hl2 : (l.map Entry.Rec).length = l.length := List.length_map _
  have hd : zNl l = zBJ (l.map Entry.Rec) := rfl
  rw [hd]
  have cO2 : ACall p_ 157 [.sl true 7 ((l.map Entry.Rec).map (Rec.row false))] (fun x a => x = .tup [.agg (State.row false (zBJ (l.map Entry.Rec))), .sl true 1 ((zBo (l.map Entry.Rec) (l.map Entry.Rec).length).map (fun b => [bl b]))] ∧ a = [.any]) := zPD cO (by simp only [go_sem]; rfl) rfl
  try refine st ?_; try exact ⟨⟩
  all_goals (have y1_ := hl2; repeat' (first | ((with_reducible apply ga) <;> refine zBK fun h => ?_) | ((with_reducible apply an); · omega) | (refine zAD [true] ?_; refine zAq ?_; refine cmA (cO2) ?_; refine zAq ?_) | (with_reducible first | apply jn | apply both | apply an | exact ti) | exact zE3 | refine zAq ?_ | exact zBM | refine zBL ?_))
structure repG (r : Replica) : Prop where
 s0 : 0 ≤ r.Sure
 s1 : r.Sure ≤ r.Log.length
 len : r.Log.length ≤ 60
 good : ∀ e ∈ r.Log, zBe e.Rec = true
theorem zYs {t : Int} {r : Replica} (h : zCi t r = true) : repG r := by
 simp only [zCi, zGX, Bool.and_eq_true, decide_eq_true_eq] at h
 obtain ⟨⟨h1, h2⟩, h3⟩ := h
 have h3 := zCn.1 h3
 refine ⟨h3.1, h3.2, by omega, fun e he => ?_⟩
 obtain ⟨i, hi, rfl⟩ := List.getElem_of_mem he
 have := zAL.1 h1 i hi
 simp only [zB6, Bool.and_eq_true] at this
 rw [← zA5 hi]
 exact this.1.2
theorem zNm {g : Group} (h : zBH g = true) : 3 ≤ g.Reps.length ∧ g.Reps.length ≤ 5 ∧ ∀ r ∈ g.Reps, repG r := by
 simp only [zBH, Bool.and_eq_true, Bool.or_eq_true, decide_eq_true_eq, List.all_eq_true] at h
 obtain ⟨⟨⟨h1, _⟩, _⟩, h4⟩ := h
 exact ⟨by omega, by omega, fun r hr => zYs (h4 r hr)⟩
def zXc (r : Replica) : State := zNl (r.Log.take r.Sure.toNat)
theorem zJO {r : Replica} (h : repG r) : (∀ e ∈ r.Log.take r.Sure.toNat, zBe e.Rec = true) ∧ (r.Log.take r.Sure.toNat).length ≤ 60 := by
 refine ⟨fun e he => h.good e (List.mem_of_mem_take he), ?_⟩
 have := h.len
 rw [List.length_take]; omega
theorem zAbq {r : Replica} (h : repG r) : stI 60 (zXc r) := by
 obtain ⟨h1, h2⟩ := zJO h
 have := zAbp h1
 exact ⟨this.cells, this.hlen, this.hsrt, this.hok, Nat.le_trans this.tlen h2, this.tsrt⟩
def zEx (g : Group) : Nat → Nat
 | 0 => 0
 | j + 1 => if (nth g.Reps (zEx g j)).Sure < (nth g.Reps j).Sure then j else zEx g j
theorem zGy {g : Group} (h : 0 < g.Reps.length) : ∀ j, j ≤ g.Reps.length → zEx g j < g.Reps.length
 | 0, _ => h
 | j + 1, hj => by
  rw [zEx]
  split
  ·omega
  ·exact zGy h j (by omega)
def zBp (g : Group) : State := zXc (nth g.Reps (zEx g g.Reps.length))
theorem zYt (g : Group) (h0 : 0 < g.Reps.length) (h1 : g.Reps.length ≤ 2 ^ 20) : ACall p_ 144 [.agg (Group.row false g)] (fun x _ => x = .agg (Replica.row false (nth g.Reps (zEx g g.Reps.length)))) := by
 have hmx := zAf
 refine fg H144 fun E hE hH => ?_; simp only [go_sem, hE, hH, zZM]
 try refine st ?_; try exact ⟨⟩
 repeat' (first | ((with_reducible apply ga) <;> refine gs fun h => ?_) | ((with_reducible apply an); · omega) | (with_reducible first | apply jn | apply both | apply an | exact ti) | exact fj | refine st ?_ | exact fm | refine s1 ?_)
 refine zAR g.Reps.length (fun j (_ : Unit) => ⟨[(2, .ptr 3000000 0 0), (3, .ptr 4000000 0 0), (11, .sl false 3 (g.Reps.map (Replica.row false))), (12, i64 g.Reps.length), (13, i64 j)], [(3000000, ⟨3, [[bl false, zAO, i64 0]]⟩), (4000000, ⟨3, [Replica.row false (nth g.Reps (zEx g j))]⟩)]⟩) (fun _ _ => True) () rfl trivial ?_
 intro j _ hj _
 try simp only [go_sem, hE, hH, zRz]
 first | refine zAg (fun h => ?_) (fun h => ?_) | refine zAh (fun h => ?_) (fun h => ?_)
 ·have hb := h
  simp only [nf] at h
  have hlt : j < g.Reps.length := by omega
  try refine sb ?_; try exact ⟨⟩
  repeat' (first | ((with_reducible apply ga) <;> refine gs fun h => ?_) | ((with_reducible apply an); · omega) | (with_reducible first | apply jn | apply both | apply an | exact ti) | exact fj | refine st ?_ | exact fm | refine s1 ?_)
  all_goals (
   refine ⟨(), ?_⟩
   rw [zEx]
   split <;> first | rfl | (exfalso; omega))
 ·try simp (disch := omega) only [go_sem, hE, hH, h]
  simp only [nf] at h
  have hjl : j = g.Reps.length := by omega
  rw [hjl]
  exact ⟨rfl, rfl, rfl⟩
theorem zQi (hS : zDs) (g : Group) (hg : zBH g = true) : ACall p_ 88 [.agg (Group.row false g)] (fun x _ => x = .agg (State.row true (zBp g))) := by
 have hmx := zAf
 obtain ⟨h3, h5, hr⟩ := zNm hg
 have hb := hr _ (zAd (zGy (g := g) (by omega) g.Reps.length (Nat.le_refl _)))
 obtain ⟨q1, q2⟩ := zJO hb
 refine fg H88 fun E hE hH => ?_; simp only [go_sem, hE, hH, C88]
 repeat' (first | ((with_reducible apply ga) <;> refine gs fun h => ?_) | ((with_reducible apply an); · omega) | ((first | refine zAa ?_ | refine cvA (zYt g (by omega) (by omega)) ?_ | refine cvA (zYi (nth g.Reps (zEx g g.Reps.length)) hb.s0 hb.s1) ?_ | refine cvA (zTH hS _ q1 q2) ?_); refine st ?_) | (with_reducible first | apply jn | apply both | apply an | exact ti) | exact fj | refine st ?_ | exact fm | refine s1 ?_)
 all_goals rfl
theorem zQ6 (r : Replica) (h : repG r) : ACall p_ 111 [.sl false 8 (r.Log.map (Entry.row false)), i64 r.Sure] (fun x _ => x = .agg (State.row false (zXc r))) := by
 have hmx := zAf
 obtain ⟨q1, q2⟩ := zJO h
 have h0 := h.s0
 have h1 := h.s1
 have hl := h.len
 have := zQ5 r.Log r.Sure.toNat (by omega) (by omega) _ rfl q1 q2
 rwa [Int.toNat_of_nonneg h0] at this
theorem zTI (g : Group) (hg : zBH g = true) : ACall p_ 65 [.agg (Group.row false g)] (fun x _ => x = .agg (State.row false (zBp g))) := by
 have hmx := zAf
 obtain ⟨h3, h5, hr⟩ := zNm hg
 have hlb := zGy (g := g) (by omega) g.Reps.length (Nat.le_refl _)
 have hb := hr _ (zAd hlb)
 refine fg H65 fun E hE hH => ?_; simp only [go_sem, hE, hH, C65]
 try refine st ?_; try exact ⟨⟩
 refine zAR g.Reps.length (fun j (_ : Unit) => ⟨[(1, .ptr 2000000 0 0), (2, .ptr 3000000 0 0), (3, i64 (zEx g j)), (7, .sl false 3 (g.Reps.map (Replica.row false))), (8, i64 g.Reps.length), (9, i64 j)], [(2000000, ⟨3, [Group.row false g]⟩), (3000000, ⟨4, [[i64 0, zAO, zAO, zAO]]⟩)]⟩) (fun _ _ => True) () rfl trivial ?_
 intro j _ hj _
 try simp only [go_sem, hE, hH, zUY]
 first | refine zAg (fun h => ?_) (fun h => ?_) | refine zAh (fun h => ?_) (fun h => ?_)
 ·have hb := h
  simp only [nf] at h
  have hlt : j < g.Reps.length := by omega
  have hlj := zGy (g := g) (by omega) j hj
  try refine sb ?_; try exact ⟨⟩
  repeat' (first | ((with_reducible apply ga) <;> refine gs fun h => ?_) | ((with_reducible apply an); · omega) | (with_reducible first | apply jn | apply both | apply an | exact ti) | exact fj | refine st ?_ | exact fm | refine s1 ?_)
  all_goals (
   refine ⟨(), ?_⟩
   rw [zEx]
   split <;> first | rfl | (exfalso; omega))
 ·try simp (disch := omega) only [go_sem, hE, hH, h]
  simp only [nf] at h
  have hjl : j = g.Reps.length := by omega
  rw [hjl]
  try refine st ?_; try exact ⟨⟩
  repeat' (first | ((with_reducible apply ga) <;> refine gs fun h => ?_) | ((with_reducible apply an); · omega) | ((first | refine zAa ?_ | refine cvA (zQ6 _ hb) ?_); refine st ?_) | (with_reducible first | apply jn | apply both | apply an | exact ti) | exact fj | refine st ?_ | exact fm | refine s1 ?_)
  all_goals first | rfl
theorem zF4 {α : Type} {f : α → Nat} {C : Nat} : ∀ {l : List α}, (∀ x ∈ l, f x ≤ C) → szL f l ≤ (C + 1) * l.length
 | [], _ => by simp [szL]
 | x :: l, h => by
  have h1 := zF4 (l := l) fun y hy => h y (List.mem_cons_of_mem _ hy)
  have h2 := h x List.mem_cons_self
  simp only [szL, List.map_cons, List.sum_cons, List.length_cons, Nat.mul_succ] at h1 ⊢
  omega
theorem zQj {l : List ByteArray} (h : zB1 l = true) : ∀ x ∈ l, zA2 x = true := by
 intro x hx
 obtain ⟨i, hi, rfl⟩ := List.getElem_of_mem hx
 simp only [zB1] at h
 have := zAL.1 h i hi
 simp only [Bool.and_eq_true, zA5 hi] at this
 exact this.1
theorem stI.sz {n : Nat} {s : State} (h : stI n s) (hn : n ≤ 1000) : s.sz ≤ 2 ^ 20 := by
 have hc := zBF h.cells
 have hl := hc.len
 have h1 : szL Cell.sz s.Cells ≤ (2000 + 1) * s.Cells.length := zF4 fun c q => by
  have h2 := (hc.one c q).2
  have h3 := hc.wf c q
  have h4 : szL Ver.sz c.Vers ≤ (100 + 1) * c.Vers.length := zF4 fun v hv => h3.2 v hv
  have h5 : (100 + 1) * c.Vers.length ≤ (100 + 1) * 16 := Nat.mul_le_mul_left _ (by omega)
  show c.Key.size + szL Ver.sz c.Vers ≤ 2000
  omega
 have h2 : szL Held.sz s.Held ≤ (2000 + 1) * s.Held.length := zF4 fun x q => by
  have h3 := zBX (h.hok x q)
  have h4 : szL ByteArray.size x.Reads ≤ (100 + 1) * x.Reads.length := zF4 fun v hv => by
   have := zEs (zQj h3.2.2.2.1 v hv); omega
  have h5 : szL Write.sz x.Writes ≤ (100 + 1) * x.Writes.length := zF4 fun v hv => by
   obtain ⟨i, hi, rfl⟩ := List.getElem_of_mem hv
   have h6 := h3.2.2.1
   rw [zIM] at h6
   simp only [Bool.and_eq_true, Bool.not_eq_true', List.any_eq_false] at h6
   have h7 := zEs (zQj h6.1.2 _ (List.mem_map.2 ⟨_, hv, rfl⟩))
   have h8 := h6.2 _ hv
   have h8 : stored (x.Writes[i]).Val (x.Writes[i]).Gone = true := by simpa using h8
   have := zHq h8
   show (x.Writes[i]).Key.size + (x.Writes[i]).Val.size ≤ 100
   omega
  have h6 : (100 + 1) * x.Reads.length ≤ (100 + 1) * 8 := Nat.mul_le_mul_left _ (by omega)
  have h7 : (100 + 1) * x.Writes.length ≤ (100 + 1) * 8 := Nat.mul_le_mul_left _ (by omega)
  show szL ByteArray.size x.Reads + szL Write.sz x.Writes ≤ 2000
  omega
 have h3 := h.tlen
 have h4 := h.hlen
 have h5 : (2000 + 1) * s.Cells.length ≤ (2000 + 1) * 24 := Nat.mul_le_mul_left _ (by omega)
 have h6 : (2000 + 1) * s.Held.length ≤ (2000 + 1) * 12 := Nat.mul_le_mul_left _ (by omega)
 show szL Cell.sz s.Cells + szL Held.sz s.Held + s.Told.length ≤ 2 ^ 20
 omega
def atL (l : List Ver) (t : Int) : Nat → ByteArray × Bool
 | 0 => (⟨#[]⟩, false)
 | n + 1 => if (nth l n).Time ≤ t then ((nth l n).Val, !(nth l n).Gone) else atL l t n
def atC (c : Cell) (t : Int) : ByteArray × Bool := atL c.Vers t c.Vers.length
def zEy (l : List Ver) (t : Int) : Nat → Option Ver
 | 0 => none
 | n + 1 => if (nth l n).Time ≤ t then some (nth l n) else zEy l t n
theorem zNn (l : List Ver) (t : Int) : ∀ n, atL l t n = match zEy l t n with | none => (⟨#[]⟩, false) | some v => (v.Val, !v.Gone)
 | 0 => rfl
 | n + 1 => by
  rw [atL, zEy]
  split
  ·rfl
  ·exact zNn l t n
theorem zQk {l : List Ver} {t : Int} {v : Ver} : ∀ {n}, n ≤ l.length → zEy l t n = some v → v ∈ l
 | 0, _, h => by cases h
 | n + 1, hn, h => by
  rw [zEy] at h
  split at h
  ·cases h; exact zAd (by omega)
  ·exact zQk (by omega) h
def ver0 : Ver := ⟨0, ⟨#[]⟩, false⟩
def zF5 : Prop := ∀ (c : Cell) (t : Int), c.Vers.length ≤ 2 ^ 60 → ACall p_ 136 [.agg (Cell.row false c), i64 t] (fun r _ => r = .tup [str (atC c t).1, bl (atC c t).2])
theorem zXd (c : Cell) (t : Int) (hl : c.Vers.length ≤ 2 ^ 60) : ACall p_ 110 [.agg (Cell.row false c), i64 t] (fun r _ => r = .tup [.agg (Ver.row false ((zEy c.Vers t c.Vers.length).getD ver0)), bl (zEy c.Vers t c.Vers.length).isSome]) := by
 have hmx := zAf
 refine fg H110 fun E hE hH => ?_; simp only [go_sem, hE, hH, zZr]
 repeat' (first | ((with_reducible apply ga) <;> refine gs fun h => ?_) | ((with_reducible apply an); · omega) | (with_reducible first | apply jn | apply both | apply an | exact ti) | exact fj | refine st ?_ | exact fm | refine s1 ?_)
 refine zAu c.Vers.length (fun j (x : Option Ver) => ⟨[(1, i64 t), (4, .ptr 5000000 0 0), (6, .ptr 7000000 0 0), (7, bl x.isSome), (11, .sl false 3 (c.Vers.map (Ver.row false))), (12, i64 c.Vers.length), (13, i64 j)], [(5000000, ⟨3, [[i64 0, str ⟨#[]⟩, bl false]]⟩), (7000000, ⟨3, [Ver.row false (x.getD ver0)]⟩)]⟩) (fun j x => x = zEy c.Vers t j) none rfl ?_
 intro j x hj hI
 try simp only [go_sem, hE, hH, zRs]
 first | refine zAg (fun h => ?_) (fun h => ?_) | refine zAh (fun h => ?_) (fun h => ?_)
 ·have hb := h
  simp only [nf] at h
  have hlt : j < c.Vers.length := by omega
  try refine sb ?_; try exact ⟨⟩
  repeat' (first | ((with_reducible apply ga) <;> refine gs fun h => ?_) | ((with_reducible apply an); · omega) | (with_reducible first | apply jn | apply both | apply an | exact ti) | exact fj | refine st ?_ | exact fm | refine s1 ?_)
  all_goals first | (rw [show zEy c.Vers t (j + 1) = some (nth c.Vers j) by rw [zEy, if_pos h]]; rfl) | (rw [show zEy c.Vers t (j + 1) = x by rw [zEy, if_neg (by omega), hI]]; rfl)
 ·try simp (disch := omega) only [go_sem, hE, hH, h]
  simp only [nf] at h
  rw [show j = c.Vers.length by omega] at hI
  subst hI
  repeat' (first | ((with_reducible apply ga) <;> refine gs fun h => ?_) | ((with_reducible apply an); · omega) | (with_reducible first | apply jn | apply both | apply an | exact ti) | exact fj | refine st ?_ | exact fm | refine s1 ?_)
  all_goals trace_state
theorem zHt {w : World} (h : zA3 w = true) {j : Nat} (hj : j < w.Groups.length) : zBH (nth w.Groups j) = true ∧ ((nth w.Groups j).Reps.length : Int) = 3 := by
 simp only [zA3, Bool.and_eq_true] at h
 have h1 := h.1.1.1.1.1.1.1.1.2
 have := zAL.1 h1 j hj
 simp only [zFA, Bool.and_eq_true, decide_eq_true_eq] at this
 exact this.1
theorem zYu {g : Group} (h : zBH g = true) : stI 60 (zBp g) := by
 obtain ⟨h3, h5, hr⟩ := zNm h
 exact zAbq (hr _ (zAd (zGy (g := g) (by omega) g.Reps.length (Nat.le_refl _))))
theorem zDU {w : World} (h : zA3 w = true) : 1 ≤ w.Groups.length ∧ w.Groups.length ≤ 3 ∧ w.Txns.length ≤ 6 ∧ w.Looks.length ≤ 4 := by
 have hh : zB2 w = true := by simp only [zA3, Bool.and_eq_true] at h; exact h.1.1.1.1.1.1.1.1.1
 have h2 := zB3.1 hh
 simp only [zA3, Bool.and_eq_true, decide_eq_true_eq] at h
 obtain ⟨a1, _, a3, _⟩ := h2
 refine ⟨by omega, by omega, ?_, ?_⟩
 ·have := h.1.1.1.1.2; omega
 ·have := h.1.1.1.2; omega
theorem zOD (hS : zDs) (w : World) (hg : zA3 w = true) : ACall p_ 34 [.agg (World.row false w)] (fun r _ => r = .sl true 4 ((w.Groups.map zBp).map (State.row true))) := by
 have hmx := zAf
 have hln := zDU hg
 have hLn : (w.Groups.map zBp).length = w.Groups.length := by simp
 have hLi : ∀ j, j < w.Groups.length → nth (w.Groups.map zBp) j = zBp (nth w.Groups j) := fun j hj => zF3 hj
 generalize hL : w.Groups.map zBp = L at *
 refine fg H34 fun E hE hH => ?_; simp only [go_sem, hE, hH, C34]
 repeat' (first | ((with_reducible apply ga) <;> refine gs fun h => ?_) | ((with_reducible apply an); · omega) | (with_reducible first | apply jn | apply both | apply an | exact ti) | exact fj | refine st ?_ | exact fm | refine s1 ?_)
 refine zAR w.Groups.length (fun j (_ : Unit) => ⟨[(3, .ref 4000000 0 j), (8, .sl false 3 (w.Groups.map (Group.row false))), (9, i64 w.Groups.length), (10, i64 j)], [(4000000, ⟨4, (L.take j).map (State.row true)⟩)]⟩) (fun _ _ => True) () rfl trivial ?_
 intro j _ hj _
 try simp only [go_sem, hE, hH, zUI]
 first | refine zAg (fun h => ?_) (fun h => ?_) | refine zAh (fun h => ?_) (fun h => ?_)
 ·have hb := h
  simp only [nf] at h
  have hlt : j < w.Groups.length := by omega
  clear h
  obtain ⟨hgo, -⟩ := zHt hg hlt
  have cS := zQi hS _ hgo
  rw [← hLi j hlt] at cS
  have hn : (L.take j).length = j := by rw [List.length_take]; omega
  have ht : (L.take j).take j = L.take j := by rw [List.take_take, Nat.min_self]
  try simp (disch := omega) only [go_sem, hE, hH, hn, hb]
  all_goals (have y1_ := hn; repeat' (first | ((with_reducible apply ga) <;> refine zBK fun h => ?_) | ((with_reducible apply an); · omega) | ((first | refine zAa ?_ | refine cvA (cS) ?_); refine zAq ?_) | (with_reducible first | apply jn | apply both | apply an | exact ti) | exact zE3 | refine zAq ?_ | exact zBM | refine zBL ?_))
  repeat' (first | (refine both ?_ ?_) | omega | ((first | apply zAC | apply zA9) <;> (simp only [go_sem, hE, hH, hn]; done)) | fail)
  all_goals try simp only [ht, hn]
  all_goals try first | omega | exact Nat.le_trans (Nat.mul_le_mul_right _ (show j + 1 ≤ 2 ^ 20 + 1 by omega)) (by decide)
  all_goals (
   refine ⟨(), ?_⟩
   rw [zAE (show j < L.length by omega), List.map_append]
   rfl)
 ·try simp (disch := omega) only [go_sem, hE, hH, h]
  simp only [nf] at h
  rw [show j = w.Groups.length by omega, ← hLn, List.take_length]
  repeat' (first | ((with_reducible apply ga) <;> refine gs fun h => ?_) | ((with_reducible apply an); · omega) | (with_reducible first | apply jn | apply both | apply an | exact ti) | exact fj | refine st ?_ | exact fm | refine s1 ?_)
  all_goals first | rfl
theorem zVD {w : World} (h : zA3 w = true) : zDr w.Cuts = true ∧ (w.Groups.length : Int) = w.Cuts.length + 1 := by
 have hh : zB2 w = true := by simp only [zA3, Bool.and_eq_true] at h; exact h.1.1.1.1.1.1.1.1.1
 have h2 := zB3.1 hh
 exact ⟨h2.2.1, h2.2.2.1⟩
theorem zIv {w : World} (h : zA3 w = true) : ∀ s ∈ w.Groups.map zBp, zA4 s.Cells = true := by
 intro s hs
 obtain ⟨g, hg, rfl⟩ := List.mem_map.1 hs
 obtain ⟨i, hi, rfl⟩ := List.getElem_of_mem hg
 have := (zHt h hi).1
 rw [zA5 hi] at this
 exact (zYu this).cells
theorem zVE {w : World} (h : zA3 w = true) : (w.Groups.map zBp).length = w.Cuts.length + 1 := by
 have := (zVD h).2
 rw [List.length_map]; omega
def zC3 (l : List Cell) (t : Int) : List Write := l.filterMap fun c => if (atC c t).2 = true then some ⟨c.Key, (atC c t).1, false⟩ else none
theorem zSe {l : List Cell} {t : Int} {j : Nat} (hj : j < l.length) (h : (atC (nth l j) t).2 = true) : zC3 (l.take (j + 1)) t = zC3 (l.take j) t ++ [⟨(nth l j).Key, (atC (nth l j) t).1, false⟩] := by
 rw [zAE hj, zC3, zC3, List.filterMap_append]
 simp [h]
theorem zQl {l : List Cell} {t : Int} {j : Nat} (hj : j < l.length) (h : (atC (nth l j) t).2 = false) : zC3 (l.take (j + 1)) t = zC3 (l.take j) t := by
 rw [zAE hj, zC3, zC3, List.filterMap_append]
 simp [h]
theorem zGz {l : List Cell} {t : Int} : (zC3 l t).length ≤ l.length := List.length_filterMap_le _ _
def zQm (l : List Write) : Prop := ∀ w ∈ l, w.Key.size ≤ 100 ∧ w.Val.size ≤ 100
theorem zOb {l : List Write} (h : zQm l) (hl : l.length ≤ 2 ^ 20) : wfL Write.wf l := by
 have hmx := zAf
 exact ⟨by omega, fun w hw => by have := h w hw; exact ⟨by omega, by omega⟩⟩
theorem zTJ {l : List Cell} {t : Int} (h : zA4 l = true) : zQm (zC3 l t) := by
 have hI := zBF h
 intro w hw
 rw [zC3, List.mem_filterMap] at hw
 obtain ⟨c, hc, e⟩ := hw
 obtain ⟨h1, h2⟩ := hI.wf c hc
 split at e
 ·cases e
  refine ⟨h1, ?_⟩
  show (atC c t).1.size ≤ 100
  rw [atC, zNn]
  cases hv : zEy c.Vers t c.Vers.length with
  | none => exact Nat.zero_le _
  | some v => exact h2 v (zQk (Nat.le_refl _) hv)
 ·cases e
def zFG (t : Int) (o : List Write) (s : State) : List Write := (zC3 s.Cells t).foldl zCt o
def zCL (L : List State) (t : Int) : List Write := L.foldl (zFG t) []
structure snapI (n : Nat) (o : List Write) : Prop where
 len : o.length ≤ 24 * n
 srt : zCd o
 sml : zQm o
theorem zJP : snapI 0 [] := ⟨Nat.le_refl _, fun i j _ h => absurd h (Nat.not_lt_zero _), fun w h => absurd h List.not_mem_nil⟩
theorem zJQ {n : Nat} {o : List Write} {s : State} {t : Int} (h : snapI n o) (hs : zA4 s.Cells = true) : snapI (n + 1) (zFG t o s) := by
 have h1 := (zBF hs).len
 have h2 := zGz (l := s.Cells) (t := t)
 have h3 := zJH (ws := zC3 s.Cells t) (l := o)
 refine ⟨?_, zJG h.srt, fun w hw => ?_⟩
 ·have := h.len; rw [zFG]; omega
 ·rcases zVg hw with q | q
  ·exact zTJ hs w q
  ·exact h.sml w q
theorem zTK (hC : zF5) (l : List Cell) (t : Int) (hl : l.length ≤ 2 ^ 20) (h1 : ∀ c ∈ l, c.Vers.length ≤ 2 ^ 60) : ACall p_ 85 [.sl false 2 (l.map (Cell.row false)), i64 t] (fun r _ => r = .sl true 3 ((zC3 l t).map (Write.row true))) := by
 have hmx := zAf
 refine fg H85 fun E hE hH => ?_; simp only [go_sem, hE, hH, C85]
 repeat' (first | ((with_reducible apply ga) <;> refine gs fun h => ?_) | ((with_reducible apply an); · omega) | (with_reducible first | apply jn | apply both | apply an | exact ti) | exact fj | refine st ?_ | exact fm | refine s1 ?_)
 refine zAR l.length (fun j (y : List Write) => ⟨[(1, i64 t), (5, .ref 6000000 0 y.length), (11, .sl false 2 (l.map (Cell.row false))), (12, i64 l.length), (13, i64 j)], [(6000000, ⟨3, y.map (Write.row true)⟩)]⟩) (fun j y => y = zC3 (l.take j) t) [] rfl rfl ?_
 intro j y hj hy
 have hyl : y.length ≤ l.length := by
  have := zGz (l := l.take j) (t := t)
  rw [← hy, List.length_take] at this; omega
 try simp only [go_sem, hE, hH, zU2]
 first | refine zAg (fun h => ?_) (fun h => ?_) | refine zAh (fun h => ?_) (fun h => ?_)
 ·have hb := h
  simp only [nf] at h
  have hlt : j < l.length := by omega
  clear h
  have cA := hC (nth l j) t (h1 _ (zAd hlt))
  have hin := zSe (t := t) hlt
  have hout := zQl (t := t) hlt
  rw [← hy] at hin hout
  generalize atC (nth l j) t = q at *
  rcases q with ⟨v, b⟩
  simp only at hin hout
  try refine sb ?_; try exact ⟨⟩
  repeat' (first | ((with_reducible apply ga) <;> refine gs fun h => ?_) | ((with_reducible apply an); · omega) | ((first | refine zAa ?_ | refine cvA (cA) ?_); refine st ?_) | (with_reducible first | apply jn | apply both | apply an | exact ti) | exact fj | refine st ?_ | exact fm | refine s1 ?_)
  all_goals try omega
  all_goals first | (rw [hin (by simp_all), List.length_append, List.map_append]; rfl) | (rw [hout (by simp_all)]; rfl) | (rw [hout (by simp_all)]; done)
 ·try simp (disch := omega) only [go_sem, hE, hH, h]
  simp only [nf] at h
  rw [show j = l.length by omega, List.take_length] at hy
  rw [← hy]
  repeat' (first | ((with_reducible apply ga) <;> refine gs fun h => ?_) | ((with_reducible apply an); · omega) | (with_reducible first | apply jn | apply both | apply an | exact ti) | exact fj | refine st ?_ | exact fm | refine s1 ?_)
  all_goals first | rfl
theorem zXe (l : List Cell) (t : Int) (hl : l.length ≤ 2 ^ 20) (h1 : ∀ c ∈ l, c.Vers.length ≤ 2 ^ 60) : ACall p_ 64 [.sl false 2 (l.map (Cell.row false)), i64 t] (fun r _ => r = .sl true 3 ((zC3 l t).map (Write.row true))) := by
 have hmx := zAf
 refine fg H64 fun E hE hH => ?_; simp only [go_sem, hE, hH, C64]
 repeat' (first | ((with_reducible apply ga) <;> refine gs fun h => ?_) | ((with_reducible apply an); · omega) | (with_reducible first | apply jn | apply both | apply an | exact ti) | exact fj | refine st ?_ | exact fm | refine s1 ?_)
 refine zAR l.length (fun j (y : List Write) => ⟨[(1, i64 t), (5, .ref 6000000 0 y.length), (10, .sl false 2 (l.map (Cell.row false))), (11, i64 l.length), (12, i64 j)], [(6000000, ⟨3, y.map (Write.row true)⟩)]⟩) (fun j y => y = zC3 (l.take j) t) [] rfl rfl ?_
 intro j y hj hy
 have hyl : y.length ≤ l.length := by
  have := zGz (l := l.take j) (t := t)
  rw [← hy, List.length_take] at this; omega
 try simp only [go_sem, hE, hH, zUX]
 first | refine zAg (fun h => ?_) (fun h => ?_) | refine zAh (fun h => ?_) (fun h => ?_)
 ·have hb := h
  simp only [nf] at h
  have hlt : j < l.length := by omega
  clear h
  have cA := zXd (nth l j) t (h1 _ (zAd hlt))
  have hin := zSe (t := t) hlt
  have hout := zQl (t := t) hlt
  rw [← hy] at hin hout
  rw [atC, zNn] at hin hout
  cases hv : zEy (nth l j).Vers t (nth l j).Vers.length with
  | none =>
   rw [hv] at cA hin hout
   rw [Option.getD_none, Option.isSome_none] at cA
   simp only at hin hout
   try refine sb ?_; try exact ⟨⟩
   repeat' (first | ((with_reducible apply ga) <;> refine gs fun h => ?_) | ((with_reducible apply an); · omega) | ((first | refine zAa ?_ | refine cvA (cA) ?_); refine st ?_) | (with_reducible first | apply jn | apply both | apply an | exact ti) | exact fj | refine st ?_ | exact fm | refine s1 ?_)
   all_goals try omega
   all_goals first | (rw [hout (by simp_all)]; rfl) | (rw [hout (by simp_all)]; done)
  | some v =>
   rw [hv] at cA hin hout
   rw [Option.getD_some, Option.isSome_some] at cA
   simp only at hin hout
   try refine sb ?_; try exact ⟨⟩
   repeat' (first | ((with_reducible apply ga) <;> refine gs fun h => ?_) | ((with_reducible apply an); · omega) | ((first | refine zAa ?_ | refine cvA (cA) ?_); refine st ?_) | (with_reducible first | apply jn | apply both | apply an | exact ti) | exact fj | refine st ?_ | exact fm | refine s1 ?_)
   all_goals try omega
   all_goals first | (rw [hin (by simp_all), List.length_append, List.map_append]; rfl) | (rw [hout (by simp_all)]; rfl) | (rw [hout (by simp_all)]; done)
 ·try simp (disch := omega) only [go_sem, hE, hH, h]
  simp only [nf] at h
  rw [show j = l.length by omega, List.take_length] at hy
  rw [← hy]
  repeat' (first | ((with_reducible apply ga) <;> refine gs fun h => ?_) | ((with_reducible apply an); · omega) | (with_reducible first | apply jn | apply both | apply an | exact ti) | exact fj | refine st ?_ | exact fm | refine s1 ?_)
  all_goals first | rfl
theorem zVF (hC : zF5) (L : List State) (t : Int) (hL : L.length ≤ 3) (hs : ∀ s ∈ L, zA4 s.Cells = true) : ACall p_ 33 [.sl false 4 (L.map (State.row false)), i64 t] (fun r _ => r = if zA0 (zCL L t) = true then .tup [.sl true 3 ((zCL L t).map (Write.row true)), bl true] else .tup [.sl true 3 [], bl false]) := by
 have hmx := zAf
 refine fg H33 fun E hE hH => ?_; simp only [go_sem, hE, hH, C33]
 repeat' (first | ((with_reducible apply ga) <;> refine gs fun h => ?_) | ((with_reducible apply an); · omega) | (with_reducible first | apply jn | apply both | apply an | exact ti) | exact fj | refine st ?_ | exact fm | refine s1 ?_)
 refine zAR L.length (fun j (x : List Write) => ⟨[(1, i64 t), (6, .ref 7000000 0 x.length), (12, .sl false 4 (L.map (State.row false))), (13, i64 L.length), (14, i64 j)], [(7000000, ⟨3, x.map (Write.row true)⟩)]⟩) (fun j x => x = (L.take j).foldl (zFG t) [] ∧ snapI j x) [] rfl ⟨rfl, zJP⟩ ?_
 intro j x hj hI
 obtain ⟨hx, hxI⟩ := hI
 have hxl := hxI.len
 try simp only [go_sem, hE, hH, zUH]
 first | refine zAg (fun h => ?_) (fun h => ?_) | refine zAh (fun h => ?_) (fun h => ?_)
 ·have hb := h
  simp only [nf] at h
  have hlt : j < L.length := by omega
  clear h
  have hgc := hs _ (zAd hlt)
  have hci := zBF hgc
  have hnx : (L.take (j + 1)).foldl (zFG t) [] = zFG t x (nth L j) := by rw [zEo hlt, ← hx]
  have hni := zJQ (t := t) hxI hgc
  rw [← hnx] at hni
  have hal := zGz (l := (nth L j).Cells) (t := t)
  have hcl := hci.len
  have cA := zTK hC (nth L j).Cells t (by omega) (fun c q => by have := (hci.one c q).2; omega)
  rw [zFG] at hnx
  generalize zC3 (nth L j).Cells t = a at *
  try refine sb ?_; try exact ⟨⟩
  repeat' (first | ((with_reducible apply ga) <;> refine gs fun h => ?_) | ((with_reducible apply an); · omega) | ((first | refine zAa ?_ | refine cvA (cA) ?_); refine st ?_) | (with_reducible first | apply jn | apply both | apply an | exact ti) | exact fj | refine st ?_ | exact fm | refine s1 ?_)
  refine zAR a.length (fun i (y : List Write) => ⟨[(1, i64 t), (6, .ref 7000000 0 y.length), (12, .sl false 4 (L.map (State.row false))), (13, i64 L.length), (14, i64 j), (21, .ref 22000000 0 a.length), (22, i64 a.length), (23, i64 i)], [(7000000, ⟨3, y.map (Write.row true)⟩), (22000000, ⟨3, a.map (Write.row true)⟩)]⟩) (fun i y => y = (a.take i).foldl zCt x) x rfl rfl ?_
  intro i y hi hy
  have hyl : y.length ≤ 2 ^ 10 := by
   have := zJH (ws := a.take i) (l := x)
   rw [← hy, List.length_take] at this; omega
  have hys : zCd y := by rw [hy]; exact zJG hxI.srt
  try simp only [go_sem, hE, hH, zUG]
  first | refine zAg (fun h2 => ?_) (fun h2 => ?_) | refine zAh (fun h2 => ?_) (fun h2 => ?_)
  ·have hb2 := h2
   simp only [nf] at h2
   have hlt2 : i < a.length := by omega
   clear h2
   try simp (disch := omega) only [go_sem, hE, hH, hb2]
   repeat' (first | ((with_reducible apply ga) <;> refine gs fun h => ?_) | ((with_reducible apply an); · omega) | (refine zAD [true, false] ?_; refine st ?_; refine cmA (zQT y (nth a i) (by omega) hys) ?_; refine st ?_) | refine jn _ ?_ ?_ | (with_reducible first | apply both | apply an | exact ti) | exact fe | refine st ?_ | exact fm | refine s1 ?_)
   all_goals first | (rw [zEo hlt2, ← hy]; rfl)
  ·try simp (disch := omega) only [go_sem, hE, hH, h2]
   simp only [nf] at h2
   rw [show i = a.length by omega, List.take_length, ← hnx] at hy
   repeat' (first | ((with_reducible apply ga) <;> refine gs fun h => ?_) | ((with_reducible apply an); · omega) | (with_reducible first | apply jn | apply both | apply an | exact ti) | exact fj | refine st ?_ | exact fm | refine s1 ?_)
   all_goals first | exact ⟨_, rfl, hy, by rw [hy]; exact hni⟩
 ·try simp (disch := omega) only [go_sem, hE, hH, h]
  simp only [nf] at h
  rw [show j = L.length by omega, List.take_length] at hx
  have e : zCL L t = x := by rw [zCL, hx]
  have cG := zIN x (zOb hxI.sml (by omega))
  rw [e]
  cases hg : zA0 x with
  | true =>
   rw [hg] at cG
   rw [if_pos rfl]
   repeat' (first | ((with_reducible apply ga) <;> refine gs fun h => ?_) | ((with_reducible apply an); · omega) | ((first | refine zAa ?_ | refine cvA (cG) ?_); refine st ?_) | (with_reducible first | apply jn | apply both | apply an | exact ti) | exact fj | refine st ?_ | exact fm | refine s1 ?_)
   all_goals first | rfl
  | false =>
   rw [hg] at cG
   rw [if_neg (by simp)]
   repeat' (first | ((with_reducible apply ga) <;> refine gs fun h => ?_) | ((with_reducible apply an); · omega) | ((first | refine zAa ?_ | refine cvA (cG) ?_); refine st ?_) | (with_reducible first | apply jn | apply both | apply an | exact ti) | exact fj | refine st ?_ | exact fm | refine s1 ?_)
   all_goals first | rfl
def zG2 (w : World) (t : Int) : List Write := zCL (w.Groups.map zBp) t
def zC4 (w : World) (t : Int) : Bool := zA3 w && rng t 0 100000 && zA0 (zG2 w t)
def zFV (w : World) (t : Int) : List Write := if zC4 w t = true then zG2 w t else []
def zIw (w : World) (t : Int) : T := .tup [.sl true 3 ((zFV w t).map (Write.row true)), bl (zC4 w t)]
theorem zE2 {w : World} {t : Int} (h : zC4 w t = false) : zIw w t = .tup [.sl true 3 [], bl false] := by
 rw [zIw, zFV, h]; rfl
theorem zOc {w : World} {t : Int} (h : zC4 w t = true) : zIw w t = .tup [.sl true 3 ((zCL (w.Groups.map zBp) t).map (Write.row true)), bl true] := by
 rw [zIw, zFV, h, if_pos rfl]; rfl
theorem zQ7 {L : List State} {t : Int} (hs : ∀ s ∈ L, zA4 s.Cells = true) : ∀ n, n ≤ L.length → snapI n ((L.take n).foldl (zFG t) []) := by
 intro n
 induction n with
 | zero => intro _; exact zJP
 | succ n ih =>
  intro hn
  rw [zEo (by omega)]
  exact zJQ (ih (by omega)) (hs _ (zAd (by omega)))
theorem zNo {w : World} {t : Int} (h : zA3 w = true) : snapI w.Groups.length (zG2 w t) := by
 have := zQ7 (t := t) (zIv h) (w.Groups.map zBp).length (Nat.le_refl _)
 rwa [List.take_length, List.length_map] at this
theorem zSf {α : Type} {f : α → Nat} {C : Nat} : ∀ {l : List α}, (∀ x ∈ l, f x ≤ C) → szL f l ≤ (C + 1) * l.length
 | [], _ => by simp [szL]
 | x :: l, h => by
  have h1 := zSf (l := l) fun y hy => h y (List.mem_cons_of_mem _ hy)
  have h2 := h x List.mem_cons_self
  simp only [szL, List.map_cons, List.sum_cons, List.length_cons, Nat.mul_succ] at h1 ⊢
  omega
theorem zXf {w : World} {t : Int} : szL Write.sz (zFV w t) ≤ 201 * (zFV w t).length := by
 refine zSf (C := 200) fun x hx => ?_
 rw [zFV] at hx
 split at hx
 ·rename_i h
  simp only [zC4, Bool.and_eq_true] at h
  have := (zNo (t := t) h.1.1).sml x hx
  unfold Write.sz; omega
 ·exact absurd hx List.not_mem_nil
theorem zVG {w : World} {t : Int} : (zFV w t).length ≤ 72 := by
 rw [zFV]
 split
 ·rename_i h
  simp only [zC4, Bool.and_eq_true] at h
  have h1 := (zNo (t := t) h.1.1).len
  obtain ⟨l1, l2, l3, l4⟩ := zDU h.1.1
  omega
 ·exact Nat.zero_le _
theorem zVH (hS : zDs) (hC : zF5) (w : World) (t : Int) (hw : zHR w) : ACall p_ 7 [.agg (World.row false w), i64 t] (fun r _ => r = zIw w t) := by
 have hmx := zAf
 have c1 := zP6 w hw
 have c2 := zFy t
 cases hg : zA3 w with
 | false =>
  rw [hg] at c1
  rw [zE2 (by rw [zC4, hg]; rfl)]
  refine fg H7 fun E hE hH => ?_; simp only [go_sem, hE, hH, C7]
  repeat' (first | ((with_reducible apply ga) <;> refine gs fun h => ?_) | ((with_reducible apply an); · omega) | ((first | refine zAa ?_ | refine cvA (c1) ?_); refine st ?_) | (with_reducible first | apply jn | apply both | apply an | exact ti) | exact fj | refine st ?_ | exact fm | refine s1 ?_)
  all_goals first | rfl
 | true =>
  rw [hg] at c1
  obtain ⟨l1, l2, l3, l4⟩ := zDU hg
  cases h2 : rng t 0 100000 with
  | false =>
   rw [h2] at c2
   rw [zE2 (by rw [zC4, hg, h2]; rfl)]
   refine fg H7 fun E hE hH => ?_; simp only [go_sem, hE, hH, C7]
   repeat' (first | ((with_reducible apply ga) <;> refine gs fun h => ?_) | ((with_reducible apply an); · omega) | ((first | refine zAa ?_ | refine cvA (c1) ?_ | refine cvA (c2) ?_); refine st ?_) | (with_reducible first | apply jn | apply both | apply an | exact ti) | exact fj | refine st ?_ | exact fm | refine s1 ?_)
   all_goals first | rfl | omega
  | true =>
   rw [h2] at c2
   have c3 := zOD hS w hg
   have hLn := zVE hg
   have hcl := (zVD hg).2
   have c4 := zVF hC (w.Groups.map zBp) t (by omega) (zIv hg)
   cases hq : zA0 (zCL (w.Groups.map zBp) t) with
   | true =>
    rw [zOc (by rw [zC4, hg, h2, zG2, hq]; rfl)]
    rw [hq, if_pos rfl] at c4
    generalize zCL (w.Groups.map zBp) t = o at *
    generalize w.Groups.map zBp = L at *
    refine fg H7 fun E hE hH => ?_; simp only [go_sem, hE, hH, C7]
    repeat' (first | ((with_reducible apply ga) <;> refine gs fun h => ?_) | ((with_reducible apply an); · omega) | ((first | refine zAa ?_ | refine cvA (c1) ?_ | refine cvA (c2) ?_ | refine cvA (c3) ?_ | refine cvA (c4) ?_); refine st ?_) | (with_reducible first | apply jn | apply both | apply an | exact ti) | exact fj | refine st ?_ | exact fm | refine s1 ?_)
    all_goals first | rfl | omega
   | false =>
    rw [zE2 (by rw [zC4, hg, h2, zG2, hq]; rfl)]
    rw [hq, if_neg (by simp)] at c4
    generalize zCL (w.Groups.map zBp) t = o at *
    generalize w.Groups.map zBp = L at *
    refine fg H7 fun E hE hH => ?_; simp only [go_sem, hE, hH, C7]
    repeat' (first | ((with_reducible apply ga) <;> refine gs fun h => ?_) | ((with_reducible apply an); · omega) | ((first | refine zAa ?_ | refine cvA (c1) ?_ | refine cvA (c2) ?_ | refine cvA (c3) ?_ | refine cvA (c4) ?_); refine st ?_) | (with_reducible first | apply jn | apply both | apply an | exact ti) | exact fj | refine st ?_ | exact fm | refine s1 ?_)
    all_goals first | rfl | omega
theorem zTL (w : World) (t : Int) (hg : zA3 w = true) : ACall p_ 23 [.agg (World.row false w), i64 t] (fun r _ => r = .sl true 3 ((zCL (w.Groups.map zBp) t).map (Write.row true))) := by
 have hmx := zAf
 have hln := zDU hg
 have hLn : (w.Groups.map zBp).length = w.Groups.length := by simp
 have hLi : ∀ j, j < w.Groups.length → nth (w.Groups.map zBp) j = zBp (nth w.Groups j) := fun j hj => zF3 hj
 have hs := zIv hg
 generalize w.Groups.map zBp = L at *
 refine fg H23 fun E hE hH => ?_; simp only [go_sem, hE, hH, C23]
 repeat' (first | ((with_reducible apply ga) <;> refine gs fun h => ?_) | ((with_reducible apply an); · omega) | (with_reducible first | apply jn | apply both | apply an | exact ti) | exact fj | refine st ?_ | exact fm | refine s1 ?_)
 refine zAR w.Groups.length (fun j (x : List Write) => ⟨[(1, i64 t), (5, .ref 6000000 0 x.length), (11, .sl false 3 (w.Groups.map (Group.row false))), (12, i64 w.Groups.length), (13, i64 j)], [(6000000, ⟨3, x.map (Write.row true)⟩)]⟩) (fun j x => x = (L.take j).foldl (zFG t) [] ∧ snapI j x) [] rfl ⟨rfl, zJP⟩ ?_
 intro j x hj hI
 obtain ⟨hx, hxI⟩ := hI
 have hxl := hxI.len
 try simp only [go_sem, hE, hH, zUB]
 first | refine zAg (fun h => ?_) (fun h => ?_) | refine zAh (fun h => ?_) (fun h => ?_)
 ·have hb := h
  simp only [nf] at h
  have hlt : j < w.Groups.length := by omega
  clear h
  obtain ⟨hgo, -⟩ := zHt hg hlt
  have cS := zTI _ hgo
  rw [← hLi j hlt] at cS
  have hltL : j < L.length := by omega
  have hgc := hs _ (zAd hltL)
  have hci := zBF hgc
  have hnx : (L.take (j + 1)).foldl (zFG t) [] = zFG t x (nth L j) := by rw [zEo hltL, ← hx]
  have hni := zJQ (t := t) hxI hgc
  rw [← hnx] at hni
  have hal := zGz (l := (nth L j).Cells) (t := t)
  have hcl := hci.len
  have cA := zXe (nth L j).Cells t (by omega) (fun c q => by have := (hci.one c q).2; omega)
  rw [zFG] at hnx
  generalize zC3 (nth L j).Cells t = a at *
  try refine sb ?_; try exact ⟨⟩
  repeat' (first | ((with_reducible apply ga) <;> refine gs fun h => ?_) | ((with_reducible apply an); · omega) | ((first | refine zAa ?_ | refine cvA (cS) ?_ | refine cvA (cA) ?_); refine st ?_) | (with_reducible first | apply jn | apply both | apply an | exact ti) | exact fj | refine st ?_ | exact fm | refine s1 ?_)
  refine zAR a.length (fun i (y : List Write) => ⟨[(1, i64 t), (5, .ref 6000000 0 y.length), (11, .sl false 3 (w.Groups.map (Group.row false))), (12, i64 w.Groups.length), (13, i64 j), (21, .ref 22000000 0 a.length), (22, i64 a.length), (23, i64 i)], [(6000000, ⟨3, y.map (Write.row true)⟩), (22000000, ⟨3, a.map (Write.row true)⟩)]⟩) (fun i y => y = (a.take i).foldl zCt x) x rfl rfl ?_
  intro i y hi hy
  have hyl : y.length ≤ 2 ^ 10 := by
   have := zJH (ws := a.take i) (l := x)
   rw [← hy, List.length_take] at this; omega
  have hys : zCd y := by rw [hy]; exact zJG hxI.srt
  try simp only [go_sem, hE, hH, zUA]
  first | refine zAg (fun h2 => ?_) (fun h2 => ?_) | refine zAh (fun h2 => ?_) (fun h2 => ?_)
  ·have hb2 := h2
   simp only [nf] at h2
   have hlt2 : i < a.length := by omega
   clear h2
   try simp (disch := omega) only [go_sem, hE, hH, hb2]
   repeat' (first | ((with_reducible apply ga) <;> refine gs fun h => ?_) | ((with_reducible apply an); · omega) | ((first | refine zAa ?_ | refine cvA (zVh y (nth a i) (by omega) hys) ?_); refine st ?_) | refine jn _ ?_ ?_ | (with_reducible first | apply both | apply an | exact ti) | exact fe | refine st ?_ | exact fm | refine s1 ?_)
   all_goals first | (rw [zEo hlt2, ← hy]; rfl)
  ·try simp (disch := omega) only [go_sem, hE, hH, h2]
   simp only [nf] at h2
   rw [show i = a.length by omega, List.take_length, ← hnx] at hy
   repeat' (first | ((with_reducible apply ga) <;> refine gs fun h => ?_) | ((with_reducible apply an); · omega) | (with_reducible first | apply jn | apply both | apply an | exact ti) | exact fj | refine st ?_ | exact fm | refine s1 ?_)
   all_goals first | exact ⟨_, rfl, hy, by rw [hy]; exact hni⟩
 ·try simp (disch := omega) only [go_sem, hE, hH, h]
  simp only [nf] at h
  rw [show j = L.length by omega, List.take_length] at hx
  rw [show zCL L t = x by rw [zCL, hx]]
  repeat' (first | ((with_reducible apply ga) <;> refine gs fun h => ?_) | ((with_reducible apply an); · omega) | (with_reducible first | apply jn | apply both | apply an | exact ti) | exact fj | refine st ?_ | exact fm | refine s1 ?_)
  all_goals first | rfl
theorem zTM (w : World) (t : Int) (hw : zHR w) : ACall p_ 5 [.agg (World.row false w), i64 t] (fun r _ => r = zIw w t) := by
 have hmx := zAf
 have c1 := zTp w hw
 have c2 := zGV t
 cases hg : zA3 w with
 | false =>
  rw [hg] at c1
  rw [zE2 (by rw [zC4, hg]; rfl)]
  refine fg H5 fun E hE hH => ?_; simp only [go_sem, hE, hH, C5]
  repeat' (first | ((with_reducible apply ga) <;> refine gs fun h => ?_) | ((with_reducible apply an); · omega) | ((first | refine zAa ?_ | refine cvA (c1) ?_); refine st ?_) | (with_reducible first | apply jn | apply both | apply an | exact ti) | exact fj | refine st ?_ | exact fm | refine s1 ?_)
  all_goals first | rfl
 | true =>
  rw [hg] at c1
  obtain ⟨l1, l2, l3, l4⟩ := zDU hg
  cases h2 : rng t 0 100000 with
  | false =>
   rw [h2] at c2
   rw [zE2 (by rw [zC4, hg, h2]; rfl)]
   refine fg H5 fun E hE hH => ?_; simp only [go_sem, hE, hH, C5]
   repeat' (first | ((with_reducible apply ga) <;> refine gs fun h => ?_) | ((with_reducible apply an); · omega) | ((first | refine zAa ?_ | refine cvA (c1) ?_ | refine cvA (c2) ?_); refine st ?_) | (with_reducible first | apply jn | apply both | apply an | exact ti) | exact fj | refine st ?_ | exact fm | refine s1 ?_)
   all_goals first | rfl | omega
  | true =>
   rw [h2] at c2
   have c3 := zTL w t hg
   have hI := zNo (t := t) hg
   rw [zG2] at hI
   have hIl := hI.len
   have c4 := zHp (zCL (w.Groups.map zBp) t) (zOb hI.sml (by omega))
   cases hq : zA0 (zCL (w.Groups.map zBp) t) with
   | true =>
    rw [zOc (by rw [zC4, hg, h2, zG2, hq]; rfl)]
    rw [hq] at c4
    generalize zCL (w.Groups.map zBp) t = o at *
    refine fg H5 fun E hE hH => ?_; simp only [go_sem, hE, hH, C5]
    repeat' (first | ((with_reducible apply ga) <;> refine gs fun h => ?_) | ((with_reducible apply an); · omega) | ((first | refine zAa ?_ | refine cvA (c1) ?_ | refine cvA (c2) ?_ | refine cvA (c3) ?_ | refine cvA (c4) ?_); refine st ?_) | (with_reducible first | apply jn | apply both | apply an | exact ti) | exact fj | refine st ?_ | exact fm | refine s1 ?_)
    all_goals first | rfl | omega
   | false =>
    rw [zE2 (by rw [zC4, hg, h2, zG2, hq]; rfl)]
    rw [hq] at c4
    generalize zCL (w.Groups.map zBp) t = o at *
    refine fg H5 fun E hE hH => ?_; simp only [go_sem, hE, hH, C5]
    repeat' (first | ((with_reducible apply ga) <;> refine gs fun h => ?_) | ((with_reducible apply an); · omega) | ((first | refine zAa ?_ | refine cvA (c1) ?_ | refine cvA (c2) ?_ | refine cvA (c3) ?_ | refine cvA (c4) ?_); refine st ?_) | (with_reducible first | apply jn | apply both | apply an | exact ti) | exact fj | refine st ?_ | exact fm | refine s1 ?_)
    all_goals first | rfl | omega
theorem zLn (hS : zDs) (hC : zF5) (vW : World) (vTime : Int) (wW : vW.wf) (wTime : -9223372036854775808 ≤ vTime ∧ vTime ≤ 9223372036854775807) : ACall p_ 3 [.agg (World.row false vW), i64 vTime] (fun r _ => r = bl true) := by
 have hmx := zAf
 have lW : vW.lim := World.lim_of wW
 refine fg H3 fun E hE hH => ?_; simp only [go_sem, hE, hH, C3]
 refine zAa ?_; simp (disch := omega) only [go_sem, hE, hH]; refine cvA (zSZ vW _ (by decide) (by decide) wW) ?_
 refine zAK ?_
 rintro r l ⟨n1, rfl, hn1, hsz1⟩
 try refine st ?_; try exact ⟨⟩
 first | refine zAg (fun h1 => ?_) (fun h1 => ?_) | refine zAh (fun h1 => ?_) (fun h1 => ?_)
 ·try simp (disch := omega) only [go_sem, hE, hH, h1]
 have hb1 := h1
 simp only [nf] at h1
 try simp (disch := omega) only [go_sem, hE, hH, hb1]
 have sW : vW.sz ≤ 2 ^ 20 := by have := hsz1 h1; omega
 have hmx := zAf
 have hp := zVl wW sW
 have hsz : vW.sz = vW.Clocks.length + szL (ByteArray.size) vW.Cuts + szL (Group.sz) vW.Groups + szL (szL (Lock.sz)) vW.Locks + vW.Promised.length + szL (WorldTxn.sz) vW.Txns + szL (WorldLook.sz) vW.Looks := rfl
 have hlk : vW.Locks.length ≤ 2 ^ 62 := by have := zB7 (f := szL Lock.sz) (l := vW.Locks); omega
 have c1 := zVH hS hC vW vTime hp
 have c2 := zTM vW vTime hp
 have hol := zVG (w := vW) (t := vTime)
 have hoz := zXf (w := vW) (t := vTime)
 simp only [zIw] at c1 c2
 generalize zFV vW vTime = o at *
 generalize zC4 vW vTime = b at *
 have k1 := World.cntv_le vW
 have e1 := World.mkv_cnt vW 1
 have c_G := zA7 (c := Write.cnt) (s := Write.sz) Write.cnt_le (l := o)
 have e_G := zAs (f := Write.mk2) (c := Write.cnt) Write.mk2_cnt (l := o) (k := 1)
 repeat' (first | ((with_reducible apply ga) <;> refine gs fun h => ?_) | ((with_reducible apply an); · omega) | (refine zAD [true, false] ?_; refine st ?_; refine cmA (zPO vW 1 (by omega) (by omega) (by omega)) ?_; refine st ?_) | (refine zAD [true, false] ?_; refine st ?_; refine cmA (zIL o 1 (by omega) (by omega)) ?_; refine st ?_) | ((first | refine zAa ?_ | refine cvA (zS5 vW sW) ?_ | refine cvA (c2) ?_ | refine cvA (c1) ?_ | refine cvA (zTb vW vW lW) ?_ | refine cvA (zKy o o ⟨by omega, fun _ _ => trivial⟩) ?_ | refine cvA (zOq o 1 (by omega) (by omega)) ?_); refine st ?_) | (with_reducible first | apply jn | apply both | apply an | exact ti) | exact fj | refine st ?_ | exact fm | refine s1 ?_)
 all_goals omega
end Go.Proofs.Wb

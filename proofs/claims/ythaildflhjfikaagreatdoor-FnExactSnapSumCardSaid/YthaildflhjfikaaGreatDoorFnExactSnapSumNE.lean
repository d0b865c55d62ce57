import Derived.Test.YthaildflhjfikaaGreatDoorFnExactSnapSumN7
import Derived.Laws.Externs
set_option linter.all false
set_option maxHeartbeats 4000000
namespace Go.Proofs.Wb
open Tryz renaming prog → p_
open Go Go.Am
def zBk (l : List Rec) (j : Nat) : List Bool := (List.range j).map fun i => (zAU (zBG (l.take i)) (nth l i)).isSome
theorem zCQ (l : List Rec) (j : Nat) : (zBk l j).length = j := by simp [zBk]
theorem zFH (l : List Rec) (j : Nat) : zBk l (j + 1) = zBk l j ++ [(zAU (zBG (l.take j)) (nth l j)).isSome] := by simp [zBk, List.range_succ]
theorem zE4 {l : List Rec} {j : Nat} (h : j < l.length) : zBG (l.take (j + 1)) = zBw (zBG (l.take j)) (nth l j) := by
 rw [zAD h, zBG, List.foldl_append]; rfl
theorem zJz {l : List Rec} (hl : ∀ r ∈ l, zA8 r = true) (j : Nat) (hj : j ≤ l.length) : stI j (zBG (l.take j)) := by
 have := zPV (l := l.take j) fun r h => hl r (List.mem_of_mem_take h)
 rwa [List.length_take, Nat.min_eq_left hj] at this
def soF (l : List Rec) (j : Nat) : Option State → St
 | none => ⟨[(2, .ptr 3000000 0 0), (4, .ptr 5000000 0 0), (5, .ref 6000000 0 j), (12, .sl false 7 (l.map (Rec.row false))), (13, i64 l.length), (14, i64 j)], [(3000000, ⟨4, [[i64 0, zAI, zAI, zAI]]⟩), (5000000, ⟨4, [[i64 0, zAI, zAI, zAI]]⟩), (6000000, ⟨1, (zBk l j).map (fun b => [bl b])⟩)]⟩
 | some s => ⟨[(2, .ptr 3000000 0 0), (4, .ptr 5000000 0 0), (5, .ref 6000000 0 j), (12, .sl false 7 (l.map (Rec.row false))), (13, i64 l.length), (14, i64 j)], [(3000000, ⟨4, [[i64 0, zAI, zAI, zAI]]⟩), (5000000, ⟨4, [[i64 s.Floor, .ref 5000002 0 s.Cells.length, .ref 5000003 0 s.Held.length, .ref 5000004 0 s.Told.length]]⟩), (5000002, ⟨2, s.Cells.map (Cell.row true)⟩), (5000003, ⟨5, s.Held.map (Held.row true)⟩), (5000004, ⟨3, s.Told.map (Told.row true)⟩), (6000000, ⟨1, (zBk l j).map (fun b => [bl b])⟩)]⟩
theorem zTn (hS : zC2) (l : List Rec) (hl : ∀ r ∈ l, zA8 r = true) (hn : l.length ≤ 60) : ACall p_ 176 [.sl false 7 (l.map (Rec.row false))] (fun x _ => x = .tup [.agg (State.row true (zBG l)), .sl true 1 ((zBk l l.length).map (fun b => [bl b]))]) := by
 have hmx := zAf
 refine fg H176 fun E hE hH => ?_; simp only [go_sem, hE, hH, zZD]
 try refine st ?_; try exact ⟨⟩
 refine zA0 l.length (fun j x => soF l j x) (fun j x => x.getD st0 = zBG (l.take j)) none rfl rfl ?_
 intro j x hj hI
 have z1 : st0.Cells = [] := rfl
 have z2 : st0.Held = [] := rfl
 have z3 : st0.Told = [] := rfl
 have z4 : st0.Floor = 0 := rfl
 have hSI := zJz hl j hj
 rw [← hI] at hSI
 cases x with
 | none =>
  try simp only [go_sem, hE, hH, zMJ, soF]
  first | refine zAg (fun h => ?_) (fun h => ?_) | refine zAh (fun h => ?_) (fun h => ?_)
  ·have hb := h
   simp only [nf] at h
   have hlt : j < l.length := by omega
   have cA := zMb hS st0 (nth l j) hSI (by omega) (hl _ (zAc hlt))
   have hst : zBG (l.take (j + 1)) = zBw st0 (nth l j) := by rw [zE4 hlt, ← hI]; rfl
   have hdn : zBk l (j + 1) = zBk l j ++ [(zAU st0 (nth l j)).isSome] := by rw [zFH, ← hI]; rfl
   have hdl := zCQ l j
   have hdt : (zBk l j).take j = zBk l j := by rw [List.take_of_length_le (by omega)]
   cases hA : zAU st0 (nth l j) with
   | none =>
    rw [hA, zCn] at cA
    rw [hA] at hdn
    try refine sb ?_; try exact ⟨⟩
    all_goals (have y1_ := hdl; have y2_ := hdt; have y3_ := z1; have y4_ := z2; have y5_ := z3; have y6_ := z4; repeat' (first | ((with_reducible apply ga) <;> refine zIi fun h => ?_) | ((with_reducible apply an); · omega) | ((first | refine zAa ?_ | refine zSt (cA) ?_); refine zDd ?_) | (with_reducible first | apply jn | apply both | apply an | exact ti) | exact zIk | refine zDd ?_ | exact zIl | refine zIj ?_))
    all_goals try first | omega | rfl
    all_goals (
     refine ⟨none, ?_, by (first | (rw [hst, zBw, hA]; done) | (rw [hst, zBw, hA]; rfl))⟩
     rw [hdn, List.map_append]
     rfl)
   | some s' =>
    rw [hA, zCn] at cA
    rw [hA] at hdn
    try refine sb ?_; try exact ⟨⟩
    all_goals (have y1_ := hdl; have y2_ := hdt; have y3_ := z1; have y4_ := z2; have y5_ := z3; have y6_ := z4; repeat' (first | ((with_reducible apply ga) <;> refine zIi fun h => ?_) | ((with_reducible apply an); · omega) | ((first | refine zAa ?_ | refine zSt (cA) ?_); refine zDd ?_) | (with_reducible first | apply jn | apply both | apply an | exact ti) | exact zIk | refine zDd ?_ | exact zIl | refine zIj ?_))
    all_goals try first | omega | rfl
    all_goals (
     refine ⟨some s', ?_, by (first | (rw [hst, zBw, hA]; done) | (rw [hst, zBw, hA]; rfl))⟩
     rw [hdn, List.map_append]
     rfl)
  ·try simp (disch := omega) only [go_sem, hE, hH, h]
   simp only [nf] at h
   have hjl : j = l.length := by omega
   have hdl := zCQ l j
   rw [hjl, List.take_length] at hI
   subst hjl
   rw [← hI]
   simp [hdl, zHv, zAw]
   exact ⟨rfl, rfl, rfl, rfl⟩
 | some s =>
  try simp only [go_sem, hE, hH, zMJ, soF]
  first | refine zAg (fun h => ?_) (fun h => ?_) | refine zAh (fun h => ?_) (fun h => ?_)
  ·have hb := h
   simp only [nf] at h
   have hlt : j < l.length := by omega
   have cA := zMb hS s (nth l j) hSI (by omega) (hl _ (zAc hlt))
   have hst : zBG (l.take (j + 1)) = zBw s (nth l j) := by rw [zE4 hlt, ← hI]; rfl
   have hdn : zBk l (j + 1) = zBk l j ++ [(zAU s (nth l j)).isSome] := by rw [zFH, ← hI]; rfl
   have hdl := zCQ l j
   have hdt : (zBk l j).take j = zBk l j := by rw [List.take_of_length_le (by omega)]
   cases hA : zAU s (nth l j) with
   | none =>
    rw [hA, zCn] at cA
    rw [hA] at hdn
    try refine sb ?_; try exact ⟨⟩
    all_goals (have y1_ := hdl; have y2_ := hdt; repeat' (first | ((with_reducible apply ga) <;> refine zDR fun h => ?_) | ((with_reducible apply an); · omega) | ((first | refine zAa ?_ | refine cvA (cA) ?_); refine zBn ?_) | (with_reducible first | apply jn | apply both | apply an | exact ti) | exact zDT | refine zBn ?_ | exact zDU | refine zDS ?_))
    all_goals try first | omega | rfl
    all_goals (
     refine ⟨some s, ?_, by (first | (rw [hst, zBw, hA]; done) | (rw [hst, zBw, hA]; rfl))⟩
     rw [hdn, List.map_append]
     rfl)
   | some s' =>
    rw [hA, zCn] at cA
    rw [hA] at hdn
    try refine sb ?_; try exact ⟨⟩
    all_goals (have y1_ := hdl; have y2_ := hdt; repeat' (first | ((with_reducible apply ga) <;> refine zDR fun h => ?_) | ((with_reducible apply an); · omega) | ((first | refine zAa ?_ | refine cvA (cA) ?_); refine zBn ?_) | (with_reducible first | apply jn | apply both | apply an | exact ti) | exact zDT | refine zBn ?_ | exact zDU | refine zDS ?_))
    all_goals try first | omega | rfl
    all_goals (
     refine ⟨some s', ?_, by (first | (rw [hst, zBw, hA]; done) | (rw [hst, zBw, hA]; rfl))⟩
     rw [hdn, List.map_append]
     rfl)
  ·try simp (disch := omega) only [go_sem, hE, hH, h]
   simp only [nf] at h
   have hjl : j = l.length := by omega
   have hdl := zCQ l j
   rw [hjl, List.take_length] at hI
   subst hjl
   rw [← hI]
   simp [hdl, zHv, zAw]
def soG (l : List Rec) (j : Nat) : Option State → St
 | none => ⟨[(2, .ptr 3000000 0 0), (4, .ptr 5000000 0 0), (5, .ref 6000000 0 j), (10, .sl false 7 (l.map (Rec.row false))), (11, i64 l.length), (12, i64 j)], [(3000000, ⟨4, [[i64 0, zAI, zAI, zAI]]⟩), (5000000, ⟨4, [[i64 0, zAI, zAI, zAI]]⟩), (6000000, ⟨1, (zBk l j).map (fun b => [bl b])⟩)]⟩
 | some s => ⟨[(2, .ptr 3000000 0 0), (4, .ptr 5000000 0 0), (5, .ref 6000000 0 j), (10, .sl false 7 (l.map (Rec.row false))), (11, i64 l.length), (12, i64 j)], [(3000000, ⟨4, [[i64 0, zAI, zAI, zAI]]⟩), (5000000, ⟨4, [State.row false s]⟩), (6000000, ⟨1, (zBk l j).map (fun b => [bl b])⟩)]⟩
theorem zWG (l : List Rec) (hl : ∀ r ∈ l, zA8 r = true) (hn : l.length ≤ 60) : ACall p_ 157 [.sl false 7 (l.map (Rec.row false))] (fun x _ => x = .tup [.agg (State.row false (zBG l)), .sl true 1 ((zBk l l.length).map (fun b => [bl b]))]) := by
 have hmx := zAf
 refine fg H157 fun E hE hH => ?_; simp only [go_sem, hE, hH, zZu]
 try refine st ?_; try exact ⟨⟩
 refine zA0 l.length (fun j x => soG l j x) (fun j x => x.getD st0 = zBG (l.take j)) none rfl rfl ?_
 intro j x hj hI
 have z1 : st0.Cells = [] := rfl
 have z2 : st0.Held = [] := rfl
 have z3 : st0.Told = [] := rfl
 have z4 : st0.Floor = 0 := rfl
 have hSI := zJz hl j hj
 rw [← hI] at hSI
 cases x with
 | none =>
  try simp only [go_sem, hE, hH, zMI, soG]
  first | refine zAg (fun h => ?_) (fun h => ?_) | refine zAh (fun h => ?_) (fun h => ?_)
  ·have hb := h
   simp only [nf] at h
   have hlt : j < l.length := by omega
   have cA := zKs st0 (nth l j) hSI (by omega) (hl _ (zAc hlt))
   have hst : zBG (l.take (j + 1)) = zBw st0 (nth l j) := by rw [zE4 hlt, ← hI]; rfl
   have hdn : zBk l (j + 1) = zBk l j ++ [(zAU st0 (nth l j)).isSome] := by rw [zFH, ← hI]; rfl
   have hdl := zCQ l j
   have hdt : (zBk l j).take j = zBk l j := by rw [List.take_of_length_le (by omega)]
   cases hA : zAU st0 (nth l j) with
   | none =>
    rw [hA, Option.isSome_none] at cA
    simp only [zBR] at cA
    rw [hA] at hdn
    try refine sb ?_; try exact ⟨⟩
    all_goals (have y1_ := hdl; have y2_ := hdt; have y3_ := z1; have y4_ := z2; have y5_ := z3; have y6_ := z4; repeat' (first | ((with_reducible apply ga) <;> refine zIi fun h => ?_) | ((with_reducible apply an); · omega) | (refine zAa ?_; refine zDd ?_; refine zSt (cA) (And.intro (by (simp (disch := omega) only [go_sem, hE, hH, hdl, hdt, z1, z2, z3, z4]); done) (zAF ?_)); rintro _ _ ⟨q, rfl, _⟩; refine zDd ?_) | (with_reducible first | apply jn | apply both | apply an | exact ti) | exact zIk | refine zDd ?_ | exact zIl | refine zIj ?_))
    all_goals try first | omega | rfl
    all_goals (
     refine ⟨none, ?_, by (first | (rw [hst, zBw, hA]; done) | (rw [hst, zBw, hA]; rfl))⟩
     rw [hdn, List.map_append]
     rfl)
   | some s' =>
    rw [hA, Option.isSome_some] at cA
    simp only [zBR] at cA
    rw [hA] at hdn
    try refine sb ?_; try exact ⟨⟩
    all_goals (have y1_ := hdl; have y2_ := hdt; have y3_ := z1; have y4_ := z2; have y5_ := z3; have y6_ := z4; repeat' (first | ((with_reducible apply ga) <;> refine zIi fun h => ?_) | ((with_reducible apply an); · omega) | (refine zAa ?_; refine zDd ?_; refine zSt (cA) (And.intro (by (simp (disch := omega) only [go_sem, hE, hH, hdl, hdt, z1, z2, z3, z4]); done) (zAF ?_)); rintro _ _ ⟨q, rfl, hq⟩; refine zDd ?_) | (with_reducible first | apply jn | apply both | apply an | exact ti) | exact zIk | refine zDd ?_ | exact zIl | refine zIj ?_))
    all_goals try first | omega | rfl
    all_goals (
     obtain rfl := hq _ rfl
     refine ⟨some q, ?_, by (first | (rw [hst, zBw, hA]; done) | (rw [hst, zBw, hA]; rfl))⟩
     rw [hdn, List.map_append]
     rfl)
  ·try simp (disch := omega) only [go_sem, hE, hH, h]
   simp only [nf] at h
   have hjl : j = l.length := by omega
   have hdl := zCQ l j
   rw [hjl, List.take_length] at hI
   subst hjl
   rw [← hI]
   simp [hdl, zHv, zAw]
   exact ⟨rfl, rfl, rfl, rfl⟩
 | some s =>
  try simp only [go_sem, hE, hH, zMI, soG]
  first | refine zAg (fun h => ?_) (fun h => ?_) | refine zAh (fun h => ?_) (fun h => ?_)
  ·have hb := h
   simp only [nf] at h
   have hlt : j < l.length := by omega
   have cA := zKs s (nth l j) hSI (by omega) (hl _ (zAc hlt))
   have hst : zBG (l.take (j + 1)) = zBw s (nth l j) := by rw [zE4 hlt, ← hI]; rfl
   have hdn : zBk l (j + 1) = zBk l j ++ [(zAU s (nth l j)).isSome] := by rw [zFH, ← hI]; rfl
   have hdl := zCQ l j
   have hdt : (zBk l j).take j = zBk l j := by rw [List.take_of_length_le (by omega)]
   cases hA : zAU s (nth l j) with
   | none =>
    rw [hA, Option.isSome_none] at cA
    simp only [zBR] at cA
    rw [hA] at hdn
    try refine sb ?_; try exact ⟨⟩
    all_goals (have y1_ := hdl; have y2_ := hdt; repeat' (first | ((with_reducible apply ga) <;> refine zDR fun h => ?_) | ((with_reducible apply an); · omega) | (refine zAa ?_; refine zBn ?_; refine cvA (cA) ?_; refine zAF ?_; rintro _ _ ⟨q, rfl, _⟩; refine zBn ?_) | (with_reducible first | apply jn | apply both | apply an | exact ti) | exact zDT | refine zBn ?_ | exact zDU | refine zDS ?_))
    all_goals try first | omega | rfl
    all_goals (
     refine ⟨some s, ?_, by (first | (rw [hst, zBw, hA]; done) | (rw [hst, zBw, hA]; rfl))⟩
     rw [hdn, List.map_append]
     rfl)
   | some s' =>
    rw [hA, Option.isSome_some] at cA
    simp only [zBR] at cA
    rw [hA] at hdn
    try refine sb ?_; try exact ⟨⟩
    all_goals (have y1_ := hdl; have y2_ := hdt; repeat' (first | ((with_reducible apply ga) <;> refine zDR fun h => ?_) | ((with_reducible apply an); · omega) | (refine zAa ?_; refine zBn ?_; refine cvA (cA) ?_; refine zAF ?_; rintro _ _ ⟨q, rfl, hq⟩; refine zBn ?_) | (with_reducible first | apply jn | apply both | apply an | exact ti) | exact zDT | refine zBn ?_ | exact zDU | refine zDS ?_))
    all_goals try first | omega | rfl
    all_goals (
     obtain rfl := hq _ rfl
     refine ⟨some q, ?_, by (first | (rw [hst, zBw, hA]; done) | (rw [hst, zBw, hA]; rfl))⟩
     rw [hdn, List.map_append]
     rfl)
  ·try simp (disch := omega) only [go_sem, hE, hH, h]
   simp only [nf] at h
   have hjl : j = l.length := by omega
   have hdl := zCQ l j
   rw [hjl, List.take_length] at hI
   subst hjl
   rw [← hI]
   simp [hdl, zHv, zAw]
def zM9 (l : List Entry) : State := zBG (l.map Entry.Rec)
theorem zAaW {l : List Entry} (hl : ∀ e ∈ l, zA8 e.Rec = true) : stI l.length (zM9 l) := by
 have := zPV (l := l.map Entry.Rec) fun r h => by
  obtain ⟨e, he, rfl⟩ := List.mem_map.1 h
  exact hl e he
 rwa [List.length_map] at this
theorem zTo (hS : zC2) (l : List Entry) (hl : ∀ e ∈ l, zA8 e.Rec = true) (hn : l.length ≤ 60) : ACall p_ 144 [.sl false 8 (l.map (Entry.row false))] (fun x _ => x = .agg (State.row true (zM9 l))) := by
 have hmx := zAf
 have cO := zTn hS (l.map Entry.Rec) (fun r h => by obtain ⟨e, he, rfl⟩ := List.mem_map.1 h; exact hl e he) (by rw [List.length_map]; exact hn)
 refine fg H144 fun E hE hH => ?_; simp only [go_sem, hE, hH, zZm]
 try refine st ?_; try exact ⟨⟩
 refine zA0 l.length (fun j (_ : Unit) => ⟨[(2, .ptr 3000000 0 0), (3, .ref 4000000 0 j), (9, .sl false 8 (l.map (Entry.row false))), (10, i64 l.length), (11, i64 j)], [(3000000, ⟨4, [[i64 0, zAI, zAI, zAI]]⟩), (4000000, ⟨7, ((l.take j).map Entry.Rec).map (Rec.row false)⟩)]⟩) (fun _ _ => True) () rfl trivial ?_
 intro j x hj hI
 try simp only [go_sem, hE, hH, zRi]
 first | refine zAg (fun h => ?_) (fun h => ?_) | refine zAh (fun h => ?_) (fun h => ?_)
 ·have hb := h
  simp only [nf] at h
  have hlt : j < l.length := by omega
  have hjl : ((l.take j).map Entry.Rec).length = j := by simp; omega
  have hjt : (l.take j).take j = l.take j := by rw [List.take_take, Nat.min_self]
  have hs : (l.take (j + 1)).map Entry.Rec = (l.take j).map Entry.Rec ++ [(nth l j).Rec] := by rw [zAD hlt, List.map_append]; rfl
  have hg := getD_map (f := Entry.row false) hlt
  have hga : ∀ r, (((l.take j).map Entry.Rec).map (Rec.row false) ++ [r]).getD j [] = r := fun r => by
   have := zMC (f := Rec.row false) (l := (l.take j).map Entry.Rec) (r := r)
   rwa [hjl] at this
  try simp (disch := omega) only [go_sem, hE, hH, hjl, hjt, hg, hga, hb]
  all_goals (have y1_ := hjl; have y2_ := hjt; have y3_ := hg; have y4_ := hga; repeat' (first | ((with_reducible apply ga) <;> refine zJF fun h => ?_) | ((with_reducible apply an); · omega) | (with_reducible first | apply jn | apply both | apply an | exact ti) | exact zJH | refine zFu ?_ | exact zJI | refine zJG ?_))
  repeat' (first | (refine both ?_ ?_) | omega | ((first | apply zAN | apply zBs) <;> (simp only [go_sem, hE, hH]; done)) | fail)
  refine ⟨(), ?_⟩
  rw [hs, List.map_append]
  rfl
 ·try simp (disch := omega) only [go_sem, hE, hH, h]
  simp only [nf] at h
  have hjl : j = l.length := by omega
  rw [hjl, List.take_length]
  have hl2 : (l.map Entry.Rec).length = l.length := List.length_map _
  have hd : zM9 l = zBG (l.map Entry.Rec) := rfl
  rw [hd]
  try refine st ?_; try exact ⟨⟩
  all_goals (have y1_ := hl2; repeat' (first | ((with_reducible apply ga) <;> refine zCO fun h => ?_) | ((with_reducible apply an); · omega) | ((first | refine zAa ?_ | refine cvA (cO) ?_); refine zAR ?_) | (with_reducible first | apply jn | apply both | apply an | exact ti) | exact zES | refine zAR ?_ | exact zCH | refine zCG ?_))
theorem zQM (log : List Entry) (n : Nat) (hln : n ≤ log.length) (hmx0 : log.length ≤ maxLen) (l : List Entry) (hle : l = log.take n) (hl : ∀ e ∈ l, zA8 e.Rec = true) (hn : l.length ≤ 60) : ACall p_ 113 [.sl false 8 (log.map (Entry.row false)), i64 n] (fun x _ => x = .agg (State.row false (zM9 l))) := by
 have hmx := zAf
 have cO := zWG (l.map Entry.Rec) (fun r h => by obtain ⟨e, he, rfl⟩ := List.mem_map.1 h; exact hl e he) (by rw [List.length_map]; exact hn)
 have hll : l.length = n := by rw [hle, List.length_take]; omega
 refine fg H113 fun E hE hH => ?_; simp only [go_sem, hE, hH, zY1]
 try refine st ?_; try exact ⟨⟩
 repeat' (first | ((with_reducible apply ga) <;> refine gs fun h => ?_) | ((with_reducible apply an); · omega) | (with_reducible first | apply jn | apply both | apply an | exact ti) | exact fj | refine st ?_ | exact fm | refine s1 ?_)
 refine zA0 l.length (fun j (_ : Unit) => ⟨[(4, .ptr 5000000 0 0), (5, .ref 6000000 0 j), (12, .sl false 8 (l.map (Entry.row false))), (13, i64 l.length), (14, i64 j)], [(5000000, ⟨4, [[i64 0, zAI, zAI, zAI]]⟩), (6000000, ⟨7, ((l.take j).map Entry.Rec).map (Rec.row false)⟩)]⟩) (fun _ _ => True) () (by rw [hle, List.map_take, List.length_take, Nat.min_eq_left hln]; rfl) trivial ?_
 intro j x hj hI
 try simp only [go_sem, hE, hH, zRd]
 first | refine zAg (fun h => ?_) (fun h => ?_) | refine zAh (fun h => ?_) (fun h => ?_)
 ·have hb := h
  simp only [nf] at h
  have hlt : j < l.length := by omega
  have hjl : ((l.take j).map Entry.Rec).length = j := by simp; omega
  have hjt : (l.take j).take j = l.take j := by rw [List.take_take, Nat.min_self]
  have hs : (l.take (j + 1)).map Entry.Rec = (l.take j).map Entry.Rec ++ [(nth l j).Rec] := by rw [zAD hlt, List.map_append]; rfl
  have hg := getD_map (f := Entry.row false) hlt
  have hga : ∀ r, (((l.take j).map Entry.Rec).map (Rec.row false) ++ [r]).getD j [] = r := fun r => by
   have := zMC (f := Rec.row false) (l := (l.take j).map Entry.Rec) (r := r)
   rwa [hjl] at this
  try simp (disch := omega) only [go_sem, hE, hH, hjl, hjt, hg, hga, hb]
  all_goals (have y1_ := hjl; have y2_ := hjt; have y3_ := hg; have y4_ := hga; repeat' (first | ((with_reducible apply ga) <;> refine zJF fun h => ?_) | ((with_reducible apply an); · omega) | (with_reducible first | apply jn | apply both | apply an | exact ti) | exact zJH | refine zFu ?_ | exact zJI | refine zJG ?_))
  repeat' (first | (refine both ?_ ?_) | omega | ((first | apply zAN | apply zBs) <;> (simp only [go_sem, hE, hH]; done)) | fail)
  refine ⟨(), ?_⟩
  rw [hs, List.map_append]
  rfl
 ·try simp (disch := omega) only [go_sem, hE, hH, h]
  simp only [nf] at h
  have hjl : j = l.length := by omega
  rw [hjl, List.take_length]
  have hl2 : (l.map Entry.Rec).length = l.length := List.length_map _
  have hd : zM9 l = zBG (l.map Entry.Rec) := rfl
  rw [hd]
  have cO2 : ACall p_ 157 [.sl true 7 ((l.map Entry.Rec).map (Rec.row false))] (fun x a => x = .tup [.agg (State.row false (zBG (l.map Entry.Rec))), .sl true 1 ((zBk (l.map Entry.Rec) (l.map Entry.Rec).length).map (fun b => [bl b]))] ∧ a = [.any]) := zPr cO (by simp only [go_sem]; rfl) rfl
  try refine st ?_; try exact ⟨⟩
  all_goals (have y1_ := hl2; repeat' (first | ((with_reducible apply ga) <;> refine zCO fun h => ?_) | ((with_reducible apply an); · omega) | (refine zBj [true] ?_; refine zAR ?_; refine cmA (cO2) ?_; refine zAR ?_) | (with_reducible first | apply jn | apply both | apply an | exact ti) | exact zES | refine zAR ?_ | exact zCH | refine zCG ?_))
structure repG (r : Replica) : Prop where
 s0 : 0 ≤ r.Sure
 s1 : r.Sure ≤ r.Log.length
 len : r.Log.length ≤ 60
 good : ∀ e ∈ r.Log, zA8 e.Rec = true
theorem zXW {t : Int} {r : Replica} (h : zCc t r = true) : repG r := by
 simp only [zCc, zGJ, Bool.and_eq_true, decide_eq_true_eq] at h
 obtain ⟨⟨h1, h2⟩, h3⟩ := h
 have h3 := zBy.1 h3
 refine ⟨h3.1, h3.2, by omega, fun e he => ?_⟩
 obtain ⟨i, hi, rfl⟩ := List.getElem_of_mem he
 have := zAE.1 h1 i hi
 simp only [zBZ, Bool.and_eq_true] at this
 rw [← zA6 hi]
 exact this.1.2
theorem zNa {g : Group} (h : zBE g = true) : 3 ≤ g.Reps.length ∧ g.Reps.length ≤ 5 ∧ ∀ r ∈ g.Reps, repG r := by
 simp only [zBE, Bool.and_eq_true, Bool.or_eq_true, decide_eq_true_eq, List.all_eq_true] at h
 obtain ⟨⟨⟨h1, _⟩, _⟩, h4⟩ := h
 exact ⟨by omega, by omega, fun r hr => zXW (h4 r hr)⟩
def zWH (r : Replica) : State := zM9 (r.Log.take r.Sure.toNat)
theorem zJA {r : Replica} (h : repG r) : (∀ e ∈ r.Log.take r.Sure.toNat, zA8 e.Rec = true) ∧ (r.Log.take r.Sure.toNat).length ≤ 60 := by
 refine ⟨fun e he => h.good e (List.mem_of_mem_take he), ?_⟩
 have := h.len
 rw [List.length_take]; omega
theorem zAaX {r : Replica} (h : repG r) : stI 60 (zWH r) := by
 obtain ⟨h1, h2⟩ := zJA h
 have := zAaW h1
 exact ⟨this.cells, this.hlen, this.hsrt, this.hok, Nat.le_trans this.tlen h2, this.tsrt⟩
def zEm (g : Group) : Nat → Nat
 | 0 => 0
 | j + 1 => if (nth g.Reps (zEm g j)).Sure < (nth g.Reps j).Sure then j else zEm g j
theorem zGj {g : Group} (h : 0 < g.Reps.length) : ∀ j, j ≤ g.Reps.length → zEm g j < g.Reps.length
 | 0, _ => h
 | j + 1, hj => by
  rw [zEm]
  split
  ·omega
  ·exact zGj h j (by omega)
def zBl (g : Group) : State := zWH (nth g.Reps (zEm g g.Reps.length))
theorem zXX (g : Group) (h0 : 0 < g.Reps.length) (h1 : g.Reps.length ≤ 2 ^ 20) : ACall p_ 145 [.agg (Group.row false g)] (fun x _ => x = .agg (Replica.row false (nth g.Reps (zEm g g.Reps.length)))) := by
 have hmx := zAf
 refine fg H145 fun E hE hH => ?_; simp only [go_sem, hE, hH, zZn]
 try refine st ?_; try exact ⟨⟩
 repeat' (first | ((with_reducible apply ga) <;> refine gs fun h => ?_) | ((with_reducible apply an); · omega) | (with_reducible first | apply jn | apply both | apply an | exact ti) | exact fj | refine st ?_ | exact fm | refine s1 ?_)
 refine zA0 g.Reps.length (fun j (_ : Unit) => ⟨[(2, .ptr 3000000 0 0), (3, .ptr 4000000 0 0), (11, .sl false 3 (g.Reps.map (Replica.row false))), (12, i64 g.Reps.length), (13, i64 j)], [(3000000, ⟨3, [[bl false, zAI, i64 0]]⟩), (4000000, ⟨3, [Replica.row false (nth g.Reps (zEm g j))]⟩)]⟩) (fun _ _ => True) () rfl trivial ?_
 intro j _ hj _
 try simp only [go_sem, hE, hH, zRj]
 first | refine zAg (fun h => ?_) (fun h => ?_) | refine zAh (fun h => ?_) (fun h => ?_)
 ·have hb := h
  simp only [nf] at h
  have hlt : j < g.Reps.length := by omega
  try refine sb ?_; try exact ⟨⟩
  repeat' (first | ((with_reducible apply ga) <;> refine gs fun h => ?_) | ((with_reducible apply an); · omega) | (with_reducible first | apply jn | apply both | apply an | exact ti) | exact fj | refine st ?_ | exact fm | refine s1 ?_)
  all_goals (
   refine ⟨(), ?_⟩
   rw [zEm]
   split <;> first | rfl | (exfalso; omega))
 ·try simp (disch := omega) only [go_sem, hE, hH, h]
  simp only [nf] at h
  have hjl : j = g.Reps.length := by omega
  rw [hjl]
  exact ⟨rfl, rfl, rfl⟩
theorem zP3 (hS : zC2) (g : Group) (hg : zBE g = true) : ACall p_ 94 [.agg (Group.row false g)] (fun x _ => x = .agg (State.row true (zBl g))) := by
 have hmx := zAf
 obtain ⟨h3, h5, hr⟩ := zNa hg
 have hb := hr _ (zAc (zGj (g := g) (by omega) g.Reps.length (Nat.le_refl _)))
 obtain ⟨q1, q2⟩ := zJA hb
 refine fg H94 fun E hE hH => ?_; simp only [go_sem, hE, hH, C94]
 repeat' (first | ((with_reducible apply ga) <;> refine gs fun h => ?_) | ((with_reducible apply an); · omega) | ((first | refine zAa ?_ | refine cvA (zXX g (by omega) (by omega)) ?_ | refine cvA (zXM (nth g.Reps (zEm g g.Reps.length)) hb.s0 hb.s1) ?_ | refine cvA (zTo hS _ q1 q2) ?_); refine st ?_) | (with_reducible first | apply jn | apply both | apply an | exact ti) | exact fj | refine st ?_ | exact fm | refine s1 ?_)
 all_goals rfl
theorem zQN (r : Replica) (h : repG r) : ACall p_ 113 [.sl false 8 (r.Log.map (Entry.row false)), i64 r.Sure] (fun x _ => x = .agg (State.row false (zWH r))) := by
 have hmx := zAf
 obtain ⟨q1, q2⟩ := zJA h
 have h0 := h.s0
 have h1 := h.s1
 have hl := h.len
 have := zQM r.Log r.Sure.toNat (by omega) (by omega) _ rfl q1 q2
 rwa [Int.toNat_of_nonneg h0] at this
theorem zTp (g : Group) (hg : zBE g = true) : ACall p_ 72 [.agg (Group.row false g)] (fun x _ => x = .agg (State.row false (zBl g))) := by
 have hmx := zAf
 obtain ⟨h3, h5, hr⟩ := zNa hg
 have hlb := zGj (g := g) (by omega) g.Reps.length (Nat.le_refl _)
 have hb := hr _ (zAc hlb)
 refine fg H72 fun E hE hH => ?_; simp only [go_sem, hE, hH, C72]
 try refine st ?_; try exact ⟨⟩
 refine zA0 g.Reps.length (fun j (_ : Unit) => ⟨[(1, .ptr 2000000 0 0), (2, .ptr 3000000 0 0), (3, i64 (zEm g j)), (7, .sl false 3 (g.Reps.map (Replica.row false))), (8, i64 g.Reps.length), (9, i64 j)], [(2000000, ⟨3, [Group.row false g]⟩), (3000000, ⟨4, [[i64 0, zAI, zAI, zAI]]⟩)]⟩) (fun _ _ => True) () rfl trivial ?_
 intro j _ hj _
 try simp only [go_sem, hE, hH, zUx]
 first | refine zAg (fun h => ?_) (fun h => ?_) | refine zAh (fun h => ?_) (fun h => ?_)
 ·have hb := h
  simp only [nf] at h
  have hlt : j < g.Reps.length := by omega
  have hlj := zGj (g := g) (by omega) j hj
  try refine sb ?_; try exact ⟨⟩
  repeat' (first | ((with_reducible apply ga) <;> refine gs fun h => ?_) | ((with_reducible apply an); · omega) | (with_reducible first | apply jn | apply both | apply an | exact ti) | exact fj | refine st ?_ | exact fm | refine s1 ?_)
  all_goals (
   refine ⟨(), ?_⟩
   rw [zEm]
   split <;> first | rfl | (exfalso; omega))
 ·try simp (disch := omega) only [go_sem, hE, hH, h]
  simp only [nf] at h
  have hjl : j = g.Reps.length := by omega
  rw [hjl]
  try refine st ?_; try exact ⟨⟩
  repeat' (first | ((with_reducible apply ga) <;> refine gs fun h => ?_) | ((with_reducible apply an); · omega) | ((first | refine zAa ?_ | refine cvA (zQN _ hb) ?_); refine st ?_) | (with_reducible first | apply jn | apply both | apply an | exact ti) | exact fj | refine st ?_ | exact fm | refine s1 ?_)
  all_goals first | rfl
theorem zFQ {α : Type} {f : α → Nat} {C : Nat} : ∀ {l : List α}, (∀ x ∈ l, f x ≤ C) → szL f l ≤ (C + 1) * l.length
 | [], _ => by simp [szL]
 | x :: l, h => by
  have h1 := zFQ (l := l) fun y hy => h y (List.mem_cons_of_mem _ hy)
  have h2 := h x List.mem_cons_self
  simp only [szL, List.map_cons, List.sum_cons, List.length_cons, Nat.mul_succ] at h1 ⊢
  omega
theorem zP4 {l : List ByteArray} (h : zBU l = true) : ∀ x ∈ l, zAX x = true := by
 intro x hx
 obtain ⟨i, hi, rfl⟩ := List.getElem_of_mem hx
 simp only [zBU] at h
 have := zAE.1 h i hi
 simp only [Bool.and_eq_true, zA6 hi] at this
 exact this.1
theorem stI.sz {n : Nat} {s : State} (h : stI n s) (hn : n ≤ 1000) : s.sz ≤ 2 ^ 20 := by
 have hc := zBC h.cells
 have hl := hc.len
 have h1 : szL Cell.sz s.Cells ≤ (2000 + 1) * s.Cells.length := zFQ fun c q => by
  have h2 := (hc.one c q).2
  have h3 := hc.wf c q
  have h4 : szL Ver.sz c.Vers ≤ (100 + 1) * c.Vers.length := zFQ fun v hv => h3.2 v hv
  have h5 : (100 + 1) * c.Vers.length ≤ (100 + 1) * 16 := Nat.mul_le_mul_left _ (by omega)
  show c.Key.size + szL Ver.sz c.Vers ≤ 2000
  omega
 have h2 : szL Held.sz s.Held ≤ (2000 + 1) * s.Held.length := zFQ fun x q => by
  have h3 := zBQ (h.hok x q)
  have h4 : szL ByteArray.size x.Reads ≤ (100 + 1) * x.Reads.length := zFQ fun v hv => by
   have := zEh (zP4 h3.2.2.2.1 v hv); omega
  have h5 : szL Write.sz x.Writes ≤ (100 + 1) * x.Writes.length := zFQ fun v hv => by
   obtain ⟨i, hi, rfl⟩ := List.getElem_of_mem hv
   have h6 := h3.2.2.1
   rw [zIw] at h6
   simp only [Bool.and_eq_true, Bool.not_eq_true', List.any_eq_false] at h6
   have h7 := zEh (zP4 h6.1.2 _ (List.mem_map.2 ⟨_, hv, rfl⟩))
   have h8 := h6.2 _ hv
   have h8 : stored (x.Writes[i]).Val (x.Writes[i]).Gone = true := by simpa using h8
   have := zHe h8
   show (x.Writes[i]).Key.size + (x.Writes[i]).Val.size ≤ 100
   omega
  have h6 : (100 + 1) * x.Reads.length ≤ (100 + 1) * 8 := Nat.mul_le_mul_left _ (by omega)
  have h7 : (100 + 1) * x.Writes.length ≤ (100 + 1) * 8 := Nat.mul_le_mul_left _ (by omega)
  show szL ByteArray.size x.Reads + szL Write.sz x.Writes ≤ 2000
  omega
 have h3 := h.tlen
 have h4 := h.hlen
 have h5 : (2000 + 1) * s.Cells.length ≤ (2000 + 1) * 24 := Nat.mul_le_mul_left _ (by omega)
 have h6 : (2000 + 1) * s.Held.length ≤ (2000 + 1) * 12 := Nat.mul_le_mul_left _ (by omega)
 show szL Cell.sz s.Cells + szL Held.sz s.Held + s.Told.length ≤ 2 ^ 20
 omega
def atL (l : List Ver) (t : Int) : Nat → ByteArray × Bool
 | 0 => (⟨#[]⟩, false)
 | n + 1 => if (nth l n).Time ≤ t then ((nth l n).Val, !(nth l n).Gone) else atL l t n
def atC (c : Cell) (t : Int) : ByteArray × Bool := atL c.Vers t c.Vers.length
def zEn (l : List Ver) (t : Int) : Nat → Option Ver
 | 0 => none
 | n + 1 => if (nth l n).Time ≤ t then some (nth l n) else zEn l t n
theorem zNb (l : List Ver) (t : Int) : ∀ n, atL l t n = match zEn l t n with | none => (⟨#[]⟩, false) | some v => (v.Val, !v.Gone)
 | 0 => rfl
 | n + 1 => by
  rw [atL, zEn]
  split
  ·rfl
  ·exact zNb l t n
theorem zP5 {l : List Ver} {t : Int} {v : Ver} : ∀ {n}, n ≤ l.length → zEn l t n = some v → v ∈ l
 | 0, _, h => by cases h
 | n + 1, hn, h => by
  rw [zEn] at h
  split at h
  ·cases h; exact zAc (by omega)
  ·exact zP5 (by omega) h
def ver0 : Ver := ⟨0, ⟨#[]⟩, false⟩
def zEQ : Prop := ∀ (c : Cell) (t : Int), c.Vers.length ≤ 2 ^ 60 → ACall p_ 137 [.agg (Cell.row false c), i64 t] (fun r _ => r = .tup [str (atC c t).1, bl (atC c t).2])
theorem zWI (c : Cell) (t : Int) (hl : c.Vers.length ≤ 2 ^ 60) : ACall p_ 112 [.agg (Cell.row false c), i64 t] (fun r _ => r = .tup [.agg (Ver.row false ((zEn c.Vers t c.Vers.length).getD ver0)), bl (zEn c.Vers t c.Vers.length).isSome]) := by
 have hmx := zAf
 refine fg H112 fun E hE hH => ?_; simp only [go_sem, hE, hH, zY0]
 repeat' (first | ((with_reducible apply ga) <;> refine gs fun h => ?_) | ((with_reducible apply an); · omega) | (with_reducible first | apply jn | apply both | apply an | exact ti) | exact fj | refine st ?_ | exact fm | refine s1 ?_)
 refine zAs c.Vers.length (fun j (x : Option Ver) => ⟨[(1, i64 t), (4, .ptr 5000000 0 0), (6, .ptr 7000000 0 0), (7, bl x.isSome), (11, .sl false 3 (c.Vers.map (Ver.row false))), (12, i64 c.Vers.length), (13, i64 j)], [(5000000, ⟨3, [[i64 0, str ⟨#[]⟩, bl false]]⟩), (7000000, ⟨3, [Ver.row false (x.getD ver0)]⟩)]⟩) (fun j x => x = zEn c.Vers t j) none rfl ?_
 intro j x hj hI
 try simp only [go_sem, hE, hH, zRc]
 first | refine zAg (fun h => ?_) (fun h => ?_) | refine zAh (fun h => ?_) (fun h => ?_)
 ·have hb := h
  simp only [nf] at h
  have hlt : j < c.Vers.length := by omega
  try refine sb ?_; try exact ⟨⟩
  repeat' (first | ((with_reducible apply ga) <;> refine gs fun h => ?_) | ((with_reducible apply an); · omega) | (with_reducible first | apply jn | apply both | apply an | exact ti) | exact fj | refine st ?_ | exact fm | refine s1 ?_)
  all_goals first | (rw [show zEn c.Vers t (j + 1) = some (nth c.Vers j) by rw [zEn, if_pos h]]; rfl) | (rw [show zEn c.Vers t (j + 1) = x by rw [zEn, if_neg (by omega), hI]]; rfl)
 ·try simp (disch := omega) only [go_sem, hE, hH, h]
  simp only [nf] at h
  rw [show j = c.Vers.length by omega] at hI
  subst hI
  repeat' (first | ((with_reducible apply ga) <;> refine gs fun h => ?_) | ((with_reducible apply an); · omega) | (with_reducible first | apply jn | apply both | apply an | exact ti) | exact fj | refine st ?_ | exact fm | refine s1 ?_)
  all_goals trace_state
theorem zHh {w : World} (h : zAY w = true) {j : Nat} (hj : j < w.Groups.length) : zBE (nth w.Groups j) = true ∧ ((nth w.Groups j).Reps.length : Int) = 3 := by
 simp only [zAY, Bool.and_eq_true] at h
 have h1 := h.1.1.1.1.1.1.1.1.2
 have := zAE.1 h1 j hj
 simp only [zFl, Bool.and_eq_true, decide_eq_true_eq] at this
 exact this.1
theorem zXY {g : Group} (h : zBE g = true) : stI 60 (zBl g) := by
 obtain ⟨h3, h5, hr⟩ := zNa h
 exact zAaX (hr _ (zAc (zGj (g := g) (by omega) g.Reps.length (Nat.le_refl _))))
theorem zDI {w : World} (h : zAY w = true) : 1 ≤ w.Groups.length ∧ w.Groups.length ≤ 3 ∧ w.Txns.length ≤ 6 ∧ w.Looks.length ≤ 4 := by
 have hh : zBV w = true := by simp only [zAY, Bool.and_eq_true] at h; exact h.1.1.1.1.1.1.1.1.1
 have h2 := zBW.1 hh
 simp only [zAY, Bool.and_eq_true, decide_eq_true_eq] at h
 obtain ⟨a1, _, a3, _⟩ := h2
 refine ⟨by omega, by omega, ?_, ?_⟩
 ·have := h.1.1.1.1.2; omega
 ·have := h.1.1.1.2; omega
theorem zOq (hS : zC2) (w : World) (hg : zAY w = true) : ACall p_ 51 [.agg (World.row false w)] (fun r _ => r = .sl true 4 ((w.Groups.map zBl).map (State.row true))) := by
 have hmx := zAf
 have hln := zDI hg
 have hLn : (w.Groups.map zBl).length = w.Groups.length := by simp
 have hLi : ∀ j, j < w.Groups.length → nth (w.Groups.map zBl) j = zBl (nth w.Groups j) := fun j hj => zFP hj
 generalize hL : w.Groups.map zBl = L at *
 refine fg H51 fun E hE hH => ?_; simp only [go_sem, hE, hH, C51]
 repeat' (first | ((with_reducible apply ga) <;> refine gs fun h => ?_) | ((with_reducible apply an); · omega) | (with_reducible first | apply jn | apply both | apply an | exact ti) | exact fj | refine st ?_ | exact fm | refine s1 ?_)
 refine zA0 w.Groups.length (fun j (_ : Unit) => ⟨[(3, .ref 4000000 0 j), (8, .sl false 3 (w.Groups.map (Group.row false))), (9, i64 w.Groups.length), (10, i64 j)], [(4000000, ⟨4, (L.take j).map (State.row true)⟩)]⟩) (fun _ _ => True) () rfl trivial ?_
 intro j _ hj _
 try simp only [go_sem, hE, hH, zUq]
 first | refine zAg (fun h => ?_) (fun h => ?_) | refine zAh (fun h => ?_) (fun h => ?_)
 ·have hb := h
  simp only [nf] at h
  have hlt : j < w.Groups.length := by omega
  clear h
  obtain ⟨hgo, -⟩ := zHh hg hlt
  have cS := zP3 hS _ hgo
  rw [← hLi j hlt] at cS
  have hn : (L.take j).length = j := by rw [List.length_take]; omega
  have ht : (L.take j).take j = L.take j := by rw [List.take_take, Nat.min_self]
  try simp (disch := omega) only [go_sem, hE, hH, hn, hb]
  all_goals (have y1_ := hn; repeat' (first | ((with_reducible apply ga) <;> refine zCO fun h => ?_) | ((with_reducible apply an); · omega) | ((first | refine zAa ?_ | refine cvA (cS) ?_); refine zAR ?_) | (with_reducible first | apply jn | apply both | apply an | exact ti) | exact zES | refine zAR ?_ | exact zCH | refine zCG ?_))
  repeat' (first | (refine both ?_ ?_) | omega | ((first | apply zAN | apply zBs) <;> (simp only [go_sem, hE, hH, hn]; done)) | fail)
  all_goals try simp only [ht, hn]
  all_goals try first | omega | exact Nat.le_trans (Nat.mul_le_mul_right _ (show j + 1 ≤ 2 ^ 20 + 1 by omega)) (by decide)
  all_goals (
   refine ⟨(), ?_⟩
   rw [zAD (show j < L.length by omega), List.map_append]
   rfl)
 ·try simp (disch := omega) only [go_sem, hE, hH, h]
  simp only [nf] at h
  rw [show j = w.Groups.length by omega, ← hLn, List.take_length]
  repeat' (first | ((with_reducible apply ga) <;> refine gs fun h => ?_) | ((with_reducible apply an); · omega) | (with_reducible first | apply jn | apply both | apply an | exact ti) | exact fj | refine st ?_ | exact fm | refine s1 ?_)
  all_goals first | rfl
theorem zU9 {w : World} (h : zAY w = true) : zDk w.Cuts = true ∧ (w.Groups.length : Int) = w.Cuts.length + 1 := by
 have hh : zBV w = true := by simp only [zAY, Bool.and_eq_true] at h; exact h.1.1.1.1.1.1.1.1.1
 have h2 := zBW.1 hh
 exact ⟨h2.2.1, h2.2.2.1⟩
theorem zIg {w : World} (h : zAY w = true) : ∀ s ∈ w.Groups.map zBl, zAZ s.Cells = true := by
 intro s hs
 obtain ⟨g, hg, rfl⟩ := List.mem_map.1 hs
 obtain ⟨i, hi, rfl⟩ := List.getElem_of_mem hg
 have := (zHh h hi).1
 rw [zA6 hi] at this
 exact (zXY this).cells
theorem zVa {w : World} (h : zAY w = true) : (w.Groups.map zBl).length = w.Cuts.length + 1 := by
 have := (zU9 h).2
 rw [List.length_map]; omega
def zCW (l : List Cell) (t : Int) : List Write := l.filterMap fun c => if (atC c t).2 = true then some ⟨c.Key, (atC c t).1, false⟩ else none
theorem zRW {l : List Cell} {t : Int} {j : Nat} (hj : j < l.length) (h : (atC (nth l j) t).2 = true) : zCW (l.take (j + 1)) t = zCW (l.take j) t ++ [⟨(nth l j).Key, (atC (nth l j) t).1, false⟩] := by
 rw [zAD hj, zCW, zCW, List.filterMap_append]
 simp [h]
theorem zP6 {l : List Cell} {t : Int} {j : Nat} (hj : j < l.length) (h : (atC (nth l j) t).2 = false) : zCW (l.take (j + 1)) t = zCW (l.take j) t := by
 rw [zAD hj, zCW, zCW, List.filterMap_append]
 simp [h]
theorem zGk {l : List Cell} {t : Int} : (zCW l t).length ≤ l.length := List.length_filterMap_le _ _
def zMc (l : List Write) : Prop := ∀ w ∈ l, w.Key.size ≤ 100 ∧ w.Val.size ≤ 100
theorem zN1 {l : List Write} (h : zMc l) (hl : l.length ≤ 2 ^ 20) : wfL Write.wf l := by
 have hmx := zAf
 exact ⟨by omega, fun w hw => by have := h w hw; exact ⟨by omega, by omega⟩⟩
theorem zTq {l : List Cell} {t : Int} (h : zAZ l = true) : zMc (zCW l t) := by
 have hI := zBC h
 intro w hw
 rw [zCW, List.mem_filterMap] at hw
 obtain ⟨c, hc, e⟩ := hw
 obtain ⟨h1, h2⟩ := hI.wf c hc
 split at e
 ·cases e
  refine ⟨h1, ?_⟩
  show (atC c t).1.size ≤ 100
  rw [atC, zNb]
  cases hv : zEn c.Vers t c.Vers.length with
  | none => exact Nat.zero_le _
  | some v => exact h2 v (zP5 (Nat.le_refl _) hv)
 ·cases e
def zFs (t : Int) (o : List Write) (s : State) : List Write := (zCW s.Cells t).foldl zCm o
def zCI (L : List State) (t : Int) : List Write := L.foldl (zFs t) []
structure snapI (n : Nat) (o : List Write) : Prop where
 len : o.length ≤ 24 * n
 srt : zB6 o
 sml : zMc o
theorem zJB : snapI 0 [] := ⟨Nat.le_refl _, fun i j _ h => absurd h (Nat.not_lt_zero _), fun w h => absurd h List.not_mem_nil⟩
theorem zJC {n : Nat} {o : List Write} {s : State} {t : Int} (h : snapI n o) (hs : zAZ s.Cells = true) : snapI (n + 1) (zFs t o s) := by
 have h1 := (zBC hs).len
 have h2 := zGk (l := s.Cells) (t := t)
 have h3 := zJt (ws := zCW s.Cells t) (l := o)
 refine ⟨?_, zJs h.srt, fun w hw => ?_⟩
 ·have := h.len; rw [zFs]; omega
 ·rcases zUM hw with q | q
  ·exact zTq hs w q
  ·exact h.sml w q
theorem zTr (hC : zEQ) (l : List Cell) (t : Int) (hl : l.length ≤ 2 ^ 20) (h1 : ∀ c ∈ l, c.Vers.length ≤ 2 ^ 60) : ACall p_ 91 [.sl false 2 (l.map (Cell.row false)), i64 t] (fun r _ => r = .sl true 3 ((zCW l t).map (Write.row true))) := by
 have hmx := zAf
 refine fg H91 fun E hE hH => ?_; simp only [go_sem, hE, hH, C91]
 repeat' (first | ((with_reducible apply ga) <;> refine gs fun h => ?_) | ((with_reducible apply an); · omega) | (with_reducible first | apply jn | apply both | apply an | exact ti) | exact fj | refine st ?_ | exact fm | refine s1 ?_)
 refine zA0 l.length (fun j (y : List Write) => ⟨[(1, i64 t), (5, .ref 6000000 0 y.length), (11, .sl false 2 (l.map (Cell.row false))), (12, i64 l.length), (13, i64 j)], [(6000000, ⟨3, y.map (Write.row true)⟩)]⟩) (fun j y => y = zCW (l.take j) t) [] rfl rfl ?_
 intro j y hj hy
 have hyl : y.length ≤ l.length := by
  have := zGk (l := l.take j) (t := t)
  rw [← hy, List.length_take] at this; omega
 try simp only [go_sem, hE, hH, zUB]
 first | refine zAg (fun h => ?_) (fun h => ?_) | refine zAh (fun h => ?_) (fun h => ?_)
 ·have hb := h
  simp only [nf] at h
  have hlt : j < l.length := by omega
  clear h
  have cA := hC (nth l j) t (h1 _ (zAc hlt))
  have hin := zRW (t := t) hlt
  have hout := zP6 (t := t) hlt
  rw [← hy] at hin hout
  generalize atC (nth l j) t = q at *
  rcases q with ⟨v, b⟩
  simp only at hin hout
  try refine sb ?_; try exact ⟨⟩
  repeat' (first | ((with_reducible apply ga) <;> refine gs fun h => ?_) | ((with_reducible apply an); · omega) | ((first | refine zAa ?_ | refine cvA (cA) ?_); refine st ?_) | (with_reducible first | apply jn | apply both | apply an | exact ti) | exact fj | refine st ?_ | exact fm | refine s1 ?_)
  all_goals try omega
  all_goals first | (rw [hin (by simp_all), List.length_append, List.map_append]; rfl) | (rw [hout (by simp_all)]; rfl) | (rw [hout (by simp_all)]; done)
 ·try simp (disch := omega) only [go_sem, hE, hH, h]
  simp only [nf] at h
  rw [show j = l.length by omega, List.take_length] at hy
  rw [← hy]
  repeat' (first | ((with_reducible apply ga) <;> refine gs fun h => ?_) | ((with_reducible apply an); · omega) | (with_reducible first | apply jn | apply both | apply an | exact ti) | exact fj | refine st ?_ | exact fm | refine s1 ?_)
  all_goals first | rfl
theorem zWJ (l : List Cell) (t : Int) (hl : l.length ≤ 2 ^ 20) (h1 : ∀ c ∈ l, c.Vers.length ≤ 2 ^ 60) : ACall p_ 71 [.sl false 2 (l.map (Cell.row false)), i64 t] (fun r _ => r = .sl true 3 ((zCW l t).map (Write.row true))) := by
 have hmx := zAf
 refine fg H71 fun E hE hH => ?_; simp only [go_sem, hE, hH, C71]
 repeat' (first | ((with_reducible apply ga) <;> refine gs fun h => ?_) | ((with_reducible apply an); · omega) | (with_reducible first | apply jn | apply both | apply an | exact ti) | exact fj | refine st ?_ | exact fm | refine s1 ?_)
 refine zA0 l.length (fun j (y : List Write) => ⟨[(1, i64 t), (5, .ref 6000000 0 y.length), (10, .sl false 2 (l.map (Cell.row false))), (11, i64 l.length), (12, i64 j)], [(6000000, ⟨3, y.map (Write.row true)⟩)]⟩) (fun j y => y = zCW (l.take j) t) [] rfl rfl ?_
 intro j y hj hy
 have hyl : y.length ≤ l.length := by
  have := zGk (l := l.take j) (t := t)
  rw [← hy, List.length_take] at this; omega
 try simp only [go_sem, hE, hH, zUw]
 first | refine zAg (fun h => ?_) (fun h => ?_) | refine zAh (fun h => ?_) (fun h => ?_)
 ·have hb := h
  simp only [nf] at h
  have hlt : j < l.length := by omega
  clear h
  have cA := zWI (nth l j) t (h1 _ (zAc hlt))
  have hin := zRW (t := t) hlt
  have hout := zP6 (t := t) hlt
  rw [← hy] at hin hout
  rw [atC, zNb] at hin hout
  cases hv : zEn (nth l j).Vers t (nth l j).Vers.length with
  | none =>
   rw [hv] at cA hin hout
   rw [Option.getD_none, Option.isSome_none] at cA
   simp only at hin hout
   try refine sb ?_; try exact ⟨⟩
   repeat' (first | ((with_reducible apply ga) <;> refine gs fun h => ?_) | ((with_reducible apply an); · omega) | ((first | refine zAa ?_ | refine cvA (cA) ?_); refine st ?_) | (with_reducible first | apply jn | apply both | apply an | exact ti) | exact fj | refine st ?_ | exact fm | refine s1 ?_)
   all_goals try omega
   all_goals first | (rw [hout (by simp_all)]; rfl) | (rw [hout (by simp_all)]; done)
  | some v =>
   rw [hv] at cA hin hout
   rw [Option.getD_some, Option.isSome_some] at cA
   simp only at hin hout
   try refine sb ?_; try exact ⟨⟩
   repeat' (first | ((with_reducible apply ga) <;> refine gs fun h => ?_) | ((with_reducible apply an); · omega) | ((first | refine zAa ?_ | refine cvA (cA) ?_); refine st ?_) | (with_reducible first | apply jn | apply both | apply an | exact ti) | exact fj | refine st ?_ | exact fm | refine s1 ?_)
   all_goals try omega
   all_goals first | (rw [hin (by simp_all), List.length_append, List.map_append]; rfl) | (rw [hout (by simp_all)]; rfl) | (rw [hout (by simp_all)]; done)
 ·try simp (disch := omega) only [go_sem, hE, hH, h]
  simp only [nf] at h
  rw [show j = l.length by omega, List.take_length] at hy
  rw [← hy]
  repeat' (first | ((with_reducible apply ga) <;> refine gs fun h => ?_) | ((with_reducible apply an); · omega) | (with_reducible first | apply jn | apply both | apply an | exact ti) | exact fj | refine st ?_ | exact fm | refine s1 ?_)
  all_goals first | rfl
theorem zVb (hC : zEQ) (L : List State) (t : Int) (hL : L.length ≤ 3) (hs : ∀ s ∈ L, zAZ s.Cells = true) : ACall p_ 50 [.sl false 4 (L.map (State.row false)), i64 t] (fun r _ => r = if zAV (zCI L t) = true then .tup [.sl true 3 ((zCI L t).map (Write.row true)), bl true] else .tup [.sl true 3 [], bl false]) := by
 have hmx := zAf
 refine fg H50 fun E hE hH => ?_; simp only [go_sem, hE, hH, C50]
 repeat' (first | ((with_reducible apply ga) <;> refine gs fun h => ?_) | ((with_reducible apply an); · omega) | (with_reducible first | apply jn | apply both | apply an | exact ti) | exact fj | refine st ?_ | exact fm | refine s1 ?_)
 refine zA0 L.length (fun j (x : List Write) => ⟨[(1, i64 t), (6, .ref 7000000 0 x.length), (12, .sl false 4 (L.map (State.row false))), (13, i64 L.length), (14, i64 j)], [(7000000, ⟨3, x.map (Write.row true)⟩)]⟩) (fun j x => x = (L.take j).foldl (zFs t) [] ∧ snapI j x) [] rfl ⟨rfl, zJB⟩ ?_
 intro j x hj hI
 obtain ⟨hx, hxI⟩ := hI
 have hxl := hxI.len
 try simp only [go_sem, hE, hH, zUp]
 first | refine zAg (fun h => ?_) (fun h => ?_) | refine zAh (fun h => ?_) (fun h => ?_)
 ·have hb := h
  simp only [nf] at h
  have hlt : j < L.length := by omega
  clear h
  have hgc := hs _ (zAc hlt)
  have hci := zBC hgc
  have hnx : (L.take (j + 1)).foldl (zFs t) [] = zFs t x (nth L j) := by rw [zCw hlt, ← hx]
  have hni := zJC (t := t) hxI hgc
  rw [← hnx] at hni
  have hal := zGk (l := (nth L j).Cells) (t := t)
  have hcl := hci.len
  have cA := zTr hC (nth L j).Cells t (by omega) (fun c q => by have := (hci.one c q).2; omega)
  rw [zFs] at hnx
  generalize zCW (nth L j).Cells t = a at *
  try refine sb ?_; try exact ⟨⟩
  repeat' (first | ((with_reducible apply ga) <;> refine gs fun h => ?_) | ((with_reducible apply an); · omega) | ((first | refine zAa ?_ | refine cvA (cA) ?_); refine st ?_) | (with_reducible first | apply jn | apply both | apply an | exact ti) | exact fj | refine st ?_ | exact fm | refine s1 ?_)
  refine zA0 a.length (fun i (y : List Write) => ⟨[(1, i64 t), (6, .ref 7000000 0 y.length), (12, .sl false 4 (L.map (State.row false))), (13, i64 L.length), (14, i64 j), (21, .ref 22000000 0 a.length), (22, i64 a.length), (23, i64 i)], [(7000000, ⟨3, y.map (Write.row true)⟩), (22000000, ⟨3, a.map (Write.row true)⟩)]⟩) (fun i y => y = (a.take i).foldl zCm x) x rfl rfl ?_
  intro i y hi hy
  have hyl : y.length ≤ 2 ^ 10 := by
   have := zJt (ws := a.take i) (l := x)
   rw [← hy, List.length_take] at this; omega
  have hys : zB6 y := by rw [hy]; exact zJs hxI.srt
  try simp only [go_sem, hE, hH, zUo]
  first | refine zAg (fun h2 => ?_) (fun h2 => ?_) | refine zAh (fun h2 => ?_) (fun h2 => ?_)
  ·have hb2 := h2
   simp only [nf] at h2
   have hlt2 : i < a.length := by omega
   clear h2
   try simp (disch := omega) only [go_sem, hE, hH, hb2]
   repeat' (first | ((with_reducible apply ga) <;> refine gs fun h => ?_) | ((with_reducible apply an); · omega) | (refine zBj [true, false] ?_; refine st ?_; refine cmA (zQA y (nth a i) (by omega) hys) ?_; refine st ?_) | refine jn _ ?_ ?_ | (with_reducible first | apply both | apply an | exact ti) | exact fe | refine st ?_ | exact fm | refine s1 ?_)
   all_goals first | (rw [zCw hlt2, ← hy]; rfl)
  ·try simp (disch := omega) only [go_sem, hE, hH, h2]
   simp only [nf] at h2
   rw [show i = a.length by omega, List.take_length, ← hnx] at hy
   repeat' (first | ((with_reducible apply ga) <;> refine gs fun h => ?_) | ((with_reducible apply an); · omega) | (with_reducible first | apply jn | apply both | apply an | exact ti) | exact fj | refine st ?_ | exact fm | refine s1 ?_)
   all_goals first | exact ⟨_, rfl, hy, by rw [hy]; exact hni⟩
 ·try simp (disch := omega) only [go_sem, hE, hH, h]
  simp only [nf] at h
  rw [show j = L.length by omega, List.take_length] at hx
  have e : zCI L t = x := by rw [zCI, hx]
  have cG := zIx x (zN1 hxI.sml (by omega))
  rw [e]
  cases hg : zAV x with
  | true =>
   rw [hg] at cG
   rw [if_pos rfl]
   repeat' (first | ((with_reducible apply ga) <;> refine gs fun h => ?_) | ((with_reducible apply an); · omega) | ((first | refine zAa ?_ | refine cvA (cG) ?_); refine st ?_) | (with_reducible first | apply jn | apply both | apply an | exact ti) | exact fj | refine st ?_ | exact fm | refine s1 ?_)
   all_goals first | rfl
  | false =>
   rw [hg] at cG
   rw [if_neg (by simp)]
   repeat' (first | ((with_reducible apply ga) <;> refine gs fun h => ?_) | ((with_reducible apply an); · omega) | ((first | refine zAa ?_ | refine cvA (cG) ?_); refine st ?_) | (with_reducible first | apply jn | apply both | apply an | exact ti) | exact fj | refine st ?_ | exact fm | refine s1 ?_)
   all_goals first | rfl
def zGO (w : World) (t : Int) : List Write := zCI (w.Groups.map zBl) t
def zB1 (w : World) (t : Int) : Bool := zAY w && rng t 0 100000 && zAV (zGO w t)
def zEo (w : World) (t : Int) : List Write := if zB1 w t = true then zGO w t else []
def zGP (w : World) (t : Int) : T := .tup [.sl true 3 ((zEo w t).map (Write.row true)), bl (zB1 w t)]
theorem zER {w : World} {t : Int} (h : zB1 w t = false) : zGP w t = .tup [.sl true 3 [], bl false] := by
 rw [zGP, zEo, h]; rfl
theorem zN2 {w : World} {t : Int} (h : zB1 w t = true) : zGP w t = .tup [.sl true 3 ((zCI (w.Groups.map zBl) t).map (Write.row true)), bl true] := by
 rw [zGP, zEo, h, if_pos rfl]; rfl
theorem zQO {L : List State} {t : Int} (hs : ∀ s ∈ L, zAZ s.Cells = true) : ∀ n, n ≤ L.length → snapI n ((L.take n).foldl (zFs t) []) := by
 intro n
 induction n with
 | zero => intro _; exact zJB
 | succ n ih =>
  intro hn
  rw [zCw (by omega)]
  exact zJC (ih (by omega)) (hs _ (zAc (by omega)))
theorem zNc {w : World} {t : Int} (h : zAY w = true) : snapI w.Groups.length (zGO w t) := by
 have := zQO (t := t) (zIg h) (w.Groups.map zBl).length (Nat.le_refl _)
 rwa [List.take_length, List.length_map] at this
theorem zN3 {w : World} {t : Int} : (zEo w t).length ≤ 72 := by
 rw [zEo]
 split
 ·rename_i h
  simp only [zB1, Bool.and_eq_true] at h
  have h1 := (zNc (t := t) h.1.1).len
  obtain ⟨l1, l2, l3, l4⟩ := zDI h.1.1
  omega
 ·exact Nat.zero_le _
theorem zVc (hS : zC2) (hC : zEQ) (w : World) (t : Int) (hw : zFm w) : ACall p_ 25 [.agg (World.row false w), i64 t] (fun r _ => r = zGP w t) := by
 have hmx := zAf
 have c1 := zPR w hw
 have c2 := zFj t
 cases hg : zAY w with
 | false =>
  rw [hg] at c1
  rw [zER (by rw [zB1, hg]; rfl)]
  refine fg H25 fun E hE hH => ?_; simp only [go_sem, hE, hH, C25]
  repeat' (first | ((with_reducible apply ga) <;> refine gs fun h => ?_) | ((with_reducible apply an); · omega) | ((first | refine zAa ?_ | refine cvA (c1) ?_); refine st ?_) | (with_reducible first | apply jn | apply both | apply an | exact ti) | exact fj | refine st ?_ | exact fm | refine s1 ?_)
  all_goals first | rfl
 | true =>
  rw [hg] at c1
  obtain ⟨l1, l2, l3, l4⟩ := zDI hg
  cases h2 : rng t 0 100000 with
  | false =>
   rw [h2] at c2
   rw [zER (by rw [zB1, hg, h2]; rfl)]
   refine fg H25 fun E hE hH => ?_; simp only [go_sem, hE, hH, C25]
   repeat' (first | ((with_reducible apply ga) <;> refine gs fun h => ?_) | ((with_reducible apply an); · omega) | ((first | refine zAa ?_ | refine cvA (c1) ?_ | refine cvA (c2) ?_); refine st ?_) | (with_reducible first | apply jn | apply both | apply an | exact ti) | exact fj | refine st ?_ | exact fm | refine s1 ?_)
   all_goals first | rfl | omega
  | true =>
   rw [h2] at c2
   have c3 := zOq hS w hg
   have hLn := zVa hg
   have hcl := (zU9 hg).2
   have c4 := zVb hC (w.Groups.map zBl) t (by omega) (zIg hg)
   cases hq : zAV (zCI (w.Groups.map zBl) t) with
   | true =>
    rw [zN2 (by rw [zB1, hg, h2, zGO, hq]; rfl)]
    rw [hq, if_pos rfl] at c4
    generalize zCI (w.Groups.map zBl) t = o at *
    generalize w.Groups.map zBl = L at *
    refine fg H25 fun E hE hH => ?_; simp only [go_sem, hE, hH, C25]
    repeat' (first | ((with_reducible apply ga) <;> refine gs fun h => ?_) | ((with_reducible apply an); · omega) | ((first | refine zAa ?_ | refine cvA (c1) ?_ | refine cvA (c2) ?_ | refine cvA (c3) ?_ | refine cvA (c4) ?_); refine st ?_) | (with_reducible first | apply jn | apply both | apply an | exact ti) | exact fj | refine st ?_ | exact fm | refine s1 ?_)
    all_goals first | rfl | omega
   | false =>
    rw [zER (by rw [zB1, hg, h2, zGO, hq]; rfl)]
    rw [hq, if_neg (by simp)] at c4
    generalize zCI (w.Groups.map zBl) t = o at *
    generalize w.Groups.map zBl = L at *
    refine fg H25 fun E hE hH => ?_; simp only [go_sem, hE, hH, C25]
    repeat' (first | ((with_reducible apply ga) <;> refine gs fun h => ?_) | ((with_reducible apply an); · omega) | ((first | refine zAa ?_ | refine cvA (c1) ?_ | refine cvA (c2) ?_ | refine cvA (c3) ?_ | refine cvA (c4) ?_); refine st ?_) | (with_reducible first | apply jn | apply both | apply an | exact ti) | exact fj | refine st ?_ | exact fm | refine s1 ?_)
    all_goals first | rfl | omega
theorem zTs (w : World) (t : Int) (hg : zAY w = true) : ACall p_ 41 [.agg (World.row false w), i64 t] (fun r _ => r = .sl true 3 ((zCI (w.Groups.map zBl) t).map (Write.row true))) := by
 have hmx := zAf
 have hln := zDI hg
 have hLn : (w.Groups.map zBl).length = w.Groups.length := by simp
 have hLi : ∀ j, j < w.Groups.length → nth (w.Groups.map zBl) j = zBl (nth w.Groups j) := fun j hj => zFP hj
 have hs := zIg hg
 generalize w.Groups.map zBl = L at *
 refine fg H41 fun E hE hH => ?_; simp only [go_sem, hE, hH, C41]
 repeat' (first | ((with_reducible apply ga) <;> refine gs fun h => ?_) | ((with_reducible apply an); · omega) | (with_reducible first | apply jn | apply both | apply an | exact ti) | exact fj | refine st ?_ | exact fm | refine s1 ?_)
 refine zA0 w.Groups.length (fun j (x : List Write) => ⟨[(1, i64 t), (5, .ref 6000000 0 x.length), (11, .sl false 3 (w.Groups.map (Group.row false))), (12, i64 w.Groups.length), (13, i64 j)], [(6000000, ⟨3, x.map (Write.row true)⟩)]⟩) (fun j x => x = (L.take j).foldl (zFs t) [] ∧ snapI j x) [] rfl ⟨rfl, zJB⟩ ?_
 intro j x hj hI
 obtain ⟨hx, hxI⟩ := hI
 have hxl := hxI.len
 try simp only [go_sem, hE, hH, zUl]
 first | refine zAg (fun h => ?_) (fun h => ?_) | refine zAh (fun h => ?_) (fun h => ?_)
 ·have hb := h
  simp only [nf] at h
  have hlt : j < w.Groups.length := by omega
  clear h
  obtain ⟨hgo, -⟩ := zHh hg hlt
  have cS := zTp _ hgo
  rw [← hLi j hlt] at cS
  have hltL : j < L.length := by omega
  have hgc := hs _ (zAc hltL)
  have hci := zBC hgc
  have hnx : (L.take (j + 1)).foldl (zFs t) [] = zFs t x (nth L j) := by rw [zCw hltL, ← hx]
  have hni := zJC (t := t) hxI hgc
  rw [← hnx] at hni
  have hal := zGk (l := (nth L j).Cells) (t := t)
  have hcl := hci.len
  have cA := zWJ (nth L j).Cells t (by omega) (fun c q => by have := (hci.one c q).2; omega)
  rw [zFs] at hnx
  generalize zCW (nth L j).Cells t = a at *
  try refine sb ?_; try exact ⟨⟩
  repeat' (first | ((with_reducible apply ga) <;> refine gs fun h => ?_) | ((with_reducible apply an); · omega) | ((first | refine zAa ?_ | refine cvA (cS) ?_ | refine cvA (cA) ?_); refine st ?_) | (with_reducible first | apply jn | apply both | apply an | exact ti) | exact fj | refine st ?_ | exact fm | refine s1 ?_)
  refine zA0 a.length (fun i (y : List Write) => ⟨[(1, i64 t), (5, .ref 6000000 0 y.length), (11, .sl false 3 (w.Groups.map (Group.row false))), (12, i64 w.Groups.length), (13, i64 j), (21, .ref 22000000 0 a.length), (22, i64 a.length), (23, i64 i)], [(6000000, ⟨3, y.map (Write.row true)⟩), (22000000, ⟨3, a.map (Write.row true)⟩)]⟩) (fun i y => y = (a.take i).foldl zCm x) x rfl rfl ?_
  intro i y hi hy
  have hyl : y.length ≤ 2 ^ 10 := by
   have := zJt (ws := a.take i) (l := x)
   rw [← hy, List.length_take] at this; omega
  have hys : zB6 y := by rw [hy]; exact zJs hxI.srt
  try simp only [go_sem, hE, hH, zUk]
  first | refine zAg (fun h2 => ?_) (fun h2 => ?_) | refine zAh (fun h2 => ?_) (fun h2 => ?_)
  ·have hb2 := h2
   simp only [nf] at h2
   have hlt2 : i < a.length := by omega
   clear h2
   try simp (disch := omega) only [go_sem, hE, hH, hb2]
   repeat' (first | ((with_reducible apply ga) <;> refine gs fun h => ?_) | ((with_reducible apply an); · omega) | ((first | refine zAa ?_ | refine cvA (zUN y (nth a i) (by omega) hys) ?_); refine st ?_) | refine jn _ ?_ ?_ | (with_reducible first | apply both | apply an | exact ti) | exact fe | refine st ?_ | exact fm | refine s1 ?_)
   all_goals first | (rw [zCw hlt2, ← hy]; rfl)
  ·try simp (disch := omega) only [go_sem, hE, hH, h2]
   simp only [nf] at h2
   rw [show i = a.length by omega, List.take_length, ← hnx] at hy
   repeat' (first | ((with_reducible apply ga) <;> refine gs fun h => ?_) | ((with_reducible apply an); · omega) | (with_reducible first | apply jn | apply both | apply an | exact ti) | exact fj | refine st ?_ | exact fm | refine s1 ?_)
   all_goals first | exact ⟨_, rfl, hy, by rw [hy]; exact hni⟩
 ·try simp (disch := omega) only [go_sem, hE, hH, h]
  simp only [nf] at h
  rw [show j = L.length by omega, List.take_length] at hx
  rw [show zCI L t = x by rw [zCI, hx]]
  repeat' (first | ((with_reducible apply ga) <;> refine gs fun h => ?_) | ((with_reducible apply an); · omega) | (with_reducible first | apply jn | apply both | apply an | exact ti) | exact fj | refine st ?_ | exact fm | refine s1 ?_)
  all_goals first | rfl
theorem zTt (w : World) (t : Int) (hw : zFm w) : ACall p_ 16 [.agg (World.row false w), i64 t] (fun r _ => r = zGP w t) := by
 have hmx := zAf
 have c1 := zS6 w hw
 have c2 := zGH t
 cases hg : zAY w with
 | false =>
  rw [hg] at c1
  rw [zER (by rw [zB1, hg]; rfl)]
  refine fg H16 fun E hE hH => ?_; simp only [go_sem, hE, hH, C16]
  repeat' (first | ((with_reducible apply ga) <;> refine gs fun h => ?_) | ((with_reducible apply an); · omega) | ((first | refine zAa ?_ | refine cvA (c1) ?_); refine st ?_) | (with_reducible first | apply jn | apply both | apply an | exact ti) | exact fj | refine st ?_ | exact fm | refine s1 ?_)
  all_goals first | rfl
 | true =>
  rw [hg] at c1
  obtain ⟨l1, l2, l3, l4⟩ := zDI hg
  cases h2 : rng t 0 100000 with
  | false =>
   rw [h2] at c2
   rw [zER (by rw [zB1, hg, h2]; rfl)]
   refine fg H16 fun E hE hH => ?_; simp only [go_sem, hE, hH, C16]
   repeat' (first | ((with_reducible apply ga) <;> refine gs fun h => ?_) | ((with_reducible apply an); · omega) | ((first | refine zAa ?_ | refine cvA (c1) ?_ | refine cvA (c2) ?_); refine st ?_) | (with_reducible first | apply jn | apply both | apply an | exact ti) | exact fj | refine st ?_ | exact fm | refine s1 ?_)
   all_goals first | rfl | omega
  | true =>
   rw [h2] at c2
   have c3 := zTs w t hg
   have hI := zNc (t := t) hg
   rw [zGO] at hI
   have hIl := hI.len
   have c4 := zHd (zCI (w.Groups.map zBl) t) (zN1 hI.sml (by omega))
   cases hq : zAV (zCI (w.Groups.map zBl) t) with
   | true =>
    rw [zN2 (by rw [zB1, hg, h2, zGO, hq]; rfl)]
    rw [hq] at c4
    generalize zCI (w.Groups.map zBl) t = o at *
    refine fg H16 fun E hE hH => ?_; simp only [go_sem, hE, hH, C16]
    repeat' (first | ((with_reducible apply ga) <;> refine gs fun h => ?_) | ((with_reducible apply an); · omega) | ((first | refine zAa ?_ | refine cvA (c1) ?_ | refine cvA (c2) ?_ | refine cvA (c3) ?_ | refine cvA (c4) ?_); refine st ?_) | (with_reducible first | apply jn | apply both | apply an | exact ti) | exact fj | refine st ?_ | exact fm | refine s1 ?_)
    all_goals first | rfl | omega
   | false =>
    rw [zER (by rw [zB1, hg, h2, zGO, hq]; rfl)]
    rw [hq] at c4
    generalize zCI (w.Groups.map zBl) t = o at *
    refine fg H16 fun E hE hH => ?_; simp only [go_sem, hE, hH, C16]
    repeat' (first | ((with_reducible apply ga) <;> refine gs fun h => ?_) | ((with_reducible apply an); · omega) | ((first | refine zAa ?_ | refine cvA (c1) ?_ | refine cvA (c2) ?_ | refine cvA (c3) ?_ | refine cvA (c4) ?_); refine st ?_) | (with_reducible first | apply jn | apply both | apply an | exact ti) | exact fj | refine st ?_ | exact fm | refine s1 ?_)
    all_goals first | rfl | omega
abbrev sD (l : List UInt8) : T := .v (.string ⟨⟨l⟩⟩)
@[go_sem] theorem zAfW (a b : List UInt8) : (⟨⟨a⟩⟩ : ByteArray) ++ ⟨⟨b⟩⟩ = ⟨⟨a ++ b⟩⟩ := by
 apply ByteArray.ext
 rw [ByteArray.data_append]
 simp
@[go_sem] theorem zAfk (a : List UInt8) : (⟨⟨a⟩⟩ : ByteArray).size = a.length := rfl
theorem zXZ {u : Nat} (h : u < 256) : IntKind.u8.wrap (u : Int) = u := by
 simp [IntKind.wrap, IntKind.bits, IntKind.signed]; omega
@[go_sem] theorem zX3 (n : Int) : zCt [.v (.int .u8 n)] = true := rfl
def zGl (s : List UInt8) (i : Nat) : Bool := decide (48 ≤ (s.getD i 0).toNat) && decide ((s.getD i 0).toNat ≤ 57)
def zBx (s : List UInt8) : Nat := s.foldl (fun n c => 10 * n + (c.toNat - 48)) 0
def zHi (s : List UInt8) : Bool := decide (1 ≤ s.length) && decide (s.length ≤ 6) && !(decide ((s.getD 0 0).toNat = 48) && decide (1 < s.length))
def rdI (s : List UInt8) : Int := if zHi s && zAq (zGl s) s.length then (zBx s : Int) else -1
theorem zNd {a : UInt8} (h : 48 ≤ a.toNat) : UInt8.ofNat (48 + (a.toNat - 48)) = a := by
 rw [show 48 + (a.toNat - 48) = a.toNat by omega]; simp
theorem zN4 {s : List UInt8} {j : Nat} (h : j < s.length) : zBx (s.take (j + 1)) = 10 * zBx (s.take j) + ((s.getD j 0).toNat - 48) := by
 have e : s.take (j + 1) = s.take j ++ [s.getD j 0] := by
  rw [List.take_succ_eq_append_getElem h]; simp [List.getD, h]
 rw [e, zBx, List.foldl_append]; rfl
theorem zX0 (s : List UInt8) : zBx s ≤ 210 * 10 ^ s.length := by
 have h : ∀ (l : List UInt8) (n m : Nat), n ≤ 210 * m → l.foldl (fun n c => 10 * n + (c.toNat - 48)) n + 210 ≤ 210 * ((m + 1) * 10 ^ l.length) := by
  intro l
  induction l with
  | nil => intro n m h; simp; omega
  | cons a l ih =>
   intro n m h
   have ha : a.toNat < 256 := UInt8.toNat_lt _
   have := ih (10 * n + (a.toNat - 48)) (10 * m + 9) (by omega)
   simp only [List.foldl_cons, List.length_cons, Nat.pow_succ]
   refine Nat.le_trans this (Nat.mul_le_mul_left _ ?_)
   rw [show 10 * m + 9 + 1 = 10 * (m + 1) by omega, Nat.mul_comm (10 ^ l.length) 10, ← Nat.mul_assoc, Nat.mul_comm (m + 1) 10]
   exact Nat.le_refl _
 have := h s 0 0 (by omega)
 simp only [zBx]
 omega
theorem zAaZ {s : List UInt8} {j : Nat} (hj : j < s.length) (h : ¬ (48 ≤ (s.getD j 0).toNat ∧ (s.getD j 0).toNat ≤ 57)) : rdI s = -1 := by
 have : zAq (zGl s) s.length = false := zAz hj (by
  simp only [zGl, Bool.and_eq_false_iff, decide_eq_false_iff_not]; omega)
 rw [rdI, this]; simp
theorem zVd {s : List UInt8} {j : Nat} (hj : j < s.length) (h1 : 48 ≤ (s.getD j 0).toNat) (h2 : (s.getD j 0).toNat ≤ 57) (hv : zBx (s.take j) ≤ 210000000) : IntKind.i64.wrap (10 * (zBx (s.take j) : Int) + IntKind.i64.wrap (IntKind.u8.wrap (((s.getD j 0).toNat : Int) - 48))) = (zBx (s.take (j + 1)) : Int) := by
 have e : (((s.getD j 0).toNat : Int) - 48) = (((s.getD j 0).toNat - 48 : Nat) : Int) := by omega
 have e2 : IntKind.i64.wrap (((s.getD j 0).toNat - 48 : Nat) : Int) = (((s.getD j 0).toNat - 48 : Nat) : Int) := Go.IntWalk.i64_in _ (by omega)
 rw [e, zXZ (by omega), e2, Go.IntWalk.i64_in _ (by omega), zN4 hj]
 omega
theorem zJD (s : List UInt8) (hl : s.length ≤ 2 ^ 20) : ACall p_ 42 [sD s] (fun r _ => r = i64 (rdI s)) := by
 have hmx := zAf
 cases hs : zHi s with
 | false =>
  have e : rdI s = -1 := by rw [rdI, hs]; rfl
  simp only [zHi, Bool.and_eq_false_iff, decide_eq_false_iff_not, Bool.not_eq_false', Bool.and_eq_true, decide_eq_true_eq] at hs
  refine fg H42 fun E hE hH => ?_; simp only [go_sem, hE, hH, C42]
  all_goals (have y1_ := e; repeat' (first | ((with_reducible apply ga) <;> (intro h; have hb := h; (try simp only [nf, zBy, zGd] at h); simp (disch := omega) only [go_sem, hE, hH, e, hb]; (try clear hb))) | ((with_reducible apply an); · omega) | ((first | refine zAa ?_ | refine cvA (zBp _ _ _) ?_); refine zAR ?_) | refine jn _ ?_ ?_ | (with_reducible first | apply both | apply an | exact ti) | exact zJE | refine zAR ?_ | exact zCH | refine zCG ?_))
  all_goals first | omega | (exfalso; omega) | rfl
 | true =>
  have hs' := hs
  simp only [zHi, Bool.and_eq_true, decide_eq_true_eq, Bool.not_eq_true', Bool.and_eq_false_iff, decide_eq_false_iff_not] at hs
  obtain ⟨⟨h1, h2⟩, h3⟩ := hs
  refine fg H42 fun E hE hH => ?_; simp only [go_sem, hE, hH, C42]
  repeat' (first | ((with_reducible apply ga) <;> (intro h; have hb := h; (try simp only [nf, zBy, zGd] at h); simp (disch := omega) only [go_sem, hE, hH, hb]; (try clear hb))) | ((with_reducible apply an); · omega) | ((first | refine zAa ?_ | refine cvA (zBp _ _ _) ?_); refine st ?_) | refine jn _ ?_ ?_ | (with_reducible first | apply both | apply an | exact ti) | exact fe | refine st ?_ | exact fm | refine s1 ?_)
  all_goals try (exfalso; omega)
  all_goals try omega
  all_goals (
   refine zAs s.length (fun j (_ : Unit) => ⟨[(0, sD s), (3, i64 (zBx (s.take j))), (4, i64 j)], []⟩) (fun j _ => zAq (zGl s) j = true) () rfl ?_
   intro j _ hj hI
   have hb : (s.getD j 0).toNat < 256 := UInt8.toNat_lt _
   have hv := zX0 (s.take j)
   have hpow : 10 ^ (s.take j).length ≤ 10 ^ 6 := Nat.pow_le_pow_right (by omega) (by simp; omega)
   have hvb : zBx (s.take j) ≤ 210000000 := by omega
   try simp only [go_sem, hE, hH, zUm]
   first | refine zAg (fun q1 => ?_) (fun q1 => ?_) | refine zAh (fun q1 => ?_) (fun q1 => ?_)
   ·have hb1 := q1
    simp only [nf] at q1
    try simp (disch := omega) only [go_sem, hE, hH, hb1]
    repeat' (first | ((with_reducible apply ga) <;> (intro h; have hb := h; (try simp only [nf, zBy, zGd] at h); simp (disch := omega) only [go_sem, hE, hH, hb]; (try clear hb))) | ((with_reducible apply an); · omega) | refine jn _ ?_ ?_ | (with_reducible first | apply both | apply an | exact ti) | exact fe | refine st ?_ | exact fm | refine s1 ?_)
    all_goals first | (rw [zAaZ (show j < s.length by omega) (by omega)]; done) | exact ⟨(), by rw [zVd q1 (by omega) (by omega) hvb]; rfl, zAd hI (by simp only [zGl, Bool.and_eq_true, decide_eq_true_eq]; omega)⟩
   ·try simp (disch := omega) only [go_sem, hE, hH, q1]
    simp only [nf] at q1
    have ej : j = s.length := by omega
    subst ej
    have e : rdI s = (zBx s : Int) := by rw [rdI, hs', hI]; rfl
    rw [List.take_length, e])
def zCo (s : List UInt8) : Option Int :=
 if s.getD 0 0 = 45 then (if 1 ≤ rdI s.tail then some (-(rdI s.tail)) else none) else if 0 ≤ rdI s then some (rdI s) else none
abbrev zGm (q : Option Int) : T := .tup [i64 (q.getD 0), bl q.isSome]
theorem zMd {s : List UInt8} : -1 ≤ rdI s ∧ rdI s ≤ 999999 := by
 rw [rdI]
 split
 ·rename_i h
  simp only [Bool.and_eq_true] at h
  obtain ⟨hs, hd⟩ := h
  rw [zAE] at hd
  simp only [zHi, Bool.and_eq_true, decide_eq_true_eq] at hs
  have key : ∀ n, n ≤ s.length → zBx (s.take n) + 1 ≤ 10 ^ n := by
   intro n
   induction n with
   | zero => intro _; exact Nat.le_refl _
   | succ n ih =>
    intro hn
    have h1 := ih (by omega)
    have h2 := hd n (by omega)
    simp only [zGl, Bool.and_eq_true, decide_eq_true_eq] at h2
    rw [zN4 (by omega), Nat.pow_succ]
    omega
  have h1 := key s.length (Nat.le_refl _)
  rw [List.take_length] at h1
  have h2 : 10 ^ s.length ≤ 10 ^ 6 := Nat.pow_le_pow_right (by omega) hs.1.2
  omega
 ·omega
theorem zX1 {s : List UInt8} : -999999 ≤ (zCo s).getD 0 ∧ (zCo s).getD 0 ≤ 999999 := by
 have h1 := zMd (s := s)
 have h2 := zMd (s := s.tail)
 rw [zCo]
 split
 ·split
  ·rw [Option.getD_some]; omega
  ·rw [Option.getD_none]; omega
 ·split
  ·rw [Option.getD_some]; omega
  ·rw [Option.getD_none]; omega
def zFt (b : ByteArray) : Option Int := zCo b.data.toList
theorem zNe {b : ByteArray} : -999999 ≤ (zFt b).getD 0 ∧ (zFt b).getD 0 ≤ 999999 := zX1
abbrev zMe : Prop := ∀ s : List UInt8, s.length ≤ 100 → ACall p_ 52 [sD s, i64 (-999999), i64 999999] (fun r _ => r = zGm (zCo s))
theorem zQP (hR : zMe) (b : ByteArray) (hb : b.size ≤ 100) : ACall p_ 26 [str b] (fun r _ => r = zGm (zFt b)) := by
 have hmx := zAf
 have c1 : ACall p_ 52 [str b, i64 (-999999), i64 999999] (fun r _ => r = zGm (zFt b)) := hR b.data.toList hb
 generalize zFt b = q at *
 refine fg H26 fun E hE hH => ?_; simp only [go_sem, hE, hH, C26]
 repeat' (first | ((with_reducible apply ga) <;> refine gs fun h => ?_) | ((with_reducible apply an); · omega) | ((first | refine zAa ?_ | refine cvA (c1) ?_); refine st ?_) | (with_reducible first | apply jn | apply both | apply an | exact ti) | exact fj | refine st ?_ | exact fm | refine s1 ?_)
 all_goals first | rfl
theorem zWK (b : ByteArray) (hb : b.size ≤ 100) : ACall p_ 17 [str b] (fun r _ => r = zGm (zFt b)) := by
 have hmx := zAf
 obtain ⟨⟨s⟩⟩ := b
 have hb : s.length ≤ 100 := hb
 rw [show zFt ⟨⟨s⟩⟩ = zCo s from rfl]
 have h1 := zMd (s := s)
 have h2 := zMd (s := s.tail)
 rcases s with _ | ⟨a, r⟩
 ·have e : zCo [] = none := by decide
  have cR := zJD [] (by simp)
  have e2 : rdI [] = -1 := by decide
  rw [e]
  rw [e2] at cR
  simp only [zGm, Option.getD_some, Option.isSome_some, Option.getD_none, Option.isSome_none]
  refine fg H17 fun E hE hH => ?_; simp only [go_sem, hE, hH, C17]
  repeat' (first | ((with_reducible apply ga) <;> refine gs fun h => ?_) | ((with_reducible apply an); · omega) | ((first | refine zAa ?_ | refine cvA (cR) ?_); refine st ?_) | (with_reducible first | apply jn | apply both | apply an | exact ti) | exact fj | refine st ?_ | exact fm | refine s1 ?_)
  all_goals first | rfl | (exfalso; omega)
 ·rw [List.tail_cons] at h2
  have hlen : (a :: r).length = r.length + 1 := rfl
  have hdrop : List.drop 1 (a :: r) = r := rfl
  have htk : List.take r.length r = r := List.take_length
  have hg : (a :: r).getD 0 0 = a := rfl
  by_cases ha : a = 45
  ·subst ha
   have cR := zJD r (by simp at hb; omega)
   have h45 : UInt8.toNat 45 = 45 := rfl
   by_cases hv : 1 ≤ rdI r
   ·have e : zCo (45 :: r) = some (-(rdI r)) := by rw [zCo, hg, if_pos rfl, List.tail_cons, if_pos hv]
    rw [e]
    simp only [zGm, Option.getD_some, Option.isSome_some, Option.getD_none, Option.isSome_none]
    refine fg H17 fun E hE hH => ?_; simp only [go_sem, hE, hH, C17]
    all_goals (have y1_ := hg; have y2_ := hdrop; have y3_ := htk; have y4_ := hlen; have y5_ := h45; repeat' (first | ((with_reducible apply ga) <;> refine zK8 fun h => ?_) | ((with_reducible apply an); · omega) | ((first | refine zAa ?_ | refine cvA (cR) ?_); refine zDb ?_) | (with_reducible first | apply jn | apply both | apply an | exact ti) | exact zLa | refine zDb ?_ | exact zLb | refine zK9 ?_))
    all_goals first | rfl | (exfalso; omega) | (rw [Int.zero_sub]; done)
   ·have e : zCo (45 :: r) = none := by rw [zCo, hg, if_pos rfl, List.tail_cons, if_neg hv]
    rw [e]
    simp only [zGm, Option.getD_some, Option.isSome_some, Option.getD_none, Option.isSome_none]
    refine fg H17 fun E hE hH => ?_; simp only [go_sem, hE, hH, C17]
    all_goals (have y1_ := hg; have y2_ := hdrop; have y3_ := htk; have y4_ := hlen; have y5_ := h45; repeat' (first | ((with_reducible apply ga) <;> refine zK8 fun h => ?_) | ((with_reducible apply an); · omega) | ((first | refine zAa ?_ | refine cvA (cR) ?_); refine zDb ?_) | (with_reducible first | apply jn | apply both | apply an | exact ti) | exact zLa | refine zDb ?_ | exact zLb | refine zK9 ?_))
    all_goals first | rfl | (exfalso; omega) | (rw [Int.zero_sub]; done)
  ·have cR := zJD (a :: r) (by omega)
   have hat : a.toNat ≠ 45 := fun h => ha (UInt8.toNat_inj.1 h)
   by_cases hv : 0 ≤ rdI (a :: r)
   ·have e : zCo (a :: r) = some (rdI (a :: r)) := by rw [zCo, hg, if_neg ha, if_pos hv]
    rw [e]
    simp only [zGm, Option.getD_some, Option.isSome_some, Option.getD_none, Option.isSome_none]
    refine fg H17 fun E hE hH => ?_; simp only [go_sem, hE, hH, C17]
    all_goals (have y1_ := hg; have y2_ := hlen; repeat' (first | ((with_reducible apply ga) <;> refine zDR fun h => ?_) | ((with_reducible apply an); · omega) | ((first | refine zAa ?_ | refine cvA (cR) ?_); refine zBn ?_) | (with_reducible first | apply jn | apply both | apply an | exact ti) | exact zDT | refine zBn ?_ | exact zDU | refine zDS ?_))
    all_goals first | rfl | (exfalso; omega) | (rw [Int.zero_sub]; done)
   ·have e : zCo (a :: r) = none := by rw [zCo, hg, if_neg ha, if_neg hv]
    rw [e]
    simp only [zGm, Option.getD_some, Option.isSome_some, Option.getD_none, Option.isSome_none]
    refine fg H17 fun E hE hH => ?_; simp only [go_sem, hE, hH, C17]
    all_goals (have y1_ := hg; have y2_ := hlen; repeat' (first | ((with_reducible apply ga) <;> refine zDR fun h => ?_) | ((with_reducible apply an); · omega) | ((first | refine zAa ?_ | refine cvA (cR) ?_); refine zBn ?_) | (with_reducible first | apply jn | apply both | apply an | exact ti) | exact zDT | refine zBn ?_ | exact zDU | refine zDS ?_))
    all_goals first | rfl | (exfalso; omega) | (rw [Int.zero_sub]; done)
def addN (a : Int) (x : Write) : Int := a + (zFt x.Val).getD 0
def zDv (l : List Write) : Int := l.foldl addN 0
theorem zRX {l : List Write} : ∀ n, n ≤ l.length → -(999999 * (n : Int)) ≤ zDv (l.take n) ∧ zDv (l.take n) ≤ 999999 * n := by
 intro n
 induction n with
 | zero => intro _; exact ⟨Int.le_refl _, Int.le_refl _⟩
 | succ n ih =>
  intro hn
  have h1 := ih (by omega)
  have h2 := zNe (b := (nth l n).Val)
  rw [zDv, zCw (by omega), ← zDv, addN]
  omega
def zP7 (w : World) (t : Int) : T := .tup [i64 (if zB1 w t = true then zDv (zEo w t) else 0), bl (zB1 w t)]
theorem zN5 {w : World} {t : Int} : zMc (zEo w t) := by
 intro x hx
 rw [zEo] at hx
 split at hx
 ·rename_i h
  simp only [zB1, Bool.and_eq_true] at h
  exact (zNc (t := t) h.1.1).sml x hx
 ·exact absurd hx List.not_mem_nil
theorem zTu (hS : zC2) (hC : zEQ) (hR : zMe) (w : World) (t : Int) (hw : zFm w) : ACall p_ 7 [.agg (World.row false w), i64 t] (fun r _ => r = zP7 w t) := by
 have hmx := zAf
 have c1 := zVc hS hC w t hw
 have hol := zN3 (w := w) (t := t)
 have hsm := zN5 (w := w) (t := t)
 rw [zGP] at c1
 rw [zP7]
 generalize zEo w t = o at *
 cases hb : zB1 w t with
 | false =>
  rw [hb] at c1
  rw [if_neg (by simp)]
  refine fg H7 fun E hE hH => ?_; simp only [go_sem, hE, hH, zMG]
  repeat' (first | ((with_reducible apply ga) <;> refine gs fun h => ?_) | ((with_reducible apply an); · omega) | ((first | refine zAa ?_ | refine cvA (c1) ?_); refine st ?_) | (with_reducible first | apply jn | apply both | apply an | exact ti) | exact fj | refine st ?_ | exact fm | refine s1 ?_)
  all_goals first | rfl
 | true =>
  rw [hb] at c1
  rw [if_pos rfl]
  refine fg H7 fun E hE hH => ?_; simp only [go_sem, hE, hH, zMG]
  repeat' (first | ((with_reducible apply ga) <;> refine gs fun h => ?_) | ((with_reducible apply an); · omega) | ((first | refine zAa ?_ | refine cvA (c1) ?_); refine st ?_) | (with_reducible first | apply jn | apply both | apply an | exact ti) | exact fj | refine st ?_ | exact fm | refine s1 ?_)
  refine zA0 o.length (fun j (_ : Unit) => ⟨[(8, i64 (zDv (o.take j))), (21, .ref 22000000 0 o.length), (22, i64 o.length), (23, i64 j)], [(22000000, ⟨3, o.map (Write.row true)⟩)]⟩) (fun _ _ => True) () rfl trivial ?_
  intro j _ hj _
  have hs1 := zRX (l := o) j (by omega)
  try simp only [go_sem, hE, hH, zMF]
  first | refine zAg (fun h => ?_) (fun h => ?_) | refine zAh (fun h => ?_) (fun h => ?_)
  ·have hb := h
   simp only [nf] at h
   have hlt : j < o.length := by omega
   clear h
   have hsz := (hsm _ (zAc hlt)).2
   have cN := zQP hR (nth o j).Val hsz
   have hn := zNe (b := (nth o j).Val)
   have hx : zDv (o.take (j + 1)) = zDv (o.take j) + (zFt (nth o j).Val).getD 0 := by rw [zDv, zCw hlt, ← zDv, addN]
   generalize zFt (nth o j).Val = q at *
   try refine sb ?_; try exact ⟨⟩
   repeat' (first | ((with_reducible apply ga) <;> refine gs fun h => ?_) | ((with_reducible apply an); · omega) | ((first | refine zAa ?_ | refine cvA (cN) ?_); refine st ?_) | (with_reducible first | apply jn | apply both | apply an | exact ti) | exact fj | refine st ?_ | exact fm | refine s1 ?_)
   all_goals first | omega | exact ⟨(), by rw [hx]; rfl⟩
  ·try simp (disch := omega) only [go_sem, hE, hH, h]
   simp only [nf] at h
   rw [show j = o.length by omega, List.take_length]
   repeat' (first | ((with_reducible apply ga) <;> refine gs fun h => ?_) | ((with_reducible apply an); · omega) | (with_reducible first | apply jn | apply both | apply an | exact ti) | exact fj | refine st ?_ | exact fm | refine s1 ?_)
   all_goals first | rfl
theorem zQQ (w : World) (t : Int) (hw : zFm w) : ACall p_ 5 [.agg (World.row false w), i64 t] (fun r _ => r = zP7 w t) := by
 have hmx := zAf
 have c1 := zTt w t hw
 have hol := zN3 (w := w) (t := t)
 have hsm := zN5 (w := w) (t := t)
 rw [zGP] at c1
 rw [zP7]
 generalize zEo w t = o at *
 cases hb : zB1 w t with
 | false =>
  rw [hb] at c1
  rw [if_neg (by simp)]
  refine fg H5 fun E hE hH => ?_; simp only [go_sem, hE, hH, zMG]
  repeat' (first | ((with_reducible apply ga) <;> refine gs fun h => ?_) | ((with_reducible apply an); · omega) | ((first | refine zAa ?_ | refine cvA (c1) ?_); refine st ?_) | (with_reducible first | apply jn | apply both | apply an | exact ti) | exact fj | refine st ?_ | exact fm | refine s1 ?_)
  all_goals first | rfl
 | true =>
  rw [hb] at c1
  rw [if_pos rfl]
  refine fg H5 fun E hE hH => ?_; simp only [go_sem, hE, hH, zMG]
  repeat' (first | ((with_reducible apply ga) <;> refine gs fun h => ?_) | ((with_reducible apply an); · omega) | ((first | refine zAa ?_ | refine cvA (c1) ?_); refine st ?_) | (with_reducible first | apply jn | apply both | apply an | exact ti) | exact fj | refine st ?_ | exact fm | refine s1 ?_)
  refine zA0 o.length (fun j (_ : Unit) => ⟨[(8, i64 (zDv (o.take j))), (21, .ref 22000000 0 o.length), (22, i64 o.length), (23, i64 j)], [(22000000, ⟨3, o.map (Write.row true)⟩)]⟩) (fun _ _ => True) () rfl trivial ?_
  intro j _ hj _
  have hs1 := zRX (l := o) j (by omega)
  try simp only [go_sem, hE, hH, zMF]
  first | refine zAg (fun h => ?_) (fun h => ?_) | refine zAh (fun h => ?_) (fun h => ?_)
  ·have hb := h
   simp only [nf] at h
   have hlt : j < o.length := by omega
   clear h
   have hsz := (hsm _ (zAc hlt)).2
   have cN := zWK (nth o j).Val hsz
   have hn := zNe (b := (nth o j).Val)
   have hx : zDv (o.take (j + 1)) = zDv (o.take j) + (zFt (nth o j).Val).getD 0 := by rw [zDv, zCw hlt, ← zDv, addN]
   generalize zFt (nth o j).Val = q at *
   try refine sb ?_; try exact ⟨⟩
   repeat' (first | ((with_reducible apply ga) <;> refine gs fun h => ?_) | ((with_reducible apply an); · omega) | ((first | refine zAa ?_ | refine cvA (cN) ?_); refine st ?_) | (with_reducible first | apply jn | apply both | apply an | exact ti) | exact fj | refine st ?_ | exact fm | refine s1 ?_)
   all_goals first | omega | exact ⟨(), by rw [hx]; rfl⟩
  ·try simp (disch := omega) only [go_sem, hE, hH, h]
   simp only [nf] at h
   rw [show j = o.length by omega, List.take_length]
   repeat' (first | ((with_reducible apply ga) <;> refine gs fun h => ?_) | ((with_reducible apply an); · omega) | (with_reducible first | apply jn | apply both | apply an | exact ti) | exact fj | refine st ?_ | exact fm | refine s1 ?_)
   all_goals first | rfl
theorem zJ8 (hS : zC2) (hC : zEQ) (hR6 : zMe) (vW : World) (vTime : Int) (wW : vW.wf) (wTime : -9223372036854775808 ≤ vTime ∧ vTime ≤ 9223372036854775807) : ACall p_ 3 [.agg (World.row false vW), i64 vTime] (fun r _ => r = bl true) := by
 have hmx := zAf
 have lW : vW.lim := World.lim_of wW
 refine fg H3 fun E hE hH => ?_; simp only [go_sem, hE, hH, C3]
 refine zAa ?_; simp (disch := omega) only [go_sem, hE, hH]; refine cvA (zSH vW _ (by decide) (by decide) wW) ?_
 refine zAF ?_
 rintro r l ⟨n1, rfl, hn1, hsz1⟩
 try refine st ?_; try exact ⟨⟩
 first | refine zAg (fun h1 => ?_) (fun h1 => ?_) | refine zAh (fun h1 => ?_) (fun h1 => ?_)
 ·try simp (disch := omega) only [go_sem, hE, hH, h1]
 have hb1 := h1
 simp only [nf] at h1
 try simp (disch := omega) only [go_sem, hE, hH, hb1]
 have sW : vW.sz ≤ 2 ^ 20 := by have := hsz1 h1; omega
 have hmx := zAf
 have hp := zUR wW sW
 have hsz : vW.sz = vW.Clocks.length + szL (ByteArray.size) vW.Cuts + szL (Group.sz) vW.Groups + szL (szL (Lock.sz)) vW.Locks + vW.Promised.length + szL (WorldTxn.sz) vW.Txns + szL (WorldLook.sz) vW.Looks := rfl
 have c1 := zTu hS hC hR6 vW vTime hp
 have c2 := zQQ vW vTime hp
 simp only [zP7] at c1 c2
 generalize (if zB1 vW vTime = true then zDv (zEo vW vTime) else 0) = o at *
 generalize zB1 vW vTime = b at *
 repeat' (first | ((with_reducible apply ga) <;> refine gs fun h => ?_) | ((with_reducible apply an); · omega) | ((first | refine zAa ?_ | refine cvA (zSN vW sW) ?_ | refine cvA (c2) ?_ | refine cvA (c1) ?_ | refine cvA (zST vW vW lW) ?_); refine st ?_) | (with_reducible first | apply jn | apply both | apply an | exact ti) | exact fj | refine st ?_ | exact fm | refine s1 ?_)
 all_goals omega
end Go.Proofs.Wb

import Derived.Test.YtmhgijcckgijaaaGreatFnExactLookHoldsN7
import Derived.Laws.Externs
set_option linter.unusedSimpArgs false
set_option linter.unusedVariables false
set_option linter.unusedSectionVars false
namespace Go.Proofs.Wb
open Go Go.Am
def zBi (l : List Rec) (j : Nat) : List Bool := (List.range j).map fun i => (zAW (zBC (l.take i)) (nth l i)).isSome
theorem zCI (l : List Rec) (j : Nat) : (zBi l j).length = j := by simp [zBi]
theorem zFd (l : List Rec) (j : Nat) : zBi l (j + 1) = zBi l j ++ [(zAW (zBC (l.take j)) (nth l j)).isSome] := by simp [zBi, List.range_succ]
theorem zEE {l : List Rec} {j : Nat} (h : j < l.length) : zBC (l.take (j + 1)) = zBu (zBC (l.take j)) (nth l j) := by
 rw [zAI h, zBC, List.foldl_append]; rfl
theorem zIO {l : List Rec} (hl : ∀ r ∈ l, zA6 r = true) (j : Nat) (hj : j ≤ l.length) : stI j (zBC (l.take j)) := by
 have := zOR (l := l.take j) fun r h => hl r (List.mem_of_mem_take h)
 rwa [List.length_take, Nat.min_eq_left hj] at this
def soF (l : List Rec) (j : Nat) : Option State → St
 | none => ⟨[(2, .ptr 3000000 0 0), (4, .ptr 5000000 0 0), (5, .ref 6000000 0 j), (12, .sl false 7 (l.map (Rec.row false))), (13, i64 l.length), (14, i64 j)], [(3000000, ⟨4, [[i64 0, zAL, zAL, zAL]]⟩), (5000000, ⟨4, [[i64 0, zAL, zAL, zAL]]⟩), (6000000, ⟨1, (zBi l j).map (fun b => [bl b])⟩)]⟩
 | some s => ⟨[(2, .ptr 3000000 0 0), (4, .ptr 5000000 0 0), (5, .ref 6000000 0 j), (12, .sl false 7 (l.map (Rec.row false))), (13, i64 l.length), (14, i64 j)], [(3000000, ⟨4, [[i64 0, zAL, zAL, zAL]]⟩), (5000000, ⟨4, [[i64 s.Floor, .ref 5000002 0 s.Cells.length, .ref 5000003 0 s.Held.length, .ref 5000004 0 s.Told.length]]⟩), (5000002, ⟨2, s.Cells.map (Cell.row true)⟩), (5000003, ⟨5, s.Held.map (Held.row true)⟩), (5000004, ⟨3, s.Told.map (Told.row true)⟩), (6000000, ⟨1, (zBi l j).map (fun b => [bl b])⟩)]⟩
set_option maxHeartbeats 2000000 in
theorem zSe (hS : zDa) (l : List Rec) (hl : ∀ r ∈ l, zA6 r = true) (hn : l.length ≤ 60) : ACall Tryz.prog 184 [.sl false 7 (l.map (Rec.row false))] (fun x _ => x = .tup [.agg (State.row true (zBC l)), .sl true 1 ((zBi l l.length).map (fun b => [bl b]))]) := by
 have hmx := zAi
 refine fi H184 fun E hE hH => ?_; simp only [go_sem] at hE hH; simp only [go_sem, hE, hH, zX0]
 try simp (disch := omega) only [go_sem, hE, hH]
 refine zBg l.length (fun j x => soF l j x) (fun j x => x.getD st0 = zBC (l.take j)) none rfl rfl ?_
 intro j x hj hI
 have z1 : st0.Cells = [] := rfl
 have z2 : st0.Held = [] := rfl
 have z3 : st0.Told = [] := rfl
 have z4 : st0.Floor = 0 := rfl
 have hSI := zIO hl j hj
 rw [← hI] at hSI
 cases x with
 | none =>
  try simp only [go_sem, hE, hH, zLI, soF]
  first | refine zAa (fun h => ?_) (fun h => ?_) | refine zAb (fun h => ?_) (fun h => ?_)
  ·have hb := h
   simp only [nf] at h
   have hlt : j < l.length := by omega
   have cA := zLa hS st0 (nth l j) hSI (by omega) (hl _ (zAh hlt))
   have hst : zBC (l.take (j + 1)) = zBu st0 (nth l j) := by rw [zEE hlt, ← hI]; rfl
   have hdn : zBi l (j + 1) = zBi l j ++ [(zAW st0 (nth l j)).isSome] := by rw [zFd, ← hI]; rfl
   have hdl := zCI l j
   have hdt : (zBi l j).take j = zBi l j := by rw [List.take_of_length_le (by omega)]
   cases hA : zAW st0 (nth l j) with
   | none =>
    rw [hA, zCi] at cA
    rw [hA] at hdn
    try simp (disch := omega) only [go_sem, hE, hH, hb]
    repeat' (first | ((with_reducible first | refine zAa ?_ ?_ | refine zAb ?_ ?_) <;> (intro h; have hb := h; (try simp only [nf] at h); simp (disch := omega) only [go_sem, hE, hH, hdl, hdt, z1, z2, z3, z4, hb]; (try clear hb))) | ((with_reducible refine And.intro ?_ ?_); · omega) | ((first | refine zAc ?_ | refine zRk (cA) ?_); simp (disch := omega) only [go_sem, hE, hH, hdl, hdt, z1, z2, z3, z4]) | (with_reducible first | apply jn | apply both | refine And.intro ?_ ?_) | ((with_reducible apply zAj); (try (simp (disch := omega) only [go_sem, hE, hH, hdl, hdt, z1, z2, z3, z4])); first | done | rfl) | (simp (disch := omega) only [go_sem, hE, hH, hdl, hdt, z1, z2, z3, z4]) | ((first | apply zAe | apply zAl) <;> (simp only [go_sem, hE, hH, hdl, hdt, z1, z2, z3, z4]; done)) | (simp only [go_sem, hE, hH, hdl, hdt, z1, z2, z3, z4]) | fail)
    all_goals try first | omega | rfl
    all_goals (
     refine ⟨none, ?_, by (first | (rw [hst, zBu, hA]; done) | (rw [hst, zBu, hA]; rfl))⟩
     rw [hdn, List.map_append]
     rfl)
   | some s' =>
    rw [hA, zCi] at cA
    rw [hA] at hdn
    try simp (disch := omega) only [go_sem, hE, hH, hb]
    repeat' (first | ((with_reducible first | refine zAa ?_ ?_ | refine zAb ?_ ?_) <;> (intro h; have hb := h; (try simp only [nf] at h); simp (disch := omega) only [go_sem, hE, hH, hdl, hdt, z1, z2, z3, z4, hb]; (try clear hb))) | ((with_reducible refine And.intro ?_ ?_); · omega) | ((first | refine zAc ?_ | refine zRk (cA) ?_); simp (disch := omega) only [go_sem, hE, hH, hdl, hdt, z1, z2, z3, z4]) | (with_reducible first | apply jn | apply both | refine And.intro ?_ ?_) | ((with_reducible apply zAj); (try (simp (disch := omega) only [go_sem, hE, hH, hdl, hdt, z1, z2, z3, z4])); first | done | rfl) | (simp (disch := omega) only [go_sem, hE, hH, hdl, hdt, z1, z2, z3, z4]) | ((first | apply zAe | apply zAl) <;> (simp only [go_sem, hE, hH, hdl, hdt, z1, z2, z3, z4]; done)) | (simp only [go_sem, hE, hH, hdl, hdt, z1, z2, z3, z4]) | fail)
    all_goals try first | omega | rfl
    all_goals (
     refine ⟨some s', ?_, by (first | (rw [hst, zBu, hA]; done) | (rw [hst, zBu, hA]; rfl))⟩
     rw [hdn, List.map_append]
     rfl)
  ·try simp (disch := omega) only [go_sem, hE, hH, h]
   simp only [nf] at h
   have hjl : j = l.length := by omega
   have hdl := zCI l j
   rw [hjl, List.take_length] at hI
   subst hjl
   rw [← hI]
   simp [hdl, zGR, zAD]
   exact ⟨rfl, rfl, rfl, rfl⟩
 | some s =>
  try simp only [go_sem, hE, hH, zLI, soF]
  first | refine zAa (fun h => ?_) (fun h => ?_) | refine zAb (fun h => ?_) (fun h => ?_)
  ·have hb := h
   simp only [nf] at h
   have hlt : j < l.length := by omega
   have cA := zLa hS s (nth l j) hSI (by omega) (hl _ (zAh hlt))
   have hst : zBC (l.take (j + 1)) = zBu s (nth l j) := by rw [zEE hlt, ← hI]; rfl
   have hdn : zBi l (j + 1) = zBi l j ++ [(zAW s (nth l j)).isSome] := by rw [zFd, ← hI]; rfl
   have hdl := zCI l j
   have hdt : (zBi l j).take j = zBi l j := by rw [List.take_of_length_le (by omega)]
   cases hA : zAW s (nth l j) with
   | none =>
    rw [hA, zCi] at cA
    rw [hA] at hdn
    try simp (disch := omega) only [go_sem, hE, hH, hb]
    repeat' (first | ((with_reducible first | refine zAa ?_ ?_ | refine zAb ?_ ?_) <;> (intro h; have hb := h; (try simp only [nf] at h); simp (disch := omega) only [go_sem, hE, hH, hdl, hdt, hb]; (try clear hb))) | ((with_reducible refine And.intro ?_ ?_); · omega) | ((first | refine zAc ?_ | refine cvA (cA) ?_); simp (disch := omega) only [go_sem, hE, hH, hdl, hdt]) | (with_reducible first | apply jn | apply both | refine And.intro ?_ ?_) | ((with_reducible apply zAj); (try (simp (disch := omega) only [go_sem, hE, hH, hdl, hdt])); first | done | rfl) | (simp (disch := omega) only [go_sem, hE, hH, hdl, hdt]) | ((first | apply zAe | apply zAl) <;> (simp only [go_sem, hE, hH, hdl, hdt]; done)) | (simp only [go_sem, hE, hH, hdl, hdt]) | fail)
    all_goals try first | omega | rfl
    all_goals (
     refine ⟨some s, ?_, by (first | (rw [hst, zBu, hA]; done) | (rw [hst, zBu, hA]; rfl))⟩
     rw [hdn, List.map_append]
     rfl)
   | some s' =>
    rw [hA, zCi] at cA
    rw [hA] at hdn
    try simp (disch := omega) only [go_sem, hE, hH, hb]
    repeat' (first | ((with_reducible first | refine zAa ?_ ?_ | refine zAb ?_ ?_) <;> (intro h; have hb := h; (try simp only [nf] at h); simp (disch := omega) only [go_sem, hE, hH, hdl, hdt, hb]; (try clear hb))) | ((with_reducible refine And.intro ?_ ?_); · omega) | ((first | refine zAc ?_ | refine cvA (cA) ?_); simp (disch := omega) only [go_sem, hE, hH, hdl, hdt]) | (with_reducible first | apply jn | apply both | refine And.intro ?_ ?_) | ((with_reducible apply zAj); (try (simp (disch := omega) only [go_sem, hE, hH, hdl, hdt])); first | done | rfl) | (simp (disch := omega) only [go_sem, hE, hH, hdl, hdt]) | ((first | apply zAe | apply zAl) <;> (simp only [go_sem, hE, hH, hdl, hdt]; done)) | (simp only [go_sem, hE, hH, hdl, hdt]) | fail)
    all_goals try first | omega | rfl
    all_goals (
     refine ⟨some s', ?_, by (first | (rw [hst, zBu, hA]; done) | (rw [hst, zBu, hA]; rfl))⟩
     rw [hdn, List.map_append]
     rfl)
  ·try simp (disch := omega) only [go_sem, hE, hH, h]
   simp only [nf] at h
   have hjl : j = l.length := by omega
   have hdl := zCI l j
   rw [hjl, List.take_length] at hI
   subst hjl
   rw [← hI]
   simp [hdl, zGR, zAD]
def soG (l : List Rec) (j : Nat) : Option State → St
 | none => ⟨[(2, .ptr 3000000 0 0), (4, .ptr 5000000 0 0), (5, .ref 6000000 0 j), (10, .sl false 7 (l.map (Rec.row false))), (11, i64 l.length), (12, i64 j)], [(3000000, ⟨4, [[i64 0, zAL, zAL, zAL]]⟩), (5000000, ⟨4, [[i64 0, zAL, zAL, zAL]]⟩), (6000000, ⟨1, (zBi l j).map (fun b => [bl b])⟩)]⟩
 | some s => ⟨[(2, .ptr 3000000 0 0), (4, .ptr 5000000 0 0), (5, .ref 6000000 0 j), (10, .sl false 7 (l.map (Rec.row false))), (11, i64 l.length), (12, i64 j)], [(3000000, ⟨4, [[i64 0, zAL, zAL, zAL]]⟩), (5000000, ⟨4, [State.row false s]⟩), (6000000, ⟨1, (zBi l j).map (fun b => [bl b])⟩)]⟩
set_option maxHeartbeats 2000000 in
theorem zVb (l : List Rec) (hl : ∀ r ∈ l, zA6 r = true) (hn : l.length ≤ 60) : ACall Tryz.prog 170 [.sl false 7 (l.map (Rec.row false))] (fun x _ => x = .tup [.agg (State.row false (zBC l)), .sl true 1 ((zBi l l.length).map (fun b => [bl b]))]) := by
 have hmx := zAi
 refine fi H170 fun E hE hH => ?_; simp only [go_sem] at hE hH; simp only [go_sem, hE, hH, zXP]
 try simp (disch := omega) only [go_sem, hE, hH]
 refine zBg l.length (fun j x => soG l j x) (fun j x => x.getD st0 = zBC (l.take j)) none rfl rfl ?_
 intro j x hj hI
 have z1 : st0.Cells = [] := rfl
 have z2 : st0.Held = [] := rfl
 have z3 : st0.Told = [] := rfl
 have z4 : st0.Floor = 0 := rfl
 have hSI := zIO hl j hj
 rw [← hI] at hSI
 cases x with
 | none =>
  try simp only [go_sem, hE, hH, zLH, soG]
  first | refine zAa (fun h => ?_) (fun h => ?_) | refine zAb (fun h => ?_) (fun h => ?_)
  ·have hb := h
   simp only [nf] at h
   have hlt : j < l.length := by omega
   have cA := zJy st0 (nth l j) hSI (by omega) (hl _ (zAh hlt))
   have hst : zBC (l.take (j + 1)) = zBu st0 (nth l j) := by rw [zEE hlt, ← hI]; rfl
   have hdn : zBi l (j + 1) = zBi l j ++ [(zAW st0 (nth l j)).isSome] := by rw [zFd, ← hI]; rfl
   have hdl := zCI l j
   have hdt : (zBi l j).take j = zBi l j := by rw [List.take_of_length_le (by omega)]
   cases hA : zAW st0 (nth l j) with
   | none =>
    rw [hA, Option.isSome_none] at cA
    simp only [zBN] at cA
    rw [hA] at hdn
    try simp (disch := omega) only [go_sem, hE, hH, hb]
    repeat' (first | ((with_reducible first | refine zAa ?_ ?_ | refine zAb ?_ ?_) <;> (intro h; have hb := h; (try simp only [nf] at h); simp (disch := omega) only [go_sem, hE, hH, hdl, hdt, z1, z2, z3, z4, hb]; (try clear hb))) | ((with_reducible refine And.intro ?_ ?_); · omega) | (refine zAc ?_; simp (disch := omega) only [go_sem, hE, hH, hdl, hdt, z1, z2, z3, z4]; refine zRk (cA) (And.intro (by (simp (disch := omega) only [go_sem, hE, hH, hdl, hdt, z1, z2, z3, z4]); done) (zAJ ?_)); rintro _ _ ⟨q, rfl, _⟩; simp (disch := omega) only [go_sem, hE, hH, hdl, hdt, z1, z2, z3, z4]) | (with_reducible first | apply jn | apply both | refine And.intro ?_ ?_) | ((with_reducible apply zAj); (try (simp (disch := omega) only [go_sem, hE, hH, hdl, hdt, z1, z2, z3, z4])); first | done | rfl) | (simp (disch := omega) only [go_sem, hE, hH, hdl, hdt, z1, z2, z3, z4]) | ((first | apply zAe | apply zAl) <;> (simp only [go_sem, hE, hH, hdl, hdt, z1, z2, z3, z4]; done)) | (simp only [go_sem, hE, hH, hdl, hdt, z1, z2, z3, z4]) | fail)
    all_goals try first | omega | rfl
    all_goals (
     refine ⟨none, ?_, by (first | (rw [hst, zBu, hA]; done) | (rw [hst, zBu, hA]; rfl))⟩
     rw [hdn, List.map_append]
     rfl)
   | some s' =>
    rw [hA, Option.isSome_some] at cA
    simp only [zBN] at cA
    rw [hA] at hdn
    try simp (disch := omega) only [go_sem, hE, hH, hb]
    repeat' (first | ((with_reducible first | refine zAa ?_ ?_ | refine zAb ?_ ?_) <;> (intro h; have hb := h; (try simp only [nf] at h); simp (disch := omega) only [go_sem, hE, hH, hdl, hdt, z1, z2, z3, z4, hb]; (try clear hb))) | ((with_reducible refine And.intro ?_ ?_); · omega) | (refine zAc ?_; simp (disch := omega) only [go_sem, hE, hH, hdl, hdt, z1, z2, z3, z4]; refine zRk (cA) (And.intro (by (simp (disch := omega) only [go_sem, hE, hH, hdl, hdt, z1, z2, z3, z4]); done) (zAJ ?_)); rintro _ _ ⟨q, rfl, hq⟩; simp (disch := omega) only [go_sem, hE, hH, hdl, hdt, z1, z2, z3, z4]) | (with_reducible first | apply jn | apply both | refine And.intro ?_ ?_) | ((with_reducible apply zAj); (try (simp (disch := omega) only [go_sem, hE, hH, hdl, hdt, z1, z2, z3, z4])); first | done | rfl) | (simp (disch := omega) only [go_sem, hE, hH, hdl, hdt, z1, z2, z3, z4]) | ((first | apply zAe | apply zAl) <;> (simp only [go_sem, hE, hH, hdl, hdt, z1, z2, z3, z4]; done)) | (simp only [go_sem, hE, hH, hdl, hdt, z1, z2, z3, z4]) | fail)
    all_goals try first | omega | rfl
    all_goals (
     obtain rfl := hq _ rfl
     refine ⟨some q, ?_, by (first | (rw [hst, zBu, hA]; done) | (rw [hst, zBu, hA]; rfl))⟩
     rw [hdn, List.map_append]
     rfl)
  ·try simp (disch := omega) only [go_sem, hE, hH, h]
   simp only [nf] at h
   have hjl : j = l.length := by omega
   have hdl := zCI l j
   rw [hjl, List.take_length] at hI
   subst hjl
   rw [← hI]
   simp [hdl, zGR, zAD]
   exact ⟨rfl, rfl, rfl, rfl⟩
 | some s =>
  try simp only [go_sem, hE, hH, zLH, soG]
  first | refine zAa (fun h => ?_) (fun h => ?_) | refine zAb (fun h => ?_) (fun h => ?_)
  ·have hb := h
   simp only [nf] at h
   have hlt : j < l.length := by omega
   have cA := zJy s (nth l j) hSI (by omega) (hl _ (zAh hlt))
   have hst : zBC (l.take (j + 1)) = zBu s (nth l j) := by rw [zEE hlt, ← hI]; rfl
   have hdn : zBi l (j + 1) = zBi l j ++ [(zAW s (nth l j)).isSome] := by rw [zFd, ← hI]; rfl
   have hdl := zCI l j
   have hdt : (zBi l j).take j = zBi l j := by rw [List.take_of_length_le (by omega)]
   cases hA : zAW s (nth l j) with
   | none =>
    rw [hA, Option.isSome_none] at cA
    simp only [zBN] at cA
    rw [hA] at hdn
    try simp (disch := omega) only [go_sem, hE, hH, hb]
    repeat' (first | ((with_reducible first | refine zAa ?_ ?_ | refine zAb ?_ ?_) <;> (intro h; have hb := h; (try simp only [nf] at h); simp (disch := omega) only [go_sem, hE, hH, hdl, hdt, hb]; (try clear hb))) | ((with_reducible refine And.intro ?_ ?_); · omega) | (refine zAc ?_; simp (disch := omega) only [go_sem, hE, hH, hdl, hdt]; refine cvA (cA) ?_; refine zAJ ?_; rintro _ _ ⟨q, rfl, _⟩; simp (disch := omega) only [go_sem, hE, hH, hdl, hdt]) | (with_reducible first | apply jn | apply both | refine And.intro ?_ ?_) | ((with_reducible apply zAj); (try (simp (disch := omega) only [go_sem, hE, hH, hdl, hdt])); first | done | rfl) | (simp (disch := omega) only [go_sem, hE, hH, hdl, hdt]) | ((first | apply zAe | apply zAl) <;> (simp only [go_sem, hE, hH, hdl, hdt]; done)) | (simp only [go_sem, hE, hH, hdl, hdt]) | fail)
    all_goals try first | omega | rfl
    all_goals (
     refine ⟨some s, ?_, by (first | (rw [hst, zBu, hA]; done) | (rw [hst, zBu, hA]; rfl))⟩
     rw [hdn, List.map_append]
     rfl)
   | some s' =>
    rw [hA, Option.isSome_some] at cA
    simp only [zBN] at cA
    rw [hA] at hdn
    try simp (disch := omega) only [go_sem, hE, hH, hb]
    repeat' (first | ((with_reducible first | refine zAa ?_ ?_ | refine zAb ?_ ?_) <;> (intro h; have hb := h; (try simp only [nf] at h); simp (disch := omega) only [go_sem, hE, hH, hdl, hdt, hb]; (try clear hb))) | ((with_reducible refine And.intro ?_ ?_); · omega) | (refine zAc ?_; simp (disch := omega) only [go_sem, hE, hH, hdl, hdt]; refine cvA (cA) ?_; refine zAJ ?_; rintro _ _ ⟨q, rfl, hq⟩; simp (disch := omega) only [go_sem, hE, hH, hdl, hdt]) | (with_reducible first | apply jn | apply both | refine And.intro ?_ ?_) | ((with_reducible apply zAj); (try (simp (disch := omega) only [go_sem, hE, hH, hdl, hdt])); first | done | rfl) | (simp (disch := omega) only [go_sem, hE, hH, hdl, hdt]) | ((first | apply zAe | apply zAl) <;> (simp only [go_sem, hE, hH, hdl, hdt]; done)) | (simp only [go_sem, hE, hH, hdl, hdt]) | fail)
    all_goals try first | omega | rfl
    all_goals (
     obtain rfl := hq _ rfl
     refine ⟨some q, ?_, by (first | (rw [hst, zBu, hA]; done) | (rw [hst, zBu, hA]; rfl))⟩
     rw [hdn, List.map_append]
     rfl)
  ·try simp (disch := omega) only [go_sem, hE, hH, h]
   simp only [nf] at h
   have hjl : j = l.length := by omega
   have hdl := zCI l j
   rw [hjl, List.take_length] at hI
   subst hjl
   rw [← hI]
   simp [hdl, zGR, zAD]
def zL9 (l : List Entry) : State := zBC (l.map Entry.Rec)
theorem zZl {l : List Entry} (hl : ∀ e ∈ l, zA6 e.Rec = true) : stI l.length (zL9 l) := by
 have := zOR (l := l.map Entry.Rec) fun r h => by
  obtain ⟨e, he, rfl⟩ := List.mem_map.1 h
  exact hl e he
 rwa [List.length_map] at this
theorem zSf (hS : zDa) (l : List Entry) (hl : ∀ e ∈ l, zA6 e.Rec = true) (hn : l.length ≤ 60) : ACall Tryz.prog 148 [.sl false 8 (l.map (Entry.row false))] (fun x _ => x = .agg (State.row true (zL9 l))) := by
 have hmx := zAi
 have cO := zSe hS (l.map Entry.Rec) (fun r h => by obtain ⟨e, he, rfl⟩ := List.mem_map.1 h; exact hl e he) (by rw [List.length_map]; exact hn)
 refine fi H148 fun E hE hH => ?_; simp only [go_sem] at hE hH; simp only [go_sem, hE, hH, zXD]
 try simp (disch := omega) only [go_sem, hE, hH]
 refine zBg l.length (fun j (_ : Unit) => ⟨[(2, .ptr 3000000 0 0), (3, .ref 4000000 0 j), (9, .sl false 8 (l.map (Entry.row false))), (10, i64 l.length), (11, i64 j)], [(3000000, ⟨4, [[i64 0, zAL, zAL, zAL]]⟩), (4000000, ⟨7, ((l.take j).map Entry.Rec).map (Rec.row false)⟩)]⟩) (fun _ _ => True) () rfl trivial ?_
 intro j x hj hI
 try simp only [go_sem, hE, hH, zQe]
 first | refine zAa (fun h => ?_) (fun h => ?_) | refine zAb (fun h => ?_) (fun h => ?_)
 ·have hb := h
  simp only [nf] at h
  have hlt : j < l.length := by omega
  have hjl : ((l.take j).map Entry.Rec).length = j := by simp; omega
  have hjt : (l.take j).take j = l.take j := by rw [List.take_take, Nat.min_self]
  have hs : (l.take (j + 1)).map Entry.Rec = (l.take j).map Entry.Rec ++ [(nth l j).Rec] := by rw [zAI hlt, List.map_append]; rfl
  have hg := getD_map (f := Entry.row false) hlt
  have hga : ∀ r, (((l.take j).map Entry.Rec).map (Rec.row false) ++ [r]).getD j [] = r := fun r => by
   have := zLC (f := Rec.row false) (l := (l.take j).map Entry.Rec) (r := r)
   rwa [hjl] at this
  try simp (disch := omega) only [go_sem, hE, hH, hjl, hjt, hg, hga, hb]
  repeat' (first | ((with_reducible first | refine zAa ?_ ?_ | refine zAb ?_ ?_) <;> (intro h; have hb := h; (try simp only [nf] at h); simp (disch := omega) only [go_sem, hE, hH, hjl, hjt, hg, hga, hb]; (try clear hb))) | ((with_reducible refine And.intro ?_ ?_); · omega) | (with_reducible first | apply jn | apply both | refine And.intro ?_ ?_) | ((with_reducible apply zAj); (try (simp (disch := omega) only [go_sem, hE, hH, hjl, hjt, hg, hga])); first | done | rfl) | (simp (disch := omega) only [go_sem, hE, hH, hjl, hjt, hg, hga]) | ((first | apply zAe | apply zAl) <;> (simp only [go_sem, hE, hH, hjl, hjt, hg, hga]; done)) | (simp only [go_sem, hE, hH, hjl, hjt, hg, hga]) | fail)
  repeat' (first | (refine both ?_ ?_) | omega | ((first | apply zAe | apply zAl) <;> (simp only [go_sem, hE, hH]; done)) | fail)
  refine ⟨(), ?_⟩
  rw [hs, List.map_append]
  rfl
 ·try simp (disch := omega) only [go_sem, hE, hH, h]
  simp only [nf] at h
  have hjl : j = l.length := by omega
  rw [hjl, List.take_length]
  have hl2 : (l.map Entry.Rec).length = l.length := List.length_map _
  have hd : zL9 l = zBC (l.map Entry.Rec) := rfl
  rw [hd]
  try simp (disch := omega) only [go_sem, hE, hH]
  repeat' (first | ((with_reducible first | refine zAa ?_ ?_ | refine zAb ?_ ?_) <;> (intro h; have hb := h; (try simp only [nf] at h); simp (disch := omega) only [go_sem, hE, hH, hl2, hb]; (try clear hb))) | ((with_reducible refine And.intro ?_ ?_); · omega) | ((first | refine zAc ?_ | refine cvA (cO) ?_); simp (disch := omega) only [go_sem, hE, hH, hl2]) | (with_reducible first | apply jn | apply both | refine And.intro ?_ ?_) | ((with_reducible apply zAj); (try (simp (disch := omega) only [go_sem, hE, hH, hl2])); first | done | rfl) | (simp (disch := omega) only [go_sem, hE, hH, hl2]) | ((first | apply zAe | apply zAl) <;> (simp only [go_sem, hE, hH, hl2]; done)) | (simp only [go_sem, hE, hH, hl2]) | fail)
theorem zPK (log : List Entry) (n : Nat) (hln : n ≤ log.length) (hmx0 : log.length ≤ maxLen) (l : List Entry) (hle : l = log.take n) (hl : ∀ e ∈ l, zA6 e.Rec = true) (hn : l.length ≤ 60) : ACall Tryz.prog 122 [.sl false 8 (log.map (Entry.row false)), i64 n] (fun x _ => x = .agg (State.row false (zL9 l))) := by
 have hmx := zAi
 have cO := zVb (l.map Entry.Rec) (fun r h => by obtain ⟨e, he, rfl⟩ := List.mem_map.1 h; exact hl e he) (by rw [List.length_map]; exact hn)
 have hll : l.length = n := by rw [hle, List.length_take]; omega
 refine fi H122 fun E hE hH => ?_; simp only [go_sem] at hE hH; simp only [go_sem, hE, hH, zXo]
 try simp (disch := omega) only [go_sem, hE, hH]
 repeat' (first | ((with_reducible first | refine zAa ?_ ?_ | refine zAb ?_ ?_) <;> (intro h; have hb := h; (try simp only [nf] at h); refine sb ?_; (try clear hb))) | ((with_reducible refine And.intro ?_ ?_); · omega) | (with_reducible first | apply jn | apply both | refine And.intro ?_ ?_) | exact fj | refine st ?_ | exact fm | refine s1 ?_ | (with_reducible exact True.intro))
 refine zBg l.length (fun j (_ : Unit) => ⟨[(4, .ptr 5000000 0 0), (5, .ref 6000000 0 j), (12, .sl false 8 (l.map (Entry.row false))), (13, i64 l.length), (14, i64 j)], [(5000000, ⟨4, [[i64 0, zAL, zAL, zAL]]⟩), (6000000, ⟨7, ((l.take j).map Entry.Rec).map (Rec.row false)⟩)]⟩) (fun _ _ => True) () (by rw [hle, List.map_take, List.length_take, Nat.min_eq_left hln]; rfl) trivial ?_
 intro j x hj hI
 try simp only [go_sem, hE, hH, zQa]
 first | refine zAa (fun h => ?_) (fun h => ?_) | refine zAb (fun h => ?_) (fun h => ?_)
 ·have hb := h
  simp only [nf] at h
  have hlt : j < l.length := by omega
  have hjl : ((l.take j).map Entry.Rec).length = j := by simp; omega
  have hjt : (l.take j).take j = l.take j := by rw [List.take_take, Nat.min_self]
  have hs : (l.take (j + 1)).map Entry.Rec = (l.take j).map Entry.Rec ++ [(nth l j).Rec] := by rw [zAI hlt, List.map_append]; rfl
  have hg := getD_map (f := Entry.row false) hlt
  have hga : ∀ r, (((l.take j).map Entry.Rec).map (Rec.row false) ++ [r]).getD j [] = r := fun r => by
   have := zLC (f := Rec.row false) (l := (l.take j).map Entry.Rec) (r := r)
   rwa [hjl] at this
  try simp (disch := omega) only [go_sem, hE, hH, hjl, hjt, hg, hga, hb]
  repeat' (first | ((with_reducible first | refine zAa ?_ ?_ | refine zAb ?_ ?_) <;> (intro h; have hb := h; (try simp only [nf] at h); simp (disch := omega) only [go_sem, hE, hH, hjl, hjt, hg, hga, hb]; (try clear hb))) | ((with_reducible refine And.intro ?_ ?_); · omega) | (with_reducible first | apply jn | apply both | refine And.intro ?_ ?_) | ((with_reducible apply zAj); (try (simp (disch := omega) only [go_sem, hE, hH, hjl, hjt, hg, hga])); first | done | rfl) | (simp (disch := omega) only [go_sem, hE, hH, hjl, hjt, hg, hga]) | ((first | apply zAe | apply zAl) <;> (simp only [go_sem, hE, hH, hjl, hjt, hg, hga]; done)) | (simp only [go_sem, hE, hH, hjl, hjt, hg, hga]) | fail)
  repeat' (first | (refine both ?_ ?_) | omega | ((first | apply zAe | apply zAl) <;> (simp only [go_sem, hE, hH]; done)) | fail)
  refine ⟨(), ?_⟩
  rw [hs, List.map_append]
  rfl
 ·try simp (disch := omega) only [go_sem, hE, hH, h]
  simp only [nf] at h
  have hjl : j = l.length := by omega
  rw [hjl, List.take_length]
  have hl2 : (l.map Entry.Rec).length = l.length := List.length_map _
  have hd : zL9 l = zBC (l.map Entry.Rec) := rfl
  rw [hd]
  have cO2 : ACall Tryz.prog 170 [.sl true 7 ((l.map Entry.Rec).map (Rec.row false))] (fun x a => x = .tup [.agg (State.row false (zBC (l.map Entry.Rec))), .sl true 1 ((zBi (l.map Entry.Rec) (l.map Entry.Rec).length).map (fun b => [bl b]))] ∧ a = [.any]) := zOn cO (by simp only [go_sem]; rfl) rfl
  try simp (disch := omega) only [go_sem, hE, hH]
  repeat' (first | ((with_reducible first | refine zAa ?_ ?_ | refine zAb ?_ ?_) <;> (intro h; have hb := h; (try simp only [nf] at h); simp (disch := omega) only [go_sem, hE, hH, hl2, hb]; (try clear hb))) | ((with_reducible refine And.intro ?_ ?_); · omega) | (refine zBp [true] ?_; simp (disch := omega) only [go_sem, hE, hH, hl2]; refine cmA (cO2) ?_; simp (disch := omega) only [go_sem, hE, hH, hl2]) | (with_reducible first | apply jn | apply both | refine And.intro ?_ ?_) | ((with_reducible apply zAj); (try (simp (disch := omega) only [go_sem, hE, hH, hl2])); first | done | rfl) | (simp (disch := omega) only [go_sem, hE, hH, hl2]) | ((first | apply zAe | apply zAl) <;> (simp only [go_sem, hE, hH, hl2]; done)) | (simp only [go_sem, hE, hH, hl2]) | fail)
structure repG (r : Replica) : Prop where
 s0 : 0 ≤ r.Sure
 s1 : r.Sure ≤ r.Log.length
 len : r.Log.length ≤ 60
 good : ∀ e ∈ r.Log, zA6 e.Rec = true
theorem zWm {t : Int} {r : Replica} (h : zB7 t r = true) : repG r := by
 simp only [zB7, zF8, Bool.and_eq_true, decide_eq_true_eq] at h
 obtain ⟨⟨h1, h2⟩, h3⟩ := h
 have h3 := zBJ.1 h3
 refine ⟨h3.1, h3.2, by omega, fun e he => ?_⟩
 obtain ⟨i, hi, rfl⟩ := List.getElem_of_mem he
 have := zAE.1 h1 i hi
 simp only [zBW, Bool.and_eq_true] at this
 rw [← zBd hi]
 exact this.1.2
theorem zMa {g : Group} (h : zBA g = true) : 3 ≤ g.Reps.length ∧ g.Reps.length ≤ 5 ∧ ∀ r ∈ g.Reps, repG r := by
 simp only [zBA, Bool.and_eq_true, Bool.or_eq_true, decide_eq_true_eq, List.all_eq_true] at h
 obtain ⟨⟨⟨h1, _⟩, _⟩, h4⟩ := h
 exact ⟨by omega, by omega, fun r hr => zWm (h4 r hr)⟩
def zVc (r : Replica) : State := zL9 (r.Log.take r.Sure.toNat)
theorem zIP {r : Replica} (h : repG r) : (∀ e ∈ r.Log.take r.Sure.toNat, zA6 e.Rec = true) ∧ (r.Log.take r.Sure.toNat).length ≤ 60 := by
 refine ⟨fun e he => h.good e (List.mem_of_mem_take he), ?_⟩
 have := h.len
 rw [List.length_take]; omega
theorem zZm {r : Replica} (h : repG r) : stI 60 (zVc r) := by
 obtain ⟨h1, h2⟩ := zIP h
 have := zZl h1
 exact ⟨this.cells, this.hlen, this.hsrt, this.hok, Nat.le_trans this.tlen h2, this.tsrt⟩
def zD4 (g : Group) : Nat → Nat
 | 0 => 0
 | j + 1 => if (nth g.Reps (zD4 g j)).Sure < (nth g.Reps j).Sure then j else zD4 g j
theorem zFO {g : Group} (h : 0 < g.Reps.length) : ∀ j, j ≤ g.Reps.length → zD4 g j < g.Reps.length
 | 0, _ => h
 | j + 1, hj => by
  rw [zD4]
  split
  ·omega
  ·exact zFO h j (by omega)
def zBn (g : Group) : State := zVc (nth g.Reps (zD4 g g.Reps.length))
theorem zWn (g : Group) (h0 : 0 < g.Reps.length) (h1 : g.Reps.length ≤ 2 ^ 20) : ACall Tryz.prog 149 [.agg (Group.row false g)] (fun x _ => x = .agg (Replica.row false (nth g.Reps (zD4 g g.Reps.length)))) := by
 have hmx := zAi
 refine fi H149 fun E hE hH => ?_; simp only [go_sem] at hE hH; simp only [go_sem, hE, hH, zXE]
 try simp (disch := omega) only [go_sem, hE, hH]
 repeat' (first | ((with_reducible first | refine zAa ?_ ?_ | refine zAb ?_ ?_) <;> (intro h; have hb := h; (try simp only [nf] at h); refine sb ?_; (try clear hb))) | ((with_reducible refine And.intro ?_ ?_); · omega) | (with_reducible first | apply jn | apply both | refine And.intro ?_ ?_) | exact fj | refine st ?_ | exact fm | refine s1 ?_ | (with_reducible exact True.intro))
 refine zBg g.Reps.length (fun j (_ : Unit) => ⟨[(2, .ptr 3000000 0 0), (3, .ptr 4000000 0 0), (11, .sl false 3 (g.Reps.map (Replica.row false))), (12, i64 g.Reps.length), (13, i64 j)], [(3000000, ⟨3, [[bl false, zAL, i64 0]]⟩), (4000000, ⟨3, [Replica.row false (nth g.Reps (zD4 g j))]⟩)]⟩) (fun _ _ => True) () rfl trivial ?_
 intro j _ hj _
 try simp only [go_sem, hE, hH, zQf]
 first | refine zAa (fun h => ?_) (fun h => ?_) | refine zAb (fun h => ?_) (fun h => ?_)
 ·have hb := h
  simp only [nf] at h
  have hlt : j < g.Reps.length := by omega
  try simp (disch := omega) only [go_sem, hE, hH, hb]
  repeat' (first | ((with_reducible first | refine zAa ?_ ?_ | refine zAb ?_ ?_) <;> (intro h; have hb := h; (try simp only [nf] at h); refine sb ?_; (try clear hb))) | ((with_reducible refine And.intro ?_ ?_); · omega) | (with_reducible first | apply jn | apply both | refine And.intro ?_ ?_) | exact fj | refine st ?_ | exact fm | refine s1 ?_ | (with_reducible exact True.intro))
  all_goals (
   refine ⟨(), ?_⟩
   rw [zD4]
   split <;> first | rfl | (exfalso; omega))
 ·try simp (disch := omega) only [go_sem, hE, hH, h]
  simp only [nf] at h
  have hjl : j = g.Reps.length := by omega
  rw [hjl]
  exact ⟨rfl, rfl, rfl⟩
theorem zOZ (hS : zDa) (g : Group) (hg : zBA g = true) : ACall Tryz.prog 93 [.agg (Group.row false g)] (fun x _ => x = .agg (State.row true (zBn g))) := by
 have hmx := zAi
 obtain ⟨h3, h5, hr⟩ := zMa hg
 have hb := hr _ (zAh (zFO (g := g) (by omega) g.Reps.length (Nat.le_refl _)))
 obtain ⟨q1, q2⟩ := zIP hb
 refine fi H93 fun E hE hH => ?_; simp only [go_sem] at hE hH; simp only [go_sem, hE, hH, C93]
 repeat' (first | ((with_reducible first | refine zAa ?_ ?_ | refine zAb ?_ ?_) <;> (intro h; have hb := h; (try simp only [nf] at h); refine sb ?_; (try clear hb))) | ((with_reducible refine And.intro ?_ ?_); · omega) | ((first | refine zAc ?_ | refine cvA (zWn g (by omega) (by omega)) ?_ | refine cvA (zWc (nth g.Reps (zD4 g g.Reps.length)) hb.s0 hb.s1) ?_ | refine cvA (zSf hS _ q1 q2) ?_); refine st ?_) | (with_reducible first | apply jn | apply both | refine And.intro ?_ ?_) | exact fj | refine st ?_ | exact fm | refine s1 ?_ | (with_reducible exact True.intro))
 all_goals rfl
theorem zPL (r : Replica) (h : repG r) : ACall Tryz.prog 122 [.sl false 8 (r.Log.map (Entry.row false)), i64 r.Sure] (fun x _ => x = .agg (State.row false (zVc r))) := by
 have hmx := zAi
 obtain ⟨q1, q2⟩ := zIP h
 have h0 := h.s0
 have h1 := h.s1
 have hl := h.len
 have := zPK r.Log r.Sure.toNat (by omega) (by omega) _ rfl q1 q2
 rwa [Int.toNat_of_nonneg h0] at this
theorem zSg (g : Group) (hg : zBA g = true) : ACall Tryz.prog 73 [.agg (Group.row false g)] (fun x _ => x = .agg (State.row false (zBn g))) := by
 have hmx := zAi
 obtain ⟨h3, h5, hr⟩ := zMa hg
 have hlb := zFO (g := g) (by omega) g.Reps.length (Nat.le_refl _)
 have hb := hr _ (zAh hlb)
 refine fi H73 fun E hE hH => ?_; simp only [go_sem] at hE hH; simp only [go_sem, hE, hH, C73]
 try simp (disch := omega) only [go_sem, hE, hH]
 refine zBg g.Reps.length (fun j (_ : Unit) => ⟨[(1, .ptr 2000000 0 0), (2, .ptr 3000000 0 0), (3, i64 (zD4 g j)), (7, .sl false 3 (g.Reps.map (Replica.row false))), (8, i64 g.Reps.length), (9, i64 j)], [(2000000, ⟨3, [Group.row false g]⟩), (3000000, ⟨4, [[i64 0, zAL, zAL, zAL]]⟩)]⟩) (fun _ _ => True) () rfl trivial ?_
 intro j _ hj _
 try simp only [go_sem, hE, hH, zTc]
 first | refine zAa (fun h => ?_) (fun h => ?_) | refine zAb (fun h => ?_) (fun h => ?_)
 ·have hb := h
  simp only [nf] at h
  have hlt : j < g.Reps.length := by omega
  have hlj := zFO (g := g) (by omega) j hj
  try simp (disch := omega) only [go_sem, hE, hH, hb]
  repeat' (first | ((with_reducible first | refine zAa ?_ ?_ | refine zAb ?_ ?_) <;> (intro h; have hb := h; (try simp only [nf] at h); refine sb ?_; (try clear hb))) | ((with_reducible refine And.intro ?_ ?_); · omega) | (with_reducible first | apply jn | apply both | refine And.intro ?_ ?_) | exact fj | refine st ?_ | exact fm | refine s1 ?_ | (with_reducible exact True.intro))
  all_goals (
   refine ⟨(), ?_⟩
   rw [zD4]
   split <;> first | rfl | (exfalso; omega))
 ·try simp (disch := omega) only [go_sem, hE, hH, h]
  simp only [nf] at h
  have hjl : j = g.Reps.length := by omega
  rw [hjl]
  try simp (disch := omega) only [go_sem, hE, hH]
  repeat' (first | ((with_reducible first | refine zAa ?_ ?_ | refine zAb ?_ ?_) <;> (intro h; have hb := h; (try simp only [nf] at h); refine sb ?_; (try clear hb))) | ((with_reducible refine And.intro ?_ ?_); · omega) | ((first | refine zAc ?_ | refine cvA (zPL _ hb) ?_); refine st ?_) | (with_reducible first | apply jn | apply both | refine And.intro ?_ ?_) | exact fj | refine st ?_ | exact fm | refine s1 ?_ | (with_reducible exact True.intro))
  all_goals first | rfl
theorem zFl {α : Type} {f : α → Nat} {C : Nat} : ∀ {l : List α}, (∀ x ∈ l, f x ≤ C) → szL f l ≤ (C + 1) * l.length
 | [], _ => by simp [szL]
 | x :: l, h => by
  have h1 := zFl (l := l) fun y hy => h y (List.mem_cons_of_mem _ hy)
  have h2 := h x List.mem_cons_self
  simp only [szL, List.map_cons, List.sum_cons, List.length_cons, Nat.mul_succ] at h1 ⊢
  omega
theorem zO0 {l : List ByteArray} (h : zBv l = true) : ∀ x ∈ l, zAZ x = true := by
 intro x hx
 obtain ⟨i, hi, rfl⟩ := List.getElem_of_mem hx
 simp only [zBv] at h
 have := zAE.1 h i hi
 simp only [Bool.and_eq_true, zBd hi] at this
 exact this.1
theorem stI.sz {n : Nat} {s : State} (h : stI n s) (hn : n ≤ 1000) : s.sz ≤ 2 ^ 20 := by
 have hc := zBL h.cells
 have hl := hc.len
 have h1 : szL Cell.sz s.Cells ≤ (2000 + 1) * s.Cells.length := zFl fun c q => by
  have h2 := (hc.one c q).2
  have h3 := hc.wf c q
  have h4 : szL Ver.sz c.Vers ≤ (100 + 1) * c.Vers.length := zFl fun v hv => h3.2 v hv
  have h5 : (100 + 1) * c.Vers.length ≤ (100 + 1) * 16 := Nat.mul_le_mul_left _ (by omega)
  show c.Key.size + szL Ver.sz c.Vers ≤ 2000
  omega
 have h2 : szL Held.sz s.Held ≤ (2000 + 1) * s.Held.length := zFl fun x q => by
  have h3 := zBM (h.hok x q)
  have h4 : szL ByteArray.size x.Reads ≤ (100 + 1) * x.Reads.length := zFl fun v hv => by
   have := zDZ (zO0 h3.2.2.2.1 v hv); omega
  have h5 : szL Write.sz x.Writes ≤ (100 + 1) * x.Writes.length := zFl fun v hv => by
   obtain ⟨i, hi, rfl⟩ := List.getElem_of_mem hv
   have h6 := h3.2.2.1
   rw [zHP] at h6
   simp only [Bool.and_eq_true, Bool.not_eq_true', List.any_eq_false] at h6
   have h7 := zDZ (zO0 h6.1.2 _ (List.mem_map.2 ⟨_, hv, rfl⟩))
   have h8 := h6.2 _ hv
   have h8 : stored (x.Writes[i]).Val (x.Writes[i]).Gone = true := by simpa using h8
   have := zGC h8
   show (x.Writes[i]).Key.size + (x.Writes[i]).Val.size ≤ 100
   omega
  have h6 : (100 + 1) * x.Reads.length ≤ (100 + 1) * 8 := Nat.mul_le_mul_left _ (by omega)
  have h7 : (100 + 1) * x.Writes.length ≤ (100 + 1) * 8 := Nat.mul_le_mul_left _ (by omega)
  show szL ByteArray.size x.Reads + szL Write.sz x.Writes ≤ 2000
  omega
 have h3 := h.tlen
 have h4 := h.hlen
 have h5 : (2000 + 1) * s.Cells.length ≤ (2000 + 1) * 24 := Nat.mul_le_mul_left _ (by omega)
 have h6 : (2000 + 1) * s.Held.length ≤ (2000 + 1) * 12 := Nat.mul_le_mul_left _ (by omega)
 show szL Cell.sz s.Cells + szL Held.sz s.Held + s.Told.length ≤ 2 ^ 20
 omega
def atL (l : List Ver) (t : Int) : Nat → ByteArray × Bool
 | 0 => (⟨#[]⟩, false)
 | n + 1 => if (nth l n).Time ≤ t then ((nth l n).Val, !(nth l n).Gone) else atL l t n
def atC (c : Cell) (t : Int) : ByteArray × Bool := atL c.Vers t c.Vers.length
def zD5 (l : List Ver) (t : Int) : Nat → Option Ver
 | 0 => none
 | n + 1 => if (nth l n).Time ≤ t then some (nth l n) else zD5 l t n
theorem zJa (l : List Ver) (t : Int) : ∀ n, atL l t n = match zD5 l t n with | none => (⟨#[]⟩, false) | some v => (v.Val, !v.Gone)
 | 0 => rfl
 | n + 1 => by
  rw [atL, zD5]
  split
  ·rfl
  ·exact zJa l t n
theorem zO1 {l : List Ver} {t : Int} {v : Ver} : ∀ {n}, n ≤ l.length → zD5 l t n = some v → v ∈ l
 | 0, _, h => by cases h
 | n + 1, hn, h => by
  rw [zD5] at h
  split at h
  ·cases h; exact zAh (by omega)
  ·exact zO1 (by omega) h
def zZn : Ver := ⟨0, ⟨#[]⟩, false⟩
def zCh (l : List Cell) (key : ByteArray) (t : Int) : ByteArray × Bool := if cF l key then atC (nth l (cI l key)) t else (⟨#[]⟩, false)
def zEt : Prop := ∀ (c : Cell) (t : Int), c.Vers.length ≤ 2 ^ 60 → ACall Tryz.prog 156 [.agg (Cell.row false c), i64 t] (fun r _ => r = .tup [str (atC c t).1, bl (atC c t).2])
theorem zTK (hC : zEt) (l : List Cell) (key : ByteArray) (t : Int) (hl : l.length ≤ 2 ^ 60) (hs : zA2 zAm Cell.Key l) (h1 : ∀ c ∈ l, c.Vers.length ≤ 2 ^ 60) : ACall Tryz.prog 147 [.sl false 2 (l.map (Cell.row false)), str key, i64 t] (fun r _ => r = .tup [str (zCh l key t).1, bl (zCh l key t).2]) := by
 have hmx := zAi
 have hc := zDy l key hl hs
 cases hf : cF l key with
 | false =>
  rw [hf] at hc
  rw [zCh, hf]
  refine fi zXC fun E hE hH => ?_; simp only [go_sem] at hE hH; simp only [go_sem, hE, hH, zUE]
  repeat' (first | ((with_reducible first | refine zAa ?_ ?_ | refine zAb ?_ ?_) <;> (intro h; have hb := h; (try simp only [nf] at h); refine sb ?_; (try clear hb))) | ((with_reducible refine And.intro ?_ ?_); · omega) | ((first | refine zAc ?_ | refine cvA (hc) ?_); refine st ?_) | refine jn _ ?_ ?_ | (with_reducible first | refine both ?_ ?_ | refine And.intro ?_ ?_) | exact fe | refine st ?_ | exact fm | refine s1 ?_ | (with_reducible exact True.intro))
  all_goals first | rfl
 | true =>
  obtain ⟨k1, k2⟩ := zCF hs hf
  have cA := hC (nth l (cI l key)) t (h1 _ (zAh k1))
  rw [hf] at hc
  rw [zCh, hf, if_pos rfl]
  generalize atC (nth l (cI l key)) t = q at *
  refine fi zXC fun E hE hH => ?_; simp only [go_sem] at hE hH; simp only [go_sem, hE, hH, zUE]
  repeat' (first | ((with_reducible first | refine zAa ?_ ?_ | refine zAb ?_ ?_) <;> (intro h; have hb := h; (try simp only [nf] at h); refine sb ?_; (try clear hb))) | ((with_reducible refine And.intro ?_ ?_); · omega) | ((first | refine zAc ?_ | refine cvA (hc) ?_ | refine cvA (cA) ?_); refine st ?_) | (with_reducible first | apply jn | apply both | refine And.intro ?_ ?_) | exact fj | refine st ?_ | exact fm | refine s1 ?_ | (with_reducible exact True.intro))
  all_goals first | rfl | omega
theorem zVd (c : Cell) (t : Int) (hl : c.Vers.length ≤ 2 ^ 60) : ACall Tryz.prog 121 [.agg (Cell.row false c), i64 t] (fun r _ => r = .tup [.agg (Ver.row false ((zD5 c.Vers t c.Vers.length).getD zZn)), bl (zD5 c.Vers t c.Vers.length).isSome]) := by
 have hmx := zAi
 refine fi H121 fun E hE hH => ?_; simp only [go_sem] at hE hH; simp only [go_sem, hE, hH, zXn]
 repeat' (first | ((with_reducible first | refine zAa ?_ ?_ | refine zAb ?_ ?_) <;> (intro h; have hb := h; (try simp only [nf] at h); refine sb ?_; (try clear hb))) | ((with_reducible refine And.intro ?_ ?_); · omega) | (with_reducible first | apply jn | apply both | refine And.intro ?_ ?_) | exact fj | refine st ?_ | exact fm | refine s1 ?_ | (with_reducible exact True.intro))
 refine zAx c.Vers.length (fun j (x : Option Ver) => ⟨[(1, i64 t), (4, .ptr 5000000 0 0), (6, .ptr 7000000 0 0), (7, bl x.isSome), (11, .sl false 3 (c.Vers.map (Ver.row false))), (12, i64 c.Vers.length), (13, i64 j)], [(5000000, ⟨3, [[i64 0, str ⟨#[]⟩, bl false]]⟩), (7000000, ⟨3, [Ver.row false (x.getD zZn)]⟩)]⟩) (fun j x => x = zD5 c.Vers t j) none rfl ?_
 intro j x hj hI
 try simp only [go_sem, hE, hH, zP9]
 first | refine zAa (fun h => ?_) (fun h => ?_) | refine zAb (fun h => ?_) (fun h => ?_)
 ·have hb := h
  simp only [nf] at h
  have hlt : j < c.Vers.length := by omega
  try simp (disch := omega) only [go_sem, hE, hH, hb]
  repeat' (first | ((with_reducible first | refine zAa ?_ ?_ | refine zAb ?_ ?_) <;> (intro h; have hb := h; (try simp only [nf] at h); refine sb ?_; (try clear hb))) | ((with_reducible refine And.intro ?_ ?_); · omega) | (with_reducible first | apply jn | apply both | refine And.intro ?_ ?_) | exact fj | refine st ?_ | exact fm | refine s1 ?_ | (with_reducible exact True.intro))
  all_goals first | (rw [show zD5 c.Vers t (j + 1) = some (nth c.Vers j) by rw [zD5, if_pos h]]; rfl) | (rw [show zD5 c.Vers t (j + 1) = x by rw [zD5, if_neg (by omega), hI]]; rfl)
 ·try simp (disch := omega) only [go_sem, hE, hH, h]
  simp only [nf] at h
  rw [show j = c.Vers.length by omega] at hI
  subst hI
  repeat' (first | ((with_reducible first | refine zAa ?_ ?_ | refine zAb ?_ ?_) <;> (intro h; have hb := h; (try simp only [nf] at h); refine sb ?_; (try clear hb))) | ((with_reducible refine And.intro ?_ ?_); · omega) | (with_reducible first | apply jn | apply both | refine And.intro ?_ ?_) | exact fj | refine st ?_ | exact fm | refine s1 ?_ | (with_reducible exact True.intro))
  all_goals trace_state
theorem zTL (l : List Cell) (key : ByteArray) (t : Int) (hl : l.length ≤ 2 ^ 60) (hs : zA2 zAm Cell.Key l) (h1 : ∀ c ∈ l, c.Vers.length ≤ 2 ^ 60) : ACall Tryz.prog 71 [.sl false 2 (l.map (Cell.row false)), str key, i64 t] (fun r _ => r = .tup [str (zCh l key t).1, bl (zCh l key t).2]) := by
 have hmx := zAi
 have hc := zL6 l key (by omega) hs
 cases hf : cF l key with
 | false =>
  rw [hf] at hc
  simp only [Bool.false_eq_true, if_false] at hc
  rw [zCh, hf]
  refine fi H71 fun E hE hH => ?_; simp only [go_sem] at hE hH; simp only [go_sem, hE, hH, C71]
  repeat' (first | ((with_reducible first | refine zAa ?_ ?_ | refine zAb ?_ ?_) <;> (intro h; have hb := h; (try simp only [nf] at h); refine sb ?_; (try clear hb))) | ((with_reducible refine And.intro ?_ ?_); · omega) | ((first | refine zAc ?_ | refine cvA (hc) ?_); refine st ?_) | refine jn _ ?_ ?_ | (with_reducible first | refine both ?_ ?_ | refine And.intro ?_ ?_) | exact fe | refine st ?_ | exact fm | refine s1 ?_ | (with_reducible exact True.intro))
  all_goals first | omega | rfl
 | true =>
  obtain ⟨k1, k2⟩ := zCF hs hf
  have cA := zVd (nth l (cI l key)) t (h1 _ (zAh k1))
  rw [hf, if_pos rfl] at hc
  rw [zCh, hf, if_pos rfl, atC, zJa]
  cases hv : zD5 (nth l (cI l key)).Vers t (nth l (cI l key)).Vers.length with
  | none =>
   rw [hv] at cA
   rw [Option.getD_none, Option.isSome_none] at cA
   refine fi H71 fun E hE hH => ?_; simp only [go_sem] at hE hH; simp only [go_sem, hE, hH, C71]
   repeat' (first | ((with_reducible first | refine zAa ?_ ?_ | refine zAb ?_ ?_) <;> (intro h; have hb := h; (try simp only [nf] at h); refine sb ?_; (try clear hb))) | ((with_reducible refine And.intro ?_ ?_); · omega) | ((first | refine zAc ?_ | refine cvA (hc) ?_ | refine cvA (cA) ?_); refine st ?_) | (with_reducible first | apply jn | apply both | refine And.intro ?_ ?_) | exact fj | refine st ?_ | exact fm | refine s1 ?_ | (with_reducible exact True.intro))
   all_goals first | rfl | omega
  | some v =>
   rw [hv] at cA
   rw [Option.getD_some, Option.isSome_some] at cA
   refine fi H71 fun E hE hH => ?_; simp only [go_sem] at hE hH; simp only [go_sem, hE, hH, C71]
   repeat' (first | ((with_reducible first | refine zAa ?_ ?_ | refine zAb ?_ ?_) <;> (intro h; have hb := h; (try simp only [nf] at h); refine sb ?_; (try clear hb))) | ((with_reducible refine And.intro ?_ ?_); · omega) | ((first | refine zAc ?_ | refine cvA (hc) ?_ | refine cvA (cA) ?_); refine st ?_) | (with_reducible first | apply jn | apply both | refine And.intro ?_ ?_) | exact fj | refine st ?_ | exact fm | refine s1 ?_ | (with_reducible exact True.intro))
   all_goals first | rfl | omega
theorem zPM {v : ByteArray} (h : stored v true = true) : v = ⟨#[]⟩ := by
 simp only [stored, Bool.true_and, Bool.and_eq_true, Bool.not_not, decide_eq_true_eq] at h
 exact h.2
theorem zSh {l : List Cell} {key : ByteArray} {t : Int} (hg : zAT l = true) (h : (zCh l key t).2 = false) : (zCh l key t).1 = ⟨#[]⟩ := by
 have hI := zBL hg
 rw [zCh] at h ⊢
 cases hf : cF l key with
 | false => rfl
 | true =>
  obtain ⟨k1, k2⟩ := zCF hI.srt hf
  rw [hf, if_pos rfl, atC, zJa] at h
  rw [if_pos rfl, atC, zJa]
  cases hv : zD5 (nth l (cI l key)).Vers t (nth l (cI l key)).Vers.length with
  | none => rfl
  | some v =>
   rw [hv] at h
   have hm := zO1 (Nat.le_refl _) hv
   obtain ⟨i, hi, rfl⟩ := List.getElem_of_mem hm
   simp only [zAT, Bool.and_eq_true] at hg
   have h2 := zAE.1 hg.1 _ k1
   simp only [zB3, zDg, Bool.and_eq_true] at h2
   have h3 := zAE.1 h2.1.1.1 i hi
   simp only [zC3, Bool.and_eq_true, zBd hi] at h3
   simp only [Bool.not_eq_false'] at h
   have h4 := h3.1.2
   rw [h] at h4
   exact zPM h4
theorem zGF {w : World} (h : zAX w = true) {j : Nat} (hj : j < w.Groups.length) : zBA (nth w.Groups j) = true ∧ ((nth w.Groups j).Reps.length : Int) = 3 := by
 simp only [zAX, Bool.and_eq_true] at h
 have h1 := h.1.1.1.1.1.1.1.1.2
 have := zAE.1 h1 j hj
 simp only [zEU, Bool.and_eq_true, decide_eq_true_eq] at this
 exact this.1
theorem zWo {g : Group} (h : zBA g = true) : stI 60 (zBn g) := by
 obtain ⟨h3, h5, hr⟩ := zMa h
 exact zZm (hr _ (zAh (zFO (g := g) (by omega) g.Reps.length (Nat.le_refl _))))
theorem zEF {w : World} (h : zAX w = true) : 1 ≤ w.Groups.length ∧ w.Groups.length ≤ 3 ∧ w.Txns.length ≤ 6 ∧ w.Looks.length ≤ 4 := by
 have hh : zBR w = true := by simp only [zAX, Bool.and_eq_true] at h; exact h.1.1.1.1.1.1.1.1.1
 have h2 := zBS.1 hh
 simp only [zAX, Bool.and_eq_true, decide_eq_true_eq] at h
 obtain ⟨a1, _, a3, _⟩ := h2
 refine ⟨by omega, by omega, ?_, ?_⟩
 ·have := h.1.1.1.1.2; omega
 ·have := h.1.1.1.2; omega
theorem zNk (hS : zDa) (w : World) (hg : zAX w = true) : ACall Tryz.prog 38 [.agg (World.row false w)] (fun r _ => r = .sl true 4 ((w.Groups.map zBn).map (State.row true))) := by
 have hmx := zAi
 have hln := zEF hg
 have hLn : (w.Groups.map zBn).length = w.Groups.length := by simp
 have hLi : ∀ j, j < w.Groups.length → nth (w.Groups.map zBn) j = zBn (nth w.Groups j) := fun j hj => zDI hj
 generalize hL : w.Groups.map zBn = L at *
 refine fi H38 fun E hE hH => ?_; simp only [go_sem] at hE hH; simp only [go_sem, hE, hH, C38]
 repeat' (first | ((with_reducible first | refine zAa ?_ ?_ | refine zAb ?_ ?_) <;> (intro h; have hb := h; (try simp only [nf] at h); refine sb ?_; (try clear hb))) | ((with_reducible refine And.intro ?_ ?_); · omega) | (with_reducible first | apply jn | apply both | refine And.intro ?_ ?_) | exact fj | refine st ?_ | exact fm | refine s1 ?_ | (with_reducible exact True.intro))
 refine zBg w.Groups.length (fun j (_ : Unit) => ⟨[(3, .ref 4000000 0 j), (8, .sl false 3 (w.Groups.map (Group.row false))), (9, i64 w.Groups.length), (10, i64 j)], [(4000000, ⟨4, (L.take j).map (State.row true)⟩)]⟩) (fun _ _ => True) () rfl trivial ?_
 intro j _ hj _
 try simp only [go_sem, hE, hH, zS3]
 first | refine zAa (fun h => ?_) (fun h => ?_) | refine zAb (fun h => ?_) (fun h => ?_)
 ·have hb := h
  simp only [nf] at h
  have hlt : j < w.Groups.length := by omega
  clear h
  obtain ⟨hgo, -⟩ := zGF hg hlt
  have cS := zOZ hS _ hgo
  rw [← hLi j hlt] at cS
  have hn : (L.take j).length = j := by rw [List.length_take]; omega
  have ht : (L.take j).take j = L.take j := by rw [List.take_take, Nat.min_self]
  try simp (disch := omega) only [go_sem, hE, hH, hn, hb]
  repeat' (first | ((with_reducible first | refine zAa ?_ ?_ | refine zAb ?_ ?_) <;> (intro h; have hb := h; (try simp only [nf] at h); simp (disch := omega) only [go_sem, hE, hH, hn, hb]; (try clear hb))) | ((with_reducible refine And.intro ?_ ?_); · omega) | ((first | refine zAc ?_ | refine cvA (cS) ?_); simp (disch := omega) only [go_sem, hE, hH, hn]) | (with_reducible first | apply jn | apply both | refine And.intro ?_ ?_) | ((with_reducible apply zAj); (try (simp (disch := omega) only [go_sem, hE, hH, hn])); first | done | rfl) | (simp (disch := omega) only [go_sem, hE, hH, hn]) | ((first | apply zAe | apply zAl) <;> (simp only [go_sem, hE, hH, hn]; done)) | (simp only [go_sem, hE, hH, hn]) | fail)
  repeat' (first | (refine both ?_ ?_) | omega | ((first | apply zAe | apply zAl) <;> (simp only [go_sem, hE, hH, hn]; done)) | fail)
  all_goals try simp only [ht, hn]
  all_goals try first | omega | exact Nat.le_trans (Nat.mul_le_mul_right _ (show j + 1 ≤ 2 ^ 20 + 1 by omega)) (by decide)
  all_goals (
   refine ⟨(), ?_⟩
   rw [zAI (show j < L.length by omega), List.map_append]
   rfl)
 ·try simp (disch := omega) only [go_sem, hE, hH, h]
  simp only [nf] at h
  rw [show j = w.Groups.length by omega, ← hLn, List.take_length]
  repeat' (first | ((with_reducible first | refine zAa ?_ ?_ | refine zAb ?_ ?_) <;> (intro h; have hb := h; (try simp only [nf] at h); refine sb ?_; (try clear hb))) | ((with_reducible refine And.intro ?_ ?_); · omega) | (with_reducible first | apply jn | apply both | refine And.intro ?_ ?_) | exact fj | refine st ?_ | exact fm | refine s1 ?_ | (with_reducible exact True.intro))
  all_goals first | rfl
theorem zVe {p : Nat → Bool} {n m : Nat} (hn : n ≤ m) (h1 : ∀ i, i < n → p i = true) (h2 : ∀ i, n ≤ i → i < m → p i = false) : zCE p m = n := by
 rw [zER hn h2, zFB (zAE.2 h1)]
theorem zVf {l : List ByteArray} (h : zBv l = true) : ∀ i j, i < j → j < l.length → zAm (nth l i) (nth l j) = true := by
 have key : ∀ d i, i + d + 1 < l.length → zAm (nth l i) (nth l (i + d + 1)) = true := by
  intro d
  induction d with
  | zero =>
   intro i hi
   have := zAE.1 h (i + 1) hi
   simp only [Bool.and_eq_true, Bool.or_eq_true, decide_eq_true_eq, Nat.add_sub_cancel] at this
   exact this.2.resolve_left (by omega)
  | succ d ih =>
   intro i hi
   have h3 := ih i (by omega)
   have := zAE.1 h (i + (d + 1) + 1) (by omega)
   simp only [Bool.and_eq_true, Bool.or_eq_true, decide_eq_true_eq, Nat.add_sub_cancel] at this
   have h4 := this.2.resolve_left (by omega)
   rw [show i + d + 1 = i + (d + 1) by omega] at h3
   exact zCt h3 h4
 intro i j hij hj
 have := key (j - i - 1) i (by omega)
 rwa [show i + (j - i - 1) + 1 = j by omega] at this
def zCy (cuts : List ByteArray) (k : ByteArray) : Nat := zCE (fun i => !zAm k (nth cuts i)) cuts.length
theorem zKc {cuts : List ByteArray} {k : ByteArray} : zCy cuts k ≤ cuts.length := zGS
theorem zO2 {cuts : List ByteArray} {k : ByteArray} {n : Nat} (hr : zBv cuts = true) (hn : n ≤ cuts.length) (h1 : ∀ i, i < n → zAm k (nth cuts i) = false) (h2 : n = cuts.length ∨ zAm k (nth cuts n) = true) : zCy cuts k = n := by
 refine zVe hn (fun i hi => by rw [h1 i hi]; rfl) fun i hi hl => ?_
 rcases h2 with h2 | h2
 ·omega
 ·by_cases e : i = n
  ·rw [e, h2]; rfl
  ·rw [zCt h2 (zVf hr n i (by omega) hl)]; rfl
def zO3 (s : State) (k : ByteArray) (t : Int) : Got := ⟨k, (zCh s.Cells k t).1, (zCh s.Cells k t).2⟩
def zBY (cuts : List ByteArray) (L : List State) (got : List Got) (t : Int) : List Got := got.map fun g => zO3 (nth L (zCy cuts g.Key)) g.Key t
theorem zLb {w : World} (h : zAX w = true) : zCT w.Cuts = true ∧ (w.Groups.length : Int) = w.Cuts.length + 1 := by
 have hh : zBR w = true := by simp only [zAX, Bool.and_eq_true] at h; exact h.1.1.1.1.1.1.1.1.1
 have h2 := zBS.1 hh
 exact ⟨h2.2.1, h2.2.2.1⟩
theorem zSi (cuts : List ByteArray) (k : ByteArray) (hl : cuts.length ≤ 2 ^ 20) (hr : zBv cuts = true) : ACall Tryz.prog 72 [.sl false 1 (strs cuts), str k] (fun r _ => r = i64 (zCy cuts k)) := by
 have hmx := zAi
 refine fi H72 fun E hE hH => ?_; simp only [go_sem] at hE hH; simp only [go_sem, hE, hH, C72]
 repeat' (first | ((with_reducible first | refine zAa ?_ ?_ | refine zAb ?_ ?_) <;> (intro h; have hb := h; (try simp only [nf] at h); refine sb ?_; (try clear hb))) | ((with_reducible refine And.intro ?_ ?_); · omega) | (with_reducible first | apply jn | apply both | refine And.intro ?_ ?_) | exact fj | refine st ?_ | exact fm | refine s1 ?_ | (with_reducible exact True.intro))
 refine zI2 (fun (n : Nat) => ⟨[(0, .sl false 1 (strs cuts)), (1, str k), (5, i64 n)], []⟩) (fun n => n ≤ cuts.length ∧ ∀ i, i < n → zAm k (nth cuts i) = false) (fun n => cuts.length - n) 0 ⟨by omega, fun i hi => by omega⟩ ?_
 rintro n ⟨hn, hI⟩
 have hst : zAm k (nth cuts n) = false → ∀ i, i < n + 1 → zAm k (nth cuts i) = false := fun h i hi => (Nat.lt_succ_iff_lt_or_eq.1 hi).elim (hI i) (fun e => e ▸ h)
 try simp only [go_sem, hE, hH, zTb]
 repeat' (first | ((with_reducible first | refine zAa ?_ ?_ | refine zAb ?_ ?_) <;> (intro h; have hb := h; (try simp only [nf] at h); refine sb ?_; (try clear hb))) | ((with_reducible refine And.intro ?_ ?_); · omega) | (with_reducible first | apply jn | apply both | refine And.intro ?_ ?_) | exact fj | refine st ?_ | exact fm | refine s1 ?_ | (with_reducible exact True.intro))
 all_goals first | omega | (rw [zO2 hr hn hI (by first | (left; omega) | (right; simp_all; done))]; done) | (rw [zO2 hr hn hI (by first | (left; omega) | (right; simp_all; done))]; rfl) | exact ⟨n + 1, rfl, ⟨by omega, hst (by assumption)⟩, by omega⟩
theorem zVg (hC : zEt) (s : State) (k : ByteArray) (t : Int) (hc : zAT s.Cells = true) : ACall Tryz.prog 91 [.agg (State.row false s), str k, i64 t] (fun r _ => r = .agg (Got.row false (zO3 s k t))) := by
 have hmx := zAi
 have hci := zBL hc
 have c1 := zTK hC s.Cells k t (by have := hci.len; omega) hci.srt (fun c q => by have := (hci.one c q).2; omega)
 rw [zO3]
 generalize zCh s.Cells k t = q at *
 refine fi H91 fun E hE hH => ?_; simp only [go_sem] at hE hH; simp only [go_sem, hE, hH, C91]
 repeat' (first | ((with_reducible first | refine zAa ?_ ?_ | refine zAb ?_ ?_) <;> (intro h; have hb := h; (try simp only [nf] at h); refine sb ?_; (try clear hb))) | ((with_reducible refine And.intro ?_ ?_); · omega) | ((first | refine zAc ?_ | refine cvA (c1) ?_); refine st ?_) | (with_reducible first | apply jn | apply both | refine And.intro ?_ ?_) | exact fj | refine st ?_ | exact fm | refine s1 ?_ | (with_reducible exact True.intro))
 all_goals first | rfl
theorem zJz {α : Type} [Inhabited α] [DecidableEq α] {a b : List α} (h : a.length = b.length) : decide (a = b) = zAu (fun i => decide (nth a i = nth b i)) a.length := by
 rw [Bool.eq_iff_iff, decide_eq_true_iff, zAE]
 constructor
 ·rintro rfl i _; simp
 ·intro hh
  apply List.ext_getElem h
  intro i h1 h2
  have := of_decide_eq_true (hh i h1)
  rwa [zBd h1, zBd h2] at this
theorem zO4 (a b : List Got) (ha : a.length ≤ 2 ^ 20) (hb0 : b.length ≤ 2 ^ 20) : ACall Tryz.prog 36 [.sl false 3 (a.map (Got.row false)), .sl false 3 (b.map (Got.row false))] (fun r _ => r = bl (decide (a = b))) := by
 have hmx := zAi
 by_cases hl : a.length = b.length
 ·rw [zJz hl]
  refine fi H36 fun E hE hH => ?_; simp only [go_sem] at hE hH; simp only [go_sem, hE, hH, C36]
  repeat' (first | ((with_reducible first | refine zAa ?_ ?_ | refine zAb ?_ ?_) <;> (intro h; have hb := h; (try simp only [nf] at h); refine sb ?_; (try clear hb))) | ((with_reducible refine And.intro ?_ ?_); · omega) | (with_reducible first | apply jn | apply both | refine And.intro ?_ ?_) | exact fj | refine st ?_ | exact fm | refine s1 ?_ | (with_reducible exact True.intro))
  all_goals try omega
  refine zAx a.length (fun j (_ : Unit) => ⟨[(0, .sl false 3 (a.map (Got.row false))), (1, .sl false 3 (b.map (Got.row false))), (12, i64 a.length), (13, i64 j)], []⟩) (fun j _ => zAu (fun i => decide (nth a i = nth b i)) j = true) () rfl ?_
  intro j _ hj hI
  try simp only [go_sem, hE, hH, zS1]
  first | refine zAa (fun h => ?_) (fun h => ?_) | refine zAb (fun h => ?_) (fun h => ?_)
  ·have hb := h
   simp only [nf] at h
   have hlt : j < a.length := by omega
   have hlb : j < b.length := by omega
   have hge := zZg (a := nth a j) (b := nth b j)
   try simp (disch := omega) only [go_sem, hE, hH, hb]
   repeat' (first | ((with_reducible first | refine zAa ?_ ?_ | refine zAb ?_ ?_) <;> (intro h; have hb := h; (try simp only [nf] at h); refine sb ?_; (try clear hb))) | ((with_reducible refine And.intro ?_ ?_); · omega) | (with_reducible first | apply jn | apply both | refine And.intro ?_ ?_) | exact fj | refine st ?_ | exact fm | refine s1 ?_ | (with_reducible exact True.intro))
   all_goals first | omega | exact ⟨(), rfl, zAf hI (by simp_all)⟩ | (rw [zAF hlt (by simp_all)]; done)
  ·try simp (disch := omega) only [go_sem, hE, hH, h]
   simp only [nf] at h
   rw [show j = a.length by omega] at hI
   rw [hI]
   repeat' (first | ((with_reducible first | refine zAa ?_ ?_ | refine zAb ?_ ?_) <;> (intro h; have hb := h; (try simp only [nf] at h); refine sb ?_; (try clear hb))) | ((with_reducible refine And.intro ?_ ?_); · omega) | (with_reducible first | apply jn | apply both | refine And.intro ?_ ?_) | exact fj | refine st ?_ | exact fm | refine s1 ?_ | (with_reducible exact True.intro))
   all_goals first | rfl
 ·rw [decide_eq_false (fun e => hl (by rw [e]))]
  refine fi H36 fun E hE hH => ?_; simp only [go_sem] at hE hH; simp only [go_sem, hE, hH, C36]
  repeat' (first | ((with_reducible first | refine zAa ?_ ?_ | refine zAb ?_ ?_) <;> (intro h; have hb := h; (try simp only [nf] at h); refine sb ?_; (try clear hb))) | ((with_reducible refine And.intro ?_ ?_); · omega) | (with_reducible first | apply jn | apply both | refine And.intro ?_ ?_) | exact fj | refine st ?_ | exact fm | refine s1 ?_ | (with_reducible exact True.intro))
  all_goals first | rfl | omega
theorem zTM (hC : zEt) (w : World) (L : List State) (got : List Got) (t : Int) (hc : w.Cuts.length ≤ 2 ^ 20) (hL : L.length = w.Cuts.length + 1) (hs : ∀ s ∈ L, zAT s.Cells = true) (hg : got.length ≤ 2 ^ 10) : ACall Tryz.prog 37 [.agg (World.row false w), .sl false 4 (L.map (State.row false)), .sl false 3 (got.map (Got.row false)), i64 t] (fun r _ => r = .sl true 3 ((zBY w.Cuts L got t).map (Got.row true))) := by
 have hmx := zAi
 have hRn : (zBY w.Cuts L got t).length = got.length := by rw [zBY, List.length_map]
 have hRi : ∀ j, j < got.length → nth (zBY w.Cuts L got t) j = zO3 (nth L (zCy w.Cuts (nth got j).Key)) (nth got j).Key t := fun j hj => by rw [zBY, zDI hj]
 generalize zBY w.Cuts L got t = R at *
 refine fi H37 fun E hE hH => ?_; simp only [go_sem] at hE hH; simp only [go_sem, hE, hH, C37]
 repeat' (first | ((with_reducible first | refine zAa ?_ ?_ | refine zAb ?_ ?_) <;> (intro h; have hb := h; (try simp only [nf] at h); refine sb ?_; (try clear hb))) | ((with_reducible refine And.intro ?_ ?_); · omega) | (with_reducible first | apply jn | apply both | refine And.intro ?_ ?_) | exact fj | refine st ?_ | exact fm | refine s1 ?_ | (with_reducible exact True.intro))
 refine zBg got.length (fun j (_ : Unit) => ⟨[(1, .sl false 4 (L.map (State.row false))), (3, i64 t), (4, .ptr 5000000 0 0), (9, .ref 10000000 0 j), (13, .sl false 3 (got.map (Got.row false))), (14, i64 got.length), (15, i64 j)], [(5000000, ⟨9, [World.row false w]⟩), (10000000, ⟨3, (R.take j).map (Got.row true)⟩)]⟩) (fun _ _ => True) () rfl trivial ?_
 intro j _ hj _
 try simp only [go_sem, hE, hH, zS2]
 first | refine zAa (fun h => ?_) (fun h => ?_) | refine zAb (fun h => ?_) (fun h => ?_)
 ·have hb := h
  simp only [nf] at h
  have hlt : j < got.length := by omega
  clear h
  have hp := zKc (cuts := w.Cuts) (k := (nth got j).Key)
  have cP : ACall Tryz.prog 92 [.sl false 1 (strs w.Cuts), str (nth got j).Key] (fun r _ => r = i64 (zCy w.Cuts (nth got j).Key)) := zTl w.Cuts (nth got j).Key (by omega)
  have hpL : zCy w.Cuts (nth got j).Key < L.length := by omega
  have cG := zVg hC (nth L (zCy w.Cuts (nth got j).Key)) (nth got j).Key t (hs _ (zAh hpL))
  rw [← hRi j hlt] at cG
  generalize zCy w.Cuts (nth got j).Key = p at *
  have hn : (R.take j).length = j := by rw [List.length_take]; omega
  have ht : (R.take j).take j = R.take j := by rw [List.take_take, Nat.min_self]
  try simp (disch := omega) only [go_sem, hE, hH, hn, hb]
  repeat' (first | ((with_reducible first | refine zAa ?_ ?_ | refine zAb ?_ ?_) <;> (intro h; have hb := h; (try simp only [nf] at h); simp (disch := omega) only [go_sem, hE, hH, hn, hb]; (try clear hb))) | ((with_reducible refine And.intro ?_ ?_); · omega) | ((first | refine zAc ?_ | refine cvA (cP) ?_ | refine cvA (cG) ?_); simp (disch := omega) only [go_sem, hE, hH, hn]) | (with_reducible first | apply jn | apply both | refine And.intro ?_ ?_) | ((with_reducible apply zAj); (try (simp (disch := omega) only [go_sem, hE, hH, hn])); first | done | rfl) | (simp (disch := omega) only [go_sem, hE, hH, hn]) | ((first | apply zAe | apply zAl) <;> (simp only [go_sem, hE, hH, hn]; done)) | (simp only [go_sem, hE, hH, hn]) | fail)
  repeat' (first | (refine both ?_ ?_) | omega | ((first | apply zAe | apply zAl) <;> (simp only [go_sem, hE, hH, hn]; done)) | fail)
  all_goals try simp only [ht, hn]
  all_goals try first | omega | exact Nat.le_trans (Nat.mul_le_mul_right _ (show j + 1 ≤ 2 ^ 20 + 1 by omega)) (by decide)
  all_goals (
   refine ⟨(), ?_⟩
   rw [zAI (show j < R.length by omega), List.map_append]
   rfl)
 ·try simp (disch := omega) only [go_sem, hE, hH, h]
  simp only [nf] at h
  rw [show j = got.length by omega, ← hRn, List.take_length]
  repeat' (first | ((with_reducible first | refine zAa ?_ ?_ | refine zAb ?_ ?_) <;> (intro h; have hb := h; (try simp only [nf] at h); refine sb ?_; (try clear hb))) | ((with_reducible refine And.intro ?_ ?_); · omega) | (with_reducible first | apply jn | apply both | refine And.intro ?_ ?_) | exact fj | refine st ?_ | exact fm | refine s1 ?_ | (with_reducible exact True.intro))
  all_goals first | rfl
def zBU (w : World) (n : Int) : Bool × Bool := if (zAX w && rng n 0 ((w.Looks.length : Int) - 1)) = true then (decide (zBY w.Cuts (w.Groups.map zBn) (nth w.Looks n.toNat).Got (nth w.Looks n.toNat).Time = (nth w.Looks n.toNat).Got), true) else (false, false)
theorem zIQ {w : World} (h : zAX w = true) {j : Nat} (hj : j < w.Looks.length) : zBt w (nth w.Looks j) = true := by
 simp only [zAX, Bool.and_eq_true] at h
 exact List.all_eq_true.1 h.2 _ (zAh hj)
theorem zLc {w : World} (h : zAX w = true) : ∀ s ∈ w.Groups.map zBn, zAT s.Cells = true := by
 intro s hs
 obtain ⟨g, hg, rfl⟩ := List.mem_map.1 hs
 obtain ⟨i, hi, rfl⟩ := List.getElem_of_mem hg
 have := (zGF h hi).1
 rw [zBd hi] at this
 exact (zWo this).cells
theorem zMX {w : World} (h : zAX w = true) : (w.Groups.map zBn).length = w.Cuts.length + 1 := by
 have := (zLb h).2
 rw [List.length_map]; omega
theorem zO5 (hS : zDa) (hC : zEt) (w : World) (n : Int) (hw : zG3 w) : ACall Tryz.prog 8 [.agg (World.row false w), i64 n] (fun r _ => r = .tup [bl (zBU w n).1, bl (zBU w n).2]) := by
 have hmx := zAi
 have c1 := zON w hw
 have c2 := zA8 n 0 ((w.Looks.length : Int) - 1)
 cases hg : zAX w with
 | false =>
  rw [hg] at c1
  rw [show zBU w n = (false, false) by rw [zBU, hg]; rfl]
  refine fi H8 fun E hE hH => ?_; simp only [go_sem] at hE hH; simp only [go_sem, hE, hH, C8]
  repeat' (first | ((with_reducible first | refine zAa ?_ ?_ | refine zAb ?_ ?_) <;> (intro h; have hb := h; (try simp only [nf] at h); refine sb ?_; (try clear hb))) | ((with_reducible refine And.intro ?_ ?_); · omega) | ((first | refine zAc ?_ | refine cvA (c1) ?_); refine st ?_) | (with_reducible first | apply jn | apply both | refine And.intro ?_ ?_) | exact fj | refine st ?_ | exact fm | refine s1 ?_ | (with_reducible exact True.intro))
  all_goals first | rfl
 | true =>
  rw [hg] at c1
  obtain ⟨l1, l2, l3, l4⟩ := zEF hg
  cases h2 : rng n 0 ((w.Looks.length : Int) - 1) with
  | false =>
   rw [h2] at c2
   rw [show zBU w n = (false, false) by rw [zBU, hg, h2]; rfl]
   refine fi H8 fun E hE hH => ?_; simp only [go_sem] at hE hH; simp only [go_sem, hE, hH, C8]
   repeat' (first | ((with_reducible first | refine zAa ?_ ?_ | refine zAb ?_ ?_) <;> (intro h; have hb := h; (try simp only [nf] at h); refine sb ?_; (try clear hb))) | ((with_reducible refine And.intro ?_ ?_); · omega) | ((first | refine zAc ?_ | refine cvA (c1) ?_ | refine cvA (c2) ?_); refine st ?_) | (with_reducible first | apply jn | apply both | refine And.intro ?_ ?_) | exact fj | refine st ?_ | exact fm | refine s1 ?_ | (with_reducible exact True.intro))
   all_goals first | rfl | omega
  | true =>
   rw [h2] at c2
   have h2' := zBJ.1 h2
   rw [show zBU w n = (decide (zBY w.Cuts (w.Groups.map zBn) (nth w.Looks n.toNat).Got (nth w.Looks n.toNat).Time = (nth w.Looks n.toNat).Got), true) by rw [zBU, hg, h2]; rfl]
   obtain ⟨k, rfl⟩ : ∃ k : Nat, n = k := ⟨n.toNat, by omega⟩
   rw [Int.toNat_natCast]
   have hlt : k < w.Looks.length := by omega
   have hlk := zIQ hg hlt
   simp only [zBt, zA5, Bool.and_eq_true, decide_eq_true_eq] at hlk
   have hg8 : (nth w.Looks k).Got.length ≤ 8 := by have := hlk.1.1.1.1.2; omega
   have c3 := zNk hS w hg
   have hLn := zMX hg
   have hcl := (zLb hg).2
   have c4 := zTM hC w (w.Groups.map zBn) (nth w.Looks k).Got (nth w.Looks k).Time (by omega) hLn (zLc hg) (by omega)
   have c5 := zO4 (zBY w.Cuts (w.Groups.map zBn) (nth w.Looks k).Got (nth w.Looks k).Time) (nth w.Looks k).Got (by rw [zBY, List.length_map]; omega) (by omega)
   have hRn : (zBY w.Cuts (w.Groups.map zBn) (nth w.Looks k).Got (nth w.Looks k).Time).length = (nth w.Looks k).Got.length := by rw [zBY, List.length_map]
   generalize zBY w.Cuts (w.Groups.map zBn) (nth w.Looks k).Got (nth w.Looks k).Time = R at *
   generalize w.Groups.map zBn = L at *
   refine fi H8 fun E hE hH => ?_; simp only [go_sem] at hE hH; simp only [go_sem, hE, hH, C8]
   repeat' (first | ((with_reducible first | refine zAa ?_ ?_ | refine zAb ?_ ?_) <;> (intro h; have hb := h; (try simp only [nf] at h); refine sb ?_; (try clear hb))) | ((with_reducible refine And.intro ?_ ?_); · omega) | ((first | refine zAc ?_ | refine cvA (c1) ?_ | refine cvA (c2) ?_ | refine cvA (c3) ?_ | refine cvA (c4) ?_ | refine cvA (c5) ?_); refine st ?_) | (with_reducible first | apply jn | apply both | refine And.intro ?_ ?_) | exact fj | refine st ?_ | exact fm | refine s1 ?_ | (with_reducible exact True.intro))
   all_goals first | rfl | omega
theorem zO6 (w : World) (hg : zAX w = true) : ACall Tryz.prog 26 [.agg (World.row false w)] (fun r _ => r = .sl true 4 ((w.Groups.map zBn).map (State.row false))) := by
 have hmx := zAi
 have hln := zEF hg
 have hLn : (w.Groups.map zBn).length = w.Groups.length := by simp
 have hLi : ∀ j, j < w.Groups.length → nth (w.Groups.map zBn) j = zBn (nth w.Groups j) := fun j hj => zDI hj
 generalize hL : w.Groups.map zBn = L at *
 refine fi H26 fun E hE hH => ?_; simp only [go_sem] at hE hH; simp only [go_sem, hE, hH, C26]
 repeat' (first | ((with_reducible first | refine zAa ?_ ?_ | refine zAb ?_ ?_) <;> (intro h; have hb := h; (try simp only [nf] at h); refine sb ?_; (try clear hb))) | ((with_reducible refine And.intro ?_ ?_); · omega) | (with_reducible first | apply jn | apply both | refine And.intro ?_ ?_) | exact fj | refine st ?_ | exact fm | refine s1 ?_ | (with_reducible exact True.intro))
 refine zBg w.Groups.length (fun j (_ : Unit) => ⟨[(3, .ref 4000000 0 j), (7, .sl false 3 (w.Groups.map (Group.row false))), (8, i64 w.Groups.length), (9, i64 j)], [(4000000, ⟨4, (L.take j).map (State.row false)⟩)]⟩) (fun _ _ => True) () rfl trivial ?_
 intro j _ hj _
 try simp only [go_sem, hE, hH, zSW]
 first | refine zAa (fun h => ?_) (fun h => ?_) | refine zAb (fun h => ?_) (fun h => ?_)
 ·have hb := h
  simp only [nf] at h
  have hlt : j < w.Groups.length := by omega
  clear h
  obtain ⟨hgo, -⟩ := zGF hg hlt
  have cS := zSg _ hgo
  rw [← hLi j hlt] at cS
  have hn : (L.take j).length = j := by rw [List.length_take]; omega
  have ht : (L.take j).take j = L.take j := by rw [List.take_take, Nat.min_self]
  try simp (disch := omega) only [go_sem, hE, hH, hn, hb]
  repeat' (first | ((with_reducible first | refine zAa ?_ ?_ | refine zAb ?_ ?_) <;> (intro h; have hb := h; (try simp only [nf] at h); simp (disch := omega) only [go_sem, hE, hH, hn, hb]; (try clear hb))) | ((with_reducible refine And.intro ?_ ?_); · omega) | ((first | refine zAc ?_ | refine cvA (cS) ?_); simp (disch := omega) only [go_sem, hE, hH, hn]) | (with_reducible first | apply jn | apply both | refine And.intro ?_ ?_) | ((with_reducible apply zAj); (try (simp (disch := omega) only [go_sem, hE, hH, hn])); first | done | rfl) | (simp (disch := omega) only [go_sem, hE, hH, hn]) | ((first | apply zAe | apply zAl) <;> (simp only [go_sem, hE, hH, hn]; done)) | (simp only [go_sem, hE, hH, hn]) | fail)
  repeat' (first | (refine both ?_ ?_) | omega | ((first | apply zAe | apply zAl) <;> (simp only [go_sem, hE, hH, hn]; done)) | fail)
  all_goals try simp only [ht, hn]
  all_goals try first | omega | exact Nat.le_trans (Nat.mul_le_mul_right _ (show j + 1 ≤ 2 ^ 20 + 1 by omega)) (by decide)
  all_goals (
   refine ⟨(), ?_⟩
   rw [zAI (show j < L.length by omega), List.map_append]
   rfl)
 ·try simp (disch := omega) only [go_sem, hE, hH, h]
  simp only [nf] at h
  rw [show j = w.Groups.length by omega, ← hLn, List.take_length]
  repeat' (first | ((with_reducible first | refine zAa ?_ ?_ | refine zAb ?_ ?_) <;> (intro h; have hb := h; (try simp only [nf] at h); refine sb ?_; (try clear hb))) | ((with_reducible refine And.intro ?_ ?_); · omega) | (with_reducible first | apply jn | apply both | refine And.intro ?_ ?_) | exact fj | refine st ?_ | exact fm | refine s1 ?_ | (with_reducible exact True.intro))
  all_goals first | rfl
def zGd (cuts : List ByteArray) (L : List State) (t : Int) (g : Got) : Bool := ((zCh (nth L (zCy cuts g.Key)).Cells g.Key t).2 == g.There) && (!g.There || decide ((zCh (nth L (zCy cuts g.Key)).Cells g.Key t).1 = g.Val))
theorem zSj {cuts : List ByteArray} {L : List State} {got : List Got} {t : Int} (hL : L.length = cuts.length + 1) (hs : ∀ s ∈ L, zAT s.Cells = true) (hg : zA5 got = true) : decide (zBY cuts L got t = got) = zAu (fun i => zGd cuts L t (nth got i)) got.length := by
 have hn : (zBY cuts L got t).length = got.length := by rw [zBY, List.length_map]
 rw [zJz hn, hn]
 refine zHs fun i hi => ?_
 rw [zBY, zDI hi]
 simp only [zA5, Bool.and_eq_true] at hg
 have h1 := zAE.1 hg.1 i hi
 simp only [Bool.and_eq_true] at h1
 have h2 : stored (nth got i).Val (!(nth got i).There) = true := h1.1.2
 have hp := zKc (cuts := cuts) (k := (nth got i).Key)
 have h3 := hs _ (zAh (show zCy cuts (nth got i).Key < L.length by omega))
 have h4 := zSh (key := (nth got i).Key) (t := t) h3
 rw [zGd, zO3]
 generalize zCh (nth L (zCy cuts (nth got i).Key)).Cells (nth got i).Key t = q at *
 rcases q with ⟨v, b⟩
 generalize nth got i = g at *
 rcases g with ⟨k, gv, gt⟩
 simp only [stored, Bool.and_eq_true] at h2 h4 ⊢
 cases b <;> cases gt <;> simp_all
theorem zNl (cuts : List ByteArray) (L : List State) (got : List Got) (t : Int) (hc : cuts.length ≤ 2 ^ 20) (hr : zBv cuts = true) (hL : L.length = cuts.length + 1) (hs : ∀ s ∈ L, zAT s.Cells = true) (hg : zA5 got = true) : ACall Tryz.prog 25 [.sl false 1 (strs cuts), .sl false 4 (L.map (State.row false)), .sl false 3 (got.map (Got.row false)), i64 t] (fun r _ => r = bl (decide (zBY cuts L got t = got))) := by
 have hmx := zAi
 rw [zSj hL hs hg]
 have hg8 : got.length ≤ 8 := by simp only [zA5, Bool.and_eq_true, decide_eq_true_eq] at hg; omega
 clear hg
 generalize hp0 : zAu (fun i => zGd cuts L t (nth got i)) got.length = ans
 refine fi H25 fun E hE hH => ?_; simp only [go_sem] at hE hH; simp only [go_sem, hE, hH, C25]
 repeat' (first | ((with_reducible first | refine zAa ?_ ?_ | refine zAb ?_ ?_) <;> (intro h; have hb := h; (try simp only [nf] at h); refine sb ?_; (try clear hb))) | ((with_reducible refine And.intro ?_ ?_); · omega) | (with_reducible first | apply jn | apply both | refine And.intro ?_ ?_) | exact fj | refine st ?_ | exact fm | refine s1 ?_ | (with_reducible exact True.intro))
 refine zAx got.length (fun j (_ : Unit) => ⟨[(0, .sl false 1 (strs cuts)), (1, .sl false 4 (L.map (State.row false))), (3, i64 t), (13, .sl false 3 (got.map (Got.row false))), (14, i64 got.length), (15, i64 j)], []⟩) (fun j _ => zAu (fun i => zGd cuts L t (nth got i)) j = true) () rfl ?_
 intro j _ hj hI
 try simp only [go_sem, hE, hH, zSV]
 first | refine zAa (fun h => ?_) (fun h => ?_) | refine zAb (fun h => ?_) (fun h => ?_)
 ·have hb := h
  simp only [nf] at h
  have hlt : j < got.length := by omega
  clear h
  have hp := zKc (cuts := cuts) (k := (nth got j).Key)
  have cP := zSi cuts (nth got j).Key hc hr
  have hpL : zCy cuts (nth got j).Key < L.length := by omega
  have hci := zBL (hs _ (zAh hpL))
  have cL := zTL (nth L (zCy cuts (nth got j).Key)).Cells (nth got j).Key t (by have := hci.len; omega) hci.srt (fun c q => by have := (hci.one c q).2; omega)
  have hno : zGd cuts L t (nth got j) = false → ans = false := fun e => by rw [← hp0]; exact zAF hlt e
  have hst : zGd cuts L t (nth got j) = true → zAu (fun i => zGd cuts L t (nth got i)) (j + 1) = true := fun e => zAf hI e
  rw [zGd] at hno hst
  generalize zCy cuts (nth got j).Key = p at *
  generalize zCh (nth L p).Cells (nth got j).Key t = q at *
  rcases q with ⟨v, b⟩
  try simp (disch := omega) only [go_sem, hE, hH, hb]
  repeat' (first | ((with_reducible first | refine zAa ?_ ?_ | refine zAb ?_ ?_) <;> (intro h; have hb := h; (try simp only [nf] at h); refine sb ?_; (try clear hb))) | ((with_reducible refine And.intro ?_ ?_); · omega) | ((first | refine zAc ?_ | refine cvA (cP) ?_ | refine cvA (cL) ?_); refine st ?_) | (with_reducible first | apply jn | apply both | refine And.intro ?_ ?_) | exact fj | refine st ?_ | exact fm | refine s1 ?_ | (with_reducible exact True.intro))
  all_goals first | omega | exact ⟨(), rfl, hst (by simp_all)⟩ | (rw [hno (by simp_all)]; done) | (rw [hno (by simp_all)]; rfl)
 ·try simp (disch := omega) only [go_sem, hE, hH, h]
  simp only [nf] at h
  rw [show j = got.length by omega, hp0] at hI
  rw [hI]
  repeat' (first | ((with_reducible first | refine zAa ?_ ?_ | refine zAb ?_ ?_) <;> (intro h; have hb := h; (try simp only [nf] at h); refine sb ?_; (try clear hb))) | ((with_reducible refine And.intro ?_ ?_); · omega) | (with_reducible first | apply jn | apply both | refine And.intro ?_ ?_) | exact fj | refine st ?_ | exact fm | refine s1 ?_ | (with_reducible exact True.intro))
  all_goals first | rfl
theorem zNm (w : World) (n : Int) (hw : zG3 w) : ACall Tryz.prog 6 [.agg (World.row false w), i64 n] (fun r _ => r = .tup [bl (zBU w n).1, bl (zBU w n).2]) := by
 have hmx := zAi
 have c1 := zRX w hw
 have c2 := zBq n 0 ((w.Looks.length : Int) - 1)
 cases hg : zAX w with
 | false =>
  rw [hg] at c1
  rw [show zBU w n = (false, false) by rw [zBU, hg]; rfl]
  refine fi H6 fun E hE hH => ?_; simp only [go_sem] at hE hH; simp only [go_sem, hE, hH, C6]
  repeat' (first | ((with_reducible first | refine zAa ?_ ?_ | refine zAb ?_ ?_) <;> (intro h; have hb := h; (try simp only [nf] at h); refine sb ?_; (try clear hb))) | ((with_reducible refine And.intro ?_ ?_); · omega) | ((first | refine zAc ?_ | refine cvA (c1) ?_); refine st ?_) | (with_reducible first | apply jn | apply both | refine And.intro ?_ ?_) | exact fj | refine st ?_ | exact fm | refine s1 ?_ | (with_reducible exact True.intro))
  all_goals first | rfl
 | true =>
  rw [hg] at c1
  obtain ⟨l1, l2, l3, l4⟩ := zEF hg
  cases h2 : rng n 0 ((w.Looks.length : Int) - 1) with
  | false =>
   rw [h2] at c2
   rw [show zBU w n = (false, false) by rw [zBU, hg, h2]; rfl]
   refine fi H6 fun E hE hH => ?_; simp only [go_sem] at hE hH; simp only [go_sem, hE, hH, C6]
   repeat' (first | ((with_reducible first | refine zAa ?_ ?_ | refine zAb ?_ ?_) <;> (intro h; have hb := h; (try simp only [nf] at h); refine sb ?_; (try clear hb))) | ((with_reducible refine And.intro ?_ ?_); · omega) | ((first | refine zAc ?_ | refine cvA (c1) ?_ | refine cvA (c2) ?_); refine st ?_) | (with_reducible first | apply jn | apply both | refine And.intro ?_ ?_) | exact fj | refine st ?_ | exact fm | refine s1 ?_ | (with_reducible exact True.intro))
   all_goals first | rfl | omega
  | true =>
   rw [h2] at c2
   have h2' := zBJ.1 h2
   rw [show zBU w n = (decide (zBY w.Cuts (w.Groups.map zBn) (nth w.Looks n.toNat).Got (nth w.Looks n.toNat).Time = (nth w.Looks n.toNat).Got), true) by rw [zBU, hg, h2]; rfl]
   obtain ⟨k, rfl⟩ : ∃ k : Nat, n = k := ⟨n.toNat, by omega⟩
   rw [Int.toNat_natCast]
   have hlt : k < w.Looks.length := by omega
   have hlk := zIQ hg hlt
   have hgg : zA5 (nth w.Looks k).Got = true := by simp only [zBt, Bool.and_eq_true] at hlk; exact hlk.1.1.1.1.2
   have c3 := zO6 w hg
   have hLn := zMX hg
   have hcu := (zLb hg).1
   have hcl := (zLb hg).2
   have hri : zBv w.Cuts = true := by simp only [zCT, Bool.and_eq_true] at hcu; exact hcu.2
   have c4 := zNl w.Cuts (w.Groups.map zBn) (nth w.Looks k).Got (nth w.Looks k).Time (by omega) hri hLn (zLc hg) hgg
   generalize decide (zBY w.Cuts (w.Groups.map zBn) (nth w.Looks k).Got (nth w.Looks k).Time = (nth w.Looks k).Got) = b at *
   generalize w.Groups.map zBn = L at *
   refine fi H6 fun E hE hH => ?_; simp only [go_sem] at hE hH; simp only [go_sem, hE, hH, C6]
   repeat' (first | ((with_reducible first | refine zAa ?_ ?_ | refine zAb ?_ ?_) <;> (intro h; have hb := h; (try simp only [nf] at h); refine sb ?_; (try clear hb))) | ((with_reducible refine And.intro ?_ ?_); · omega) | ((first | refine zAc ?_ | refine cvA (c1) ?_ | refine cvA (c2) ?_ | refine cvA (c3) ?_ | refine cvA (c4) ?_); refine st ?_) | (with_reducible first | apply jn | apply both | refine And.intro ?_ ?_) | exact fj | refine st ?_ | exact fm | refine s1 ?_ | (with_reducible exact True.intro))
   all_goals first | rfl | omega
theorem zHT (hS : zDa) (hC : zEt) (vW : World) (vN : Int) (wW : vW.wf) (wN : -9223372036854775808 ≤ vN ∧ vN ≤ 9223372036854775807) : ACall Tryz.prog 3 [.agg (World.row false vW), i64 vN] (fun r _ => r = bl true) := by
 have hmx := zAi
 have lW : vW.lim := World.lim_of wW
 refine fi H3 fun E hE hH => ?_; simp only [go_sem] at hE hH; simp only [go_sem, hE, hH, C3]
 refine zAc ?_; simp (disch := omega) only [go_sem, hE, hH]; refine cvA (zRy vW _ (by decide) (by decide) wW) ?_
 refine zAJ ?_
 rintro r l ⟨n1, rfl, hn1, hsz1⟩
 try simp (disch := omega) only [go_sem, hE, hH]
 first | refine zAa (fun h1 => ?_) (fun h1 => ?_) | refine zAb (fun h1 => ?_) (fun h1 => ?_)
 ·try simp (disch := omega) only [go_sem, hE, hH, h1]
 have hb1 := h1
 simp only [nf] at h1
 try simp (disch := omega) only [go_sem, hE, hH, hb1]
 have sW : vW.sz ≤ 2 ^ 20 := by have := hsz1 h1; omega
 have hp := zTs wW sW
 have c1 := zO5 hS hC vW vN hp
 have c2 := zNm vW vN hp
 generalize zBU vW vN = o at *
 rcases o with ⟨x, b⟩
 repeat' (first | ((with_reducible first | refine zAa ?_ ?_ | refine zAb ?_ ?_) <;> (intro h; have hb := h; (try simp only [nf] at h); refine sb ?_; (try clear hb))) | ((with_reducible refine And.intro ?_ ?_); · omega) | ((first | refine zAc ?_ | refine cvA (zRE vW sW) ?_ | refine cvA (c1) ?_ | refine cvA (c2) ?_ | refine cvA (zRK vW vW lW) ?_); refine st ?_) | (with_reducible first | apply jn | apply both | refine And.intro ?_ ?_) | exact fj | refine st ?_ | exact fm | refine s1 ?_ | (with_reducible exact True.intro))
 all_goals first | rfl | omega
end Go.Proofs.Wb

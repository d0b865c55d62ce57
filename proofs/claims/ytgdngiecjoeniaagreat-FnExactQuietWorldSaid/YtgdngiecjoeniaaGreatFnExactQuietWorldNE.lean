import Derived.Test.YtgdngiecjoeniaaGreatFnExactQuietWorldN7
import Derived.Laws.Externs
set_option linter.unusedSimpArgs false
set_option linter.unusedVariables false
set_option linter.unusedSectionVars false
namespace Go.Proofs.Wb
open Go Go.Am
def doneL (l : List Rec) (j : Nat) : List Bool := (List.range j).map fun i => (appS (stateL (l.take i)) (nth l i)).isSome
theorem doneL_len (l : List Rec) (j : Nat) : (doneL l j).length = j := by simp [doneL]
theorem doneL_succ (l : List Rec) (j : Nat) : doneL l (j + 1) = doneL l j ++ [(appS (stateL (l.take j)) (nth l j)).isSome] := by simp [doneL, List.range_succ]
theorem stateL_succ {l : List Rec} {j : Nat} (h : j < l.length) : stateL (l.take (j + 1)) = stepS (stateL (l.take j)) (nth l j) := by
 rw [take_nth h, stateL, List.foldl_append]; rfl
theorem stateL_takeI {l : List Rec} (hl : ∀ r ∈ l, recOk r = true) (j : Nat) (hj : j ≤ l.length) : stI j (stateL (l.take j)) := by
 have := stateL_I (l := l.take j) fun r h => hl r (List.mem_of_mem_take h)
 rwa [List.length_take, Nat.min_eq_left hj] at this
def soF (l : List Rec) (j : Nat) : Option State → St
 | none => ⟨[(2, .ptr 3000000 0 0), (4, .ptr 5000000 0 0), (5, .ref 6000000 0 j), (12, .sl false 7 (l.map (Rec.row false))), (13, i64 l.length), (14, i64 j)], [(3000000, ⟨4, [[i64 0, nils, nils, nils]]⟩), (5000000, ⟨4, [[i64 0, nils, nils, nils]]⟩), (6000000, ⟨1, (doneL l j).map (fun b => [bl b])⟩)]⟩
 | some s => ⟨[(2, .ptr 3000000 0 0), (4, .ptr 5000000 0 0), (5, .ref 6000000 0 j), (12, .sl false 7 (l.map (Rec.row false))), (13, i64 l.length), (14, i64 j)], [(3000000, ⟨4, [[i64 0, nils, nils, nils]]⟩), (5000000, ⟨4, [[i64 s.Floor, .ref 5000002 0 s.Cells.length, .ref 5000003 0 s.Held.length, .ref 5000004 0 s.Told.length]]⟩), (5000002, ⟨2, s.Cells.map (Cell.row true)⟩), (5000003, ⟨5, s.Held.map (Held.row true)⟩), (5000004, ⟨3, s.Told.map (Told.row true)⟩), (6000000, ⟨1, (doneL l j).map (fun b => [bl b])⟩)]⟩
set_option maxHeartbeats 2000000 in
theorem stateOf_ok (hS : SortNe) (l : List Rec) (hl : ∀ r ∈ l, recOk r = true) (hn : l.length ≤ 60) : ACall Tryz.prog 137 [.sl false 7 (l.map (Rec.row false))] (fun x _ => x = .tup [.agg (State.row true (stateL l)), .sl true 1 ((doneL l l.length).map (fun b => [bl b]))]) := by
 have hmx := mx_eq
 refine fi H137 fun E hE hH => ?_; simp only [go_sem] at hE hH; simp only [go_sem, hE, hH, C137]
 try simp (disch := omega) only [go_sem, hE, hH]
 refine loopNe l.length (fun j x => soF l j x) (fun j x => x.getD st0 = stateL (l.take j)) none rfl rfl ?_
 intro j x hj hI
 have z1 : st0.Cells = [] := rfl
 have z2 : st0.Held = [] := rfl
 have z3 : st0.Told = [] := rfl
 have z4 : st0.Floor = 0 := rfl
 have hSI := stateL_takeI hl j hj
 rw [← hI] at hSI
 cases x with
 | none =>
  try simp only [go_sem, hE, hH, C137_l1, soF]
  first | refine gd_t (fun h => ?_) (fun h => ?_) | refine gd_f (fun h => ?_) (fun h => ?_)
  ·have hb := h
   simp only [nf] at h
   have hlt : j < l.length := by omega
   have cA := applied_ok hS st0 (nth l j) hSI (by omega) (hl _ (nth_mem hlt))
   have hst : stateL (l.take (j + 1)) = stepS st0 (nth l j) := by rw [stateL_succ hlt, ← hI]; rfl
   have hdn : doneL l (j + 1) = doneL l j ++ [(appS st0 (nth l j)).isSome] := by rw [doneL_succ, ← hI]; rfl
   have hdl := doneL_len l j
   have hdt : (doneL l j).take j = doneL l j := by rw [List.take_of_length_le (by omega)]
   cases hA : appS st0 (nth l j) with
   | none =>
    rw [hA, appR] at cA
    rw [hA] at hdn
    try simp (disch := omega) only [go_sem, hE, hH, hb]
    repeat' (first | ((with_reducible first | refine gd_t ?_ ?_ | refine gd_f ?_ ?_) <;> (intro h; have hb := h; (try simp only [nf] at h); simp (disch := omega) only [go_sem, hE, hH, hdl, hdt, z1, z2, z3, z4, hb]; (try clear hb))) | ((with_reducible refine And.intro ?_ ?_); · omega) | ((first | refine ok_view ?_ | refine cvAn (cA) ?_); simp (disch := omega) only [go_sem, hE, hH, hdl, hdt, z1, z2, z3, z4]) | (with_reducible first | apply jn | apply both | refine And.intro ?_ ?_) | ((with_reducible apply fin_eq); (try (simp (disch := omega) only [go_sem, hE, hH, hdl, hdt, z1, z2, z3, z4])); first | done | rfl) | (simp (disch := omega) only [go_sem, hE, hH, hdl, hdt, z1, z2, z3, z4]) | ((first | apply noMLL_sE | apply pk_sE) <;> (simp only [go_sem, hE, hH, hdl, hdt, z1, z2, z3, z4]; done)) | (simp only [go_sem, hE, hH, hdl, hdt, z1, z2, z3, z4]) | fail)
    all_goals try first | omega | rfl
    all_goals (
     refine ⟨none, ?_, by (first | (rw [hst, stepS, hA]; done) | (rw [hst, stepS, hA]; rfl))⟩
     rw [hdn, List.map_append]
     rfl)
   | some s' =>
    rw [hA, appR] at cA
    rw [hA] at hdn
    try simp (disch := omega) only [go_sem, hE, hH, hb]
    repeat' (first | ((with_reducible first | refine gd_t ?_ ?_ | refine gd_f ?_ ?_) <;> (intro h; have hb := h; (try simp only [nf] at h); simp (disch := omega) only [go_sem, hE, hH, hdl, hdt, z1, z2, z3, z4, hb]; (try clear hb))) | ((with_reducible refine And.intro ?_ ?_); · omega) | ((first | refine ok_view ?_ | refine cvAn (cA) ?_); simp (disch := omega) only [go_sem, hE, hH, hdl, hdt, z1, z2, z3, z4]) | (with_reducible first | apply jn | apply both | refine And.intro ?_ ?_) | ((with_reducible apply fin_eq); (try (simp (disch := omega) only [go_sem, hE, hH, hdl, hdt, z1, z2, z3, z4])); first | done | rfl) | (simp (disch := omega) only [go_sem, hE, hH, hdl, hdt, z1, z2, z3, z4]) | ((first | apply noMLL_sE | apply pk_sE) <;> (simp only [go_sem, hE, hH, hdl, hdt, z1, z2, z3, z4]; done)) | (simp only [go_sem, hE, hH, hdl, hdt, z1, z2, z3, z4]) | fail)
    all_goals try first | omega | rfl
    all_goals (
     refine ⟨some s', ?_, by (first | (rw [hst, stepS, hA]; done) | (rw [hst, stepS, hA]; rfl))⟩
     rw [hdn, List.map_append]
     rfl)
  ·try simp (disch := omega) only [go_sem, hE, hH, h]
   simp only [nf] at h
   have hjl : j = l.length := by omega
   have hdl := doneL_len l j
   rw [hjl, List.take_length] at hI
   subst hjl
   rw [← hI]
   simp [hdl, pk_map, packedL]
   exact ⟨rfl, rfl, rfl, rfl⟩
 | some s =>
  try simp only [go_sem, hE, hH, C137_l1, soF]
  first | refine gd_t (fun h => ?_) (fun h => ?_) | refine gd_f (fun h => ?_) (fun h => ?_)
  ·have hb := h
   simp only [nf] at h
   have hlt : j < l.length := by omega
   have cA := applied_ok hS s (nth l j) hSI (by omega) (hl _ (nth_mem hlt))
   have hst : stateL (l.take (j + 1)) = stepS s (nth l j) := by rw [stateL_succ hlt, ← hI]; rfl
   have hdn : doneL l (j + 1) = doneL l j ++ [(appS s (nth l j)).isSome] := by rw [doneL_succ, ← hI]; rfl
   have hdl := doneL_len l j
   have hdt : (doneL l j).take j = doneL l j := by rw [List.take_of_length_le (by omega)]
   cases hA : appS s (nth l j) with
   | none =>
    rw [hA, appR] at cA
    rw [hA] at hdn
    try simp (disch := omega) only [go_sem, hE, hH, hb]
    repeat' (first | ((with_reducible first | refine gd_t ?_ ?_ | refine gd_f ?_ ?_) <;> (intro h; have hb := h; (try simp only [nf] at h); simp (disch := omega) only [go_sem, hE, hH, hdl, hdt, hb]; (try clear hb))) | ((with_reducible refine And.intro ?_ ?_); · omega) | ((first | refine ok_view ?_ | refine cvA (cA) ?_); simp (disch := omega) only [go_sem, hE, hH, hdl, hdt]) | (with_reducible first | apply jn | apply both | refine And.intro ?_ ?_) | ((with_reducible apply fin_eq); (try (simp (disch := omega) only [go_sem, hE, hH, hdl, hdt])); first | done | rfl) | (simp (disch := omega) only [go_sem, hE, hH, hdl, hdt]) | ((first | apply noMLL_sE | apply pk_sE) <;> (simp only [go_sem, hE, hH, hdl, hdt]; done)) | (simp only [go_sem, hE, hH, hdl, hdt]) | fail)
    all_goals try first | omega | rfl
    all_goals (
     refine ⟨some s, ?_, by (first | (rw [hst, stepS, hA]; done) | (rw [hst, stepS, hA]; rfl))⟩
     rw [hdn, List.map_append]
     rfl)
   | some s' =>
    rw [hA, appR] at cA
    rw [hA] at hdn
    try simp (disch := omega) only [go_sem, hE, hH, hb]
    repeat' (first | ((with_reducible first | refine gd_t ?_ ?_ | refine gd_f ?_ ?_) <;> (intro h; have hb := h; (try simp only [nf] at h); simp (disch := omega) only [go_sem, hE, hH, hdl, hdt, hb]; (try clear hb))) | ((with_reducible refine And.intro ?_ ?_); · omega) | ((first | refine ok_view ?_ | refine cvA (cA) ?_); simp (disch := omega) only [go_sem, hE, hH, hdl, hdt]) | (with_reducible first | apply jn | apply both | refine And.intro ?_ ?_) | ((with_reducible apply fin_eq); (try (simp (disch := omega) only [go_sem, hE, hH, hdl, hdt])); first | done | rfl) | (simp (disch := omega) only [go_sem, hE, hH, hdl, hdt]) | ((first | apply noMLL_sE | apply pk_sE) <;> (simp only [go_sem, hE, hH, hdl, hdt]; done)) | (simp only [go_sem, hE, hH, hdl, hdt]) | fail)
    all_goals try first | omega | rfl
    all_goals (
     refine ⟨some s', ?_, by (first | (rw [hst, stepS, hA]; done) | (rw [hst, stepS, hA]; rfl))⟩
     rw [hdn, List.map_append]
     rfl)
  ·try simp (disch := omega) only [go_sem, hE, hH, h]
   simp only [nf] at h
   have hjl : j = l.length := by omega
   have hdl := doneL_len l j
   rw [hjl, List.take_length] at hI
   subst hjl
   rw [← hI]
   simp [hdl, pk_map, packedL]
def soG (l : List Rec) (j : Nat) : Option State → St
 | none => ⟨[(2, .ptr 3000000 0 0), (4, .ptr 5000000 0 0), (5, .ref 6000000 0 j), (10, .sl false 7 (l.map (Rec.row false))), (11, i64 l.length), (12, i64 j)], [(3000000, ⟨4, [[i64 0, nils, nils, nils]]⟩), (5000000, ⟨4, [[i64 0, nils, nils, nils]]⟩), (6000000, ⟨1, (doneL l j).map (fun b => [bl b])⟩)]⟩
 | some s => ⟨[(2, .ptr 3000000 0 0), (4, .ptr 5000000 0 0), (5, .ref 6000000 0 j), (10, .sl false 7 (l.map (Rec.row false))), (11, i64 l.length), (12, i64 j)], [(3000000, ⟨4, [[i64 0, nils, nils, nils]]⟩), (5000000, ⟨4, [State.row false s]⟩), (6000000, ⟨1, (doneL l j).map (fun b => [bl b])⟩)]⟩
set_option maxHeartbeats 2000000 in
theorem l13Of_ok (l : List Rec) (hl : ∀ r ∈ l, recOk r = true) (hn : l.length ≤ 60) : ACall Tryz.prog 113 [.sl false 7 (l.map (Rec.row false))] (fun x _ => x = .tup [.agg (State.row false (stateL l)), .sl true 1 ((doneL l l.length).map (fun b => [bl b]))]) := by
 have hmx := mx_eq
 refine fi H113 fun E hE hH => ?_; simp only [go_sem] at hE hH; simp only [go_sem, hE, hH, C113]
 try simp (disch := omega) only [go_sem, hE, hH]
 refine loopNe l.length (fun j x => soG l j x) (fun j x => x.getD st0 = stateL (l.take j)) none rfl rfl ?_
 intro j x hj hI
 have z1 : st0.Cells = [] := rfl
 have z2 : st0.Held = [] := rfl
 have z3 : st0.Told = [] := rfl
 have z4 : st0.Floor = 0 := rfl
 have hSI := stateL_takeI hl j hj
 rw [← hI] at hSI
 cases x with
 | none =>
  try simp only [go_sem, hE, hH, C113_l1, soG]
  first | refine gd_t (fun h => ?_) (fun h => ?_) | refine gd_f (fun h => ?_) (fun h => ?_)
  ·have hb := h
   simp only [nf] at h
   have hlt : j < l.length := by omega
   have cA := l13Apply_ok st0 (nth l j) hSI (by omega) (hl _ (nth_mem hlt))
   have hst : stateL (l.take (j + 1)) = stepS st0 (nth l j) := by rw [stateL_succ hlt, ← hI]; rfl
   have hdn : doneL l (j + 1) = doneL l j ++ [(appS st0 (nth l j)).isSome] := by rw [doneL_succ, ← hI]; rfl
   have hdl := doneL_len l j
   have hdt : (doneL l j).take j = doneL l j := by rw [List.take_of_length_le (by omega)]
   cases hA : appS st0 (nth l j) with
   | none =>
    rw [hA, Option.isSome_none] at cA
    simp only [sAppR] at cA
    rw [hA] at hdn
    try simp (disch := omega) only [go_sem, hE, hH, hb]
    repeat' (first | ((with_reducible first | refine gd_t ?_ ?_ | refine gd_f ?_ ?_) <;> (intro h; have hb := h; (try simp only [nf] at h); simp (disch := omega) only [go_sem, hE, hH, hdl, hdt, z1, z2, z3, z4, hb]; (try clear hb))) | ((with_reducible refine And.intro ?_ ?_); · omega) | (refine ok_view ?_; simp (disch := omega) only [go_sem, hE, hH, hdl, hdt, z1, z2, z3, z4]; refine cvAn (cA) (And.intro (by (simp (disch := omega) only [go_sem, hE, hH, hdl, hdt, z1, z2, z3, z4]); done) (aftV_intro ?_)); rintro _ _ ⟨q, rfl, _⟩; simp (disch := omega) only [go_sem, hE, hH, hdl, hdt, z1, z2, z3, z4]) | (with_reducible first | apply jn | apply both | refine And.intro ?_ ?_) | ((with_reducible apply fin_eq); (try (simp (disch := omega) only [go_sem, hE, hH, hdl, hdt, z1, z2, z3, z4])); first | done | rfl) | (simp (disch := omega) only [go_sem, hE, hH, hdl, hdt, z1, z2, z3, z4]) | ((first | apply noMLL_sE | apply pk_sE) <;> (simp only [go_sem, hE, hH, hdl, hdt, z1, z2, z3, z4]; done)) | (simp only [go_sem, hE, hH, hdl, hdt, z1, z2, z3, z4]) | fail)
    all_goals try first | omega | rfl
    all_goals (
     refine ⟨none, ?_, by (first | (rw [hst, stepS, hA]; done) | (rw [hst, stepS, hA]; rfl))⟩
     rw [hdn, List.map_append]
     rfl)
   | some s' =>
    rw [hA, Option.isSome_some] at cA
    simp only [sAppR] at cA
    rw [hA] at hdn
    try simp (disch := omega) only [go_sem, hE, hH, hb]
    repeat' (first | ((with_reducible first | refine gd_t ?_ ?_ | refine gd_f ?_ ?_) <;> (intro h; have hb := h; (try simp only [nf] at h); simp (disch := omega) only [go_sem, hE, hH, hdl, hdt, z1, z2, z3, z4, hb]; (try clear hb))) | ((with_reducible refine And.intro ?_ ?_); · omega) | (refine ok_view ?_; simp (disch := omega) only [go_sem, hE, hH, hdl, hdt, z1, z2, z3, z4]; refine cvAn (cA) (And.intro (by (simp (disch := omega) only [go_sem, hE, hH, hdl, hdt, z1, z2, z3, z4]); done) (aftV_intro ?_)); rintro _ _ ⟨q, rfl, hq⟩; simp (disch := omega) only [go_sem, hE, hH, hdl, hdt, z1, z2, z3, z4]) | (with_reducible first | apply jn | apply both | refine And.intro ?_ ?_) | ((with_reducible apply fin_eq); (try (simp (disch := omega) only [go_sem, hE, hH, hdl, hdt, z1, z2, z3, z4])); first | done | rfl) | (simp (disch := omega) only [go_sem, hE, hH, hdl, hdt, z1, z2, z3, z4]) | ((first | apply noMLL_sE | apply pk_sE) <;> (simp only [go_sem, hE, hH, hdl, hdt, z1, z2, z3, z4]; done)) | (simp only [go_sem, hE, hH, hdl, hdt, z1, z2, z3, z4]) | fail)
    all_goals try first | omega | rfl
    all_goals (
     obtain rfl := hq _ rfl
     refine ⟨some q, ?_, by (first | (rw [hst, stepS, hA]; done) | (rw [hst, stepS, hA]; rfl))⟩
     rw [hdn, List.map_append]
     rfl)
  ·try simp (disch := omega) only [go_sem, hE, hH, h]
   simp only [nf] at h
   have hjl : j = l.length := by omega
   have hdl := doneL_len l j
   rw [hjl, List.take_length] at hI
   subst hjl
   rw [← hI]
   simp [hdl, pk_map, packedL]
   exact ⟨rfl, rfl, rfl, rfl⟩
 | some s =>
  try simp only [go_sem, hE, hH, C113_l1, soG]
  first | refine gd_t (fun h => ?_) (fun h => ?_) | refine gd_f (fun h => ?_) (fun h => ?_)
  ·have hb := h
   simp only [nf] at h
   have hlt : j < l.length := by omega
   have cA := l13Apply_ok s (nth l j) hSI (by omega) (hl _ (nth_mem hlt))
   have hst : stateL (l.take (j + 1)) = stepS s (nth l j) := by rw [stateL_succ hlt, ← hI]; rfl
   have hdn : doneL l (j + 1) = doneL l j ++ [(appS s (nth l j)).isSome] := by rw [doneL_succ, ← hI]; rfl
   have hdl := doneL_len l j
   have hdt : (doneL l j).take j = doneL l j := by rw [List.take_of_length_le (by omega)]
   cases hA : appS s (nth l j) with
   | none =>
    rw [hA, Option.isSome_none] at cA
    simp only [sAppR] at cA
    rw [hA] at hdn
    try simp (disch := omega) only [go_sem, hE, hH, hb]
    repeat' (first | ((with_reducible first | refine gd_t ?_ ?_ | refine gd_f ?_ ?_) <;> (intro h; have hb := h; (try simp only [nf] at h); simp (disch := omega) only [go_sem, hE, hH, hdl, hdt, hb]; (try clear hb))) | ((with_reducible refine And.intro ?_ ?_); · omega) | (refine ok_view ?_; simp (disch := omega) only [go_sem, hE, hH, hdl, hdt]; refine cvA (cA) ?_; refine aftV_intro ?_; rintro _ _ ⟨q, rfl, _⟩; simp (disch := omega) only [go_sem, hE, hH, hdl, hdt]) | (with_reducible first | apply jn | apply both | refine And.intro ?_ ?_) | ((with_reducible apply fin_eq); (try (simp (disch := omega) only [go_sem, hE, hH, hdl, hdt])); first | done | rfl) | (simp (disch := omega) only [go_sem, hE, hH, hdl, hdt]) | ((first | apply noMLL_sE | apply pk_sE) <;> (simp only [go_sem, hE, hH, hdl, hdt]; done)) | (simp only [go_sem, hE, hH, hdl, hdt]) | fail)
    all_goals try first | omega | rfl
    all_goals (
     refine ⟨some s, ?_, by (first | (rw [hst, stepS, hA]; done) | (rw [hst, stepS, hA]; rfl))⟩
     rw [hdn, List.map_append]
     rfl)
   | some s' =>
    rw [hA, Option.isSome_some] at cA
    simp only [sAppR] at cA
    rw [hA] at hdn
    try simp (disch := omega) only [go_sem, hE, hH, hb]
    repeat' (first | ((with_reducible first | refine gd_t ?_ ?_ | refine gd_f ?_ ?_) <;> (intro h; have hb := h; (try simp only [nf] at h); simp (disch := omega) only [go_sem, hE, hH, hdl, hdt, hb]; (try clear hb))) | ((with_reducible refine And.intro ?_ ?_); · omega) | (refine ok_view ?_; simp (disch := omega) only [go_sem, hE, hH, hdl, hdt]; refine cvA (cA) ?_; refine aftV_intro ?_; rintro _ _ ⟨q, rfl, hq⟩; simp (disch := omega) only [go_sem, hE, hH, hdl, hdt]) | (with_reducible first | apply jn | apply both | refine And.intro ?_ ?_) | ((with_reducible apply fin_eq); (try (simp (disch := omega) only [go_sem, hE, hH, hdl, hdt])); first | done | rfl) | (simp (disch := omega) only [go_sem, hE, hH, hdl, hdt]) | ((first | apply noMLL_sE | apply pk_sE) <;> (simp only [go_sem, hE, hH, hdl, hdt]; done)) | (simp only [go_sem, hE, hH, hdl, hdt]) | fail)
    all_goals try first | omega | rfl
    all_goals (
     obtain rfl := hq _ rfl
     refine ⟨some q, ?_, by (first | (rw [hst, stepS, hA]; done) | (rw [hst, stepS, hA]; rfl))⟩
     rw [hdn, List.map_append]
     rfl)
  ·try simp (disch := omega) only [go_sem, hE, hH, h]
   simp only [nf] at h
   have hjl : j = l.length := by omega
   have hdl := doneL_len l j
   rw [hjl, List.take_length] at hI
   subst hjl
   rw [← hI]
   simp [hdl, pk_map, packedL]
def denS (l : List Entry) : State := stateL (l.map Entry.Rec)
theorem denS_I {l : List Entry} (hl : ∀ e ∈ l, recOk e.Rec = true) : stI l.length (denS l) := by
 have := stateL_I (l := l.map Entry.Rec) fun r h => by
  obtain ⟨e, he, rfl⟩ := List.mem_map.1 h
  exact hl e he
 rwa [List.length_map] at this
theorem denoted_ok (hS : SortNe) (l : List Entry) (hl : ∀ e ∈ l, recOk e.Rec = true) (hn : l.length ≤ 60) : ACall Tryz.prog 88 [.sl false 8 (l.map (Entry.row false))] (fun x _ => x = .agg (State.row true (denS l))) := by
 have hmx := mx_eq
 have cO := stateOf_ok hS (l.map Entry.Rec) (fun r h => by obtain ⟨e, he, rfl⟩ := List.mem_map.1 h; exact hl e he) (by rw [List.length_map]; exact hn)
 refine fi H88 fun E hE hH => ?_; simp only [go_sem] at hE hH; simp only [go_sem, hE, hH, C88]
 try simp (disch := omega) only [go_sem, hE, hH]
 refine loopNe l.length (fun j (_ : Unit) => ⟨[(2, .ptr 3000000 0 0), (3, .ref 4000000 0 j), (9, .sl false 8 (l.map (Entry.row false))), (10, i64 l.length), (11, i64 j)], [(3000000, ⟨4, [[i64 0, nils, nils, nils]]⟩), (4000000, ⟨7, ((l.take j).map Entry.Rec).map (Rec.row false)⟩)]⟩) (fun _ _ => True) () rfl trivial ?_
 intro j x hj hI
 try simp only [go_sem, hE, hH, C88_l1]
 first | refine gd_t (fun h => ?_) (fun h => ?_) | refine gd_f (fun h => ?_) (fun h => ?_)
 ·have hb := h
  simp only [nf] at h
  have hlt : j < l.length := by omega
  have hjl : ((l.take j).map Entry.Rec).length = j := by simp; omega
  have hjt : (l.take j).take j = l.take j := by rw [List.take_take, Nat.min_self]
  have hs : (l.take (j + 1)).map Entry.Rec = (l.take j).map Entry.Rec ++ [(nth l j).Rec] := by rw [take_nth hlt, List.map_append]; rfl
  have hg := getD_map (f := Entry.row false) hlt
  have hga : ∀ r, (((l.take j).map Entry.Rec).map (Rec.row false) ++ [r]).getD j [] = r := fun r => by
   have := getD_ma (f := Rec.row false) (l := (l.take j).map Entry.Rec) (r := r)
   rwa [hjl] at this
  try simp (disch := omega) only [go_sem, hE, hH, hjl, hjt, hg, hga, hb]
  repeat' (first | ((with_reducible first | refine gd_t ?_ ?_ | refine gd_f ?_ ?_) <;> (intro h; have hb := h; (try simp only [nf] at h); simp (disch := omega) only [go_sem, hE, hH, hjl, hjt, hg, hga, hb]; (try clear hb))) | ((with_reducible refine And.intro ?_ ?_); · omega) | (with_reducible first | apply jn | apply both | refine And.intro ?_ ?_) | ((with_reducible apply fin_eq); (try (simp (disch := omega) only [go_sem, hE, hH, hjl, hjt, hg, hga])); first | done | rfl) | (simp (disch := omega) only [go_sem, hE, hH, hjl, hjt, hg, hga]) | ((first | apply noMLL_sE | apply pk_sE) <;> (simp only [go_sem, hE, hH, hjl, hjt, hg, hga]; done)) | (simp only [go_sem, hE, hH, hjl, hjt, hg, hga]) | fail)
  repeat' (first | (refine both ?_ ?_) | omega | ((first | apply noMLL_sE | apply pk_sE) <;> (simp only [go_sem, hE, hH]; done)) | fail)
  refine ⟨(), ?_⟩
  rw [hs, List.map_append]
  rfl
 ·try simp (disch := omega) only [go_sem, hE, hH, h]
  simp only [nf] at h
  have hjl : j = l.length := by omega
  rw [hjl, List.take_length]
  have hl2 : (l.map Entry.Rec).length = l.length := List.length_map _
  have hd : denS l = stateL (l.map Entry.Rec) := rfl
  rw [hd]
  try simp (disch := omega) only [go_sem, hE, hH]
  repeat' (first | ((with_reducible first | refine gd_t ?_ ?_ | refine gd_f ?_ ?_) <;> (intro h; have hb := h; (try simp only [nf] at h); simp (disch := omega) only [go_sem, hE, hH, hl2, hb]; (try clear hb))) | ((with_reducible refine And.intro ?_ ?_); · omega) | ((first | refine ok_view ?_ | refine cvA (cO) ?_); simp (disch := omega) only [go_sem, hE, hH, hl2]) | (with_reducible first | apply jn | apply both | refine And.intro ?_ ?_) | ((with_reducible apply fin_eq); (try (simp (disch := omega) only [go_sem, hE, hH, hl2])); first | done | rfl) | (simp (disch := omega) only [go_sem, hE, hH, hl2]) | ((first | apply noMLL_sE | apply pk_sE) <;> (simp only [go_sem, hE, hH, hl2]; done)) | (simp only [go_sem, hE, hH, hl2]) | fail)
theorem l16Means_ok (log : List Entry) (n : Nat) (hln : n ≤ log.length) (hmx0 : log.length ≤ maxLen) (l : List Entry) (hle : l = log.take n) (hl : ∀ e ∈ l, recOk e.Rec = true) (hn : l.length ≤ 60) : ACall Tryz.prog 68 [.sl false 8 (log.map (Entry.row false)), i64 n] (fun x _ => x = .agg (State.row false (denS l))) := by
 have hmx := mx_eq
 have cO := l13Of_ok (l.map Entry.Rec) (fun r h => by obtain ⟨e, he, rfl⟩ := List.mem_map.1 h; exact hl e he) (by rw [List.length_map]; exact hn)
 have hll : l.length = n := by rw [hle, List.length_take]; omega
 refine fi H68 fun E hE hH => ?_; simp only [go_sem] at hE hH; simp only [go_sem, hE, hH, C68]
 try simp (disch := omega) only [go_sem, hE, hH]
 repeat' (first | ((with_reducible first | refine gd_t ?_ ?_ | refine gd_f ?_ ?_) <;> (intro h; have hb := h; (try simp only [nf] at h); refine sb ?_; (try clear hb))) | ((with_reducible refine And.intro ?_ ?_); · omega) | (with_reducible first | apply jn | apply both | refine And.intro ?_ ?_) | exact fj | refine st ?_ | exact fm | refine s1 ?_ | (with_reducible exact True.intro))
 refine loopNe l.length (fun j (_ : Unit) => ⟨[(4, .ptr 5000000 0 0), (5, .ref 6000000 0 j), (12, .sl false 8 (l.map (Entry.row false))), (13, i64 l.length), (14, i64 j)], [(5000000, ⟨4, [[i64 0, nils, nils, nils]]⟩), (6000000, ⟨7, ((l.take j).map Entry.Rec).map (Rec.row false)⟩)]⟩) (fun _ _ => True) () (by rw [hle, List.map_take, List.length_take, Nat.min_eq_left hln]; rfl) trivial ?_
 intro j x hj hI
 try simp only [go_sem, hE, hH, C68_l1]
 first | refine gd_t (fun h => ?_) (fun h => ?_) | refine gd_f (fun h => ?_) (fun h => ?_)
 ·have hb := h
  simp only [nf] at h
  have hlt : j < l.length := by omega
  have hjl : ((l.take j).map Entry.Rec).length = j := by simp; omega
  have hjt : (l.take j).take j = l.take j := by rw [List.take_take, Nat.min_self]
  have hs : (l.take (j + 1)).map Entry.Rec = (l.take j).map Entry.Rec ++ [(nth l j).Rec] := by rw [take_nth hlt, List.map_append]; rfl
  have hg := getD_map (f := Entry.row false) hlt
  have hga : ∀ r, (((l.take j).map Entry.Rec).map (Rec.row false) ++ [r]).getD j [] = r := fun r => by
   have := getD_ma (f := Rec.row false) (l := (l.take j).map Entry.Rec) (r := r)
   rwa [hjl] at this
  try simp (disch := omega) only [go_sem, hE, hH, hjl, hjt, hg, hga, hb]
  repeat' (first | ((with_reducible first | refine gd_t ?_ ?_ | refine gd_f ?_ ?_) <;> (intro h; have hb := h; (try simp only [nf] at h); simp (disch := omega) only [go_sem, hE, hH, hjl, hjt, hg, hga, hb]; (try clear hb))) | ((with_reducible refine And.intro ?_ ?_); · omega) | (with_reducible first | apply jn | apply both | refine And.intro ?_ ?_) | ((with_reducible apply fin_eq); (try (simp (disch := omega) only [go_sem, hE, hH, hjl, hjt, hg, hga])); first | done | rfl) | (simp (disch := omega) only [go_sem, hE, hH, hjl, hjt, hg, hga]) | ((first | apply noMLL_sE | apply pk_sE) <;> (simp only [go_sem, hE, hH, hjl, hjt, hg, hga]; done)) | (simp only [go_sem, hE, hH, hjl, hjt, hg, hga]) | fail)
  repeat' (first | (refine both ?_ ?_) | omega | ((first | apply noMLL_sE | apply pk_sE) <;> (simp only [go_sem, hE, hH]; done)) | fail)
  refine ⟨(), ?_⟩
  rw [hs, List.map_append]
  rfl
 ·try simp (disch := omega) only [go_sem, hE, hH, h]
  simp only [nf] at h
  have hjl : j = l.length := by omega
  rw [hjl, List.take_length]
  have hl2 : (l.map Entry.Rec).length = l.length := List.length_map _
  have hd : denS l = stateL (l.map Entry.Rec) := rfl
  rw [hd]
  have cO2 : ACall Tryz.prog 113 [.sl true 7 ((l.map Entry.Rec).map (Rec.row false))] (fun x a => x = .tup [.agg (State.row false (stateL (l.map Entry.Rec))), .sl true 1 ((doneL (l.map Entry.Rec) (l.map Entry.Rec).length).map (fun b => [bl b]))] ∧ a = [.any]) := frz_eq cO (by simp only [go_sem]; rfl) rfl
  try simp (disch := omega) only [go_sem, hE, hH]
  repeat' (first | ((with_reducible first | refine gd_t ?_ ?_ | refine gd_f ?_ ?_) <;> (intro h; have hb := h; (try simp only [nf] at h); simp (disch := omega) only [go_sem, hE, hH, hl2, hb]; (try clear hb))) | ((with_reducible refine And.intro ?_ ?_); · omega) | (refine ok_lend [true] ?_; simp (disch := omega) only [go_sem, hE, hH, hl2]; refine cmA (cO2) ?_; simp (disch := omega) only [go_sem, hE, hH, hl2]) | (with_reducible first | apply jn | apply both | refine And.intro ?_ ?_) | ((with_reducible apply fin_eq); (try (simp (disch := omega) only [go_sem, hE, hH, hl2])); first | done | rfl) | (simp (disch := omega) only [go_sem, hE, hH, hl2]) | ((first | apply noMLL_sE | apply pk_sE) <;> (simp only [go_sem, hE, hH, hl2]; done)) | (simp only [go_sem, hE, hH, hl2]) | fail)
structure repG (r : Replica) : Prop where
 s0 : 0 ≤ r.Sure
 s1 : r.Sure ≤ r.Log.length
 len : r.Log.length ≤ 60
 good : ∀ e ∈ r.Log, recOk e.Rec = true
theorem repOk_g {t : Int} {r : Replica} (h : repOk t r = true) : repG r := by
 simp only [repOk, logOk, Bool.and_eq_true, decide_eq_true_eq] at h
 obtain ⟨⟨h1, h2⟩, h3⟩ := h
 have h3 := rng_iff.1 h3
 refine ⟨h3.1, h3.2, by omega, fun e he => ?_⟩
 obtain ⟨i, hi, rfl⟩ := List.getElem_of_mem he
 have := allN_iff.1 h1 i hi
 simp only [entOk, Bool.and_eq_true] at this
 rw [← nth_lt hi]
 exact this.1.2
theorem grpOk_g {g : Group} (h : grpOk g = true) : 3 ≤ g.Reps.length ∧ g.Reps.length ≤ 5 ∧ ∀ r ∈ g.Reps, repG r := by
 simp only [grpOk, Bool.and_eq_true, Bool.or_eq_true, decide_eq_true_eq, List.all_eq_true] at h
 obtain ⟨⟨⟨h1, _⟩, _⟩, h4⟩ := h
 exact ⟨by omega, by omega, fun r hr => repOk_g (h4 r hr)⟩
def repS (r : Replica) : State := denS (r.Log.take r.Sure.toNat)
theorem repG_take {r : Replica} (h : repG r) : (∀ e ∈ r.Log.take r.Sure.toNat, recOk e.Rec = true) ∧ (r.Log.take r.Sure.toNat).length ≤ 60 := by
 refine ⟨fun e he => h.good e (List.mem_of_mem_take he), ?_⟩
 have := h.len
 rw [List.length_take]; omega
theorem repS_I {r : Replica} (h : repG r) : stI 60 (repS r) := by
 obtain ⟨h1, h2⟩ := repG_take h
 have := denS_I h1
 exact ⟨this.cells, this.hlen, this.hsrt, this.hok, Nat.le_trans this.tlen h2, this.tsrt⟩
def bestN (g : Group) : Nat → Nat
 | 0 => 0
 | j + 1 => if (nth g.Reps (bestN g j)).Sure < (nth g.Reps j).Sure then j else bestN g j
theorem bestN_lt {g : Group} (h : 0 < g.Reps.length) : ∀ j, j ≤ g.Reps.length → bestN g j < g.Reps.length
 | 0, _ => h
 | j + 1, hj => by
  rw [bestN]
  split
  ·omega
  ·exact bestN_lt h j (by omega)
def sureS (g : Group) : State := repS (nth g.Reps (bestN g g.Reps.length))
theorem most_ok (g : Group) (h0 : 0 < g.Reps.length) (h1 : g.Reps.length ≤ 2 ^ 20) : ACall Tryz.prog 90 [.agg (Group.row false g)] (fun x _ => x = .agg (Replica.row false (nth g.Reps (bestN g g.Reps.length)))) := by
 have hmx := mx_eq
 refine fi H90 fun E hE hH => ?_; simp only [go_sem] at hE hH; simp only [go_sem, hE, hH, C90]
 try simp (disch := omega) only [go_sem, hE, hH]
 repeat' (first | ((with_reducible first | refine gd_t ?_ ?_ | refine gd_f ?_ ?_) <;> (intro h; have hb := h; (try simp only [nf] at h); refine sb ?_; (try clear hb))) | ((with_reducible refine And.intro ?_ ?_); · omega) | (with_reducible first | apply jn | apply both | refine And.intro ?_ ?_) | exact fj | refine st ?_ | exact fm | refine s1 ?_ | (with_reducible exact True.intro))
 refine loopNe g.Reps.length (fun j (_ : Unit) => ⟨[(2, .ptr 3000000 0 0), (3, .ptr 4000000 0 0), (11, .sl false 3 (g.Reps.map (Replica.row false))), (12, i64 g.Reps.length), (13, i64 j)], [(3000000, ⟨3, [[bl false, nils, i64 0]]⟩), (4000000, ⟨3, [Replica.row false (nth g.Reps (bestN g j))]⟩)]⟩) (fun _ _ => True) () rfl trivial ?_
 intro j _ hj _
 try simp only [go_sem, hE, hH, C90_l1]
 first | refine gd_t (fun h => ?_) (fun h => ?_) | refine gd_f (fun h => ?_) (fun h => ?_)
 ·have hb := h
  simp only [nf] at h
  have hlt : j < g.Reps.length := by omega
  try simp (disch := omega) only [go_sem, hE, hH, hb]
  repeat' (first | ((with_reducible first | refine gd_t ?_ ?_ | refine gd_f ?_ ?_) <;> (intro h; have hb := h; (try simp only [nf] at h); refine sb ?_; (try clear hb))) | ((with_reducible refine And.intro ?_ ?_); · omega) | (with_reducible first | apply jn | apply both | refine And.intro ?_ ?_) | exact fj | refine st ?_ | exact fm | refine s1 ?_ | (with_reducible exact True.intro))
  all_goals (
   refine ⟨(), ?_⟩
   rw [bestN]
   split <;> first | rfl | (exfalso; omega))
 ·try simp (disch := omega) only [go_sem, hE, hH, h]
  simp only [nf] at h
  have hjl : j = g.Reps.length := by omega
  rw [hjl]
  exact ⟨rfl, rfl, rfl⟩
theorem sureState_ok (hS : SortNe) (g : Group) (hg : grpOk g = true) : ACall Tryz.prog 40 [.agg (Group.row false g)] (fun x _ => x = .agg (State.row true (sureS g))) := by
 have hmx := mx_eq
 obtain ⟨h3, h5, hr⟩ := grpOk_g hg
 have hb := hr _ (nth_mem (bestN_lt (g := g) (by omega) g.Reps.length (Nat.le_refl _)))
 obtain ⟨q1, q2⟩ := repG_take hb
 refine fi H40 fun E hE hH => ?_; simp only [go_sem] at hE hH; simp only [go_sem, hE, hH, C40]
 repeat' (first | ((with_reducible first | refine gd_t ?_ ?_ | refine gd_f ?_ ?_) <;> (intro h; have hb := h; (try simp only [nf] at h); refine sb ?_; (try clear hb))) | ((with_reducible refine And.intro ?_ ?_); · omega) | ((first | refine ok_view ?_ | refine cvA (most_ok g (by omega) (by omega)) ?_ | refine cvA (sure_ok (nth g.Reps (bestN g g.Reps.length)) hb.s0 hb.s1) ?_ | refine cvA (denoted_ok hS _ q1 q2) ?_); refine st ?_) | (with_reducible first | apply jn | apply both | refine And.intro ?_ ?_) | exact fj | refine st ?_ | exact fm | refine s1 ?_ | (with_reducible exact True.intro))
 all_goals rfl
theorem repMeans_ok (r : Replica) (h : repG r) : ACall Tryz.prog 68 [.sl false 8 (r.Log.map (Entry.row false)), i64 r.Sure] (fun x _ => x = .agg (State.row false (repS r))) := by
 have hmx := mx_eq
 obtain ⟨q1, q2⟩ := repG_take h
 have h0 := h.s0
 have h1 := h.s1
 have hl := h.len
 have := l16Means_ok r.Log r.Sure.toNat (by omega) (by omega) _ rfl q1 q2
 rwa [Int.toNat_of_nonneg h0] at this
theorem l16Sure_ok (g : Group) (hg : grpOk g = true) : ACall Tryz.prog 28 [.agg (Group.row false g)] (fun x _ => x = .agg (State.row false (sureS g))) := by
 have hmx := mx_eq
 obtain ⟨h3, h5, hr⟩ := grpOk_g hg
 have hlb := bestN_lt (g := g) (by omega) g.Reps.length (Nat.le_refl _)
 have hb := hr _ (nth_mem hlb)
 refine fi H28 fun E hE hH => ?_; simp only [go_sem] at hE hH; simp only [go_sem, hE, hH, C28]
 try simp (disch := omega) only [go_sem, hE, hH]
 refine loopNe g.Reps.length (fun j (_ : Unit) => ⟨[(1, .ptr 2000000 0 0), (2, .ptr 3000000 0 0), (3, i64 (bestN g j)), (7, .sl false 3 (g.Reps.map (Replica.row false))), (8, i64 g.Reps.length), (9, i64 j)], [(2000000, ⟨3, [Group.row false g]⟩), (3000000, ⟨4, [[i64 0, nils, nils, nils]]⟩)]⟩) (fun _ _ => True) () rfl trivial ?_
 intro j _ hj _
 try simp only [go_sem, hE, hH, C28_l1]
 first | refine gd_t (fun h => ?_) (fun h => ?_) | refine gd_f (fun h => ?_) (fun h => ?_)
 ·have hb := h
  simp only [nf] at h
  have hlt : j < g.Reps.length := by omega
  have hlj := bestN_lt (g := g) (by omega) j hj
  try simp (disch := omega) only [go_sem, hE, hH, hb]
  repeat' (first | ((with_reducible first | refine gd_t ?_ ?_ | refine gd_f ?_ ?_) <;> (intro h; have hb := h; (try simp only [nf] at h); refine sb ?_; (try clear hb))) | ((with_reducible refine And.intro ?_ ?_); · omega) | (with_reducible first | apply jn | apply both | refine And.intro ?_ ?_) | exact fj | refine st ?_ | exact fm | refine s1 ?_ | (with_reducible exact True.intro))
  all_goals (
   refine ⟨(), ?_⟩
   rw [bestN]
   split <;> first | rfl | (exfalso; omega))
 ·try simp (disch := omega) only [go_sem, hE, hH, h]
  simp only [nf] at h
  have hjl : j = g.Reps.length := by omega
  rw [hjl]
  try simp (disch := omega) only [go_sem, hE, hH]
  repeat' (first | ((with_reducible first | refine gd_t ?_ ?_ | refine gd_f ?_ ?_) <;> (intro h; have hb := h; (try simp only [nf] at h); refine sb ?_; (try clear hb))) | ((with_reducible refine And.intro ?_ ?_); · omega) | ((first | refine ok_view ?_ | refine cvA (repMeans_ok _ hb) ?_); refine st ?_) | (with_reducible first | apply jn | apply both | refine And.intro ?_ ?_) | exact fj | refine st ?_ | exact fm | refine s1 ?_ | (with_reducible exact True.intro))
  all_goals first | rfl
theorem szL_bd2 {α : Type} {f : α → Nat} {C : Nat} : ∀ {l : List α}, (∀ x ∈ l, f x ≤ C) → szL f l ≤ (C + 1) * l.length
 | [], _ => by simp [szL]
 | x :: l, h => by
  have h1 := szL_bd2 (l := l) fun y hy => h y (List.mem_cons_of_mem _ hy)
  have h2 := h x List.mem_cons_self
  simp only [szL, List.map_cons, List.sum_cons, List.length_cons, Nat.mul_succ] at h1 ⊢
  omega
theorem risB_key {l : List ByteArray} (h : risB l = true) : ∀ x ∈ l, goodKey x = true := by
 intro x hx
 obtain ⟨i, hi, rfl⟩ := List.getElem_of_mem hx
 simp only [risB] at h
 have := allN_iff.1 h i hi
 simp only [Bool.and_eq_true, nth_lt hi] at this
 exact this.1
theorem stI.sz {n : Nat} {s : State} (h : stI n s) (hn : n ≤ 1000) : s.sz ≤ 2 ^ 20 := by
 have hc := goodCells_I h.cells
 have hl := hc.len
 have h1 : szL Cell.sz s.Cells ≤ (2000 + 1) * s.Cells.length := szL_bd2 fun c q => by
  have h2 := (hc.one c q).2
  have h3 := hc.wf c q
  have h4 : szL Ver.sz c.Vers ≤ (100 + 1) * c.Vers.length := szL_bd2 fun v hv => h3.2 v hv
  have h5 : (100 + 1) * c.Vers.length ≤ (100 + 1) * 16 := Nat.mul_le_mul_left _ (by omega)
  show c.Key.size + szL Ver.sz c.Vers ≤ 2000
  omega
 have h2 : szL Held.sz s.Held ≤ (2000 + 1) * s.Held.length := szL_bd2 fun x q => by
  have h3 := hldOk_lists (h.hok x q)
  have h4 : szL ByteArray.size x.Reads ≤ (100 + 1) * x.Reads.length := szL_bd2 fun v hv => by
   have := goodKey_size (risB_key h3.2.2.2.1 v hv); omega
  have h5 : szL Write.sz x.Writes ≤ (100 + 1) * x.Writes.length := szL_bd2 fun v hv => by
   obtain ⟨i, hi, rfl⟩ := List.getElem_of_mem hv
   have h6 := h3.2.2.1
   rw [goodWrites_eq] at h6
   simp only [Bool.and_eq_true, Bool.not_eq_true', List.any_eq_false] at h6
   have h7 := goodKey_size (risB_key h6.1.2 _ (List.mem_map.2 ⟨_, hv, rfl⟩))
   have h8 := h6.2 _ hv
   have h8 : stored (x.Writes[i]).Val (x.Writes[i]).Gone = true := by simpa using h8
   have := stored_size h8
   show (x.Writes[i]).Key.size + (x.Writes[i]).Val.size ≤ 100
   omega
  have h6 : (100 + 1) * x.Reads.length ≤ (100 + 1) * 8 := Nat.mul_le_mul_left _ (by omega)
  have h7 : (100 + 1) * x.Writes.length ≤ (100 + 1) * 8 := Nat.mul_le_mul_left _ (by omega)
  show szL ByteArray.size x.Reads + szL Write.sz x.Writes ≤ 2000
  omega
 have h3 := h.tlen
 have h4 := h.hlen
 have h5 : (2000 + 1) * s.Cells.length ≤ (2000 + 1) * 24 := Nat.mul_le_mul_left _ (by omega)
 have h6 : (2000 + 1) * s.Held.length ≤ (2000 + 1) * 12 := Nat.mul_le_mul_left _ (by omega)
 show szL Cell.sz s.Cells + szL Held.sz s.Held + s.Told.length ≤ 2 ^ 20
 omega
def leadF (g : Group) : State := denS (nth g.Reps g.Lead.toNat).Log
def isQ3 (g : Group) : Bool := decide (0 < ((sureS g).Held.length : Int)) || (decide (0 ≤ g.Lead) && decide (0 < ((leadF g).Held.length : Int)))
def quietW (w : World) : Bool := !(w.Txns.any fun t => decide (t.End < 0) && !t.Stopped) && !(w.Looks.any fun l => decide (l.End < 0)) && !(w.Groups.any isQ3)
theorem worldOk_grp {w : World} (h : worldOk w = true) {j : Nat} (hj : j < w.Groups.length) : grpOk (nth w.Groups j) = true ∧ ((nth w.Groups j).Reps.length : Int) = 3 := by
 simp only [worldOk, Bool.and_eq_true] at h
 have h1 := h.1.1.1.1.1.1.1.1.2
 have := allN_iff.1 h1 j hj
 simp only [wGrpOk, Bool.and_eq_true, decide_eq_true_eq] at this
 exact this.1
theorem sureS_I {g : Group} (h : grpOk g = true) : stI 60 (sureS g) := by
 obtain ⟨h3, h5, hr⟩ := grpOk_g h
 exact repS_I (hr _ (nth_mem (bestN_lt (g := g) (by omega) g.Reps.length (Nat.le_refl _))))
theorem worldOk_len {w : World} (h : worldOk w = true) : 1 ≤ w.Groups.length ∧ w.Groups.length ≤ 3 ∧ w.Txns.length ≤ 6 ∧ w.Looks.length ≤ 4 := by
 have hh : worldHead w = true := by simp only [worldOk, Bool.and_eq_true] at h; exact h.1.1.1.1.1.1.1.1.1
 have h2 := worldHead_eq.1 hh
 simp only [worldOk, Bool.and_eq_true, decide_eq_true_eq] at h
 obtain ⟨a1, _, a3, _⟩ := h2
 refine ⟨by omega, by omega, ?_, ?_⟩
 ·have := h.1.1.1.1.2; omega
 ·have := h.1.1.1.2; omega
theorem leadG {g : Group} (hg : grpOk g = true) (h0 : 0 ≤ g.Lead) : g.Lead.toNat < g.Reps.length ∧ repG (nth g.Reps g.Lead.toNat) := by
 obtain ⟨k1, _, _⟩ := lead_at hg h0
 exact ⟨by omega, (grpOk_g hg).2.2 _ (nth_mem (by omega))⟩
theorem leadF_I {g : Group} (hg : grpOk g = true) (h0 : 0 ≤ g.Lead) : stI 60 (leadF g) := by
 obtain ⟨h1, h2⟩ := leadG hg h0
 have := denS_I h2.good
 exact ⟨this.cells, this.hlen, this.hsrt, this.hok, Nat.le_trans this.tlen h2.len, this.tsrt⟩
theorem leadFull_ok (hS : SortNe) (g : Group) (hg : grpOk g = true) (h0 : 0 ≤ g.Lead) : ACall Tryz.prog 100 [.agg (Group.row false g)] (fun x _ => x = .agg (State.row true (leadF g))) := by
 have hmx := mx_eq
 obtain ⟨h1, h2⟩ := leadG hg h0
 have hg5 := (grpOk_g hg).2.1
 refine fi H100 fun E hE hH => ?_; simp only [go_sem] at hE hH; simp only [go_sem, hE, hH, C100]
 repeat' (first | ((with_reducible first | refine gd_t ?_ ?_ | refine gd_f ?_ ?_) <;> (intro h; have hb := h; (try simp only [nf] at h); refine sb ?_; (try clear hb))) | ((with_reducible refine And.intro ?_ ?_); · omega) | ((first | refine ok_view ?_ | refine cvA (denoted_ok hS (nth g.Reps g.Lead.toNat).Log h2.good h2.len) ?_); refine st ?_) | (with_reducible first | apply jn | apply both | refine And.intro ?_ ?_) | exact fj | refine st ?_ | exact fm | refine s1 ?_ | (with_reducible exact True.intro))
 all_goals first | omega | rfl
open Go.Proofs.Wb renaming H96 → z0_, C96 → z1_ in
theorem isQuiet_1_ok (t : WorldTxn) : ACall Tryz.prog 96 ([.agg (WorldTxn.row false t)] ++ []) (fun r _ => r = bl (decide (t.End < 0) && !t.Stopped)) := Q23_
open Go.Proofs.Wb renaming H97 → z0_, C97 → z1_ in
theorem isQuiet_2_ok (l : WorldLook) : ACall Tryz.prog 97 ([.agg (WorldLook.row false l)] ++ []) (fun r _ => r = bl (decide (l.End < 0))) := Q23_
theorem isQuiet_3_ok (hS : SortNe) (g : Group) (hg : grpOk g = true) : ACall Tryz.prog 99 ([.agg (Group.row false g)] ++ []) (fun r _ => r = bl (isQ3 g)) := by
 have hmx := mx_eq
 have hi := (sureS_I hg).hlen
 by_cases h0 : 0 ≤ g.Lead
 ·have hf := (leadF_I hg h0).hlen
  refine fi H99 fun E hE hH => ?_; simp only [go_sem] at hE hH; simp only [go_sem, hE, hH, C99]
  repeat' (first | ((with_reducible first | refine gd_t ?_ ?_ | refine gd_f ?_ ?_) <;> (intro h; have hb := h; (try simp only [nf] at h); refine sb ?_; (try clear hb))) | ((with_reducible refine And.intro ?_ ?_); · omega) | ((first | refine ok_view ?_ | refine cvA (sureState_ok hS g hg) ?_ | refine cvA (leadFull_ok hS g hg h0) ?_); refine st ?_) | (with_reducible first | apply jn | apply both | refine And.intro ?_ ?_) | exact fj | refine st ?_ | exact fm | refine s1 ?_ | (with_reducible exact True.intro))
  all_goals first | omega | (simp [isQ3, *]; done) | (simp_all [isQ3]; done) | (simp_all [isQ3]; omega)
 ·refine fi H99 fun E hE hH => ?_; simp only [go_sem] at hE hH; simp only [go_sem, hE, hH, C99]
  repeat' (first | ((with_reducible first | refine gd_t ?_ ?_ | refine gd_f ?_ ?_) <;> (intro h; have hb := h; (try simp only [nf] at h); refine sb ?_; (try clear hb))) | ((with_reducible refine And.intro ?_ ?_); · omega) | ((first | refine ok_view ?_ | refine cvA (sureState_ok hS g hg) ?_); refine st ?_) | (with_reducible first | apply jn | apply both | refine And.intro ?_ ?_) | exact fj | refine st ?_ | exact fm | refine s1 ?_ | (with_reducible exact True.intro))
  all_goals first | omega | (simp [isQ3, *]; done) | (simp_all [isQ3]; done) | (simp_all [isQ3]; omega)
theorem isQuiet_ok (hS : SortNe) (w : World) (hg : worldOk w = true) : ACall Tryz.prog 49 [.agg (World.row false w)] (fun r _ => r = bl (quietW w)) := by
 have hmx := mx_eq
 obtain ⟨l1, l2, l3, l4⟩ := worldOk_len hg
 have c1 := ContainsFunc_WorldTxn_ok w.Txns 96 [] (fun t => decide (t.End < 0) && !t.Stopped) (by kernel_rfl) rfl (by omega) (fun t _ => isQuiet_1_ok t)
 have c2 := ContainsFunc_WorldLook_ok w.Looks 97 [] (fun l => decide (l.End < 0)) (by kernel_rfl) rfl (by omega) (fun t _ => isQuiet_2_ok t)
 have c3 := ContainsFunc_Group_ok w.Groups 99 [] isQ3 (by kernel_rfl) rfl (by omega) (fun g hm => isQuiet_3_ok hS g (by obtain ⟨i, hi, rfl⟩ := List.getElem_of_mem hm; have := (worldOk_grp hg hi).1; rwa [nth_lt hi] at this))
 rw [quietW]
 generalize (w.Txns.any fun t => decide (t.End < 0) && !t.Stopped) = b1 at *
 generalize (w.Looks.any fun l => decide (l.End < 0)) = b2 at *
 generalize w.Groups.any isQ3 = b3 at *
 cases b1 <;> cases b2 <;> (
  refine fi H49 fun E hE hH => ?_; simp only [go_sem] at hE hH; simp only [go_sem, hE, hH, C49]
  repeat' (first | ((with_reducible first | refine gd_t ?_ ?_ | refine gd_f ?_ ?_) <;> (intro h; have hb := h; (try simp only [nf] at h); refine sb ?_; (try clear hb))) | ((with_reducible refine And.intro ?_ ?_); · omega) | ((first | refine ok_view ?_ | refine cvA (c1) ?_ | refine cvA (c2) ?_ | refine cvA (c3) ?_); refine st ?_) | (with_reducible first | apply jn | apply both | refine And.intro ?_ ?_) | exact fj | refine st ?_ | exact fm | refine s1 ?_ | (with_reducible exact True.intro))
  all_goals first | rfl | (simp; done) | trace_state)
theorem QuietWorld_ok (hS : SortNe) (w : World) (hw : worldW w) : ACall Tryz.prog 13 [.agg (World.row false w)] (fun r _ => r = .tup [bl (worldOk w && quietW w), bl (worldOk w)]) := by
 have hmx := mx_eq
 have c1 := GoodWorld_ok w hw
 cases hg : worldOk w with
 | false =>
  rw [hg] at c1
  refine fi H13 fun E hE hH => ?_; simp only [go_sem] at hE hH; simp only [go_sem, hE, hH, T1_x]
  repeat' (first | ((with_reducible first | refine gd_t ?_ ?_ | refine gd_f ?_ ?_) <;> (intro h; have hb := h; (try simp only [nf] at h); refine sb ?_; (try clear hb))) | ((with_reducible refine And.intro ?_ ?_); · omega) | ((first | refine ok_view ?_ | refine cvA (c1) ?_); refine st ?_) | (with_reducible first | apply jn | apply both | refine And.intro ?_ ?_) | exact fj | refine st ?_ | exact fm | refine s1 ?_ | (with_reducible exact True.intro))
  all_goals first | rfl
 | true =>
  rw [hg] at c1
  refine fi H13 fun E hE hH => ?_; simp only [go_sem] at hE hH; simp only [go_sem, hE, hH, T1_x]
  repeat' (first | ((with_reducible first | refine gd_t ?_ ?_ | refine gd_f ?_ ?_) <;> (intro h; have hb := h; (try simp only [nf] at h); refine sb ?_; (try clear hb))) | ((with_reducible refine And.intro ?_ ?_); · omega) | ((first | refine ok_view ?_ | refine cvA (c1) ?_ | refine cvA (isQuiet_ok hS w hg) ?_); refine st ?_) | (with_reducible first | apply jn | apply both | refine And.intro ?_ ?_) | exact fj | refine st ?_ | exact fm | refine s1 ?_ | (with_reducible exact True.intro))
  all_goals first | rfl
set_option maxHeartbeats 2000000 in
theorem l16Quiet_ok (w : World) (hg : worldOk w = true) : ACall Tryz.prog 48 [.agg (World.row false w)] (fun r _ => r = bl (quietW w)) := by
 have hmx := mx_eq
 obtain ⟨l1, l2, l3, l4⟩ := worldOk_len hg
 refine fi H48 fun E hE hH => ?_; simp only [go_sem] at hE hH; simp only [go_sem, hE, hH, C48]
 repeat' (first | ((with_reducible first | refine gd_t ?_ ?_ | refine gd_f ?_ ?_) <;> (intro h; have hb := h; (try simp only [nf] at h); refine sb ?_; (try clear hb))) | ((with_reducible refine And.intro ?_ ?_); · omega) | (with_reducible first | apply jn | apply both | refine And.intro ?_ ?_) | exact fj | refine st ?_ | exact fm | refine s1 ?_ | (with_reducible exact True.intro))
 refine loopN w.Txns.length (fun j (_ : Unit) => ⟨[(1, .ptr 2000000 0 0), (10, .sl false 10 (w.Txns.map (WorldTxn.row false))), (11, i64 w.Txns.length), (12, i64 j)], [(2000000, ⟨9, [World.row false w]⟩)]⟩) (fun j _ => allN (fun i => !(decide ((nth w.Txns i).End < 0) && !(nth w.Txns i).Stopped)) j = true) () rfl ?_
 intro j _ hj hI
 try simp only [go_sem, hE, hH, C48_l1]
 first | refine gd_t (fun h => ?_) (fun h => ?_) | refine gd_f (fun h => ?_) (fun h => ?_)
 ·have hb := h
  simp only [nf] at h
  have hlt : j < w.Txns.length := by omega
  try simp (disch := omega) only [go_sem, hE, hH, hb]
  repeat' (first | ((with_reducible first | refine gd_t ?_ ?_ | refine gd_f ?_ ?_) <;> (intro h; have hb := h; (try simp only [nf] at h); refine sb ?_; (try clear hb))) | ((with_reducible refine And.intro ?_ ?_); · omega) | (with_reducible first | apply jn | apply both | refine And.intro ?_ ?_) | exact fj | refine st ?_ | exact fm | refine s1 ?_ | (with_reducible exact True.intro))
  all_goals first | (exact ⟨(), rfl, allN_step hI (by first | (simp_all; done) | (simp_all; omega))⟩) | (rw [quietW, show (w.Txns.any fun t => decide (t.End < 0) && !t.Stopped) = true from List.any_eq_true.2 ⟨_, nth_mem hlt, by first | (simp_all; done) | (simp_all; omega)⟩]; simp; done)
 ·try simp (disch := omega) only [go_sem, hE, hH, h]
  simp only [nf] at h
  rw [show j = w.Txns.length by omega, allN_all (p := fun t : WorldTxn => !(decide (t.End < 0) && !t.Stopped))] at hI
  have e1 : (w.Txns.any fun t => decide (t.End < 0) && !t.Stopped) = false := by
   rw [List.any_eq_false]; intro x hx h; have := List.all_eq_true.1 hI x hx; rw [h] at this; cases this
  clear hI hj h
  repeat' (first | ((with_reducible first | refine gd_t ?_ ?_ | refine gd_f ?_ ?_) <;> (intro h; have hb := h; (try simp only [nf] at h); refine sb ?_; (try clear hb))) | ((with_reducible refine And.intro ?_ ?_); · omega) | (with_reducible first | apply jn | apply both | refine And.intro ?_ ?_) | exact fj | refine st ?_ | exact fm | refine s1 ?_ | (with_reducible exact True.intro))
  refine loopN w.Looks.length (fun j (_ : Unit) => ⟨[(1, .ptr 2000000 0 0), (26, .sl false 6 (w.Looks.map (WorldLook.row false))), (27, i64 w.Looks.length), (28, i64 j)], [(2000000, ⟨9, [World.row false w]⟩)]⟩) (fun j _ => allN (fun i => !decide ((nth w.Looks i).End < 0)) j = true) () rfl ?_
  intro j _ hj hI
  try simp only [go_sem, hE, hH, C48_l2]
  first | refine gd_t (fun h => ?_) (fun h => ?_) | refine gd_f (fun h => ?_) (fun h => ?_)
  ·have hb := h
   simp only [nf] at h
   have hlt : j < w.Looks.length := by omega
   try simp (disch := omega) only [go_sem, hE, hH, hb]
   repeat' (first | ((with_reducible first | refine gd_t ?_ ?_ | refine gd_f ?_ ?_) <;> (intro h; have hb := h; (try simp only [nf] at h); refine sb ?_; (try clear hb))) | ((with_reducible refine And.intro ?_ ?_); · omega) | (with_reducible first | apply jn | apply both | refine And.intro ?_ ?_) | exact fj | refine st ?_ | exact fm | refine s1 ?_ | (with_reducible exact True.intro))
   all_goals first | (exact ⟨(), rfl, allN_step hI (by simp; omega)⟩) | (rw [quietW, show (w.Looks.any fun l => decide (l.End < 0)) = true from List.any_eq_true.2 ⟨_, nth_mem hlt, decide_eq_true (by assumption)⟩]; simp; done)
  ·try simp (disch := omega) only [go_sem, hE, hH, h]
   simp only [nf] at h
   rw [show j = w.Looks.length by omega, allN_all (p := fun l : WorldLook => !decide (l.End < 0))] at hI
   have e2 : (w.Looks.any fun l => decide (l.End < 0)) = false := by
    rw [List.any_eq_false]; intro x hx; have := List.all_eq_true.1 hI x hx; simpa using this
   clear hI hj h
   repeat' (first | ((with_reducible first | refine gd_t ?_ ?_ | refine gd_f ?_ ?_) <;> (intro h; have hb := h; (try simp only [nf] at h); refine sb ?_; (try clear hb))) | ((with_reducible refine And.intro ?_ ?_); · omega) | (with_reducible first | apply jn | apply both | refine And.intro ?_ ?_) | exact fj | refine st ?_ | exact fm | refine s1 ?_ | (with_reducible exact True.intro))
   refine loopN w.Groups.length (fun j (_ : Unit) => ⟨[(37, .sl false 3 (w.Groups.map (Group.row false))), (38, i64 w.Groups.length), (39, i64 j)], []⟩) (fun j _ => allN (fun i => !isQ3 (nth w.Groups i)) j = true) () rfl ?_
   intro j _ hj hI
   try simp only [go_sem, hE, hH, C48_l3]
   first | refine gd_t (fun h => ?_) (fun h => ?_) | refine gd_f (fun h => ?_) (fun h => ?_)
   ·have hb := h
    simp only [nf] at h
    have hlt : j < w.Groups.length := by omega
    clear h
    obtain ⟨hgo, -⟩ := worldOk_grp hg hlt
    have hi := (sureS_I hgo).hlen
    have hqn : isQ3 (nth w.Groups j) = true → quietW w = false := fun h => by rw [quietW, List.any_eq_true.2 ⟨_, nth_mem hlt, h⟩]; simp
    by_cases h0 : 0 ≤ (nth w.Groups j).Lead
    ·obtain ⟨k1, k2⟩ := leadG hgo h0
     have hf := (leadF_I hgo h0).hlen
     have hg5 := (grpOk_g hgo).2.1
     have cM := l16Means_ok (nth (nth w.Groups j).Reps (nth w.Groups j).Lead.toNat).Log (nth (nth w.Groups j).Reps (nth w.Groups j).Lead.toNat).Log.length (Nat.le_refl _) (by have := k2.len; omega) _ (by rw [List.take_length]) k2.good k2.len
     rw [show denS (nth (nth w.Groups j).Reps (nth w.Groups j).Lead.toNat).Log = leadF (nth w.Groups j) from rfl] at cM
     try simp (disch := omega) only [go_sem, hE, hH, hb]
     repeat' (first | ((with_reducible first | refine gd_t ?_ ?_ | refine gd_f ?_ ?_) <;> (intro h; have hb := h; (try simp only [nf] at h); refine sb ?_; (try clear hb))) | ((with_reducible refine And.intro ?_ ?_); · omega) | ((first | refine ok_view ?_ | refine cvA (l16Sure_ok _ hgo) ?_ | refine cvA (cM) ?_); refine st ?_) | (with_reducible first | apply jn | apply both | refine And.intro ?_ ?_) | exact fj | refine st ?_ | exact fm | refine s1 ?_ | (with_reducible exact True.intro))
     all_goals first | omega | (rw [hqn (by simp only [isQ3, Bool.or_eq_true, Bool.and_eq_true, decide_eq_true_eq]; omega)]; done) | exact ⟨(), rfl, allN_step hI (by simp only [isQ3, Bool.not_eq_true', Bool.or_eq_false_iff, Bool.and_eq_false_iff, decide_eq_false_iff_not]; omega)⟩
    ·try simp (disch := omega) only [go_sem, hE, hH, hb]
     repeat' (first | ((with_reducible first | refine gd_t ?_ ?_ | refine gd_f ?_ ?_) <;> (intro h; have hb := h; (try simp only [nf] at h); refine sb ?_; (try clear hb))) | ((with_reducible refine And.intro ?_ ?_); · omega) | ((first | refine ok_view ?_ | refine cvA (l16Sure_ok _ hgo) ?_); refine st ?_) | (with_reducible first | apply jn | apply both | refine And.intro ?_ ?_) | exact fj | refine st ?_ | exact fm | refine s1 ?_ | (with_reducible exact True.intro))
     all_goals first | omega | (rw [hqn (by simp only [isQ3, Bool.or_eq_true, Bool.and_eq_true, decide_eq_true_eq]; omega)]; done) | exact ⟨(), rfl, allN_step hI (by simp only [isQ3, Bool.not_eq_true', Bool.or_eq_false_iff, Bool.and_eq_false_iff, decide_eq_false_iff_not]; omega)⟩
   ·try simp (disch := omega) only [go_sem, hE, hH, h]
    simp only [nf] at h
    rw [show j = w.Groups.length by omega, allN_all (p := fun g : Group => !isQ3 g)] at hI
    have e3 : w.Groups.any isQ3 = false := by
     rw [List.any_eq_false]; intro x hx; have := List.all_eq_true.1 hI x hx; simpa using this
    rw [quietW, e1, e2, e3]
    repeat' (first | ((with_reducible first | refine gd_t ?_ ?_ | refine gd_f ?_ ?_) <;> (intro h; have hb := h; (try simp only [nf] at h); refine sb ?_; (try clear hb))) | ((with_reducible refine And.intro ?_ ?_); · omega) | (with_reducible first | apply jn | apply both | refine And.intro ?_ ?_) | exact fj | refine st ?_ | exact fm | refine s1 ?_ | (with_reducible exact True.intro))
    all_goals first | rfl
theorem sQuietWorld_ok (w : World) (hw : worldW w) : ACall Tryz.prog 12 [.agg (World.row false w)] (fun r _ => r = .tup [bl (worldOk w && quietW w), bl (worldOk w)]) := by
 have hmx := mx_eq
 have c1 := l16Good_ok w hw
 cases hg : worldOk w with
 | false =>
  rw [hg] at c1
  refine fi H12 fun E hE hH => ?_; simp only [go_sem] at hE hH; simp only [go_sem, hE, hH, T1_x]
  repeat' (first | ((with_reducible first | refine gd_t ?_ ?_ | refine gd_f ?_ ?_) <;> (intro h; have hb := h; (try simp only [nf] at h); refine sb ?_; (try clear hb))) | ((with_reducible refine And.intro ?_ ?_); · omega) | ((first | refine ok_view ?_ | refine cvA (c1) ?_); refine st ?_) | (with_reducible first | apply jn | apply both | refine And.intro ?_ ?_) | exact fj | refine st ?_ | exact fm | refine s1 ?_ | (with_reducible exact True.intro))
  all_goals first | rfl
 | true =>
  rw [hg] at c1
  refine fi H12 fun E hE hH => ?_; simp only [go_sem] at hE hH; simp only [go_sem, hE, hH, T1_x]
  repeat' (first | ((with_reducible first | refine gd_t ?_ ?_ | refine gd_f ?_ ?_) <;> (intro h; have hb := h; (try simp only [nf] at h); refine sb ?_; (try clear hb))) | ((with_reducible refine And.intro ?_ ?_); · omega) | ((first | refine ok_view ?_ | refine cvA (c1) ?_ | refine cvA (l16Quiet_ok w hg) ?_); refine st ?_) | (with_reducible first | apply jn | apply both | refine And.intro ?_ ?_) | exact fj | refine st ?_ | exact fm | refine s1 ?_ | (with_reducible exact True.intro))
  all_goals first | rfl
theorem FnExactQuietWorld_ok (hS : SortNe) (vW : World) (wW : vW.wf) : ACall Tryz.prog 4 [.agg (World.row false vW)] (fun r _ => r = bl true) := by
 have hmx := mx_eq
 have lW : vW.lim := World.lim_of wW
 refine fi H4 fun E hE hH => ?_; simp only [go_sem] at hE hH; simp only [go_sem, hE, hH, C4]
 refine ok_view ?_; simp (disch := omega) only [go_sem, hE, hH]; refine cvA (szWorld_ok vW _ (by decide) (by decide) wW) ?_
 refine aftV_intro ?_
 rintro r l ⟨n1, rfl, hn1, hsz1⟩
 try simp (disch := omega) only [go_sem, hE, hH]
 first | refine gd_t (fun h1 => ?_) (fun h1 => ?_) | refine gd_f (fun h1 => ?_) (fun h1 => ?_)
 ·try simp (disch := omega) only [go_sem, hE, hH, h1]
 have hb1 := h1
 simp only [nf] at h1
 try simp (disch := omega) only [go_sem, hE, hH, hb1]
 have sW : vW.sz ≤ 2 ^ 20 := by have := hsz1 h1; omega
 have hp := worldW_of wW sW
 have c1 := QuietWorld_ok hS vW hp
 have c2 := sQuietWorld_ok vW hp
 generalize (worldOk vW && quietW vW) = x at *
 generalize worldOk vW = b at *
 repeat' (first | ((with_reducible first | refine gd_t ?_ ?_ | refine gd_f ?_ ?_) <;> (intro h; have hb := h; (try simp only [nf] at h); refine sb ?_; (try clear hb))) | ((with_reducible refine And.intro ?_ ?_); · omega) | ((first | refine ok_view ?_ | refine cvA (toWorld_ok vW sW) ?_ | refine cvA (c1) ?_ | refine cvA (c2) ?_ | refine cvA (eqWorld_ok vW vW lW) ?_); refine st ?_) | (with_reducible first | apply jn | apply both | refine And.intro ?_ ?_) | exact fj | refine st ?_ | exact fm | refine s1 ?_ | (with_reducible exact True.intro))
 all_goals first | rfl | omega
end Go.Proofs.Wb

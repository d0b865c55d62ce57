import Derived.Test.YtgdngiecjoeniaaGreatFnExactStaleByN7
import Derived.Laws.Externs
set_option linter.unusedSimpArgs false
set_option linter.unusedVariables false
set_option linter.unusedSectionVars false
namespace Go.Proofs.Wb
open Go Go.Am
def doneL (l : List Rec) (j : Nat) : List Bool := (List.range j).map fun i => (appS (stateL (l.take i)) (nth l i)).isSome
theorem doneL_len (l : List Rec) (j : Nat) : (doneL l j).length = j := by simp [doneL]
theorem doneL_succ (l : List Rec) (j : Nat) : doneL l (j + 1) = doneL l j ++ [(appS (stateL (l.take j)) (nth l j)).isSome] := by simp [doneL, List.range_succ]
theorem stateL_succ {l : List Rec} {j : Nat} (h : j < l.length) : stateL (l.take (j + 1)) = stepS (stateL (l.take j)) (nth l j) := by
 rw [take_nth h, stateL, List.foldl_append]; rfl
theorem stateL_takeI {l : List Rec} (hl : ∀ r ∈ l, recOk r = true) (j : Nat) (hj : j ≤ l.length) : stI j (stateL (l.take j)) := by
 have := stateL_I (l := l.take j) fun r h => hl r (List.mem_of_mem_take h)
 rwa [List.length_take, Nat.min_eq_left hj] at this
def soF (l : List Rec) (j : Nat) : Option State → St
 | none => ⟨[(2, .ptr 3000000 0 0), (4, .ptr 5000000 0 0), (5, .ref 6000000 0 j), (12, .sl false 7 (l.map (Rec.row false))), (13, i64 l.length), (14, i64 j)], [(3000000, ⟨4, [[i64 0, nils, nils, nils]]⟩), (5000000, ⟨4, [[i64 0, nils, nils, nils]]⟩), (6000000, ⟨1, (doneL l j).map (fun b => [bl b])⟩)]⟩
 | some s => ⟨[(2, .ptr 3000000 0 0), (4, .ptr 5000000 0 0), (5, .ref 6000000 0 j), (12, .sl false 7 (l.map (Rec.row false))), (13, i64 l.length), (14, i64 j)], [(3000000, ⟨4, [[i64 0, nils, nils, nils]]⟩), (5000000, ⟨4, [[i64 s.Floor, .ref 5000002 0 s.Cells.length, .ref 5000003 0 s.Held.length, .ref 5000004 0 s.Told.length]]⟩), (5000002, ⟨2, s.Cells.map (Cell.row true)⟩), (5000003, ⟨5, s.Held.map (Held.row true)⟩), (5000004, ⟨3, s.Told.map (Told.row true)⟩), (6000000, ⟨1, (doneL l j).map (fun b => [bl b])⟩)]⟩
set_option maxHeartbeats 2000000 in
theorem stateOf_ok (hS : SortNe) (l : List Rec) (hl : ∀ r ∈ l, recOk r = true) (hn : l.length ≤ 60) : ACall Tryz.prog 137 [.sl false 7 (l.map (Rec.row false))] (fun x _ => x = .tup [.agg (State.row true (stateL l)), .sl true 1 ((doneL l l.length).map (fun b => [bl b]))]) := by
 have hmx := mx_eq
 refine fi H137 fun E hE hH => ?_; simp only [go_sem] at hE hH; simp only [go_sem, hE, hH, C137]
 try simp (disch := omega) only [go_sem, hE, hH]
 refine loopNe l.length (fun j x => soF l j x) (fun j x => x.getD st0 = stateL (l.take j)) none rfl rfl ?_
 intro j x hj hI
 have z1 : st0.Cells = [] := rfl
 have z2 : st0.Held = [] := rfl
 have z3 : st0.Told = [] := rfl
 have z4 : st0.Floor = 0 := rfl
 have hSI := stateL_takeI hl j hj
 rw [← hI] at hSI
 cases x with
 | none =>
  try simp only [go_sem, hE, hH, C137_l1, soF]
  first | refine gd_t (fun h => ?_) (fun h => ?_) | refine gd_f (fun h => ?_) (fun h => ?_)
  ·have hb := h
   simp only [nf] at h
   have hlt : j < l.length := by omega
   have cA := applied_ok hS st0 (nth l j) hSI (by omega) (hl _ (nth_mem hlt))
   have hst : stateL (l.take (j + 1)) = stepS st0 (nth l j) := by rw [stateL_succ hlt, ← hI]; rfl
   have hdn : doneL l (j + 1) = doneL l j ++ [(appS st0 (nth l j)).isSome] := by rw [doneL_succ, ← hI]; rfl
   have hdl := doneL_len l j
   have hdt : (doneL l j).take j = doneL l j := by rw [List.take_of_length_le (by omega)]
   cases hA : appS st0 (nth l j) with
   | none =>
    rw [hA, appR] at cA
    rw [hA] at hdn
    try simp (disch := omega) only [go_sem, hE, hH, hb]
    repeat' (first | ((with_reducible first | refine gd_t ?_ ?_ | refine gd_f ?_ ?_) <;> (intro h; have hb := h; (try simp only [nf] at h); simp (disch := omega) only [go_sem, hE, hH, hdl, hdt, z1, z2, z3, z4, hb]; (try clear hb))) | ((with_reducible refine And.intro ?_ ?_); · omega) | ((first | refine ok_view ?_ | refine cvAn (cA) ?_); simp (disch := omega) only [go_sem, hE, hH, hdl, hdt, z1, z2, z3, z4]) | (with_reducible apply jn) | (with_reducible apply both) | (with_reducible refine And.intro ?_ ?_) | ((with_reducible apply fin_eq); (try (simp (disch := omega) only [go_sem, hE, hH, hdl, hdt, z1, z2, z3, z4])); first | done | rfl) | (simp (disch := omega) only [go_sem, hE, hH, hdl, hdt, z1, z2, z3, z4]) | ((first | apply noMLL_sE | apply pk_sE) <;> (simp only [go_sem, hE, hH, hdl, hdt, z1, z2, z3, z4]; done)) | (simp only [go_sem, hE, hH, hdl, hdt, z1, z2, z3, z4]) | fail)
    all_goals try first | omega | rfl
    all_goals (
     refine ⟨none, ?_, by (first | (rw [hst, stepS, hA]; done) | (rw [hst, stepS, hA]; rfl))⟩
     rw [hdn, List.map_append]
     rfl)
   | some s' =>
    rw [hA, appR] at cA
    rw [hA] at hdn
    try simp (disch := omega) only [go_sem, hE, hH, hb]
    repeat' (first | ((with_reducible first | refine gd_t ?_ ?_ | refine gd_f ?_ ?_) <;> (intro h; have hb := h; (try simp only [nf] at h); simp (disch := omega) only [go_sem, hE, hH, hdl, hdt, z1, z2, z3, z4, hb]; (try clear hb))) | ((with_reducible refine And.intro ?_ ?_); · omega) | ((first | refine ok_view ?_ | refine cvAn (cA) ?_); simp (disch := omega) only [go_sem, hE, hH, hdl, hdt, z1, z2, z3, z4]) | (with_reducible apply jn) | (with_reducible apply both) | (with_reducible refine And.intro ?_ ?_) | ((with_reducible apply fin_eq); (try (simp (disch := omega) only [go_sem, hE, hH, hdl, hdt, z1, z2, z3, z4])); first | done | rfl) | (simp (disch := omega) only [go_sem, hE, hH, hdl, hdt, z1, z2, z3, z4]) | ((first | apply noMLL_sE | apply pk_sE) <;> (simp only [go_sem, hE, hH, hdl, hdt, z1, z2, z3, z4]; done)) | (simp only [go_sem, hE, hH, hdl, hdt, z1, z2, z3, z4]) | fail)
    all_goals try first | omega | rfl
    all_goals (
     refine ⟨some s', ?_, by (first | (rw [hst, stepS, hA]; done) | (rw [hst, stepS, hA]; rfl))⟩
     rw [hdn, List.map_append]
     rfl)
  ·try simp (disch := omega) only [go_sem, hE, hH, h]
   simp only [nf] at h
   have hjl : j = l.length := by omega
   have hdl := doneL_len l j
   rw [hjl, List.take_length] at hI
   subst hjl
   rw [← hI]
   simp [hdl, pk_map, packedL]
   exact ⟨rfl, rfl, rfl, rfl⟩
 | some s =>
  try simp only [go_sem, hE, hH, C137_l1, soF]
  first | refine gd_t (fun h => ?_) (fun h => ?_) | refine gd_f (fun h => ?_) (fun h => ?_)
  ·have hb := h
   simp only [nf] at h
   have hlt : j < l.length := by omega
   have cA := applied_ok hS s (nth l j) hSI (by omega) (hl _ (nth_mem hlt))
   have hst : stateL (l.take (j + 1)) = stepS s (nth l j) := by rw [stateL_succ hlt, ← hI]; rfl
   have hdn : doneL l (j + 1) = doneL l j ++ [(appS s (nth l j)).isSome] := by rw [doneL_succ, ← hI]; rfl
   have hdl := doneL_len l j
   have hdt : (doneL l j).take j = doneL l j := by rw [List.take_of_length_le (by omega)]
   cases hA : appS s (nth l j) with
   | none =>
    rw [hA, appR] at cA
    rw [hA] at hdn
    try simp (disch := omega) only [go_sem, hE, hH, hb]
    repeat' (first | ((with_reducible first | refine gd_t ?_ ?_ | refine gd_f ?_ ?_) <;> (intro h; have hb := h; (try simp only [nf] at h); simp (disch := omega) only [go_sem, hE, hH, hdl, hdt, hb]; (try clear hb))) | ((with_reducible refine And.intro ?_ ?_); · omega) | ((first | refine ok_view ?_ | refine cvA (cA) ?_); simp (disch := omega) only [go_sem, hE, hH, hdl, hdt]) | (with_reducible apply jn) | (with_reducible apply both) | (with_reducible refine And.intro ?_ ?_) | ((with_reducible apply fin_eq); (try (simp (disch := omega) only [go_sem, hE, hH, hdl, hdt])); first | done | rfl) | (simp (disch := omega) only [go_sem, hE, hH, hdl, hdt]) | ((first | apply noMLL_sE | apply pk_sE) <;> (simp only [go_sem, hE, hH, hdl, hdt]; done)) | (simp only [go_sem, hE, hH, hdl, hdt]) | fail)
    all_goals try first | omega | rfl
    all_goals (
     refine ⟨some s, ?_, by (first | (rw [hst, stepS, hA]; done) | (rw [hst, stepS, hA]; rfl))⟩
     rw [hdn, List.map_append]
     rfl)
   | some s' =>
    rw [hA, appR] at cA
    rw [hA] at hdn
    try simp (disch := omega) only [go_sem, hE, hH, hb]
    repeat' (first | ((with_reducible first | refine gd_t ?_ ?_ | refine gd_f ?_ ?_) <;> (intro h; have hb := h; (try simp only [nf] at h); simp (disch := omega) only [go_sem, hE, hH, hdl, hdt, hb]; (try clear hb))) | ((with_reducible refine And.intro ?_ ?_); · omega) | ((first | refine ok_view ?_ | refine cvA (cA) ?_); simp (disch := omega) only [go_sem, hE, hH, hdl, hdt]) | (with_reducible apply jn) | (with_reducible apply both) | (with_reducible refine And.intro ?_ ?_) | ((with_reducible apply fin_eq); (try (simp (disch := omega) only [go_sem, hE, hH, hdl, hdt])); first | done | rfl) | (simp (disch := omega) only [go_sem, hE, hH, hdl, hdt]) | ((first | apply noMLL_sE | apply pk_sE) <;> (simp only [go_sem, hE, hH, hdl, hdt]; done)) | (simp only [go_sem, hE, hH, hdl, hdt]) | fail)
    all_goals try first | omega | rfl
    all_goals (
     refine ⟨some s', ?_, by (first | (rw [hst, stepS, hA]; done) | (rw [hst, stepS, hA]; rfl))⟩
     rw [hdn, List.map_append]
     rfl)
  ·try simp (disch := omega) only [go_sem, hE, hH, h]
   simp only [nf] at h
   have hjl : j = l.length := by omega
   have hdl := doneL_len l j
   rw [hjl, List.take_length] at hI
   subst hjl
   rw [← hI]
   simp [hdl, pk_map, packedL]
def soG (l : List Rec) (j : Nat) : Option State → St
 | none => ⟨[(2, .ptr 3000000 0 0), (4, .ptr 5000000 0 0), (5, .ref 6000000 0 j), (10, .sl false 7 (l.map (Rec.row false))), (11, i64 l.length), (12, i64 j)], [(3000000, ⟨4, [[i64 0, nils, nils, nils]]⟩), (5000000, ⟨4, [[i64 0, nils, nils, nils]]⟩), (6000000, ⟨1, (doneL l j).map (fun b => [bl b])⟩)]⟩
 | some s => ⟨[(2, .ptr 3000000 0 0), (4, .ptr 5000000 0 0), (5, .ref 6000000 0 j), (10, .sl false 7 (l.map (Rec.row false))), (11, i64 l.length), (12, i64 j)], [(3000000, ⟨4, [[i64 0, nils, nils, nils]]⟩), (5000000, ⟨4, [State.row false s]⟩), (6000000, ⟨1, (doneL l j).map (fun b => [bl b])⟩)]⟩
set_option maxHeartbeats 2000000 in
theorem l13Of_ok (l : List Rec) (hl : ∀ r ∈ l, recOk r = true) (hn : l.length ≤ 60) : ACall Tryz.prog 113 [.sl false 7 (l.map (Rec.row false))] (fun x _ => x = .tup [.agg (State.row false (stateL l)), .sl true 1 ((doneL l l.length).map (fun b => [bl b]))]) := by
 have hmx := mx_eq
 refine fi H113 fun E hE hH => ?_; simp only [go_sem] at hE hH; simp only [go_sem, hE, hH, C113]
 try simp (disch := omega) only [go_sem, hE, hH]
 refine loopNe l.length (fun j x => soG l j x) (fun j x => x.getD st0 = stateL (l.take j)) none rfl rfl ?_
 intro j x hj hI
 have z1 : st0.Cells = [] := rfl
 have z2 : st0.Held = [] := rfl
 have z3 : st0.Told = [] := rfl
 have z4 : st0.Floor = 0 := rfl
 have hSI := stateL_takeI hl j hj
 rw [← hI] at hSI
 cases x with
 | none =>
  try simp only [go_sem, hE, hH, C113_l1, soG]
  first | refine gd_t (fun h => ?_) (fun h => ?_) | refine gd_f (fun h => ?_) (fun h => ?_)
  ·have hb := h
   simp only [nf] at h
   have hlt : j < l.length := by omega
   have cA := l13Apply_ok st0 (nth l j) hSI (by omega) (hl _ (nth_mem hlt))
   have hst : stateL (l.take (j + 1)) = stepS st0 (nth l j) := by rw [stateL_succ hlt, ← hI]; rfl
   have hdn : doneL l (j + 1) = doneL l j ++ [(appS st0 (nth l j)).isSome] := by rw [doneL_succ, ← hI]; rfl
   have hdl := doneL_len l j
   have hdt : (doneL l j).take j = doneL l j := by rw [List.take_of_length_le (by omega)]
   cases hA : appS st0 (nth l j) with
   | none =>
    rw [hA, Option.isSome_none] at cA
    simp only [sAppR] at cA
    rw [hA] at hdn
    try simp (disch := omega) only [go_sem, hE, hH, hb]
    repeat' (first | ((with_reducible first | refine gd_t ?_ ?_ | refine gd_f ?_ ?_) <;> (intro h; have hb := h; (try simp only [nf] at h); simp (disch := omega) only [go_sem, hE, hH, hdl, hdt, z1, z2, z3, z4, hb]; (try clear hb))) | ((with_reducible refine And.intro ?_ ?_); · omega) | (refine ok_view ?_; simp (disch := omega) only [go_sem, hE, hH, hdl, hdt, z1, z2, z3, z4]; refine cvAn (cA) (And.intro (by (simp (disch := omega) only [go_sem, hE, hH, hdl, hdt, z1, z2, z3, z4]); done) (aftV_intro ?_)); rintro _ _ ⟨q, rfl, _⟩; simp (disch := omega) only [go_sem, hE, hH, hdl, hdt, z1, z2, z3, z4]) | (with_reducible apply jn) | (with_reducible apply both) | (with_reducible refine And.intro ?_ ?_) | ((with_reducible apply fin_eq); (try (simp (disch := omega) only [go_sem, hE, hH, hdl, hdt, z1, z2, z3, z4])); first | done | rfl) | (simp (disch := omega) only [go_sem, hE, hH, hdl, hdt, z1, z2, z3, z4]) | ((first | apply noMLL_sE | apply pk_sE) <;> (simp only [go_sem, hE, hH, hdl, hdt, z1, z2, z3, z4]; done)) | (simp only [go_sem, hE, hH, hdl, hdt, z1, z2, z3, z4]) | fail)
    all_goals try first | omega | rfl
    all_goals (
     refine ⟨none, ?_, by (first | (rw [hst, stepS, hA]; done) | (rw [hst, stepS, hA]; rfl))⟩
     rw [hdn, List.map_append]
     rfl)
   | some s' =>
    rw [hA, Option.isSome_some] at cA
    simp only [sAppR] at cA
    rw [hA] at hdn
    try simp (disch := omega) only [go_sem, hE, hH, hb]
    repeat' (first | ((with_reducible first | refine gd_t ?_ ?_ | refine gd_f ?_ ?_) <;> (intro h; have hb := h; (try simp only [nf] at h); simp (disch := omega) only [go_sem, hE, hH, hdl, hdt, z1, z2, z3, z4, hb]; (try clear hb))) | ((with_reducible refine And.intro ?_ ?_); · omega) | (refine ok_view ?_; simp (disch := omega) only [go_sem, hE, hH, hdl, hdt, z1, z2, z3, z4]; refine cvAn (cA) (And.intro (by (simp (disch := omega) only [go_sem, hE, hH, hdl, hdt, z1, z2, z3, z4]); done) (aftV_intro ?_)); rintro _ _ ⟨q, rfl, hq⟩; simp (disch := omega) only [go_sem, hE, hH, hdl, hdt, z1, z2, z3, z4]) | (with_reducible apply jn) | (with_reducible apply both) | (with_reducible refine And.intro ?_ ?_) | ((with_reducible apply fin_eq); (try (simp (disch := omega) only [go_sem, hE, hH, hdl, hdt, z1, z2, z3, z4])); first | done | rfl) | (simp (disch := omega) only [go_sem, hE, hH, hdl, hdt, z1, z2, z3, z4]) | ((first | apply noMLL_sE | apply pk_sE) <;> (simp only [go_sem, hE, hH, hdl, hdt, z1, z2, z3, z4]; done)) | (simp only [go_sem, hE, hH, hdl, hdt, z1, z2, z3, z4]) | fail)
    all_goals try first | omega | rfl
    all_goals (
     obtain rfl := hq _ rfl
     refine ⟨some q, ?_, by (first | (rw [hst, stepS, hA]; done) | (rw [hst, stepS, hA]; rfl))⟩
     rw [hdn, List.map_append]
     rfl)
  ·try simp (disch := omega) only [go_sem, hE, hH, h]
   simp only [nf] at h
   have hjl : j = l.length := by omega
   have hdl := doneL_len l j
   rw [hjl, List.take_length] at hI
   subst hjl
   rw [← hI]
   simp [hdl, pk_map, packedL]
   exact ⟨rfl, rfl, rfl, rfl⟩
 | some s =>
  try simp only [go_sem, hE, hH, C113_l1, soG]
  first | refine gd_t (fun h => ?_) (fun h => ?_) | refine gd_f (fun h => ?_) (fun h => ?_)
  ·have hb := h
   simp only [nf] at h
   have hlt : j < l.length := by omega
   have cA := l13Apply_ok s (nth l j) hSI (by omega) (hl _ (nth_mem hlt))
   have hst : stateL (l.take (j + 1)) = stepS s (nth l j) := by rw [stateL_succ hlt, ← hI]; rfl
   have hdn : doneL l (j + 1) = doneL l j ++ [(appS s (nth l j)).isSome] := by rw [doneL_succ, ← hI]; rfl
   have hdl := doneL_len l j
   have hdt : (doneL l j).take j = doneL l j := by rw [List.take_of_length_le (by omega)]
   cases hA : appS s (nth l j) with
   | none =>
    rw [hA, Option.isSome_none] at cA
    simp only [sAppR] at cA
    rw [hA] at hdn
    try simp (disch := omega) only [go_sem, hE, hH, hb]
    repeat' (first | ((with_reducible first | refine gd_t ?_ ?_ | refine gd_f ?_ ?_) <;> (intro h; have hb := h; (try simp only [nf] at h); simp (disch := omega) only [go_sem, hE, hH, hdl, hdt, hb]; (try clear hb))) | ((with_reducible refine And.intro ?_ ?_); · omega) | (refine ok_view ?_; simp (disch := omega) only [go_sem, hE, hH, hdl, hdt]; refine cvA (cA) ?_; refine aftV_intro ?_; rintro _ _ ⟨q, rfl, _⟩; simp (disch := omega) only [go_sem, hE, hH, hdl, hdt]) | (with_reducible apply jn) | (with_reducible apply both) | (with_reducible refine And.intro ?_ ?_) | ((with_reducible apply fin_eq); (try (simp (disch := omega) only [go_sem, hE, hH, hdl, hdt])); first | done | rfl) | (simp (disch := omega) only [go_sem, hE, hH, hdl, hdt]) | ((first | apply noMLL_sE | apply pk_sE) <;> (simp only [go_sem, hE, hH, hdl, hdt]; done)) | (simp only [go_sem, hE, hH, hdl, hdt]) | fail)
    all_goals try first | omega | rfl
    all_goals (
     refine ⟨some s, ?_, by (first | (rw [hst, stepS, hA]; done) | (rw [hst, stepS, hA]; rfl))⟩
     rw [hdn, List.map_append]
     rfl)
   | some s' =>
    rw [hA, Option.isSome_some] at cA
    simp only [sAppR] at cA
    rw [hA] at hdn
    try simp (disch := omega) only [go_sem, hE, hH, hb]
    repeat' (first | ((with_reducible first | refine gd_t ?_ ?_ | refine gd_f ?_ ?_) <;> (intro h; have hb := h; (try simp only [nf] at h); simp (disch := omega) only [go_sem, hE, hH, hdl, hdt, hb]; (try clear hb))) | ((with_reducible refine And.intro ?_ ?_); · omega) | (refine ok_view ?_; simp (disch := omega) only [go_sem, hE, hH, hdl, hdt]; refine cvA (cA) ?_; refine aftV_intro ?_; rintro _ _ ⟨q, rfl, hq⟩; simp (disch := omega) only [go_sem, hE, hH, hdl, hdt]) | (with_reducible apply jn) | (with_reducible apply both) | (with_reducible refine And.intro ?_ ?_) | ((with_reducible apply fin_eq); (try (simp (disch := omega) only [go_sem, hE, hH, hdl, hdt])); first | done | rfl) | (simp (disch := omega) only [go_sem, hE, hH, hdl, hdt]) | ((first | apply noMLL_sE | apply pk_sE) <;> (simp only [go_sem, hE, hH, hdl, hdt]; done)) | (simp only [go_sem, hE, hH, hdl, hdt]) | fail)
    all_goals try first | omega | rfl
    all_goals (
     obtain rfl := hq _ rfl
     refine ⟨some q, ?_, by (first | (rw [hst, stepS, hA]; done) | (rw [hst, stepS, hA]; rfl))⟩
     rw [hdn, List.map_append]
     rfl)
  ·try simp (disch := omega) only [go_sem, hE, hH, h]
   simp only [nf] at h
   have hjl : j = l.length := by omega
   have hdl := doneL_len l j
   rw [hjl, List.take_length] at hI
   subst hjl
   rw [← hI]
   simp [hdl, pk_map, packedL]
def denS (l : List Entry) : State := stateL (l.map Entry.Rec)
theorem denoted_ok (hS : SortNe) (l : List Entry) (hl : ∀ e ∈ l, recOk e.Rec = true) (hn : l.length ≤ 60) : ACall Tryz.prog 88 [.sl false 8 (l.map (Entry.row false))] (fun x _ => x = .agg (State.row true (denS l))) := by
 have hmx := mx_eq
 have cO := stateOf_ok hS (l.map Entry.Rec) (fun r h => by obtain ⟨e, he, rfl⟩ := List.mem_map.1 h; exact hl e he) (by rw [List.length_map]; exact hn)
 refine fi H88 fun E hE hH => ?_; simp only [go_sem] at hE hH; simp only [go_sem, hE, hH, C88]
 try simp (disch := omega) only [go_sem, hE, hH]
 refine loopNe l.length (fun j (_ : Unit) => ⟨[(2, .ptr 3000000 0 0), (3, .ref 4000000 0 j), (9, .sl false 8 (l.map (Entry.row false))), (10, i64 l.length), (11, i64 j)], [(3000000, ⟨4, [[i64 0, nils, nils, nils]]⟩), (4000000, ⟨7, ((l.take j).map Entry.Rec).map (Rec.row false)⟩)]⟩) (fun _ _ => True) () rfl trivial ?_
 intro j x hj hI
 try simp only [go_sem, hE, hH, C88_l1]
 first | refine gd_t (fun h => ?_) (fun h => ?_) | refine gd_f (fun h => ?_) (fun h => ?_)
 ·have hb := h
  simp only [nf] at h
  have hlt : j < l.length := by omega
  have hjl : ((l.take j).map Entry.Rec).length = j := by simp; omega
  have hjt : (l.take j).take j = l.take j := by rw [List.take_take, Nat.min_self]
  have hs : (l.take (j + 1)).map Entry.Rec = (l.take j).map Entry.Rec ++ [(nth l j).Rec] := by rw [take_nth hlt, List.map_append]; rfl
  have hg := getD_map (f := Entry.row false) hlt
  have hga : ∀ r, (((l.take j).map Entry.Rec).map (Rec.row false) ++ [r]).getD j [] = r := fun r => by
   have := getD_ma (f := Rec.row false) (l := (l.take j).map Entry.Rec) (r := r)
   rwa [hjl] at this
  try simp (disch := omega) only [go_sem, hE, hH, hjl, hjt, hg, hga, hb]
  repeat' (first | ((with_reducible first | refine gd_t ?_ ?_ | refine gd_f ?_ ?_) <;> (intro h; have hb := h; (try simp only [nf] at h); simp (disch := omega) only [go_sem, hE, hH, hjl, hjt, hg, hga, hb]; (try clear hb))) | ((with_reducible refine And.intro ?_ ?_); · omega) | (with_reducible apply jn) | (with_reducible apply both) | (with_reducible refine And.intro ?_ ?_) | ((with_reducible apply fin_eq); (try (simp (disch := omega) only [go_sem, hE, hH, hjl, hjt, hg, hga])); first | done | rfl) | (simp (disch := omega) only [go_sem, hE, hH, hjl, hjt, hg, hga]) | ((first | apply noMLL_sE | apply pk_sE) <;> (simp only [go_sem, hE, hH, hjl, hjt, hg, hga]; done)) | (simp only [go_sem, hE, hH, hjl, hjt, hg, hga]) | fail)
  repeat' (first | (refine both ?_ ?_) | omega | ((first | apply noMLL_sE | apply pk_sE) <;> (simp only [go_sem, hE, hH]; done)) | fail)
  refine ⟨(), ?_⟩
  rw [hs, List.map_append]
  rfl
 ·try simp (disch := omega) only [go_sem, hE, hH, h]
  simp only [nf] at h
  have hjl : j = l.length := by omega
  rw [hjl, List.take_length]
  have hl2 : (l.map Entry.Rec).length = l.length := List.length_map _
  have hd : denS l = stateL (l.map Entry.Rec) := rfl
  rw [hd]
  try simp (disch := omega) only [go_sem, hE, hH]
  repeat' (first | ((with_reducible first | refine gd_t ?_ ?_ | refine gd_f ?_ ?_) <;> (intro h; have hb := h; (try simp only [nf] at h); simp (disch := omega) only [go_sem, hE, hH, hl2, hb]; (try clear hb))) | ((with_reducible refine And.intro ?_ ?_); · omega) | ((first | refine ok_view ?_ | refine cvA (cO) ?_); simp (disch := omega) only [go_sem, hE, hH, hl2]) | (with_reducible apply jn) | (with_reducible apply both) | (with_reducible refine And.intro ?_ ?_) | ((with_reducible apply fin_eq); (try (simp (disch := omega) only [go_sem, hE, hH, hl2])); first | done | rfl) | (simp (disch := omega) only [go_sem, hE, hH, hl2]) | ((first | apply noMLL_sE | apply pk_sE) <;> (simp only [go_sem, hE, hH, hl2]; done)) | (simp only [go_sem, hE, hH, hl2]) | fail)
theorem l16Means_ok (log : List Entry) (n : Nat) (hln : n ≤ log.length) (hmx0 : log.length ≤ maxLen) (l : List Entry) (hle : l = log.take n) (hl : ∀ e ∈ l, recOk e.Rec = true) (hn : l.length ≤ 60) : ACall Tryz.prog 68 [.sl false 8 (log.map (Entry.row false)), i64 n] (fun x _ => x = .agg (State.row false (denS l))) := by
 have hmx := mx_eq
 have cO := l13Of_ok (l.map Entry.Rec) (fun r h => by obtain ⟨e, he, rfl⟩ := List.mem_map.1 h; exact hl e he) (by rw [List.length_map]; exact hn)
 have hll : l.length = n := by rw [hle, List.length_take]; omega
 refine fi H68 fun E hE hH => ?_; simp only [go_sem] at hE hH; simp only [go_sem, hE, hH, C68]
 try simp (disch := omega) only [go_sem, hE, hH]
 repeat' (first | ((with_reducible first | refine gd_t ?_ ?_ | refine gd_f ?_ ?_) <;> (intro h; have hb := h; (try simp only [nf] at h); refine sb ?_; (try clear hb))) | ((with_reducible refine And.intro ?_ ?_); · omega) | (with_reducible apply jn) | (with_reducible apply both) | (with_reducible refine And.intro ?_ ?_) | exact fj | refine st ?_ | exact fm | refine s1 ?_ | (with_reducible exact True.intro) | fail)
 refine loopNe l.length (fun j (_ : Unit) => ⟨[(4, .ptr 5000000 0 0), (5, .ref 6000000 0 j), (12, .sl false 8 (l.map (Entry.row false))), (13, i64 l.length), (14, i64 j)], [(5000000, ⟨4, [[i64 0, nils, nils, nils]]⟩), (6000000, ⟨7, ((l.take j).map Entry.Rec).map (Rec.row false)⟩)]⟩) (fun _ _ => True) () (by rw [hle, List.map_take, List.length_take, Nat.min_eq_left hln]; rfl) trivial ?_
 intro j x hj hI
 try simp only [go_sem, hE, hH, C68_l1]
 first | refine gd_t (fun h => ?_) (fun h => ?_) | refine gd_f (fun h => ?_) (fun h => ?_)
 ·have hb := h
  simp only [nf] at h
  have hlt : j < l.length := by omega
  have hjl : ((l.take j).map Entry.Rec).length = j := by simp; omega
  have hjt : (l.take j).take j = l.take j := by rw [List.take_take, Nat.min_self]
  have hs : (l.take (j + 1)).map Entry.Rec = (l.take j).map Entry.Rec ++ [(nth l j).Rec] := by rw [take_nth hlt, List.map_append]; rfl
  have hg := getD_map (f := Entry.row false) hlt
  have hga : ∀ r, (((l.take j).map Entry.Rec).map (Rec.row false) ++ [r]).getD j [] = r := fun r => by
   have := getD_ma (f := Rec.row false) (l := (l.take j).map Entry.Rec) (r := r)
   rwa [hjl] at this
  try simp (disch := omega) only [go_sem, hE, hH, hjl, hjt, hg, hga, hb]
  repeat' (first | ((with_reducible first | refine gd_t ?_ ?_ | refine gd_f ?_ ?_) <;> (intro h; have hb := h; (try simp only [nf] at h); simp (disch := omega) only [go_sem, hE, hH, hjl, hjt, hg, hga, hb]; (try clear hb))) | ((with_reducible refine And.intro ?_ ?_); · omega) | (with_reducible apply jn) | (with_reducible apply both) | (with_reducible refine And.intro ?_ ?_) | ((with_reducible apply fin_eq); (try (simp (disch := omega) only [go_sem, hE, hH, hjl, hjt, hg, hga])); first | done | rfl) | (simp (disch := omega) only [go_sem, hE, hH, hjl, hjt, hg, hga]) | ((first | apply noMLL_sE | apply pk_sE) <;> (simp only [go_sem, hE, hH, hjl, hjt, hg, hga]; done)) | (simp only [go_sem, hE, hH, hjl, hjt, hg, hga]) | fail)
  repeat' (first | (refine both ?_ ?_) | omega | ((first | apply noMLL_sE | apply pk_sE) <;> (simp only [go_sem, hE, hH]; done)) | fail)
  refine ⟨(), ?_⟩
  rw [hs, List.map_append]
  rfl
 ·try simp (disch := omega) only [go_sem, hE, hH, h]
  simp only [nf] at h
  have hjl : j = l.length := by omega
  rw [hjl, List.take_length]
  have hl2 : (l.map Entry.Rec).length = l.length := List.length_map _
  have hd : denS l = stateL (l.map Entry.Rec) := rfl
  rw [hd]
  have cO2 : ACall Tryz.prog 113 [.sl true 7 ((l.map Entry.Rec).map (Rec.row false))] (fun x a => x = .tup [.agg (State.row false (stateL (l.map Entry.Rec))), .sl true 1 ((doneL (l.map Entry.Rec) (l.map Entry.Rec).length).map (fun b => [bl b]))] ∧ a = [.any]) := frz_eq cO (by simp only [go_sem]; rfl) rfl
  try simp (disch := omega) only [go_sem, hE, hH]
  repeat' (first | ((with_reducible first | refine gd_t ?_ ?_ | refine gd_f ?_ ?_) <;> (intro h; have hb := h; (try simp only [nf] at h); simp (disch := omega) only [go_sem, hE, hH, hl2, hb]; (try clear hb))) | ((with_reducible refine And.intro ?_ ?_); · omega) | (refine ok_lend [true] ?_; simp (disch := omega) only [go_sem, hE, hH, hl2]; refine cmA (cO2) ?_; simp (disch := omega) only [go_sem, hE, hH, hl2]) | (with_reducible apply jn) | (with_reducible apply both) | (with_reducible refine And.intro ?_ ?_) | ((with_reducible apply fin_eq); (try (simp (disch := omega) only [go_sem, hE, hH, hl2])); first | done | rfl) | (simp (disch := omega) only [go_sem, hE, hH, hl2]) | ((first | apply noMLL_sE | apply pk_sE) <;> (simp only [go_sem, hE, hH, hl2]; done)) | (simp only [go_sem, hE, hH, hl2]) | fail)
structure repG (r : Replica) : Prop where
 s0 : 0 ≤ r.Sure
 s1 : r.Sure ≤ r.Log.length
 len : r.Log.length ≤ 60
 good : ∀ e ∈ r.Log, recOk e.Rec = true
theorem repOk_g {t : Int} {r : Replica} (h : repOk t r = true) : repG r := by
 simp only [repOk, logOk, Bool.and_eq_true, decide_eq_true_eq] at h
 obtain ⟨⟨h1, h2⟩, h3⟩ := h
 have h3 := rng_iff.1 h3
 refine ⟨h3.1, h3.2, by omega, fun e he => ?_⟩
 obtain ⟨i, hi, rfl⟩ := List.getElem_of_mem he
 have := allN_iff.1 h1 i hi
 simp only [entOk, Bool.and_eq_true] at this
 rw [← nth_lt hi]
 exact this.1.2
theorem grpOk_g {g : Group} (h : grpOk g = true) : 3 ≤ g.Reps.length ∧ g.Reps.length ≤ 5 ∧ ∀ r ∈ g.Reps, repG r := by
 simp only [grpOk, Bool.and_eq_true, Bool.or_eq_true, decide_eq_true_eq, List.all_eq_true] at h
 obtain ⟨⟨⟨h1, _⟩, _⟩, h4⟩ := h
 exact ⟨by omega, by omega, fun r hr => repOk_g (h4 r hr)⟩
def repS (r : Replica) : State := denS (r.Log.take r.Sure.toNat)
theorem repG_take {r : Replica} (h : repG r) : (∀ e ∈ r.Log.take r.Sure.toNat, recOk e.Rec = true) ∧ (r.Log.take r.Sure.toNat).length ≤ 60 := by
 refine ⟨fun e he => h.good e (List.mem_of_mem_take he), ?_⟩
 have := h.len
 rw [List.length_take]; omega
def bestN (g : Group) : Nat → Nat
 | 0 => 0
 | j + 1 => if (nth g.Reps (bestN g j)).Sure < (nth g.Reps j).Sure then j else bestN g j
theorem bestN_lt {g : Group} (h : 0 < g.Reps.length) : ∀ j, j ≤ g.Reps.length → bestN g j < g.Reps.length
 | 0, _ => h
 | j + 1, hj => by
  rw [bestN]
  split
  ·omega
  ·exact bestN_lt h j (by omega)
def sureS (g : Group) : State := repS (nth g.Reps (bestN g g.Reps.length))
theorem most_ok (g : Group) (h0 : 0 < g.Reps.length) (h1 : g.Reps.length ≤ 2 ^ 20) : ACall Tryz.prog 90 [.agg (Group.row false g)] (fun x _ => x = .agg (Replica.row false (nth g.Reps (bestN g g.Reps.length)))) := by
 have hmx := mx_eq
 refine fi H90 fun E hE hH => ?_; simp only [go_sem] at hE hH; simp only [go_sem, hE, hH, C90]
 try simp (disch := omega) only [go_sem, hE, hH]
 repeat' (first | ((with_reducible first | refine gd_t ?_ ?_ | refine gd_f ?_ ?_) <;> (intro h; have hb := h; (try simp only [nf] at h); refine sb ?_; (try clear hb))) | ((with_reducible refine And.intro ?_ ?_); · omega) | (with_reducible apply jn) | (with_reducible apply both) | (with_reducible refine And.intro ?_ ?_) | exact fj | refine st ?_ | exact fm | refine s1 ?_ | (with_reducible exact True.intro) | fail)
 refine loopNe g.Reps.length (fun j (_ : Unit) => ⟨[(2, .ptr 3000000 0 0), (3, .ptr 4000000 0 0), (11, .sl false 3 (g.Reps.map (Replica.row false))), (12, i64 g.Reps.length), (13, i64 j)], [(3000000, ⟨3, [[bl false, nils, i64 0]]⟩), (4000000, ⟨3, [Replica.row false (nth g.Reps (bestN g j))]⟩)]⟩) (fun _ _ => True) () rfl trivial ?_
 intro j _ hj _
 try simp only [go_sem, hE, hH, C90_l1]
 first | refine gd_t (fun h => ?_) (fun h => ?_) | refine gd_f (fun h => ?_) (fun h => ?_)
 ·have hb := h
  simp only [nf] at h
  have hlt : j < g.Reps.length := by omega
  try simp (disch := omega) only [go_sem, hE, hH, hb]
  repeat' (first | ((with_reducible first | refine gd_t ?_ ?_ | refine gd_f ?_ ?_) <;> (intro h; have hb := h; (try simp only [nf] at h); refine sb ?_; (try clear hb))) | ((with_reducible refine And.intro ?_ ?_); · omega) | (with_reducible apply jn) | (with_reducible apply both) | (with_reducible refine And.intro ?_ ?_) | exact fj | refine st ?_ | exact fm | refine s1 ?_ | (with_reducible exact True.intro) | fail)
  all_goals (
   refine ⟨(), ?_⟩
   rw [bestN]
   split <;> first | rfl | (exfalso; omega))
 ·try simp (disch := omega) only [go_sem, hE, hH, h]
  simp only [nf] at h
  have hjl : j = g.Reps.length := by omega
  rw [hjl]
  exact ⟨rfl, rfl, rfl⟩
theorem sureState_ok (hS : SortNe) (g : Group) (hg : grpOk g = true) : ACall Tryz.prog 40 [.agg (Group.row false g)] (fun x _ => x = .agg (State.row true (sureS g))) := by
 have hmx := mx_eq
 obtain ⟨h3, h5, hr⟩ := grpOk_g hg
 have hb := hr _ (nth_mem (bestN_lt (g := g) (by omega) g.Reps.length (Nat.le_refl _)))
 obtain ⟨q1, q2⟩ := repG_take hb
 refine fi H40 fun E hE hH => ?_; simp only [go_sem] at hE hH; simp only [go_sem, hE, hH, C40]
 repeat' (first | ((with_reducible first | refine gd_t ?_ ?_ | refine gd_f ?_ ?_) <;> (intro h; have hb := h; (try simp only [nf] at h); refine sb ?_; (try clear hb))) | ((with_reducible refine And.intro ?_ ?_); · omega) | ((first | refine ok_view ?_ | refine cvA (most_ok g (by omega) (by omega)) ?_ | refine cvA (sure_ok (nth g.Reps (bestN g g.Reps.length)) hb.s0 hb.s1) ?_ | refine cvA (denoted_ok hS _ q1 q2) ?_); refine st ?_) | (with_reducible apply jn) | (with_reducible apply both) | (with_reducible refine And.intro ?_ ?_) | exact fj | refine st ?_ | exact fm | refine s1 ?_ | (with_reducible exact True.intro) | fail)
 all_goals rfl
def repO (g : Group) (r : Int) : Option State := if grpOk g = true ∧ rng r 0 ((g.Reps.length : Int) - 1) = true then some (repS (nth g.Reps r.toNat)) else none
theorem replicaState_ok (hS : SortNe) (g : Group) (r : Int) (hw : grpW g) : ACall Tryz.prog 39 [.agg (Group.row false g), i64 r] (fun x _ => x = appR (repO g r)) := by
 have hmx := mx_eq
 have z1 : st0.Cells = [] := rfl
 have z2 : st0.Held = [] := rfl
 have z3 : st0.Told = [] := rfl
 have z4 : st0.Floor = 0 := rfl
 have c1 := GoodGroup_ok g hw
 have c2 := isRep_ok g r hw.1
 cases hg : grpOk g with
 | false =>
  rw [hg] at c1
  rw [show repO g r = none by rw [repO, hg]; simp, appR]
  refine fi H39 fun E hE hH => ?_; simp only [go_sem] at hE hH; simp only [go_sem, hE, hH, C39]
  try simp (disch := omega) only [go_sem, hE, hH]
  repeat' (first | ((with_reducible first | refine gd_t ?_ ?_ | refine gd_f ?_ ?_) <;> (intro h; have hb := h; (try simp only [nf] at h); simp (disch := omega) only [go_sem, hE, hH, z1, z2, z3, z4, hb]; (try clear hb))) | ((with_reducible refine And.intro ?_ ?_); · omega) | ((first | refine ok_view ?_ | refine cvA (c1) ?_); simp (disch := omega) only [go_sem, hE, hH, z1, z2, z3, z4]) | (with_reducible apply jn) | (with_reducible apply both) | (with_reducible refine And.intro ?_ ?_) | ((with_reducible apply fin_eq); (try (simp (disch := omega) only [go_sem, hE, hH, z1, z2, z3, z4])); first | done | rfl) | (simp (disch := omega) only [go_sem, hE, hH, z1, z2, z3, z4]) | ((first | apply noMLL_sE | apply pk_sE) <;> (simp only [go_sem, hE, hH, z1, z2, z3, z4]; done)) | (simp only [go_sem, hE, hH, z1, z2, z3, z4]) | fail)
  all_goals first | rfl
 | true =>
  rw [hg] at c1
  cases hr : rng r 0 ((g.Reps.length : Int) - 1) with
  | false =>
   rw [hr] at c2
   rw [show repO g r = none by rw [repO, hr]; simp, appR]
   refine fi H39 fun E hE hH => ?_; simp only [go_sem] at hE hH; simp only [go_sem, hE, hH, C39]
   try simp (disch := omega) only [go_sem, hE, hH]
   repeat' (first | ((with_reducible first | refine gd_t ?_ ?_ | refine gd_f ?_ ?_) <;> (intro h; have hb := h; (try simp only [nf] at h); simp (disch := omega) only [go_sem, hE, hH, z1, z2, z3, z4, hb]; (try clear hb))) | ((with_reducible refine And.intro ?_ ?_); · omega) | ((first | refine ok_view ?_ | refine cvA (c1) ?_ | refine cvA (c2) ?_); simp (disch := omega) only [go_sem, hE, hH, z1, z2, z3, z4]) | (with_reducible apply jn) | (with_reducible apply both) | (with_reducible refine And.intro ?_ ?_) | ((with_reducible apply fin_eq); (try (simp (disch := omega) only [go_sem, hE, hH, z1, z2, z3, z4])); first | done | rfl) | (simp (disch := omega) only [go_sem, hE, hH, z1, z2, z3, z4]) | ((first | apply noMLL_sE | apply pk_sE) <;> (simp only [go_sem, hE, hH, z1, z2, z3, z4]; done)) | (simp only [go_sem, hE, hH, z1, z2, z3, z4]) | fail)
   all_goals first | rfl
  | true =>
   rw [hr] at c2
   rw [show repO g r = some (repS (nth g.Reps r.toNat)) by rw [repO, hg, hr]; rfl, appR]
   have hr' := rng_iff.1 hr
   have hlt : r.toNat < g.Reps.length := by omega
   have hb := (grpOk_g hg).2.2 _ (nth_mem hlt)
   obtain ⟨q1, q2⟩ := repG_take hb
   obtain ⟨k, rfl⟩ : ∃ k : Nat, r = k := ⟨r.toNat, by omega⟩
   rw [Int.toNat_natCast] at *
   refine fi H39 fun E hE hH => ?_; simp only [go_sem] at hE hH; simp only [go_sem, hE, hH, C39]
   repeat' (first | ((with_reducible first | refine gd_t ?_ ?_ | refine gd_f ?_ ?_) <;> (intro h; have hb := h; (try simp only [nf] at h); refine sb ?_; (try clear hb))) | ((with_reducible refine And.intro ?_ ?_); · omega) | ((first | refine ok_view ?_ | refine cvA (c1) ?_ | refine cvA (c2) ?_ | refine cvA (sure_ok (nth g.Reps k) hb.s0 hb.s1) ?_ | refine cvA (denoted_ok hS _ q1 q2) ?_); refine st ?_) | (with_reducible apply jn) | (with_reducible apply both) | (with_reducible refine And.intro ?_ ?_) | exact fj | refine st ?_ | exact fm | refine s1 ?_ | (with_reducible exact True.intro) | fail)
   all_goals first | rfl
theorem repMeans_ok (r : Replica) (h : repG r) : ACall Tryz.prog 68 [.sl false 8 (r.Log.map (Entry.row false)), i64 r.Sure] (fun x _ => x = .agg (State.row false (repS r))) := by
 have hmx := mx_eq
 obtain ⟨q1, q2⟩ := repG_take h
 have h0 := h.s0
 have h1 := h.s1
 have hl := h.len
 have := l16Means_ok r.Log r.Sure.toNat (by omega) (by omega) _ rfl q1 q2
 rwa [Int.toNat_of_nonneg h0] at this
theorem l16Sure_ok (g : Group) (hg : grpOk g = true) : ACall Tryz.prog 28 [.agg (Group.row false g)] (fun x _ => x = .agg (State.row false (sureS g))) := by
 have hmx := mx_eq
 obtain ⟨h3, h5, hr⟩ := grpOk_g hg
 have hlb := bestN_lt (g := g) (by omega) g.Reps.length (Nat.le_refl _)
 have hb := hr _ (nth_mem hlb)
 refine fi H28 fun E hE hH => ?_; simp only [go_sem] at hE hH; simp only [go_sem, hE, hH, C28]
 try simp (disch := omega) only [go_sem, hE, hH]
 refine loopNe g.Reps.length (fun j (_ : Unit) => ⟨[(1, .ptr 2000000 0 0), (2, .ptr 3000000 0 0), (3, i64 (bestN g j)), (7, .sl false 3 (g.Reps.map (Replica.row false))), (8, i64 g.Reps.length), (9, i64 j)], [(2000000, ⟨3, [Group.row false g]⟩), (3000000, ⟨4, [[i64 0, nils, nils, nils]]⟩)]⟩) (fun _ _ => True) () rfl trivial ?_
 intro j _ hj _
 try simp only [go_sem, hE, hH, C28_l1]
 first | refine gd_t (fun h => ?_) (fun h => ?_) | refine gd_f (fun h => ?_) (fun h => ?_)
 ·have hb := h
  simp only [nf] at h
  have hlt : j < g.Reps.length := by omega
  have hlj := bestN_lt (g := g) (by omega) j hj
  try simp (disch := omega) only [go_sem, hE, hH, hb]
  repeat' (first | ((with_reducible first | refine gd_t ?_ ?_ | refine gd_f ?_ ?_) <;> (intro h; have hb := h; (try simp only [nf] at h); refine sb ?_; (try clear hb))) | ((with_reducible refine And.intro ?_ ?_); · omega) | (with_reducible apply jn) | (with_reducible apply both) | (with_reducible refine And.intro ?_ ?_) | exact fj | refine st ?_ | exact fm | refine s1 ?_ | (with_reducible exact True.intro) | fail)
  all_goals (
   refine ⟨(), ?_⟩
   rw [bestN]
   split <;> first | rfl | (exfalso; omega))
 ·try simp (disch := omega) only [go_sem, hE, hH, h]
  simp only [nf] at h
  have hjl : j = g.Reps.length := by omega
  rw [hjl]
  try simp (disch := omega) only [go_sem, hE, hH]
  repeat' (first | ((with_reducible first | refine gd_t ?_ ?_ | refine gd_f ?_ ?_) <;> (intro h; have hb := h; (try simp only [nf] at h); refine sb ?_; (try clear hb))) | ((with_reducible refine And.intro ?_ ?_); · omega) | ((first | refine ok_view ?_ | refine cvA (repMeans_ok _ hb) ?_); refine st ?_) | (with_reducible apply jn) | (with_reducible apply both) | (with_reducible refine And.intro ?_ ?_) | exact fj | refine st ?_ | exact fm | refine s1 ?_ | (with_reducible exact True.intro) | fail)
  all_goals first | rfl
theorem l17Knows_ok (g : Group) (k : Nat) (hg : grpOk g = true) (hk : k < g.Reps.length) : ACall Tryz.prog 29 [.agg (Group.row false g), i64 k] (fun x _ => x = .agg (State.row false (repS (nth g.Reps k)))) := by
 have hmx := mx_eq
 have hb := (grpOk_g hg).2.2 _ (nth_mem hk)
 have hgl := (grpOk_g hg).2.1
 refine fi H29 fun E hE hH => ?_; simp only [go_sem] at hE hH; simp only [go_sem, hE, hH, C29]
 repeat' (first | ((with_reducible first | refine gd_t ?_ ?_ | refine gd_f ?_ ?_) <;> (intro h; have hb := h; (try simp only [nf] at h); refine sb ?_; (try clear hb))) | ((with_reducible refine And.intro ?_ ?_); · omega) | ((first | refine ok_view ?_ | refine cvA (repMeans_ok _ hb) ?_); refine st ?_) | (with_reducible apply jn) | (with_reducible apply both) | (with_reducible refine And.intro ?_ ?_) | exact fj | refine st ?_ | exact fm | refine s1 ?_ | (with_reducible exact True.intro) | fail)
 all_goals first | rfl
theorem szL_bd2 {α : Type} {f : α → Nat} {C : Nat} : ∀ {l : List α}, (∀ x ∈ l, f x ≤ C) → szL f l ≤ (C + 1) * l.length
 | [], _ => by simp [szL]
 | x :: l, h => by
  have h1 := szL_bd2 (l := l) fun y hy => h y (List.mem_cons_of_mem _ hy)
  have h2 := h x List.mem_cons_self
  simp only [szL, List.map_cons, List.sum_cons, List.length_cons, Nat.mul_succ] at h1 ⊢
  omega
theorem risB_key {l : List ByteArray} (h : risB l = true) : ∀ x ∈ l, goodKey x = true := by
 intro x hx
 obtain ⟨i, hi, rfl⟩ := List.getElem_of_mem hx
 simp only [risB] at h
 have := allN_iff.1 h i hi
 simp only [Bool.and_eq_true, nth_lt hi] at this
 exact this.1
theorem stI.sz {n : Nat} {s : State} (h : stI n s) (hn : n ≤ 1000) : s.sz ≤ 2 ^ 20 := by
 have hc := goodCells_I h.cells
 have hl := hc.len
 have h1 : szL Cell.sz s.Cells ≤ (2000 + 1) * s.Cells.length := szL_bd2 fun c q => by
  have h2 := (hc.one c q).2
  have h3 := hc.wf c q
  have h4 : szL Ver.sz c.Vers ≤ (100 + 1) * c.Vers.length := szL_bd2 fun v hv => h3.2 v hv
  have h5 : (100 + 1) * c.Vers.length ≤ (100 + 1) * 16 := Nat.mul_le_mul_left _ (by omega)
  show c.Key.size + szL Ver.sz c.Vers ≤ 2000
  omega
 have h2 : szL Held.sz s.Held ≤ (2000 + 1) * s.Held.length := szL_bd2 fun x q => by
  have h3 := hldOk_lists (h.hok x q)
  have h4 : szL ByteArray.size x.Reads ≤ (100 + 1) * x.Reads.length := szL_bd2 fun v hv => by
   have := goodKey_size (risB_key h3.2.2.2.1 v hv); omega
  have h5 : szL Write.sz x.Writes ≤ (100 + 1) * x.Writes.length := szL_bd2 fun v hv => by
   obtain ⟨i, hi, rfl⟩ := List.getElem_of_mem hv
   have h6 := h3.2.2.1
   rw [goodWrites_eq] at h6
   simp only [Bool.and_eq_true, Bool.not_eq_true', List.any_eq_false] at h6
   have h7 := goodKey_size (risB_key h6.1.2 _ (List.mem_map.2 ⟨_, hv, rfl⟩))
   have h8 := h6.2 _ hv
   have h8 : stored (x.Writes[i]).Val (x.Writes[i]).Gone = true := by simpa using h8
   have := stored_size h8
   show (x.Writes[i]).Key.size + (x.Writes[i]).Val.size ≤ 100
   omega
  have h6 : (100 + 1) * x.Reads.length ≤ (100 + 1) * 8 := Nat.mul_le_mul_left _ (by omega)
  have h7 : (100 + 1) * x.Writes.length ≤ (100 + 1) * 8 := Nat.mul_le_mul_left _ (by omega)
  show szL ByteArray.size x.Reads + szL Write.sz x.Writes ≤ 2000
  omega
 have h3 := h.tlen
 have h4 := h.hlen
 have h5 : (2000 + 1) * s.Cells.length ≤ (2000 + 1) * 24 := Nat.mul_le_mul_left _ (by omega)
 have h6 : (2000 + 1) * s.Held.length ≤ (2000 + 1) * 12 := Nat.mul_le_mul_left _ (by omega)
 show szL Cell.sz s.Cells + szL Held.sz s.Held + s.Told.length ≤ 2 ^ 20
 omega
theorem worldOk_grp {w : World} (h : worldOk w = true) {j : Nat} (hj : j < w.Groups.length) : grpOk (nth w.Groups j) = true ∧ ((nth w.Groups j).Reps.length : Int) = 3 := by
 simp only [worldOk, Bool.and_eq_true] at h
 have h1 := h.1.1.1.1.1.1.1.1.2
 have := allN_iff.1 h1 j hj
 simp only [wGrpOk, Bool.and_eq_true, decide_eq_true_eq] at this
 exact this.1
theorem worldOk_len {w : World} (h : worldOk w = true) : 1 ≤ w.Groups.length ∧ w.Groups.length ≤ 3 ∧ w.Txns.length ≤ 6 ∧ w.Looks.length ≤ 4 := by
 have hh : worldHead w = true := by simp only [worldOk, Bool.and_eq_true] at h; exact h.1.1.1.1.1.1.1.1.1
 have h2 := worldHead_eq.1 hh
 simp only [worldOk, Bool.and_eq_true, decide_eq_true_eq] at h
 obtain ⟨a1, _, a3, _⟩ := h2
 refine ⟨by omega, by omega, ?_, ?_⟩
 ·have := h.1.1.1.1.2; omega
 ·have := h.1.1.1.2; omega
theorem recOk_time {r : Rec} (h : recOk r = true) : 0 ≤ r.Time ∧ r.Time ≤ 100000 := by
 simp only [recOk] at h
 split at h
 ·simp only [Bool.and_eq_true, rng_iff] at h; omega
 ·split at h
  ·simp only [Bool.and_eq_true, Bool.or_eq_true, rng_iff, decide_eq_true_eq] at h; omega
  ·split at h
   ·simp only [Bool.and_eq_true, rng_iff] at h; omega
   ·cases h
theorem appS_floor {s s' : State} {r : Rec} (h : appS s r = some s') (hs : 0 ≤ s.Floor ∧ s.Floor ≤ 100000) (hr : recOk r = true) : 0 ≤ s'.Floor ∧ s'.Floor ≤ 100000 := by
 have ht := recOk_time hr
 unfold appS at h
 split at h
 ·split at h
  ·cases h
  ·injection h with h; subst h; exact ht
 ·split at h
  ·cases h
  ·split at h
   ·unfold decS at h
    split at h
    ·split at h
     ·cases h
     ·rw [Option.map_eq_some_iff] at h
      obtain ⟨c, _, rfl⟩ := h
      show 0 ≤ max s.Floor r.Time ∧ max s.Floor r.Time ≤ 100000
      omega
    ·injection h with h; subst h; exact hs
   ·split at h
    ·cases h
    ·injection h with h; subst h; exact ht
theorem foldl_floor {l : List Rec} : ∀ {s : State}, (0 ≤ s.Floor ∧ s.Floor ≤ 100000) → (∀ r ∈ l, recOk r = true) → 0 ≤ (l.foldl stepS s).Floor ∧ (l.foldl stepS s).Floor ≤ 100000 := by
 induction l with
 | nil => intro s hs _; exact hs
 | cons r l ih =>
  intro s hs hr
  rw [List.foldl_cons]
  refine ih ?_ fun x hx => hr x (List.mem_cons_of_mem _ hx)
  unfold stepS
  cases e : appS s r with
  | none => exact hs
  | some s' => exact appS_floor e hs (hr r List.mem_cons_self)
theorem repS_floor {r : Replica} (h : repG r) : 0 ≤ (repS r).Floor ∧ (repS r).Floor ≤ 100000 := by
 obtain ⟨h1, h2⟩ := repG_take h
 refine foldl_floor (s := st0) (by decide) fun x hx => ?_
 obtain ⟨e, he, rfl⟩ := List.mem_map.1 hx
 exact h1 e he
theorem sureS_rep {g : Group} (h : grpOk g = true) : repG (nth g.Reps (bestN g g.Reps.length)) := by
 obtain ⟨h3, h5, hr⟩ := grpOk_g h
 exact hr _ (nth_mem (bestN_lt (g := g) (by omega) g.Reps.length (Nat.le_refl _)))
def staleO (w : World) (g r : Int) : Option Int := if (worldOk w && rng g 0 ((w.Groups.length : Int) - 1) && rng r 0 2) = true then some ((sureS (nth w.Groups g.toNat)).Floor - (repS (nth (nth w.Groups g.toNat).Reps r.toNat)).Floor) else none
def staleR (o : Option Int) : T := .tup [i64 (o.getD 0), bl o.isSome]
theorem staleR_no : staleR none = .tup [i64 0, bl false] := rfl
theorem staleR_yes (x : Int) : staleR (some x) = .tup [i64 x, bl true] := rfl
theorem worldOk_grpW {w : World} (hw : worldW w) {j : Nat} (hj : j < w.Groups.length) : grpW (nth w.Groups j) := hw.2.2 _ (nth_mem hj)
theorem StaleBy_ok (hS : SortNe) (w : World) (g r : Int) (hw : worldW w) : ACall Tryz.prog 10 [.agg (World.row false w), i64 g, i64 r] (fun x _ => x = staleR (staleO w g r)) := by
 have hmx := mx_eq
 have c1 := GoodWorld_ok w hw
 have c2 := within_ok g 0 ((w.Groups.length : Int) - 1)
 cases hg : worldOk w with
 | false =>
  rw [hg] at c1
  rw [show staleO w g r = none by rw [staleO, hg]; rfl, staleR_no]
  refine fi H10 fun E hE hH => ?_; simp only [go_sem] at hE hH; simp only [go_sem, hE, hH, C10]
  repeat' (first | ((with_reducible first | refine gd_t ?_ ?_ | refine gd_f ?_ ?_) <;> (intro h; have hb := h; (try simp only [nf] at h); refine sb ?_; (try clear hb))) | ((with_reducible refine And.intro ?_ ?_); · omega) | ((first | refine ok_view ?_ | refine cvA (c1) ?_); refine st ?_) | (with_reducible apply jn) | (with_reducible apply both) | (with_reducible refine And.intro ?_ ?_) | exact fj | refine st ?_ | exact fm | refine s1 ?_ | (with_reducible exact True.intro) | fail)
  all_goals first | rfl
 | true =>
  rw [hg] at c1
  obtain ⟨l1, l2, l3, l4⟩ := worldOk_len hg
  cases h2 : rng g 0 ((w.Groups.length : Int) - 1) with
  | false =>
   rw [h2] at c2
   rw [show staleO w g r = none by rw [staleO, hg, h2]; rfl, staleR_no]
   refine fi H10 fun E hE hH => ?_; simp only [go_sem] at hE hH; simp only [go_sem, hE, hH, C10]
   repeat' (first | ((with_reducible first | refine gd_t ?_ ?_ | refine gd_f ?_ ?_) <;> (intro h; have hb := h; (try simp only [nf] at h); refine sb ?_; (try clear hb))) | ((with_reducible refine And.intro ?_ ?_); · omega) | ((first | refine ok_view ?_ | refine cvA (c1) ?_ | refine cvA (c2) ?_); refine st ?_) | (with_reducible apply jn) | (with_reducible apply both) | (with_reducible refine And.intro ?_ ?_) | exact fj | refine st ?_ | exact fm | refine s1 ?_ | (with_reducible exact True.intro) | fail)
   all_goals first | rfl | omega
  | true =>
   rw [h2] at c2
   have h2' := rng_iff.1 h2
   obtain ⟨k, rfl⟩ : ∃ k : Nat, g = k := ⟨g.toNat, by omega⟩
   have hlt : k < w.Groups.length := by omega
   obtain ⟨hgo, hr3⟩ := worldOk_grp hg hlt
   have hsf := repS_floor (sureS_rep hgo)
   rw [show repS (nth (nth w.Groups k).Reps (bestN (nth w.Groups k) (nth w.Groups k).Reps.length)) = sureS (nth w.Groups k) from rfl] at hsf
   have c3 := replicaState_ok hS (nth w.Groups k) r (worldOk_grpW hw hlt)
   have z1 : st0.Cells = [] := rfl
   have z2 : st0.Held = [] := rfl
   have z3 : st0.Told = [] := rfl
   have z4 : st0.Floor = 0 := rfl
   cases h3 : rng r 0 2 with
   | false =>
    have hO : repO (nth w.Groups k) r = none := by rw [repO, if_neg]; rintro ⟨-, q⟩; rw [hr3] at q; rw [show (3 : Int) - 1 = 2 from rfl, h3] at q; cases q
    rw [hO, appR] at c3
    rw [show staleO w k r = none by rw [staleO, hg, h2, h3]; rfl, staleR_no]
    refine fi H10 fun E hE hH => ?_; simp only [go_sem] at hE hH; simp only [go_sem, hE, hH, C10]
    repeat' (first | ((with_reducible first | refine gd_t ?_ ?_ | refine gd_f ?_ ?_) <;> (intro h; have hb := h; (try simp only [nf] at h); simp (disch := omega) only [go_sem, hE, hH, z1, z2, z3, z4, hb]; (try clear hb))) | ((with_reducible refine And.intro ?_ ?_); · omega) | ((first | refine ok_view ?_ | refine cvA (c1) ?_ | refine cvA (c2) ?_ | refine cvA (c3) ?_); simp (disch := omega) only [go_sem, hE, hH, z1, z2, z3, z4]) | (with_reducible apply jn) | (with_reducible apply both) | (with_reducible refine And.intro ?_ ?_) | ((with_reducible apply fin_eq); (try (simp (disch := omega) only [go_sem, hE, hH, z1, z2, z3, z4])); first | done | rfl) | (simp (disch := omega) only [go_sem, hE, hH, z1, z2, z3, z4]) | ((first | apply noMLL_sE | apply pk_sE) <;> (simp only [go_sem, hE, hH, z1, z2, z3, z4]; done)) | (simp only [go_sem, hE, hH, z1, z2, z3, z4]) | fail)
    all_goals first | rfl | omega
   | true =>
    have h3' := rng_iff.1 h3
    have hO : repO (nth w.Groups k) r = some (repS (nth (nth w.Groups k).Reps r.toNat)) := by rw [repO, if_pos ⟨hgo, by rw [hr3]; exact h3⟩]
    have hrf := repS_floor ((grpOk_g hgo).2.2 _ (nth_mem (show r.toNat < (nth w.Groups k).Reps.length by omega)))
    rw [hO, appR] at c3
    rw [show staleO w k r = some ((sureS (nth w.Groups k)).Floor - (repS (nth (nth w.Groups k).Reps r.toNat)).Floor) by rw [staleO, hg, h2, h3]; rfl, staleR_yes]
    generalize repS (nth (nth w.Groups k).Reps r.toNat) = s at *
    have c4 := sureState_ok hS _ hgo
    generalize sureS (nth w.Groups k) = s2 at *
    refine fi H10 fun E hE hH => ?_; simp only [go_sem] at hE hH; simp only [go_sem, hE, hH, C10]
    repeat' (first | ((with_reducible first | refine gd_t ?_ ?_ | refine gd_f ?_ ?_) <;> (intro h; have hb := h; (try simp only [nf] at h); refine sb ?_; (try clear hb))) | ((with_reducible refine And.intro ?_ ?_); · omega) | ((first | refine ok_view ?_ | refine cvA (c1) ?_ | refine cvA (c2) ?_ | refine cvA (c3) ?_ | refine cvA (c4) ?_); refine st ?_) | (with_reducible apply jn) | (with_reducible apply both) | (with_reducible refine And.intro ?_ ?_) | exact fj | refine st ?_ | exact fm | refine s1 ?_ | (with_reducible exact True.intro) | fail)
    all_goals first | rfl | omega
theorem sStaleBy_ok (w : World) (g r : Int) (hw : worldW w) : ACall Tryz.prog 8 [.agg (World.row false w), i64 g, i64 r] (fun x _ => x = staleR (staleO w g r)) := by
 have hmx := mx_eq
 have c1 := l16Good_ok w hw
 have c2 := l1In_ok g 0 ((w.Groups.length : Int) - 1)
 have c3 := l1In_ok r 0 2
 cases hg : worldOk w with
 | false =>
  rw [hg] at c1
  rw [show staleO w g r = none by rw [staleO, hg]; rfl, staleR_no]
  refine fi H8 fun E hE hH => ?_; simp only [go_sem] at hE hH; simp only [go_sem, hE, hH, C8]
  repeat' (first | ((with_reducible first | refine gd_t ?_ ?_ | refine gd_f ?_ ?_) <;> (intro h; have hb := h; (try simp only [nf] at h); refine sb ?_; (try clear hb))) | ((with_reducible refine And.intro ?_ ?_); · omega) | ((first | refine ok_view ?_ | refine cvA (c1) ?_); refine st ?_) | (with_reducible apply jn) | (with_reducible apply both) | (with_reducible refine And.intro ?_ ?_) | exact fj | refine st ?_ | exact fm | refine s1 ?_ | (with_reducible exact True.intro) | fail)
  all_goals first | rfl
 | true =>
  rw [hg] at c1
  obtain ⟨l1, l2, l3, l4⟩ := worldOk_len hg
  cases h2 : rng g 0 ((w.Groups.length : Int) - 1) with
  | false =>
   rw [h2] at c2
   rw [show staleO w g r = none by rw [staleO, hg, h2]; rfl, staleR_no]
   refine fi H8 fun E hE hH => ?_; simp only [go_sem] at hE hH; simp only [go_sem, hE, hH, C8]
   repeat' (first | ((with_reducible first | refine gd_t ?_ ?_ | refine gd_f ?_ ?_) <;> (intro h; have hb := h; (try simp only [nf] at h); refine sb ?_; (try clear hb))) | ((with_reducible refine And.intro ?_ ?_); · omega) | ((first | refine ok_view ?_ | refine cvA (c1) ?_ | refine cvA (c2) ?_); refine st ?_) | (with_reducible apply jn) | (with_reducible apply both) | (with_reducible refine And.intro ?_ ?_) | exact fj | refine st ?_ | exact fm | refine s1 ?_ | (with_reducible exact True.intro) | fail)
   all_goals first | rfl | omega
  | true =>
   rw [h2] at c2
   cases h3 : rng r 0 2 with
   | false =>
    rw [h3] at c3
    rw [show staleO w g r = none by rw [staleO, hg, h2, h3]; rfl, staleR_no]
    refine fi H8 fun E hE hH => ?_; simp only [go_sem] at hE hH; simp only [go_sem, hE, hH, C8]
    repeat' (first | ((with_reducible first | refine gd_t ?_ ?_ | refine gd_f ?_ ?_) <;> (intro h; have hb := h; (try simp only [nf] at h); refine sb ?_; (try clear hb))) | ((with_reducible refine And.intro ?_ ?_); · omega) | ((first | refine ok_view ?_ | refine cvA (c1) ?_ | refine cvA (c2) ?_ | refine cvA (c3) ?_); refine st ?_) | (with_reducible apply jn) | (with_reducible apply both) | (with_reducible refine And.intro ?_ ?_) | exact fj | refine st ?_ | exact fm | refine s1 ?_ | (with_reducible exact True.intro) | fail)
    all_goals first | rfl | omega
   | true =>
    rw [h3] at c3
    have h2' := rng_iff.1 h2
    have h3' := rng_iff.1 h3
    rw [show staleO w g r = some ((sureS (nth w.Groups g.toNat)).Floor - (repS (nth (nth w.Groups g.toNat).Reps r.toNat)).Floor) by rw [staleO, hg, h2, h3]; rfl, staleR_yes]
    obtain ⟨k, rfl⟩ : ∃ k : Nat, g = k := ⟨g.toNat, by omega⟩
    obtain ⟨m, rfl⟩ : ∃ m : Nat, r = m := ⟨r.toNat, by omega⟩
    have hlt : k < w.Groups.length := by omega
    obtain ⟨hgo, hr3⟩ := worldOk_grp hg hlt
    rw [Int.toNat_natCast, Int.toNat_natCast]
    have hsf := repS_floor (sureS_rep hgo)
    rw [show repS (nth (nth w.Groups k).Reps (bestN (nth w.Groups k) (nth w.Groups k).Reps.length)) = sureS (nth w.Groups k) from rfl] at hsf
    have hrf := repS_floor ((grpOk_g hgo).2.2 _ (nth_mem (show m < (nth w.Groups k).Reps.length by omega)))
    have c4 := l16Sure_ok _ hgo
    have c5 := l17Knows_ok (nth w.Groups k) m hgo (by omega)
    generalize repS (nth (nth w.Groups k).Reps m) = s at *
    generalize sureS (nth w.Groups k) = s2 at *
    refine fi H8 fun E hE hH => ?_; simp only [go_sem] at hE hH; simp only [go_sem, hE, hH, C8]
    repeat' (first | ((with_reducible first | refine gd_t ?_ ?_ | refine gd_f ?_ ?_) <;> (intro h; have hb := h; (try simp only [nf] at h); refine sb ?_; (try clear hb))) | ((with_reducible refine And.intro ?_ ?_); · omega) | ((first | refine ok_view ?_ | refine cvA (c1) ?_ | refine cvA (c2) ?_ | refine cvA (c3) ?_ | refine cvA (c4) ?_ | refine cvA (c5) ?_); refine st ?_) | (with_reducible apply jn) | (with_reducible apply both) | (with_reducible refine And.intro ?_ ?_) | exact fj | refine st ?_ | exact fm | refine s1 ?_ | (with_reducible exact True.intro) | fail)
    all_goals first | rfl | omega
theorem FnExactStaleBy_ok (hS : SortNe) (vW : World) (vG : Int) (vR : Int) (wW : vW.wf) (wG : -9223372036854775808 ≤ vG ∧ vG ≤ 9223372036854775807) (wR : -9223372036854775808 ≤ vR ∧ vR ≤ 9223372036854775807) : ACall Tryz.prog 3 [.agg (World.row false vW), i64 vG, i64 vR] (fun r _ => r = bl true) := by
 have hmx := mx_eq
 have lW : vW.lim := World.lim_of wW
 refine fi H3 fun E hE hH => ?_; simp only [go_sem] at hE hH; simp only [go_sem, hE, hH, C3]
 refine ok_view ?_; simp (disch := omega) only [go_sem, hE, hH]; refine cvA (szWorld_ok vW _ (by decide) (by decide) wW) ?_
 refine aftV_intro ?_
 rintro r l ⟨n1, rfl, hn1, hsz1⟩
 try simp (disch := omega) only [go_sem, hE, hH]
 first | refine gd_t (fun h1 => ?_) (fun h1 => ?_) | refine gd_f (fun h1 => ?_) (fun h1 => ?_)
 ·try simp (disch := omega) only [go_sem, hE, hH, h1]
 have hb1 := h1
 simp only [nf] at h1
 try simp (disch := omega) only [go_sem, hE, hH, hb1]
 have sW : vW.sz ≤ 2 ^ 20 := by have := hsz1 h1; omega
 have hp := worldW_of wW sW
 have c1 := StaleBy_ok hS vW vG vR hp
 have c2 := sStaleBy_ok vW vG vR hp
 simp only [staleR] at c1 c2
 generalize staleO vW vG vR = o at *
 generalize o.getD 0 = x at *
 generalize o.isSome = b at *
 repeat' (first | ((with_reducible first | refine gd_t ?_ ?_ | refine gd_f ?_ ?_) <;> (intro h; have hb := h; (try simp only [nf] at h); refine sb ?_; (try clear hb))) | ((with_reducible refine And.intro ?_ ?_); · omega) | ((first | refine ok_view ?_ | refine cvA (toWorld_ok vW sW) ?_ | refine cvA (c1) ?_ | refine cvA (c2) ?_ | refine cvA (eqWorld_ok vW vW lW) ?_); refine st ?_) | (with_reducible apply jn) | (with_reducible apply both) | (with_reducible refine And.intro ?_ ?_) | exact fj | refine st ?_ | exact fm | refine s1 ?_ | (with_reducible exact True.intro) | fail)
 all_goals first | rfl | omega
end Go.Proofs.Wb

import Derived.Test.YtlcebphcohneaaaGreatFnExactReplicaLookN8
import Derived.Laws.Externs
set_option linter.unusedSimpArgs false
set_option linter.unusedVariables false
set_option linter.unusedSectionVars false
namespace Go.Proofs.Wb
open Go Go.Am
def doneL (l : List Rec) (j : Nat) : List Bool := (List.range j).map fun i => (appS (stateL (l.take i)) (nth l i)).isSome
theorem doneL_len (l : List Rec) (j : Nat) : (doneL l j).length = j := by simp [doneL]
theorem doneL_succ (l : List Rec) (j : Nat) : doneL l (j + 1) = doneL l j ++ [(appS (stateL (l.take j)) (nth l j)).isSome] := by simp [doneL, List.range_succ]
theorem stateL_succ {l : List Rec} {j : Nat} (h : j < l.length) : stateL (l.take (j + 1)) = stepS (stateL (l.take j)) (nth l j) := by
 rw [take_nth h, stateL, List.foldl_append]; rfl
theorem stateL_takeI {l : List Rec} (hl : ∀ r ∈ l, recOk r = true) (j : Nat) (hj : j ≤ l.length) : stI j (stateL (l.take j)) := by
 have := stateL_I (l := l.take j) fun r h => hl r (List.mem_of_mem_take h)
 rwa [List.length_take, Nat.min_eq_left hj] at this
def soF (l : List Rec) (j : Nat) : Option State → St
 | none => ⟨[(2, .ptr 3000000 0 0), (4, .ptr 5000000 0 0), (5, .ref 6000000 0 j), (12, .sl false 7 (l.map (Rec.row false))), (13, i64 l.length), (14, i64 j)], [(3000000, ⟨4, [[i64 0, nils, nils, nils]]⟩), (5000000, ⟨4, [[i64 0, nils, nils, nils]]⟩), (6000000, ⟨1, (doneL l j).map (fun b => [bl b])⟩)]⟩
 | some s => ⟨[(2, .ptr 3000000 0 0), (4, .ptr 5000000 0 0), (5, .ref 6000000 0 j), (12, .sl false 7 (l.map (Rec.row false))), (13, i64 l.length), (14, i64 j)], [(3000000, ⟨4, [[i64 0, nils, nils, nils]]⟩), (5000000, ⟨4, [[i64 s.Floor, .ref 5000002 0 s.Cells.length, .ref 5000003 0 s.Held.length, .ref 5000004 0 s.Told.length]]⟩), (5000002, ⟨2, s.Cells.map (Cell.row true)⟩), (5000003, ⟨5, s.Held.map (Held.row true)⟩), (5000004, ⟨3, s.Told.map (Told.row true)⟩), (6000000, ⟨1, (doneL l j).map (fun b => [bl b])⟩)]⟩
set_option maxHeartbeats 2000000 in
theorem stateOf_ok (hS : SortNe) (l : List Rec) (hl : ∀ r ∈ l, recOk r = true) (hn : l.length ≤ 60) : ACall Tryz.prog 57 [.sl false 7 (l.map (Rec.row false))] (fun x _ => x = .tup [.agg (State.row true (stateL l)), .sl true 1 ((doneL l l.length).map (fun b => [bl b]))]) := by
 have hmx := mx_eq
 refine fi H57 fun E hE hH => ?_; simp only [go_sem] at hE hH; simp only [go_sem, hE, hH, C57]
 try simp (disch := omega) only [go_sem, hE, hH]
 refine loopNe l.length (fun j x => soF l j x) (fun j x => x.getD st0 = stateL (l.take j)) none rfl rfl ?_
 intro j x hj hI
 have z1 : st0.Cells = [] := rfl
 have z2 : st0.Held = [] := rfl
 have z3 : st0.Told = [] := rfl
 have z4 : st0.Floor = 0 := rfl
 have hSI := stateL_takeI hl j hj
 rw [← hI] at hSI
 cases x with
 | none =>
  try simp only [go_sem, hE, hH, C57_l1, soF]
  first | refine gd_t (fun h => ?_) (fun h => ?_) | refine gd_f (fun h => ?_) (fun h => ?_)
  ·have hb := h
   simp only [nf] at h
   have hlt : j < l.length := by omega
   have cA := applied_ok hS st0 (nth l j) hSI (by omega) (hl _ (nth_mem hlt))
   have hst : stateL (l.take (j + 1)) = stepS st0 (nth l j) := by rw [stateL_succ hlt, ← hI]; rfl
   have hdn : doneL l (j + 1) = doneL l j ++ [(appS st0 (nth l j)).isSome] := by rw [doneL_succ, ← hI]; rfl
   have hdl := doneL_len l j
   have hdt : (doneL l j).take j = doneL l j := by rw [List.take_of_length_le (by omega)]
   cases hA : appS st0 (nth l j) with
   | none =>
    rw [hA, appR] at cA
    rw [hA] at hdn
    try simp (disch := omega) only [go_sem, hE, hH, hb]
    repeat' (first | ((with_reducible first | refine gd_t ?_ ?_ | refine gd_f ?_ ?_) <;> (intro h; have hb := h; (try simp only [nf] at h); simp (disch := omega) only [go_sem, hE, hH, hdl, hdt, z1, z2, z3, z4, hb]; (try clear hb))) | ((with_reducible refine And.intro ?_ ?_); · omega) | ((first | refine ok_view ?_ | refine cvAn (cA) ?_); simp (disch := omega) only [go_sem, hE, hH, hdl, hdt, z1, z2, z3, z4]) | (with_reducible apply jn) | (with_reducible apply both) | (with_reducible refine And.intro ?_ ?_) | ((with_reducible apply fin_eq); (try (simp (disch := omega) only [go_sem, hE, hH, hdl, hdt, z1, z2, z3, z4])); first | done | rfl) | (simp (disch := omega) only [go_sem, hE, hH, hdl, hdt, z1, z2, z3, z4]) | ((first | apply noMLL_sE | apply pk_sE) <;> (simp only [go_sem, hE, hH, hdl, hdt, z1, z2, z3, z4]; done)) | (simp only [go_sem, hE, hH, hdl, hdt, z1, z2, z3, z4]) | fail)
    all_goals try first | omega | rfl
    all_goals (
     refine ⟨none, ?_, by (first | (rw [hst, stepS, hA]; done) | (rw [hst, stepS, hA]; rfl))⟩
     rw [hdn, List.map_append]
     rfl)
   | some s' =>
    rw [hA, appR] at cA
    rw [hA] at hdn
    try simp (disch := omega) only [go_sem, hE, hH, hb]
    repeat' (first | ((with_reducible first | refine gd_t ?_ ?_ | refine gd_f ?_ ?_) <;> (intro h; have hb := h; (try simp only [nf] at h); simp (disch := omega) only [go_sem, hE, hH, hdl, hdt, z1, z2, z3, z4, hb]; (try clear hb))) | ((with_reducible refine And.intro ?_ ?_); · omega) | ((first | refine ok_view ?_ | refine cvAn (cA) ?_); simp (disch := omega) only [go_sem, hE, hH, hdl, hdt, z1, z2, z3, z4]) | (with_reducible apply jn) | (with_reducible apply both) | (with_reducible refine And.intro ?_ ?_) | ((with_reducible apply fin_eq); (try (simp (disch := omega) only [go_sem, hE, hH, hdl, hdt, z1, z2, z3, z4])); first | done | rfl) | (simp (disch := omega) only [go_sem, hE, hH, hdl, hdt, z1, z2, z3, z4]) | ((first | apply noMLL_sE | apply pk_sE) <;> (simp only [go_sem, hE, hH, hdl, hdt, z1, z2, z3, z4]; done)) | (simp only [go_sem, hE, hH, hdl, hdt, z1, z2, z3, z4]) | fail)
    all_goals try first | omega | rfl
    all_goals (
     refine ⟨some s', ?_, by (first | (rw [hst, stepS, hA]; done) | (rw [hst, stepS, hA]; rfl))⟩
     rw [hdn, List.map_append]
     rfl)
  ·try simp (disch := omega) only [go_sem, hE, hH, h]
   simp only [nf] at h
   have hjl : j = l.length := by omega
   have hdl := doneL_len l j
   rw [hjl, List.take_length] at hI
   subst hjl
   rw [← hI]
   simp [hdl, pk_map, packedL]
   exact ⟨rfl, rfl, rfl, rfl⟩
 | some s =>
  try simp only [go_sem, hE, hH, C57_l1, soF]
  first | refine gd_t (fun h => ?_) (fun h => ?_) | refine gd_f (fun h => ?_) (fun h => ?_)
  ·have hb := h
   simp only [nf] at h
   have hlt : j < l.length := by omega
   have cA := applied_ok hS s (nth l j) hSI (by omega) (hl _ (nth_mem hlt))
   have hst : stateL (l.take (j + 1)) = stepS s (nth l j) := by rw [stateL_succ hlt, ← hI]; rfl
   have hdn : doneL l (j + 1) = doneL l j ++ [(appS s (nth l j)).isSome] := by rw [doneL_succ, ← hI]; rfl
   have hdl := doneL_len l j
   have hdt : (doneL l j).take j = doneL l j := by rw [List.take_of_length_le (by omega)]
   cases hA : appS s (nth l j) with
   | none =>
    rw [hA, appR] at cA
    rw [hA] at hdn
    try simp (disch := omega) only [go_sem, hE, hH, hb]
    repeat' (first | ((with_reducible first | refine gd_t ?_ ?_ | refine gd_f ?_ ?_) <;> (intro h; have hb := h; (try simp only [nf] at h); simp (disch := omega) only [go_sem, hE, hH, hdl, hdt, hb]; (try clear hb))) | ((with_reducible refine And.intro ?_ ?_); · omega) | ((first | refine ok_view ?_ | refine cvA (cA) ?_); simp (disch := omega) only [go_sem, hE, hH, hdl, hdt]) | (with_reducible apply jn) | (with_reducible apply both) | (with_reducible refine And.intro ?_ ?_) | ((with_reducible apply fin_eq); (try (simp (disch := omega) only [go_sem, hE, hH, hdl, hdt])); first | done | rfl) | (simp (disch := omega) only [go_sem, hE, hH, hdl, hdt]) | ((first | apply noMLL_sE | apply pk_sE) <;> (simp only [go_sem, hE, hH, hdl, hdt]; done)) | (simp only [go_sem, hE, hH, hdl, hdt]) | fail)
    all_goals try first | omega | rfl
    all_goals (
     refine ⟨some s, ?_, by (first | (rw [hst, stepS, hA]; done) | (rw [hst, stepS, hA]; rfl))⟩
     rw [hdn, List.map_append]
     rfl)
   | some s' =>
    rw [hA, appR] at cA
    rw [hA] at hdn
    try simp (disch := omega) only [go_sem, hE, hH, hb]
    repeat' (first | ((with_reducible first | refine gd_t ?_ ?_ | refine gd_f ?_ ?_) <;> (intro h; have hb := h; (try simp only [nf] at h); simp (disch := omega) only [go_sem, hE, hH, hdl, hdt, hb]; (try clear hb))) | ((with_reducible refine And.intro ?_ ?_); · omega) | ((first | refine ok_view ?_ | refine cvA (cA) ?_); simp (disch := omega) only [go_sem, hE, hH, hdl, hdt]) | (with_reducible apply jn) | (with_reducible apply both) | (with_reducible refine And.intro ?_ ?_) | ((with_reducible apply fin_eq); (try (simp (disch := omega) only [go_sem, hE, hH, hdl, hdt])); first | done | rfl) | (simp (disch := omega) only [go_sem, hE, hH, hdl, hdt]) | ((first | apply noMLL_sE | apply pk_sE) <;> (simp only [go_sem, hE, hH, hdl, hdt]; done)) | (simp only [go_sem, hE, hH, hdl, hdt]) | fail)
    all_goals try first | omega | rfl
    all_goals (
     refine ⟨some s', ?_, by (first | (rw [hst, stepS, hA]; done) | (rw [hst, stepS, hA]; rfl))⟩
     rw [hdn, List.map_append]
     rfl)
  ·try simp (disch := omega) only [go_sem, hE, hH, h]
   simp only [nf] at h
   have hjl : j = l.length := by omega
   have hdl := doneL_len l j
   rw [hjl, List.take_length] at hI
   subst hjl
   rw [← hI]
   simp [hdl, pk_map, packedL]
def soG (l : List Rec) (j : Nat) : Option State → St
 | none => ⟨[(2, .ptr 3000000 0 0), (4, .ptr 5000000 0 0), (5, .ref 6000000 0 j), (10, .sl false 7 (l.map (Rec.row false))), (11, i64 l.length), (12, i64 j)], [(3000000, ⟨4, [[i64 0, nils, nils, nils]]⟩), (5000000, ⟨4, [[i64 0, nils, nils, nils]]⟩), (6000000, ⟨1, (doneL l j).map (fun b => [bl b])⟩)]⟩
 | some s => ⟨[(2, .ptr 3000000 0 0), (4, .ptr 5000000 0 0), (5, .ref 6000000 0 j), (10, .sl false 7 (l.map (Rec.row false))), (11, i64 l.length), (12, i64 j)], [(3000000, ⟨4, [[i64 0, nils, nils, nils]]⟩), (5000000, ⟨4, [State.row false s]⟩), (6000000, ⟨1, (doneL l j).map (fun b => [bl b])⟩)]⟩
set_option maxHeartbeats 2000000 in
theorem l13Of_ok (l : List Rec) (hl : ∀ r ∈ l, recOk r = true) (hn : l.length ≤ 60) : ACall Tryz.prog 53 [.sl false 7 (l.map (Rec.row false))] (fun x _ => x = .tup [.agg (State.row false (stateL l)), .sl true 1 ((doneL l l.length).map (fun b => [bl b]))]) := by
 have hmx := mx_eq
 refine fi H53 fun E hE hH => ?_; simp only [go_sem] at hE hH; simp only [go_sem, hE, hH, C53]
 try simp (disch := omega) only [go_sem, hE, hH]
 refine loopNe l.length (fun j x => soG l j x) (fun j x => x.getD st0 = stateL (l.take j)) none rfl rfl ?_
 intro j x hj hI
 have z1 : st0.Cells = [] := rfl
 have z2 : st0.Held = [] := rfl
 have z3 : st0.Told = [] := rfl
 have z4 : st0.Floor = 0 := rfl
 have hSI := stateL_takeI hl j hj
 rw [← hI] at hSI
 cases x with
 | none =>
  try simp only [go_sem, hE, hH, C53_l1, soG]
  first | refine gd_t (fun h => ?_) (fun h => ?_) | refine gd_f (fun h => ?_) (fun h => ?_)
  ·have hb := h
   simp only [nf] at h
   have hlt : j < l.length := by omega
   have cA := l13Apply_ok st0 (nth l j) hSI (by omega) (hl _ (nth_mem hlt))
   have hst : stateL (l.take (j + 1)) = stepS st0 (nth l j) := by rw [stateL_succ hlt, ← hI]; rfl
   have hdn : doneL l (j + 1) = doneL l j ++ [(appS st0 (nth l j)).isSome] := by rw [doneL_succ, ← hI]; rfl
   have hdl := doneL_len l j
   have hdt : (doneL l j).take j = doneL l j := by rw [List.take_of_length_le (by omega)]
   cases hA : appS st0 (nth l j) with
   | none =>
    rw [hA, Option.isSome_none] at cA
    simp only [sAppR] at cA
    rw [hA] at hdn
    try simp (disch := omega) only [go_sem, hE, hH, hb]
    repeat' (first | ((with_reducible first | refine gd_t ?_ ?_ | refine gd_f ?_ ?_) <;> (intro h; have hb := h; (try simp only [nf] at h); simp (disch := omega) only [go_sem, hE, hH, hdl, hdt, z1, z2, z3, z4, hb]; (try clear hb))) | ((with_reducible refine And.intro ?_ ?_); · omega) | (refine ok_view ?_; simp (disch := omega) only [go_sem, hE, hH, hdl, hdt, z1, z2, z3, z4]; refine cvAn (cA) (And.intro (by (simp (disch := omega) only [go_sem, hE, hH, hdl, hdt, z1, z2, z3, z4]); done) (aftV_intro ?_)); rintro _ _ ⟨q, rfl, _⟩; simp (disch := omega) only [go_sem, hE, hH, hdl, hdt, z1, z2, z3, z4]) | (with_reducible apply jn) | (with_reducible apply both) | (with_reducible refine And.intro ?_ ?_) | ((with_reducible apply fin_eq); (try (simp (disch := omega) only [go_sem, hE, hH, hdl, hdt, z1, z2, z3, z4])); first | done | rfl) | (simp (disch := omega) only [go_sem, hE, hH, hdl, hdt, z1, z2, z3, z4]) | ((first | apply noMLL_sE | apply pk_sE) <;> (simp only [go_sem, hE, hH, hdl, hdt, z1, z2, z3, z4]; done)) | (simp only [go_sem, hE, hH, hdl, hdt, z1, z2, z3, z4]) | fail)
    all_goals try first | omega | rfl
    all_goals (
     refine ⟨none, ?_, by (first | (rw [hst, stepS, hA]; done) | (rw [hst, stepS, hA]; rfl))⟩
     rw [hdn, List.map_append]
     rfl)
   | some s' =>
    rw [hA, Option.isSome_some] at cA
    simp only [sAppR] at cA
    rw [hA] at hdn
    try simp (disch := omega) only [go_sem, hE, hH, hb]
    repeat' (first | ((with_reducible first | refine gd_t ?_ ?_ | refine gd_f ?_ ?_) <;> (intro h; have hb := h; (try simp only [nf] at h); simp (disch := omega) only [go_sem, hE, hH, hdl, hdt, z1, z2, z3, z4, hb]; (try clear hb))) | ((with_reducible refine And.intro ?_ ?_); · omega) | (refine ok_view ?_; simp (disch := omega) only [go_sem, hE, hH, hdl, hdt, z1, z2, z3, z4]; refine cvAn (cA) (And.intro (by (simp (disch := omega) only [go_sem, hE, hH, hdl, hdt, z1, z2, z3, z4]); done) (aftV_intro ?_)); rintro _ _ ⟨q, rfl, hq⟩; simp (disch := omega) only [go_sem, hE, hH, hdl, hdt, z1, z2, z3, z4]) | (with_reducible apply jn) | (with_reducible apply both) | (with_reducible refine And.intro ?_ ?_) | ((with_reducible apply fin_eq); (try (simp (disch := omega) only [go_sem, hE, hH, hdl, hdt, z1, z2, z3, z4])); first | done | rfl) | (simp (disch := omega) only [go_sem, hE, hH, hdl, hdt, z1, z2, z3, z4]) | ((first | apply noMLL_sE | apply pk_sE) <;> (simp only [go_sem, hE, hH, hdl, hdt, z1, z2, z3, z4]; done)) | (simp only [go_sem, hE, hH, hdl, hdt, z1, z2, z3, z4]) | fail)
    all_goals try first | omega | rfl
    all_goals (
     obtain rfl := hq _ rfl
     refine ⟨some q, ?_, by (first | (rw [hst, stepS, hA]; done) | (rw [hst, stepS, hA]; rfl))⟩
     rw [hdn, List.map_append]
     rfl)
  ·try simp (disch := omega) only [go_sem, hE, hH, h]
   simp only [nf] at h
   have hjl : j = l.length := by omega
   have hdl := doneL_len l j
   rw [hjl, List.take_length] at hI
   subst hjl
   rw [← hI]
   simp [hdl, pk_map, packedL]
   exact ⟨rfl, rfl, rfl, rfl⟩
 | some s =>
  try simp only [go_sem, hE, hH, C53_l1, soG]
  first | refine gd_t (fun h => ?_) (fun h => ?_) | refine gd_f (fun h => ?_) (fun h => ?_)
  ·have hb := h
   simp only [nf] at h
   have hlt : j < l.length := by omega
   have cA := l13Apply_ok s (nth l j) hSI (by omega) (hl _ (nth_mem hlt))
   have hst : stateL (l.take (j + 1)) = stepS s (nth l j) := by rw [stateL_succ hlt, ← hI]; rfl
   have hdn : doneL l (j + 1) = doneL l j ++ [(appS s (nth l j)).isSome] := by rw [doneL_succ, ← hI]; rfl
   have hdl := doneL_len l j
   have hdt : (doneL l j).take j = doneL l j := by rw [List.take_of_length_le (by omega)]
   cases hA : appS s (nth l j) with
   | none =>
    rw [hA, Option.isSome_none] at cA
    simp only [sAppR] at cA
    rw [hA] at hdn
    try simp (disch := omega) only [go_sem, hE, hH, hb]
    repeat' (first | ((with_reducible first | refine gd_t ?_ ?_ | refine gd_f ?_ ?_) <;> (intro h; have hb := h; (try simp only [nf] at h); simp (disch := omega) only [go_sem, hE, hH, hdl, hdt, hb]; (try clear hb))) | ((with_reducible refine And.intro ?_ ?_); · omega) | (refine ok_view ?_; simp (disch := omega) only [go_sem, hE, hH, hdl, hdt]; refine cvA (cA) ?_; refine aftV_intro ?_; rintro _ _ ⟨q, rfl, _⟩; simp (disch := omega) only [go_sem, hE, hH, hdl, hdt]) | (with_reducible apply jn) | (with_reducible apply both) | (with_reducible refine And.intro ?_ ?_) | ((with_reducible apply fin_eq); (try (simp (disch := omega) only [go_sem, hE, hH, hdl, hdt])); first | done | rfl) | (simp (disch := omega) only [go_sem, hE, hH, hdl, hdt]) | ((first | apply noMLL_sE | apply pk_sE) <;> (simp only [go_sem, hE, hH, hdl, hdt]; done)) | (simp only [go_sem, hE, hH, hdl, hdt]) | fail)
    all_goals try first | omega | rfl
    all_goals (
     refine ⟨some s, ?_, by (first | (rw [hst, stepS, hA]; done) | (rw [hst, stepS, hA]; rfl))⟩
     rw [hdn, List.map_append]
     rfl)
   | some s' =>
    rw [hA, Option.isSome_some] at cA
    simp only [sAppR] at cA
    rw [hA] at hdn
    try simp (disch := omega) only [go_sem, hE, hH, hb]
    repeat' (first | ((with_reducible first | refine gd_t ?_ ?_ | refine gd_f ?_ ?_) <;> (intro h; have hb := h; (try simp only [nf] at h); simp (disch := omega) only [go_sem, hE, hH, hdl, hdt, hb]; (try clear hb))) | ((with_reducible refine And.intro ?_ ?_); · omega) | (refine ok_view ?_; simp (disch := omega) only [go_sem, hE, hH, hdl, hdt]; refine cvA (cA) ?_; refine aftV_intro ?_; rintro _ _ ⟨q, rfl, hq⟩; simp (disch := omega) only [go_sem, hE, hH, hdl, hdt]) | (with_reducible apply jn) | (with_reducible apply both) | (with_reducible refine And.intro ?_ ?_) | ((with_reducible apply fin_eq); (try (simp (disch := omega) only [go_sem, hE, hH, hdl, hdt])); first | done | rfl) | (simp (disch := omega) only [go_sem, hE, hH, hdl, hdt]) | ((first | apply noMLL_sE | apply pk_sE) <;> (simp only [go_sem, hE, hH, hdl, hdt]; done)) | (simp only [go_sem, hE, hH, hdl, hdt]) | fail)
    all_goals try first | omega | rfl
    all_goals (
     obtain rfl := hq _ rfl
     refine ⟨some q, ?_, by (first | (rw [hst, stepS, hA]; done) | (rw [hst, stepS, hA]; rfl))⟩
     rw [hdn, List.map_append]
     rfl)
  ·try simp (disch := omega) only [go_sem, hE, hH, h]
   simp only [nf] at h
   have hjl : j = l.length := by omega
   have hdl := doneL_len l j
   rw [hjl, List.take_length] at hI
   subst hjl
   rw [← hI]
   simp [hdl, pk_map, packedL]
theorem settle_take {s : State} {j : Nat} (h : j < s.Held.length) : (s.Held.take (j + 1)).foldl (fun t (h : Held) => min t (h.Time - 1)) s.Floor = min ((s.Held.take j).foldl (fun t (h : Held) => min t (h.Time - 1)) s.Floor) ((nth s.Held j).Time - 1) := by
 rw [take_nth h, List.foldl_append]; rfl
theorem settled_ok (s : State) (hT : ∀ h ∈ s.Held, 1 ≤ h.Time ∧ h.Time ≤ 2 ^ 40) (hl : s.Held.length ≤ 2 ^ 20) : ACall Tryz.prog 46 [.agg (State.row false s)] (fun x _ => x = i64 (settleS s)) := by
 have hmx := mx_eq
 refine fi H46 fun E hE hH => ?_; simp only [go_sem] at hE hH; simp only [go_sem, hE, hH, C46]
 try simp (disch := omega) only [go_sem, hE, hH]
 refine loopN s.Held.length (fun j (x : Int) => ⟨[(3, i64 x), (9, .sl false 5 (s.Held.map (Held.row false))), (10, i64 s.Held.length), (11, i64 j)], []⟩) (fun j x => x = (s.Held.take j).foldl (fun t (h : Held) => min t (h.Time - 1)) s.Floor) s.Floor rfl ?_
 intro j x hj hI
 try simp only [go_sem, hE, hH, C46_l1]
 first | refine gd_t (fun h => ?_) (fun h => ?_) | refine gd_f (fun h => ?_) (fun h => ?_)
 ·have hb := h
  simp only [nf] at h
  have hlt : j < s.Held.length := by omega
  have := hT _ (nth_mem hlt)
  have hs := settle_take (s := s) hlt
  rw [← hI] at hs
  try simp (disch := omega) only [go_sem, hE, hH, hb]
  repeat' (first | (refine both ?_ ?_) | omega | ((first | apply noMLL_sE | apply pk_sE) <;> (simp only [go_sem, hE, hH]; done)) | fail)
  rw [hs, show min x ((nth s.Held j).Time - 1) = (if (nth s.Held j).Time - 1 < x then (nth s.Held j).Time - 1 else x) by rw [Int.min_def]; split <;> split <;> omega]
  rfl
 ·try simp (disch := omega) only [go_sem, hE, hH, h]
  simp only [nf] at h
  rw [show j = s.Held.length by omega, List.take_length] at hI
  rw [hI]; rfl
theorem l13Settled_ok (s : State) (hT : ∀ h ∈ s.Held, 1 ≤ h.Time ∧ h.Time ≤ 2 ^ 40) (hl : s.Held.length ≤ 2 ^ 20) : ACall Tryz.prog 41 [.agg (State.row false s)] (fun x _ => x = i64 (settleS s)) := by
 have hmx := mx_eq
 refine fi H41 fun E hE hH => ?_; simp only [go_sem] at hE hH; simp only [go_sem, hE, hH, C41]
 try simp (disch := omega) only [go_sem, hE, hH]
 refine loopN s.Held.length (fun j (x : Int) => ⟨[(3, i64 x), (9, .sl false 5 (s.Held.map (Held.row false))), (10, i64 s.Held.length), (11, i64 j)], []⟩) (fun j x => x = (s.Held.take j).foldl (fun t (h : Held) => min t (h.Time - 1)) s.Floor) s.Floor rfl ?_
 intro j x hj hI
 try simp only [go_sem, hE, hH, C41_l1]
 first | refine gd_t (fun h => ?_) (fun h => ?_) | refine gd_f (fun h => ?_) (fun h => ?_)
 ·have hb := h
  simp only [nf] at h
  have hlt : j < s.Held.length := by omega
  have := hT _ (nth_mem hlt)
  have hs := settle_take (s := s) hlt
  rw [← hI] at hs
  have cL := l1Least_ok x ((nth s.Held j).Time - 1)
  rw [show (if x < (nth s.Held j).Time - 1 then x else (nth s.Held j).Time - 1) = min x ((nth s.Held j).Time - 1) by rw [Int.min_def]; split <;> split <;> omega] at cL
  try simp (disch := omega) only [go_sem, hE, hH, hb]
  repeat' (first | ((with_reducible first | refine gd_t ?_ ?_ | refine gd_f ?_ ?_) <;> (intro h; have hb := h; (try simp only [nf] at h); refine sb ?_; (try clear hb))) | ((with_reducible refine And.intro ?_ ?_); · omega) | ((first | refine ok_view ?_ | refine cvA (cL) ?_); refine st ?_) | (with_reducible apply jn) | (with_reducible apply both) | (with_reducible refine And.intro ?_ ?_) | exact fj | refine st ?_ | exact fm | refine s1 ?_ | (with_reducible exact True.intro) | fail)
  repeat' (first | (refine both ?_ ?_) | omega | ((first | apply noMLL_sE | apply pk_sE) <;> (simp only [go_sem, hE, hH]; done)) | fail)
  first | (rw [hs]; done) | (rw [hs]; rfl) | exact ⟨_, by rw [← hs]; rfl, hs⟩
 ·try simp (disch := omega) only [go_sem, hE, hH, h]
  simp only [nf] at h
  rw [show j = s.Held.length by omega, List.take_length] at hI
  rw [hI]; rfl
def denS (l : List Entry) : State := stateL (l.map Entry.Rec)
theorem denS_I {l : List Entry} (hl : ∀ e ∈ l, recOk e.Rec = true) : stI l.length (denS l) := by
 have := stateL_I (l := l.map Entry.Rec) fun r h => by
  obtain ⟨e, he, rfl⟩ := List.mem_map.1 h
  exact hl e he
 rwa [List.length_map] at this
theorem denoted_ok (hS : SortNe) (l : List Entry) (hl : ∀ e ∈ l, recOk e.Rec = true) (hn : l.length ≤ 60) : ACall Tryz.prog 96 [.sl false 8 (l.map (Entry.row false))] (fun x _ => x = .agg (State.row true (denS l))) := by
 have hmx := mx_eq
 have cO := stateOf_ok hS (l.map Entry.Rec) (fun r h => by obtain ⟨e, he, rfl⟩ := List.mem_map.1 h; exact hl e he) (by rw [List.length_map]; exact hn)
 refine fi H96 fun E hE hH => ?_; simp only [go_sem] at hE hH; simp only [go_sem, hE, hH, C96]
 try simp (disch := omega) only [go_sem, hE, hH]
 refine loopNe l.length (fun j (_ : Unit) => ⟨[(2, .ptr 3000000 0 0), (3, .ref 4000000 0 j), (9, .sl false 8 (l.map (Entry.row false))), (10, i64 l.length), (11, i64 j)], [(3000000, ⟨4, [[i64 0, nils, nils, nils]]⟩), (4000000, ⟨7, ((l.take j).map Entry.Rec).map (Rec.row false)⟩)]⟩) (fun _ _ => True) () rfl trivial ?_
 intro j x hj hI
 try simp only [go_sem, hE, hH, C96_l1]
 first | refine gd_t (fun h => ?_) (fun h => ?_) | refine gd_f (fun h => ?_) (fun h => ?_)
 ·have hb := h
  simp only [nf] at h
  have hlt : j < l.length := by omega
  have hjl : ((l.take j).map Entry.Rec).length = j := by simp; omega
  have hjt : (l.take j).take j = l.take j := by rw [List.take_take, Nat.min_self]
  have hs : (l.take (j + 1)).map Entry.Rec = (l.take j).map Entry.Rec ++ [(nth l j).Rec] := by rw [take_nth hlt, List.map_append]; rfl
  have hg := getD_map (f := Entry.row false) hlt
  have hga : ∀ r, (((l.take j).map Entry.Rec).map (Rec.row false) ++ [r]).getD j [] = r := fun r => by
   have := getD_ma (f := Rec.row false) (l := (l.take j).map Entry.Rec) (r := r)
   rwa [hjl] at this
  try simp (disch := omega) only [go_sem, hE, hH, hjl, hjt, hg, hga, hb]
  repeat' (first | ((with_reducible first | refine gd_t ?_ ?_ | refine gd_f ?_ ?_) <;> (intro h; have hb := h; (try simp only [nf] at h); simp (disch := omega) only [go_sem, hE, hH, hjl, hjt, hg, hga, hb]; (try clear hb))) | ((with_reducible refine And.intro ?_ ?_); · omega) | (with_reducible apply jn) | (with_reducible apply both) | (with_reducible refine And.intro ?_ ?_) | ((with_reducible apply fin_eq); (try (simp (disch := omega) only [go_sem, hE, hH, hjl, hjt, hg, hga])); first | done | rfl) | (simp (disch := omega) only [go_sem, hE, hH, hjl, hjt, hg, hga]) | ((first | apply noMLL_sE | apply pk_sE) <;> (simp only [go_sem, hE, hH, hjl, hjt, hg, hga]; done)) | (simp only [go_sem, hE, hH, hjl, hjt, hg, hga]) | fail)
  repeat' (first | (refine both ?_ ?_) | omega | ((first | apply noMLL_sE | apply pk_sE) <;> (simp only [go_sem, hE, hH]; done)) | fail)
  refine ⟨(), ?_⟩
  rw [hs, List.map_append]
  rfl
 ·try simp (disch := omega) only [go_sem, hE, hH, h]
  simp only [nf] at h
  have hjl : j = l.length := by omega
  rw [hjl, List.take_length]
  have hl2 : (l.map Entry.Rec).length = l.length := List.length_map _
  have hd : denS l = stateL (l.map Entry.Rec) := rfl
  rw [hd]
  try simp (disch := omega) only [go_sem, hE, hH]
  repeat' (first | ((with_reducible first | refine gd_t ?_ ?_ | refine gd_f ?_ ?_) <;> (intro h; have hb := h; (try simp only [nf] at h); simp (disch := omega) only [go_sem, hE, hH, hl2, hb]; (try clear hb))) | ((with_reducible refine And.intro ?_ ?_); · omega) | ((first | refine ok_view ?_ | refine cvA (cO) ?_); simp (disch := omega) only [go_sem, hE, hH, hl2]) | (with_reducible apply jn) | (with_reducible apply both) | (with_reducible refine And.intro ?_ ?_) | ((with_reducible apply fin_eq); (try (simp (disch := omega) only [go_sem, hE, hH, hl2])); first | done | rfl) | (simp (disch := omega) only [go_sem, hE, hH, hl2]) | ((first | apply noMLL_sE | apply pk_sE) <;> (simp only [go_sem, hE, hH, hl2]; done)) | (simp only [go_sem, hE, hH, hl2]) | fail)
theorem l16Means_ok (log : List Entry) (n : Nat) (hln : n ≤ log.length) (hmx0 : log.length ≤ maxLen) (l : List Entry) (hle : l = log.take n) (hl : ∀ e ∈ l, recOk e.Rec = true) (hn : l.length ≤ 60) : ACall Tryz.prog 93 [.sl false 8 (log.map (Entry.row false)), i64 n] (fun x _ => x = .agg (State.row false (denS l))) := by
 have hmx := mx_eq
 have cO := l13Of_ok (l.map Entry.Rec) (fun r h => by obtain ⟨e, he, rfl⟩ := List.mem_map.1 h; exact hl e he) (by rw [List.length_map]; exact hn)
 have hll : l.length = n := by rw [hle, List.length_take]; omega
 refine fi H93 fun E hE hH => ?_; simp only [go_sem] at hE hH; simp only [go_sem, hE, hH, C93]
 try simp (disch := omega) only [go_sem, hE, hH]
 repeat' (first | ((with_reducible first | refine gd_t ?_ ?_ | refine gd_f ?_ ?_) <;> (intro h; have hb := h; (try simp only [nf] at h); refine sb ?_; (try clear hb))) | ((with_reducible refine And.intro ?_ ?_); · omega) | (with_reducible apply jn) | (with_reducible apply both) | (with_reducible refine And.intro ?_ ?_) | exact fj | refine st ?_ | exact fm | refine s1 ?_ | (with_reducible exact True.intro) | fail)
 refine loopNe l.length (fun j (_ : Unit) => ⟨[(4, .ptr 5000000 0 0), (5, .ref 6000000 0 j), (12, .sl false 8 (l.map (Entry.row false))), (13, i64 l.length), (14, i64 j)], [(5000000, ⟨4, [[i64 0, nils, nils, nils]]⟩), (6000000, ⟨7, ((l.take j).map Entry.Rec).map (Rec.row false)⟩)]⟩) (fun _ _ => True) () (by rw [hle, List.map_take, List.length_take, Nat.min_eq_left hln]; rfl) trivial ?_
 intro j x hj hI
 try simp only [go_sem, hE, hH, C93_l1]
 first | refine gd_t (fun h => ?_) (fun h => ?_) | refine gd_f (fun h => ?_) (fun h => ?_)
 ·have hb := h
  simp only [nf] at h
  have hlt : j < l.length := by omega
  have hjl : ((l.take j).map Entry.Rec).length = j := by simp; omega
  have hjt : (l.take j).take j = l.take j := by rw [List.take_take, Nat.min_self]
  have hs : (l.take (j + 1)).map Entry.Rec = (l.take j).map Entry.Rec ++ [(nth l j).Rec] := by rw [take_nth hlt, List.map_append]; rfl
  have hg := getD_map (f := Entry.row false) hlt
  have hga : ∀ r, (((l.take j).map Entry.Rec).map (Rec.row false) ++ [r]).getD j [] = r := fun r => by
   have := getD_ma (f := Rec.row false) (l := (l.take j).map Entry.Rec) (r := r)
   rwa [hjl] at this
  try simp (disch := omega) only [go_sem, hE, hH, hjl, hjt, hg, hga, hb]
  repeat' (first | ((with_reducible first | refine gd_t ?_ ?_ | refine gd_f ?_ ?_) <;> (intro h; have hb := h; (try simp only [nf] at h); simp (disch := omega) only [go_sem, hE, hH, hjl, hjt, hg, hga, hb]; (try clear hb))) | ((with_reducible refine And.intro ?_ ?_); · omega) | (with_reducible apply jn) | (with_reducible apply both) | (with_reducible refine And.intro ?_ ?_) | ((with_reducible apply fin_eq); (try (simp (disch := omega) only [go_sem, hE, hH, hjl, hjt, hg, hga])); first | done | rfl) | (simp (disch := omega) only [go_sem, hE, hH, hjl, hjt, hg, hga]) | ((first | apply noMLL_sE | apply pk_sE) <;> (simp only [go_sem, hE, hH, hjl, hjt, hg, hga]; done)) | (simp only [go_sem, hE, hH, hjl, hjt, hg, hga]) | fail)
  repeat' (first | (refine both ?_ ?_) | omega | ((first | apply noMLL_sE | apply pk_sE) <;> (simp only [go_sem, hE, hH]; done)) | fail)
  refine ⟨(), ?_⟩
  rw [hs, List.map_append]
  rfl
 ·try simp (disch := omega) only [go_sem, hE, hH, h]
  simp only [nf] at h
  have hjl : j = l.length := by omega
  rw [hjl, List.take_length]
  have hl2 : (l.map Entry.Rec).length = l.length := List.length_map _
  have hd : denS l = stateL (l.map Entry.Rec) := rfl
  rw [hd]
  have cO2 : ACall Tryz.prog 53 [.sl true 7 ((l.map Entry.Rec).map (Rec.row false))] (fun x a => x = .tup [.agg (State.row false (stateL (l.map Entry.Rec))), .sl true 1 ((doneL (l.map Entry.Rec) (l.map Entry.Rec).length).map (fun b => [bl b]))] ∧ a = [.any]) := frz_eq cO (by simp only [go_sem]; rfl) rfl
  try simp (disch := omega) only [go_sem, hE, hH]
  repeat' (first | ((with_reducible first | refine gd_t ?_ ?_ | refine gd_f ?_ ?_) <;> (intro h; have hb := h; (try simp only [nf] at h); simp (disch := omega) only [go_sem, hE, hH, hl2, hb]; (try clear hb))) | ((with_reducible refine And.intro ?_ ?_); · omega) | (refine ok_lend [true] ?_; simp (disch := omega) only [go_sem, hE, hH, hl2]; refine cmA (cO2) ?_; simp (disch := omega) only [go_sem, hE, hH, hl2]) | (with_reducible apply jn) | (with_reducible apply both) | (with_reducible refine And.intro ?_ ?_) | ((with_reducible apply fin_eq); (try (simp (disch := omega) only [go_sem, hE, hH, hl2])); first | done | rfl) | (simp (disch := omega) only [go_sem, hE, hH, hl2]) | ((first | apply noMLL_sE | apply pk_sE) <;> (simp only [go_sem, hE, hH, hl2]; done)) | (simp only [go_sem, hE, hH, hl2]) | fail)
structure repG (r : Replica) : Prop where
 s0 : 0 ≤ r.Sure
 s1 : r.Sure ≤ r.Log.length
 len : r.Log.length ≤ 60
 good : ∀ e ∈ r.Log, recOk e.Rec = true
theorem repOk_g {t : Int} {r : Replica} (h : repOk t r = true) : repG r := by
 simp only [repOk, logOk, Bool.and_eq_true, decide_eq_true_eq] at h
 obtain ⟨⟨h1, h2⟩, h3⟩ := h
 have h3 := rng_iff.1 h3
 refine ⟨h3.1, h3.2, by omega, fun e he => ?_⟩
 obtain ⟨i, hi, rfl⟩ := List.getElem_of_mem he
 have := allN_iff.1 h1 i hi
 simp only [entOk, Bool.and_eq_true] at this
 rw [← nth_lt hi]
 exact this.1.2
theorem grpOk_g {g : Group} (h : grpOk g = true) : 3 ≤ g.Reps.length ∧ g.Reps.length ≤ 5 ∧ ∀ r ∈ g.Reps, repG r := by
 simp only [grpOk, Bool.and_eq_true, Bool.or_eq_true, decide_eq_true_eq, List.all_eq_true] at h
 obtain ⟨⟨⟨h1, _⟩, _⟩, h4⟩ := h
 exact ⟨by omega, by omega, fun r hr => repOk_g (h4 r hr)⟩
def repS (r : Replica) : State := denS (r.Log.take r.Sure.toNat)
theorem repG_take {r : Replica} (h : repG r) : (∀ e ∈ r.Log.take r.Sure.toNat, recOk e.Rec = true) ∧ (r.Log.take r.Sure.toNat).length ≤ 60 := by
 refine ⟨fun e he => h.good e (List.mem_of_mem_take he), ?_⟩
 have := h.len
 rw [List.length_take]; omega
theorem repS_I {r : Replica} (h : repG r) : stI 60 (repS r) := by
 obtain ⟨h1, h2⟩ := repG_take h
 have := denS_I h1
 exact ⟨this.cells, this.hlen, this.hsrt, this.hok, Nat.le_trans this.tlen h2, this.tsrt⟩
def repO (g : Group) (r : Int) : Option State := if grpOk g = true ∧ rng r 0 ((g.Reps.length : Int) - 1) = true then some (repS (nth g.Reps r.toNat)) else none
theorem replicaState_ok (hS : SortNe) (g : Group) (r : Int) (hw : grpW g) : ACall Tryz.prog 44 [.agg (Group.row false g), i64 r] (fun x _ => x = appR (repO g r)) := by
 have hmx := mx_eq
 have z1 : st0.Cells = [] := rfl
 have z2 : st0.Held = [] := rfl
 have z3 : st0.Told = [] := rfl
 have z4 : st0.Floor = 0 := rfl
 have c1 := GoodGroup_ok g hw
 have c2 := isRep_ok g r hw.1
 cases hg : grpOk g with
 | false =>
  rw [hg] at c1
  rw [show repO g r = none by rw [repO, hg]; simp, appR]
  refine fi H44 fun E hE hH => ?_; simp only [go_sem] at hE hH; simp only [go_sem, hE, hH, C44]
  try simp (disch := omega) only [go_sem, hE, hH]
  repeat' (first | ((with_reducible first | refine gd_t ?_ ?_ | refine gd_f ?_ ?_) <;> (intro h; have hb := h; (try simp only [nf] at h); simp (disch := omega) only [go_sem, hE, hH, z1, z2, z3, z4, hb]; (try clear hb))) | ((with_reducible refine And.intro ?_ ?_); · omega) | ((first | refine ok_view ?_ | refine cvA (c1) ?_); simp (disch := omega) only [go_sem, hE, hH, z1, z2, z3, z4]) | (with_reducible apply jn) | (with_reducible apply both) | (with_reducible refine And.intro ?_ ?_) | ((with_reducible apply fin_eq); (try (simp (disch := omega) only [go_sem, hE, hH, z1, z2, z3, z4])); first | done | rfl) | (simp (disch := omega) only [go_sem, hE, hH, z1, z2, z3, z4]) | ((first | apply noMLL_sE | apply pk_sE) <;> (simp only [go_sem, hE, hH, z1, z2, z3, z4]; done)) | (simp only [go_sem, hE, hH, z1, z2, z3, z4]) | fail)
  all_goals first | rfl
 | true =>
  rw [hg] at c1
  cases hr : rng r 0 ((g.Reps.length : Int) - 1) with
  | false =>
   rw [hr] at c2
   rw [show repO g r = none by rw [repO, hr]; simp, appR]
   refine fi H44 fun E hE hH => ?_; simp only [go_sem] at hE hH; simp only [go_sem, hE, hH, C44]
   try simp (disch := omega) only [go_sem, hE, hH]
   repeat' (first | ((with_reducible first | refine gd_t ?_ ?_ | refine gd_f ?_ ?_) <;> (intro h; have hb := h; (try simp only [nf] at h); simp (disch := omega) only [go_sem, hE, hH, z1, z2, z3, z4, hb]; (try clear hb))) | ((with_reducible refine And.intro ?_ ?_); · omega) | ((first | refine ok_view ?_ | refine cvA (c1) ?_ | refine cvA (c2) ?_); simp (disch := omega) only [go_sem, hE, hH, z1, z2, z3, z4]) | (with_reducible apply jn) | (with_reducible apply both) | (with_reducible refine And.intro ?_ ?_) | ((with_reducible apply fin_eq); (try (simp (disch := omega) only [go_sem, hE, hH, z1, z2, z3, z4])); first | done | rfl) | (simp (disch := omega) only [go_sem, hE, hH, z1, z2, z3, z4]) | ((first | apply noMLL_sE | apply pk_sE) <;> (simp only [go_sem, hE, hH, z1, z2, z3, z4]; done)) | (simp only [go_sem, hE, hH, z1, z2, z3, z4]) | fail)
   all_goals first | rfl
  | true =>
   rw [hr] at c2
   rw [show repO g r = some (repS (nth g.Reps r.toNat)) by rw [repO, hg, hr]; rfl, appR]
   have hr' := rng_iff.1 hr
   have hlt : r.toNat < g.Reps.length := by omega
   have hb := (grpOk_g hg).2.2 _ (nth_mem hlt)
   obtain ⟨q1, q2⟩ := repG_take hb
   obtain ⟨k, rfl⟩ : ∃ k : Nat, r = k := ⟨r.toNat, by omega⟩
   rw [Int.toNat_natCast] at *
   refine fi H44 fun E hE hH => ?_; simp only [go_sem] at hE hH; simp only [go_sem, hE, hH, C44]
   repeat' (first | ((with_reducible first | refine gd_t ?_ ?_ | refine gd_f ?_ ?_) <;> (intro h; have hb := h; (try simp only [nf] at h); refine sb ?_; (try clear hb))) | ((with_reducible refine And.intro ?_ ?_); · omega) | ((first | refine ok_view ?_ | refine cvA (c1) ?_ | refine cvA (c2) ?_ | refine cvA (sure_ok (nth g.Reps k) hb.s0 hb.s1) ?_ | refine cvA (denoted_ok hS _ q1 q2) ?_); refine st ?_) | (with_reducible apply jn) | (with_reducible apply both) | (with_reducible refine And.intro ?_ ?_) | exact fj | refine st ?_ | exact fm | refine s1 ?_ | (with_reducible exact True.intro) | fail)
   all_goals first | rfl
theorem repMeans_ok (r : Replica) (h : repG r) : ACall Tryz.prog 93 [.sl false 8 (r.Log.map (Entry.row false)), i64 r.Sure] (fun x _ => x = .agg (State.row false (repS r))) := by
 have hmx := mx_eq
 obtain ⟨q1, q2⟩ := repG_take h
 have h0 := h.s0
 have h1 := h.s1
 have hl := h.len
 have := l16Means_ok r.Log r.Sure.toNat (by omega) (by omega) _ rfl q1 q2
 rwa [Int.toNat_of_nonneg h0] at this
theorem l17Rep_ok (g : Group) (r : Int) (hw : grpW g) : ACall Tryz.prog 39 [.agg (Group.row false g), i64 r] (fun x _ => x = bl (repO g r).isSome) := by
 have hmx := mx_eq
 have c1 := sGoodGroup_ok g hw
 have c2 := l1In_ok r 0 ((g.Reps.length : Int) - 1)
 have := hw.1
 have e : (repO g r).isSome = (grpOk g && rng r 0 ((g.Reps.length : Int) - 1)) := by
  rw [repO]; cases grpOk g <;> cases rng r 0 ((g.Reps.length : Int) - 1) <;> rfl
 rw [e]
 refine fi H39 fun E hE hH => ?_; simp only [go_sem] at hE hH; simp only [go_sem, hE, hH, C39]
 repeat' (first | ((with_reducible first | refine gd_t ?_ ?_ | refine gd_f ?_ ?_) <;> (intro h; have hb := h; (try simp only [nf] at h); refine sb ?_; (try clear hb))) | ((with_reducible refine And.intro ?_ ?_); · omega) | ((first | refine ok_view ?_ | refine cvA (c1) ?_ | refine cvA (c2) ?_); refine st ?_) | (with_reducible apply jn) | (with_reducible apply both) | (with_reducible refine And.intro ?_ ?_) | exact fj | refine st ?_ | exact fm | refine s1 ?_ | (with_reducible exact True.intro) | fail)
 all_goals first | rfl
theorem l17Knows_ok (g : Group) (k : Nat) (hg : grpOk g = true) (hk : k < g.Reps.length) : ACall Tryz.prog 42 [.agg (Group.row false g), i64 k] (fun x _ => x = .agg (State.row false (repS (nth g.Reps k)))) := by
 have hmx := mx_eq
 have hb := (grpOk_g hg).2.2 _ (nth_mem hk)
 have hgl := (grpOk_g hg).2.1
 refine fi H42 fun E hE hH => ?_; simp only [go_sem] at hE hH; simp only [go_sem, hE, hH, C42]
 repeat' (first | ((with_reducible first | refine gd_t ?_ ?_ | refine gd_f ?_ ?_) <;> (intro h; have hb := h; (try simp only [nf] at h); refine sb ?_; (try clear hb))) | ((with_reducible refine And.intro ?_ ?_); · omega) | ((first | refine ok_view ?_ | refine cvA (repMeans_ok _ hb) ?_); refine st ?_) | (with_reducible apply jn) | (with_reducible apply both) | (with_reducible refine And.intro ?_ ?_) | exact fj | refine st ?_ | exact fm | refine s1 ?_ | (with_reducible exact True.intro) | fail)
 all_goals first | rfl
theorem stI.tm {n : Nat} {s : State} (h : stI n s) : ∀ x ∈ s.Held, 1 ≤ x.Time ∧ x.Time ≤ 2 ^ 40 := by
 intro x hx
 have := hldOk_lists (h.hok x hx)
 omega
theorem repO_some {g : Group} {r : Int} {s : State} (h : repO g r = some s) : grpOk g = true ∧ rng r 0 ((g.Reps.length : Int) - 1) = true ∧ ∃ k : Nat, r = k ∧ k < g.Reps.length ∧ s = repS (nth g.Reps k) ∧ stI 60 s := by
 rw [repO] at h
 split at h
 ·rename_i hq
  injection h with h
  have := rng_iff.1 hq.2
  refine ⟨hq.1, hq.2, r.toNat, by omega, by omega, h.symm, ?_⟩
  rw [← h]
  exact repS_I ((grpOk_g hq.1).2.2 _ (nth_mem (by omega)))
 ·cases h
def knowsB (g : Group) (r t : Int) : Bool × Bool :=
 match repO g r with
 | none => (false, false)
 | some s => if rng t 0 100000 = true then (decide (t ≤ settleS s), true) else (false, false)
theorem ReplicaKnows_ok (hS : SortNe) (g : Group) (r t : Int) (hw : grpW g) : ACall Tryz.prog 11 [.agg (Group.row false g), i64 r, i64 t] (fun x _ => x = .tup [bl (knowsB g r t).1, bl (knowsB g r t).2]) := by
 have hmx := mx_eq
 have c1 := replicaState_ok hS g r hw
 have c2 := isTrue_ok t
 cases hO : repO g r with
 | none =>
  rw [show knowsB g r t = (false, false) by rw [knowsB, hO]]
  rw [hO, appR] at c1
  refine fi H11 fun E hE hH => ?_; simp only [go_sem] at hE hH; simp only [go_sem, hE, hH, C11]
  repeat' (first | ((with_reducible first | refine gd_t ?_ ?_ | refine gd_f ?_ ?_) <;> (intro h; have hb := h; (try simp only [nf] at h); refine sb ?_; (try clear hb))) | ((with_reducible refine And.intro ?_ ?_); · omega) | ((first | refine ok_view ?_ | refine cvA (c1) ?_ | refine cvA (c2) ?_); refine st ?_) | (with_reducible apply jn) | (with_reducible apply both) | (with_reducible refine And.intro ?_ ?_) | exact fj | refine st ?_ | exact fm | refine s1 ?_ | (with_reducible exact True.intro) | fail)
  all_goals first | rfl
 | some s =>
  obtain ⟨-, -, _, -, -, -, hI⟩ := repO_some hO
  rw [hO, appR] at c1
  have c3 := settled_ok s hI.tm (by have := hI.hlen; omega)
  cases hT : rng t 0 100000 with
  | false =>
   rw [show knowsB g r t = (false, false) by rw [knowsB, hO, hT]; rfl]
   rw [hT] at c2
   refine fi H11 fun E hE hH => ?_; simp only [go_sem] at hE hH; simp only [go_sem, hE, hH, C11]
   repeat' (first | ((with_reducible first | refine gd_t ?_ ?_ | refine gd_f ?_ ?_) <;> (intro h; have hb := h; (try simp only [nf] at h); refine sb ?_; (try clear hb))) | ((with_reducible refine And.intro ?_ ?_); · omega) | ((first | refine ok_view ?_ | refine cvA (c1) ?_ | refine cvA (c2) ?_); refine st ?_) | (with_reducible apply jn) | (with_reducible apply both) | (with_reducible refine And.intro ?_ ?_) | exact fj | refine st ?_ | exact fm | refine s1 ?_ | (with_reducible exact True.intro) | fail)
   all_goals first | rfl
  | true =>
   rw [show knowsB g r t = (decide (t ≤ settleS s), true) by rw [knowsB, hO, hT]; rfl]
   rw [hT] at c2
   refine fi H11 fun E hE hH => ?_; simp only [go_sem] at hE hH; simp only [go_sem, hE, hH, C11]
   repeat' (first | ((with_reducible first | refine gd_t ?_ ?_ | refine gd_f ?_ ?_) <;> (intro h; have hb := h; (try simp only [nf] at h); refine sb ?_; (try clear hb))) | ((with_reducible refine And.intro ?_ ?_); · omega) | ((first | refine ok_view ?_ | refine cvA (c1) ?_ | refine cvA (c2) ?_ | refine cvA (c3) ?_); refine st ?_) | (with_reducible apply jn) | (with_reducible apply both) | (with_reducible refine And.intro ?_ ?_) | exact fj | refine st ?_ | exact fm | refine s1 ?_ | (with_reducible exact True.intro) | fail)
   all_goals first | rfl
theorem szL_bd2 {α : Type} {f : α → Nat} {C : Nat} : ∀ {l : List α}, (∀ x ∈ l, f x ≤ C) → szL f l ≤ (C + 1) * l.length
 | [], _ => by simp [szL]
 | x :: l, h => by
  have h1 := szL_bd2 (l := l) fun y hy => h y (List.mem_cons_of_mem _ hy)
  have h2 := h x List.mem_cons_self
  simp only [szL, List.map_cons, List.sum_cons, List.length_cons, Nat.mul_succ] at h1 ⊢
  omega
theorem risB_key {l : List ByteArray} (h : risB l = true) : ∀ x ∈ l, goodKey x = true := by
 intro x hx
 obtain ⟨i, hi, rfl⟩ := List.getElem_of_mem hx
 simp only [risB] at h
 have := allN_iff.1 h i hi
 simp only [Bool.and_eq_true, nth_lt hi] at this
 exact this.1
theorem stI.sz {n : Nat} {s : State} (h : stI n s) (hn : n ≤ 1000) : s.sz ≤ 2 ^ 20 := by
 have hc := goodCells_I h.cells
 have hl := hc.len
 have h1 : szL Cell.sz s.Cells ≤ (2000 + 1) * s.Cells.length := szL_bd2 fun c q => by
  have h2 := (hc.one c q).2
  have h3 := hc.wf c q
  have h4 : szL Ver.sz c.Vers ≤ (100 + 1) * c.Vers.length := szL_bd2 fun v hv => h3.2 v hv
  have h5 : (100 + 1) * c.Vers.length ≤ (100 + 1) * 16 := Nat.mul_le_mul_left _ (by omega)
  show c.Key.size + szL Ver.sz c.Vers ≤ 2000
  omega
 have h2 : szL Held.sz s.Held ≤ (2000 + 1) * s.Held.length := szL_bd2 fun x q => by
  have h3 := hldOk_lists (h.hok x q)
  have h4 : szL ByteArray.size x.Reads ≤ (100 + 1) * x.Reads.length := szL_bd2 fun v hv => by
   have := goodKey_size (risB_key h3.2.2.2.1 v hv); omega
  have h5 : szL Write.sz x.Writes ≤ (100 + 1) * x.Writes.length := szL_bd2 fun v hv => by
   obtain ⟨i, hi, rfl⟩ := List.getElem_of_mem hv
   have h6 := h3.2.2.1
   rw [goodWrites_eq] at h6
   simp only [Bool.and_eq_true, Bool.not_eq_true', List.any_eq_false] at h6
   have h7 := goodKey_size (risB_key h6.1.2 _ (List.mem_map.2 ⟨_, hv, rfl⟩))
   have h8 := h6.2 _ hv
   have h8 : stored (x.Writes[i]).Val (x.Writes[i]).Gone = true := by simpa using h8
   have := stored_size h8
   show (x.Writes[i]).Key.size + (x.Writes[i]).Val.size ≤ 100
   omega
  have h6 : (100 + 1) * x.Reads.length ≤ (100 + 1) * 8 := Nat.mul_le_mul_left _ (by omega)
  have h7 : (100 + 1) * x.Writes.length ≤ (100 + 1) * 8 := Nat.mul_le_mul_left _ (by omega)
  show szL ByteArray.size x.Reads + szL Write.sz x.Writes ≤ 2000
  omega
 have h3 := h.tlen
 have h4 := h.hlen
 have h5 : (2000 + 1) * s.Cells.length ≤ (2000 + 1) * 24 := Nat.mul_le_mul_left _ (by omega)
 have h6 : (2000 + 1) * s.Held.length ≤ (2000 + 1) * 12 := Nat.mul_le_mul_left _ (by omega)
 show szL Cell.sz s.Cells + szL Held.sz s.Held + s.Told.length ≤ 2 ^ 20
 omega
def atL (l : List Ver) (t : Int) : Nat → ByteArray × Bool
 | 0 => (⟨#[]⟩, false)
 | n + 1 => if (nth l n).Time ≤ t then ((nth l n).Val, !(nth l n).Gone) else atL l t n
def atC (c : Cell) (t : Int) : ByteArray × Bool := atL c.Vers t c.Vers.length
def verL (l : List Ver) (t : Int) : Nat → Option Ver
 | 0 => none
 | n + 1 => if (nth l n).Time ≤ t then some (nth l n) else verL l t n
theorem atL_ver (l : List Ver) (t : Int) : ∀ n, atL l t n = match verL l t n with | none => (⟨#[]⟩, false) | some v => (v.Val, !v.Gone)
 | 0 => rfl
 | n + 1 => by
  rw [atL, verL]
  split
  ·rfl
  ·exact atL_ver l t n
theorem verL_mem {l : List Ver} {t : Int} {v : Ver} : ∀ {n}, n ≤ l.length → verL l t n = some v → v ∈ l
 | 0, _, h => by cases h
 | n + 1, hn, h => by
  rw [verL] at h
  split at h
  ·cases h; exact nth_mem (by omega)
  ·exact verL_mem (by omega) h
def ver0 : Ver := ⟨0, ⟨#[]⟩, false⟩
def lookC (l : List Cell) (key : ByteArray) (t : Int) : ByteArray × Bool := if cF l key then atC (nth l (cI l key)) t else (⟨#[]⟩, false)
def CellAtH : Prop := ∀ (c : Cell) (t : Int), c.Vers.length ≤ 2 ^ 60 → ACall Tryz.prog 105 [.agg (Cell.row false c), i64 t] (fun r _ => r = .tup [str (atC c t).1, bl (atC c t).2])
theorem cellAt_ok (hC : CellAtH) (l : List Cell) (key : ByteArray) (t : Int) (hl : l.length ≤ 2 ^ 60) (hs : srtX strLt Cell.Key l) (h1 : ∀ c ∈ l, c.Vers.length ≤ 2 ^ 60) : ACall Tryz.prog 51 [.sl false 2 (l.map (Cell.row false)), str key, i64 t] (fun r _ => r = .tup [str (lookC l key t).1, bl (lookC l key t).2]) := by
 have hmx := mx_eq
 have hc := findCell_ok l key hl hs
 cases hf : cF l key with
 | false =>
  rw [hf] at hc
  rw [lookC, hf]
  refine fi H51 fun E hE hH => ?_; simp only [go_sem] at hE hH; simp only [go_sem, hE, hH, C51]
  repeat' (first | ((with_reducible first | refine gd_t ?_ ?_ | refine gd_f ?_ ?_) <;> (intro h; have hb := h; (try simp only [nf] at h); refine sb ?_; (try clear hb))) | ((with_reducible refine And.intro ?_ ?_); · omega) | ((first | refine ok_view ?_ | refine cvA (hc) ?_); refine st ?_) | refine jn _ ?_ ?_ | (with_reducible first | refine both ?_ ?_ | refine And.intro ?_ ?_) | exact fe | refine st ?_ | exact fm | refine s1 ?_ | (with_reducible exact True.intro) | fail)
  all_goals first | rfl
 | true =>
  obtain ⟨k1, k2⟩ := cF_here hs hf
  have cA := hC (nth l (cI l key)) t (h1 _ (nth_mem k1))
  rw [hf] at hc
  rw [lookC, hf, if_pos rfl]
  generalize atC (nth l (cI l key)) t = q at *
  refine fi H51 fun E hE hH => ?_; simp only [go_sem] at hE hH; simp only [go_sem, hE, hH, C51]
  repeat' (first | ((with_reducible first | refine gd_t ?_ ?_ | refine gd_f ?_ ?_) <;> (intro h; have hb := h; (try simp only [nf] at h); refine sb ?_; (try clear hb))) | ((with_reducible refine And.intro ?_ ?_); · omega) | ((first | refine ok_view ?_ | refine cvA (hc) ?_ | refine cvA (cA) ?_); refine st ?_) | (with_reducible apply jn) | (with_reducible apply both) | (with_reducible refine And.intro ?_ ?_) | exact fj | refine st ?_ | exact fm | refine s1 ?_ | (with_reducible exact True.intro) | fail)
  all_goals first | rfl | omega
theorem l3Ver_ok (c : Cell) (t : Int) (hl : c.Vers.length ≤ 2 ^ 60) : ACall Tryz.prog 102 [.agg (Cell.row false c), i64 t] (fun r _ => r = .tup [.agg (Ver.row false ((verL c.Vers t c.Vers.length).getD ver0)), bl (verL c.Vers t c.Vers.length).isSome]) := by
 have hmx := mx_eq
 refine fi H102 fun E hE hH => ?_; simp only [go_sem] at hE hH; simp only [go_sem, hE, hH, C102]
 repeat' (first | ((with_reducible first | refine gd_t ?_ ?_ | refine gd_f ?_ ?_) <;> (intro h; have hb := h; (try simp only [nf] at h); refine sb ?_; (try clear hb))) | ((with_reducible refine And.intro ?_ ?_); · omega) | (with_reducible apply jn) | (with_reducible apply both) | (with_reducible refine And.intro ?_ ?_) | exact fj | refine st ?_ | exact fm | refine s1 ?_ | (with_reducible exact True.intro) | fail)
 refine loopN c.Vers.length (fun j (x : Option Ver) => ⟨[(1, i64 t), (4, .ptr 5000000 0 0), (6, .ptr 7000000 0 0), (7, bl x.isSome), (11, .sl false 3 (c.Vers.map (Ver.row false))), (12, i64 c.Vers.length), (13, i64 j)], [(5000000, ⟨3, [[i64 0, str ⟨#[]⟩, bl false]]⟩), (7000000, ⟨3, [Ver.row false (x.getD ver0)]⟩)]⟩) (fun j x => x = verL c.Vers t j) none rfl ?_
 intro j x hj hI
 try simp only [go_sem, hE, hH, C102_l1]
 first | refine gd_t (fun h => ?_) (fun h => ?_) | refine gd_f (fun h => ?_) (fun h => ?_)
 ·have hb := h
  simp only [nf] at h
  have hlt : j < c.Vers.length := by omega
  try simp (disch := omega) only [go_sem, hE, hH, hb]
  repeat' (first | ((with_reducible first | refine gd_t ?_ ?_ | refine gd_f ?_ ?_) <;> (intro h; have hb := h; (try simp only [nf] at h); refine sb ?_; (try clear hb))) | ((with_reducible refine And.intro ?_ ?_); · omega) | (with_reducible apply jn) | (with_reducible apply both) | (with_reducible refine And.intro ?_ ?_) | exact fj | refine st ?_ | exact fm | refine s1 ?_ | (with_reducible exact True.intro) | fail)
  all_goals first | (rw [show verL c.Vers t (j + 1) = some (nth c.Vers j) by rw [verL, if_pos h]]; rfl) | (rw [show verL c.Vers t (j + 1) = x by rw [verL, if_neg (by omega), hI]]; rfl)
 ·try simp (disch := omega) only [go_sem, hE, hH, h]
  simp only [nf] at h
  rw [show j = c.Vers.length by omega] at hI
  subst hI
  repeat' (first | ((with_reducible first | refine gd_t ?_ ?_ | refine gd_f ?_ ?_) <;> (intro h; have hb := h; (try simp only [nf] at h); refine sb ?_; (try clear hb))) | ((with_reducible refine And.intro ?_ ?_); · omega) | (with_reducible apply jn) | (with_reducible apply both) | (with_reducible refine And.intro ?_ ?_) | exact fj | refine st ?_ | exact fm | refine s1 ?_ | (with_reducible exact True.intro) | fail)
  all_goals trace_state
theorem l3Look_ok (l : List Cell) (key : ByteArray) (t : Int) (hl : l.length ≤ 2 ^ 60) (hs : srtX strLt Cell.Key l) (h1 : ∀ c ∈ l, c.Vers.length ≤ 2 ^ 60) : ACall Tryz.prog 49 [.sl false 2 (l.map (Cell.row false)), str key, i64 t] (fun r _ => r = .tup [str (lookC l key t).1, bl (lookC l key t).2]) := by
 have hmx := mx_eq
 have hc := l3At_ok l key (by omega) hs
 cases hf : cF l key with
 | false =>
  rw [hf] at hc
  simp only [Bool.false_eq_true, if_false] at hc
  rw [lookC, hf]
  refine fi H49 fun E hE hH => ?_; simp only [go_sem] at hE hH; simp only [go_sem, hE, hH, C49]
  repeat' (first | ((with_reducible first | refine gd_t ?_ ?_ | refine gd_f ?_ ?_) <;> (intro h; have hb := h; (try simp only [nf] at h); refine sb ?_; (try clear hb))) | ((with_reducible refine And.intro ?_ ?_); · omega) | ((first | refine ok_view ?_ | refine cvA (hc) ?_); refine st ?_) | refine jn _ ?_ ?_ | (with_reducible first | refine both ?_ ?_ | refine And.intro ?_ ?_) | exact fe | refine st ?_ | exact fm | refine s1 ?_ | (with_reducible exact True.intro) | fail)
  all_goals first | omega | rfl
 | true =>
  obtain ⟨k1, k2⟩ := cF_here hs hf
  have cA := l3Ver_ok (nth l (cI l key)) t (h1 _ (nth_mem k1))
  rw [hf, if_pos rfl] at hc
  rw [lookC, hf, if_pos rfl, atC, atL_ver]
  cases hv : verL (nth l (cI l key)).Vers t (nth l (cI l key)).Vers.length with
  | none =>
   rw [hv] at cA
   rw [Option.getD_none, Option.isSome_none] at cA
   refine fi H49 fun E hE hH => ?_; simp only [go_sem] at hE hH; simp only [go_sem, hE, hH, C49]
   repeat' (first | ((with_reducible first | refine gd_t ?_ ?_ | refine gd_f ?_ ?_) <;> (intro h; have hb := h; (try simp only [nf] at h); refine sb ?_; (try clear hb))) | ((with_reducible refine And.intro ?_ ?_); · omega) | ((first | refine ok_view ?_ | refine cvA (hc) ?_ | refine cvA (cA) ?_); refine st ?_) | (with_reducible apply jn) | (with_reducible apply both) | (with_reducible refine And.intro ?_ ?_) | exact fj | refine st ?_ | exact fm | refine s1 ?_ | (with_reducible exact True.intro) | fail)
   all_goals first | rfl | omega
  | some v =>
   rw [hv] at cA
   rw [Option.getD_some, Option.isSome_some] at cA
   refine fi H49 fun E hE hH => ?_; simp only [go_sem] at hE hH; simp only [go_sem, hE, hH, C49]
   repeat' (first | ((with_reducible first | refine gd_t ?_ ?_ | refine gd_f ?_ ?_) <;> (intro h; have hb := h; (try simp only [nf] at h); refine sb ?_; (try clear hb))) | ((with_reducible refine And.intro ?_ ?_); · omega) | ((first | refine ok_view ?_ | refine cvA (hc) ?_ | refine cvA (cA) ?_); refine st ?_) | (with_reducible apply jn) | (with_reducible apply both) | (with_reducible refine And.intro ?_ ?_) | exact fj | refine st ?_ | exact fm | refine s1 ?_ | (with_reducible exact True.intro) | fail)
   all_goals first | rfl | omega
theorem stored_gone {v : ByteArray} (h : stored v true = true) : v = ⟨#[]⟩ := by
 simp only [stored, Bool.true_and, Bool.and_eq_true, Bool.not_not, decide_eq_true_eq] at h
 exact h.2
theorem lookC_gone {l : List Cell} {key : ByteArray} {t : Int} (hg : goodCells l = true) (h : (lookC l key t).2 = false) : (lookC l key t).1 = ⟨#[]⟩ := by
 have hI := goodCells_I hg
 rw [lookC] at h ⊢
 cases hf : cF l key with
 | false => rfl
 | true =>
  obtain ⟨k1, k2⟩ := cF_here hI.srt hf
  rw [hf, if_pos rfl, atC, atL_ver] at h
  rw [if_pos rfl, atC, atL_ver]
  cases hv : verL (nth l (cI l key)).Vers t (nth l (cI l key)).Vers.length with
  | none => rfl
  | some v =>
   rw [hv] at h
   have hm := verL_mem (Nat.le_refl _) hv
   obtain ⟨i, hi, rfl⟩ := List.getElem_of_mem hm
   simp only [goodCells, Bool.and_eq_true] at hg
   have h2 := allN_iff.1 hg.1 _ k1
   simp only [cellAtOk, celOk, Bool.and_eq_true] at h2
   have h3 := allN_iff.1 h2.1.1.1 i hi
   simp only [verOk, Bool.and_eq_true, nth_lt hi] at h3
   simp only [Bool.not_eq_false'] at h
   have h4 := h3.1.2
   rw [h] at h4
   exact stored_gone h4
def replO (g : Group) (r : Int) (key : ByteArray) (t : Int) : Option (ByteArray × Bool) :=
 match repO g r with
 | none => none
 | some s => if (goodKey key && rng t 0 100000 && decide (t ≤ settleS s)) = true then some (lookC s.Cells key t) else none
theorem replO_eq {g : Group} {r t : Int} {key : ByteArray} {s : State} (h : repO g r = some s) : replO g r key t = if (goodKey key && rng t 0 100000 && decide (t ≤ settleS s)) = true then some (lookC s.Cells key t) else none := by
 rw [replO, h]
def replR (g : Group) (r : Int) (key : ByteArray) (t : Int) : T := match replO g r key t with
 | none => .tup [str ⟨#[]⟩, bl false, bl false]
 | some x => .tup [str x.1, bl x.2, bl true]
theorem ReplicaLook_ok (hS : SortNe) (hC : CellAtH) (g : Group) (r t : Int) (key : ByteArray) (hw : grpW g) (hk : key.size ≤ maxLen) : ACall Tryz.prog 14 [.agg (Group.row false g), i64 r, str key, i64 t] (fun x _ => x = replR g r key t) := by
 have hmx := mx_eq
 have c1 := ReplicaKnows_ok hS g r t hw
 have c2 := GoodKey_ok key hk
 have c3 := replicaState_ok hS g r hw
 cases hO : repO g r with
 | none =>
  rw [show knowsB g r t = (false, false) by rw [knowsB, hO]] at c1
  rw [replR, show replO g r key t = none by rw [replO, hO]]
  refine fi H14 fun E hE hH => ?_; simp only [go_sem] at hE hH; simp only [go_sem, hE, hH, C14]
  repeat' (first | ((with_reducible first | refine gd_t ?_ ?_ | refine gd_f ?_ ?_) <;> (intro h; have hb := h; (try simp only [nf] at h); refine sb ?_; (try clear hb))) | ((with_reducible refine And.intro ?_ ?_); · omega) | ((first | refine ok_view ?_ | refine cvA (c1) ?_); refine st ?_) | (with_reducible apply jn) | (with_reducible apply both) | (with_reducible refine And.intro ?_ ?_) | exact fj | refine st ?_ | exact fm | refine s1 ?_ | (with_reducible exact True.intro) | fail)
  all_goals first | rfl
 | some s =>
  obtain ⟨-, -, _, -, -, -, hI⟩ := repO_some hO
  have hci := goodCells_I hI.cells
  rw [hO, appR] at c3
  have c4 := cellAt_ok hC s.Cells key t (by have := hci.len; omega) hci.srt (fun c q => by have := (hci.one c q).2; omega)
  cases hT : rng t 0 100000 with
  | false =>
   rw [show knowsB g r t = (false, false) by rw [knowsB, hO, hT]; rfl] at c1
   rw [replR, show replO g r key t = none by rw [replO_eq hO, hT]; simp]
   refine fi H14 fun E hE hH => ?_; simp only [go_sem] at hE hH; simp only [go_sem, hE, hH, C14]
   repeat' (first | ((with_reducible first | refine gd_t ?_ ?_ | refine gd_f ?_ ?_) <;> (intro h; have hb := h; (try simp only [nf] at h); refine sb ?_; (try clear hb))) | ((with_reducible refine And.intro ?_ ?_); · omega) | ((first | refine ok_view ?_ | refine cvA (c1) ?_); refine st ?_) | (with_reducible apply jn) | (with_reducible apply both) | (with_reducible refine And.intro ?_ ?_) | exact fj | refine st ?_ | exact fm | refine s1 ?_ | (with_reducible exact True.intro) | fail)
   all_goals first | rfl
  | true =>
   rw [show knowsB g r t = (decide (t ≤ settleS s), true) by rw [knowsB, hO, hT]; rfl] at c1
   cases hk2 : decide (t ≤ settleS s) with
   | false =>
    rw [hk2] at c1
    rw [replR, show replO g r key t = none by rw [replO_eq hO, hk2]; simp]
    refine fi H14 fun E hE hH => ?_; simp only [go_sem] at hE hH; simp only [go_sem, hE, hH, C14]
    repeat' (first | ((with_reducible first | refine gd_t ?_ ?_ | refine gd_f ?_ ?_) <;> (intro h; have hb := h; (try simp only [nf] at h); refine sb ?_; (try clear hb))) | ((with_reducible refine And.intro ?_ ?_); · omega) | ((first | refine ok_view ?_ | refine cvA (c1) ?_); refine st ?_) | (with_reducible apply jn) | (with_reducible apply both) | (with_reducible refine And.intro ?_ ?_) | exact fj | refine st ?_ | exact fm | refine s1 ?_ | (with_reducible exact True.intro) | fail)
    all_goals first | rfl
   | true =>
    rw [hk2] at c1
    cases hg2 : goodKey key with
    | false =>
     rw [hg2] at c2
     rw [replR, show replO g r key t = none by rw [replO_eq hO, hg2]; simp]
     refine fi H14 fun E hE hH => ?_; simp only [go_sem] at hE hH; simp only [go_sem, hE, hH, C14]
     repeat' (first | ((with_reducible first | refine gd_t ?_ ?_ | refine gd_f ?_ ?_) <;> (intro h; have hb := h; (try simp only [nf] at h); refine sb ?_; (try clear hb))) | ((with_reducible refine And.intro ?_ ?_); · omega) | ((first | refine ok_view ?_ | refine cvA (c1) ?_ | refine cvA (c2) ?_); refine st ?_) | (with_reducible apply jn) | (with_reducible apply both) | (with_reducible refine And.intro ?_ ?_) | exact fj | refine st ?_ | exact fm | refine s1 ?_ | (with_reducible exact True.intro) | fail)
     all_goals first | rfl
    | true =>
     rw [hg2] at c2
     rw [replR, show replO g r key t = some (lookC s.Cells key t) by rw [replO_eq hO, hg2, hT, hk2]; rfl]
     generalize lookC s.Cells key t = q at *
     refine fi H14 fun E hE hH => ?_; simp only [go_sem] at hE hH; simp only [go_sem, hE, hH, C14]
     repeat' (first | ((with_reducible first | refine gd_t ?_ ?_ | refine gd_f ?_ ?_) <;> (intro h; have hb := h; (try simp only [nf] at h); refine sb ?_; (try clear hb))) | ((with_reducible refine And.intro ?_ ?_); · omega) | ((first | refine ok_view ?_ | refine cvA (c1) ?_ | refine cvA (c2) ?_ | refine cvA (c3) ?_ | refine cvA (c4) ?_); refine st ?_) | (with_reducible apply jn) | (with_reducible apply both) | (with_reducible refine And.intro ?_ ?_) | exact fj | refine st ?_ | exact fm | refine s1 ?_ | (with_reducible exact True.intro) | fail)
     all_goals first | rfl
theorem sReplicaLook_ok (g : Group) (r t : Int) (key : ByteArray) (hw : grpW g) (hk : key.size ≤ maxLen) : ACall Tryz.prog 13 [.agg (Group.row false g), i64 r, str key, i64 t] (fun x _ => x = replR g r key t) := by
 have hmx := mx_eq
 have c1 := l17Rep_ok g r hw
 have c2 := l3Key_ok key hk
 have c5 := l2True_ok t
 cases hO : repO g r with
 | none =>
  rw [replR, show replO g r key t = none by rw [replO, hO]]
  rw [hO, Option.isSome_none] at c1
  refine fi H13 fun E hE hH => ?_; simp only [go_sem] at hE hH; simp only [go_sem, hE, hH, C13]
  repeat' (first | ((with_reducible first | refine gd_t ?_ ?_ | refine gd_f ?_ ?_) <;> (intro h; have hb := h; (try simp only [nf] at h); refine sb ?_; (try clear hb))) | ((with_reducible refine And.intro ?_ ?_); · omega) | ((first | refine ok_view ?_ | refine cvA (c1) ?_); refine st ?_) | (with_reducible apply jn) | (with_reducible apply both) | (with_reducible refine And.intro ?_ ?_) | exact fj | refine st ?_ | exact fm | refine s1 ?_ | (with_reducible exact True.intro) | fail)
  all_goals first | rfl
 | some s =>
  rw [hO, Option.isSome_some] at c1
  obtain ⟨hg, -, k, rfl, hk', rfl, hI⟩ := repO_some hO
  have hci := goodCells_I hI.cells
  have c3 := l13Settled_ok _ hI.tm (by have := hI.hlen; omega)
  have c4 := l17Knows_ok g k hg hk'
  have c6 := l3Look_ok (repS (nth g.Reps k)).Cells key t (by have := hci.len; omega) hci.srt (fun c q => by have := (hci.one c q).2; omega)
  cases hg2 : goodKey key with
  | false =>
   rw [hg2] at c2
   rw [replR, show replO g k key t = none by rw [replO_eq hO, hg2]; simp]
   refine fi H13 fun E hE hH => ?_; simp only [go_sem] at hE hH; simp only [go_sem, hE, hH, C13]
   repeat' (first | ((with_reducible first | refine gd_t ?_ ?_ | refine gd_f ?_ ?_) <;> (intro h; have hb := h; (try simp only [nf] at h); refine sb ?_; (try clear hb))) | ((with_reducible refine And.intro ?_ ?_); · omega) | ((first | refine ok_view ?_ | refine cvA (c1) ?_ | refine cvA (c2) ?_); refine st ?_) | (with_reducible apply jn) | (with_reducible apply both) | (with_reducible refine And.intro ?_ ?_) | exact fj | refine st ?_ | exact fm | refine s1 ?_ | (with_reducible exact True.intro) | fail)
   all_goals first | rfl
  | true =>
   rw [hg2] at c2
   cases hT : rng t 0 100000 with
   | false =>
    rw [hT] at c5
    rw [replR, show replO g k key t = none by rw [replO_eq hO, hT]; simp]
    refine fi H13 fun E hE hH => ?_; simp only [go_sem] at hE hH; simp only [go_sem, hE, hH, C13]
    repeat' (first | ((with_reducible first | refine gd_t ?_ ?_ | refine gd_f ?_ ?_) <;> (intro h; have hb := h; (try simp only [nf] at h); refine sb ?_; (try clear hb))) | ((with_reducible refine And.intro ?_ ?_); · omega) | ((first | refine ok_view ?_ | refine cvA (c1) ?_ | refine cvA (c2) ?_ | refine cvA (c5) ?_); refine st ?_) | (with_reducible apply jn) | (with_reducible apply both) | (with_reducible refine And.intro ?_ ?_) | exact fj | refine st ?_ | exact fm | refine s1 ?_ | (with_reducible exact True.intro) | fail)
    all_goals first | rfl
   | true =>
    rw [hT] at c5
    by_cases hk2 : t ≤ settleS (repS (nth g.Reps k))
    ·rw [replR, show replO g k key t = some (lookC (repS (nth g.Reps k)).Cells key t) by rw [replO_eq hO, hg2, hT, decide_eq_true hk2]; rfl]
     have hq := lookC_gone (key := key) (t := t) hI.cells
     generalize lookC (repS (nth g.Reps k)).Cells key t = q at *
     obtain ⟨qv, qb⟩ := q
     cases qb with
     | false =>
      have hq : qv = ⟨#[]⟩ := hq rfl
      subst hq
      refine fi H13 fun E hE hH => ?_; simp only [go_sem] at hE hH; simp only [go_sem, hE, hH, C13]
      repeat' (first | ((with_reducible first | refine gd_t ?_ ?_ | refine gd_f ?_ ?_) <;> (intro h; have hb := h; (try simp only [nf] at h); refine sb ?_; (try clear hb))) | ((with_reducible refine And.intro ?_ ?_); · omega) | ((first | refine ok_view ?_ | refine cvA (c1) ?_ | refine cvA (c2) ?_ | refine cvA (c5) ?_ | refine cvA (c3) ?_ | refine cvA (c4) ?_ | refine cvA (c6) ?_); refine st ?_) | (with_reducible apply jn) | (with_reducible apply both) | (with_reducible refine And.intro ?_ ?_) | exact fj | refine st ?_ | exact fm | refine s1 ?_ | (with_reducible exact True.intro) | fail)
      all_goals first | rfl | omega
     | true =>
      refine fi H13 fun E hE hH => ?_; simp only [go_sem] at hE hH; simp only [go_sem, hE, hH, C13]
      repeat' (first | ((with_reducible first | refine gd_t ?_ ?_ | refine gd_f ?_ ?_) <;> (intro h; have hb := h; (try simp only [nf] at h); refine sb ?_; (try clear hb))) | ((with_reducible refine And.intro ?_ ?_); · omega) | ((first | refine ok_view ?_ | refine cvA (c1) ?_ | refine cvA (c2) ?_ | refine cvA (c5) ?_ | refine cvA (c3) ?_ | refine cvA (c4) ?_ | refine cvA (c6) ?_); refine st ?_) | (with_reducible apply jn) | (with_reducible apply both) | (with_reducible refine And.intro ?_ ?_) | exact fj | refine st ?_ | exact fm | refine s1 ?_ | (with_reducible exact True.intro) | fail)
      all_goals first | rfl | omega
    ·rw [replR, show replO g k key t = none by rw [replO_eq hO, decide_eq_false hk2]; simp]
     refine fi H13 fun E hE hH => ?_; simp only [go_sem] at hE hH; simp only [go_sem, hE, hH, C13]
     repeat' (first | ((with_reducible first | refine gd_t ?_ ?_ | refine gd_f ?_ ?_) <;> (intro h; have hb := h; (try simp only [nf] at h); refine sb ?_; (try clear hb))) | ((with_reducible refine And.intro ?_ ?_); · omega) | ((first | refine ok_view ?_ | refine cvA (c1) ?_ | refine cvA (c2) ?_ | refine cvA (c5) ?_ | refine cvA (c3) ?_ | refine cvA (c4) ?_); refine st ?_) | (with_reducible apply jn) | (with_reducible apply both) | (with_reducible refine And.intro ?_ ?_) | exact fj | refine st ?_ | exact fm | refine s1 ?_ | (with_reducible exact True.intro) | fail)
     all_goals first | rfl | omega
theorem FnExactReplicaLook_ok (hS : SortNe) (hC : CellAtH) (vG : Group) (vR : Int) (vKey : ByteArray) (vTime : Int) (wG : vG.wf) (wR : -9223372036854775808 ≤ vR ∧ vR ≤ 9223372036854775807) (wKey : vKey.size ≤ maxLen) (wTime : -9223372036854775808 ≤ vTime ∧ vTime ≤ 9223372036854775807) : ACall Tryz.prog 4 [.agg (Group.row false vG), i64 vR, str vKey, i64 vTime] (fun r _ => r = bl true) := by
 have hmx := mx_eq
 have lG : vG.lim := Group.lim_of wG
 refine fi H4 fun E hE hH => ?_; simp only [go_sem] at hE hH; simp only [go_sem, hE, hH, C4]
 try simp (disch := omega) only [go_sem, hE, hH]
 first | refine gd_t (fun g1 => ?_) (fun g1 => ?_) | refine gd_f (fun g1 => ?_) (fun g1 => ?_)
 ·try simp (disch := omega) only [go_sem, hE, hH, g1]
 have gb1 := g1
 simp only [nf] at g1
 try simp (disch := omega) only [go_sem, hE, hH, gb1]
 have sKey : vKey.size ≤ 2 ^ 20 := by omega
 refine ok_view ?_; simp (disch := omega) only [go_sem, hE, hH]; refine cvA (szGroup_ok vG _ (by decide) (by decide) wG) ?_
 refine aftV_intro ?_
 rintro r l ⟨n2, rfl, hn2, hsz2⟩
 try simp (disch := omega) only [go_sem, hE, hH]
 first | refine gd_t (fun h2 => ?_) (fun h2 => ?_) | refine gd_f (fun h2 => ?_) (fun h2 => ?_)
 ·try simp (disch := omega) only [go_sem, hE, hH, h2]
 have hb2 := h2
 simp only [nf] at h2
 try simp (disch := omega) only [go_sem, hE, hH, hb2]
 have sG : vG.sz ≤ 2 ^ 20 := by have := hsz2 h2; omega
 have hp := grpW_of wG sG
 have c1 := ReplicaLook_ok hS hC vG vR vTime vKey hp wKey
 have c2 := sReplicaLook_ok vG vR vTime vKey hp wKey
 simp only [replR] at c1 c2
 cases hr : replO vG vR vKey vTime with
 | none =>
  rw [hr] at c1 c2
  repeat' (first | ((with_reducible first | refine gd_t ?_ ?_ | refine gd_f ?_ ?_) <;> (intro h; have hb := h; (try simp only [nf] at h); refine sb ?_; (try clear hb))) | ((with_reducible refine And.intro ?_ ?_); · omega) | ((first | refine ok_view ?_ | refine cvA (toGroup_ok vG sG) ?_ | refine cvA (c1) ?_ | refine cvA (c2) ?_ | refine cvA (eqGroup_ok vG vG lG) ?_); refine st ?_) | (with_reducible apply jn) | (with_reducible apply both) | (with_reducible refine And.intro ?_ ?_) | exact fj | refine st ?_ | exact fm | refine s1 ?_ | (with_reducible exact True.intro) | fail)
  all_goals first | rfl | omega
 | some q =>
  rw [hr] at c1 c2
  repeat' (first | ((with_reducible first | refine gd_t ?_ ?_ | refine gd_f ?_ ?_) <;> (intro h; have hb := h; (try simp only [nf] at h); refine sb ?_; (try clear hb))) | ((with_reducible refine And.intro ?_ ?_); · omega) | ((first | refine ok_view ?_ | refine cvA (toGroup_ok vG sG) ?_ | refine cvA (c1) ?_ | refine cvA (c2) ?_ | refine cvA (eqGroup_ok vG vG lG) ?_); refine st ?_) | (with_reducible apply jn) | (with_reducible apply both) | (with_reducible refine And.intro ?_ ?_) | exact fj | refine st ?_ | exact fm | refine s1 ?_ | (with_reducible exact True.intro) | fail)
  all_goals first | rfl | omega
end Go.Proofs.Wb

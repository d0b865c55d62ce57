import Derived.Test.YtpkhdekgoppcmaaGreatFnExactNewWorldY2
import Derived.Laws.Externs
set_option linter.all false
set_option maxHeartbeats 4000000
namespace Go.Proofs.Wb
open Tryz renaming prog → p_
open Go Go.Am
theorem mG_hG {n j : Nat} (h : j < n) : ∃ m, n = j + 1 + m := ⟨n - j - 1, by omega⟩
@[go_sem] theorem wkR_eq (n : Nat) (cuts : List ByteArray) (G L T1 L1 : List (List T)) : wkR n cuts G L T1 L1 = [i64 0, i64 0, .sl true 1 (List.replicate (3 * n) [i64 0]), .sl true 1 (strs cuts), .sl true 3 G, .sl true 1 L, .sl true 1 (List.replicate n [i64 0]), .sl true 10 T1, .sl true 6 L1] := rfl
def repNG (j : Nat) (gs : List Group) : Prop := gs = List.replicate j newG
theorem repNG_hG {n : Nat} {gs : List Group} (h : repNG n gs) : gs.map (Group.row true) = hG n 0 := by
 rw [show gs = _ from h, List.map_replicate, hG_zero]
theorem NewWorld_ok (cuts : List ByteArray) (ps : List (List Op)) (ls : List (List ByteArray)) (hc : limL (fun s => s.size ≤ maxLen) cuts) (hp : wfL (wfL Op.wf) ps) (hl : limL (limL (fun s => s.size ≤ maxLen)) ls) (hp2 : ∀ p ∈ ps, p.length ≤ 2 ^ 20) (hl2 : ∀ l ∈ ls, l.length ≤ 2 ^ 20) (hc2 : cuts.length ≤ 2 ^ 20) (hp3 : ps.length ≤ 2 ^ 20) (hl3 : ls.length ≤ 2 ^ 20) :
  ACall p_ 11 [.sl false 1 (strs cuts), .sl false 1 (ps.map fun y => [.sl false 4 (y.map (Op.row false))]), .sl false 1 (ls.map fun y => [.sl false 1 (strs y)])] (fun r _ => r = .tup [.agg (World.row true (nwR cuts ps ls).1), bl (nwR cuts ps ls).2]) := by
 have hmx := mx_eq
 have c1 := GoodCuts_ok cuts hc
 have c2 := ContainsFunc_OpS_ok ps 32 [] (fun p => !wProgOk p) (by kernel_rfl) rfl (by omega) (fun p h => NewWorld_1_ok p (hp.2 p h))
 have c3 := ContainsFunc_StringS_ok ls 35 [] (fun p => !keysOk p) (by kernel_rfl) rfl (by omega) (fun p h => NewWorld_2_ok p (hl.2 p h))
 rw [show (ps.any fun p => !wProgOk p) = !(ps.all wProgOk) by rw [List.all_eq_not_any_not]; simp] at c2
 rw [show (ls.any fun p => !keysOk p) = !(ls.all keysOk) by rw [List.all_eq_not_any_not]; simp] at c3
 cases hN : newC cuts ps ls with
 | false =>
  rw [nwR, hN]
  simp only [Bool.false_eq_true, if_false]
  by_cases a1 : (cuts.length : Int) ≤ 2
  ·cases a2 : cutsOk cuts with
   | false =>
    rw [a2] at c1
    refine fg H11 fun E hE hH => ?_; simp only [go_sem, hE, hH, C11]
    repeat' (first | ((with_reducible first | refine gd_t ?_ ?_ | refine gd_f ?_ ?_) <;> (intro h; have hb := h; (try simp only [nf] at h); simp (disch := omega) only [go_sem, hE, hH, hb]; (try clear hb))) | ((with_reducible refine And.intro ?_ ?_); · omega) | ((first | refine ok_view ?_ | refine cvA (c1) ?_ | refine cvA (c2) ?_ | refine cvA (c3) ?_); simp (disch := omega) only [go_sem, hE, hH]) | (with_reducible first | apply jn | apply both | refine And.intro ?_ ?_) | ((with_reducible apply fin_eq); (try (simp (disch := omega) only [go_sem, hE, hH])); first | done | rfl) | (simp (disch := omega) only [go_sem, hE, hH]) | ((first | apply noMLL_sE | apply pk_sE) <;> (simp only [go_sem, hE, hH]; done)) | (simp only [go_sem, hE, hH]) | fail)
    all_goals first | rfl | (exfalso; omega)
   | true =>
    rw [a2] at c1
    by_cases a3 : (ps.length : Int) ≤ 6
    ·cases a4 : ps.all wProgOk with
     | false =>
      rw [a4] at c2
      refine fg H11 fun E hE hH => ?_; simp only [go_sem, hE, hH, C11]
      repeat' (first | ((with_reducible first | refine gd_t ?_ ?_ | refine gd_f ?_ ?_) <;> (intro h; have hb := h; (try simp only [nf] at h); simp (disch := omega) only [go_sem, hE, hH, hb]; (try clear hb))) | ((with_reducible refine And.intro ?_ ?_); · omega) | ((first | refine ok_view ?_ | refine cvA (c1) ?_ | refine cvA (c2) ?_ | refine cvA (c3) ?_); simp (disch := omega) only [go_sem, hE, hH]) | (with_reducible first | apply jn | apply both | refine And.intro ?_ ?_) | ((with_reducible apply fin_eq); (try (simp (disch := omega) only [go_sem, hE, hH])); first | done | rfl) | (simp (disch := omega) only [go_sem, hE, hH]) | ((first | apply noMLL_sE | apply pk_sE) <;> (simp only [go_sem, hE, hH]; done)) | (simp only [go_sem, hE, hH]) | fail)
      all_goals first | rfl | (exfalso; omega)
     | true =>
      rw [a4] at c2
      by_cases a5 : (ls.length : Int) ≤ 4
      ·cases a6 : ls.all keysOk with
       | false =>
        rw [a6] at c3
        refine fg H11 fun E hE hH => ?_; simp only [go_sem, hE, hH, C11]
        repeat' (first | ((with_reducible first | refine gd_t ?_ ?_ | refine gd_f ?_ ?_) <;> (intro h; have hb := h; (try simp only [nf] at h); simp (disch := omega) only [go_sem, hE, hH, hb]; (try clear hb))) | ((with_reducible refine And.intro ?_ ?_); · omega) | ((first | refine ok_view ?_ | refine cvA (c1) ?_ | refine cvA (c2) ?_ | refine cvA (c3) ?_); simp (disch := omega) only [go_sem, hE, hH]) | (with_reducible first | apply jn | apply both | refine And.intro ?_ ?_) | ((with_reducible apply fin_eq); (try (simp (disch := omega) only [go_sem, hE, hH])); first | done | rfl) | (simp (disch := omega) only [go_sem, hE, hH]) | ((first | apply noMLL_sE | apply pk_sE) <;> (simp only [go_sem, hE, hH]; done)) | (simp only [go_sem, hE, hH]) | fail)
        all_goals first | rfl | (exfalso; omega)
       | true => exfalso; simp [newC, a1, a2, a3, a4, a5, a6] at hN
      ·refine fg H11 fun E hE hH => ?_; simp only [go_sem, hE, hH, C11]
       repeat' (first | ((with_reducible first | refine gd_t ?_ ?_ | refine gd_f ?_ ?_) <;> (intro h; have hb := h; (try simp only [nf] at h); simp (disch := omega) only [go_sem, hE, hH, hb]; (try clear hb))) | ((with_reducible refine And.intro ?_ ?_); · omega) | ((first | refine ok_view ?_ | refine cvA (c1) ?_ | refine cvA (c2) ?_ | refine cvA (c3) ?_); simp (disch := omega) only [go_sem, hE, hH]) | (with_reducible first | apply jn | apply both | refine And.intro ?_ ?_) | ((with_reducible apply fin_eq); (try (simp (disch := omega) only [go_sem, hE, hH])); first | done | rfl) | (simp (disch := omega) only [go_sem, hE, hH]) | ((first | apply noMLL_sE | apply pk_sE) <;> (simp only [go_sem, hE, hH]; done)) | (simp only [go_sem, hE, hH]) | fail)
       all_goals first | rfl | (exfalso; omega)
    ·refine fg H11 fun E hE hH => ?_; simp only [go_sem, hE, hH, C11]
     repeat' (first | ((with_reducible first | refine gd_t ?_ ?_ | refine gd_f ?_ ?_) <;> (intro h; have hb := h; (try simp only [nf] at h); simp (disch := omega) only [go_sem, hE, hH, hb]; (try clear hb))) | ((with_reducible refine And.intro ?_ ?_); · omega) | ((first | refine ok_view ?_ | refine cvA (c1) ?_ | refine cvA (c2) ?_ | refine cvA (c3) ?_); simp (disch := omega) only [go_sem, hE, hH]) | (with_reducible first | apply jn | apply both | refine And.intro ?_ ?_) | ((with_reducible apply fin_eq); (try (simp (disch := omega) only [go_sem, hE, hH])); first | done | rfl) | (simp (disch := omega) only [go_sem, hE, hH]) | ((first | apply noMLL_sE | apply pk_sE) <;> (simp only [go_sem, hE, hH]; done)) | (simp only [go_sem, hE, hH]) | fail)
     all_goals first | rfl | (exfalso; omega)
  ·refine fg H11 fun E hE hH => ?_; simp only [go_sem, hE, hH, C11]
   repeat' (first | ((with_reducible first | refine gd_t ?_ ?_ | refine gd_f ?_ ?_) <;> (intro h; have hb := h; (try simp only [nf] at h); simp (disch := omega) only [go_sem, hE, hH, hb]; (try clear hb))) | ((with_reducible refine And.intro ?_ ?_); · omega) | ((first | refine ok_view ?_ | refine cvA (c1) ?_ | refine cvA (c2) ?_ | refine cvA (c3) ?_); simp (disch := omega) only [go_sem, hE, hH]) | (with_reducible first | apply jn | apply both | refine And.intro ?_ ?_) | ((with_reducible apply fin_eq); (try (simp (disch := omega) only [go_sem, hE, hH])); first | done | rfl) | (simp (disch := omega) only [go_sem, hE, hH]) | ((first | apply noMLL_sE | apply pk_sE) <;> (simp only [go_sem, hE, hH]; done)) | (simp only [go_sem, hE, hH]) | fail)
   all_goals first | rfl | (exfalso; omega)
 | true =>
  rw [nwR, hN]
  simp only [if_true]
  simp only [newC, Bool.and_eq_true, decide_eq_true_eq] at hN
  obtain ⟨⟨⟨⟨⟨a1, a2⟩, a3⟩, a4⟩, a5⟩, a6⟩ := hN
  rw [a2] at c1
  rw [a4] at c2
  rw [a6] at c3
  rw [newW_row]
  obtain ⟨n, hn⟩ : ∃ n, n = cuts.length + 1 := ⟨_, rfl⟩
  rw [← hn]
  have hnI : (cuts.length : Int) + 1 = n := by omega
  have t1 : (3 * (n : Int)).toNat = 3 * n := by omega
  have t2 : (n : Int).toNat = n := by omega
  refine fg H11 fun E hE hH => ?_; simp only [go_sem, hE, hH, C11]
  repeat' (first | ((with_reducible first | refine gd_t ?_ ?_ | refine gd_f ?_ ?_) <;> (intro h; have hb := h; (try simp only [nf] at h); simp (disch := omega) only [go_sem, hE, hH, hnI, t1, t2, hb]; (try clear hb))) | ((with_reducible refine And.intro ?_ ?_); · omega) | ((first | refine ok_view ?_ | refine cvA (c1) ?_ | refine cvA (c2) ?_ | refine cvA (c3) ?_ | refine cvA (Clone_String_ok cuts hc2) ?_); simp (disch := omega) only [go_sem, hE, hH, hnI, t1, t2]) | (with_reducible first | apply jn | apply both | refine And.intro ?_ ?_) | ((with_reducible apply fin_eq); (try (simp (disch := omega) only [go_sem, hE, hH, hnI, t1, t2])); first | done | rfl) | (simp (disch := omega) only [go_sem, hE, hH, hnI, t1, t2]) | ((first | apply noMLL_sE | apply pk_sE) <;> (simp only [go_sem, hE, hH, hnI, t1, t2]; done)) | (simp only [go_sem, hE, hH, hnI, t1, t2]) | fail)
  all_goals try (exfalso; omega)
  have hB : n ≤ 3 := by omega
  have n3 : n ≤ 2 ^ 20 := by omega
  refine loopNe n (fun j (gs : List Group) => ⟨[(1, .sl false 1 (ps.map fun y => [.sl false 4 (y.map (Op.row false))])), (2, .sl false 1 (ls.map fun y => [.sl false 1 (strs y)])), (6, .ptr 7000000 0 0), (8, i64 n), (9, .ptr 10000000 0 0), (56, i64 n), (57, i64 j)], [(7000000, ⟨9, [[i64 0, i64 0, nils, nils, nils, nils, nils, nils, nils]]⟩), (10000000, ⟨9, [wkR n cuts (gs.map (Group.row true)) (List.replicate n [nils]) [] []]⟩)]⟩) (fun j gs => repNG j gs) [] rfl rfl ?_
  intro j gs hj hgs
  have hlen : gs.length = j := by rw [show gs = _ from hgs, List.length_replicate]
  try simp only [go_sem, hE, hH, C11_l1]
  first | refine gd_t (fun h => ?_) (fun h => ?_) | refine gd_f (fun h => ?_) (fun h => ?_)
  ·have hb := h
   simp only [nf] at h
   have hlt : j < n := by omega
   clear h
   try simp (disch := omega) only [go_sem, hE, hH, hb]
   repeat' (first | ((with_reducible first | refine gd_t ?_ ?_ | refine gd_f ?_ ?_) <;> (intro h; have hb := h; (try simp only [nf] at h); simp (disch := omega) only [go_sem, hE, hH, hb]; (try clear hb))) | ((with_reducible refine And.intro ?_ ?_); · omega) | ((first | refine ok_view ?_ | refine cvA (NewGroup_ok) ?_); simp (disch := omega) only [go_sem, hE, hH]) | (with_reducible first | apply jn | apply both | refine And.intro ?_ ?_) | ((with_reducible apply fin_eq); (try (simp (disch := omega) only [go_sem, hE, hH])); first | done | rfl) | (simp (disch := omega) only [go_sem, hE, hH]) | ((first | apply noMLL_sE | apply pk_sE) <;> (simp only [go_sem, hE, hH]; done)) | (simp only [go_sem, hE, hH]) | fail)
   all_goals first | omega | (refine ⟨gs ++ [newG], ?_, by unfold repNG at hgs ⊢; rw [List.replicate_succ', hgs]⟩; rw [List.map_append]; first | rfl | (simp only [hlen]; rfl))
  ·try simp (disch := omega) only [go_sem, hE, hH, h]
   simp only [nf] at h
   obtain rfl : j = n := by omega
   rw [repNG_hG hgs]
   clear hgs hlen gs h
   repeat' (first | ((with_reducible first | refine gd_t ?_ ?_ | refine gd_f ?_ ?_) <;> (intro h; have hb := h; (try simp only [nf] at h); simp (disch := omega) only [go_sem, hE, hH, hb]; (try clear hb))) | ((with_reducible refine And.intro ?_ ?_); · omega) | (with_reducible first | apply jn | apply both | refine And.intro ?_ ?_) | ((with_reducible apply fin_eq); (try (simp (disch := omega) only [go_sem, hE, hH])); first | done | rfl) | (simp (disch := omega) only [go_sem, hE, hH]) | ((first | apply noMLL_sE | apply pk_sE) <;> (simp only [go_sem, hE, hH]; done)) | (simp only [go_sem, hE, hH]) | fail)
   refine loopNe j (fun i (_ : Unit) => ⟨[(1, .sl false 1 (ps.map fun y => [.sl false 4 (y.map (Op.row false))])), (2, .sl false 1 (ls.map fun y => [.sl false 1 (strs y)])), (6, .ptr 7000000 0 0), (8, i64 j), (9, .ptr 10000000 0 0), (70, i64 j), (71, i64 i)], [(7000000, ⟨9, [[i64 0, i64 0, nils, nils, nils, nils, nils, nils, nils]]⟩), (10000000, ⟨9, [wkR j cuts (hG j i) (hL j i) [] []]⟩)]⟩) (fun _ _ => True) () (by rw [hL_zero]; rfl) trivial ?_
   intro i _ hi _
   try simp only [go_sem, hE, hH, C11_l2]
   first | refine gd_t (fun h => ?_) (fun h => ?_) | refine gd_f (fun h => ?_) (fun h => ?_)
   ·have hb := h
    simp only [nf] at h
    have hlt : i < j := by omega
    clear h
    obtain ⟨m, rfl⟩ := mG_hG hlt
    have e3 : (i : Int) * 3 = (3 * i : Nat) := by omega
    have g1 := hG_mid i m
    have g2 := hL_mid i m
    try simp (disch := omega) only [go_sem, hE, hH, e3, g1, g2, hb]
    repeat' (first | ((with_reducible first | refine gd_t ?_ ?_ | refine gd_f ?_ ?_) <;> (intro h; have hb := h; (try simp only [nf] at h); simp (disch := omega) only [go_sem, hE, hH, e3, g1, g2, hb]; (try clear hb))) | ((with_reducible refine And.intro ?_ ?_); · omega) | (refine ok_lend [true, false] ?_; simp (disch := omega) only [go_sem, hE, hH, e3, g1, g2]; refine cmA (electW_ok i m (by omega) cuts) ?_; simp (disch := omega) only [go_sem, hE, hH, e3, g1, g2]) | (with_reducible first | apply jn | apply both | refine And.intro ?_ ?_) | ((with_reducible apply fin_eq); (try (simp (disch := omega) only [go_sem, hE, hH, e3, g1, g2])); first | done | rfl) | (simp (disch := omega) only [go_sem, hE, hH, e3, g1, g2]) | ((first | apply noMLL_sE | apply pk_sE) <;> (simp only [go_sem, hE, hH, e3, g1, g2]; done)) | (simp only [go_sem, hE, hH, e3, g1, g2]) | fail)
    all_goals first | omega | (refine ⟨(), ?_⟩; rw [← mid_hG, ← mid_hL]; rfl)
   ·try simp (disch := omega) only [go_sem, hE, hH, h]
    simp only [nf] at h
    obtain rfl : i = j := by omega
    clear h
    repeat' (first | ((with_reducible first | refine gd_t ?_ ?_ | refine gd_f ?_ ?_) <;> (intro h; have hb := h; (try simp only [nf] at h); simp (disch := omega) only [go_sem, hE, hH, hb]; (try clear hb))) | ((with_reducible refine And.intro ?_ ?_); · omega) | (with_reducible first | apply jn | apply both | refine And.intro ?_ ?_) | ((with_reducible apply fin_eq); (try (simp (disch := omega) only [go_sem, hE, hH])); first | done | rfl) | (simp (disch := omega) only [go_sem, hE, hH]) | ((first | apply noMLL_sE | apply pk_sE) <;> (simp only [go_sem, hE, hH]; done)) | (simp only [go_sem, hE, hH]) | fail)
    refine loopNe ps.length (fun k (_ : Unit) => ⟨[(2, .sl false 1 (ls.map fun y => [.sl false 1 (strs y)])), (6, .ptr 7000000 0 0), (8, i64 i), (9, .ptr 10000000 0 0), (78, .sl false 1 (ps.map fun y => [.sl false 4 (y.map (Op.row false))])), (79, i64 ps.length), (80, i64 k)], [(7000000, ⟨9, [[i64 0, i64 0, nils, nils, nils, nils, nils, nils, nils]]⟩), (10000000, ⟨9, [wkR i cuts (hG i i) (hL i i) ((newTs i (ps.take k)).map (WorldTxn.row true)) []]⟩)]⟩) (fun _ _ => True) () rfl trivial ?_
    intro k _ hk _
    try simp only [go_sem, hE, hH, C11_l3]
    first | refine gd_t (fun h => ?_) (fun h => ?_) | refine gd_f (fun h => ?_) (fun h => ?_)
    ·have hb := h
     simp only [nf] at h
     have hlt : k < ps.length := by omega
     clear h
     have hlen : (newTs i (ps.take k)).length = k := by rw [newTs_len, List.length_take]; omega
     have htk : (newTs i (ps.take k)).take k = newTs i (ps.take k) := List.take_of_length_le (by omega)
     have hgd := fun r => getD_ma (f := WorldTxn.row true) (l := newTs i (ps.take k)) (r := r)
     have hst := fun r r2 => set_ma (f := WorldTxn.row true) (l := newTs i (ps.take k)) (r := r) (r' := r2)
     simp only [hlen] at hgd hst
     try simp (disch := omega) only [go_sem, hE, hH, hlen, htk, hgd, hst, t2, hb]
     repeat' (first | ((with_reducible first | refine gd_t ?_ ?_ | refine gd_f ?_ ?_) <;> (intro h; have hb := h; (try simp only [nf] at h); simp (disch := omega) only [go_sem, hE, hH, hlen, htk, hgd, hst, t2, hb]; (try clear hb))) | ((with_reducible refine And.intro ?_ ?_); · omega) | ((first | refine ok_view ?_ | refine cvA (Clone_Op_ok (nth ps k) (hp2 _ (nth_mem hlt))) ?_); simp (disch := omega) only [go_sem, hE, hH, hlen, htk, hgd, hst, t2]) | (with_reducible first | apply jn | apply both | refine And.intro ?_ ?_) | ((with_reducible apply fin_eq); (try (simp (disch := omega) only [go_sem, hE, hH, hlen, htk, hgd, hst, t2])); first | done | rfl) | (simp (disch := omega) only [go_sem, hE, hH, hlen, htk, hgd, hst, t2]) | ((first | apply noMLL_sE | apply pk_sE) <;> (simp only [go_sem, hE, hH, hlen, htk, hgd, hst, t2]; done)) | (simp only [go_sem, hE, hH, hlen, htk, hgd, hst, t2]) | fail)
     all_goals first | omega | (refine ⟨(), ?_⟩; rw [newTs_succ hlt, List.map_append]; simp only [newT, List.map_cons, List.map_nil, WorldTxn.row, ints, List.map_replicate]; rfl)
    ·try simp (disch := omega) only [go_sem, hE, hH, h]
     simp only [nf] at h
     rw [show k = ps.length by omega, List.take_length]
     clear h
     repeat' (first | ((with_reducible first | refine gd_t ?_ ?_ | refine gd_f ?_ ?_) <;> (intro h; have hb := h; (try simp only [nf] at h); simp (disch := omega) only [go_sem, hE, hH, hb]; (try clear hb))) | ((with_reducible refine And.intro ?_ ?_); · omega) | (with_reducible first | apply jn | apply both | refine And.intro ?_ ?_) | ((with_reducible apply fin_eq); (try (simp (disch := omega) only [go_sem, hE, hH])); first | done | rfl) | (simp (disch := omega) only [go_sem, hE, hH]) | ((first | apply noMLL_sE | apply pk_sE) <;> (simp only [go_sem, hE, hH]; done)) | (simp only [go_sem, hE, hH]) | fail)
     refine loopNe ls.length (fun q (_ : Unit) => ⟨[(6, .ptr 7000000 0 0), (9, .ptr 10000000 0 0), (95, .sl false 1 (ls.map fun y => [.sl false 1 (strs y)])), (96, i64 ls.length), (97, i64 q)], [(7000000, ⟨9, [[i64 0, i64 0, nils, nils, nils, nils, nils, nils, nils]]⟩), (10000000, ⟨9, [wkR i cuts (hG i i) (hL i i) ((newTs i ps).map (WorldTxn.row true)) ((lksN i ls q).map (WorldLook.row true))]⟩)]⟩) (fun _ _ => True) () rfl trivial ?_
     intro q _ hq _
     have hlen := lksN_len (n := i) (j := q) (ls := ls)
     have e5 : Int.tmod (q : Int) ((3 * i : Nat) : Int) = ((q % (3 * i) : Nat) : Int) := rfl
     try simp only [go_sem, hE, hH, C11_l4]
     first | refine gd_t (fun h => ?_) (fun h => ?_) | refine gd_f (fun h => ?_) (fun h => ?_)
     ·have hb := h
      simp only [nf] at h
      have hlt : q < ls.length := by omega
      clear h
      have htk : (lksN i ls q).take q = lksN i ls q := List.take_of_length_le (by omega)
      have hgd := fun r => getD_ma (f := WorldLook.row true) (l := lksN i ls q) (r := r)
      have hst := fun r r2 => set_ma (f := WorldLook.row true) (l := lksN i ls q) (r := r) (r' := r2)
      simp only [hlen] at hgd hst
      have cS := Clone_String_ok (nth ls q) (hl2 _ (nth_mem hlt))
      try simp (disch := omega) only [go_sem, hE, hH, hlen, htk, hgd, hst, e5, hb]
      repeat' (first | ((with_reducible first | refine gd_t ?_ ?_ | refine gd_f ?_ ?_) <;> (intro h; have hb := h; (try simp only [nf] at h); simp (disch := omega) only [go_sem, hE, hH, hlen, htk, hgd, hst, e5, hb]; (try clear hb))) | ((with_reducible refine And.intro ?_ ?_); · omega) | ((first | refine ok_view ?_ | refine cvA (cS) ?_); simp (disch := omega) only [go_sem, hE, hH, hlen, htk, hgd, hst, e5]) | (with_reducible first | apply jn | apply both | refine And.intro ?_ ?_) | ((with_reducible apply fin_eq); (try (simp (disch := omega) only [go_sem, hE, hH, hlen, htk, hgd, hst, e5])); first | done | rfl) | (simp (disch := omega) only [go_sem, hE, hH, hlen, htk, hgd, hst, e5]) | ((first | apply noMLL_sE | apply pk_sE) <;> (simp only [go_sem, hE, hH, hlen, htk, hgd, hst, e5]; done)) | (simp only [go_sem, hE, hH, hlen, htk, hgd, hst, e5]) | fail)
      all_goals first | omega | (refine ⟨(), ?_⟩; rw [lksN_succ, List.map_append]; rfl)
     ·have h2 := h
      simp only [nf] at h2
      obtain rfl : q = ls.length := by omega
      rw [hG_end, hL_end]
      try simp (disch := omega) only [go_sem, hE, hH, h]
      repeat' (first | ((with_reducible first | refine gd_t ?_ ?_ | refine gd_f ?_ ?_) <;> (intro h; have hb := h; (try simp only [nf] at h); simp (disch := omega) only [go_sem, hE, hH, hb]; (try clear hb))) | ((with_reducible refine And.intro ?_ ?_); · omega) | (with_reducible first | apply jn | apply both | refine And.intro ?_ ?_) | ((with_reducible apply fin_eq); (try (simp (disch := omega) only [go_sem, hE, hH])); first | done | rfl) | (simp (disch := omega) only [go_sem, hE, hH]) | ((first | apply noMLL_sE | apply pk_sE) <;> (simp only [go_sem, hE, hH]; done)) | (simp only [go_sem, hE, hH]) | fail)
      all_goals first | omega | rfl
theorem l13Of0_ok : ACall p_ 138 [.sl false 7 []] (fun x _ => x = .tup [.agg (State.row true z0S), .sl true 1 []]) := by
 have hmx := mx_eq
 refine fg H138 fun E hE hH => ?_; simp only [go_sem, hE, hH, C138]
 refine loopNe 0 (fun j (_ : Unit) => ⟨[(2, .ptr 3000000 0 0), (4, .ptr 5000000 0 0), (5, .ref 6000000 0 0), (10, .sl false 7 []), (11, i64 0), (12, i64 0)], [(3000000, ⟨4, [[i64 0, nils, nils, nils]]⟩), (5000000, ⟨4, [[i64 0, nils, nils, nils]]⟩), (6000000, ⟨1, []⟩)]⟩) (fun _ _ => True) () rfl trivial ?_
 intro j _ hj _
 try simp only [go_sem, hE, hH, C138_l1]
 repeat' (first | ((with_reducible apply ga) <;> refine gs fun h => ?_) | ((with_reducible apply an); · omega) | (with_reducible first | apply jn | apply both | apply an | exact ti) | exact fj | refine st ?_ | exact fm | refine s1 ?_)
 all_goals first | omega | rfl | exact ⟨rfl, rfl⟩ | (simp [State.row, z0S]; done)
theorem l16Means0_ok : ACall p_ 107 [.sl false 8 [], i64 0] (fun x _ => x = .agg (State.row true z0S)) := by
 have hmx := mx_eq
 have c1 := l13Of0_ok
 refine fg H107 fun E hE hH => ?_; simp only [go_sem, hE, hH, C107]
 refine And.intro (by decide) ?_
 refine loopNe 0 (fun j (_ : Unit) => ⟨[(4, .ptr 5000000 0 0), (5, .ref 6000000 0 0), (12, .sl false 8 []), (13, i64 0), (14, i64 0)], [(5000000, ⟨4, [[i64 0, nils, nils, nils]]⟩), (6000000, ⟨7, []⟩)]⟩) (fun _ _ => True) () rfl trivial ?_
 intro j _ hj _
 try simp only [go_sem, hE, hH, C107_l1]
 repeat' (first | ((with_reducible apply ga) <;> refine gs fun h => ?_) | ((with_reducible apply an); · omega) | ((first | refine ok_view ?_ | refine cvA (c1) ?_); refine st ?_) | (with_reducible first | apply jn | apply both | apply an | exact ti) | exact fj | refine st ?_ | exact fm | refine s1 ?_)
 all_goals first | omega | rfl | exact ⟨rfl, rfl⟩ | (simp [State.row, z0S]; done)
theorem l14Floor0_ok : ACall p_ 69 [.agg (State.row false z0S), .agg [i64 (-5), i64 5]] (fun x _ => x = i64 15) := by
 have hmx := mx_eq
 have z4 : z0S.Floor = 0 := rfl
 have c1 := l1Most_ok (0 + 1) (5 + 10)
 rw [show mostI (0 + 1) (5 + 10) = 15 from rfl] at c1
 have c2 := l1Most_ok 1 15
 rw [show mostI 1 15 = 15 from rfl] at c2
 refine fg H69 fun E hE hH => ?_; simp only [go_sem, hE, hH, C69]
 all_goals (have y1_ := z4; repeat' (first | ((with_reducible apply ga) <;> refine gs1_ fun h => ?_) | ((with_reducible apply an); · omega) | ((first | refine ok_view ?_ | refine cvA (c1) ?_ | refine cvA (c2) ?_); refine st1_ ?_) | (with_reducible first | apply jn | apply both | apply an | exact ti) | exact fj1_ | refine st1_ ?_ | exact fm1_ | refine s11_ ?_))
 all_goals first | omega | rfl
open Go.Proofs.Wb renaming l2At_ok → z0_, H71 → z1_, C71 → z2_ in
theorem sWspan_ok (j m i : Nat) (hi : i < 3 * (j + 1 + m)) (hn : j + m ≤ 100) (cuts : List ByteArray) (X L : List T) (ts : List WorldTxn) (lo : List WorldLook) (hX1 : packedL X) (hX2 : dshL X = X) (hL1 : packedL L) (hL2 : dshL L = L) : ACall p_ 71 [.bx false (wRowS j m cuts X L (some (ts.map (WorldTxn.row false))) (some (lo.map (WorldLook.row false)))), i64 i] (fun x _ => x = .agg [i64 (-5), i64 5]) := Q21_
theorem sWfull_ok (j m : Nat) (hn : j + m ≤ 100) (cuts : List ByteArray) (ts : List WorldTxn) (lo : List WorldLook) : ACall p_ 70 [.bx false (wRowS j m cuts (Group.row false elG) [.sl false 3 []] (some (ts.map (WorldTxn.row false))) (some (lo.map (WorldLook.row false)))), i64 j] (fun x _ => x = .agg (State.row true z0S)) := by
 have hmx := mx_eq
 have c1 := l16Means0_ok
 have e1 : elG.Reps.length = 3 := rfl
 have e2 : elG.Term = 1 := rfl
 have e3 : elG.Lead = 0 := rfl
 have e4 : nth elG.Reps 0 = ⟨true, [], 0⟩ := rfl
 have hj0 : j < j + 1 + m := by omega
 refine fg H70 fun E hE hH => ?_; simp only [go_sem, hE, hH, C70]
 all_goals (have y1_ := e1; have y2_ := e2; have y3_ := e3; have y4_ := e4; have y5_ := hj0; repeat' (first | ((with_reducible apply ga) <;> refine gs6_ fun h => ?_) | ((with_reducible apply an); · omega) | ((first | refine ok_view ?_ | refine cvA (c1) ?_); refine st6_ ?_) | (with_reducible first | apply jn | apply both | apply an | exact ti) | exact fj6_ | refine st6_ ?_ | exact fm6_ | refine s16_ ?_))
 all_goals first | omega | rfl
theorem sspreadW_ok (j m : Nat) (hn : j + m ≤ 100) (cuts : List ByteArray) (ts : List WorldTxn) (lo : List WorldLook) : ACall p_ 105 [.bx true (wRow j m cuts (Group.row true ptG) [.sl true 3 []] (some (ts.map (WorldTxn.row true))) (some (lo.map (WorldLook.row true)))), i64 j] (fun r a => r = .tup [] ∧ a = [.bx true (wRow j m cuts (Group.row true adG) [.sl true 3 []] (some (ts.map (WorldTxn.row true))) (some (lo.map (WorldLook.row true)))), i64 j]) := by
 have hmx := mx_eq
 have k0 := scopySelf_ok ptG ptG_wf.1 grp_oks.2.2.1 rfl (by decide) rfl
 have k1 := scopyTo_ok ptG 1 ptG_wf.1 ptG_wf.2 grp_oks.2.2.1 rfl (by decide) (by decide) rfl rfl rfl
 rw [cpy_pt] at k1
 have k2 := scopyTo_ok c1G 2 c1G_wf.1 c1G_wf.2 grp_oks.2.2.2.1 rfl (by decide) (by decide) rfl rfl rfl
 rw [cpy_c1] at k2
 have k3 := sadvNew_ok
 refine fg H105 fun E hE hH => ?_; simp only [go_sem, hE, hH, C105]
 refine loopNe 3 (fun q (_ : Unit) => ⟨[(0, .ptr 0 0 0), (1, i64 j), (4, i64 q)], [(0, ⟨9, [wRow j m cuts (Group.row true (spG q)) [.sl true 3 []] (some (ts.map (WorldTxn.row true))) (some (lo.map (WorldLook.row true)))]⟩)]⟩) (fun _ _ => True) () rfl trivial ?_
 intro q _ hq _
 obtain rfl | rfl | rfl | rfl : q = 0 ∨ q = 1 ∨ q = 2 ∨ q = 3 := by omega
 ·try simp only [go_sem, hE, hH, C105_l1, spG]
  repeat' (first | ((with_reducible apply ga) <;> refine gs fun h => ?_) | ((with_reducible apply an); · omega) | ((first | refine ok_view ?_ | refine cvA (k0) ?_); refine st ?_) | (with_reducible first | apply jn | apply both | apply an | exact ti) | exact fj | refine st ?_ | exact fm | refine s1 ?_)
  all_goals first | omega | exact ⟨(), rfl⟩
 ·try simp only [go_sem, hE, hH, C105_l1, spG]
  repeat' (first | ((with_reducible apply ga) <;> refine gs fun h => ?_) | ((with_reducible apply an); · omega) | ((first | refine ok_view ?_ | refine cvA (k1) ?_); refine st ?_) | (with_reducible first | apply jn | apply both | apply an | exact ti) | exact fj | refine st ?_ | exact fm | refine s1 ?_)
  all_goals first | omega | exact ⟨(), rfl⟩
 ·try simp only [go_sem, hE, hH, C105_l1, spG]
  repeat' (first | ((with_reducible apply ga) <;> refine gs fun h => ?_) | ((with_reducible apply an); · omega) | ((first | refine ok_view ?_ | refine cvA (k2) ?_); refine st ?_) | (with_reducible first | apply jn | apply both | apply an | exact ti) | exact fj | refine st ?_ | exact fm | refine s1 ?_)
  all_goals first | omega | exact ⟨(), rfl⟩
 ·try simp only [go_sem, hE, hH, C105_l1, spG]
  repeat' (first | ((with_reducible apply ga) <;> refine gs fun h => ?_) | ((with_reducible apply an); · omega) | ((first | refine ok_view ?_ | refine cvA (k3) ?_); refine st ?_) | (with_reducible first | apply jn | apply both | apply an | exact ti) | exact fj | refine st ?_ | exact fm | refine s1 ?_)
  all_goals first | omega | rfl
theorem sputW_ok (j m : Nat) (hn : j + m ≤ 100) (cuts : List ByteArray) (ts : List WorldTxn) (lo : List WorldLook) : ACall p_ 68 [.bx true (wRow j m cuts (Group.row true elG) [.sl true 3 []] (some (ts.map (WorldTxn.row true))) (some (lo.map (WorldLook.row true)))), i64 j, .agg [i64 4, i64 0, i64 15, i64 0, nils, nils, bl false]] (fun r a => r = bl true ∧ a = [.bx true (wRow j m cuts (Group.row true adG) [.sl true 3 []] (some (ts.map (WorldTxn.row true))) (some (lo.map (WorldLook.row true)))), i64 j, .agg [i64 4, i64 0, i64 15, i64 0, nils, nils, bl false]]) := by
 have hmx := mx_eq
 by_cases hjm : 0 < j + m
 ·have hid := idsB_mG hjm
  simp only [idsB] at hid
  refine fg H68 fun E hE hH => ?_; simp only [go_sem, hE, hH, C68]
  all_goals (have y1_ := hid; repeat' (first | ((with_reducible apply ga) <;> refine gs1_ fun h => ?_) | ((with_reducible apply an); · omega) | (refine ok_lend [true, false] ?_; refine st1_ ?_; refine cmA (sspreadW_ok j m hn cuts ts lo) ?_; refine st1_ ?_) | ((first | refine ok_view ?_ | refine cvAn (sputNew_ok) ?_); refine st1_ ?_) | (with_reducible first | apply jn | apply both | apply an | exact ti) | exact fj1_ | refine st1_ ?_ | exact fm1_ | refine s11_ ?_))
  all_goals first | omega | rfl
 ·obtain rfl : j = 0 := by omega
  obtain rfl : m = 0 := by omega
  have hid := idsB_m0
  simp only [idsB] at hid
  refine fg H68 fun E hE hH => ?_; simp only [go_sem, hE, hH, C68]
  all_goals (have y1_ := hid; repeat' (first | ((with_reducible apply ga) <;> refine gs1_ fun h => ?_) | ((with_reducible apply an); · omega) | (refine ok_lend [true, false] ?_; refine st1_ ?_; refine cmA (sspreadW_ok 0 0 hn cuts ts lo) ?_; refine st1_ ?_) | ((first | refine ok_view ?_ | refine cvAn (sputNew_ok) ?_); refine st1_ ?_) | (with_reducible first | apply jn | apply both | apply an | exact ti) | exact fj1_ | refine st1_ ?_ | exact fm1_ | refine s11_ ?_))
  all_goals first | omega | rfl
theorem selectW_ok (j m : Nat) (hn : j + m ≤ 100) (cuts : List ByteArray) (ts : List WorldTxn) (lo : List WorldLook) : ACall p_ 27 [.bx true (wRow j m cuts (Group.row true newG) [nils] (some (ts.map (WorldTxn.row true))) (some (lo.map (WorldLook.row true)))), i64 (3 * j : Nat)] (fun r a => r = bl true ∧ a = [.bx true (wRow j m cuts (Group.row true adG) [.sl true 3 []] (some (ts.map (WorldTxn.row true))) (some (lo.map (WorldLook.row true)))), i64 (3 * j : Nat)]) := by
 have hmx := mx_eq
 have q1 : Int.tdiv ((3 * j : Nat) : Int) 3 = j := by rw [Int.natCast_mul]; exact Int.mul_tdiv_cancel_left _ (by decide)
 have q2 : Int.tmod ((3 * j : Nat) : Int) 3 = 0 := by rw [Int.natCast_mul]; exact Int.mul_tmod_right _ _
 have r1 : (List.replicate (j + 1 + m) [i64 0]).getD j [] = [i64 0] := getD_rep (by omega)
 have r2 : List.drop 1 [i64 0] = [] := rfl
 have r3 : (List.replicate (j + 1 + m) [i64 0]).set j [i64 0] = List.replicate (j + 1 + m) [i64 0] := List.set_replicate_self ..
 have hj0 : j < j + 1 + m := by omega
 have cf := sWfull_ok j m hn cuts ts lo
 have cs := sWspan_ok j m (3 * j) (by omega) hn cuts (Group.row false elG) [.sl false 3 []] ts lo (by simp only [go_sem]) rfl (by simp only [go_sem]) rfl
 refine fg H27 fun E hE hH => ?_; simp only [go_sem, hE, hH, C27]
 all_goals (have y1_ := q1; have y2_ := q2; have y3_ := r1; have y4_ := r2; have y5_ := r3; have y6_ := hj0; repeat' (first | ((with_reducible apply ga) <;> refine gs10_ fun h => ?_) | ((with_reducible apply an); · omega) | (refine ok_lend [true, false, false] ?_; refine st10_ ?_; refine cmA (sputW_ok j m hn cuts ts lo) ?_; refine st10_ ?_) | ((first | refine ok_view ?_ | refine cvA (selectNew_ok) ?_ | refine cvA (cf) ?_ | refine cvA (cs) ?_ | refine cvA (l14Floor0_ok) ?_); refine st10_ ?_) | (with_reducible first | apply jn | apply both | apply an | exact ti) | exact fj10_ | refine st10_ ?_ | exact fm10_ | refine s110_ ?_))
 all_goals first | omega | rfl
theorem l1Own_ok (l : List Int) (hl : l.length ≤ 2 ^ 20) : ACall p_ 72 [.sl false 1 (ints l)] (fun r _ => r = .sl true 1 (ints l)) := by
 refine fg H72 fun E hE hH => ?_; simp only [go_sem, hE, hH, C72]
 try refine st ?_; try exact ⟨⟩
 omega
structure wldB (w : World) : Prop where
 ck : w.Clocks.length ≤ 2 ^ 20
 cu : w.Cuts.length ≤ 2 ^ 20
 gl : w.Groups.length ≤ 2 ^ 20
 gx : ∀ g ∈ w.Groups, grpB g
 ll : w.Locks.length = w.Groups.length
 lx : ∀ l ∈ w.Locks, l.length ≤ 2 ^ 20
 pr : w.Promised.length ≤ 2 ^ 20
 tl : w.Txns.length ≤ 2 ^ 20
 tx : ∀ t ∈ w.Txns, t.Ops.length ≤ 2 ^ 20 ∧ t.Got.length ≤ 2 ^ 20 ∧ t.Terms.length ≤ 2 ^ 20
 kl : w.Looks.length ≤ 2 ^ 20
 kx : ∀ l ∈ w.Looks, l.Keys.length ≤ 2 ^ 20 ∧ l.Got.length ≤ 2 ^ 20
def oR (w : World) (G L T1 L1 : List (List T)) : List T := [i64 w.Now, i64 w.Count, .sl true 1 (w.Clocks.map (Clock.row true)), .sl true 1 (strs w.Cuts), .sl true 3 G, .sl true 1 L, .sl true 1 (ints w.Promised), .sl true 10 T1, .sl true 6 L1]
@[go_sem] theorem oR_eq (w : World) (G L T1 L1 : List (List T)) : oR w G L T1 L1 = [i64 w.Now, i64 w.Count, .sl true 1 (w.Clocks.map (Clock.row true)), .sl true 1 (strs w.Cuts), .sl true 3 G, .sl true 1 L, .sl true 1 (ints w.Promised), .sl true 10 T1, .sl true 6 L1] := rfl
def lkRow (y : List Lock) : List T := [.sl true 3 (y.map (Lock.row true))]
@[go_sem] theorem lkRow_eq (y : List Lock) : lkRow y = [.sl true 3 (y.map (Lock.row true))] := rfl
theorem l16Own_ok (w : World) (hw : wldB w) : ACall p_ 28 [.agg (World.row false w)] (fun x _ => x = .agg (World.row true w)) := by
 have hmx := mx_eq
 obtain ⟨h1, h2, h3, h4, h5, h6, h7, h8, h9, h10, h11⟩ := hw
 refine fg H28 fun E hE hH => ?_; simp only [go_sem, hE, hH, C28]
 repeat' (first | ((with_reducible apply ga) <;> refine gs fun h => ?_) | ((with_reducible apply an); · omega) | ((first | refine ok_view ?_ | refine cvA (l1OwnS_ok w.Cuts h2) ?_ | refine cvA (l1Own_ok w.Promised h7) ?_); refine st ?_) | (with_reducible first | apply jn | apply both | apply an | exact ti) | exact fj | refine st ?_ | exact fm | refine s1 ?_)
 all_goals try omega
 refine loopNe w.Groups.length (fun j (_ : Unit) => ⟨[(1, .ptr 2000000 0 0), (2, .ptr 3000000 0 0), (3, .ptr 4000000 0 0), (26, .sl false 3 (w.Groups.map (Group.row false))), (27, i64 w.Groups.length), (28, i64 j)], [(2000000, ⟨9, [World.row false w]⟩), (3000000, ⟨9, [[i64 0, i64 0, nils, nils, nils, nils, nils, nils, nils]]⟩), (4000000, ⟨9, [oR w ((w.Groups.take j).map (Group.row true)) ((w.Locks.take j).map lkRow) [] []]⟩)]⟩) (fun _ _ => True) () rfl trivial ?_
 intro j _ hj _
 try simp only [go_sem, hE, hH, C28_l1]
 first | refine gd_t (fun h => ?_) (fun h => ?_) | refine gd_f (fun h => ?_) (fun h => ?_)
 ·have hb := h
  simp only [nf] at h
  have hlt : j < w.Groups.length := by omega
  clear h
  have n1 : (w.Groups.take j).length = j := by rw [List.length_take]; omega
  have n2 : (w.Locks.take j).length = j := by rw [List.length_take]; omega
  have k1 : (w.Groups.take j).take j = w.Groups.take j := by rw [List.take_take, Nat.min_self]
  have k2 : (w.Locks.take j).take j = w.Locks.take j := by rw [List.take_take, Nat.min_self]
  have g1 := fun r => getD_ma (f := Group.row true) (l := w.Groups.take j) (r := r)
  have s1 := fun r r2 => set_ma (f := Group.row true) (l := w.Groups.take j) (r := r) (r' := r2)
  have g2 := fun r => getD_ma (f := lkRow) (l := w.Locks.take j) (r := r)
  have s2 := fun r r2 => set_ma (f := lkRow) (l := w.Locks.take j) (r := r) (r' := r2)
  simp only [n1, n2] at g1 s1 g2 s2
  have hL := h6 _ (nth_mem (show j < w.Locks.length by omega))
  have cG := l9Own_ok (nth w.Groups j) (h4 _ (nth_mem hlt))
  have hlL : j < w.Locks.length := by omega
  try simp (disch := omega) only [go_sem, hE, hH, n1, n2, k1, k2, g1, s1, g2, s2, hlL, hb]
  all_goals (have y1_ := n1; have y2_ := n2; have y3_ := k1; have y4_ := k2; have y5_ := g1; have y6_ := s1; have y7_ := g2; have y8_ := s2; have y9_ := hlL; repeat' (first | ((with_reducible apply ga) <;> refine gs9_ fun h => ?_) | ((with_reducible apply an); · omega) | ((first | refine ok_view ?_ | refine cvA (cG) ?_); refine st9_ ?_) | (with_reducible first | apply jn | apply both | apply an | exact ti) | exact fj9_ | refine st9_ ?_ | exact fm9_ | refine s19_ ?_))
  all_goals first | omega | (refine ⟨(), ?_⟩; rw [take_nth hlt, take_nth hlL, List.map_append, List.map_append]; rfl)
 ·have hh := h
  simp only [nf] at hh
  obtain rfl : j = w.Groups.length := by omega
  rw [List.take_length, show w.Locks.take w.Groups.length = w.Locks by rw [← h5, List.take_length]]
  try simp (disch := omega) only [go_sem, hE, hH, h]
  repeat' (first | ((with_reducible apply ga) <;> refine gs fun h => ?_) | ((with_reducible apply an); · omega) | (with_reducible first | apply jn | apply both | apply an | exact ti) | exact fj | refine st ?_ | exact fm | refine s1 ?_)
  all_goals try omega
  refine loopNe w.Txns.length (fun k (_ : Unit) => ⟨[(1, .ptr 2000000 0 0), (2, .ptr 3000000 0 0), (3, .ptr 4000000 0 0), (54, .sl false 10 (w.Txns.map (WorldTxn.row false))), (55, i64 w.Txns.length), (56, i64 k)], [(2000000, ⟨9, [World.row false w]⟩), (3000000, ⟨9, [[i64 0, i64 0, nils, nils, nils, nils, nils, nils, nils]]⟩), (4000000, ⟨9, [oR w (w.Groups.map (Group.row true)) (w.Locks.map lkRow) ((w.Txns.take k).map (WorldTxn.row true)) []]⟩)]⟩) (fun _ _ => True) () rfl trivial ?_
  intro k _ hk _
  try simp only [go_sem, hE, hH, C28_l2]
  first | refine gd_t (fun h => ?_) (fun h => ?_) | refine gd_f (fun h => ?_) (fun h => ?_)
  ·have hb := h
   simp only [nf] at h
   have hlt : k < w.Txns.length := by omega
   clear h
   have n1 : (w.Txns.take k).length = k := by rw [List.length_take]; omega
   have k1 : (w.Txns.take k).take k = w.Txns.take k := by rw [List.take_take, Nat.min_self]
   have g1 := fun r => getD_ma (f := WorldTxn.row true) (l := w.Txns.take k) (r := r)
   have s1 := fun r r2 => set_ma (f := WorldTxn.row true) (l := w.Txns.take k) (r := r) (r' := r2)
   simp only [n1] at g1 s1
   obtain ⟨b1, b2, b3⟩ := h9 _ (nth_mem hlt)
   have cT := l1Own_ok (nth w.Txns k).Terms b3
   try simp (disch := omega) only [go_sem, hE, hH, n1, k1, g1, s1, hb]
   all_goals (have y1_ := n1; have y2_ := k1; have y3_ := g1; have y4_ := s1; repeat' (first | ((with_reducible apply ga) <;> refine gs3_ fun h => ?_) | ((with_reducible apply an); · omega) | ((first | refine ok_view ?_ | refine cvA (cT) ?_); refine st3_ ?_) | (with_reducible first | apply jn | apply both | apply an | exact ti) | exact fj3_ | refine st3_ ?_ | exact fm3_ | refine s13_ ?_))
   all_goals first | omega | (refine ⟨(), ?_⟩; rw [take_nth hlt, List.map_append]; rfl)
  ·have hh := h
   simp only [nf] at hh
   obtain rfl : k = w.Txns.length := by omega
   rw [List.take_length]
   try simp (disch := omega) only [go_sem, hE, hH, h]
   repeat' (first | ((with_reducible apply ga) <;> refine gs fun h => ?_) | ((with_reducible apply an); · omega) | (with_reducible first | apply jn | apply both | apply an | exact ti) | exact fj | refine st ?_ | exact fm | refine s1 ?_)
   all_goals try omega
   refine loopNe w.Looks.length (fun q (_ : Unit) => ⟨[(2, .ptr 3000000 0 0), (3, .ptr 4000000 0 0), (82, .sl false 6 (w.Looks.map (WorldLook.row false))), (83, i64 w.Looks.length), (84, i64 q)], [(3000000, ⟨9, [[i64 0, i64 0, nils, nils, nils, nils, nils, nils, nils]]⟩), (4000000, ⟨9, [oR w (w.Groups.map (Group.row true)) (w.Locks.map lkRow) (w.Txns.map (WorldTxn.row true)) ((w.Looks.take q).map (WorldLook.row true))]⟩)]⟩) (fun _ _ => True) () rfl trivial ?_
   intro q _ hq _
   try simp only [go_sem, hE, hH, C28_l3]
   first | refine gd_t (fun h => ?_) (fun h => ?_) | refine gd_f (fun h => ?_) (fun h => ?_)
   ·have hb := h
    simp only [nf] at h
    have hlt : q < w.Looks.length := by omega
    clear h
    have n1 : (w.Looks.take q).length = q := by rw [List.length_take]; omega
    have k1 : (w.Looks.take q).take q = w.Looks.take q := by rw [List.take_take, Nat.min_self]
    have g1 := fun r => getD_ma (f := WorldLook.row true) (l := w.Looks.take q) (r := r)
    have s1 := fun r r2 => set_ma (f := WorldLook.row true) (l := w.Looks.take q) (r := r) (r' := r2)
    simp only [n1] at g1 s1
    obtain ⟨b1, b2⟩ := h11 _ (nth_mem hlt)
    have cS := l1OwnS_ok (nth w.Looks q).Keys b1
    try simp (disch := omega) only [go_sem, hE, hH, n1, k1, g1, s1, hb]
    all_goals (have y1_ := n1; have y2_ := k1; have y3_ := g1; have y4_ := s1; repeat' (first | ((with_reducible apply ga) <;> refine gs3_ fun h => ?_) | ((with_reducible apply an); · omega) | ((first | refine ok_view ?_ | refine cvA (cS) ?_); refine st3_ ?_) | (with_reducible first | apply jn | apply both | apply an | exact ti) | exact fj3_ | refine st3_ ?_ | exact fm3_ | refine s13_ ?_))
    all_goals first | omega | (refine ⟨(), ?_⟩; rw [take_nth hlt, List.map_append]; rfl)
   ·have hh := h
    simp only [nf] at hh
    obtain rfl : q = w.Looks.length := by omega
    rw [List.take_length]
    try simp (disch := omega) only [go_sem, hE, hH, h]
    repeat' (first | ((with_reducible apply ga) <;> refine gs fun h => ?_) | ((with_reducible apply an); · omega) | (with_reducible first | apply jn | apply both | apply an | exact ti) | exact fj | refine st ?_ | exact fm | refine s1 ?_)
    all_goals first | omega | rfl
theorem nwR_no {cuts : List ByteArray} {ps : List (List Op)} {ls : List (List ByteArray)} (h : newC cuts ps ls = false) : nwR cuts ps ls = (zeroW, false) := by rw [nwR, h]; rfl
theorem nwR_yes {cuts : List ByteArray} {ps : List (List Op)} {ls : List (List ByteArray)} (h : newC cuts ps ls = true) : nwR cuts ps ls = (newW cuts ps ls, true) := by rw [nwR, h]; rfl
theorem newW_B {cuts : List ByteArray} {ps : List (List Op)} {ls : List (List ByteArray)} (hc : cuts.length ≤ 2) (hp : ps.length ≤ 6) (hl : ls.length ≤ 4) (hp2 : ∀ p ∈ ps, p.length ≤ 2 ^ 20) (hl2 : ∀ l ∈ ls, l.length ≤ 2 ^ 20) : wldB (newW cuts ps ls) := by
 have hA : grpB adG := (grp_mk (by decide) (by intro r hr; simp [adG, rpN] at hr; rcases hr with rfl | rfl <;> exact .inr rfl)).2
 refine ⟨?_, ?_, ?_, fun g hg => ?_, ?_, fun l hl => ?_, ?_, ?_, fun t ht => ?_, ?_, fun l hl => ?_⟩
 ·simp only [newW, List.length_replicate]; omega
 ·simp only [newW]; omega
 ·simp only [newW, List.length_replicate]; omega
 ·rw [List.eq_of_mem_replicate hg]; exact hA
 ·simp only [newW, List.length_replicate]
 ·rw [List.eq_of_mem_replicate hl]; exact Nat.zero_le _
 ·simp only [newW, List.length_replicate]; omega
 ·simp only [newW, newTs_len]; omega
 ·obtain ⟨p, hp, rfl⟩ := List.mem_map.1 ht
  refine ⟨hp2 p hp, Nat.zero_le _, ?_⟩
  simp only [newT, List.length_replicate]; omega
 ·simp only [newW, newLs_len]; omega
 ·obtain ⟨k, hk, rfl⟩ := List.mem_map.1 hl
  exact ⟨hl2 _ (nth_mem (by simpa using hk)), Nat.zero_le _⟩
theorem newW_rowF (cuts : List ByteArray) (ps : List (List Op)) (ls : List (List ByteArray)) : World.row false (newW cuts ps ls) = [i64 0, i64 0, .sl false 1 (List.replicate (3 * (cuts.length + 1)) [i64 0]), .sl false 1 (strs cuts), .sl false 3 (List.replicate (cuts.length + 1) (Group.row false adG)), .sl false 1 (List.replicate (cuts.length + 1) [.sl false 3 []]), .sl false 1 (List.replicate (cuts.length + 1) [i64 0]), .sl false 10 ((newTs (cuts.length + 1) ps).map (WorldTxn.row false)), .sl false 6 ((newLs (cuts.length + 1) ls).map (WorldLook.row false))] := by
 simp only [World.row, newW, List.map_replicate, ints]
 rfl
theorem noShLL_rep {r : List T} (h : noShL r) : ∀ n : Nat, noShLL (List.replicate n r)
 | 0 => noShLL_nil.2 trivial
 | n + 1 => by rw [List.replicate_succ]; exact noShLL_cons.2 ⟨h, noShLL_rep h n⟩
theorem sNewWorld_ok (cuts : List ByteArray) (ps : List (List Op)) (ls : List (List ByteArray)) (hc : limL (fun s => s.size ≤ maxLen) cuts) (hp : wfL (wfL Op.wf) ps) (hl : limL (limL (fun s => s.size ≤ maxLen)) ls) (hp2 : ∀ p ∈ ps, p.length ≤ 2 ^ 20) (hl2 : ∀ l ∈ ls, l.length ≤ 2 ^ 20) (hc2 : cuts.length ≤ 2 ^ 20) (hp3 : ps.length ≤ 2 ^ 20) (hl3 : ls.length ≤ 2 ^ 20) :
  ACall p_ 7 [.sl false 1 (strs cuts), .sl false 1 (ps.map fun y => [.sl false 4 (y.map (Op.row false))]), .sl false 1 (ls.map fun y => [.sl false 1 (strs y)])] (fun r _ => r = .tup [.agg (World.row true (nwR cuts ps ls).1), bl (nwR cuts ps ls).2]) := by
 have hmx := mx_eq
 have c1 := l15Cuts_ok cuts hc
 by_cases hA : ((cutsOk cuts = true ∧ (cuts.length : Int) ≤ 2) ∧ (ps.length : Int) ≤ 6) ∧ (ls.length : Int) ≤ 4
 ·obtain ⟨⟨⟨a2, a1⟩, a3⟩, a5⟩ := hA
  rw [a2] at c1
  obtain ⟨n, hn⟩ : ∃ n, n = cuts.length + 1 := ⟨_, rfl⟩
  have hnI : (cuts.length : Int) + 1 = n := by omega
  have t1 : (3 * (n : Int)).toNat = 3 * n := by omega
  have t2 : (n : Int).toNat = n := by omega
  have hB : n ≤ 3 := by omega
  have n3 : n ≤ 2 ^ 20 := by omega
  generalize hRR : World.row true (nwR cuts ps ls).1 = RW
  generalize hRb : (nwR cuts ps ls).2 = Rb
  refine fg H7 fun E hE hH => ?_; simp only [go_sem, hE, hH, C7]
  repeat' (first | ((with_reducible first | refine gd_t ?_ ?_ | refine gd_f ?_ ?_) <;> (intro h; have hb := h; (try simp only [nf] at h); simp (disch := omega) only [go_sem, hE, hH, hb]; (try clear hb))) | ((with_reducible refine And.intro ?_ ?_); · omega) | ((first | refine ok_view ?_ | refine cvA (c1) ?_); simp (disch := omega) only [go_sem, hE, hH]) | (with_reducible first | apply jn | apply both | refine And.intro ?_ ?_) | ((with_reducible apply fin_eq); (try (simp (disch := omega) only [go_sem, hE, hH])); first | done | rfl) | (simp (disch := omega) only [go_sem, hE, hH]) | ((first | apply noMLL_sE | apply pk_sE) <;> (simp only [go_sem, hE, hH]; done)) | (simp only [go_sem, hE, hH]) | fail)
  all_goals try (exfalso; omega)
  refine loopNe ps.length (fun j (_ : Unit) => ⟨[(0, .sl false 1 (strs cuts)), (1, .sl false 1 (ps.map fun y => [.sl false 4 (y.map (Op.row false))])), (2, .sl false 1 (ls.map fun y => [.sl false 1 (strs y)])), (6, .ptr 7000000 0 0), (41, .sl false 1 (ps.map fun y => [.sl false 4 (y.map (Op.row false))])), (42, i64 ps.length), (43, i64 j)], [(7000000, ⟨9, [[i64 0, i64 0, nils, nils, nils, nils, nils, nils, nils]]⟩)]⟩) (fun j _ => allN (fun i => wProgOk (nth ps i)) j = true) () rfl rfl ?_
  intro j _ hj hI
  try simp only [go_sem, hE, hH, C7_l1]
  first | refine gd_t (fun h => ?_) (fun h => ?_) | refine gd_f (fun h => ?_) (fun h => ?_)
  ·have hb := h
   simp only [nf] at h
   have hlt : j < ps.length := by omega
   clear h
   have hbad : wProgOk (nth ps j) = false → nwR cuts ps ls = (zeroW, false) := fun q => nwR_no (by
    have : ps.all wProgOk = false := by rw [List.all_eq_false]; exact ⟨_, nth_mem hlt, by rw [q]; simp⟩
    simp [newC, this])
   have c2 := l5Good_ok (nth ps j) (hp.2 _ (nth_mem hlt))
   cases q : wProgOk (nth ps j) with
   | false =>
    rw [hbad q] at hRR hRb
    subst hRR
    subst hRb
    try simp (disch := omega) only [go_sem, hE, hH, hb]
    repeat' (first | ((with_reducible first | refine gd_t ?_ ?_ | refine gd_f ?_ ?_) <;> (intro h; have hb := h; (try simp only [nf] at h); simp (disch := omega) only [go_sem, hE, hH, hb]; (try clear hb))) | ((with_reducible refine And.intro ?_ ?_); · omega) | ((first | refine ok_view ?_ | refine cvA (c2) ?_); simp (disch := omega) only [go_sem, hE, hH]) | (with_reducible first | apply jn | apply both | refine And.intro ?_ ?_) | ((with_reducible apply fin_eq); (try (simp (disch := omega) only [go_sem, hE, hH])); first | done | rfl) | (simp (disch := omega) only [go_sem, hE, hH]) | ((first | apply noMLL_sE | apply pk_sE) <;> (simp only [go_sem, hE, hH]; done)) | (simp only [go_sem, hE, hH]) | fail)
    all_goals first | omega | rfl | (exfalso; simp_all [wProgOk]; done) | (exfalso; simp_all [wProgOk]; omega)
   | true =>
    have q2 := q
    simp only [wProgOk, Bool.and_eq_true, decide_eq_true_eq] at q2
    rw [q2.2] at c2
    try simp (disch := omega) only [go_sem, hE, hH, hb]
    repeat' (first | ((with_reducible first | refine gd_t ?_ ?_ | refine gd_f ?_ ?_) <;> (intro h; have hb := h; (try simp only [nf] at h); simp (disch := omega) only [go_sem, hE, hH, hb]; (try clear hb))) | ((with_reducible refine And.intro ?_ ?_); · omega) | ((first | refine ok_view ?_ | refine cvA (c2) ?_); simp (disch := omega) only [go_sem, hE, hH]) | (with_reducible first | apply jn | apply both | refine And.intro ?_ ?_) | ((with_reducible apply fin_eq); (try (simp (disch := omega) only [go_sem, hE, hH])); first | done | rfl) | (simp (disch := omega) only [go_sem, hE, hH]) | ((first | apply noMLL_sE | apply pk_sE) <;> (simp only [go_sem, hE, hH]; done)) | (simp only [go_sem, hE, hH]) | fail)
    all_goals first | omega | exact ⟨(), rfl, allN_step hI q⟩
  ·have hh := h
   simp only [nf] at hh
   obtain rfl : j = ps.length := by omega
   have a4 : ps.all wProgOk = true := by rw [← allN_all (p := wProgOk)]; exact hI
   clear hI hj hh
   try simp (disch := omega) only [go_sem, hE, hH, h]
   clear h
   repeat' (first | ((with_reducible first | refine gd_t ?_ ?_ | refine gd_f ?_ ?_) <;> (intro h; have hb := h; (try simp only [nf] at h); simp (disch := omega) only [go_sem, hE, hH, hb]; (try clear hb))) | ((with_reducible refine And.intro ?_ ?_); · omega) | (with_reducible first | apply jn | apply both | refine And.intro ?_ ?_) | ((with_reducible apply fin_eq); (try (simp (disch := omega) only [go_sem, hE, hH])); first | done | rfl) | (simp (disch := omega) only [go_sem, hE, hH]) | ((first | apply noMLL_sE | apply pk_sE) <;> (simp only [go_sem, hE, hH]; done)) | (simp only [go_sem, hE, hH]) | fail)
   refine loopNe ls.length (fun j (_ : Unit) => ⟨[(0, .sl false 1 (strs cuts)), (1, .sl false 1 (ps.map fun y => [.sl false 4 (y.map (Op.row false))])), (2, .sl false 1 (ls.map fun y => [.sl false 1 (strs y)])), (6, .ptr 7000000 0 0), (57, .sl false 1 (ls.map fun y => [.sl false 1 (strs y)])), (58, i64 ls.length), (59, i64 j)], [(7000000, ⟨9, [[i64 0, i64 0, nils, nils, nils, nils, nils, nils, nils]]⟩)]⟩) (fun j _ => allN (fun i => keysOk (nth ls i)) j = true) () rfl rfl ?_
   intro j _ hj hI
   try simp only [go_sem, hE, hH, C7_l2]
   first | refine gd_t (fun h => ?_) (fun h => ?_) | refine gd_f (fun h => ?_) (fun h => ?_)
   ·have hb := h
    simp only [nf] at h
    have hlt : j < ls.length := by omega
    clear h
    have hbad : keysOk (nth ls j) = false → nwR cuts ps ls = (zeroW, false) := fun q => nwR_no (by
     have : ls.all keysOk = false := by rw [List.all_eq_false]; exact ⟨_, nth_mem hlt, by rw [q]; simp⟩
     simp [newC, this])
    have c2 := l16Keys_ok (nth ls j) (hl.2 _ (nth_mem hlt))
    cases q : keysOk (nth ls j) with
    | false =>
     rw [hbad q] at hRR hRb
     subst hRR
     subst hRb
     rw [q] at c2
     try simp (disch := omega) only [go_sem, hE, hH, hb]
     repeat' (first | ((with_reducible first | refine gd_t ?_ ?_ | refine gd_f ?_ ?_) <;> (intro h; have hb := h; (try simp only [nf] at h); simp (disch := omega) only [go_sem, hE, hH, hb]; (try clear hb))) | ((with_reducible refine And.intro ?_ ?_); · omega) | ((first | refine ok_view ?_ | refine cvA (c2) ?_); simp (disch := omega) only [go_sem, hE, hH]) | (with_reducible first | apply jn | apply both | refine And.intro ?_ ?_) | ((with_reducible apply fin_eq); (try (simp (disch := omega) only [go_sem, hE, hH])); first | done | rfl) | (simp (disch := omega) only [go_sem, hE, hH]) | ((first | apply noMLL_sE | apply pk_sE) <;> (simp only [go_sem, hE, hH]; done)) | (simp only [go_sem, hE, hH]) | fail)
     all_goals first | omega | rfl
    | true =>
     rw [q] at c2
     try simp (disch := omega) only [go_sem, hE, hH, hb]
     repeat' (first | ((with_reducible first | refine gd_t ?_ ?_ | refine gd_f ?_ ?_) <;> (intro h; have hb := h; (try simp only [nf] at h); simp (disch := omega) only [go_sem, hE, hH, hb]; (try clear hb))) | ((with_reducible refine And.intro ?_ ?_); · omega) | ((first | refine ok_view ?_ | refine cvA (c2) ?_); simp (disch := omega) only [go_sem, hE, hH]) | (with_reducible first | apply jn | apply both | refine And.intro ?_ ?_) | ((with_reducible apply fin_eq); (try (simp (disch := omega) only [go_sem, hE, hH])); first | done | rfl) | (simp (disch := omega) only [go_sem, hE, hH]) | ((first | apply noMLL_sE | apply pk_sE) <;> (simp only [go_sem, hE, hH]; done)) | (simp only [go_sem, hE, hH]) | fail)
     all_goals first | omega | exact ⟨(), rfl, allN_step hI q⟩
   ·have hh := h
    simp only [nf] at hh
    obtain rfl : j = ls.length := by omega
    have a6 : ls.all keysOk = true := by rw [← allN_all (p := keysOk)]; exact hI
    clear hI hj hh
    have hN : newC cuts ps ls = true := by simp [newC, a1, a2, a3, a4, a5, a6]
    have hR := nwR_yes hN
    have hO := l16Own_ok (newW cuts ps ls) (newW_B (by omega) (by omega) (by omega) hp2 hl2)
    rw [newW_rowF, newW_row, ← hn] at hO
    rw [hR, newW_row, ← hn] at hRR
    rw [hR] at hRb
    subst hRR
    subst hRb
    try simp (disch := omega) only [go_sem, hE, hH, hnI, t1, t2, h]
    clear h
    repeat' (first | ((with_reducible first | refine gd_t ?_ ?_ | refine gd_f ?_ ?_) <;> (intro h; have hb := h; (try simp only [nf] at h); simp (disch := omega) only [go_sem, hE, hH, hnI, t1, t2, hb]; (try clear hb))) | ((with_reducible refine And.intro ?_ ?_); · omega) | ((first | refine ok_view ?_ | refine cvA (l1OwnS_ok cuts hc2) ?_); simp (disch := omega) only [go_sem, hE, hH, hnI, t1, t2]) | (with_reducible first | apply jn | apply both | refine And.intro ?_ ?_) | ((with_reducible apply fin_eq); (try (simp (disch := omega) only [go_sem, hE, hH, hnI, t1, t2])); first | done | rfl) | (simp (disch := omega) only [go_sem, hE, hH, hnI, t1, t2]) | ((first | apply noMLL_sE | apply pk_sE) <;> (simp only [go_sem, hE, hH, hnI, t1, t2]; done)) | (simp only [go_sem, hE, hH, hnI, t1, t2]) | fail)
    all_goals try (exfalso; omega)
    refine loopNe n (fun j (gs : List Group) => ⟨[(1, .sl false 1 (ps.map fun y => [.sl false 4 (y.map (Op.row false))])), (2, .sl false 1 (ls.map fun y => [.sl false 1 (strs y)])), (6, .ptr 7000000 0 0), (12, i64 n), (13, .ptr 14000000 0 0), (14, i64 j)], [(7000000, ⟨9, [[i64 0, i64 0, nils, nils, nils, nils, nils, nils, nils]]⟩), (14000000, ⟨9, [wkR n cuts (gs.map (Group.row true)) (List.replicate n [nils]) [] []]⟩)]⟩) (fun j gs => repNG j gs) [] rfl rfl ?_
    intro j gs hj hgs
    have hlen : gs.length = j := by rw [show gs = _ from hgs, List.length_replicate]
    try simp only [go_sem, hE, hH, C7_l3]
    first | refine gd_t (fun h => ?_) (fun h => ?_) | refine gd_f (fun h => ?_) (fun h => ?_)
    ·have hb := h
     simp only [nf] at h
     have hlt : j < n := by omega
     clear h
     try simp (disch := omega) only [go_sem, hE, hH, hb]
     repeat' (first | ((with_reducible first | refine gd_t ?_ ?_ | refine gd_f ?_ ?_) <;> (intro h; have hb := h; (try simp only [nf] at h); simp (disch := omega) only [go_sem, hE, hH, hb]; (try clear hb))) | ((with_reducible refine And.intro ?_ ?_); · omega) | ((first | refine ok_view ?_ | refine cvA (sNewGroup_ok) ?_); simp (disch := omega) only [go_sem, hE, hH]) | (with_reducible first | apply jn | apply both | refine And.intro ?_ ?_) | ((with_reducible apply fin_eq); (try (simp (disch := omega) only [go_sem, hE, hH])); first | done | rfl) | (simp (disch := omega) only [go_sem, hE, hH]) | ((first | apply noMLL_sE | apply pk_sE) <;> (simp only [go_sem, hE, hH]; done)) | (simp only [go_sem, hE, hH]) | fail)
     all_goals first | omega | (refine ⟨gs ++ [newG], ?_, by unfold repNG at hgs ⊢; rw [List.replicate_succ', hgs]⟩; rw [List.map_append]; first | rfl | (simp only [hlen]; rfl))
    ·have hh := h
     simp only [nf] at hh
     obtain rfl : j = n := by omega
     rw [repNG_hG hgs, ← hL_zero]
     clear hgs hlen gs hh
     try simp (disch := omega) only [go_sem, hE, hH, h]
     clear h
     repeat' (first | ((with_reducible first | refine gd_t ?_ ?_ | refine gd_f ?_ ?_) <;> (intro h; have hb := h; (try simp only [nf] at h); simp (disch := omega) only [go_sem, hE, hH, hb]; (try clear hb))) | ((with_reducible refine And.intro ?_ ?_); · omega) | (with_reducible first | apply jn | apply both | refine And.intro ?_ ?_) | ((with_reducible apply fin_eq); (try (simp (disch := omega) only [go_sem, hE, hH])); first | done | rfl) | (simp (disch := omega) only [go_sem, hE, hH]) | ((first | apply noMLL_sE | apply pk_sE) <;> (simp only [go_sem, hE, hH]; done)) | (simp only [go_sem, hE, hH]) | fail)
     refine loopNe ps.length (fun k (_ : Unit) => ⟨[(2, .sl false 1 (ls.map fun y => [.sl false 1 (strs y)])), (6, .ptr 7000000 0 0), (12, i64 j), (13, .ptr 14000000 0 0), (104, .sl false 1 (ps.map fun y => [.sl false 4 (y.map (Op.row false))])), (105, i64 ps.length), (106, i64 k)], [(7000000, ⟨9, [[i64 0, i64 0, nils, nils, nils, nils, nils, nils, nils]]⟩), (14000000, ⟨9, [wkR j cuts (hG j 0) (hL j 0) ((newTs j (ps.take k)).map (WorldTxn.row true)) []]⟩)]⟩) (fun _ _ => True) () rfl trivial ?_
     intro k _ hk _
     try simp only [go_sem, hE, hH, C7_l4]
     first | refine gd_t (fun h => ?_) (fun h => ?_) | refine gd_f (fun h => ?_) (fun h => ?_)
     ·have hb := h
      simp only [nf] at h
      have hlt : k < ps.length := by omega
      clear h
      have hlen : (newTs j (ps.take k)).length = k := by rw [newTs_len, List.length_take]; omega
      have htk : (newTs j (ps.take k)).take k = newTs j (ps.take k) := List.take_of_length_le (by omega)
      have hgd := fun r => getD_ma (f := WorldTxn.row true) (l := newTs j (ps.take k)) (r := r)
      have hst := fun r r2 => set_ma (f := WorldTxn.row true) (l := newTs j (ps.take k)) (r := r) (r' := r2)
      simp only [hlen] at hgd hst
      have hpl := hp2 _ (nth_mem hlt)
      try simp (disch := omega) only [go_sem, hE, hH, hlen, htk, hgd, hst, t2, hb]
      repeat' (first | ((with_reducible first | refine gd_t ?_ ?_ | refine gd_f ?_ ?_) <;> (intro h; have hb := h; (try simp only [nf] at h); simp (disch := omega) only [go_sem, hE, hH, hlen, htk, hgd, hst, t2, hb]; (try clear hb))) | ((with_reducible refine And.intro ?_ ?_); · omega) | (with_reducible first | apply jn | apply both | refine And.intro ?_ ?_) | ((with_reducible apply fin_eq); (try (simp (disch := omega) only [go_sem, hE, hH, hlen, htk, hgd, hst, t2])); first | done | rfl) | (simp (disch := omega) only [go_sem, hE, hH, hlen, htk, hgd, hst, t2]) | ((first | apply noMLL_sE | apply pk_sE) <;> (simp only [go_sem, hE, hH, hlen, htk, hgd, hst, t2]; done)) | (simp only [go_sem, hE, hH, hlen, htk, hgd, hst, t2]) | fail)
      all_goals first | omega | (refine ⟨(), ?_⟩; rw [newTs_succ hlt, List.map_append]; simp only [newT, List.map_cons, List.map_nil, WorldTxn.row, ints, List.map_replicate]; rfl)
     ·have hh := h
      simp only [nf] at hh
      obtain rfl : k = ps.length := by omega
      rw [List.take_length]
      clear hh
      try simp (disch := omega) only [go_sem, hE, hH, h]
      clear h
      repeat' (first | ((with_reducible first | refine gd_t ?_ ?_ | refine gd_f ?_ ?_) <;> (intro h; have hb := h; (try simp only [nf] at h); simp (disch := omega) only [go_sem, hE, hH, hb]; (try clear hb))) | ((with_reducible refine And.intro ?_ ?_); · omega) | (with_reducible first | apply jn | apply both | refine And.intro ?_ ?_) | ((with_reducible apply fin_eq); (try (simp (disch := omega) only [go_sem, hE, hH])); first | done | rfl) | (simp (disch := omega) only [go_sem, hE, hH]) | ((first | apply noMLL_sE | apply pk_sE) <;> (simp only [go_sem, hE, hH]; done)) | (simp only [go_sem, hE, hH]) | fail)
      refine loopNe ls.length (fun q (_ : Unit) => ⟨[(6, .ptr 7000000 0 0), (12, i64 j), (13, .ptr 14000000 0 0), (128, .sl false 1 (ls.map fun y => [.sl false 1 (strs y)])), (129, i64 ls.length), (130, i64 q)], [(7000000, ⟨9, [[i64 0, i64 0, nils, nils, nils, nils, nils, nils, nils]]⟩), (14000000, ⟨9, [wkR j cuts (hG j 0) (hL j 0) ((newTs j ps).map (WorldTxn.row true)) ((lksN j ls q).map (WorldLook.row true))]⟩)]⟩) (fun _ _ => True) () rfl trivial ?_
      intro q _ hq _
      have hlen := lksN_len (n := j) (j := q) (ls := ls)
      have e5 : Int.tmod (q : Int) (3 * (j : Int)) = ((q % (3 * j) : Nat) : Int) := rfl
      have e6 : Int.tmod (q : Int) ((3 * j : Nat) : Int) = ((q % (3 * j) : Nat) : Int) := rfl
      try simp only [go_sem, hE, hH, C7_l5]
      first | refine gd_t (fun h => ?_) (fun h => ?_) | refine gd_f (fun h => ?_) (fun h => ?_)
      ·have hb := h
       simp only [nf] at h
       have hlt : q < ls.length := by omega
       clear h
       have htk : (lksN j ls q).take q = lksN j ls q := List.take_of_length_le (by omega)
       have hgd := fun r => getD_ma (f := WorldLook.row true) (l := lksN j ls q) (r := r)
       have hst := fun r r2 => set_ma (f := WorldLook.row true) (l := lksN j ls q) (r := r) (r' := r2)
       simp only [hlen] at hgd hst
       have cS := l1OwnS_ok (nth ls q) (hl2 _ (nth_mem hlt))
       try simp (disch := omega) only [go_sem, hE, hH, hlen, htk, hgd, hst, e5, e6, hb]
       repeat' (first | ((with_reducible first | refine gd_t ?_ ?_ | refine gd_f ?_ ?_) <;> (intro h; have hb := h; (try simp only [nf] at h); simp (disch := omega) only [go_sem, hE, hH, hlen, htk, hgd, hst, e5, e6, hb]; (try clear hb))) | ((with_reducible refine And.intro ?_ ?_); · omega) | ((first | refine ok_view ?_ | refine cvA (cS) ?_); simp (disch := omega) only [go_sem, hE, hH, hlen, htk, hgd, hst, e5, e6]) | (with_reducible first | apply jn | apply both | refine And.intro ?_ ?_) | ((with_reducible apply fin_eq); (try (simp (disch := omega) only [go_sem, hE, hH, hlen, htk, hgd, hst, e5, e6])); first | done | rfl) | (simp (disch := omega) only [go_sem, hE, hH, hlen, htk, hgd, hst, e5, e6]) | ((first | apply noMLL_sE | apply pk_sE) <;> (simp only [go_sem, hE, hH, hlen, htk, hgd, hst, e5, e6]; done)) | (simp only [go_sem, hE, hH, hlen, htk, hgd, hst, e5, e6]) | fail)
       all_goals first | omega | (refine ⟨(), ?_⟩; rw [lksN_succ, List.map_append]; rfl)
      ·have hh := h
       simp only [nf] at hh
       obtain rfl : q = ls.length := by omega
       clear hh
       try simp (disch := omega) only [go_sem, hE, hH, h]
       clear h
       repeat' (first | ((with_reducible first | refine gd_t ?_ ?_ | refine gd_f ?_ ?_) <;> (intro h; have hb := h; (try simp only [nf] at h); simp (disch := omega) only [go_sem, hE, hH, hb]; (try clear hb))) | ((with_reducible refine And.intro ?_ ?_); · omega) | (with_reducible first | apply jn | apply both | refine And.intro ?_ ?_) | ((with_reducible apply fin_eq); (try (simp (disch := omega) only [go_sem, hE, hH])); first | done | rfl) | (simp (disch := omega) only [go_sem, hE, hH]) | ((first | apply noMLL_sE | apply pk_sE) <;> (simp only [go_sem, hE, hH]; done)) | (simp only [go_sem, hE, hH]) | fail)
       refine loopNe j (fun i (_ : Unit) => ⟨[(6, .ptr 7000000 0 0), (12, i64 j), (13, .ptr 14000000 0 0), (21, i64 i)], [(7000000, ⟨9, [[i64 0, i64 0, nils, nils, nils, nils, nils, nils, nils]]⟩), (14000000, ⟨9, [wkR j cuts (hG j i) (hL j i) ((newTs j ps).map (WorldTxn.row true)) ((newLs j ls).map (WorldLook.row true))]⟩)]⟩) (fun _ _ => True) () rfl trivial ?_
       intro i _ hi _
       try simp only [go_sem, hE, hH, C7_l6]
       first | refine gd_t (fun h => ?_) (fun h => ?_) | refine gd_f (fun h => ?_) (fun h => ?_)
       ·have hb := h
        simp only [nf] at h
        have hlt : i < j := by omega
        clear h
        obtain ⟨m, rfl⟩ := mG_hG hlt
        have e3 : 3 * (i : Int) = (3 * i : Nat) := by omega
        have g1 := hG_mid i m
        have g2 := hL_mid i m
        have cE := selectW_ok i m (by omega) cuts (newTs (i + 1 + m) ps) (newLs (i + 1 + m) ls)
        try simp (disch := omega) only [go_sem, hE, hH, e3, g1, g2, hb]
        repeat' (first | ((with_reducible first | refine gd_t ?_ ?_ | refine gd_f ?_ ?_) <;> (intro h; have hb := h; (try simp only [nf] at h); simp (disch := omega) only [go_sem, hE, hH, e3, g1, g2, hb]; (try clear hb))) | ((with_reducible refine And.intro ?_ ?_); · omega) | (refine ok_lend [true, false] ?_; simp (disch := omega) only [go_sem, hE, hH, e3, g1, g2]; refine cmA (cE) ?_; simp (disch := omega) only [go_sem, hE, hH, e3, g1, g2]) | (with_reducible first | apply jn | apply both | refine And.intro ?_ ?_) | ((with_reducible apply fin_eq); (try (simp (disch := omega) only [go_sem, hE, hH, e3, g1, g2])); first | done | rfl) | (simp (disch := omega) only [go_sem, hE, hH, e3, g1, g2]) | ((first | apply noMLL_sE | apply pk_sE) <;> (simp only [go_sem, hE, hH, e3, g1, g2]; done)) | (simp only [go_sem, hE, hH, e3, g1, g2]) | fail)
        all_goals first | omega | (refine ⟨(), ?_⟩; rw [← mid_hG, ← mid_hL]; rfl)
       ·have hh := h
        simp only [nf] at hh
        obtain rfl : i = j := by omega
        rw [hG_end, hL_end]
        try simp (disch := omega) only [go_sem, hE, hH, h]
        repeat' (first | ((with_reducible first | refine gd_t ?_ ?_ | refine gd_f ?_ ?_) <;> (intro h; have hb := h; (try simp only [nf] at h); simp (disch := omega) only [go_sem, hE, hH, hb]; (try clear hb))) | ((with_reducible refine And.intro ?_ ?_); · omega) | ((first | refine ok_view ?_ | refine cvAn (hO) ?_); simp (disch := omega) only [go_sem, hE, hH]) | (with_reducible first | apply jn | apply both | refine And.intro ?_ ?_) | ((with_reducible apply fin_eq); (try (simp (disch := omega) only [go_sem, hE, hH])); first | done | rfl) | (simp (disch := omega) only [go_sem, hE, hH]) | ((first | apply noMLL_sE | apply pk_sE) <;> (simp only [go_sem, hE, hH]; done)) | (simp only [go_sem, hE, hH]) | fail)
        all_goals first | omega | rfl | exact noShLL_rep (by simp only [go_sem]) _
 ·have hbad : nwR cuts ps ls = (zeroW, false) := nwR_no (by
   cases hN : newC cuts ps ls with
   | false => rfl
   | true =>
    simp only [newC, Bool.and_eq_true, decide_eq_true_eq] at hN
    exact absurd ⟨⟨⟨hN.1.1.1.1.2, hN.1.1.1.1.1⟩, hN.1.1.1.2⟩, hN.1.2⟩ hA)
  rw [hbad]
  by_cases a1 : (cuts.length : Int) ≤ 2
  ·cases a2 : cutsOk cuts with
   | false =>
    rw [a2] at c1
    refine fg H7 fun E hE hH => ?_; simp only [go_sem, hE, hH, C7]
    repeat' (first | ((with_reducible first | refine gd_t ?_ ?_ | refine gd_f ?_ ?_) <;> (intro h; have hb := h; (try simp only [nf] at h); simp (disch := omega) only [go_sem, hE, hH, hb]; (try clear hb))) | ((with_reducible refine And.intro ?_ ?_); · omega) | ((first | refine ok_view ?_ | refine cvA (c1) ?_); simp (disch := omega) only [go_sem, hE, hH]) | (with_reducible first | apply jn | apply both | refine And.intro ?_ ?_) | ((with_reducible apply fin_eq); (try (simp (disch := omega) only [go_sem, hE, hH])); first | done | rfl) | (simp (disch := omega) only [go_sem, hE, hH]) | ((first | apply noMLL_sE | apply pk_sE) <;> (simp only [go_sem, hE, hH]; done)) | (simp only [go_sem, hE, hH]) | fail)
    all_goals first | rfl | (exfalso; omega)
   | true =>
    rw [a2] at c1
    by_cases a3 : (ps.length : Int) ≤ 6
    ·by_cases a5 : (ls.length : Int) ≤ 4
     ·exact absurd ⟨⟨⟨a2, a1⟩, a3⟩, a5⟩ hA
     ·refine fg H7 fun E hE hH => ?_; simp only [go_sem, hE, hH, C7]
      repeat' (first | ((with_reducible first | refine gd_t ?_ ?_ | refine gd_f ?_ ?_) <;> (intro h; have hb := h; (try simp only [nf] at h); simp (disch := omega) only [go_sem, hE, hH, hb]; (try clear hb))) | ((with_reducible refine And.intro ?_ ?_); · omega) | ((first | refine ok_view ?_ | refine cvA (c1) ?_); simp (disch := omega) only [go_sem, hE, hH]) | (with_reducible first | apply jn | apply both | refine And.intro ?_ ?_) | ((with_reducible apply fin_eq); (try (simp (disch := omega) only [go_sem, hE, hH])); first | done | rfl) | (simp (disch := omega) only [go_sem, hE, hH]) | ((first | apply noMLL_sE | apply pk_sE) <;> (simp only [go_sem, hE, hH]; done)) | (simp only [go_sem, hE, hH]) | fail)
      all_goals first | rfl | (exfalso; omega)
    ·refine fg H7 fun E hE hH => ?_; simp only [go_sem, hE, hH, C7]
     repeat' (first | ((with_reducible first | refine gd_t ?_ ?_ | refine gd_f ?_ ?_) <;> (intro h; have hb := h; (try simp only [nf] at h); simp (disch := omega) only [go_sem, hE, hH, hb]; (try clear hb))) | ((with_reducible refine And.intro ?_ ?_); · omega) | ((first | refine ok_view ?_ | refine cvA (c1) ?_); simp (disch := omega) only [go_sem, hE, hH]) | (with_reducible first | apply jn | apply both | refine And.intro ?_ ?_) | ((with_reducible apply fin_eq); (try (simp (disch := omega) only [go_sem, hE, hH])); first | done | rfl) | (simp (disch := omega) only [go_sem, hE, hH]) | ((first | apply noMLL_sE | apply pk_sE) <;> (simp only [go_sem, hE, hH]; done)) | (simp only [go_sem, hE, hH]) | fail)
     all_goals first | rfl | (exfalso; omega)
  ·cases a2 : cutsOk cuts with
   | false =>
    rw [a2] at c1
    refine fg H7 fun E hE hH => ?_; simp only [go_sem, hE, hH, C7]
    repeat' (first | ((with_reducible first | refine gd_t ?_ ?_ | refine gd_f ?_ ?_) <;> (intro h; have hb := h; (try simp only [nf] at h); simp (disch := omega) only [go_sem, hE, hH, hb]; (try clear hb))) | ((with_reducible refine And.intro ?_ ?_); · omega) | ((first | refine ok_view ?_ | refine cvA (c1) ?_); simp (disch := omega) only [go_sem, hE, hH]) | (with_reducible first | apply jn | apply both | refine And.intro ?_ ?_) | ((with_reducible apply fin_eq); (try (simp (disch := omega) only [go_sem, hE, hH])); first | done | rfl) | (simp (disch := omega) only [go_sem, hE, hH]) | ((first | apply noMLL_sE | apply pk_sE) <;> (simp only [go_sem, hE, hH]; done)) | (simp only [go_sem, hE, hH]) | fail)
    all_goals first | rfl | (exfalso; omega)
   | true =>
    rw [a2] at c1
    refine fg H7 fun E hE hH => ?_; simp only [go_sem, hE, hH, C7]
    repeat' (first | ((with_reducible first | refine gd_t ?_ ?_ | refine gd_f ?_ ?_) <;> (intro h; have hb := h; (try simp only [nf] at h); simp (disch := omega) only [go_sem, hE, hH, hb]; (try clear hb))) | ((with_reducible refine And.intro ?_ ?_); · omega) | ((first | refine ok_view ?_ | refine cvA (c1) ?_); simp (disch := omega) only [go_sem, hE, hH]) | (with_reducible first | apply jn | apply both | refine And.intro ?_ ?_) | ((with_reducible apply fin_eq); (try (simp (disch := omega) only [go_sem, hE, hH])); first | done | rfl) | (simp (disch := omega) only [go_sem, hE, hH]) | ((first | apply noMLL_sE | apply pk_sE) <;> (simp only [go_sem, hE, hH]; done)) | (simp only [go_sem, hE, hH]) | fail)
    all_goals first | rfl | (exfalso; omega)
theorem szL_rep {α : Type} {f : α → Nat} {x : α} {n : Nat} : szL f (List.replicate n x) = n + n * f x := by
 simp [szL, List.map_replicate]
theorem newTs_sz {n : Nat} : ∀ {ps : List (List Op)}, szL WorldTxn.sz (newTs n ps) = szL (szL Op.sz) ps + ps.length * n
 | [] => by simp [szL, newTs]
 | p :: ps => by
  have ih := newTs_sz (n := n) (ps := ps)
  have e : WorldTxn.sz (newT n p) = szL Op.sz p + n := by simp [WorldTxn.sz, newT, szL]
  simp only [szL, newTs, List.map_cons, List.length_cons, List.sum_cons, List.length_map] at ih ⊢
  rw [e]
  simp only [szL] at ih ⊢
  rw [Nat.add_mul, Nat.one_mul]
  omega
theorem newLs_map {n : Nat} {ls : List (List ByteArray)} : (newLs n ls).map WorldLook.sz = ls.map (szL ByteArray.size) := by
 apply List.ext_getElem
 ·simp [newLs]
 ·intro i h1 h2
  have hi : i < ls.length := by simpa using h2
  simp only [newLs, List.getElem_map, List.getElem_range]
  rw [nth_lt hi]
  simp [WorldLook.sz, newLk, szL]
theorem nwR_sz {cuts : List ByteArray} {ps : List (List Op)} {ls : List (List ByteArray)} (h1 : szL ByteArray.size cuts ≤ 2 ^ 20) (h2 : szL (szL Op.sz) ps ≤ 2 ^ 20) (h3 : szL (szL ByteArray.size) ls ≤ 2 ^ 20) : (nwR cuts ps ls).1.sz ≤ 2 ^ 24 := by
 cases hN : newC cuts ps ls with
 | false => rw [nwR_no hN]; decide
 | true =>
  rw [nwR_yes hN]
  simp only [newC, Bool.and_eq_true, decide_eq_true_eq] at hN
  obtain ⟨⟨⟨⟨⟨a1, a2⟩, a3⟩, a4⟩, a5⟩, a6⟩ := hN
  have e1 : Group.sz adG = 6 := by decide
  have e2 := newTs_sz (n := cuts.length + 1) (ps := ps)
  have e3 : szL WorldLook.sz (newLs (cuts.length + 1) ls) = szL (szL ByteArray.size) ls := by
   rw [szL, szL, newLs_map, newLs_len]
  have e4 : szL (szL Lock.sz) (List.replicate (cuts.length + 1) []) = cuts.length + 1 := by rw [szL_rep]; simp [szL]
  have e5 : szL Group.sz (List.replicate (cuts.length + 1) adG) = (cuts.length + 1) + (cuts.length + 1) * 6 := by rw [szL_rep, e1]
  have e6 : ps.length * (cuts.length + 1) ≤ 6 * 3 := Nat.mul_le_mul (by omega) (by omega)
  have e7 : (newW cuts ps ls).sz = 3 * (cuts.length + 1) + szL ByteArray.size cuts + szL Group.sz (List.replicate (cuts.length + 1) adG) + szL (szL Lock.sz) (List.replicate (cuts.length + 1) []) + (cuts.length + 1) + szL WorldTxn.sz (newTs (cuts.length + 1) ps) + szL WorldLook.sz (newLs (cuts.length + 1) ls) := by
   simp only [World.sz, newW, List.length_replicate]
  rw [e7, e2, e3, e4, e5]
  omega
theorem FnExactNewWorld_ok (vCuts : List ByteArray) (vPrograms : List (List Op)) (vLooks : List (List ByteArray)) (wCuts : vCuts.length ≤ maxLen ∧ ∀ y ∈ vCuts, y.size ≤ maxLen) (wPrograms : vPrograms.length ≤ maxLen ∧ ∀ y ∈ vPrograms, wfL (Op.wf) y) (wLooks : vLooks.length ≤ maxLen ∧ ∀ y ∈ vLooks, wfL (fun s => s.size ≤ maxLen) y) : ACall p_ 3 [.sl false 1 (strs vCuts), .sl false 1 (vPrograms.map fun y => [.sl false 4 (y.map (Op.row false))]), .sl false 1 (vLooks.map fun y => [.sl false 1 (strs y)])] (fun r _ => r = bl true) := by
 have hmx := mx_eq
 have wlCuts : wfL (fun s => s.size ≤ maxLen) vCuts := wCuts
 have lCuts : limL (fun _ => True) vCuts := ⟨wCuts.1, fun y hy => trivial⟩
 have wlPrograms : wfL (wfL (Op.wf)) vPrograms := wPrograms
 have lPrograms : limL (limL (Op.lim)) vPrograms := ⟨wPrograms.1, fun y hy => ⟨(wPrograms.2 y hy).1, fun zz hzz => Op.lim_of ((wPrograms.2 y hy).2 zz hzz)⟩⟩
 have wlLooks : wfL (wfL (fun s => s.size ≤ maxLen)) vLooks := wLooks
 have lLooks : limL (limL (fun _ => True)) vLooks := ⟨wLooks.1, fun y hy => ⟨(wLooks.2 y hy).1, fun zz hzz => trivial⟩⟩
 refine fg H3 fun E hE hH => ?_; simp only [go_sem, hE, hH, C3]
 refine ok_view ?_; simp (disch := omega) only [go_sem, hE, hH]; refine cvA (szStringS_ok vCuts _ (by decide) (by decide) wlCuts) ?_
 refine aftV_intro ?_
 rintro r l ⟨n1, rfl, hn1, hsz1⟩
 try refine st ?_; try exact ⟨⟩
 first | refine gd_t (fun h1 => ?_) (fun h1 => ?_) | refine gd_f (fun h1 => ?_) (fun h1 => ?_)
 ·try simp (disch := omega) only [go_sem, hE, hH, h1]
 have hb1 := h1
 simp only [nf] at h1
 try simp (disch := omega) only [go_sem, hE, hH, hb1]
 have sCuts : szL (ByteArray.size) vCuts ≤ 2 ^ 20 := by have := hsz1 h1; omega
 refine ok_view ?_; simp (disch := omega) only [go_sem, hE, hH]; refine cvA (szOpSS_ok vPrograms n1 h1 (by omega) wlPrograms) ?_
 refine aftV_intro ?_
 rintro r l ⟨n2, rfl, hn2, hsz2⟩
 try refine st ?_; try exact ⟨⟩
 first | refine gd_t (fun h2 => ?_) (fun h2 => ?_) | refine gd_f (fun h2 => ?_) (fun h2 => ?_)
 ·try simp (disch := omega) only [go_sem, hE, hH, h2]
 have hb2 := h2
 simp only [nf] at h2
 try simp (disch := omega) only [go_sem, hE, hH, hb2]
 have sPrograms : szL (szL (Op.sz)) vPrograms ≤ 2 ^ 20 := by have := hsz2 h2; omega
 refine ok_view ?_; simp (disch := omega) only [go_sem, hE, hH]; refine cvA (szStringSS_ok vLooks n2 h2 (by omega) wlLooks) ?_
 refine aftV_intro ?_
 rintro r l ⟨n3, rfl, hn3, hsz3⟩
 try refine st ?_; try exact ⟨⟩
 first | refine gd_t (fun h3 => ?_) (fun h3 => ?_) | refine gd_f (fun h3 => ?_) (fun h3 => ?_)
 ·try simp (disch := omega) only [go_sem, hE, hH, h3]
 have hb3 := h3
 simp only [nf] at h3
 try simp (disch := omega) only [go_sem, hE, hH, hb3]
 have sLooks : szL (szL (ByteArray.size)) vLooks ≤ 2 ^ 20 := by have := hsz3 h3; omega
 have hp2 : ∀ p ∈ vPrograms, p.length ≤ 2 ^ 20 := fun p hp => by
  have h4 := szL_mem (f := szL Op.sz) hp
  have h5 := szL_len (f := Op.sz) (l := p)
  omega
 have hl2 : ∀ l ∈ vLooks, l.length ≤ 2 ^ 20 := fun l hl => by
  have h4 := szL_mem (f := szL ByteArray.size) hl
  have h5 := szL_len (f := ByteArray.size) (l := l)
  omega
 have hc2 := szL_len (f := ByteArray.size) (l := vCuts)
 have hp3 := szL_len (f := szL Op.sz) (l := vPrograms)
 have hl3 := szL_len (f := szL ByteArray.size) (l := vLooks)
 have cI := NewWorld_ok vCuts vPrograms vLooks wCuts wPrograms wLooks hp2 hl2 (by omega) (by omega) (by omega)
 have cS := sNewWorld_ok vCuts vPrograms vLooks wCuts wPrograms wLooks hp2 hl2 (by omega) (by omega) (by omega)
 have hz := nwR_sz sCuts sPrograms sLooks
 generalize (nwR vCuts vPrograms vLooks).1 = X at *
 generalize (nwR vCuts vPrograms vLooks).2 = b at *
 have hlim := World.lim_sz (x := X) (by omega)
 have hLk : X.Locks.length ≤ 2 ^ 62 := by
  have := szL_len (f := szL Lock.sz) (l := X.Locks)
  simp only [World.sz] at hz
  omega
 have c_C : cntL (fun _ => 1) vCuts ≤ 1 * vCuts.length := cntL_le1 (fun _ => Nat.le_refl _)
 have e_C := mkN_cnt (f := mkS) (c := fun _ => 1) (fun _ _ => rfl) (l := vCuts) (k := 1)
 have c_P : cntL (cntL Op.cnt) vPrograms ≤ 4 * szL (szL Op.sz) vPrograms := cntL_le (fun x => by have := cntL_le (c := Op.cnt) (s := Op.sz) (A := 4) Op.cnt_le (l := x); omega)
 have e_P := mkN_cnt (f := mkL Op.mk2) (c := cntL Op.cnt) (fun x k => mkN_cnt Op.mk2_cnt) (l := vPrograms) (k := (mkL mkS vCuts 1).2)
 have c_L : cntL (cntL fun _ => 1) vLooks ≤ 1 * szL (szL ByteArray.size) vLooks := cntL_le (fun x => by have := cntL_le1 (c := fun _ : ByteArray => 1) (A := 1) (fun _ => Nat.le_refl _) (l := x); have := szL_len (f := ByteArray.size) (l := x); omega)
 have e_L := mkN_cnt (f := mkL mkS) (c := cntL fun _ => 1) (fun x k => mkN_cnt (fun _ _ => rfl)) (l := vLooks) (k := (mkL (mkL Op.mk2) vPrograms (mkL mkS vCuts 1).2).2)
 have c_X := World.cntv_le X
 have e_X := World.mkv_cnt X 1
 repeat' (first | ((with_reducible apply ga) <;> refine gs fun h => ?_) | ((with_reducible apply an); · omega) | (refine ok_lend [true, false] ?_; refine st ?_; refine cmA (markStringS_ok vCuts 1 (by omega) (by omega)) ?_; refine st ?_) | (refine ok_lend [true, false] ?_; refine st ?_; refine cmA (markOpSS_ok vPrograms (mkL mkS vCuts 1).2 (by omega) (by omega) (by omega)) ?_; refine st ?_) | (refine ok_lend [true, false] ?_; refine st ?_; refine cmA (markStringSS_ok vLooks (mkL (mkL Op.mk2) vPrograms (mkL mkS vCuts 1).2).2 (by omega) (by omega) (by omega)) ?_; refine st ?_) | (refine ok_lend [true, false] ?_; refine st ?_; refine cmA (markWorld_ok X 1 (by omega) (by omega) hLk) ?_; refine st ?_) | ((first | refine ok_view ?_ | refine cvA (toStringS_ok vCuts sCuts) ?_ | refine cvA (toOpSS_ok vPrograms sPrograms) ?_ | refine cvA (toStringSS_ok vLooks sLooks) ?_ | refine cvA (cS) ?_ | refine cvA (cI) ?_ | refine cvA (eqWorld_ok X X hlim) ?_ | refine cvA (eqStringS_ok vCuts vCuts lCuts) ?_ | refine cvA (eqOpSS_ok vPrograms vPrograms lPrograms) ?_ | refine cvA (eqStringSS_ok vLooks vLooks lLooks) ?_ | refine cvA (heldWorld_ok X 1 (by omega) (by omega) hLk) ?_); refine st ?_) | refine jn _ ?_ ?_ | (with_reducible first | apply both | apply an | exact ti) | exact fe | refine st ?_ | exact fm | refine s1 ?_)
 all_goals try omega
end Go.Proofs.Wb

import Derived.Test.YtjfjakbgelikeaaGreatFnExactSettleDealNR
import Derived.Laws.Externs
set_option linter.all false
set_option maxHeartbeats 4000000
namespace Go.Proofs.Wb
open Tryz renaming prog → p_
open Go Go.Am
def stD (d : Deal) (L : List State) : Deal := ⟨d.Cuts, L, d.Orders⟩
@[go_sem] theorem stD_C (d : Deal) (L : List State) : (stD d L).Cuts = d.Cuts := rfl
@[go_sem] theorem zTa (d : Deal) (L : List State) : (stD d L).States = L := rfl
@[go_sem] theorem stD_O (d : Deal) (L : List State) : (stD d L).Orders = d.Orders := rfl
def zLl (d : Deal) (j : Nat) (L : List State) : Prop := L = (d.Orders.take j).foldl (zLi d.Cuts) d.States ∧ zDs L ∧ L.length = d.States.length
def inI (d : Deal) (o : Order) (L0 : List State) (i : Nat) (L : List State) : Prop := L = (((psO d o).drop 1).take i).foldl (zD8 o.Txn (nth (psO d o) 0)) L0 ∧ zDs L ∧ L.length = d.States.length
def sdR (d : Deal) : T := if zA3 d = true then .tup [.agg (Deal.row true ⟨d.Cuts, zHg d, d.Orders⟩), bl true] else .tup [.agg (Deal.row true d0), bl false]
theorem zXN {o : Bool} {L : List State} {n : Nat} (h : n < L.length) : (L.map (State.row o)).set n (State.row o (nth L n)) = L.map (State.row o) := by
 rw [← List.map_set, zAM h, List.set_getElem_self]
theorem zLm {d : Deal} {L : List State} {p : Int} {r : Rec} {q : Deal} {b : Bool} (hq : (zBl (stD d L) p r).getD d0 = q) (hb : (zBl (stD d L) p r).isSome = b) : (if b = true then q else stD d L) = stD d (zFa L p r) := by
 have e := zVc (d := stD d L) (p := p) (r := r)
 rw [show (⟨(stD d L).Cuts, zFa (stD d L).States p r, (stD d L).Orders⟩ : Deal) = stD d (zFa L p r) from rfl] at e
 rw [← e, ← hq, ← hb]
 cases zBl (stD d L) p r <;> rfl
theorem zJ8 {d : Deal} {M : List State} {t lead p : Int} {q : Deal} {b : Bool} (hq : (if tF (nth M lead.toNat).Told t = true then zBl (stD d M) p (doR t (zB4 (nth M lead.toNat).Told t)) else none).getD d0 = q) (hb : (if tF (nth M lead.toNat).Told t = true then zBl (stD d M) p (doR t (zB4 (nth M lead.toNat).Told t)) else none).isSome = b) : (if b = true then q else stD d M) = stD d (zD8 t lead M p) := by
 unfold zD8
 split at hq
 ·rename_i h
  rw [if_pos h] at hb ⊢
  exact zLm hq hb
 ·rename_i h
  rw [if_neg h] at hb ⊢
  rw [← hb]; rfl
theorem zFJ {l : List Int} {i : Nat} : nth (l.drop 1) i = nth l (1 + i) := by simp [nth, List.getD, List.getElem?_drop, Nat.add_comm]
theorem zJE {d : Deal} {j : Nat} {L M M0 : List State} (hj : j < d.Orders.length) (h1 : zLl d j L) (h0 : M0 = zDG (nth d.Orders j).Txn (psO d (nth d.Orders j)) L) (h2 : inI d (nth d.Orders j) M0 ((psO d (nth d.Orders j)).length - 1) M) : zLl d (j + 1) M := by
 obtain ⟨a1, a2, a3⟩ := h1
 obtain ⟨b1, b2, b3⟩ := h2
 refine ⟨?_, b2, b3⟩
 rw [zAp hj, List.foldl_append, ← a1, b1, h0, List.take_of_length_le (by simp)]
 rfl
theorem zLn {d : Deal} {o : Order} {M0 M : List State} {i : Nat} (hd : dealG d) (ho : ordG o) (hi : i < (psO d o).length - 1) (h : inI d o M0 i M) : inI d o M0 (i + 1) (zD8 o.Txn (nth (psO d o) 0) M (nth (psO d o) (1 + i))) := by
 obtain ⟨h1, h2, h3⟩ := h
 have hl : i < ((psO d o).drop 1).length := by simp; omega
 obtain ⟨l1, l2, l3⟩ := zCy hd ho
 have hp := zFI hd _ (zAc (l := psO d o) (i := 1 + i) (by omega))
 obtain ⟨c1, c2⟩ := zP5 (t := o.Txn) (lead := nth (psO d o) 0) (p := nth (psO d o) (1 + i)) h2 (by omega) (by omega)
 refine ⟨?_, c1, c2.trans h3⟩
 rw [zAp hl, List.foldl_append, ← h1, zFJ]; rfl
theorem zOb (hS : zB5) (d : Deal) (hw : dealW d) : ACall p_ 7 [.agg (Deal.row false d)] (fun x _ => x = sdR d) := by
 have hmx := zAh
 have z1 : d0.Cuts = [] := rfl
 have z2 : d0.States = [] := rfl
 have z3 : d0.Orders = [] := rfl
 have cG := zQD hS d hw
 cases hg : zA3 d with
 | false =>
  rw [hg] at cG
  rw [sdR, hg, if_neg (by simp)]
  refine fg H7 fun E hE hH => ?_; simp only [go_sem, hE, hH, C7]
  repeat' (first | ((with_reducible first | refine zAe ?_ ?_ | refine zAf ?_ ?_) <;> (intro h; have hb := h; (try simp only [nf] at h); simp (disch := omega) only [go_sem, hE, hH, z1, z2, z3, hb]; (try clear hb))) | ((with_reducible refine And.intro ?_ ?_); · omega) | ((first | refine zAa ?_ | refine cvA (cG) ?_); simp (disch := omega) only [go_sem, hE, hH, z1, z2, z3]) | (with_reducible first | apply jn | apply both | refine And.intro ?_ ?_) | ((with_reducible apply zAz); (try (simp (disch := omega) only [go_sem, hE, hH, z1, z2, z3])); first | done | rfl) | (simp (disch := omega) only [go_sem, hE, hH, z1, z2, z3]) | ((first | apply zAj | apply zAC) <;> (simp only [go_sem, hE, hH, z1, z2, z3]; done)) | (simp only [go_sem, hE, hH, z1, z2, z3]) | fail)
  all_goals first | omega | rfl
 | true =>
  rw [hg] at cG
  have hd := zLk hg
  have cC := zKB d hd.b
  have hol := hd.b.ol
  rw [sdR, hg, if_pos rfl]
  refine fg H7 fun E hE hH => ?_; simp only [go_sem, hE, hH, C7]
  repeat' (first | ((with_reducible first | refine zAe ?_ ?_ | refine zAf ?_ ?_) <;> (intro h; have hb := h; (try simp only [nf] at h); simp (disch := omega) only [go_sem, hE, hH, hb]; (try clear hb))) | ((with_reducible refine And.intro ?_ ?_); · omega) | ((first | refine zAa ?_ | refine cvA (cG) ?_ | refine cvA (cC) ?_); simp (disch := omega) only [go_sem, hE, hH]) | (with_reducible first | apply jn | apply both | refine And.intro ?_ ?_) | ((with_reducible apply zAz); (try (simp (disch := omega) only [go_sem, hE, hH])); first | done | rfl) | (simp (disch := omega) only [go_sem, hE, hH]) | ((first | apply zAj | apply zAC) <;> (simp only [go_sem, hE, hH]; done)) | (simp only [go_sem, hE, hH]) | fail)
  refine zAG d.Orders.length (fun j (L : List State) => ⟨[(2, .ptr 3000000 0 0), (4, .ptr 5000000 0 0), (5, .fn 25 [.ptr 5000000 0 0]), (22, .sl false 3 (d.Orders.map (Order.row false))), (23, i64 d.Orders.length), (24, i64 j)], [(3000000, ⟨3, [[zAy, zAy, zAy]]⟩), (5000000, ⟨3, [Deal.row true (stD d L)]⟩)]⟩) (fun j L => zLl d j L) d.States rfl ⟨rfl, hd.g, rfl⟩ ?_
  intro j L hj hI
  obtain ⟨hI1, hI2, hI3⟩ := hI
  have hD : dealG (stD d L) := hd.upd hI2 hI3
  try simp only [go_sem, hE, hH, zWW]
  first | refine zAe (fun h => ?_) (fun h => ?_) | refine zAf (fun h => ?_) (fun h => ?_)
  ·have hb := h
   simp only [nf] at h
   have hlt : j < d.Orders.length := by omega
   have ho := hd.ords _ (zAc hlt)
   have cP := zJD hS (stD d L) (nth d.Orders j) hD ho
   rw [show psO (stD d L) (nth d.Orders j) = psO d (nth d.Orders j) from rfl] at cP
   obtain ⟨l1, l2, l3⟩ := zCy hd ho
   have l4 := zFb hd (o := nth d.Orders j)
   have l5 := zFI hd (o := nth d.Orders j)
   rw [← hI3] at l3
   have hgl := hI2 _ (zAc l3)
   have hT := (zB6 (zB1 hgl)).tlen
   have cFT := zDV (nth L (nth (psO d (nth d.Orders j)) 0).toNat) (nth d.Orders j).Txn (by omega) hgl.tsrt
   have cC := zIy (psO d (nth d.Orders j)) 29 [.bx false (Deal.row false (stD d L)), .bx false (Order.row false (nth d.Orders j))] (fun p => hF (nth L p.toNat).Held (nth d.Orders j).Txn) (by kernel_rfl) rfl (by omega) (fun p hp => zXM p (stD d L) (nth d.Orders j) (l5 p hp).1 (by have := (l5 p hp).2; show p.toNat < L.length; omega) (hI2 _ (zAc (by have := (l5 p hp).2; omega))))
   have cR := zS9 hS (stD d L) (nth d.Orders j) hD ho
   rw [zDt] at cR
   have hset := zXN (o := true) l3
   simp only [State.row_eq] at hset
   rw [show psO (stD d L) (nth d.Orders j) = psO d (nth d.Orders j) from rfl] at cR
   cases hf : tF (nth L (nth (psO d (nth d.Orders j)) 0).toNat).Told (nth d.Orders j).Txn with
   | true =>
    rw [hf] at cFT
    have hR : zDG (nth d.Orders j).Txn (psO d (nth d.Orders j)) L = L := by simp [zDG, preB, hf]
    try simp (disch := omega) only [go_sem, hE, hH, hset, hb]
    repeat' (first | ((with_reducible first | refine zAe ?_ ?_ | refine zAf ?_ ?_) <;> (intro h; have hb := h; (try simp only [nf] at h); simp (disch := omega) only [go_sem, hE, hH, hset, hb]; (try clear hb))) | ((with_reducible refine And.intro ?_ ?_); · omega) | (refine zEg [(4, 1, [(0, 1), (1, 4), (2, 3)])] ?_; simp (disch := omega) only [go_sem, hE, hH, hset]; refine zAa ?_; simp (disch := omega) only [go_sem, hE, hH, hset]; refine cvA (cC) ?_; simp (disch := omega) only [go_sem, hE, hH, hset]) | ((first | refine zAa ?_ | refine cvA (cP) ?_ | refine cvA (cFT) ?_); simp (disch := omega) only [go_sem, hE, hH, hset]) | (with_reducible first | apply jn | apply both | refine And.intro ?_ ?_) | ((with_reducible apply zAz); (try (simp (disch := omega) only [go_sem, hE, hH, hset])); first | done | rfl) | (simp (disch := omega) only [go_sem, hE, hH, hset]) | ((first | apply zAj | apply zAC) <;> (simp only [go_sem, hE, hH, hset]; done)) | (simp only [go_sem, hE, hH, hset]) | fail)
    all_goals try (apply zMf <;> simp only [go_sem] <;> omega)
    rw [← hR]
    obtain ⟨m1, m2⟩ := zMm (t := (nth d.Orders j).Txn) (ps := psO d (nth d.Orders j)) hI2 l3 ho.t1 ho.t2
    have m3 := m2.trans hI3
    generalize hM0 : zDG (nth d.Orders j).Txn (psO d (nth d.Orders j)) L = M0 at *
    refine zAG ((psO d (nth d.Orders j)).length - 1) (fun i (M : List State) => ⟨[(2, .ptr 3000000 0 0), (4, .ptr 5000000 0 0), (5, .fn 25 [.ptr 5000000 0 0]), (7, .ptr 8000000 0 0), (22, .sl false 3 (d.Orders.map (Order.row false))), (23, i64 d.Orders.length), (24, i64 j), (60, .ref 61000000 1 ((psO d (nth d.Orders j)).length - 1)), (61, i64 ((psO d (nth d.Orders j)).length - 1 : Nat)), (62, i64 i)], [(3000000, ⟨3, [[zAy, zAy, zAy]]⟩), (5000000, ⟨3, [Deal.row true (stD d M)]⟩), (8000000, ⟨3, [Order.row false (nth d.Orders j)]⟩), (61000000, ⟨1, ints (psO d (nth d.Orders j))⟩)]⟩) (fun i M => inI d (nth d.Orders j) M0 i M) M0 rfl ⟨rfl, m1, m3⟩ ?_
    intro i M hi hJ
    have hJ1 := hJ.2.1
    have hJ2 := hJ.2.2
    have hDM : dealG (stD d M) := hd.upd hJ1 hJ2
    try simp only [go_sem, hE, hH, zOn]
    first | refine zAe (fun k => ?_) (fun k => ?_) | refine zAf (fun k => ?_) (fun k => ?_)
    ·have hbk := k
     simp only [nf] at k
     have hlk : i < (psO d (nth d.Orders j)).length - 1 := by omega
     have hst := zLn hd ho hlk hJ
     have hmem : nth (psO d (nth d.Orders j)) (1 + i) ∈ (psO (stD d M) (nth d.Orders j)).drop 1 := by
      rw [← zFJ]; exact zAc (by show i < ((psO d (nth d.Orders j)).drop 1).length; simp; omega)
     have cV := zHh hS (stD d M) (nth d.Orders j) (nth (psO d (nth d.Orders j)) (1 + i)) hDM ho hmem
     rw [zDt, show psO (stD d M) (nth d.Orders j) = psO d (nth d.Orders j) from rfl, zTa] at cV
     generalize hq2 : Option.getD (if tF (nth M (nth (psO d (nth d.Orders j)) 0).toNat).Told (nth d.Orders j).Txn = true then zBl (stD d M) (nth (psO d (nth d.Orders j)) (1 + i)) (doR (nth d.Orders j).Txn (zB4 (nth M (nth (psO d (nth d.Orders j)) 0).toNat).Told (nth d.Orders j).Txn)) else none) d0 = q2 at cV
     generalize hb2 : Option.isSome (if tF (nth M (nth (psO d (nth d.Orders j)) 0).toNat).Told (nth d.Orders j).Txn = true then zBl (stD d M) (nth (psO d (nth d.Orders j)) (1 + i)) (doR (nth d.Orders j).Txn (zB4 (nth M (nth (psO d (nth d.Orders j)) 0).toNat).Told (nth d.Orders j).Txn)) else none) = b2 at cV
     have cT2 := zJ7 q2 (stD d M) b2
     rw [zJ8 hq2 hb2] at cT2
     generalize zD8 (nth d.Orders j).Txn (nth (psO d (nth d.Orders j)) 0) M (nth (psO d (nth d.Orders j)) (1 + i)) = M2 at *
     try simp (disch := omega) only [go_sem, hE, hH, hbk]
     repeat' (first | ((with_reducible first | refine zAe ?_ ?_ | refine zAf ?_ ?_) <;> (intro h; have hb := h; (try simp only [nf] at h); simp (disch := omega) only [go_sem, hE, hH, hb]; (try clear hb))) | ((with_reducible refine And.intro ?_ ?_); · omega) | (refine zEg [(4, 1, [(0, 1), (1, 4), (2, 3)])] ?_; simp (disch := omega) only [go_sem, hE, hH]; refine zOh [true, false, true] rfl rfl rfl (by kernel_rfl) (cT2) ?_; simp (disch := omega) only [go_sem, hE, hH]) | ((first | refine zAa ?_ | refine cvA (cV) ?_); simp (disch := omega) only [go_sem, hE, hH]) | (with_reducible first | apply jn | apply both | refine And.intro ?_ ?_) | ((with_reducible apply zAz); (try (simp (disch := omega) only [go_sem, hE, hH])); first | done | rfl) | (simp (disch := omega) only [go_sem, hE, hH]) | ((first | apply zAj | apply zAC) <;> (simp only [go_sem, hE, hH]; done)) | (simp only [go_sem, hE, hH]) | fail)
     all_goals first | omega | exact ⟨M2, rfl, hst⟩
    ·try simp (disch := omega) only [go_sem, hE, hH, k]
     simp only [nf] at k
     rw [show i = (psO d (nth d.Orders j)).length - 1 by omega] at hJ
     have hst := zJE hlt ⟨hI1, hI2, hI3⟩ hM0.symm hJ
     repeat' (first | ((with_reducible first | refine zAe ?_ ?_ | refine zAf ?_ ?_) <;> (intro h; have hb := h; (try simp only [nf] at h); simp (disch := omega) only [go_sem, hE, hH, hb]; (try clear hb))) | ((with_reducible refine And.intro ?_ ?_); · omega) | (with_reducible first | apply jn | apply both | refine And.intro ?_ ?_) | ((with_reducible apply zAz); (try (simp (disch := omega) only [go_sem, hE, hH])); first | done | rfl) | (simp (disch := omega) only [go_sem, hE, hH]) | ((first | apply zAj | apply zAC) <;> (simp only [go_sem, hE, hH]; done)) | (simp only [go_sem, hE, hH]) | fail)
     all_goals first | omega | exact ⟨M, rfl, hst⟩
   | false =>
    rw [hf] at cFT
    cases ha : (psO d (nth d.Orders j)).any fun p => hF (nth L p.toNat).Held (nth d.Orders j).Txn with
    | false =>
     rw [ha] at cC
     have hR : zDG (nth d.Orders j).Txn (psO d (nth d.Orders j)) L = L := by simp [zDG, preB, ha]
     try simp (disch := omega) only [go_sem, hE, hH, hset, hb]
     repeat' (first | ((with_reducible first | refine zAe ?_ ?_ | refine zAf ?_ ?_) <;> (intro h; have hb := h; (try simp only [nf] at h); simp (disch := omega) only [go_sem, hE, hH, hset, hb]; (try clear hb))) | ((with_reducible refine And.intro ?_ ?_); · omega) | (refine zEg [(4, 1, [(0, 1), (1, 4), (2, 3)])] ?_; simp (disch := omega) only [go_sem, hE, hH, hset]; refine zAa ?_; simp (disch := omega) only [go_sem, hE, hH, hset]; refine cvA (cC) ?_; simp (disch := omega) only [go_sem, hE, hH, hset]) | ((first | refine zAa ?_ | refine cvA (cP) ?_ | refine cvA (cFT) ?_); simp (disch := omega) only [go_sem, hE, hH, hset]) | (with_reducible first | apply jn | apply both | refine And.intro ?_ ?_) | ((with_reducible apply zAz); (try (simp (disch := omega) only [go_sem, hE, hH, hset])); first | done | rfl) | (simp (disch := omega) only [go_sem, hE, hH, hset]) | ((first | apply zAj | apply zAC) <;> (simp only [go_sem, hE, hH, hset]; done)) | (simp only [go_sem, hE, hH, hset]) | fail)
     all_goals try (apply zMf <;> simp only [go_sem] <;> omega)
     rw [← hR]
     obtain ⟨m1, m2⟩ := zMm (t := (nth d.Orders j).Txn) (ps := psO d (nth d.Orders j)) hI2 l3 ho.t1 ho.t2
     have m3 := m2.trans hI3
     generalize hM0 : zDG (nth d.Orders j).Txn (psO d (nth d.Orders j)) L = M0 at *
     refine zAG ((psO d (nth d.Orders j)).length - 1) (fun i (M : List State) => ⟨[(2, .ptr 3000000 0 0), (4, .ptr 5000000 0 0), (5, .fn 25 [.ptr 5000000 0 0]), (7, .ptr 8000000 0 0), (22, .sl false 3 (d.Orders.map (Order.row false))), (23, i64 d.Orders.length), (24, i64 j), (60, .ref 61000000 1 ((psO d (nth d.Orders j)).length - 1)), (61, i64 ((psO d (nth d.Orders j)).length - 1 : Nat)), (62, i64 i)], [(3000000, ⟨3, [[zAy, zAy, zAy]]⟩), (5000000, ⟨3, [Deal.row true (stD d M)]⟩), (8000000, ⟨3, [Order.row false (nth d.Orders j)]⟩), (61000000, ⟨1, ints (psO d (nth d.Orders j))⟩)]⟩) (fun i M => inI d (nth d.Orders j) M0 i M) M0 rfl ⟨rfl, m1, m3⟩ ?_
     intro i M hi hJ
     have hJ1 := hJ.2.1
     have hJ2 := hJ.2.2
     have hDM : dealG (stD d M) := hd.upd hJ1 hJ2
     try simp only [go_sem, hE, hH, zOn]
     first | refine zAe (fun k => ?_) (fun k => ?_) | refine zAf (fun k => ?_) (fun k => ?_)
     ·have hbk := k
      simp only [nf] at k
      have hlk : i < (psO d (nth d.Orders j)).length - 1 := by omega
      have hst := zLn hd ho hlk hJ
      have hmem : nth (psO d (nth d.Orders j)) (1 + i) ∈ (psO (stD d M) (nth d.Orders j)).drop 1 := by
       rw [← zFJ]; exact zAc (by show i < ((psO d (nth d.Orders j)).drop 1).length; simp; omega)
      have cV := zHh hS (stD d M) (nth d.Orders j) (nth (psO d (nth d.Orders j)) (1 + i)) hDM ho hmem
      rw [zDt, show psO (stD d M) (nth d.Orders j) = psO d (nth d.Orders j) from rfl, zTa] at cV
      generalize hq2 : Option.getD (if tF (nth M (nth (psO d (nth d.Orders j)) 0).toNat).Told (nth d.Orders j).Txn = true then zBl (stD d M) (nth (psO d (nth d.Orders j)) (1 + i)) (doR (nth d.Orders j).Txn (zB4 (nth M (nth (psO d (nth d.Orders j)) 0).toNat).Told (nth d.Orders j).Txn)) else none) d0 = q2 at cV
      generalize hb2 : Option.isSome (if tF (nth M (nth (psO d (nth d.Orders j)) 0).toNat).Told (nth d.Orders j).Txn = true then zBl (stD d M) (nth (psO d (nth d.Orders j)) (1 + i)) (doR (nth d.Orders j).Txn (zB4 (nth M (nth (psO d (nth d.Orders j)) 0).toNat).Told (nth d.Orders j).Txn)) else none) = b2 at cV
      have cT2 := zJ7 q2 (stD d M) b2
      rw [zJ8 hq2 hb2] at cT2
      generalize zD8 (nth d.Orders j).Txn (nth (psO d (nth d.Orders j)) 0) M (nth (psO d (nth d.Orders j)) (1 + i)) = M2 at *
      try simp (disch := omega) only [go_sem, hE, hH, hbk]
      repeat' (first | ((with_reducible first | refine zAe ?_ ?_ | refine zAf ?_ ?_) <;> (intro h; have hb := h; (try simp only [nf] at h); simp (disch := omega) only [go_sem, hE, hH, hb]; (try clear hb))) | ((with_reducible refine And.intro ?_ ?_); · omega) | (refine zEg [(4, 1, [(0, 1), (1, 4), (2, 3)])] ?_; simp (disch := omega) only [go_sem, hE, hH]; refine zOh [true, false, true] rfl rfl rfl (by kernel_rfl) (cT2) ?_; simp (disch := omega) only [go_sem, hE, hH]) | ((first | refine zAa ?_ | refine cvA (cV) ?_); simp (disch := omega) only [go_sem, hE, hH]) | (with_reducible first | apply jn | apply both | refine And.intro ?_ ?_) | ((with_reducible apply zAz); (try (simp (disch := omega) only [go_sem, hE, hH])); first | done | rfl) | (simp (disch := omega) only [go_sem, hE, hH]) | ((first | apply zAj | apply zAC) <;> (simp only [go_sem, hE, hH]; done)) | (simp only [go_sem, hE, hH]) | fail)
      all_goals first | omega | exact ⟨M2, rfl, hst⟩
     ·try simp (disch := omega) only [go_sem, hE, hH, k]
      simp only [nf] at k
      rw [show i = (psO d (nth d.Orders j)).length - 1 by omega] at hJ
      have hst := zJE hlt ⟨hI1, hI2, hI3⟩ hM0.symm hJ
      repeat' (first | ((with_reducible first | refine zAe ?_ ?_ | refine zAf ?_ ?_) <;> (intro h; have hb := h; (try simp only [nf] at h); simp (disch := omega) only [go_sem, hE, hH, hb]; (try clear hb))) | ((with_reducible refine And.intro ?_ ?_); · omega) | (with_reducible first | apply jn | apply both | refine And.intro ?_ ?_) | ((with_reducible apply zAz); (try (simp (disch := omega) only [go_sem, hE, hH])); first | done | rfl) | (simp (disch := omega) only [go_sem, hE, hH]) | ((first | apply zAj | apply zAC) <;> (simp only [go_sem, hE, hH]; done)) | (simp only [go_sem, hE, hH]) | fail)
      all_goals first | omega | exact ⟨M, rfl, hst⟩
    | true =>
     rw [ha] at cC
     generalize hq : (zBl (stD d L) (nth (psO d (nth d.Orders j)) 0) (noR (nth d.Orders j).Txn)).getD d0 = q at cR
     generalize hbb : (zBl (stD d L) (nth (psO d (nth d.Orders j)) 0) (noR (nth d.Orders j).Txn)).isSome = b at cR
     have cT := zJ7 q (stD d L) b
     have hR : zDG (nth d.Orders j).Txn (psO d (nth d.Orders j)) L = zFa L (nth (psO d (nth d.Orders j)) 0) (noR (nth d.Orders j).Txn) := by simp [zDG, preB, hf, ha]
     rw [zLm hq hbb, ← hR] at cT
     try simp (disch := omega) only [go_sem, hE, hH, hset, hb]
     repeat' (first | ((with_reducible first | refine zAe ?_ ?_ | refine zAf ?_ ?_) <;> (intro h; have hb := h; (try simp only [nf] at h); simp (disch := omega) only [go_sem, hE, hH, hset, hb]; (try clear hb))) | ((with_reducible refine And.intro ?_ ?_); · omega) | (refine zEg [(4, 1, [(0, 1), (1, 4), (2, 3)])] ?_; simp (disch := omega) only [go_sem, hE, hH, hset]; refine zAa ?_; simp (disch := omega) only [go_sem, hE, hH, hset]; refine cvA (cC) ?_; simp (disch := omega) only [go_sem, hE, hH, hset]) | (refine zEg [(4, 1, [(0, 1), (1, 4), (2, 3)])] ?_; simp (disch := omega) only [go_sem, hE, hH, hset]; refine zOh [true, false, true] rfl rfl rfl (by kernel_rfl) (cT) ?_; simp (disch := omega) only [go_sem, hE, hH, hset]) | ((first | refine zAa ?_ | refine cvA (cP) ?_ | refine cvA (cFT) ?_ | refine cvA (cR) ?_); simp (disch := omega) only [go_sem, hE, hH, hset]) | (with_reducible first | apply jn | apply both | refine And.intro ?_ ?_) | ((with_reducible apply zAz); (try (simp (disch := omega) only [go_sem, hE, hH, hset])); first | done | rfl) | (simp (disch := omega) only [go_sem, hE, hH, hset]) | ((first | apply zAj | apply zAC) <;> (simp only [go_sem, hE, hH, hset]; done)) | (simp only [go_sem, hE, hH, hset]) | fail)
     all_goals try (apply zMf <;> simp only [go_sem] <;> omega)
     obtain ⟨m1, m2⟩ := zMm (t := (nth d.Orders j).Txn) (ps := psO d (nth d.Orders j)) hI2 l3 ho.t1 ho.t2
     have m3 := m2.trans hI3
     generalize hM0 : zDG (nth d.Orders j).Txn (psO d (nth d.Orders j)) L = M0 at *
     refine zAG ((psO d (nth d.Orders j)).length - 1) (fun i (M : List State) => ⟨[(2, .ptr 3000000 0 0), (4, .ptr 5000000 0 0), (5, .fn 25 [.ptr 5000000 0 0]), (7, .ptr 8000000 0 0), (22, .sl false 3 (d.Orders.map (Order.row false))), (23, i64 d.Orders.length), (24, i64 j), (60, .ref 61000000 1 ((psO d (nth d.Orders j)).length - 1)), (61, i64 ((psO d (nth d.Orders j)).length - 1 : Nat)), (62, i64 i)], [(3000000, ⟨3, [[zAy, zAy, zAy]]⟩), (5000000, ⟨3, [Deal.row true (stD d M)]⟩), (8000000, ⟨3, [Order.row false (nth d.Orders j)]⟩), (61000000, ⟨1, ints (psO d (nth d.Orders j))⟩)]⟩) (fun i M => inI d (nth d.Orders j) M0 i M) M0 rfl ⟨rfl, m1, m3⟩ ?_
     intro i M hi hJ
     have hJ1 := hJ.2.1
     have hJ2 := hJ.2.2
     have hDM : dealG (stD d M) := hd.upd hJ1 hJ2
     try simp only [go_sem, hE, hH, zOn]
     first | refine zAe (fun k => ?_) (fun k => ?_) | refine zAf (fun k => ?_) (fun k => ?_)
     ·have hbk := k
      simp only [nf] at k
      have hlk : i < (psO d (nth d.Orders j)).length - 1 := by omega
      have hst := zLn hd ho hlk hJ
      have hmem : nth (psO d (nth d.Orders j)) (1 + i) ∈ (psO (stD d M) (nth d.Orders j)).drop 1 := by
       rw [← zFJ]; exact zAc (by show i < ((psO d (nth d.Orders j)).drop 1).length; simp; omega)
      have cV := zHh hS (stD d M) (nth d.Orders j) (nth (psO d (nth d.Orders j)) (1 + i)) hDM ho hmem
      rw [zDt, show psO (stD d M) (nth d.Orders j) = psO d (nth d.Orders j) from rfl, zTa] at cV
      generalize hq2 : Option.getD (if tF (nth M (nth (psO d (nth d.Orders j)) 0).toNat).Told (nth d.Orders j).Txn = true then zBl (stD d M) (nth (psO d (nth d.Orders j)) (1 + i)) (doR (nth d.Orders j).Txn (zB4 (nth M (nth (psO d (nth d.Orders j)) 0).toNat).Told (nth d.Orders j).Txn)) else none) d0 = q2 at cV
      generalize hb2 : Option.isSome (if tF (nth M (nth (psO d (nth d.Orders j)) 0).toNat).Told (nth d.Orders j).Txn = true then zBl (stD d M) (nth (psO d (nth d.Orders j)) (1 + i)) (doR (nth d.Orders j).Txn (zB4 (nth M (nth (psO d (nth d.Orders j)) 0).toNat).Told (nth d.Orders j).Txn)) else none) = b2 at cV
      have cT2 := zJ7 q2 (stD d M) b2
      rw [zJ8 hq2 hb2] at cT2
      generalize zD8 (nth d.Orders j).Txn (nth (psO d (nth d.Orders j)) 0) M (nth (psO d (nth d.Orders j)) (1 + i)) = M2 at *
      try simp (disch := omega) only [go_sem, hE, hH, hbk]
      repeat' (first | ((with_reducible first | refine zAe ?_ ?_ | refine zAf ?_ ?_) <;> (intro h; have hb := h; (try simp only [nf] at h); simp (disch := omega) only [go_sem, hE, hH, hb]; (try clear hb))) | ((with_reducible refine And.intro ?_ ?_); · omega) | (refine zEg [(4, 1, [(0, 1), (1, 4), (2, 3)])] ?_; simp (disch := omega) only [go_sem, hE, hH]; refine zOh [true, false, true] rfl rfl rfl (by kernel_rfl) (cT2) ?_; simp (disch := omega) only [go_sem, hE, hH]) | ((first | refine zAa ?_ | refine cvA (cV) ?_); simp (disch := omega) only [go_sem, hE, hH]) | (with_reducible first | apply jn | apply both | refine And.intro ?_ ?_) | ((with_reducible apply zAz); (try (simp (disch := omega) only [go_sem, hE, hH])); first | done | rfl) | (simp (disch := omega) only [go_sem, hE, hH]) | ((first | apply zAj | apply zAC) <;> (simp only [go_sem, hE, hH]; done)) | (simp only [go_sem, hE, hH]) | fail)
      all_goals first | omega | exact ⟨M2, rfl, hst⟩
     ·try simp (disch := omega) only [go_sem, hE, hH, k]
      simp only [nf] at k
      rw [show i = (psO d (nth d.Orders j)).length - 1 by omega] at hJ
      have hst := zJE hlt ⟨hI1, hI2, hI3⟩ hM0.symm hJ
      repeat' (first | ((with_reducible first | refine zAe ?_ ?_ | refine zAf ?_ ?_) <;> (intro h; have hb := h; (try simp only [nf] at h); simp (disch := omega) only [go_sem, hE, hH, hb]; (try clear hb))) | ((with_reducible refine And.intro ?_ ?_); · omega) | (with_reducible first | apply jn | apply both | refine And.intro ?_ ?_) | ((with_reducible apply zAz); (try (simp (disch := omega) only [go_sem, hE, hH])); first | done | rfl) | (simp (disch := omega) only [go_sem, hE, hH]) | ((first | apply zAj | apply zAC) <;> (simp only [go_sem, hE, hH]; done)) | (simp only [go_sem, hE, hH]) | fail)
      all_goals first | omega | exact ⟨M, rfl, hst⟩
  ·try simp (disch := omega) only [go_sem, hE, hH, h]
   simp only [nf] at h
   rw [show j = d.Orders.length by omega, List.take_length] at hI1
   rw [show zHg d = L from hI1.symm]
theorem zP7 (d : Deal) (k : Nat) (hk : k < d.Orders.length) (hd : dealG d) : ACall p_ 101 [.agg (Deal.row false d), i64 (nth d.Orders k).Txn] (fun r _ => r = i64 k) := by
 have hmx := zAh
 have hol := hd.b.ol
 refine fg H101 fun E hE hH => ?_; simp only [go_sem, hE, hH, zYF]
 repeat' (first | ((with_reducible apply ga) <;> refine gs fun h => ?_) | ((with_reducible apply an); · omega) | (with_reducible first | apply jn | apply both | apply an | exact ti) | exact fj | refine st ?_ | exact fm | refine s1 ?_)
 refine zAG d.Orders.length (fun j (_ : Unit) => ⟨[(1, i64 (nth d.Orders k).Txn), (8, .sl false 3 (d.Orders.map (Order.row false))), (9, i64 d.Orders.length), (10, i64 j)], []⟩) (fun j _ => j ≤ k) () rfl (Nat.zero_le _) ?_
 intro j _ hj hI
 have hne : j < k → (nth d.Orders j).Txn ≠ (nth d.Orders k).Txn := fun h => hd.dist j k h hk
 try simp only [go_sem, hE, hH, zQY]
 first | refine zAe (fun h => ?_) (fun h => ?_) | refine zAf (fun h => ?_) (fun h => ?_)
 ·have hb := h
  simp only [nf] at h
  have hlt := h; clear h
  try refine sb ?_; try exact ⟨⟩
  repeat' (first | ((with_reducible apply ga) <;> refine gs fun h => ?_) | ((with_reducible apply an); · omega) | (with_reducible first | apply jn | apply both | apply an | exact ti) | exact fj | refine st ?_ | exact fm | refine s1 ?_)
  ·have : j = k := by
    rcases Nat.lt_or_ge j k with q | q
    ·exact absurd (by assumption) (hne q)
    ·omega
   rw [this]
  ·refine ⟨(), rfl, ?_⟩
   rcases Nat.lt_or_ge j k with q | q
   ·omega
   ·exact absurd (by rw [show j = k by omega]) (by assumption : ¬(nth d.Orders j).Txn = (nth d.Orders k).Txn)
 ·exfalso
  simp only [nf] at h
  omega
theorem zTb (d : Deal) (o : Order) (hd : dealG d) (ho : ordG o) : ACall p_ 102 [.agg (Deal.row false d), .agg (Order.row false o), .agg [i64 3, i64 o.Txn, i64 0, i64 0]] (fun r _ => r = .tup [.agg [i64 2, i64 o.Txn, i64 0, i64 0, zAy, zAy, bl false], i64 (nth (psO d o) 0), bl true]) := by
 have hmx := zAh
 have h1 := hd.c4
 have h2 := ho.r8
 have h3 := ho.w8
 obtain ⟨l1, l2, l3⟩ := zCy hd ho
 have l4 := zFb hd (o := o)
 have cO := zLj d.Cuts o (by omega) hd.ris (by omega) (by omega)
 rw [show zCU d.Cuts o.Reads o.Writes = psO d o from rfl] at cO
 have hg := hd.g _ (zAc l3)
 have hT := (zB6 (zB1 hg)).tlen
 have cT := zEA (nth d.States (nth (psO d o) 0).toNat) o.Txn (by omega) hg.tsrt
 generalize psO d o = ps at *
 refine fg zV5 fun E hE hH => ?_; simp only [go_sem, hE, hH, zSm]
 repeat' (first | ((with_reducible apply ga) <;> refine gs fun h => ?_) | ((with_reducible apply an); · omega) | ((first | refine zAa ?_ | refine cvA (cO) ?_ | refine cvA (cT) ?_); refine st ?_) | (with_reducible first | apply jn | apply both | apply an | exact ti) | exact fj | refine st ?_ | exact fm | refine s1 ?_)
 all_goals first | omega | rfl
theorem zTc (d : Deal) (o : Order) (p : Int) (hd : dealG d) (ho : ordG o) (hp : p ∈ (psO d o).drop 1) : ACall p_ 102 [.agg (Deal.row false d), .agg (Order.row false o), .agg [i64 4, i64 o.Txn, i64 p, i64 0]] (fun r _ => r = .tup [.agg [i64 3, i64 o.Txn, i64 (zB4 (nth d.States (nth (psO d o) 0).toNat).Told o.Txn).Time, i64 0, zAy, zAy, bl (zB4 (nth d.States (nth (psO d o) 0).toNat).Told o.Txn).Yes], i64 p, bl (tF (nth d.States (nth (psO d o) 0).toNat).Told o.Txn)]) := by
 have hmx := zAh
 have h1 := hd.c4
 have h2 := ho.r8
 have h3 := ho.w8
 obtain ⟨l1, l2, l3⟩ := zCy hd ho
 have l4 := zFb hd (o := o)
 have cO := zLj d.Cuts o (by omega) hd.ris (by omega) (by omega)
 rw [show zCU d.Cuts o.Reads o.Writes = psO d o from rfl] at cO
 have hg := hd.g _ (zAc l3)
 have hT := (zB6 (zB1 hg)).tlen
 have cT := zEA (nth d.States (nth (psO d o) 0).toNat) o.Txn (by omega) hg.tsrt
 have hany : ((psO d o).any fun x => decide (p = x)) = true := by rw [List.any_eq_true]; exact ⟨p, List.mem_of_mem_drop hp, by simp⟩
 have cH := zWe (psO d o) p (by omega)
 rw [hany] at cH
 have hne : p ≠ nth (psO d o) 0 := by
  have hs : zFP (psO d o) := zF7
  obtain ⟨i, hi, e⟩ := List.getElem_of_mem hp
  rw [List.length_drop] at hi
  have h5 : nth (psO d o) 0 < nth (psO d o) (1 + i) := of_decide_eq_true (hs 0 (1 + i) (by omega) (by omega))
  rw [List.getElem_drop] at e
  rw [zAM (show 1 + i < (psO d o).length by omega), e] at h5
  omega
 generalize zB4 (nth d.States (nth (psO d o) 0).toNat).Told o.Txn = tq at *
 generalize psO d o = ps at *
 cases hf : tF (nth d.States (nth ps 0).toNat).Told o.Txn with
 | false =>
  rw [hf] at cT
  refine fg zV5 fun E hE hH => ?_; simp only [go_sem, hE, hH, zSm]
  repeat' (first | ((with_reducible apply ga) <;> refine gs fun h => ?_) | ((with_reducible apply an); · omega) | ((first | refine zAa ?_ | refine cvA (cO) ?_ | refine cvA (cT) ?_ | refine cvA (cH) ?_); refine st ?_) | (with_reducible first | apply jn | apply both | apply an | exact ti) | exact fj | refine st ?_ | exact fm | refine s1 ?_)
  all_goals first | omega | rfl | (simp_all; done)
 | true =>
  rw [hf] at cT
  refine fg zV5 fun E hE hH => ?_; simp only [go_sem, hE, hH, zSm]
  repeat' (first | ((with_reducible apply ga) <;> refine gs fun h => ?_) | ((with_reducible apply an); · omega) | ((first | refine zAa ?_ | refine cvA (cO) ?_ | refine cvA (cT) ?_ | refine cvA (cH) ?_); refine st ?_) | (with_reducible first | apply jn | apply both | apply an | exact ti) | exact fj | refine st ?_ | exact fm | refine s1 ?_)
  all_goals first | omega | rfl | (simp_all; done)
theorem zWz {s : State} (h : sG s) : zGV s := by
 have hmx := zAh
 refine ⟨by have := h.hlen; omega, fun x hx => ?_⟩
 have h3 := zAV (h.hok x hx)
 refine ⟨?_, by omega, by omega⟩
 unfold Held.wf
 refine ⟨by omega, by omega, by omega, ⟨by omega, fun k hk => ?_⟩, ⟨by omega, fun w hw => ?_⟩⟩
 ·have := zCQ (zIh h3.2.2.2.1 k hk); omega
 ·have h6 := h3.2.2.1
  rw [zFN] at h6
  simp only [Bool.and_eq_true, Bool.not_eq_true', List.any_eq_false] at h6
  have h7 := zCQ (zIh h6.1.2 _ (List.mem_map.2 ⟨_, hw, rfl⟩))
  have h8 : stored w.Val w.Gone = true := by simpa using h6.2 _ hw
  have := zFl h8
  exact ⟨by omega, by omega⟩
theorem ACall.dsh1 {P : Program} {f : Nat} {args : List T} {X : T} (h : ACall P f args (fun r _ => zAX r.dsh X)) : ACall P f args (fun r _ => r = X) :=
 (ACall.dshN (α := Unit) (X := fun _ => X) (C := fun _ => True) (h.mono fun r l q => ⟨(), q, trivial⟩)).mono fun r l ⟨_, q, _⟩ => q
def zIj (o : Option Deal) : T := .tup [.agg (Deal.row false (o.getD d0)), bl o.isSome]
theorem zMn (s : State) (r : Rec) (hs : sG s) (hg2 : zA2 r = true) (hr : zPI r) : ACall p_ 103 [.agg (State.row false s), .agg (Rec.row false r)] (fun x _ => x = zBG ((zA7 s r).getD st0) (zA7 s r).isSome) := by
 have hmx := zAh
 have z1 : st0.Cells = [] := rfl
 have z2 : st0.Held = [] := rfl
 have z3 : st0.Told = [] := rfl
 have z4 : st0.Floor = 0 := rfl
 have hg := zB1 hs
 have hI := zB6 hg
 have hc := zBy hI.cells
 have c1 := zMi s (zWz hs) (hc.w (by decide)) (by have := hc.len; omega) (by have := hI.tlen; omega)
 have c2 := zJs r hr
 rw [hg] at c1
 rw [hg2] at c2
 have cA := zQB s r hI (by decide) hg2
 cases hA : zA7 s r with
 | none =>
  rw [hA, Option.isSome_none] at cA
  simp only [zBG] at cA
  rw [Option.isSome_none, Option.getD_none, zBG]
  refine fg zYG fun E hE hH => ?_; simp only [go_sem, hE, hH, zV6]
  try refine st ?_; try exact ⟨⟩
  all_goals (have y1_ := z1; have y2_ := z2; have y3_ := z3; have y4_ := z4; repeat' (first | ((with_reducible apply ga) <;> refine zJJ fun h => ?_) | ((with_reducible apply an); · omega) | (refine zAa ?_; refine zCV ?_; refine cvA (cA) ?_; refine zBf ?_; rintro _ _ ⟨q, rfl, _⟩; refine zCV ?_) | ((first | refine zAa ?_ | refine cvA (c1) ?_ | refine cvA (c2) ?_); refine zCV ?_) | (with_reducible first | apply jn | apply both | apply an | exact ti) | exact zJL | refine zCV ?_ | exact zJM | refine zJK ?_))
  all_goals first | rfl
 | some s' =>
  rw [hA, Option.isSome_some] at cA
  simp only [zBG] at cA
  rw [Option.isSome_some, Option.getD_some, zBG]
  refine fg zYG fun E hE hH => ?_; simp only [go_sem, hE, hH, zV6]
  repeat' (first | ((with_reducible apply ga) <;> refine gs fun h => ?_) | ((with_reducible apply an); · omega) | (refine zAa ?_; refine st ?_; refine cvA (cA) ?_; refine zBf ?_; rintro _ _ ⟨q, rfl, hq⟩; refine st ?_) | ((first | refine zAa ?_ | refine cvA (c1) ?_ | refine cvA (c2) ?_); refine st ?_) | (with_reducible first | apply jn | apply both | apply an | exact ti) | exact fj | refine st ?_ | exact fm | refine s1 ?_)
  all_goals first | (obtain rfl := hq _ rfl; rfl) | rfl
theorem zQH (d : Deal) (k : Nat) (hk : k < d.Orders.length) (hd : dealG d) : ACall p_ 52 [.agg (Deal.row false d), .agg [i64 3, i64 (nth d.Orders k).Txn, i64 0, i64 0]] (fun r _ => r = zIj (zBl d (nth (psO d (nth d.Orders k)) 0) (noR (nth d.Orders k).Txn))) := by
 have hmx := zAh
 have hol := hd.b.ol
 have ho := hd.ords _ (zAc hk)
 obtain ⟨l1, l2, l3⟩ := zCy hd ho
 have cA := zP7 d k hk hd
 have cR := zTb d (nth d.Orders k) hd ho
 have hg := hd.g _ (zAc l3)
 have cP := zMn (nth d.States (nth (psO d (nth d.Orders k)) 0).toNat) (noR (nth d.Orders k).Txn) hg (zMl ho.t1 ho.t2) (by have := ho.t1; have := ho.t2; unfold zPI Rec.wf wfL noR; simp; omega)
 have cO := zJC d hd.b
 refine ACall.dsh1 ?_
 simp only [zBG] at cP
 generalize hp : nth (psO d (nth d.Orders k)) 0 = p at *
 cases hA : zA7 (nth d.States p.toNat) (noR (nth d.Orders k).Txn) with
 | none =>
  rw [hA, Option.isSome_none, Option.getD_none] at cP
  simp only [noR] at cP
  rw [show zBl d p (noR (nth d.Orders k).Txn) = none by rw [zBl, hA]; rfl]
  refine fg H52 fun E hE hH => ?_; simp only [go_sem, hE, hH, C52]
  repeat' (first | ((with_reducible apply ga) <;> refine gs fun h => ?_) | ((with_reducible apply an); · omega) | ((first | refine zAa ?_ | refine cvA (cA) ?_ | refine cvA (cR) ?_ | refine zK3 (cP) ?_); refine st ?_) | (with_reducible first | apply jn | apply both | apply an | exact ti) | exact fj | refine st ?_ | exact fm | refine s1 ?_)
  all_goals (
   refine zEP ?_
   rw [zIj, Option.getD_none, Option.isSome_none]
   simp only [go_sem]
   (repeat' apply And.intro) <;> rfl)
 | some s =>
  rw [hA, Option.isSome_some, Option.getD_some] at cP
  simp only [noR] at cP
  rw [show zBl d p (noR (nth d.Orders k).Txn) = some ⟨d.Cuts, d.States.set p.toNat s, d.Orders⟩ by rw [zBl, hA]; rfl]
  refine fg H52 fun E hE hH => ?_; simp only [go_sem, hE, hH, C52]
  repeat' (first | ((with_reducible apply ga) <;> refine gs fun h => ?_) | ((with_reducible apply an); · omega) | ((first | refine zAa ?_ | refine cvA (cA) ?_ | refine cvA (cR) ?_ | refine zK3 (cP) ?_ | refine cvA (cO) ?_); refine st ?_) | (with_reducible first | apply jn | apply both | apply an | exact ti) | exact fj | refine st ?_ | exact fm | refine s1 ?_)
  all_goals try (exfalso; omega)
  all_goals (
   refine zEP ?_
   rw [zIj, Option.getD_some, Option.isSome_some]
   simp only [go_sem, List.map_set]
   (repeat' apply And.intro) <;> first | rfl | trace_state)
theorem zQI (d : Deal) (k : Nat) (p : Int) (hk : k < d.Orders.length) (hd : dealG d) (hpm : p ∈ (psO d (nth d.Orders k)).drop 1) : ACall p_ 52 [.agg (Deal.row false d), .agg [i64 4, i64 (nth d.Orders k).Txn, i64 p, i64 0]] (fun r _ => r = zIj (if tF (nth d.States (nth (psO d (nth d.Orders k)) 0).toNat).Told (nth d.Orders k).Txn = true then zBl d p (doR (nth d.Orders k).Txn (zB4 (nth d.States (nth (psO d (nth d.Orders k)) 0).toNat).Told (nth d.Orders k).Txn)) else none)) := by
 have hmx := zAh
 have hol := hd.b.ol
 have ho := hd.ords _ (zAc hk)
 obtain ⟨l1, l2, l3⟩ := zCy hd ho
 obtain ⟨k1, k2⟩ := zFI hd p (List.mem_of_mem_drop hpm)
 have cA := zP7 d k hk hd
 have cR := zTc d (nth d.Orders k) p hd ho hpm
 have hg0 := hd.g _ (zAc l3)
 have hg := hd.g _ (zAc k2)
 have hdr := fun e => zP4 (t := (nth d.Orders k).Txn) hg0 e
 have cO := zJC d hd.b
 refine ACall.dsh1 ?_
 generalize hq : zB4 (nth d.States (nth (psO d (nth d.Orders k)) 0).toNat).Told (nth d.Orders k).Txn = tq at *
 cases hf : tF (nth d.States (nth (psO d (nth d.Orders k)) 0).toNat).Told (nth d.Orders k).Txn with
 | false =>
  rw [hf] at cR
  rw [if_neg (by simp)]
  refine fg H52 fun E hE hH => ?_; simp only [go_sem, hE, hH, C52]
  repeat' (first | ((with_reducible apply ga) <;> refine gs fun h => ?_) | ((with_reducible apply an); · omega) | ((first | refine zAa ?_ | refine cvA (cA) ?_ | refine cvA (cR) ?_); refine st ?_) | (with_reducible first | apply jn | apply both | apply an | exact ti) | exact fj | refine st ?_ | exact fm | refine s1 ?_)
  all_goals try (exfalso; omega)
  all_goals (
   refine zEP ?_
   rw [zIj, Option.getD_none, Option.isSome_none]
   simp only [go_sem]
   (repeat' apply And.intro) <;> rfl)
 | true =>
  rw [hf] at cR
  rw [if_pos rfl]
  have hr := hdr hf
  have hrr := zPY hr (.inr rfl)
  have cP := zMn (nth d.States p.toNat) (doR (nth d.Orders k).Txn tq) hg hr (by
   simp only [doR] at hrr
   unfold zPI Rec.wf wfL doR; simp; omega)
  simp only [zBG] at cP
  cases hA : zA7 (nth d.States p.toNat) (doR (nth d.Orders k).Txn tq) with
  | none =>
   rw [hA, Option.isSome_none, Option.getD_none] at cP
   simp only [doR] at cP
   rw [show zBl d p (doR (nth d.Orders k).Txn tq) = none by rw [zBl, hA]; rfl]
   refine fg H52 fun E hE hH => ?_; simp only [go_sem, hE, hH, C52]
   repeat' (first | ((with_reducible apply ga) <;> refine gs fun h => ?_) | ((with_reducible apply an); · omega) | ((first | refine zAa ?_ | refine cvA (cA) ?_ | refine cvA (cR) ?_ | refine zK3 (cP) ?_); refine st ?_) | (with_reducible first | apply jn | apply both | apply an | exact ti) | exact fj | refine st ?_ | exact fm | refine s1 ?_)
   all_goals try (exfalso; omega)
   all_goals (
    refine zEP ?_
    rw [zIj, Option.getD_none, Option.isSome_none]
    simp only [go_sem]
    (repeat' apply And.intro) <;> rfl)
  | some s =>
   rw [hA, Option.isSome_some, Option.getD_some] at cP
   simp only [doR] at cP
   rw [show zBl d p (doR (nth d.Orders k).Txn tq) = some ⟨d.Cuts, d.States.set p.toNat s, d.Orders⟩ by rw [zBl, hA]; rfl]
   refine fg H52 fun E hE hH => ?_; simp only [go_sem, hE, hH, C52]
   repeat' (first | ((with_reducible apply ga) <;> refine gs fun h => ?_) | ((with_reducible apply an); · omega) | ((first | refine zAa ?_ | refine cvA (cA) ?_ | refine cvA (cR) ?_ | refine zK3 (cP) ?_ | refine cvA (cO) ?_); refine st ?_) | (with_reducible first | apply jn | apply both | apply an | exact ti) | exact fj | refine st ?_ | exact fm | refine s1 ?_)
   all_goals try (exfalso; omega)
   all_goals (
    refine zEP ?_
    rw [zIj, Option.getD_some, Option.isSome_some]
    simp only [go_sem, List.map_set]
    (repeat' apply And.intro) <;> first | rfl | trace_state)
structure DAct where
 k : Int
 t : Int
 p : Int
deriving Inhabited
def zM3 (a : DAct) : List T := [i64 a.k, i64 a.t, i64 a.p, i64 0]
@[go_sem] theorem zAem (a : DAct) : zM3 a = [i64 a.k, i64 a.t, i64 a.p, i64 0] := rfl
theorem zMo (d : Deal) (h : dealB d) : ACall p_ 15 [.agg (Deal.row false d)] (fun x _ => x = .agg (Deal.row false d)) := by
 refine ACall.dsh1 ((zJC d h).mono fun r l e => ?_)
 rw [e]
 simp only [go_sem]
 (repeat' apply And.intro) <;> rfl
def zP8 (S : Deal) (B : List Bool) : T := .tup [.agg (Deal.row false S), .sl false 1 (B.map fun b => [bl b])]
theorem zTd (d : Deal) (hb : dealB d) (A : List DAct) (S : Nat → Deal) (hl : A.length ≤ 100) (h0 : S 0 = d) (hstep : ∀ i, i < A.length → ∃ q b, ACall p_ 52 [.agg (Deal.row false (S i)), .agg [i64 (nth A i).k, i64 (nth A i).t, i64 (nth A i).p, i64 0]] (fun r _ => r = .tup [.agg (Deal.row false q), bl b]) ∧ S (i + 1) = if b = true then q else S i) : ACall p_ 19 [.agg (Deal.row false d), .sl false 4 (A.map zM3)] (fun r _ => ∃ B : List Bool, r = zP8 (S A.length) B ∧ True) := by
 have hmx := zAh
 have cO := zMo d hb
 refine ACall.dshN (X := fun B => zP8 (S A.length) B) ?_
 refine fg H19 fun E hE hH => ?_; simp only [go_sem, hE, hH, C19]
 repeat' (first | ((with_reducible apply ga) <;> refine gs fun h => ?_) | ((with_reducible apply an); · omega) | ((first | refine zAa ?_ | refine cvA (cO) ?_); refine st ?_) | (with_reducible first | apply jn | apply both | apply an | exact ti) | exact fj | refine st ?_ | exact fm | refine s1 ?_)
 rw [← h0]
 refine zAG A.length (fun j (B : List Bool) => ⟨[(4, .ptr 5000000 0 0), (6, .ptr 7000000 0 0), (7, .ref 8000000 0 B.length), (14, .sl false 4 (A.map zM3)), (15, i64 A.length), (16, i64 j)], [(5000000, ⟨3, [[zAy, zAy, zAy]]⟩), (7000000, ⟨3, [Deal.row false (S j)]⟩), (8000000, ⟨1, B.map fun b => [bl b]⟩)]⟩) (fun j B => B.length = j) [] rfl rfl ?_
 intro j B hj hB
 try simp only [go_sem, hE, hH, zT3]
 first | refine zAe (fun h => ?_) (fun h => ?_) | refine zAf (fun h => ?_) (fun h => ?_)
 ·have hbk := h
  simp only [nf] at h
  have hlt := h; clear h
  obtain ⟨q, b, cS, hS⟩ := hstep j hlt
  cases b with
  | false =>
   rw [if_neg (by simp)] at hS
   try simp (disch := omega) only [go_sem, hE, hH, hbk]
   repeat' (first | ((with_reducible apply ga) <;> refine gs fun h => ?_) | ((with_reducible apply an); · omega) | ((first | refine zAa ?_ | refine cvA (cS) ?_); refine st ?_) | (with_reducible first | apply jn | apply both | apply an | exact ti) | exact fj | refine st ?_ | exact fm | refine s1 ?_)
   all_goals first | omega | (refine ⟨B ++ [false], ?_, by simp [hB]⟩; rw [hS]; simp; done)
  | true =>
   rw [if_pos rfl] at hS
   try simp (disch := omega) only [go_sem, hE, hH, hbk]
   repeat' (first | ((with_reducible apply ga) <;> refine gs fun h => ?_) | ((with_reducible apply an); · omega) | ((first | refine zAa ?_ | refine cvA (cS) ?_); refine st ?_) | (with_reducible first | apply jn | apply both | apply an | exact ti) | exact fj | refine st ?_ | exact fm | refine s1 ?_)
   all_goals first | omega | (refine ⟨B ++ [true], ?_, by simp [hB]⟩; rw [hS]; simp; done)
 ·try simp (disch := omega) only [go_sem, hE, hH, h]
  simp only [nf] at h
  rw [show j = A.length by omega]
  repeat' (first | ((with_reducible apply ga) <;> refine gs fun h => ?_) | ((with_reducible apply an); · omega) | (with_reducible first | apply jn | apply both | apply an | exact ti) | exact fj | refine st ?_ | exact fm | refine s1 ?_)
  all_goals (
   refine zEP ⟨B, ?_⟩
   rw [zP8]
   simp only [go_sem]
   (repeat' apply And.intro) <;> rfl)
def zEC (t lead : Int) (L : List State) (a : DAct) : List State := if a.k = 3 then zFa L lead (noR t) else zD8 t lead L a.p
def zC2 (t : Int) (ps : List Int) (L : List State) : List DAct := (if preB t ps L = true then [⟨3, t, 0⟩] else []) ++ (ps.drop 1).map fun p => ⟨4, t, p⟩
theorem zTe {t : Int} {ps : List Int} {L : List State} : (zC2 t ps L).foldl (zEC t (nth ps 0)) L = ordA t ps L := by
 have h1 : (if preB t ps L = true then [(⟨3, t, 0⟩ : DAct)] else []).foldl (zEC t (nth ps 0)) L = zDG t ps L := by
  unfold zDG
  split
  ·simp [zEC]
  ·rfl
 have h2 : (fun (x : List State) (y : Int) => zEC t (nth ps 0) x ⟨4, t, y⟩) = zD8 t (nth ps 0) := by
  funext x y
  simp [zEC]
 rw [zC2, List.foldl_append, h1, List.foldl_map, h2]
 rfl
theorem zNQ {t : Int} {ps : List Int} {L : List State} {a : DAct} (h : a ∈ zC2 t ps L) : a = ⟨3, t, 0⟩ ∨ ∃ p ∈ ps.drop 1, a = ⟨4, t, p⟩ := by
 rw [zC2, List.mem_append, List.mem_map] at h
 rcases h with h | ⟨p, h1, h2⟩
 ·split at h
  ·exact .inl (List.mem_singleton.1 h)
  ·cases h
 ·exact .inr ⟨p, h1, h2.symm⟩
theorem zVd {t : Int} {ps : List Int} {L : List State} : (zC2 t ps L).length ≤ 1 + ps.length := by
 rw [zC2, List.length_append, List.length_map, List.length_drop]
 split <;> simp <;> omega
theorem zAae {t lead : Int} {L : List State} {a : DAct} (h : zDs L) (hl : lead.toNat < L.length) (h1 : 1 ≤ t) (h2 : t ≤ 60) (ha : a.k = 3 ∨ a.p.toNat < L.length) : zDs (zEC t lead L a) ∧ (zEC t lead L a).length = L.length := by
 unfold zEC
 split
 ·exact ⟨zP3 h hl (zMl h1 h2) (.inl rfl), zLh⟩
 ·rename_i h3
  exact zP5 h hl (ha.resolve_left h3)
theorem zVe {t lead : Int} (h1 : 1 ≤ t) (h2 : t ≤ 60) : ∀ {A : List DAct} {L : List State}, zDs L → lead.toNat < L.length → (∀ a ∈ A, a.k = 3 ∨ a.p.toNat < L.length) → zDs (A.foldl (zEC t lead) L) ∧ (A.foldl (zEC t lead) L).length = L.length
 | [], L, h, _, _ => ⟨h, rfl⟩
 | a :: A, L, h, hl, hp => by
  obtain ⟨x, y⟩ := zAae (t := t) h hl h1 h2 (hp a List.mem_cons_self)
  obtain ⟨z, w⟩ := zVe h1 h2 (A := A) x (by rw [y]; exact hl) fun b hb => by rw [y]; exact hp b (List.mem_cons_of_mem _ hb)
  exact ⟨z, w.trans y⟩
theorem zWA (d : Deal) (k : Nat) (L : List State) (hk : k < d.Orders.length) (hd : dealG d) (hL : zDs L) (hl : L.length = d.States.length) : ACall p_ 19 [.agg (Deal.row false (stD d L)), .sl false 4 ((zC2 (nth d.Orders k).Txn (psO d (nth d.Orders k)) L).map zM3)] (fun r _ => ∃ B : List Bool, r = zP8 (stD d (zLi d.Cuts L (nth d.Orders k))) B ∧ True) := by
 have ho := hd.ords _ (zAc hk)
 obtain ⟨l1, l2, l3⟩ := zCy hd ho
 have l4 := zFb hd (o := nth d.Orders k)
 have l5 := zFI hd (o := nth d.Orders k)
 have hal := zVd (t := (nth d.Orders k).Txn) (ps := psO d (nth d.Orders k)) (L := L)
 have hin : ∀ a ∈ zC2 (nth d.Orders k).Txn (psO d (nth d.Orders k)) L, a.k = 3 ∨ a.p.toNat < L.length := fun a ha => by
  rcases zNQ ha with e | ⟨p, hp, e⟩
  ·left; rw [e]
  ·right; rw [e, hl]; exact (l5 p (List.mem_of_mem_drop hp)).2
 have hfin := zTe (t := (nth d.Orders k).Txn) (ps := psO d (nth d.Orders k)) (L := L)
 have hD : dealG (stD d L) := hd.upd hL hl
 have key := zTd (stD d L) hD.b (zC2 (nth d.Orders k).Txn (psO d (nth d.Orders k)) L) (fun i => stD d (((zC2 (nth d.Orders k).Txn (psO d (nth d.Orders k)) L).take i).foldl (zEC (nth d.Orders k).Txn (nth (psO d (nth d.Orders k)) 0)) L)) (by omega) rfl (fun i hi => by
  have hm := zAc hi
  obtain ⟨g1, g2⟩ := zVe ho.t1 ho.t2 (A := (zC2 (nth d.Orders k).Txn (psO d (nth d.Orders k)) L).take i) hL (by rw [hl]; exact l3) fun a ha => hin a (List.mem_of_mem_take ha)
  simp only [zAp hi, List.foldl_append]
  generalize ((zC2 (nth d.Orders k).Txn (psO d (nth d.Orders k)) L).take i).foldl (zEC (nth d.Orders k).Txn (nth (psO d (nth d.Orders k)) 0)) L = M at *
  have hM : dealG (stD d M) := hd.upd g1 (g2.trans hl)
  rcases zNQ hm with e | ⟨p, hp, e⟩
  ·rw [e]
   exact ⟨_, _, zQH (stD d M) k hk hM, (by simp only [List.foldl_cons, List.foldl_nil, zEC, if_true]; exact (zLm rfl rfl).symm)⟩
  ·rw [e]
   exact ⟨_, _, zQI (stD d M) k p hk hM hp, (by simp only [List.foldl_cons, List.foldl_nil, zEC]; rw [if_neg (by decide)]; exact (zJ8 rfl rfl).symm)⟩)
 rw [List.take_length, hfin] at key
 exact key
theorem zP9 {d : Deal} {j : Nat} {L : List State} (hj : j < d.Orders.length) (hd : dealG d) (h : zLl d j L) : zLl d (j + 1) (zLi d.Cuts L (nth d.Orders j)) := by
 obtain ⟨a1, a2, a3⟩ := h
 have ho := hd.ords _ (zAc hj)
 obtain ⟨l1, l2, l3⟩ := zCy hd ho
 rw [← a3] at l3
 obtain ⟨b1, b2⟩ := zMm (t := (nth d.Orders j).Txn) (ps := psO d (nth d.Orders j)) a2 l3 ho.t1 ho.t2
 obtain ⟨c1, c2⟩ := zVa (t := (nth d.Orders j).Txn) (lead := nth (psO d (nth d.Orders j)) 0) (ps := (psO d (nth d.Orders j)).drop 1) b1 (by rw [b2]; exact l3) fun p hp => by
  have := zFI hd p (List.mem_of_mem_drop hp)
  rw [b2, a3]; exact this
 refine ⟨?_, c1, c2.trans (b2.trans a3)⟩
 rw [zAp hj, List.foldl_append, ← a1]; rfl
def zGE (L : List State) (ps : List Int) (t : Int) (i : Nat) : Bool := (ps.take i).any fun p => hF (nth L p.toNat).Held t
theorem zVf (L : List State) (ps : List Int) (t : Int) : zGE L ps t 0 = false := rfl
theorem zVg {L : List State} {ps : List Int} {t : Int} {i : Nat} (h : i < ps.length) : zGE L ps t (i + 1) = (zGE L ps t i || hF (nth L (nth ps i).toNat).Held t) := by
 rw [zGE, zAp h, List.any_append]; simp [zGE]
theorem zWB {L : List State} {ps : List Int} {t : Int} : preB t ps L = (!tF (nth L (nth ps 0).toNat).Told t && zGE L ps t ps.length) := by
 rw [preB, zGE, List.take_length]
def zFo (t : Int) (ps : List Int) (b : Bool) (i : Nat) : List DAct := (if b = true then [⟨3, t, 0⟩] else []) ++ ((ps.drop 1).take i).map fun p => ⟨4, t, p⟩
theorem zTf {t : Int} {ps : List Int} {b : Bool} {i : Nat} (h : i < ps.length - 1) : zFo t ps b (i + 1) = zFo t ps b i ++ [⟨4, t, nth ps (1 + i)⟩] := by
 rw [zFo, zAp (by simp; omega), List.map_append, zFJ, zFo, List.append_assoc]; rfl
theorem zVh {t : Int} {ps : List Int} {b : Bool} {i : Nat} : (zFo t ps b i).length ≤ 1 + i := by
 rw [zFo, List.length_append, List.length_map, List.length_take]
 split <;> simp <;> omega
theorem zVi {t : Int} {ps : List Int} {L : List State} : zFo t ps (preB t ps L) (ps.length - 1) = zC2 t ps L := by
 rw [zFo, zC2, List.take_of_length_le (by simp)]
def sdS (d : Deal) : T := if zA3 d = true then .tup [.agg (Deal.row false (stD d (zHg d))), bl true] else .tup [.agg (Deal.row false d0), bl false]
theorem zM4 (d : Deal) (hw : dealW d) : ACall p_ 5 [.agg (Deal.row false d)] (fun x _ => x = sdS d) := by
 have hmx := zAh
 have z1 : d0.Cuts = [] := rfl
 have z2 : d0.States = [] := rfl
 have z3 : d0.Orders = [] := rfl
 have cG := zS8 d hw
 cases hg : zA3 d with
 | false =>
  rw [hg] at cG
  rw [sdS, hg, if_neg (by simp)]
  refine fg H5 fun E hE hH => ?_; simp only [go_sem, hE, hH, C5]
  repeat' (first | ((with_reducible first | refine zAe ?_ ?_ | refine zAf ?_ ?_) <;> (intro h; have hb := h; (try simp only [nf] at h); simp (disch := omega) only [go_sem, hE, hH, z1, z2, z3, hb]; (try clear hb))) | ((with_reducible refine And.intro ?_ ?_); · omega) | ((first | refine zAa ?_ | refine cvA (cG) ?_); simp (disch := omega) only [go_sem, hE, hH, z1, z2, z3]) | (with_reducible first | apply jn | apply both | refine And.intro ?_ ?_) | ((with_reducible apply zAz); (try (simp (disch := omega) only [go_sem, hE, hH, z1, z2, z3])); first | done | rfl) | (simp (disch := omega) only [go_sem, hE, hH, z1, z2, z3]) | ((first | apply zAj | apply zAC) <;> (simp only [go_sem, hE, hH, z1, z2, z3]; done)) | (simp only [go_sem, hE, hH, z1, z2, z3]) | fail)
  all_goals first | omega | rfl
 | true =>
  rw [hg] at cG
  have hd := zLk hg
  have cC := zMo d hd.b
  have hol := hd.b.ol
  rw [sdS, hg, if_pos rfl]
  refine fg H5 fun E hE hH => ?_; simp only [go_sem, hE, hH, C5]
  repeat' (first | ((with_reducible first | refine zAe ?_ ?_ | refine zAf ?_ ?_) <;> (intro h; have hb := h; (try simp only [nf] at h); simp (disch := omega) only [go_sem, hE, hH, hb]; (try clear hb))) | ((with_reducible refine And.intro ?_ ?_); · omega) | ((first | refine zAa ?_ | refine cvA (cG) ?_ | refine cvA (cC) ?_); simp (disch := omega) only [go_sem, hE, hH]) | (with_reducible first | apply jn | apply both | refine And.intro ?_ ?_) | ((with_reducible apply zAz); (try (simp (disch := omega) only [go_sem, hE, hH])); first | done | rfl) | (simp (disch := omega) only [go_sem, hE, hH]) | ((first | apply zAj | apply zAC) <;> (simp only [go_sem, hE, hH]; done)) | (simp only [go_sem, hE, hH]) | fail)
  refine zAG d.Orders.length (fun j (L : List State) => ⟨[(1, .ptr 2000000 0 0), (2, .ptr 3000000 0 0), (4, .ptr 5000000 0 0), (27, .sl false 3 (d.Orders.map (Order.row false))), (28, i64 d.Orders.length), (29, i64 j)], [(2000000, ⟨3, [Deal.row false d]⟩), (3000000, ⟨3, [[zAy, zAy, zAy]]⟩), (5000000, ⟨3, [Deal.row false (stD d L)]⟩)]⟩) (fun j L => zLl d j L) d.States rfl ⟨rfl, hd.g, rfl⟩ ?_
  intro j L hj hI
  obtain ⟨hI1, hI2, hI3⟩ := hI
  try simp only [go_sem, hE, hH, zWV]
  first | refine zAe (fun h => ?_) (fun h => ?_) | refine zAf (fun h => ?_) (fun h => ?_)
  ·have hb := h
   simp only [nf] at h
   have hlt : j < d.Orders.length := by omega
   have ho := hd.ords _ (zAc hlt)
   obtain ⟨l1, l2, l3⟩ := zCy hd ho
   have l4 := zFb hd (o := nth d.Orders j)
   have l5 := zFI hd (o := nth d.Orders j)
   rw [← hI3] at l3
   have h1 := hd.c4
   have h2 := ho.r8
   have h3 := ho.w8
   have cO := zLj d.Cuts (nth d.Orders j) (by omega) hd.ris (by omega) (by omega)
   rw [show zCU d.Cuts (nth d.Orders j).Reads (nth d.Orders j).Writes = psO d (nth d.Orders j) from rfl] at cO
   have hgl := hI2 _ (zAc l3)
   have hT := (zB6 (zB1 hgl)).tlen
   have cT := zEA (nth L (nth (psO d (nth d.Orders j)) 0).toNat) (nth d.Orders j).Txn (by omega) hgl.tsrt
   have cPl := zWA d j L hlt hd hI2 hI3
   simp only [zP8] at cPl
   have cPf : ACall p_ 19 [.agg (Deal.row false (stD d L)), .sl true 4 ((zC2 (nth d.Orders j).Txn (psO d (nth d.Orders j)) L).map zM3)] (fun r l => (∃ l0 : List T, ∃ B : List Bool, r = .tup [.agg (Deal.row false (stD d (zLi d.Cuts L (nth d.Orders j)))), .sl false 1 (B.map fun b => [bl b])] ∧ True) ∧ l = [.any, .any]) := (ACall.frz (by simp only [go_sem] at cPl ⊢; exact cPl)).mono fun r l h => h
   have hz := zVf L (psO d (nth d.Orders j)) (nth d.Orders j).Txn
   try simp (disch := omega) only [go_sem, hE, hH, hb]
   repeat' (first | ((with_reducible first | refine zAe ?_ ?_ | refine zAf ?_ ?_) <;> (intro h; have hb := h; (try simp only [nf] at h); simp (disch := omega) only [go_sem, hE, hH, hb]; (try clear hb))) | ((with_reducible refine And.intro ?_ ?_); · omega) | ((first | refine zAa ?_ | refine cvA (cO) ?_); simp (disch := omega) only [go_sem, hE, hH]) | (with_reducible first | apply jn | apply both | refine And.intro ?_ ?_) | ((with_reducible apply zAz); (try (simp (disch := omega) only [go_sem, hE, hH])); first | done | rfl) | (simp (disch := omega) only [go_sem, hE, hH]) | ((first | apply zAj | apply zAC) <;> (simp only [go_sem, hE, hH]; done)) | (simp only [go_sem, hE, hH]) | fail)
   refine zAG (psO d (nth d.Orders j)).length (fun i (_ : Unit) => ⟨[(1, .ptr 2000000 0 0), (2, .ptr 3000000 0 0), (4, .ptr 5000000 0 0), (6, .ptr 7000000 0 0), (7, .ref 8000000 0 (psO d (nth d.Orders j)).length), (8, bl (zGE L (psO d (nth d.Orders j)) (nth d.Orders j).Txn i)), (27, .sl false 3 (d.Orders.map (Order.row false))), (28, i64 d.Orders.length), (29, i64 j), (37, .ref 8000000 0 (psO d (nth d.Orders j)).length), (38, i64 (psO d (nth d.Orders j)).length), (39, i64 i)], [(2000000, ⟨3, [Deal.row false d]⟩), (3000000, ⟨3, [[zAy, zAy, zAy]]⟩), (5000000, ⟨3, [Deal.row false (stD d L)]⟩), (7000000, ⟨3, [Order.row false (nth d.Orders j)]⟩), (8000000, ⟨1, ints (psO d (nth d.Orders j))⟩)]⟩) (fun _ _ => True) () rfl trivial ?_
   intro i _ hi _
   try simp only [go_sem, hE, hH, zWT]
   first | refine zAe (fun k => ?_) (fun k => ?_) | refine zAf (fun k => ?_) (fun k => ?_)
   ·have hbk := k
    simp only [nf] at k
    have hlk : i < (psO d (nth d.Orders j)).length := by omega
    have hpi := l5 _ (zAc hlk)
    rw [← hI3] at hpi
    have hgi := hI2 _ (zAc hpi.2)
    have hHl := hgi.hlen
    have cH := zGB (nth L (nth (psO d (nth d.Orders j)) i).toNat) (nth d.Orders j).Txn (by omega) hgi.hsrt
    have hsu := zVg (L := L) (t := (nth d.Orders j).Txn) hlk
    cases e1 : zGE L (psO d (nth d.Orders j)) (nth d.Orders j).Txn i with
    | false =>
     rw [e1, Bool.false_or] at hsu
     try simp (disch := omega) only [go_sem, hE, hH, hsu, hbk, e1]
     repeat' (first | ((with_reducible first | refine zAe ?_ ?_ | refine zAf ?_ ?_) <;> (intro h; have hb := h; (try simp only [nf] at h); simp (disch := omega) only [go_sem, hE, hH, hsu, hb]; (try clear hb))) | ((with_reducible refine And.intro ?_ ?_); · omega) | ((first | refine zAa ?_ | refine cvA (cH) ?_); simp (disch := omega) only [go_sem, hE, hH, hsu]) | (with_reducible first | apply jn | apply both | refine And.intro ?_ ?_) | ((with_reducible apply zAz); (try (simp (disch := omega) only [go_sem, hE, hH, hsu])); first | done | rfl) | (simp (disch := omega) only [go_sem, hE, hH, hsu]) | ((first | apply zAj | apply zAC) <;> (simp only [go_sem, hE, hH, hsu]; done)) | (simp only [go_sem, hE, hH, hsu]) | fail)
     all_goals first | omega | exact ⟨(), rfl⟩ | exact ⟨(), rfl, trivial⟩ | (refine ⟨(), ?_⟩; rw [hsu]; rfl) | (rw [hsu]; done) | (rw [hsu]; rfl)
    | true =>
     rw [e1, Bool.true_or] at hsu
     try simp (disch := omega) only [go_sem, hE, hH, hsu, hbk, e1]
     repeat' (first | ((with_reducible first | refine zAe ?_ ?_ | refine zAf ?_ ?_) <;> (intro h; have hb := h; (try simp only [nf] at h); simp (disch := omega) only [go_sem, hE, hH, hsu, hb]; (try clear hb))) | ((with_reducible refine And.intro ?_ ?_); · omega) | ((first | refine zAa ?_ | refine cvA (cH) ?_); simp (disch := omega) only [go_sem, hE, hH, hsu]) | (with_reducible first | apply jn | apply both | refine And.intro ?_ ?_) | ((with_reducible apply zAz); (try (simp (disch := omega) only [go_sem, hE, hH, hsu])); first | done | rfl) | (simp (disch := omega) only [go_sem, hE, hH, hsu]) | ((first | apply zAj | apply zAC) <;> (simp only [go_sem, hE, hH, hsu]; done)) | (simp only [go_sem, hE, hH, hsu]) | fail)
     all_goals first | omega | exact ⟨(), rfl⟩ | exact ⟨(), rfl, trivial⟩ | (refine ⟨(), ?_⟩; rw [hsu]; rfl) | (rw [hsu]; done) | (rw [hsu]; rfl)
   ·try simp (disch := omega) only [go_sem, hE, hH, k]
    simp only [nf] at k
    rw [show i = (psO d (nth d.Orders j)).length by omega]
    repeat' (first | ((with_reducible first | refine zAe ?_ ?_ | refine zAf ?_ ?_) <;> (intro h; have hb := h; (try simp only [nf] at h); simp (disch := omega) only [go_sem, hE, hH, hb]; (try clear hb))) | ((with_reducible refine And.intro ?_ ?_); · omega) | ((first | refine zAa ?_ | refine cvA (cT) ?_); simp (disch := omega) only [go_sem, hE, hH]) | (with_reducible first | apply jn | apply both | refine And.intro ?_ ?_) | ((with_reducible apply zAz); (try (simp (disch := omega) only [go_sem, hE, hH])); first | done | rfl) | (simp (disch := omega) only [go_sem, hE, hH]) | ((first | apply zAj | apply zAC) <;> (simp only [go_sem, hE, hH]; done)) | (simp only [go_sem, hE, hH]) | fail)
    all_goals (
     obtain ⟨b, hb0⟩ : ∃ b, b = preB (nth d.Orders j).Txn (psO d (nth d.Orders j)) L := ⟨_, rfl⟩
     refine zAG ((psO d (nth d.Orders j)).length - 1) (fun m (_ : Unit) => ⟨[(1, .ptr 2000000 0 0), (2, .ptr 3000000 0 0), (4, .ptr 5000000 0 0), (6, .ptr 7000000 0 0), (13, .ref 14000000 0 (zFo (nth d.Orders j).Txn (psO d (nth d.Orders j)) b m).length), (27, .sl false 3 (d.Orders.map (Order.row false))), (28, i64 d.Orders.length), (29, i64 j), (84, .ref 8000000 1 ((psO d (nth d.Orders j)).length - 1)), (85, i64 ((psO d (nth d.Orders j)).length - 1 : Nat)), (86, i64 m)], [(2000000, ⟨3, [Deal.row false d]⟩), (3000000, ⟨3, [[zAy, zAy, zAy]]⟩), (5000000, ⟨3, [Deal.row false (stD d L)]⟩), (7000000, ⟨3, [Order.row false (nth d.Orders j)]⟩), (14000000, ⟨4, (zFo (nth d.Orders j).Txn (psO d (nth d.Orders j)) b m).map zM3⟩), (8000000, ⟨1, ints (psO d (nth d.Orders j))⟩)]⟩) (fun _ _ => True) () (by
      rw [hb0, zWB]
      first
       | (rw [show tF (nth L (nth (psO d (nth d.Orders j)) 0).toNat).Told (nth d.Orders j).Txn = false by assumption, show zGE L (psO d (nth d.Orders j)) (nth d.Orders j).Txn (psO d (nth d.Orders j)).length = true by assumption]; rfl)
       | (rw [show zGE L (psO d (nth d.Orders j)) (nth d.Orders j).Txn (psO d (nth d.Orders j)).length = false by assumption, Bool.and_false]; rfl)
       | (rw [show tF (nth L (nth (psO d (nth d.Orders j)) 0).toNat).Told (nth d.Orders j).Txn = true by assumption]; rfl)) trivial ?_
     intro m _ hm _
     have hml := zVh (t := (nth d.Orders j).Txn) (ps := psO d (nth d.Orders j)) (b := b) (i := m)
     try simp only [go_sem, hE, hH, zWU]
     first | refine zAe (fun w => ?_) (fun w => ?_) | refine zAf (fun w => ?_) (fun w => ?_)
     ·have hbw := w
      simp only [nf] at w
      have hlw : m < (psO d (nth d.Orders j)).length - 1 := by omega
      have hsu := zTf (t := (nth d.Orders j).Txn) (b := b) hlw
      try simp (disch := omega) only [go_sem, hE, hH, hbw]
      repeat' (first | ((with_reducible first | refine zAe ?_ ?_ | refine zAf ?_ ?_) <;> (intro h; have hb := h; (try simp only [nf] at h); simp (disch := omega) only [go_sem, hE, hH, hb]; (try clear hb))) | ((with_reducible refine And.intro ?_ ?_); · omega) | (with_reducible first | apply jn | apply both | refine And.intro ?_ ?_) | ((with_reducible apply zAz); (try (simp (disch := omega) only [go_sem, hE, hH])); first | done | rfl) | (simp (disch := omega) only [go_sem, hE, hH]) | ((first | apply zAj | apply zAC) <;> (simp only [go_sem, hE, hH]; done)) | (simp only [go_sem, hE, hH]) | fail)
      all_goals first | omega | (refine ⟨(), ?_⟩; rw [hsu, List.length_append, List.map_append]; rfl) | (rw [hsu, List.length_append, List.map_append]; rfl)
     ·try simp (disch := omega) only [go_sem, hE, hH, w]
      simp only [nf] at w
      rw [show m = (psO d (nth d.Orders j)).length - 1 by omega, hb0, zVi]
      have hst := zP9 hlt hd ⟨hI1, hI2, hI3⟩
      repeat' (first | ((with_reducible first | refine zAe ?_ ?_ | refine zAf ?_ ?_) <;> (intro h; have hb := h; (try simp only [nf] at h); simp (disch := omega) only [go_sem, hE, hH, hb]; (try clear hb))) | ((with_reducible refine And.intro ?_ ?_); · omega) | (refine zAI [true, true] ?_; simp (disch := omega) only [go_sem, hE, hH]; refine cmA (cPf) ?_; refine zR9 ?_; rintro _ _ ⟨⟨l0, B, rfl, _⟩, rfl⟩; simp (disch := omega) only [go_sem, hE, hH]) | (with_reducible first | apply jn | apply both | refine And.intro ?_ ?_) | ((with_reducible apply zAz); (try (simp (disch := omega) only [go_sem, hE, hH])); first | done | rfl) | (simp (disch := omega) only [go_sem, hE, hH]) | ((first | apply zAj | apply zAC) <;> (simp only [go_sem, hE, hH]; done)) | (simp only [go_sem, hE, hH]) | fail)
      all_goals first | omega | exact ⟨_, rfl, hst⟩ | trace_state)
  ·try simp (disch := omega) only [go_sem, hE, hH, h]
   simp only [nf] at h
   rw [show j = d.Orders.length by omega, List.take_length] at hI1
   rw [show zHg d = L from hI1.symm]
theorem zVj {d : Deal} (hd : dealG d) : ∀ j, j ≤ d.Orders.length → zLl d j ((d.Orders.take j).foldl (zLi d.Cuts) d.States)
 | 0, _ => ⟨rfl, hd.g, rfl⟩
 | j + 1, h => by
  have := zP9 (show j < d.Orders.length by omega) hd (zVj hd j (by omega))
  rw [← this.1]
  exact this
def sdQ (d : Deal) : Deal := if zA3 d = true then stD d (zHg d) else d0
theorem zAaf (d : Deal) : sdR d = .tup [.agg (Deal.row true (sdQ d)), bl (zA3 d)] := by
 rw [sdR, sdQ]
 cases zA3 d <;> rfl
theorem zAag (d : Deal) : sdS d = .tup [.agg (Deal.row false (sdQ d)), bl (zA3 d)] := by
 rw [sdS, sdQ]
 cases zA3 d <;> rfl
theorem zAah {d : Deal} (hs : d.sz ≤ 2 ^ 20) : (sdQ d).sz ≤ 2 ^ 23 := by
 have e : d.sz = szL ByteArray.size d.Cuts + szL State.sz d.States + szL Order.sz d.Orders := rfl
 rw [sdQ]
 split
 ·rename_i h
  have hd := zLk h
  have hI := zVj hd d.Orders.length (Nat.le_refl _)
  rw [List.take_length, show d.Orders.foldl (zLi d.Cuts) d.States = zHg d from rfl] at hI
  obtain ⟨-, h2, h3⟩ := hI
  have h4 : szL State.sz (zHg d) ≤ (2 ^ 20 + 1) * (zHg d).length := zE8 fun s q => (zB6 (zB1 (h2 s q))).sz (by decide)
  have h5 := hd.len
  have h6 := hd.c4
  have h7 : (2 ^ 20 + 1) * (zHg d).length ≤ (2 ^ 20 + 1) * 4 := Nat.mul_le_mul_left _ (by omega)
  show szL ByteArray.size d.Cuts + szL State.sz (zHg d) + szL Order.sz d.Orders ≤ 2 ^ 23
  omega
 ·decide
theorem zIk (hS : zB5) (vD : Deal) (wD : vD.wf) : ACall p_ 3 [.agg (Deal.row false vD)] (fun r _ => r = bl true) := by
 have hmx := zAh
 have lD : vD.lim := Deal.lim_of wD
 refine fg H3 fun E hE hH => ?_; simp only [go_sem, hE, hH, C3]
 refine zAa ?_; simp (disch := omega) only [go_sem, hE, hH]; refine cvA (zUI vD _ (by decide) (by decide) wD) ?_
 refine zBf ?_
 rintro r l ⟨n1, rfl, hn1, hsz1⟩
 try refine st ?_; try exact ⟨⟩
 first | refine zAe (fun h1 => ?_) (fun h1 => ?_) | refine zAf (fun h1 => ?_) (fun h1 => ?_)
 ·try simp (disch := omega) only [go_sem, hE, hH, h1]
 have hb1 := h1
 simp only [nf] at h1
 try simp (disch := omega) only [go_sem, hE, hH, hb1]
 have sD : vD.sz ≤ 2 ^ 20 := by have := hsz1 h1; omega
 have hw := zWx wD sD
 have hz := zAah sD
 have hlim := Deal.lim_sz (x := sdQ vD) (by omega)
 have cI := zOb hS vD hw
 rw [zAaf] at cI
 have cS := zM4 vD hw
 rw [zAag] at cS
 have cS2 : ACall p_ 5 [.agg (Deal.row true vD)] (fun x a => x = .tup [.agg (Deal.row false (sdQ vD)), bl (zA3 vD)] ∧ a = [.any]) := zPi cS (by simp only [go_sem]; rfl) rfl
 generalize sdQ vD = s at *
 generalize zA3 vD = b at *
 have c1 := Deal.cntv_le vD
 have c2 := Deal.cntv_le s
 have e1 := Deal.mkv_cnt vD 1
 have e2 := Deal.mkv_cnt s 1
 repeat' (first | ((with_reducible apply ga) <;> refine gs fun h => ?_) | ((with_reducible apply an); · omega) | (refine zAI [true] ?_; refine st ?_; refine cmA (cS2) ?_; refine st ?_) | (refine zAI [true, false] ?_; refine st ?_; refine cmA (zKr vD 1 (by omega) (by omega)) ?_; refine st ?_) | (refine zAI [true, false] ?_; refine st ?_; refine cmA (zKr s 1 (by omega) (by omega)) ?_; refine st ?_) | ((first | refine zAa ?_ | refine cvA (zUN vD sD) ?_ | refine cvA (cI) ?_ | refine cvA (zNy vD vD lD) ?_ | refine cvA (zNy s s hlim) ?_ | refine cvA (zQv s 1 (by omega) (by omega)) ?_); refine st ?_) | (with_reducible first | apply jn | apply both | apply an | exact ti) | exact fj | refine st ?_ | exact fm | refine s1 ?_)
 all_goals omega
end Go.Proofs.Wb

import Derived.Test.YtjfjakbgelikeaaGreatFnExactSettleDealM0
import Derived.Laws.Externs
set_option linter.all false
set_option maxHeartbeats 4000000
namespace Go.Proofs.Wb
open Tryz renaming prog → p_
open Go Go.Am
open Go.Proofs.Wb renaming H197 → z0_, zOi → z1_, Cell.row → z3_, zK8 → z5_ in
open Go.Am renaming k2_ → z2_, str → z4_ in
theorem zGx (l : List Cell) (key : ByteArray) (f : Nat) (caps : List T) (c : Cell → Int) (hent : zDc p_ f = true) (hcap : caps.all T.cap = true) (hl : l.length ≤ 2 ^ 60) (hm : ∀ i j, i < j → j < l.length → 0 ≤ c (nth l i) → 0 ≤ c (nth l j)) (hp : ∀ x, x ∈ l → ACall p_ f ([.agg (Cell.row false x), str key] ++ caps) (fun r _ => r = i64 (c x))) :
  ACall p_ 197 [.sl false 2 (l.map (Cell.row false)), str key, .fn f caps] (fun r _ => r = .tup [i64 (bsI c l), bl (bsF c l)]) := zTu
open Go.Proofs.Wb renaming H70 → z0_, zOi → z1_, Held.row → z3_, zK8 → z5_ in
open Go.Am renaming k5_ → z2_, i64 → z4_ in
theorem zGy (l : List Held) (key : Int) (f : Nat) (caps : List T) (c : Held → Int) (hent : zDc p_ f = true) (hcap : caps.all T.cap = true) (hl : l.length ≤ 2 ^ 60) (hm : ∀ i j, i < j → j < l.length → 0 ≤ c (nth l i) → 0 ≤ c (nth l j)) (hp : ∀ x, x ∈ l → ACall p_ f ([.agg (Held.row false x), i64 key] ++ caps) (fun r _ => r = i64 (c x))) :
  ACall p_ 70 [.sl false 5 (l.map (Held.row false)), i64 key, .fn f caps] (fun r _ => r = .tup [i64 (bsI c l), bl (bsF c l)]) := zTu
open Go.Proofs.Wb renaming H66 → z0_, zSj → z1_, Told.row → z3_, zMP → z5_ in
open Go.Am renaming k3_ → z2_, i64 → z4_ in
theorem zGz (l : List Told) (key : Int) (f : Nat) (caps : List T) (c : Told → Int) (hent : zDc p_ f = true) (hcap : caps.all T.cap = true) (hl : l.length ≤ 2 ^ 60) (hm : ∀ i j, i < j → j < l.length → 0 ≤ c (nth l i) → 0 ≤ c (nth l j)) (hp : ∀ x, x ∈ l → ACall p_ f ([.agg (Told.row false x), i64 key] ++ caps) (fun r _ => r = i64 (c x))) :
  ACall p_ 66 [.sl false 3 (l.map (Told.row false)), i64 key, .fn f caps] (fun r _ => r = .tup [i64 (bsI c l), bl (bsF c l)]) := zTu
open Go.Proofs.Wb renaming H238 → z0_, zSj → z1_, Write.row → z3_, zMP → z5_ in
open Go.Am renaming k3_ → z2_, str → z4_ in
theorem zF4 (l : List Write) (key : ByteArray) (f : Nat) (caps : List T) (c : Write → Int) (hent : zDc p_ f = true) (hcap : caps.all T.cap = true) (hl : l.length ≤ 2 ^ 60) (hm : ∀ i j, i < j → j < l.length → 0 ≤ c (nth l i) → 0 ≤ c (nth l j)) (hp : ∀ x, x ∈ l → ACall p_ f ([.agg (Write.row false x), str key] ++ caps) (fun r _ => r = i64 (c x))) :
  ACall p_ 238 [.sl false 3 (l.map (Write.row false)), str key, .fn f caps] (fun r _ => r = .tup [i64 (bsI c l), bl (bsF c l)]) := zTu
open Go.Proofs.Wb renaming H164 → z0_, zFk → z1_ in
theorem zNZ (l : List Cell) (hl : l.length ≤ 2 ^ 20) : ACall p_ 164 [.sl false 2 (l.map (Cell.row false))] (fun r _ => r = .sl true 2 (l.map (Cell.row false))) := zM5
open Go.Proofs.Wb renaming H206 → z0_, zFk → z1_ in
theorem zN0 (l : List Held) (hl : l.length ≤ 2 ^ 20) : ACall p_ 206 [.sl false 5 (l.map (Held.row false))] (fun r _ => r = .sl true 5 (l.map (Held.row false))) := zM5
open Go.Proofs.Wb renaming H119 → z0_, zFk → z1_ in
theorem zN1 (l : List Told) (hl : l.length ≤ 2 ^ 20) : ACall p_ 119 [.sl false 3 (l.map (Told.row false))] (fun r _ => r = .sl true 3 (l.map (Told.row false))) := zM5
open Go.Proofs.Wb renaming H165 → z0_, zFk → z1_ in
theorem zPB (l : List Ver) (hl : l.length ≤ 2 ^ 20) : ACall p_ 165 [.sl false 3 (l.map (Ver.row false))] (fun r _ => r = .sl true 3 (l.map (Ver.row false))) := zM5
open Go.Proofs.Wb renaming H121 → z0_, zFk → z1_ in
theorem zHC (l : List Write) (hl : l.length ≤ 2 ^ 20) : ACall p_ 121 [.sl false 3 (l.map (Write.row false))] (fun r _ => r = .sl true 3 (l.map (Write.row false))) := zM5
open Go.Proofs.Wb renaming H62 → z0_, C62 → z1_ in
theorem zDf (l : List ByteArray) (hl : l.length ≤ 2 ^ 20) : ACall p_ 62 [.sl false 1 (strs l)] (fun r _ => r = .sl true 1 (strs l)) := zM5
theorem zJj (l : List (List Value)) (i j : Int) (hi : 0 ≤ i) (hij : i ≤ j) (hj : j ≤ l.length) (hl : l.length ≤ maxLen) (hk : ∀ r ∈ l, r.length = 5) (ho : ∀ r ∈ l, (zAn r).all T.storable = true) : ACall p_ 203 [.sl true 5 (l.map (zAn)), i64 i, i64 j] (fun r a => r = .sl true 5 ((l.take i.toNat ++ l.drop j.toNat).map (zAn)) ∧ a = [.any, i64 i, i64 j]) := by
 have hmx := zAh
 have hij' : i.toNat ≤ j.toNat := by omega
 have hj' : j.toNat ≤ l.length := by omega
 have e1 := zHY (f := zAn) hij' hj'
 have e2 := fun z => zVK (f := zAn) (z := z) hij' hj'
 have e3 := fun Z => zVL (f := zAn) (Z := Z) hij' hj'
 refine zGr [true, false, false] (hqA zZM) (hqB zZM) ⟨by simp only [go_sem], fun E hE hH => ?_⟩; simp only [go_sem] at hE hH; simp only [go_sem, hE, hH, zZL]
 repeat' (first | ((with_reducible first | refine zAe ?_ ?_ | refine zAf ?_ ?_) <;> (intro h; have hb := h; (try simp only [nf] at h); simp (disch := omega) only [go_sem, hE, hH, e1, e2, e3, Option.isSome_some, hb]; (try clear hb))) | ((with_reducible refine And.intro ?_ ?_); · omega) | (refine jn _ ?_ ?_) | (with_reducible refine both ?_ ?_) | (with_reducible refine And.intro ?_ ?_) | (refine zAz ?_; (try (simp (disch := omega) only [go_sem, hE, hH, e1, e2, e3, Option.isSome_some])); first | done | rfl) | (simp (disch := omega) only [go_sem, hE, hH, e1, e2, e3, Option.isSome_some]) | ((first | apply zAj | apply zAC) <;> (simp only [go_sem, hE, hH, e1, e2, e3, Option.isSome_some]; done)) | (simp only [go_sem, hE, hH, e1, e2, e3, Option.isSome_some]) | fail)
 all_goals try (rw [List.all_eq_true]; intro x hx; exact ho x (List.mem_of_mem_drop (List.mem_of_mem_take hx)))
 ·subst h
  rw [List.take_append_drop]
 ·rw [List.length_take, List.length_drop]; omega
theorem zMT (l : List Held) (i j : Int) (hi : 0 ≤ i) (hij : i ≤ j) (hj : j ≤ l.length) (hl : l.length ≤ maxLen) : ACall p_ 203 [.sl true 5 (l.map (Held.row true)), i64 i, i64 j] (fun r a => r = .sl true 5 ((l.take i.toNat ++ l.drop j.toNat).map (Held.row true)) ∧ a = [.any, i64 i, i64 j]) := by
 have h := zV4 (P := p_) (f := 203) (k := 5) (rows := l.map (Held.row true)) (i := i) (j := j) (by rw [List.all_map, List.all_eq_true]; intro x _; rfl) (fun raws h1 h2 h3 => zJj raws i j hi hij (by rw [h1, List.length_map]; exact hj) (by rw [h1, List.length_map]; exact hl) h2 h3) (by omega)
 rw [← List.map_take, ← List.map_drop, ← List.map_append] at h
 exact h
open Go.Proofs.Wb renaming H194 → z0_, zJ0 → z1_, Held.row → z3_, zH9 → z4_ in
open Go.Am renaming k5_ → z2_ in
theorem zJ9 (l : List Held) (f : Nat) (caps : List T) (p : Held → Bool) (hent : zDc p_ f = true) (hcap : caps.all T.cap = true) (hl : l.length ≤ maxLen) (hp : ∀ x, x ∈ l → ACall p_ f ([.agg (Held.row false x)] ++ caps) (fun r _ => r = bl (p x))) :
  ACall p_ 194 [.sl false 5 (l.map (Held.row false)), .fn f caps] (fun r _ => r = i64 (ixf p l)) := zTv
open Go.Proofs.Wb renaming H117 → z0_, zJ0 → z1_, Order.row → z3_, zH9 → z4_ in
open Go.Am renaming k3_ → z2_ in
theorem zJk (l : List Order) (f : Nat) (caps : List T) (p : Order → Bool) (hent : zDc p_ f = true) (hcap : caps.all T.cap = true) (hl : l.length ≤ maxLen) (hp : ∀ x, x ∈ l → ACall p_ f ([.agg (Order.row false x)] ++ caps) (fun r _ => r = bl (p x))) :
  ACall p_ 117 [.sl false 3 (l.map (Order.row false)), .fn f caps] (fun r _ => r = i64 (ixf p l)) := zTv
open Go.Proofs.Wb renaming H109 → z0_, zJ0 → z1_, State.row → z3_, zH9 → z4_ in
open Go.Am renaming k4_ → z2_ in
theorem zJl (l : List State) (f : Nat) (caps : List T) (p : State → Bool) (hent : zDc p_ f = true) (hcap : caps.all T.cap = true) (hl : l.length ≤ maxLen) (hp : ∀ x, x ∈ l → ACall p_ f ([.agg (State.row false x)] ++ caps) (fun r _ => r = bl (p x))) :
  ACall p_ 109 [.sl false 4 (l.map (State.row false)), .fn f caps] (fun r _ => r = i64 (ixf p l)) := zTv
open Go.Proofs.Wb renaming H196 → z0_, zZH → z1_, Write.row → z3_, zRv → z4_ in
open Go.Am renaming k3_ → z2_ in
theorem zJm (l : List Write) (f : Nat) (caps : List T) (p : Write → Bool) (hent : zDc p_ f = true) (hcap : caps.all T.cap = true) (hl : l.length ≤ maxLen) (hp : ∀ x, x ∈ l → ACall p_ f ([.agg (Write.row false x)] ++ caps) (fun r _ => r = bl (p x))) :
  ACall p_ 196 [.sl false 3 (l.map (Write.row false)), .fn f caps] (fun r _ => r = i64 (ixf p l)) := zTv
theorem zLc (l : List Int) (f : Nat) (caps : List T) (p : Int → Bool) (hent : zDc p_ f = true) (hcap : caps.all T.cap = true) (hl : l.length ≤ maxLen) (hp : ∀ x, x ∈ l → ACall p_ f ([i64 x] ++ caps) (fun r _ => r = bl (p x))) :
  ACall p_ 69 [.sl false 1 (ints l), .fn f caps] (fun r _ => r = i64 (ixf p l)) := by
 have hmx := zAh
 refine zLO (hqA H69) (hqB H69) ⟨by simp only [go_sem, zAB hcap, zAL hcap, zAE hcap, zAP hcap, zAF hcap], fun E hE hH => ?_⟩; simp only [go_sem, zAB hcap, zAL hcap, zAE hcap, zAP hcap, zAF hcap] at hE hH; simp only [go_sem, hE, hH, zAB hcap, zAL hcap, zAE hcap, zAP hcap, zAF hcap, C69]
 refine zAK l.length (fun j (_ : Unit) => ⟨[(0, .sl false 1 (ints l)), (1, .fn f caps), (7, i64 l.length), (8, i64 j)], []⟩) (fun j _ => zAD (fun i => !p (nth l i)) j = true) () rfl ?_
 intro j _ hj hI
 try simp only [go_sem, hE, hH, zAB hcap, zAL hcap, zAE hcap, zAP hcap, zAF hcap, zUp]
 first | refine zAe (fun h => ?_) (fun h => ?_) | refine zAf (fun h => ?_) (fun h => ?_)
 ·have hb := h
  simp only [nf] at h
  have hlt := h; clear h
  try simp (disch := omega) only [go_sem, hE, hH, zAB hcap, zAL hcap, zAE hcap, zAP hcap, zAF hcap, hb]
  refine And.intro (by omega) ?_
  refine zLQ rfl rfl rfl (hent) (hcap) (hp _ (zAc hlt)) ?_
  try simp (disch := omega) only [go_sem, hE, hH, zAB hcap, zAL hcap, zAE hcap, zAP hcap, zAF hcap]
  repeat' (first | ((with_reducible apply ga) <;> refine zWH fun h => ?_) | ((with_reducible apply an); · omega) | refine jn _ ?_ ?_ | (with_reducible first | apply both | apply an | exact ti) | exact zWJ | refine zWG ?_ | exact zWK | refine zWI ?_)
  ·rw [zLT hlt hI h]
  ·exact ⟨(), rfl, zAl hI (by simp [h])⟩
 ·try simp (disch := omega) only [go_sem, hE, hH, zAB hcap, zAL hcap, zAE hcap, zAP hcap, zAF hcap, h]
  simp only [nf] at h
  rw [show j = l.length by omega] at hI
  rw [zK4 hI]
open Go.Proofs.Wb renaming H127 → z0_ in
open Go.Am renaming ints → z1_, i64 → z2_ in
theorem zPC (l : List Int) (v : Int) (hl : l.length ≤ maxLen) : ACall p_ 127 [.sl false 1 (ints l), i64 v] (fun r _ => r = i64 (ixf (fun x => decide (v = x)) l)) := Q13_
open Go.Proofs.Wb renaming H240 → z0_ in
open Go.Am renaming strs → z1_, str → z2_ in
theorem zL0 (l : List ByteArray) (v : ByteArray) (hl : l.length ≤ maxLen) : ACall p_ 240 [.sl false 1 (strs l), str v] (fun r _ => r = i64 (ixf (fun x => decide (v = x)) l)) := Q13_
theorem zJn (l v : List (List Value)) (i : Int) (hi : 0 ≤ i) (hin : i ≤ l.length) (hl : l.length ≤ 2 ^ 20) (hk : ∀ r ∈ l, r.length = 2) (ho : ∀ r ∈ l, (zAn r).all T.storable = true) (hkv : ∀ r ∈ v, r.length = 2) (hov : ∀ r ∈ v, (zAn r).all T.storable = true) (hv : v.length ≤ 2 ^ 20) : ACall p_ 232 [.sl true 2 (l.map (zAn)), i64 i, .sl false 2 (v.map (zAn))] (fun r a => r = .sl true 2 ((l.take i.toNat ++ v ++ l.drop i.toNat).map (zAn)) ∧ a = [.any, i64 i, .sl false 2 (v.map (zAn))]) := by
 have hmx := zAh
 refine zPb [true, false, false] 0 2 (l.map (zAn)) (hqA zZ2) (hqB zZ2) (by simp only [go_sem, List.mem_cons, true_or, or_true]) (by simp only [go_sem]) ⟨by simp only [go_sem], fun E hE hH c hc hF => ?_⟩; simp only [go_sem] at hE hH hc hF; simp only [go_sem, hE, hH, zZ1]
 have e0 : l.length + (c - l.length) = c := by omega
 have hn : i.toNat ≤ l.length := by omega
 have t1 : ((l.length : Int) + v.length - i).toNat = l.length + v.length - i.toNat := by omega
 have t2 : (i + (v.length : Int)).toNat = i.toNat + v.length := by omega
 have t3 : ((l.length : Int) + v.length).toNat = l.length + v.length := by omega
 have t4 : i.toNat + (l.length + v.length - i.toNat) = l.length + v.length := by omega
 have t5 : l.length + v.length - (i.toNat + v.length) = l.length - i.toNat := by omega
 have t6 : min (l.length - i.toNat) (l.length + v.length - i.toNat) = l.length - i.toNat := by omega
 have t7 : i.toNat + (l.length - i.toNat) = l.length := by omega
 have a1 := zD6 (f := zAn) (l := l) (G := List.replicate (c - l.length) (zBx 2)) (Nat.le_refl l.length)
 have a2 := zD6 (f := zAn) (l := l) (G := List.replicate (c - l.length) (zBx 2)) hn
 have a3 := zMH (f := zAn) (l := l) (G := List.replicate (c - l.length) (zBx 2)) hn
 have a4 : v.take (l.length + v.length - i.toNat) = v := List.take_of_length_le (by omega)
 have b1 := fun z => zEM (f := zAn) (g := fun x => (zAn) x) (v := v) (z := z) hn
 have b2 := fun z => zKU (f := zAn) (g := fun x => (zAn) x) (v := v) (z := z) hn
 have b3 := fun z => zI2 (f := zAn) (v := v) (z := z) hn
 have b4 := zMI (f := zAn) (v := v) (l := l)
 have d1 := fun z hc => zGp (f := zAn) (m := v.length) (c := c) (z := z) hn hc
 have d2 := fun z hc => zKV (f := zAn) (g := fun x => (zAn) x) (v := v) (c := c) (z := z) hn hc
 have d3 := fun z hc => zKW (f := zAn) (v := v) (c := c) (z := z) hn hc
 have t8 : min (l.length + v.length - i.toNat) v.length = v.length := by omega
 have t9 : i.toNat + v.length + (l.length - i.toNat) = l.length + v.length := by omega
 simp only [go_sem] at a1 a2 a3 b1 b2 b3 b4 d1 d2 d3
 have s1 : ((v.map zAn).all fun r => r.all T.storable) = true := by rw [List.all_map, List.all_eq_true]; intro x hx; exact hov x hx
 have s2 : ((l.map zAn).all fun r => r.all T.storable) = true := by rw [List.all_map, List.all_eq_true]; intro x hx; exact ho x hx
 have s3 : (((l.take i.toNat).map zAn).all fun r => r.all T.storable) = true := by rw [List.all_map, List.all_eq_true]; intro x hx; exact ho x (List.mem_of_mem_take hx)
 have s4 : (((l.drop i.toNat).map zAn).all fun r => r.all T.storable) = true := by rw [List.all_map, List.all_eq_true]; intro x hx; exact ho x (List.mem_of_mem_drop hx)
 simp only [go_sem] at s1 s2 s3 s4
 all_goals (have y1_ := s1; have y2_ := s2; have y3_ := s3; have y4_ := s4; have y5_ := e0; have y6_ := t1; have y7_ := t2; have y8_ := t3; have y9_ := t4; have y10_ := t5; have y11_ := t6; have y12_ := t7; have y13_ := t8; have y14_ := t9; have y15_ := d1; have y16_ := d2; have y17_ := d3; have y18_ := a1; have y19_ := a2; have y20_ := a3; have y21_ := a4; have y22_ := b1; have y23_ := b2; have y24_ := b3; have y25_ := b4; repeat' (first | ((with_reducible apply ga) <;> refine zTh fun h => ?_) | ((with_reducible apply an); · omega) | refine jn _ ?_ ?_ | (with_reducible first | apply both | apply an | exact ti) | exact zTj | refine zTg ?_ | exact zTk | refine zTi ?_))
 all_goals try (refine zOZ rfl rfl rfl zE4 zEG zE3 (by decide) (by simp only [List.length_map]; omega) (by simp only [go_sem]; omega) ?_)
 all_goals (have y1_ := s1; have y2_ := s2; have y3_ := s3; have y4_ := s4; have y5_ := e0; have y6_ := t1; have y7_ := t2; have y8_ := t3; have y9_ := t4; have y10_ := t5; have y11_ := t6; have y12_ := t7; have y13_ := t8; have y14_ := t9; have y15_ := d1; have y16_ := d2; have y17_ := d3; have y18_ := a1; have y19_ := a2; have y20_ := a3; have y21_ := a4; have y22_ := b1; have y23_ := b2; have y24_ := b3; have y25_ := b4; repeat' (first | ((with_reducible apply ga) <;> refine zTh fun h => ?_) | ((with_reducible apply an); · omega) | refine jn _ ?_ ?_ | (with_reducible first | apply both | apply an | exact ti) | exact zTj | refine zTg ?_ | exact zTk | refine zTi ?_))
 all_goals try (rw [List.all_eq_true]; intro x hx; first | exact ho x (List.mem_of_mem_drop (List.mem_of_mem_take hx)) | exact ho x (List.mem_of_mem_drop hx) | exact ho x (List.mem_of_mem_take hx) | exact ho x hx | exact hov x hx)
 ·have e : v = [] := List.length_eq_zero_iff.1 (by omega)
  subst e
  rw [List.append_nil, List.take_append_drop]
 ·have e : i.toNat = l.length := by omega
  rw [e, List.take_length, List.drop_length, List.append_nil, List.map_append]
  try rfl
 all_goals omega
theorem zMU (l : List Cell) (x : Cell) (i : Int) (hi : 0 ≤ i) (hin : i ≤ l.length) (hl : l.length ≤ 2 ^ 20) : ACall p_ 232 [.sl true 2 (l.map (Cell.row true)), i64 i, .sl true 2 [Cell.row true x]] (fun r a => r = .sl true 2 ((putAt l i.toNat x).map (Cell.row true)) ∧ a = [.any, i64 i, .any]) := by
 have h := zPl (P := p_) (f := 232) (k := 2) (rows := l.map (Cell.row true)) (row := Cell.row true x) (i := i) (by rw [List.length_map]; omega) (by rw [List.all_map, List.all_eq_true]; intro x _; rfl) rfl (fun raws rv h1 h2 h3 h4 h5 => by have q := zJn raws [rv] i hi (by rw [h1, List.length_map]; exact hin) (by rw [h1, List.length_map]; exact hl) h2 h4 (fun r hr => by rw [List.mem_singleton.1 hr]; exact h3) (fun r hr => by rw [List.mem_singleton.1 hr]; exact h5) (by simp); rw [List.append_assoc] at q; exact q)
 rw [← List.map_take, ← List.map_drop] at h
 unfold putAt
 rw [List.map_append, List.map_cons]
 exact h
theorem zJo (l v : List (List Value)) (i : Int) (hi : 0 ≤ i) (hin : i ≤ l.length) (hl : l.length ≤ 2 ^ 20) (hk : ∀ r ∈ l, r.length = 5) (ho : ∀ r ∈ l, (zAn r).all T.storable = true) (hkv : ∀ r ∈ v, r.length = 5) (hov : ∀ r ∈ v, (zAn r).all T.storable = true) (hv : v.length ≤ 2 ^ 20) : ACall p_ 172 [.sl true 5 (l.map (zAn)), i64 i, .sl false 5 (v.map (zAn))] (fun r a => r = .sl true 5 ((l.take i.toNat ++ v ++ l.drop i.toNat).map (zAn)) ∧ a = [.any, i64 i, .sl false 5 (v.map (zAn))]) := by
 have hmx := zAh
 refine zPb [true, false, false] 0 5 (l.map (zAn)) (hqA zZo) (hqB zZo) (by simp only [go_sem, List.mem_cons, true_or, or_true]) (by simp only [go_sem]) ⟨by simp only [go_sem], fun E hE hH c hc hF => ?_⟩; simp only [go_sem] at hE hH hc hF; simp only [go_sem, hE, hH, zZn]
 have e0 : l.length + (c - l.length) = c := by omega
 have hn : i.toNat ≤ l.length := by omega
 have t1 : ((l.length : Int) + v.length - i).toNat = l.length + v.length - i.toNat := by omega
 have t2 : (i + (v.length : Int)).toNat = i.toNat + v.length := by omega
 have t3 : ((l.length : Int) + v.length).toNat = l.length + v.length := by omega
 have t4 : i.toNat + (l.length + v.length - i.toNat) = l.length + v.length := by omega
 have t5 : l.length + v.length - (i.toNat + v.length) = l.length - i.toNat := by omega
 have t6 : min (l.length - i.toNat) (l.length + v.length - i.toNat) = l.length - i.toNat := by omega
 have t7 : i.toNat + (l.length - i.toNat) = l.length := by omega
 have a1 := zD6 (f := zAn) (l := l) (G := List.replicate (c - l.length) (zBx 5)) (Nat.le_refl l.length)
 have a2 := zD6 (f := zAn) (l := l) (G := List.replicate (c - l.length) (zBx 5)) hn
 have a3 := zMH (f := zAn) (l := l) (G := List.replicate (c - l.length) (zBx 5)) hn
 have a4 : v.take (l.length + v.length - i.toNat) = v := List.take_of_length_le (by omega)
 have b1 := fun z => zEM (f := zAn) (g := fun x => (zAn) x) (v := v) (z := z) hn
 have b2 := fun z => zKU (f := zAn) (g := fun x => (zAn) x) (v := v) (z := z) hn
 have b3 := fun z => zI2 (f := zAn) (v := v) (z := z) hn
 have b4 := zMI (f := zAn) (v := v) (l := l)
 have d1 := fun z hc => zGp (f := zAn) (m := v.length) (c := c) (z := z) hn hc
 have d2 := fun z hc => zKV (f := zAn) (g := fun x => (zAn) x) (v := v) (c := c) (z := z) hn hc
 have d3 := fun z hc => zKW (f := zAn) (v := v) (c := c) (z := z) hn hc
 have t8 : min (l.length + v.length - i.toNat) v.length = v.length := by omega
 have t9 : i.toNat + v.length + (l.length - i.toNat) = l.length + v.length := by omega
 simp only [go_sem] at a1 a2 a3 b1 b2 b3 b4 d1 d2 d3
 have s1 : ((v.map zAn).all fun r => r.all T.storable) = true := by rw [List.all_map, List.all_eq_true]; intro x hx; exact hov x hx
 have s2 : ((l.map zAn).all fun r => r.all T.storable) = true := by rw [List.all_map, List.all_eq_true]; intro x hx; exact ho x hx
 have s3 : (((l.take i.toNat).map zAn).all fun r => r.all T.storable) = true := by rw [List.all_map, List.all_eq_true]; intro x hx; exact ho x (List.mem_of_mem_take hx)
 have s4 : (((l.drop i.toNat).map zAn).all fun r => r.all T.storable) = true := by rw [List.all_map, List.all_eq_true]; intro x hx; exact ho x (List.mem_of_mem_drop hx)
 simp only [go_sem] at s1 s2 s3 s4
 all_goals (have y1_ := s1; have y2_ := s2; have y3_ := s3; have y4_ := s4; have y5_ := e0; have y6_ := t1; have y7_ := t2; have y8_ := t3; have y9_ := t4; have y10_ := t5; have y11_ := t6; have y12_ := t7; have y13_ := t8; have y14_ := t9; have y15_ := d1; have y16_ := d2; have y17_ := d3; have y18_ := a1; have y19_ := a2; have y20_ := a3; have y21_ := a4; have y22_ := b1; have y23_ := b2; have y24_ := b3; have y25_ := b4; repeat' (first | ((with_reducible apply ga) <;> refine zTh fun h => ?_) | ((with_reducible apply an); · omega) | refine jn _ ?_ ?_ | (with_reducible first | apply both | apply an | exact ti) | exact zTj | refine zTg ?_ | exact zTk | refine zTi ?_))
 all_goals try (refine zOZ rfl rfl rfl zEY zEE zEX (by decide) (by simp only [List.length_map]; omega) (by simp only [go_sem]; omega) ?_)
 all_goals (have y1_ := s1; have y2_ := s2; have y3_ := s3; have y4_ := s4; have y5_ := e0; have y6_ := t1; have y7_ := t2; have y8_ := t3; have y9_ := t4; have y10_ := t5; have y11_ := t6; have y12_ := t7; have y13_ := t8; have y14_ := t9; have y15_ := d1; have y16_ := d2; have y17_ := d3; have y18_ := a1; have y19_ := a2; have y20_ := a3; have y21_ := a4; have y22_ := b1; have y23_ := b2; have y24_ := b3; have y25_ := b4; repeat' (first | ((with_reducible apply ga) <;> refine zTh fun h => ?_) | ((with_reducible apply an); · omega) | refine jn _ ?_ ?_ | (with_reducible first | apply both | apply an | exact ti) | exact zTj | refine zTg ?_ | exact zTk | refine zTi ?_))
 all_goals try (rw [List.all_eq_true]; intro x hx; first | exact ho x (List.mem_of_mem_drop (List.mem_of_mem_take hx)) | exact ho x (List.mem_of_mem_drop hx) | exact ho x (List.mem_of_mem_take hx) | exact ho x hx | exact hov x hx)
 ·have e : v = [] := List.length_eq_zero_iff.1 (by omega)
  subst e
  rw [List.append_nil, List.take_append_drop]
 ·have e : i.toNat = l.length := by omega
  rw [e, List.take_length, List.drop_length, List.append_nil, List.map_append]
  try rfl
 all_goals omega
theorem zMV (l : List Held) (x : Held) (i : Int) (hi : 0 ≤ i) (hin : i ≤ l.length) (hl : l.length ≤ 2 ^ 20) : ACall p_ 172 [.sl true 5 (l.map (Held.row true)), i64 i, .sl true 5 [Held.row true x]] (fun r a => r = .sl true 5 ((putAt l i.toNat x).map (Held.row true)) ∧ a = [.any, i64 i, .any]) := by
 have h := zPl (P := p_) (f := 172) (k := 5) (rows := l.map (Held.row true)) (row := Held.row true x) (i := i) (by rw [List.length_map]; omega) (by rw [List.all_map, List.all_eq_true]; intro x _; rfl) rfl (fun raws rv h1 h2 h3 h4 h5 => by have q := zJo raws [rv] i hi (by rw [h1, List.length_map]; exact hin) (by rw [h1, List.length_map]; exact hl) h2 h4 (fun r hr => by rw [List.mem_singleton.1 hr]; exact h3) (fun r hr => by rw [List.mem_singleton.1 hr]; exact h5) (by simp); rw [List.append_assoc] at q; exact q)
 rw [← List.map_take, ← List.map_drop] at h
 unfold putAt
 rw [List.map_append, List.map_cons]
 exact h
theorem zMW (l v : List Told) (i : Int) (hi : 0 ≤ i) (hin : i ≤ l.length) (hl : l.length ≤ 2 ^ 20) (hv : v.length ≤ 2 ^ 20) : ACall p_ 204 [.sl true 3 (l.map (Told.row true)), i64 i, .sl false 3 (v.map (Told.row false))] (fun r a => r = .sl true 3 ((l.take i.toNat ++ v ++ l.drop i.toNat).map (Told.row true)) ∧ a = [.any, i64 i, .sl false 3 (v.map (Told.row false))]) := by
 have hmx := zAh
 refine zPb [true, false, false] 0 3 (l.map (Told.row true)) (hqA zZO) (hqB zZO) (by simp only [go_sem, List.mem_cons, true_or, or_true]) (by simp only [go_sem]) ⟨by simp only [go_sem], fun E hE hH c hc hF => ?_⟩; simp only [go_sem] at hE hH hc hF; simp only [go_sem, hE, hH, zZN]
 have e0 : l.length + (c - l.length) = c := by omega
 have hn : i.toNat ≤ l.length := by omega
 have t1 : ((l.length : Int) + v.length - i).toNat = l.length + v.length - i.toNat := by omega
 have t2 : (i + (v.length : Int)).toNat = i.toNat + v.length := by omega
 have t3 : ((l.length : Int) + v.length).toNat = l.length + v.length := by omega
 have t4 : i.toNat + (l.length + v.length - i.toNat) = l.length + v.length := by omega
 have t5 : l.length + v.length - (i.toNat + v.length) = l.length - i.toNat := by omega
 have t6 : min (l.length - i.toNat) (l.length + v.length - i.toNat) = l.length - i.toNat := by omega
 have t7 : i.toNat + (l.length - i.toNat) = l.length := by omega
 have a1 := zD6 (f := Told.row true) (l := l) (G := List.replicate (c - l.length) (zBx 3)) (Nat.le_refl l.length)
 have a2 := zD6 (f := Told.row true) (l := l) (G := List.replicate (c - l.length) (zBx 3)) hn
 have a3 := zMH (f := Told.row true) (l := l) (G := List.replicate (c - l.length) (zBx 3)) hn
 have a4 : v.take (l.length + v.length - i.toNat) = v := List.take_of_length_le (by omega)
 have b1 := fun z => zEM (f := Told.row true) (g := fun x => (Told.row true) x) (v := v) (z := z) hn
 have b2 := fun z => zKU (f := Told.row true) (g := fun x => (Told.row true) x) (v := v) (z := z) hn
 have b3 := fun z => zI2 (f := Told.row true) (v := v) (z := z) hn
 have b4 := zMI (f := Told.row true) (v := v) (l := l)
 have d1 := fun z hc => zGp (f := Told.row true) (m := v.length) (c := c) (z := z) hn hc
 have d2 := fun z hc => zKV (f := Told.row true) (g := fun x => (Told.row true) x) (v := v) (c := c) (z := z) hn hc
 have d3 := fun z hc => zKW (f := Told.row true) (v := v) (c := c) (z := z) hn hc
 have t8 : min (l.length + v.length - i.toNat) v.length = v.length := by omega
 have t9 : i.toNat + v.length + (l.length - i.toNat) = l.length + v.length := by omega
 simp only [go_sem] at a1 a2 a3 b1 b2 b3 b4 d1 d2 d3
 all_goals (have y1_ := e0; have y2_ := t1; have y3_ := t2; have y4_ := t3; have y5_ := t4; have y6_ := t5; have y7_ := t6; have y8_ := t7; have y9_ := t8; have y10_ := t9; have y11_ := d1; have y12_ := d2; have y13_ := d3; have y14_ := a1; have y15_ := a2; have y16_ := a3; have y17_ := a4; have y18_ := b1; have y19_ := b2; have y20_ := b3; have y21_ := b4; repeat' (first | ((with_reducible apply ga) <;> refine gs4_ fun h => ?_) | ((with_reducible apply an); · omega) | refine jn _ ?_ ?_ | (with_reducible first | apply both | apply an | exact ti) | exact fe4_ | refine st4_ ?_ | exact fm4_ | refine s14_ ?_))
 all_goals try (refine zOZ rfl rfl rfl zE1 zEF zE0 (by decide) (by simp only [List.length_map]; omega) (by simp only [go_sem]; omega) ?_)
 all_goals (have y1_ := e0; have y2_ := t1; have y3_ := t2; have y4_ := t3; have y5_ := t4; have y6_ := t5; have y7_ := t6; have y8_ := t7; have y9_ := t8; have y10_ := t9; have y11_ := d1; have y12_ := d2; have y13_ := d3; have y14_ := a1; have y15_ := a2; have y16_ := a3; have y17_ := a4; have y18_ := b1; have y19_ := b2; have y20_ := b3; have y21_ := b4; repeat' (first | ((with_reducible apply ga) <;> refine gs4_ fun h => ?_) | ((with_reducible apply an); · omega) | refine jn _ ?_ ?_ | (with_reducible first | apply both | apply an | exact ti) | exact fe4_ | refine st4_ ?_ | exact fm4_ | refine s14_ ?_))
 ·have e : v = [] := List.length_eq_zero_iff.1 (by omega)
  subst e
  rw [List.append_nil, List.take_append_drop]
 ·have e : i.toNat = l.length := by omega
  rw [e, List.take_length, List.drop_length, List.append_nil, List.map_append]
  try rfl
 all_goals omega
open Go.Proofs.Wb renaming H157 → z0_, zJ9 → z1_ in
theorem zEu (l : List Held) (f : Nat) (caps : List T) (p : Held → Bool) (hent : zDc p_ f = true) (hcap : caps.all T.cap = true) (hl : l.length ≤ maxLen) (hp : ∀ x, x ∈ l → ACall p_ f ([.agg (Held.row false x)] ++ caps) (fun r _ => r = bl (p x))) :
  ACall p_ 157 [.sl false 5 (l.map (Held.row false)), .fn f caps] (fun r _ => r = bl (l.any p)) := zQa
open Go.Proofs.Wb renaming H60 → z0_, zJk → z1_ in
theorem zHD (l : List Order) (f : Nat) (caps : List T) (p : Order → Bool) (hent : zDc p_ f = true) (hcap : caps.all T.cap = true) (hl : l.length ≤ maxLen) (hp : ∀ x, x ∈ l → ACall p_ f ([.agg (Order.row false x)] ++ caps) (fun r _ => r = bl (p x))) :
  ACall p_ 60 [.sl false 3 (l.map (Order.row false)), .fn f caps] (fun r _ => r = bl (l.any p)) := zQa
open Go.Proofs.Wb renaming H56 → z0_, zJl → z1_ in
theorem zHE (l : List State) (f : Nat) (caps : List T) (p : State → Bool) (hent : zDc p_ f = true) (hcap : caps.all T.cap = true) (hl : l.length ≤ maxLen) (hp : ∀ x, x ∈ l → ACall p_ f ([.agg (State.row false x)] ++ caps) (fun r _ => r = bl (p x))) :
  ACall p_ 56 [.sl false 4 (l.map (State.row false)), .fn f caps] (fun r _ => r = bl (l.any p)) := zQa
open Go.Proofs.Wb renaming H160 → z0_, zJm → z1_ in
theorem zCP (l : List Write) (f : Nat) (caps : List T) (p : Write → Bool) (hent : zDc p_ f = true) (hcap : caps.all T.cap = true) (hl : l.length ≤ maxLen) (hp : ∀ x, x ∈ l → ACall p_ f ([.agg (Write.row false x)] ++ caps) (fun r _ => r = bl (p x))) :
  ACall p_ 160 [.sl false 3 (l.map (Write.row false)), .fn f caps] (fun r _ => r = bl (l.any p)) := zQa
open Go.Proofs.Wb renaming H28 → z0_, zLc → z1_ in
theorem zIy (l : List Int) (f : Nat) (caps : List T) (p : Int → Bool) (hent : zDc p_ f = true) (hcap : caps.all T.cap = true) (hl : l.length ≤ maxLen) (hp : ∀ x, x ∈ l → ACall p_ f ([i64 x] ++ caps) (fun r _ => r = bl (p x))) :
  ACall p_ 28 [.sl false 1 (ints l), .fn f caps] (fun r _ => r = bl (l.any p)) := zQa
open Go.Proofs.Wb renaming H73 → z0_, zPC → z1_ in
theorem zL1 (l : List Int) (v : Int) (hl : l.length ≤ maxLen) : ACall p_ 73 [.sl false 1 (ints l), i64 v] (fun r _ => r = bl (l.any fun x => decide (v = x))) := Q15_
open Go.Proofs.Wb renaming H219 → z0_, zL0 → z1_ in
theorem zJp (l : List ByteArray) (v : ByteArray) (hl : l.length ≤ maxLen) : ACall p_ 219 [.sl false 1 (strs l), str v] (fun r _ => r = bl (l.any fun x => decide (v = x))) := Q15_
def bys (code : List Int) : List (List T) := code.map fun b => [.v (.int .u8 b)]
@[go_sem] theorem zAeS (code : List Int) : bys code = code.map fun b => [.v (.int .u8 b)] := rfl
def rng (n lo hi : Int) : Bool := decide (lo ≤ n) && decide (n ≤ hi)
theorem zBW {n lo hi : Int} : rng n lo hi = true ↔ lo ≤ n ∧ n ≤ hi := by simp [rng]
theorem zDo (n lo hi : Int) : ACall p_ 114 [i64 n, i64 lo, i64 hi] (fun r _ => r = bl (rng n lo hi)) := by
 refine fg H114 fun E hE hH => ?_; simp only [go_sem, hE, hH, zYM]
 repeat' (first | ((with_reducible apply ga) <;> refine gs fun h => ?_) | ((with_reducible apply an); · omega) | refine jn _ ?_ ?_ | (with_reducible first | apply both | apply an | exact ti) | exact fe | refine st ?_ | exact fm | refine s1 ?_)
 all_goals (simp_all [rng]; try omega)
theorem zE7 (n lo hi : Int) : ACall p_ 93 [i64 n, i64 lo, i64 hi] (fun r _ => r = bl (rng n lo hi)) := by
 refine fg H93 fun E hE hH => ?_; simp only [go_sem, hE, hH, C93]
 repeat' (first | ((with_reducible apply ga) <;> refine gs fun h => ?_) | ((with_reducible apply an); · omega) | refine jn _ ?_ ?_ | (with_reducible first | apply both | apply an | exact ti) | exact fe | refine st ?_ | exact fm | refine s1 ?_)
 all_goals (simp_all [rng]; try omega)
def zLd (b : Int) : Bool := (decide (97 ≤ b) && decide (b ≤ 122)) || (decide (48 ≤ b) && decide (b ≤ 57))
def hasc (more : ByteArray) (b : Int) : Bool := !zAD (fun i => !decide (b = byt more i)) more.size
def hasB (s more : ByteArray) : Bool := zAD (fun i => zLd (byt s i) || hasc more (byt s i)) s.size
def zBm (s : ByteArray) : Bool := rng s.size 1 12 && hasB s ⟨⟨[46, 47]⟩⟩
def zEd (s : ByteArray) : Bool := decide ((s.size : Int) ≤ 24) && hasB s ⟨⟨[46, 45, 44, 95]⟩⟩
theorem zSG (b : Int) : ACall p_ 213 [u8 b] (fun r _ => r = bl (zLd b)) := by
 refine fg H213 fun E hE hH => ?_; simp only [go_sem, hE, hH, zZS]
 repeat' (first | ((with_reducible apply ga) <;> refine gs fun h => ?_) | ((with_reducible apply an); · omega) | refine jn _ ?_ ?_ | (with_reducible first | apply both | apply an | exact ti) | exact fe | refine st ?_ | exact fm | refine s1 ?_)
 all_goals (simp_all [zLd] <;> try omega)
theorem zWc (s : ByteArray) (c : UInt8) : decide (firstIdx s c < 0) = zAD (fun i => !decide ((c.toNat : Int) = byt s i)) s.size := by
 rw [Bool.eq_iff_iff, zAv, decide_eq_true_iff]
 have key : ∀ i, i < s.size → ((s[i]! == c) = true ↔ (c.toNat : Int) = byt s i) := by
  intro i hi
  have h1 : s[i]! = s.data.toList.getD i 0 := by
   rw [getElem!_pos s i hi]
   simp [ByteArray.getElem_eq_getElem_data, List.getD]
   rw [getElem?_pos _ _ (by simpa using hi)]
   simp
  rw [h1, byt, beq_iff_eq, ← UInt8.toNat_inj]
  omega
 unfold firstIdx
 cases hf : (List.range s.size).find? fun i => s[i]! == c with
 | some i =>
  dsimp only
  have h1 := List.find?_some hf
  have h2 : i < s.size := by simpa using List.mem_of_find?_eq_some hf
  constructor
  ·intro h; omega
  ·intro h
   have := h i h2
   rw [(key i h2).1 h1] at this
   simp at this
 | none =>
  dsimp only
  constructor
  ·intro _ i hi
   have := List.find?_eq_none.1 hf i (by simpa using hi)
   simp only [Bool.not_eq_true', decide_eq_false_iff_not]
   exact fun e => this ((key i hi).2 e)
  ·intro _; omega
theorem zXE (s : ByteArray) (c : Int) (w : Go.World) : (callFunc 250 #[.string s, .int .u8 c]).run p_ w = .ok (.value (.int .i64 (firstIdx s c.toNat.toUInt8))) w := by
 rw [run_callFunc_extern (e := Extern.BytealgIndexByte.indexByte) zDF (by kernel_rfl) (by kernel_rfl) (by kernel_rfl) (by kernel_rfl), run_indexByte_string]
 rfl
theorem zPD (s : ByteArray) (c : Int) : ACall p_ 237 [str s, u8 c] (fun r _ => r = i64 (firstIdx s c.toNat.toUInt8)) := by
 refine fg H237 fun E hE hH => ?_; simp only [go_sem, hE, hH, zZ3]
 refine zVA (vs := [.string s, .int .u8 c]) rfl (zXE s c) ?_
 try simp only [go_sem, hE, hH]
open Go.Proofs.Wb renaming H214 → z0_, zZT → z1_, zPD → z2_ in
theorem zPE (s : ByteArray) (c : Int) : ACall p_ 214 [str s, u8 c] (fun r _ => r = i64 (firstIdx s c.toNat.toUInt8)) := zQb
theorem zKs (s more : ByteArray) (hs : s.size ≤ maxLen) : ACall p_ 190 [str s, str more] (fun r _ => r = bl (hasB s more)) := by
 have hm := zAh
 refine fg H190 fun E hE hH => ?_; simp only [go_sem, hE, hH, zZC]
 refine zAK s.size (fun j (_ : Unit) => ⟨[(0, str s), (1, str more), (7, i64 s.size), (8, i64 j)], []⟩) (fun j _ => zAD (fun i => zLd (byt s i) || hasc more (byt s i)) j = true) () rfl ?_
 intro j _ hj hI
 try simp only [go_sem, hE, hH, zRu]
 first | refine zAe (fun h => ?_) (fun h => ?_) | refine zAf (fun h => ?_) (fun h => ?_)
 ·have hb := h
  simp only [nf] at h
  have hlt := h; clear h
  have hf : decide (firstIdx more (byt s j).toNat.toUInt8 < 0) = !hasc more (byt s j) := by
   rw [zWc, hasc, Bool.not_not]
   congr 1; funext i
   congr 2
   simp [byt]
  try refine sb ?_; try exact ⟨⟩
  repeat' (first | ((with_reducible apply ga) <;> refine gs fun h => ?_) | ((with_reducible apply an); · omega) | ((first | refine zAa ?_ | refine cvA (zSG _) ?_ | refine cvA (zPE _ _) ?_); refine st ?_) | refine jn _ ?_ ?_ | (with_reducible first | apply both | apply an | exact ti) | exact fe | refine st ?_ | exact fm | refine s1 ?_)
  ·rw [decide_eq_true h] at hf
   rw [hasB, zBh hlt (by simp_all)]
  ·rw [decide_eq_false (by omega)] at hf
   exact ⟨(), rfl, zAl hI (by simp_all)⟩
  ·exact ⟨(), rfl, zAl hI (by simp_all)⟩
 ·try simp (disch := omega) only [go_sem, hE, hH, h]
  simp only [nf] at h
  rw [show j = s.size by omega] at hI
  rw [hasB, hI]
theorem zL2 (s more : ByteArray) (hs : s.size ≤ maxLen) (hm : more.size ≤ maxLen) : ACall p_ 143 [str s, str more] (fun r _ => r = bl (hasB s more)) := by
 have hmx := zAh
 refine fg H143 fun E hE hH => ?_; simp only [go_sem, hE, hH, zY5]
 refine zAK s.size (fun j (_ : Unit) => ⟨[(0, str s), (1, str more), (5, i64 j)], []⟩) (fun j _ => zAD (fun i => zLd (byt s i) || hasc more (byt s i)) j = true) () rfl ?_
 intro j _ hj hI
 try simp only [go_sem, hE, hH, zRg]
 first | refine zAe (fun h => ?_) (fun h => ?_) | refine zAf (fun h => ?_) (fun h => ?_)
 ·have hb := h
  simp only [nf] at h
  have hlt := h; clear h
  try refine sb ?_; try exact ⟨⟩
  repeat' (first | ((with_reducible apply ga) <;> refine gs fun h => ?_) | ((with_reducible apply an); · omega) | refine jn _ ?_ ?_ | (with_reducible first | apply both | apply an | exact ti) | exact fe | refine st ?_ | exact fm | refine s1 ?_)
  all_goals (
   refine zAG more.size (fun k (_ : Unit) => ⟨[(0, str s), (1, str more), (5, i64 j), (6, bl (zLd (byt s j) || !zAD (fun i => !decide (byt s j = byt more i)) k)), (7, i64 k)], []⟩) (fun _ _ => True) () ?_ trivial ?_
   ·simp_all [zLd, zAD]
    try omega
   intro k _ hk _
   try simp only [go_sem, hE, hH, zRf]
   first | refine zAe (fun h => ?_) (fun h => ?_) | refine zAf (fun h => ?_) (fun h => ?_)
   ·try simp (disch := omega) only [go_sem, hE, hH, h]
    simp only [nf] at h
    repeat' (first | ((with_reducible apply ga) <;> refine gs fun h => ?_) | ((with_reducible apply an); · omega) | refine jn _ ?_ ?_ | (with_reducible first | apply both | apply an | exact ti) | exact fe | refine st ?_ | exact fm | refine s1 ?_)
    ·exact ⟨(), by simp_all [zAD]; rcases h with h | h <;> simp [h]⟩
    ·exact ⟨(), by simp_all [zAD]⟩
   ·try simp (disch := omega) only [go_sem, hE, hH, h]
    simp only [nf] at h
    rw [show k = more.size by omega]
    repeat' (first | ((with_reducible apply ga) <;> refine gs fun h => ?_) | ((with_reducible apply an); · omega) | refine jn _ ?_ ?_ | (with_reducible first | apply both | apply an | exact ti) | exact fe | refine st ?_ | exact fm | refine s1 ?_)
    ·rw [hasB, zBh hlt (by simp_all [hasc])]
    ·exact ⟨(), rfl, zAl hI (by simp_all [hasc])⟩)
 ·try simp (disch := omega) only [go_sem, hE, hH, h]
  simp only [nf] at h
  rw [show j = s.size by omega] at hI
  rw [hasB, hI]
theorem zSH (s : ByteArray) (hs : s.size ≤ maxLen) : ACall p_ 153 [str s] (fun r _ => r = bl (zBm s)) := by
 refine fg H153 fun E hE hH => ?_; simp only [go_sem, hE, hH, zY9]
 repeat' (first | ((with_reducible apply ga) <;> refine gs fun h => ?_) | ((with_reducible apply an); · omega) | ((first | refine zAa ?_ | refine cvA (zDo _ _ _) ?_ | refine cvA (zKs _ _ hs) ?_); refine st ?_) | refine jn _ ?_ ?_ | (with_reducible first | apply both | apply an | exact ti) | exact fe | refine st ?_ | exact fm | refine s1 ?_)
 all_goals simp_all [zBm]
theorem zId (s : ByteArray) (hs : s.size ≤ maxLen) : ACall p_ 94 [str s] (fun r _ => r = bl (zBm s)) := by
 refine fg H94 fun E hE hH => ?_; simp only [go_sem, hE, hH, C94]
 repeat' (first | ((with_reducible apply ga) <;> refine gs fun h => ?_) | ((with_reducible apply an); · omega) | ((first | refine zAa ?_ | refine cvA (zE7 _ _ _) ?_ | refine cvA (zL2 _ _ hs (by decide)) ?_); refine st ?_) | refine jn _ ?_ ?_ | (with_reducible first | apply both | apply an | exact ti) | exact fe | refine st ?_ | exact fm | refine s1 ?_)
 all_goals simp_all [zBm]
def zBO (l : List ByteArray) : Bool := zAD (fun i => zBm (nth l i) && (decide (i = 0) || zAg (nth l (i - 1)) (nth l i))) l.length
theorem zEv (l : List ByteArray) (hl : zBN (fun s => s.size ≤ maxLen) l) : ACall p_ 108 [.sl false 1 (strs l)] (fun r _ => r = bl (zBO l)) := by
 obtain ⟨hl, hx⟩ := hl
 have hmx := zAh
 refine fg H108 fun E hE hH => ?_; simp only [go_sem, hE, hH, zYH]
 refine zAK l.length (fun j (_ : Unit) => ⟨[(0, .sl false 1 (strs l)), (5, .sl false 1 (strs l)), (6, i64 l.length), (7, i64 j)], []⟩) (fun j _ => zAD (fun i => zBm (nth l i) && (decide (i = 0) || zAg (nth l (i - 1)) (nth l i))) j = true) () rfl ?_
 intro j _ hj hI
 try simp only [go_sem, hE, hH, zQZ]
 first | refine zAe (fun h => ?_) (fun h => ?_) | refine zAf (fun h => ?_) (fun h => ?_)
 ·have hb := h
  simp only [nf] at h
  have hlt := h; clear h
  have hs := hx _ (zAc hlt)
  try refine sb ?_; try exact ⟨⟩
  repeat' (first | ((with_reducible apply ga) <;> refine gs fun h => ?_) | ((with_reducible apply an); · omega) | ((first | refine zAa ?_ | refine cvA (zSH _ (by assumption)) ?_); refine st ?_) | refine jn _ ?_ ?_ | (with_reducible first | apply both | apply an | exact ti) | exact fe | refine st ?_ | exact fm | refine s1 ?_)
  ·rw [zBO, zBh hlt (by simp_all)]
  ·rw [zBO, zBh hlt (by simp_all <;> omega)]
  ·exact ⟨(), rfl, zAl hI (by simp_all)⟩
  ·exact ⟨(), rfl, zAl hI (by simp_all <;> omega)⟩
 ·try simp (disch := omega) only [go_sem, hE, hH, h]
  simp only [nf] at h
  rw [show j = l.length by omega] at hI
  rw [zBO, hI]
theorem zUU (l : List ByteArray) (key : ByteArray) (hl : l.length ≤ maxLen) : ACall p_ 123 [.sl false 1 (strs l), str key] (fun r _ => r = i64 (zCl (fun i => !zAg key (nth l i)) l.length)) := by
 have hmx := zAh
 refine fg H123 fun E hE hH => ?_; simp only [go_sem, hE, hH, zYS]
 refine zAK l.length (fun j (c : Nat) => ⟨[(1, str key), (5, i64 c), (8, .sl false 1 (strs l)), (9, i64 l.length), (10, i64 j)], []⟩) (fun j c => c = zCl (fun i => !zAg key (nth l i)) j) 0 rfl ?_
 intro j c hj hI
 have hc : c ≤ j := by rw [hI]; exact zHw
 try simp only [go_sem, hE, hH, zQ3]
 first | refine zAe (fun h => ?_) (fun h => ?_) | refine zAf (fun h => ?_) (fun h => ?_)
 ·have hb := h
  simp only [nf] at h
  have hlt := h; clear h
  try refine sb ?_; try exact ⟨⟩
  repeat' (first | ((with_reducible apply ga) <;> refine gs fun h => ?_) | ((with_reducible apply an); · omega) | refine jn _ ?_ ?_ | (with_reducible first | apply both | apply an | exact ti) | exact fe | refine st ?_ | exact fm | refine s1 ?_)
  ·simp [zCl, h, hI]
  ·simp [zCl, h, hI]
 ·try simp (disch := omega) only [go_sem, hE, hH, h]
  simp only [nf] at h
  rw [show j = l.length by omega] at hI
  rw [hI]
def stored (v : ByteArray) (gone : Bool) : Bool := zEd v && !(gone && !decide (v = ⟨⟨[]⟩⟩))
theorem zJ5 {α β : Type} [Inhabited α] [Inhabited β] {f : α → β} {l : List α} {i : Nat} (h : i < l.length) : nth (l.map f) i = f (nth l i) := by
 rw [zAM (by simpa using h), zAM h, List.getElem_map]
theorem zSI (s : ByteArray) (hs : s.size ≤ maxLen) : ACall p_ 215 [str s] (fun r _ => r = bl (zEd s)) := by
 refine fg H215 fun E hE hH => ?_; simp only [go_sem, hE, hH, zZU]
 repeat' (first | ((with_reducible apply ga) <;> refine gs fun h => ?_) | ((with_reducible apply an); · omega) | ((first | refine zAa ?_ | refine cvA (zKs _ _ hs) ?_); refine st ?_) | refine jn _ ?_ ?_ | (with_reducible first | apply both | apply an | exact ti) | exact fe | refine st ?_ | exact fm | refine s1 ?_)
 all_goals (first | (simp_all [zEd]; done) | (simp_all [zEd] <;> first | omega | (intros; omega)))
theorem zWd (s : ByteArray) (hs : s.size ≤ maxLen) : ACall p_ 211 [str s] (fun r _ => r = bl (zEd s)) := by
 refine fg H211 fun E hE hH => ?_; simp only [go_sem, hE, hH, zZR]
 repeat' (first | ((with_reducible apply ga) <;> refine gs fun h => ?_) | ((with_reducible apply an); · omega) | ((first | refine zAa ?_ | refine cvA (zL2 _ _ hs (by decide)) ?_); refine st ?_) | refine jn _ ?_ ?_ | (with_reducible first | apply both | apply an | exact ti) | exact fe | refine st ?_ | exact fm | refine s1 ?_)
 all_goals (first | (simp_all [zEd]; done) | (simp_all [zEd] <;> first | omega | (intros; omega)))
theorem zKt (s : ByteArray) (g : Bool) (hs : s.size ≤ maxLen) : ACall p_ 192 [str s, bl g] (fun r _ => r = bl (stored s g)) := by
 refine fg H192 fun E hE hH => ?_; simp only [go_sem, hE, hH, zZE]
 repeat' (first | ((with_reducible apply ga) <;> refine gs fun h => ?_) | ((with_reducible apply an); · omega) | ((first | refine zAa ?_ | refine cvA (zSI _ hs) ?_); refine st ?_) | refine jn _ ?_ ?_ | (with_reducible first | apply both | apply an | exact ti) | exact fe | refine st ?_ | exact fm | refine s1 ?_)
 all_goals simp_all [stored]
theorem zL3 (k s : ByteArray) (g : Bool) (hk : k.size ≤ maxLen) (hs : s.size ≤ maxLen) : ACall p_ 179 [str k, str s, bl g] (fun r _ => r = bl (zBm k && stored s g)) := by
 refine fg H179 fun E hE hH => ?_; simp only [go_sem, hE, hH, zZt]
 repeat' (first | ((with_reducible apply ga) <;> refine gs fun h => ?_) | ((with_reducible apply an); · omega) | ((first | refine zAa ?_ | refine cvA (zId _ hk) ?_ | refine cvA (zWd _ hs) ?_); refine st ?_) | refine jn _ ?_ ?_ | (with_reducible first | apply both | apply an | exact ti) | exact fe | refine st ?_ | exact fm | refine s1 ?_)
 all_goals simp_all [stored]
def zBq (l : List Write) : Bool := decide ((l.length : Int) ≤ 24) && zAD (fun i => (zBm (nth l i).Key && stored (nth l i).Val (nth l i).Gone) && (decide (i = 0) || zAg (nth l (i - 1)).Key (nth l i).Key)) l.length
theorem zFN (l : List Write) : zBq l = (decide ((l.length : Int) ≤ 24) && zBO (l.map (·.Key)) && !l.any fun w => !stored w.Val w.Gone) := by
 have h1 : (!l.any fun w => !stored w.Val w.Gone) = zAD (fun i => stored (nth l i).Val (nth l i).Gone) l.length := by
  rw [zBJ (p := fun w : Write => stored w.Val w.Gone)]
  simp [List.any_eq_not_all_not]
 have h2 : zBO (l.map (·.Key)) = zAD (fun i => zBm (nth l i).Key && (decide (i = 0) || zAg (nth l (i - 1)).Key (nth l i).Key)) l.length := by
  unfold zBO
  rw [List.length_map]
  refine zLR fun i hi => ?_
  rw [zJ5 hi, zJ5 (by omega)]
 rw [h1, h2, zBq, Bool.and_assoc]
 congr 1
 rw [Bool.eq_iff_iff, Bool.and_eq_true, zAv, zAv, zAv]
 constructor
 ·intro h
  exact ⟨fun i hi => by have := h i hi; simp only [Bool.and_eq_true] at this ⊢; exact ⟨this.1.1, this.2⟩, fun i hi => by have := h i hi; simp only [Bool.and_eq_true] at this ⊢; exact this.1.2⟩
 ·rintro ⟨ha, hb⟩ i hi
  have ha := ha i hi; have hb := hb i hi
  simp only [Bool.and_eq_true] at ha hb ⊢
  exact ⟨⟨ha.1, hb⟩, ha.2⟩
theorem zJq (l : List Write) (hl : l.length ≤ 2 ^ 20) : ACall p_ 167 [.sl false 3 (l.map (Write.row false))] (fun r _ => r = .sl true 1 (strs (l.map (·.Key)))) := by
 refine fg H167 fun E hE hH => ?_; simp only [go_sem, hE, hH, zZi]
 refine zAG l.length (fun j (x : List ByteArray) => ⟨[(3, .ref 4000000 0 x.length), (7, .sl false 3 (l.map (Write.row false))), (8, i64 l.length), (9, i64 j)], [(4000000, ⟨1, strs x⟩)]⟩) (fun j x => x = (l.take j).map (·.Key)) [] (by simp) (by simp) ?_
 intro j x hj hx
 have hlen : x.length = j := by rw [hx]; simp; omega
 try simp only [go_sem, hE, hH, zRl]
 first | refine zAe (fun h => ?_) (fun h => ?_) | refine zAf (fun h => ?_) (fun h => ?_)
 ·have hb := h
  simp only [nf] at h
  try refine sb ?_; try exact ⟨⟩
  refine ⟨by omega, by omega, by omega, ?_⟩
  rw [zAp h, List.map_append, ← hx]
  simp [hlen]; omega
 ·have hb := h
  simp only [nf] at h
  try refine sb ?_; try exact ⟨⟩
  rw [hx, show j = l.length by omega, List.take_length]
theorem zL4 (w : Write) (hw : w.wf) : ACall p_ 216 [.agg (Write.row false w)] (fun r _ => r = bl (!stored w.Val w.Gone)) := by
 obtain ⟨w1, w2⟩ := hw
 refine fg H216 fun E hE hH => ?_; simp only [go_sem, hE, hH, zZV]
 repeat' (first | ((with_reducible apply ga) <;> refine gs fun h => ?_) | ((with_reducible apply an); · omega) | ((first | refine zAa ?_ | refine cvA (zKt _ _ w2) ?_); refine st ?_) | refine jn _ ?_ ?_ | (with_reducible first | apply both | apply an | exact ti) | exact fe | refine st ?_ | exact fm | refine s1 ?_)
theorem zN2 (l : List Write) (hl : wfL Write.wf l) : ACall p_ 193 [.sl false 3 (l.map (Write.row false))] (fun r _ => r = bl (zBq l)) := by
 obtain ⟨hl, hx⟩ := hl
 have hmx := zAh
 have hr : zBN (fun s : ByteArray => s.size ≤ maxLen) (l.map (·.Key)) := ⟨by simpa using hl, fun s hs => by obtain ⟨w, hw, rfl⟩ := List.mem_map.1 hs; exact (hx w hw).1⟩
 rw [zFN]
 refine fg H193 fun E hE hH => ?_; simp only [go_sem, hE, hH, zZF]
 repeat' (first | ((with_reducible apply ga) <;> refine gs fun h => ?_) | ((with_reducible apply an); · omega) | ((first | refine zAa ?_ | refine cvA (zJq l (by omega)) ?_ | refine cvA (zEv _ hr) ?_ | refine cvA (zCP l _ [] (fun w => !stored w.Val w.Gone) (by kernel_rfl) rfl hl (fun w hw => zL4 w (hx w hw))) ?_); refine st ?_) | refine jn _ ?_ ?_ | (with_reducible first | apply both | apply an | exact ti) | exact fe | refine st ?_ | exact fm | refine s1 ?_)
 all_goals (first | (simp_all []; done) | (simp_all [] <;> first | omega | (intros; omega)))
theorem zKu (l : List Write) (hl : wfL Write.wf l) : ACall p_ 181 [.sl false 3 (l.map (Write.row false))] (fun r _ => r = bl (zBq l)) := by
 obtain ⟨hl, hx⟩ := hl
 have hmx := zAh
 refine fg H181 fun E hE hH => ?_; simp only [go_sem, hE, hH, zZv]
 refine zAK l.length (fun j (_ : Unit) => ⟨[(0, .sl false 3 (l.map (Write.row false))), (5, .sl false 3 (l.map (Write.row false))), (6, i64 l.length), (7, i64 j)], []⟩) (fun j _ => zAD (fun i => (zBm (nth l i).Key && stored (nth l i).Val (nth l i).Gone) && (decide (i = 0) || zAg (nth l (i - 1)).Key (nth l i).Key)) j = true) () rfl ?_
 intro j _ hj hI
 try simp only [go_sem, hE, hH, zRp]
 first | refine zAe (fun h => ?_) (fun h => ?_) | refine zAf (fun h => ?_) (fun h => ?_)
 ·have hb := h
  simp only [nf] at h
  have hlt := h; clear h
  obtain ⟨w1, w2⟩ := hx _ (zAc hlt)
  try refine sb ?_; try exact ⟨⟩
  repeat' (first | ((with_reducible apply ga) <;> refine gs fun h => ?_) | ((with_reducible apply an); · omega) | ((first | refine zAa ?_ | refine cvA (zL3 _ _ _ w1 w2) ?_); refine st ?_) | refine jn _ ?_ ?_ | (with_reducible first | apply both | apply an | exact ti) | exact fe | refine st ?_ | exact fm | refine s1 ?_)
  ·rw [zBq, zBh hlt (by simp_all)]; simp
  ·rw [zBq, zBh hlt (by simp_all <;> omega)]; simp
  ·first | exact ⟨(), rfl, zAl hI (by simp_all <;> omega)⟩ | exact ⟨by omega, (), rfl, zAl hI (by simp_all <;> omega)⟩ | exact ⟨by omega, by omega, (), rfl, zAl hI (by simp_all <;> omega)⟩
  ·first | exact ⟨(), rfl, zAl hI (by simp_all <;> omega)⟩ | exact ⟨by omega, (), rfl, zAl hI (by simp_all <;> omega)⟩ | exact ⟨by omega, by omega, (), rfl, zAl hI (by simp_all <;> omega)⟩
 ·try simp (disch := omega) only [go_sem, hE, hH, h]
  simp only [nf] at h
  rw [show j = l.length by omega] at hI
  rw [zBq, hI]
  simp
open Go.Proofs.Wb renaming H115 → z0_, zYN → z1_, zDo → z2_ in
theorem zLe (n : Int) : ACall p_ 115 [i64 n] (fun r _ => r = bl (rng n 1 60)) := zQc
open Go.Proofs.Wb renaming H110 → z0_, zYI → z1_, zDo → z2_ in
theorem zUV (n : Int) : ACall p_ 110 [i64 n] (fun r _ => r = bl (rng n 0 100000)) := zQc
open Go.Proofs.Wb renaming H89 → z0_, C89 → z1_, zE7 → z2_ in
theorem zUW (n : Int) : ACall p_ 89 [i64 n] (fun r _ => r = bl (rng n 0 100000)) := zQc
theorem zWe (l : List Int) (v : Int) (hl : l.length ≤ maxLen) : ACall p_ 144 [.sl false 1 (ints l), i64 v] (fun r _ => r = bl (l.any fun x => decide (v = x))) := by
 have hmx := zAh
 refine fg H144 fun E hE hH => ?_; simp only [go_sem, hE, hH, zOl]
 refine zAK l.length (fun j (_ : Unit) => ⟨[(1, i64 v), (7, .sl false 1 (ints l)), (8, i64 l.length), (9, i64 j)], []⟩) (fun j _ => zAD (fun i => !decide (v = nth l i)) j = true) () rfl ?_
 intro j _ hj hI
 try simp only [go_sem, hE, hH, zLa]
 first | refine zAe (fun h => ?_) (fun h => ?_) | refine zAf (fun h => ?_) (fun h => ?_)
 ·have hb := h
  simp only [nf] at h
  have hlt := h; clear h
  try refine sb ?_; try exact ⟨⟩
  repeat' (first | ((with_reducible apply ga) <;> refine gs fun h => ?_) | ((with_reducible apply an); · omega) | refine jn _ ?_ ?_ | (with_reducible first | apply both | apply an | exact ti) | exact fe | refine st ?_ | exact fm | refine s1 ?_)
  ·have : (l.any fun x => decide (v = x)) = true := List.any_eq_true.2 ⟨_, zAc hlt, by simp [h]⟩
   rw [this]
  ·first | exact ⟨(), rfl, zAl hI (by simp only [Bool.not_eq_true', decide_eq_false_iff_not]; exact fun e => h e.symm)⟩ | exact ⟨by omega, (), rfl, zAl hI (by simp only [Bool.not_eq_true', decide_eq_false_iff_not]; exact fun e => h e.symm)⟩ | exact ⟨by omega, by omega, (), rfl, zAl hI (by simp only [Bool.not_eq_true', decide_eq_false_iff_not]; exact fun e => h e.symm)⟩
 ·try simp (disch := omega) only [go_sem, hE, hH, h]
  simp only [nf] at h
  rw [show j = l.length by omega, zBJ (p := fun x => !decide (v = x))] at hI
  have : (l.any fun x => decide (v = x)) = false := by
   rw [List.any_eq_false]; intro x hx; simpa using List.all_eq_true.1 hI x hx
  rw [this]
theorem zL5 (x : ByteArray) : ACall p_ 220 [str x] (fun r _ => r = bl false) := by
 refine fg H220 fun E hE hH => ?_; simp only [go_sem, hE, hH, zZY]
 try refine st ?_; try exact ⟨⟩
def zEw (a b : ByteArray) : Int := if zAg a b then -1 else if zAg b a then 1 else 0
theorem zFT (a b : ByteArray) : ACall p_ 199 [str a, str b] (fun r _ => r = i64 (zEw a b)) := by
 refine fg H199 fun E hE hH => ?_; simp only [go_sem, hE, hH, zSk]
 repeat' (first | ((with_reducible apply ga) <;> refine gs fun h => ?_) | ((with_reducible apply an); · omega) | ((first | refine zAa ?_ | refine cvA (zL5 _) ?_); refine st ?_) | refine jn _ ?_ ?_ | (with_reducible first | apply both | apply an | exact ti) | exact fe | refine st ?_ | exact fm | refine s1 ?_)
 all_goals (rcases zBZ a b with q | q | q <;> simp_all [zEw, zBM, zDR])
open Go.Proofs.Wb renaming H239 → z0_, zJf → z1_, zFT → z2_ in
theorem zMX (w : Write) (key : ByteArray) : ACall p_ 239 ([.agg (Write.row false w), str key] ++ []) (fun r _ => r = i64 (zEw w.Key key)) := zQb
def zFO (l : List Write) : Prop := ∀ i j, i < j → j < l.length → zAg (nth l i).Key (nth l j).Key = true
theorem zDA {l : List Write} (h : zBq l = true) : zFO l := by
 simp only [zBq, Bool.and_eq_true] at h
 have key : ∀ d i, i + d + 1 < l.length → zAg (nth l i).Key (nth l (i + d + 1)).Key = true := by
  intro d
  induction d with
  | zero =>
   intro i hi
   have := zAv.1 h.2 (i + 1) (by omega)
   simp only [Bool.and_eq_true, Bool.or_eq_true, decide_eq_true_eq] at this
   exact this.2.resolve_left (by omega)
  | succ d ih =>
   intro i hi
   have h1 := ih i (by omega)
   have := zAv.1 h.2 (i + d + 2) (by omega)
   simp only [Bool.and_eq_true, Bool.or_eq_true, decide_eq_true_eq] at this
   exact zBI h1 (this.2.resolve_left (by omega))
 intro i j h1 h2
 have := key (j - i - 1) i (by omega)
 rwa [show i + (j - i - 1) + 1 = j by omega] at this
def fwI (l : List Write) (k : ByteArray) : Nat := zCl (fun i => zAg (nth l i).Key k) l.length
def fwF (l : List Write) (k : ByteArray) : Bool := l.any fun w => decide (w.Key = k)
theorem zLf {a b : ByteArray} : zEw a b < 0 ↔ zAg a b = true := by
 unfold zEw
 split
 ·simp_all
 ·split <;> simp_all
theorem zNB {a b : ByteArray} : zEw a b = 0 ↔ a = b := by
 unfold zEw
 rcases zBZ a b with h | h | h
 ·rw [if_pos h]; simp [zH6 h]
 ·subst h; simp [zBM]
 ·rw [zDR h, if_neg (by simp), if_pos h]; simp [(zH6 h).symm]
theorem zAa8 {l : List Write} (hs : zFO l) (k : ByteArray) : bsI (fun w : Write => zEw w.Key k) l = fwI l k ∧ bsF (fun w : Write => zEw w.Key k) l = fwF l k := by
 have e1 : bsI (fun w : Write => zEw w.Key k) l = fwI l k := by
  unfold bsI fwI
  congr 1; funext i
  rw [Bool.eq_iff_iff, decide_eq_true_iff, zLf]
 refine ⟨e1, ?_⟩
 rw [Bool.eq_iff_iff]
 unfold bsF fwF
 rw [e1, Bool.and_eq_true, decide_eq_true_iff, decide_eq_true_iff, zNB, List.any_eq_true]
 constructor
 ·rintro ⟨h1, h2⟩; exact ⟨_, zAc h1, by simp [h2]⟩
 ·rintro ⟨w, hw, h1⟩
  obtain ⟨i, hi, rfl⟩ := List.getElem_of_mem hw
  simp only [decide_eq_true_eq] at h1
  rw [← zAM hi] at h1
  have e2 : fwI l k = i := by
   unfold fwI
   rw [zFB (Nat.le_of_lt hi) (fun j a b => ?_), zGs (zAv.2 fun j hj => ?_)]
   ·rw [← h1]; exact hs j i hj hi
   ·by_cases e : j = i
    ·rw [e, h1]; exact zBM _
    ·rw [← h1]; exact zDR (hs i j (by omega) b)
  rw [e2]; exact ⟨hi, h1⟩
theorem zPF (l : List Write) (key : ByteArray) (hl : l.length ≤ 2 ^ 60) (hs : zFO l) : ACall p_ 218 [.sl false 3 (l.map (Write.row false)), str key] (fun r _ => r = .tup [i64 (fwI l key), bl (fwF l key)]) := by
 obtain ⟨e1, e2⟩ := zAa8 hs key
 refine fg H218 fun E hE hH => ?_; simp only [go_sem, hE, hH, zZX]
 repeat' (first | ((with_reducible apply ga) <;> refine gs fun h => ?_) | ((with_reducible apply an); · omega) | ((first | refine zAa ?_ | refine cvA (zF4 l key _ [] (fun w => zEw w.Key key) (by kernel_rfl) rfl hl (fun i j h1 h2 h3 => by have := hs i j h1 h2; rw [← Int.not_lt, zLf] at h3 ⊢; exact fun h => h3 (zBI this h)) (fun w _ => zMX w key)) ?_); refine st ?_) | refine jn _ ?_ ?_ | (with_reducible first | apply both | apply an | exact ti) | exact fe | refine st ?_ | exact fm | refine s1 ?_)
 all_goals simp only [e1, e2]
theorem zKv (l : List Write) (key : ByteArray) (hl : l.length ≤ maxLen) : ACall p_ 182 [.sl false 3 (l.map (Write.row false)), str key] (fun r _ => r = bl (fwF l key)) := by
 have hmx := zAh
 refine fg H182 fun E hE hH => ?_; simp only [go_sem, hE, hH, zZw]
 refine zAK l.length (fun j (_ : Unit) => ⟨[(1, str key), (7, .sl false 3 (l.map (Write.row false))), (8, i64 l.length), (9, i64 j)], []⟩) (fun j _ => zAD (fun i => !decide ((nth l i).Key = key)) j = true) () rfl ?_
 intro j _ hj hI
 try simp only [go_sem, hE, hH, zRq]
 first | refine zAe (fun h => ?_) (fun h => ?_) | refine zAf (fun h => ?_) (fun h => ?_)
 ·have hb := h
  simp only [nf] at h
  have hlt := h; clear h
  try refine sb ?_; try exact ⟨⟩
  repeat' (first | ((with_reducible apply ga) <;> refine gs fun h => ?_) | ((with_reducible apply an); · omega) | refine jn _ ?_ ?_ | (with_reducible first | apply both | apply an | exact ti) | exact fe | refine st ?_ | exact fm | refine s1 ?_)
  ·have : fwF l key = true := List.any_eq_true.2 ⟨_, zAc hlt, by simp [h]⟩
   rw [this]
  ·first | exact ⟨(), rfl, zAl hI (by simp [h])⟩ | exact ⟨by omega, (), rfl, zAl hI (by simp [h])⟩ | exact ⟨by omega, by omega, (), rfl, zAl hI (by simp [h])⟩
 ·try simp (disch := omega) only [go_sem, hE, hH, h]
  simp only [nf] at h
  rw [show j = l.length by omega, zBJ (p := fun w : Write => !decide (w.Key = key))] at hI
  have : fwF l key = false := by
   rw [fwF, List.any_eq_false]; intro x hx; simpa using List.all_eq_true.1 hI x hx
  rw [this]
def zGA (ws : List Write) (reads : List ByteArray) (others : List Write) : Bool := ws.any fun w => fwF others w.Key || reads.any fun x => decide (w.Key = x)
theorem zPG (w : Write) (others : List Write) (reads : List ByteArray) (hl : others.length ≤ 2 ^ 60) (hr : reads.length ≤ maxLen) (hs : zFO others) : ACall p_ 217 ([.agg (Write.row false w)] ++ [.bx false [.sl false 3 (others.map (Write.row false))], .bx false [.sl false 1 (strs reads)]]) (fun r _ => r = bl (fwF others w.Key || reads.any fun x => decide (w.Key = x))) := by
 refine fg H217 fun E hE hH => ?_; simp only [go_sem, hE, hH, zZW]
 repeat' (first | ((with_reducible apply ga) <;> refine gs fun h => ?_) | ((with_reducible apply an); · omega) | ((first | refine zAa ?_ | refine cvA (zPF others _ hl hs) ?_ | refine cvA (zJp _ _ hr) ?_); refine st ?_) | refine jn _ ?_ ?_ | (with_reducible first | apply both | apply an | exact ti) | exact fe | refine st ?_ | exact fm | refine s1 ?_)
 all_goals simp_all
theorem zL6 (ws : List Write) (reads : List ByteArray) (others : List Write) (hw : ws.length ≤ maxLen) (hl : others.length ≤ 2 ^ 60) (hr : reads.length ≤ maxLen) (hs : zFO others) : ACall p_ 195 [.sl false 3 (ws.map (Write.row false)), .sl false 1 (strs reads), .sl false 3 (others.map (Write.row false))] (fun r _ => r = bl (zGA ws reads others)) := by
 refine fg H195 fun E hE hH => ?_; simp only [go_sem, hE, hH, zZG]
 repeat' (first | ((with_reducible apply ga) <;> refine gs fun h => ?_) | ((with_reducible apply an); · omega) | ((first | refine zAa ?_ | refine cvA (zCP ws _ [.bx false [.sl false 3 (others.map (Write.row false))], .bx false [.sl false 1 (strs reads)]] (fun w => fwF others w.Key || reads.any fun x => decide (w.Key = x)) (by kernel_rfl) rfl hw (fun w _ => zPG w others reads hl hr hs)) ?_); refine st ?_) | refine jn _ ?_ ?_ | (with_reducible first | apply both | apply an | exact ti) | exact fe | refine st ?_ | exact fm | refine s1 ?_)
 rfl
def zIe (a b : Int) : Int := if a < b then -1 else if b < a then 1 else 0
theorem zPH (x : Int) : ACall p_ 125 [i64 x] (fun r _ => r = bl false) := by
 refine fg H125 fun E hE hH => ?_; simp only [go_sem, hE, hH, zYV]
 try refine st ?_; try exact ⟨⟩
theorem zHF (a b : Int) : ACall p_ 68 [i64 a, i64 b] (fun r _ => r = i64 (zIe a b)) := by
 refine fg H68 fun E hE hH => ?_; simp only [go_sem, hE, hH, zSk]
 repeat' (first | ((with_reducible apply ga) <;> refine gs fun h => ?_) | ((with_reducible apply an); · omega) | ((first | refine zAa ?_ | refine cvA (zPH _) ?_); refine st ?_) | refine jn _ ?_ ?_ | (with_reducible first | apply both | apply an | exact ti) | exact fe | refine st ?_ | exact fm | refine s1 ?_)
 all_goals (unfold zIe)
 ·rw [if_pos h]
 ·rw [if_neg (by omega), if_pos h]
 ·rw [if_neg (by omega), if_neg (by omega)]
def zOo (a b : Int) : Int := if a > b then a else b
theorem zUX (a b : Int) : ACall p_ 147 [i64 a, i64 b] (fun r _ => r = i64 (zOo a b)) := by
 refine fg H147 fun E hE hH => ?_; simp only [go_sem, hE, hH, zY6]
 repeat' (first | ((with_reducible apply ga) <;> refine gs fun h => ?_) | ((with_reducible apply an); · omega) | refine jn _ ?_ ?_ | (with_reducible first | apply both | apply an | exact ti) | exact fe | refine st ?_ | exact fm | refine s1 ?_)
 all_goals (simp only [zOo]; first | rw [if_pos (by omega)] | rw [if_neg (by omega)])
open Go.Proofs.Wb renaming H191 → z0_, zZD → z1_, zDo → z2_ in
theorem zNC (n : Int) : ACall p_ 191 [i64 n] (fun r _ => r = bl (rng n 1 100000)) := zQc
open Go.Proofs.Wb renaming H178 → z0_, zZs → z1_, zE7 → z2_ in
theorem zJr (n : Int) : ACall p_ 178 [i64 n] (fun r _ => r = bl (rng n 1 100000)) := zQc
theorem zND (l : List ByteArray) (hl : zBN (fun s => s.size ≤ maxLen) l) : ACall p_ 180 [.sl false 1 (strs l)] (fun r _ => r = bl (zBO l && decide ((l.length : Int) ≤ 8))) := by
 obtain ⟨hl, hx⟩ := hl
 have hmx := zAh
 refine fg H180 fun E hE hH => ?_; simp only [go_sem, hE, hH, zZu]
 refine zAK l.length (fun j (_ : Unit) => ⟨[(0, .sl false 1 (strs l)), (5, .sl false 1 (strs l)), (6, i64 l.length), (7, i64 j)], []⟩) (fun j _ => zAD (fun i => zBm (nth l i) && (decide (i = 0) || zAg (nth l (i - 1)) (nth l i))) j = true) () rfl ?_
 intro j _ hj hI
 try simp only [go_sem, hE, hH, zRo]
 first | refine zAe (fun h => ?_) (fun h => ?_) | refine zAf (fun h => ?_) (fun h => ?_)
 ·have hb := h
  simp only [nf] at h
  have hlt := h; clear h
  have hs := hx _ (zAc hlt)
  try refine sb ?_; try exact ⟨⟩
  repeat' (first | ((with_reducible apply ga) <;> refine gs fun h => ?_) | ((with_reducible apply an); · omega) | ((first | refine zAa ?_ | refine cvA (zId _ (by assumption)) ?_); refine st ?_) | refine jn _ ?_ ?_ | (with_reducible first | apply both | apply an | exact ti) | exact fe | refine st ?_ | exact fm | refine s1 ?_)
  ·rw [zBO, zBh hlt (by simp_all)]; rfl
  ·rw [zBO, zBh hlt (by simp_all <;> omega)]; rfl
  ·exact ⟨(), rfl, zAl hI (by simp_all)⟩
  ·exact ⟨(), rfl, zAl hI (by simp_all <;> omega)⟩
 ·try simp (disch := omega) only [go_sem, hE, hH, h]
  simp only [nf] at h
  rw [show j = l.length by omega] at hI
  rw [zBO, hI]
  simp
def zEx (r : Rec) : Bool := decide (r.Lead = 0) && decide (r.Reads.length = 0) && decide (r.Writes.length = 0)
def zA2 (r : Rec) : Bool :=
 if r.Kind = 1 then rng r.Txn 1 60 && rng r.Time 1 100000 && rng r.Lead 0 3 && (zBO r.Reads && decide ((r.Reads.length : Int) ≤ 8)) && decide ((r.Writes.length : Int) ≤ 8) && zBq r.Writes && decide (0 < r.Reads.length + r.Writes.length) && !r.Yes
 else if r.Kind = 2 ∨ r.Kind = 3 then zEx r && rng r.Txn 1 60 && ((r.Yes && rng r.Time 1 100000) || (!r.Yes && decide (r.Time = 0)))
 else if r.Kind = 4 then zEx r && decide (r.Txn = 0) && rng r.Time 1 100000 && !r.Yes
 else false
theorem zL7 (r : Rec) (hw : r.wf) : ACall p_ 155 [.agg (Rec.row false r)] (fun x _ => x = bl (zA2 r)) := by
 have hmx := zAh
 obtain ⟨w1, w2, w3, w4, w5, w6⟩ := hw
 refine fg H155 fun E hE hH => ?_; simp only [go_sem, hE, hH, zZb]
 repeat' (first | ((with_reducible apply ga) <;> refine gs fun h => ?_) | ((with_reducible apply an); · omega) | ((first | refine zAa ?_ | refine cvA (zLe _) ?_ | refine cvA (zNC _) ?_ | refine cvA (zDo _ _ _) ?_ | refine cvA (zEv _ w5) ?_ | refine cvA (zN2 _ w6) ?_); refine st ?_) | (with_reducible first | apply jn | apply both | apply an | exact ti) | exact fj | refine st ?_ | exact fm | refine s1 ?_)
 all_goals (first | (simp_all [zA2, zEx]; done) | (simp_all [zA2, zEx] <;> first | omega | (intros; omega)))
def zPI (r : Rec) : Prop := r.wf ∧ r.Reads.length ≤ 2 ^ 60 ∧ r.Writes.length ≤ 2 ^ 60
theorem zJs (r : Rec) (hw : zPI r) : ACall p_ 138 [.agg (Rec.row false r)] (fun x _ => x = bl (zA2 r)) := by
 have hmx := zAh
 obtain ⟨⟨w1, w2, w3, w4, w5, w6⟩, z1, z2⟩ := hw
 have hrl : rng (r.Writes.length : Int) 0 8 = decide ((r.Writes.length : Int) ≤ 8) := by simp [rng]
 by_cases hb : r.Reads.length + r.Writes.length = 0
 ·have hR : r.Reads = [] := List.length_eq_zero_iff.1 (by omega)
  have hW : r.Writes = [] := List.length_eq_zero_iff.1 (by omega)
  refine fg zY1 fun E hE hH => ?_; simp only [go_sem, hE, hH, zV8]
  repeat' (first | ((with_reducible apply ga) <;> refine gs fun h => ?_) | ((with_reducible apply an); · omega) | ((first | refine zAa ?_ | refine cvA (zE7 _ _ _) ?_ | refine cvA (zJr _) ?_ | refine cvA (zND _ w5) ?_ | refine cvA (zKu _ w6) ?_); refine st ?_) | (with_reducible first | apply jn | apply both | apply an | exact ti) | exact fj | refine st ?_ | exact fm | refine s1 ?_)
  all_goals (first | (simp_all [zA2, zEx]; done) | (simp_all [zA2, zEx]; omega))
 ·have hn : zEx r = false := by
   have : (decide (r.Reads.length = 0) && decide (r.Writes.length = 0)) = false := by
    rw [Bool.and_eq_false_iff, decide_eq_false_iff_not, decide_eq_false_iff_not]; omega
   rw [zEx, Bool.and_assoc, this, Bool.and_false]
  have hp : 0 < r.Reads.length + r.Writes.length := by omega
  have hp2 : (0 : Int) < (r.Reads.length : Int) + r.Writes.length := by omega
  refine fg zY1 fun E hE hH => ?_; simp only [go_sem, hE, hH, zV8]
  repeat' (first | ((with_reducible apply ga) <;> refine gs fun h => ?_) | ((with_reducible apply an); · omega) | ((first | refine zAa ?_ | refine cvA (zE7 _ _ _) ?_ | refine cvA (zJr _) ?_ | refine cvA (zND _ w5) ?_ | refine cvA (zKu _ w6) ?_); refine st ?_) | (with_reducible first | apply jn | apply both | apply an | exact ti) | exact fj | refine st ?_ | exact fm | refine s1 ?_)
  all_goals (clear hb)
  all_goals (first | omega | (simp [zA2, *]; done) | (simp_all [zA2]; done) | (simp_all [zA2] <;> omega) | trace_state)
def zDU (l : List ByteArray) : Bool := decide ((l.length : Int) < 4) && zBO l
theorem zQw (l : List ByteArray) (hl : zBN (fun s => s.size ≤ maxLen) l) : ACall p_ 55 [.sl false 1 (strs l)] (fun r _ => r = bl (zDU l)) := by
 have hmx := zAh
 have hl' := hl.1
 refine fg H55 fun E hE hH => ?_; simp only [go_sem, hE, hH, C55]
 repeat' (first | ((with_reducible apply ga) <;> refine gs fun h => ?_) | ((with_reducible apply an); · omega) | ((first | refine zAa ?_ | refine cvA (zEv l hl) ?_); refine st ?_) | (with_reducible first | apply jn | apply both | apply an | exact ti) | exact fj | refine st ?_ | exact fm | refine s1 ?_)
 all_goals (first | (simp_all [zDU]; done) | (simp_all [zDU] <;> first | omega | (intros; omega)))
theorem zSJ (l : List ByteArray) (hl : zBN (fun s => s.size ≤ maxLen) l) : ACall p_ 45 [.sl false 1 (strs l)] (fun r _ => r = bl (zDU l)) := by
 obtain ⟨hl, hx⟩ := hl
 have hmx := zAh
 refine fg H45 fun E hE hH => ?_; simp only [go_sem, hE, hH, C45]
 refine zAK l.length (fun j (_ : Unit) => ⟨[(0, .sl false 1 (strs l)), (5, .sl false 1 (strs l)), (6, i64 l.length), (7, i64 j)], []⟩) (fun j _ => zAD (fun i => zBm (nth l i) && (decide (i = 0) || zAg (nth l (i - 1)) (nth l i))) j = true) () rfl ?_
 intro j _ hj hI
 try simp only [go_sem, hE, hH, zUf]
 first | refine zAe (fun h => ?_) (fun h => ?_) | refine zAf (fun h => ?_) (fun h => ?_)
 ·have hb := h
  simp only [nf] at h
  have hlt := h; clear h
  have hs := hx _ (zAc hlt)
  try refine sb ?_; try exact ⟨⟩
  repeat' (first | ((with_reducible apply ga) <;> refine gs fun h => ?_) | ((with_reducible apply an); · omega) | ((first | refine zAa ?_ | refine cvA (zId _ (by assumption)) ?_); refine st ?_) | refine jn _ ?_ ?_ | (with_reducible first | apply both | apply an | exact ti) | exact fe | refine st ?_ | exact fm | refine s1 ?_)
  ·rw [zDU, zBO, zBh hlt (by simp_all), Bool.and_false]
  ·rw [zDU, zBO, zBh hlt (by simp_all <;> omega), Bool.and_false]
  ·exact ⟨(), rfl, zAl hI (by simp_all)⟩
  ·exact ⟨(), rfl, zAl hI (by simp_all <;> omega)⟩
 ·try simp (disch := omega) only [go_sem, hE, hH, h]
  simp only [nf] at h
  rw [show j = l.length by omega] at hI
  repeat' (first | ((with_reducible apply ga) <;> refine gs fun h => ?_) | ((with_reducible apply an); · omega) | refine jn _ ?_ ?_ | (with_reducible first | apply both | apply an | exact ti) | exact fe | refine st ?_ | exact fm | refine s1 ?_)
  all_goals (rw [zDU, zBO, hI]; simp)
end Go.Proofs.Wb

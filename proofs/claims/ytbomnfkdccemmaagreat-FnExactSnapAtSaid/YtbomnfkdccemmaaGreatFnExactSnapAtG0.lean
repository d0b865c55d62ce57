import Derived.Test.YtbomnfkdccemmaaGreatFnExactSnapAtM0
import Derived.Laws.Externs
set_option linter.all false
set_option maxHeartbeats 4000000
namespace Go.Proofs.Wb
open Tryz renaming prog → p_
open Go Go.Am
open Go.Proofs.Wb renaming H280 → z0_, zOO → z1_, Cell.row → z3_, zLd → z5_ in
open Go.Am renaming k2_ → z2_, str → z4_ in
theorem zGp (l : List Cell) (key : ByteArray) (f : Nat) (caps : List T) (c : Cell → Int) (hent : zBT p_ f = true) (hcap : caps.all T.cap = true) (hl : l.length ≤ 2 ^ 60) (hm : ∀ i j, i < j → j < l.length → 0 ≤ c (nth l i) → 0 ≤ c (nth l j)) (hp : ∀ x, x ∈ l → ACall p_ f ([.agg (Cell.row false x), str key] ++ caps) (fun r _ => r = i64 (c x))) :
  ACall p_ 280 [.sl false 2 (l.map (Cell.row false)), str key, .fn f caps] (fun r _ => r = .tup [i64 (bsI c l), bl (bsF c l)]) := zTY
open Go.Proofs.Wb renaming H243 → z0_, zOO → z1_, Held.row → z3_, zLd → z5_ in
open Go.Am renaming k5_ → z2_, i64 → z4_ in
theorem zGq (l : List Held) (key : Int) (f : Nat) (caps : List T) (c : Held → Int) (hent : zBT p_ f = true) (hcap : caps.all T.cap = true) (hl : l.length ≤ 2 ^ 60) (hm : ∀ i j, i < j → j < l.length → 0 ≤ c (nth l i) → 0 ≤ c (nth l j)) (hp : ∀ x, x ∈ l → ACall p_ f ([.agg (Held.row false x), i64 key] ++ caps) (fun r _ => r = i64 (c x))) :
  ACall p_ 243 [.sl false 5 (l.map (Held.row false)), i64 key, .fn f caps] (fun r _ => r = .tup [i64 (bsI c l), bl (bsF c l)]) := zTY
open Go.Proofs.Wb renaming H237 → z0_, zOM → z1_, Told.row → z3_, zLc → z5_ in
open Go.Am renaming k3_ → z2_, i64 → z4_ in
theorem zGr (l : List Told) (key : Int) (f : Nat) (caps : List T) (c : Told → Int) (hent : zBT p_ f = true) (hcap : caps.all T.cap = true) (hl : l.length ≤ 2 ^ 60) (hm : ∀ i j, i < j → j < l.length → 0 ≤ c (nth l i) → 0 ≤ c (nth l j)) (hp : ∀ x, x ∈ l → ACall p_ f ([.agg (Told.row false x), i64 key] ++ caps) (fun r _ => r = i64 (c x))) :
  ACall p_ 237 [.sl false 3 (l.map (Told.row false)), i64 key, .fn f caps] (fun r _ => r = .tup [i64 (bsI c l), bl (bsF c l)]) := zTY
open Go.Proofs.Wb renaming H171 → z0_, zOM → z1_, Write.row → z3_, zLc → z5_ in
open Go.Am renaming k3_ → z2_, str → z4_ in
theorem zFQ (l : List Write) (key : ByteArray) (f : Nat) (caps : List T) (c : Write → Int) (hent : zBT p_ f = true) (hcap : caps.all T.cap = true) (hl : l.length ≤ 2 ^ 60) (hm : ∀ i j, i < j → j < l.length → 0 ≤ c (nth l i) → 0 ≤ c (nth l j)) (hp : ∀ x, x ∈ l → ACall p_ f ([.agg (Write.row false x), str key] ++ caps) (fun r _ => r = i64 (c x))) :
  ACall p_ 171 [.sl false 3 (l.map (Write.row false)), str key, .fn f caps] (fun r _ => r = .tup [i64 (bsI c l), bl (bsF c l)]) := zTY
open Go.Proofs.Wb renaming H263 → z0_, zFh → z1_ in
theorem zOr (l : List Cell) (hl : l.length ≤ 2 ^ 20) : ACall p_ 263 [.sl false 2 (l.map (Cell.row false))] (fun r _ => r = .sl true 2 (l.map (Cell.row false))) := zNp
open Go.Proofs.Wb renaming H249 → z0_, zFh → z1_ in
theorem zOs (l : List Held) (hl : l.length ≤ 2 ^ 20) : ACall p_ 249 [.sl false 5 (l.map (Held.row false))] (fun r _ => r = .sl true 5 (l.map (Held.row false))) := zNp
open Go.Proofs.Wb renaming H235 → z0_, zFh → z1_ in
theorem zOt (l : List Told) (hl : l.length ≤ 2 ^ 20) : ACall p_ 235 [.sl false 3 (l.map (Told.row false))] (fun r _ => r = .sl true 3 (l.map (Told.row false))) := zNp
open Go.Proofs.Wb renaming H264 → z0_, zFh → z1_ in
theorem zPQ (l : List Ver) (hl : l.length ≤ 2 ^ 20) : ACall p_ 264 [.sl false 3 (l.map (Ver.row false))] (fun r _ => r = .sl true 3 (l.map (Ver.row false))) := zNp
open Go.Proofs.Wb renaming H253 → z0_, zFh → z1_ in
theorem zM6 (l : List Write) (hl : l.length ≤ 2 ^ 20) : ACall p_ 253 [.sl false 3 (l.map (Write.row false))] (fun r _ => r = .sl true 3 (l.map (Write.row false))) := zNp
open Go.Proofs.Wb renaming H252 → z0_, C252 → z1_ in
theorem zL3 (l : List ByteArray) (hl : l.length ≤ 2 ^ 20) : ACall p_ 252 [.sl false 1 (strs l)] (fun r _ => r = .sl true 1 (strs l)) := zNp
theorem zJw (l : List (List Value)) (i j : Int) (hi : 0 ≤ i) (hij : i ≤ j) (hj : j ≤ l.length) (hl : l.length ≤ maxLen) (hk : ∀ r ∈ l, r.length = 5) (ho : ∀ r ∈ l, (zAm r).all T.storable = true) : ACall p_ 241 [.sl true 5 (l.map (zAm)), i64 i, i64 j] (fun r a => r = .sl true 5 ((l.take i.toNat ++ l.drop j.toNat).map (zAm)) ∧ a = [.any, i64 i, i64 j]) := by
 have hmx := zAf
 have hij' : i.toNat ≤ j.toNat := by omega
 have hj' : j.toNat ≤ l.length := by omega
 have e1 := zIa (f := zAm) hij' hj'
 have e2 := fun z => zWc (f := zAm) (z := z) hij' hj'
 have e3 := fun Z => zWd (f := zAm) (Z := Z) hij' hj'
 refine zJo [true, false, false] (hqA H241) (hqB H241) ⟨by simp only [go_sem], fun E hE hH => ?_⟩; simp only [go_sem] at hE hH; simp only [go_sem, hE, hH, C241]
 repeat' (first | ((with_reducible first | refine zAg ?_ ?_ | refine zAh ?_ ?_) <;> (intro h; have hb := h; (try simp only [nf] at h); simp (disch := omega) only [go_sem, hE, hH, e1, e2, e3, Option.isSome_some, hb]; (try clear hb))) | ((with_reducible refine And.intro ?_ ?_); · omega) | (refine jn _ ?_ ?_) | (with_reducible refine both ?_ ?_) | (with_reducible refine And.intro ?_ ?_) | (refine zBb ?_; (try (simp (disch := omega) only [go_sem, hE, hH, e1, e2, e3, Option.isSome_some])); first | done | rfl) | (simp (disch := omega) only [go_sem, hE, hH, e1, e2, e3, Option.isSome_some]) | ((first | apply zAC | apply zA9) <;> (simp only [go_sem, hE, hH, e1, e2, e3, Option.isSome_some]; done)) | (simp only [go_sem, hE, hH, e1, e2, e3, Option.isSome_some]) | fail)
 all_goals try (rw [List.all_eq_true]; intro x hx; exact ho x (List.mem_of_mem_drop (List.mem_of_mem_take hx)))
 ·subst h
  rw [List.take_append_drop]
 ·rw [List.length_take, List.length_drop]; omega
theorem zM7 (l : List Held) (i j : Int) (hi : 0 ≤ i) (hij : i ≤ j) (hj : j ≤ l.length) (hl : l.length ≤ maxLen) : ACall p_ 241 [.sl true 5 (l.map (Held.row true)), i64 i, i64 j] (fun r a => r = .sl true 5 ((l.take i.toNat ++ l.drop j.toNat).map (Held.row true)) ∧ a = [.any, i64 i, i64 j]) := by
 have h := zWy (P := p_) (f := 241) (k := 5) (rows := l.map (Held.row true)) (i := i) (j := j) (by rw [List.all_map, List.all_eq_true]; intro x _; rfl) (fun raws h1 h2 h3 => zJw raws i j hi hij (by rw [h1, List.length_map]; exact hj) (by rw [h1, List.length_map]; exact hl) h2 h3) (by omega)
 rw [← List.map_take, ← List.map_drop, ← List.map_append] at h
 exact h
open Go.Proofs.Wb renaming H126 → z0_, zFg → z1_, Clock.row → z3_, zEO → z4_ in
open Go.Am renaming k1_ → z2_ in
theorem zJx (l : List Clock) (f : Nat) (caps : List T) (p : Clock → Bool) (hent : zBT p_ f = true) (hcap : caps.all T.cap = true) (hl : l.length ≤ maxLen) (hp : ∀ x, x ∈ l → ACall p_ f ([.agg (Clock.row false x)] ++ caps) (fun r _ => r = bl (p x))) :
  ACall p_ 126 [.sl false 1 (l.map (Clock.row false)), .fn f caps] (fun r _ => r = i64 (ixf p l)) := zIC
open Go.Proofs.Wb renaming H191 → z0_, zFg → z1_, Got.row → z3_, zEO → z4_ in
open Go.Am renaming k3_ → z2_ in
theorem zLg (l : List Got) (f : Nat) (caps : List T) (p : Got → Bool) (hent : zBT p_ f = true) (hcap : caps.all T.cap = true) (hl : l.length ≤ maxLen) (hp : ∀ x, x ∈ l → ACall p_ f ([.agg (Got.row false x)] ++ caps) (fun r _ => r = bl (p x))) :
  ACall p_ 191 [.sl false 3 (l.map (Got.row false)), .fn f caps] (fun r _ => r = i64 (ixf p l)) := zIC
open Go.Proofs.Wb renaming H273 → z0_, zGR → z1_, Held.row → z3_, zGm → z4_ in
open Go.Am renaming k5_ → z2_ in
theorem zKg (l : List Held) (f : Nat) (caps : List T) (p : Held → Bool) (hent : zBT p_ f = true) (hcap : caps.all T.cap = true) (hl : l.length ≤ maxLen) (hp : ∀ x, x ∈ l → ACall p_ f ([.agg (Held.row false x)] ++ caps) (fun r _ => r = bl (p x))) :
  ACall p_ 273 [.sl false 5 (l.map (Held.row false)), .fn f caps] (fun r _ => r = i64 (ixf p l)) := zIC
open Go.Proofs.Wb renaming H165 → z0_, zFg → z1_, Lock.row → z3_, zEO → z4_ in
open Go.Am renaming k3_ → z2_ in
theorem zKh (l : List Lock) (f : Nat) (caps : List T) (p : Lock → Bool) (hent : zBT p_ f = true) (hcap : caps.all T.cap = true) (hl : l.length ≤ maxLen) (hp : ∀ x, x ∈ l → ACall p_ f ([.agg (Lock.row false x)] ++ caps) (fun r _ => r = bl (p x))) :
  ACall p_ 165 [.sl false 3 (l.map (Lock.row false)), .fn f caps] (fun r _ => r = i64 (ixf p l)) := zIC
open Go.Proofs.Wb renaming H213 → z0_, zFg → z1_, Op.row → z3_, zEO → z4_ in
open Go.Am renaming k4_ → z2_ in
theorem zL4 (l : List Op) (f : Nat) (caps : List T) (p : Op → Bool) (hent : zBT p_ f = true) (hcap : caps.all T.cap = true) (hl : l.length ≤ maxLen) (hp : ∀ x, x ∈ l → ACall p_ f ([.agg (Op.row false x)] ++ caps) (fun r _ => r = bl (p x))) :
  ACall p_ 213 [.sl false 4 (l.map (Op.row false)), .fn f caps] (fun r _ => r = i64 (ixf p l)) := zIC
open Go.Proofs.Wb renaming H162 → z0_, zGR → z1_, Replica.row → z3_, zGm → z4_ in
open Go.Am renaming k3_ → z2_ in
theorem zIn (l : List Replica) (f : Nat) (caps : List T) (p : Replica → Bool) (hent : zBT p_ f = true) (hcap : caps.all T.cap = true) (hl : l.length ≤ maxLen) (hp : ∀ x, x ∈ l → ACall p_ f ([.agg (Replica.row false x)] ++ caps) (fun r _ => r = bl (p x))) :
  ACall p_ 162 [.sl false 3 (l.map (Replica.row false)), .fn f caps] (fun r _ => r = i64 (ixf p l)) := zIC
open Go.Proofs.Wb renaming H133 → z0_, zGR → z1_, WorldLook.row → z3_, zGm → z4_ in
open Go.Am renaming k6_ → z2_ in
theorem zHn (l : List WorldLook) (f : Nat) (caps : List T) (p : WorldLook → Bool) (hent : zBT p_ f = true) (hcap : caps.all T.cap = true) (hl : l.length ≤ maxLen) (hp : ∀ x, x ∈ l → ACall p_ f ([.agg (WorldLook.row false x)] ++ caps) (fun r _ => r = bl (p x))) :
  ACall p_ 133 [.sl false 6 (l.map (WorldLook.row false)), .fn f caps] (fun r _ => r = i64 (ixf p l)) := zIC
open Go.Proofs.Wb renaming H127 → z0_, zGR → z1_, WorldTxn.row → z3_, zGm → z4_ in
open Go.Am renaming zTX → z2_ in
theorem zHM (l : List WorldTxn) (f : Nat) (caps : List T) (p : WorldTxn → Bool) (hent : zBT p_ f = true) (hcap : caps.all T.cap = true) (hl : l.length ≤ maxLen) (hp : ∀ x, x ∈ l → ACall p_ f ([.agg (WorldTxn.row false x)] ++ caps) (fun r _ => r = bl (p x))) :
  ACall p_ 127 [.sl false 10 (l.map (WorldTxn.row false)), .fn f caps] (fun r _ => r = i64 (ixf p l)) := zIC
open Go.Proofs.Wb renaming H176 → z0_, zFg → z1_, Write.row → z3_, zEO → z4_ in
open Go.Am renaming k3_ → z2_ in
theorem zJy (l : List Write) (f : Nat) (caps : List T) (p : Write → Bool) (hent : zBT p_ f = true) (hcap : caps.all T.cap = true) (hl : l.length ≤ maxLen) (hp : ∀ x, x ∈ l → ACall p_ f ([.agg (Write.row false x)] ++ caps) (fun r _ => r = bl (p x))) :
  ACall p_ 176 [.sl false 3 (l.map (Write.row false)), .fn f caps] (fun r _ => r = i64 (ixf p l)) := zIC
theorem zLh (l : List Int) (f : Nat) (caps : List T) (p : Int → Bool) (hent : zBT p_ f = true) (hcap : caps.all T.cap = true) (hl : l.length ≤ maxLen) (hp : ∀ x, x ∈ l → ACall p_ f ([i64 x] ++ caps) (fun r _ => r = bl (p x))) :
  ACall p_ 169 [.sl false 1 (ints l), .fn f caps] (fun r _ => r = i64 (ixf p l)) := by
 have hmx := zAf
 refine zLN (hqA zZ2) (hqB zZ2) ⟨by simp only [go_sem, zAx hcap, zAJ hcap, zAA hcap, zAN hcap, zAB hcap], fun E hE hH => ?_⟩; simp only [go_sem, zAx hcap, zAJ hcap, zAA hcap, zAN hcap, zAB hcap] at hE hH; simp only [go_sem, hE, hH, zAx hcap, zAJ hcap, zAA hcap, zAN hcap, zAB hcap, zZ1]
 refine zAu l.length (fun j (_ : Unit) => ⟨[(0, .sl false 1 (ints l)), (1, .fn f caps), (7, i64 l.length), (8, i64 j)], []⟩) (fun j _ => zAt (fun i => !p (nth l i)) j = true) () rfl ?_
 intro j _ hj hI
 try simp only [go_sem, hE, hH, zAx hcap, zAJ hcap, zAA hcap, zAN hcap, zAB hcap, zRD]
 first | refine zAg (fun h => ?_) (fun h => ?_) | refine zAh (fun h => ?_) (fun h => ?_)
 ·have hb := h
  simp only [nf] at h
  have hlt := h; clear h
  try simp (disch := omega) only [go_sem, hE, hH, zAx hcap, zAJ hcap, zAA hcap, zAN hcap, zAB hcap, hb]
  refine And.intro (by omega) ?_
  refine zLO rfl rfl rfl (hent) (hcap) (hp _ (zAd hlt)) ?_
  try simp (disch := omega) only [go_sem, hE, hH, zAx hcap, zAJ hcap, zAA hcap, zAN hcap, zAB hcap]
  repeat' (first | ((with_reducible apply ga) <;> refine zXi fun h => ?_) | ((with_reducible apply an); · omega) | refine jn _ ?_ ?_ | (with_reducible first | apply both | apply an | exact ti) | exact zXk | refine zXh ?_ | exact zXl | refine zXj ?_)
  ·rw [zLR hlt hI h]
  ·exact ⟨(), rfl, zAc hI (by simp [h])⟩
 ·try simp (disch := omega) only [go_sem, hE, hH, zAx hcap, zAJ hcap, zAA hcap, zAN hcap, zAB hcap, h]
  simp only [nf] at h
  rw [show j = l.length by omega] at hI
  rw [zK9 hI]
theorem zL5 (l : List ByteArray) (v : ByteArray) (hl : l.length ≤ maxLen) : ACall p_ 293 [.sl false 1 (strs l), str v] (fun r _ => r = i64 (ixf (fun x => decide (v = x)) l)) := by
 have hmx := zAf
 refine fg H293 fun E hE hH => ?_; simp only [go_sem, hE, hH, C293]
 refine zAu l.length (fun j (_ : Unit) => ⟨[(0, .sl false 1 (strs l)), (1, str v), (7, i64 l.length), (8, i64 j)], []⟩) (fun j _ => zAt (fun i => !decide (v = nth l i)) j = true) () rfl ?_
 intro j _ hj hI
 try simp only [go_sem, hE, hH, zR6]
 first | refine zAg (fun h => ?_) (fun h => ?_) | refine zAh (fun h => ?_) (fun h => ?_)
 ·have hb := h
  simp only [nf] at h
  have hlt := h; clear h
  try refine sb ?_; try exact ⟨⟩
  refine And.intro (by omega) ?_
  repeat' (first | ((with_reducible apply ga) <;> refine gs fun h => ?_) | ((with_reducible apply an); · omega) | refine jn _ ?_ ?_ | (with_reducible first | apply both | apply an | exact ti) | exact fe | refine st ?_ | exact fm | refine s1 ?_)
  ·rw [zLR (p := fun x => decide (v = x)) hlt hI (by simp [h])]
  ·exact ⟨(), rfl, zAc hI (by simp [h])⟩
 ·try simp (disch := omega) only [go_sem, hE, hH, h]
  simp only [nf] at h
  rw [show j = l.length by omega] at hI
  rw [zK9 (p := fun x => decide (v = x)) hI]
theorem zJz (l v : List (List Value)) (i : Int) (hi : 0 ≤ i) (hin : i ≤ l.length) (hl : l.length ≤ 2 ^ 20) (hk : ∀ r ∈ l, r.length = 2) (ho : ∀ r ∈ l, (zAm r).all T.storable = true) (hkv : ∀ r ∈ v, r.length = 2) (hov : ∀ r ∈ v, (zAm r).all T.storable = true) (hv : v.length ≤ 2 ^ 20) : ACall p_ 269 [.sl true 2 (l.map (zAm)), i64 i, .sl false 2 (v.map (zAm))] (fun r a => r = .sl true 2 ((l.take i.toNat ++ v ++ l.drop i.toNat).map (zAm)) ∧ a = [.any, i64 i, .sl false 2 (v.map (zAm))]) := by
 have hmx := zAf
 refine zPz [true, false, false] 0 2 (l.map (zAm)) (hqA H269) (hqB H269) (by simp only [go_sem, List.mem_cons, true_or, or_true]) (by simp only [go_sem]) ⟨by simp only [go_sem], fun E hE hH c hc hF => ?_⟩; simp only [go_sem] at hE hH hc hF; simp only [go_sem, hE, hH, C269]
 have e0 : l.length + (c - l.length) = c := by omega
 have hn : i.toNat ≤ l.length := by omega
 have t1 : ((l.length : Int) + v.length - i).toNat = l.length + v.length - i.toNat := by omega
 have t2 : (i + (v.length : Int)).toNat = i.toNat + v.length := by omega
 have t3 : ((l.length : Int) + v.length).toNat = l.length + v.length := by omega
 have t4 : i.toNat + (l.length + v.length - i.toNat) = l.length + v.length := by omega
 have t5 : l.length + v.length - (i.toNat + v.length) = l.length - i.toNat := by omega
 have t6 : min (l.length - i.toNat) (l.length + v.length - i.toNat) = l.length - i.toNat := by omega
 have t7 : i.toNat + (l.length - i.toNat) = l.length := by omega
 have a1 := zD1 (f := zAm) (l := l) (G := List.replicate (c - l.length) (zBx 2)) (Nat.le_refl l.length)
 have a2 := zD1 (f := zAm) (l := l) (G := List.replicate (c - l.length) (zBx 2)) hn
 have a3 := zMH (f := zAm) (l := l) (G := List.replicate (c - l.length) (zBx 2)) hn
 have a4 : v.take (l.length + v.length - i.toNat) = v := List.take_of_length_le (by omega)
 have b1 := fun z => zEL (f := zAm) (g := fun x => (zAm) x) (v := v) (z := z) hn
 have b2 := fun z => zKY (f := zAm) (g := fun x => (zAm) x) (v := v) (z := z) hn
 have b3 := fun z => zJj (f := zAm) (v := v) (z := z) hn
 have b4 := zMI (f := zAm) (v := v) (l := l)
 have d1 := fun z hc => zGi (f := zAm) (m := v.length) (c := c) (z := z) hn hc
 have d2 := fun z hc => zKZ (f := zAm) (g := fun x => (zAm) x) (v := v) (c := c) (z := z) hn hc
 have d3 := fun z hc => zK0 (f := zAm) (v := v) (c := c) (z := z) hn hc
 have t8 : min (l.length + v.length - i.toNat) v.length = v.length := by omega
 have t9 : i.toNat + v.length + (l.length - i.toNat) = l.length + v.length := by omega
 simp only [go_sem] at a1 a2 a3 b1 b2 b3 b4 d1 d2 d3
 have s1 : ((v.map zAm).all fun r => r.all T.storable) = true := by rw [List.all_map, List.all_eq_true]; intro x hx; exact hov x hx
 have s2 : ((l.map zAm).all fun r => r.all T.storable) = true := by rw [List.all_map, List.all_eq_true]; intro x hx; exact ho x hx
 have s3 : (((l.take i.toNat).map zAm).all fun r => r.all T.storable) = true := by rw [List.all_map, List.all_eq_true]; intro x hx; exact ho x (List.mem_of_mem_take hx)
 have s4 : (((l.drop i.toNat).map zAm).all fun r => r.all T.storable) = true := by rw [List.all_map, List.all_eq_true]; intro x hx; exact ho x (List.mem_of_mem_drop hx)
 simp only [go_sem] at s1 s2 s3 s4
 all_goals (have y1_ := s1; have y2_ := s2; have y3_ := s3; have y4_ := s4; have y5_ := e0; have y6_ := t1; have y7_ := t2; have y8_ := t3; have y9_ := t4; have y10_ := t5; have y11_ := t6; have y12_ := t7; have y13_ := t8; have y14_ := t9; have y15_ := d1; have y16_ := d2; have y17_ := d3; have y18_ := a1; have y19_ := a2; have y20_ := a3; have y21_ := a4; have y22_ := b1; have y23_ := b2; have y24_ := b3; have y25_ := b4; repeat' (first | ((with_reducible apply ga) <;> refine zTO fun h => ?_) | ((with_reducible apply an); · omega) | refine jn _ ?_ ?_ | (with_reducible first | apply both | apply an | exact ti) | exact zTQ | refine zTN ?_ | exact zTR | refine zTP ?_))
 all_goals try (refine zPn rfl rfl rfl zEY zEF zEX (by decide) (by simp only [List.length_map]; omega) (by simp only [go_sem]; omega) ?_)
 all_goals (have y1_ := s1; have y2_ := s2; have y3_ := s3; have y4_ := s4; have y5_ := e0; have y6_ := t1; have y7_ := t2; have y8_ := t3; have y9_ := t4; have y10_ := t5; have y11_ := t6; have y12_ := t7; have y13_ := t8; have y14_ := t9; have y15_ := d1; have y16_ := d2; have y17_ := d3; have y18_ := a1; have y19_ := a2; have y20_ := a3; have y21_ := a4; have y22_ := b1; have y23_ := b2; have y24_ := b3; have y25_ := b4; repeat' (first | ((with_reducible apply ga) <;> refine zTO fun h => ?_) | ((with_reducible apply an); · omega) | refine jn _ ?_ ?_ | (with_reducible first | apply both | apply an | exact ti) | exact zTQ | refine zTN ?_ | exact zTR | refine zTP ?_))
 all_goals try (rw [List.all_eq_true]; intro x hx; first | exact ho x (List.mem_of_mem_drop (List.mem_of_mem_take hx)) | exact ho x (List.mem_of_mem_drop hx) | exact ho x (List.mem_of_mem_take hx) | exact ho x hx | exact hov x hx)
 ·have e : v = [] := List.length_eq_zero_iff.1 (by omega)
  subst e
  rw [List.append_nil, List.take_append_drop]
 ·have e : i.toNat = l.length := by omega
  rw [e, List.take_length, List.drop_length, List.append_nil, List.map_append]
  try rfl
 all_goals omega
theorem zM8 (l : List Cell) (x : Cell) (i : Int) (hi : 0 ≤ i) (hin : i ≤ l.length) (hl : l.length ≤ 2 ^ 20) : ACall p_ 269 [.sl true 2 (l.map (Cell.row true)), i64 i, .sl true 2 [Cell.row true x]] (fun r a => r = .sl true 2 ((putAt l i.toNat x).map (Cell.row true)) ∧ a = [.any, i64 i, .any]) := by
 have h := zPG (P := p_) (f := 269) (k := 2) (rows := l.map (Cell.row true)) (row := Cell.row true x) (i := i) (by rw [List.length_map]; omega) (by rw [List.all_map, List.all_eq_true]; intro x _; rfl) rfl (fun raws rv h1 h2 h3 h4 h5 => by have q := zJz raws [rv] i hi (by rw [h1, List.length_map]; exact hin) (by rw [h1, List.length_map]; exact hl) h2 h4 (fun r hr => by rw [List.mem_singleton.1 hr]; exact h3) (fun r hr => by rw [List.mem_singleton.1 hr]; exact h5) (by simp); rw [List.append_assoc] at q; exact q)
 rw [← List.map_take, ← List.map_drop] at h
 unfold putAt
 rw [List.map_append, List.map_cons]
 exact h
theorem zJA (l v : List (List Value)) (i : Int) (hi : 0 ≤ i) (hin : i ≤ l.length) (hl : l.length ≤ 2 ^ 20) (hk : ∀ r ∈ l, r.length = 5) (ho : ∀ r ∈ l, (zAm r).all T.storable = true) (hkv : ∀ r ∈ v, r.length = 5) (hov : ∀ r ∈ v, (zAm r).all T.storable = true) (hv : v.length ≤ 2 ^ 20) : ACall p_ 222 [.sl true 5 (l.map (zAm)), i64 i, .sl false 5 (v.map (zAm))] (fun r a => r = .sl true 5 ((l.take i.toNat ++ v ++ l.drop i.toNat).map (zAm)) ∧ a = [.any, i64 i, .sl false 5 (v.map (zAm))]) := by
 have hmx := zAf
 refine zPz [true, false, false] 0 5 (l.map (zAm)) (hqA H222) (hqB H222) (by simp only [go_sem, List.mem_cons, true_or, or_true]) (by simp only [go_sem]) ⟨by simp only [go_sem], fun E hE hH c hc hF => ?_⟩; simp only [go_sem] at hE hH hc hF; simp only [go_sem, hE, hH, C222]
 have e0 : l.length + (c - l.length) = c := by omega
 have hn : i.toNat ≤ l.length := by omega
 have t1 : ((l.length : Int) + v.length - i).toNat = l.length + v.length - i.toNat := by omega
 have t2 : (i + (v.length : Int)).toNat = i.toNat + v.length := by omega
 have t3 : ((l.length : Int) + v.length).toNat = l.length + v.length := by omega
 have t4 : i.toNat + (l.length + v.length - i.toNat) = l.length + v.length := by omega
 have t5 : l.length + v.length - (i.toNat + v.length) = l.length - i.toNat := by omega
 have t6 : min (l.length - i.toNat) (l.length + v.length - i.toNat) = l.length - i.toNat := by omega
 have t7 : i.toNat + (l.length - i.toNat) = l.length := by omega
 have a1 := zD1 (f := zAm) (l := l) (G := List.replicate (c - l.length) (zBx 5)) (Nat.le_refl l.length)
 have a2 := zD1 (f := zAm) (l := l) (G := List.replicate (c - l.length) (zBx 5)) hn
 have a3 := zMH (f := zAm) (l := l) (G := List.replicate (c - l.length) (zBx 5)) hn
 have a4 : v.take (l.length + v.length - i.toNat) = v := List.take_of_length_le (by omega)
 have b1 := fun z => zEL (f := zAm) (g := fun x => (zAm) x) (v := v) (z := z) hn
 have b2 := fun z => zKY (f := zAm) (g := fun x => (zAm) x) (v := v) (z := z) hn
 have b3 := fun z => zJj (f := zAm) (v := v) (z := z) hn
 have b4 := zMI (f := zAm) (v := v) (l := l)
 have d1 := fun z hc => zGi (f := zAm) (m := v.length) (c := c) (z := z) hn hc
 have d2 := fun z hc => zKZ (f := zAm) (g := fun x => (zAm) x) (v := v) (c := c) (z := z) hn hc
 have d3 := fun z hc => zK0 (f := zAm) (v := v) (c := c) (z := z) hn hc
 have t8 : min (l.length + v.length - i.toNat) v.length = v.length := by omega
 have t9 : i.toNat + v.length + (l.length - i.toNat) = l.length + v.length := by omega
 simp only [go_sem] at a1 a2 a3 b1 b2 b3 b4 d1 d2 d3
 have s1 : ((v.map zAm).all fun r => r.all T.storable) = true := by rw [List.all_map, List.all_eq_true]; intro x hx; exact hov x hx
 have s2 : ((l.map zAm).all fun r => r.all T.storable) = true := by rw [List.all_map, List.all_eq_true]; intro x hx; exact ho x hx
 have s3 : (((l.take i.toNat).map zAm).all fun r => r.all T.storable) = true := by rw [List.all_map, List.all_eq_true]; intro x hx; exact ho x (List.mem_of_mem_take hx)
 have s4 : (((l.drop i.toNat).map zAm).all fun r => r.all T.storable) = true := by rw [List.all_map, List.all_eq_true]; intro x hx; exact ho x (List.mem_of_mem_drop hx)
 simp only [go_sem] at s1 s2 s3 s4
 all_goals (have y1_ := s1; have y2_ := s2; have y3_ := s3; have y4_ := s4; have y5_ := e0; have y6_ := t1; have y7_ := t2; have y8_ := t3; have y9_ := t4; have y10_ := t5; have y11_ := t6; have y12_ := t7; have y13_ := t8; have y14_ := t9; have y15_ := d1; have y16_ := d2; have y17_ := d3; have y18_ := a1; have y19_ := a2; have y20_ := a3; have y21_ := a4; have y22_ := b1; have y23_ := b2; have y24_ := b3; have y25_ := b4; repeat' (first | ((with_reducible apply ga) <;> refine zTO fun h => ?_) | ((with_reducible apply an); · omega) | refine jn _ ?_ ?_ | (with_reducible first | apply both | apply an | exact ti) | exact zTQ | refine zTN ?_ | exact zTR | refine zTP ?_))
 all_goals try (refine zPn rfl rfl rfl zES zED zER (by decide) (by simp only [List.length_map]; omega) (by simp only [go_sem]; omega) ?_)
 all_goals (have y1_ := s1; have y2_ := s2; have y3_ := s3; have y4_ := s4; have y5_ := e0; have y6_ := t1; have y7_ := t2; have y8_ := t3; have y9_ := t4; have y10_ := t5; have y11_ := t6; have y12_ := t7; have y13_ := t8; have y14_ := t9; have y15_ := d1; have y16_ := d2; have y17_ := d3; have y18_ := a1; have y19_ := a2; have y20_ := a3; have y21_ := a4; have y22_ := b1; have y23_ := b2; have y24_ := b3; have y25_ := b4; repeat' (first | ((with_reducible apply ga) <;> refine zTO fun h => ?_) | ((with_reducible apply an); · omega) | refine jn _ ?_ ?_ | (with_reducible first | apply both | apply an | exact ti) | exact zTQ | refine zTN ?_ | exact zTR | refine zTP ?_))
 all_goals try (rw [List.all_eq_true]; intro x hx; first | exact ho x (List.mem_of_mem_drop (List.mem_of_mem_take hx)) | exact ho x (List.mem_of_mem_drop hx) | exact ho x (List.mem_of_mem_take hx) | exact ho x hx | exact hov x hx)
 ·have e : v = [] := List.length_eq_zero_iff.1 (by omega)
  subst e
  rw [List.append_nil, List.take_append_drop]
 ·have e : i.toNat = l.length := by omega
  rw [e, List.take_length, List.drop_length, List.append_nil, List.map_append]
  try rfl
 all_goals omega
theorem zM9 (l : List Held) (x : Held) (i : Int) (hi : 0 ≤ i) (hin : i ≤ l.length) (hl : l.length ≤ 2 ^ 20) : ACall p_ 222 [.sl true 5 (l.map (Held.row true)), i64 i, .sl true 5 [Held.row true x]] (fun r a => r = .sl true 5 ((putAt l i.toNat x).map (Held.row true)) ∧ a = [.any, i64 i, .any]) := by
 have h := zPG (P := p_) (f := 222) (k := 5) (rows := l.map (Held.row true)) (row := Held.row true x) (i := i) (by rw [List.length_map]; omega) (by rw [List.all_map, List.all_eq_true]; intro x _; rfl) rfl (fun raws rv h1 h2 h3 h4 h5 => by have q := zJA raws [rv] i hi (by rw [h1, List.length_map]; exact hin) (by rw [h1, List.length_map]; exact hl) h2 h4 (fun r hr => by rw [List.mem_singleton.1 hr]; exact h3) (fun r hr => by rw [List.mem_singleton.1 hr]; exact h5) (by simp); rw [List.append_assoc] at q; exact q)
 rw [← List.map_take, ← List.map_drop] at h
 unfold putAt
 rw [List.map_append, List.map_cons]
 exact h
open Go.Proofs.Wb renaming Told.row → z0_, H242 → z1_, C242 → z2_, zEV → z3_, zEE → z4_, zEU → z5_ in
theorem zNa (l v : List Told) (i : Int) (hi : 0 ≤ i) (hin : i ≤ l.length) (hl : l.length ≤ 2 ^ 20) (hv : v.length ≤ 2 ^ 20) : ACall p_ 242 [.sl true 3 (l.map (Told.row true)), i64 i, .sl false 3 (v.map (Told.row false))] (fun r a => r = .sl true 3 ((l.take i.toNat ++ v ++ l.drop i.toNat).map (Told.row true)) ∧ a = [.any, i64 i, .sl false 3 (v.map (Told.row false))]) := Q17_
open Go.Proofs.Wb renaming Write.row → z0_, H138 → z1_, zZH → z2_, zEC → z3_, zEm → z4_, zEB → z5_ in
theorem zL6 (l v : List Write) (i : Int) (hi : 0 ≤ i) (hin : i ≤ l.length) (hl : l.length ≤ 2 ^ 20) (hv : v.length ≤ 2 ^ 20) : ACall p_ 138 [.sl true 3 (l.map (Write.row true)), i64 i, .sl false 3 (v.map (Write.row false))] (fun r a => r = .sl true 3 ((l.take i.toNat ++ v ++ l.drop i.toNat).map (Write.row true)) ∧ a = [.any, i64 i, .sl false 3 (v.map (Write.row false))]) := Q17_
open Go.Proofs.Wb renaming H76 → z0_, zJx → z1_ in
theorem zHN (l : List Clock) (f : Nat) (caps : List T) (p : Clock → Bool) (hent : zBT p_ f = true) (hcap : caps.all T.cap = true) (hl : l.length ≤ maxLen) (hp : ∀ x, x ∈ l → ACall p_ f ([.agg (Clock.row false x)] ++ caps) (fun r _ => r = bl (p x))) :
  ACall p_ 76 [.sl false 1 (l.map (Clock.row false)), .fn f caps] (fun r _ => r = bl (l.any p)) := zHv
open Go.Proofs.Wb renaming H167 → z0_, zLg → z1_ in
theorem zIP (l : List Got) (f : Nat) (caps : List T) (p : Got → Bool) (hent : zBT p_ f = true) (hcap : caps.all T.cap = true) (hl : l.length ≤ maxLen) (hp : ∀ x, x ∈ l → ACall p_ f ([.agg (Got.row false x)] ++ caps) (fun r _ => r = bl (p x))) :
  ACall p_ 167 [.sl false 3 (l.map (Got.row false)), .fn f caps] (fun r _ => r = bl (l.any p)) := zHv
open Go.Proofs.Wb renaming H245 → z0_, zKg → z1_ in
theorem zIo (l : List Held) (f : Nat) (caps : List T) (p : Held → Bool) (hent : zBT p_ f = true) (hcap : caps.all T.cap = true) (hl : l.length ≤ maxLen) (hp : ∀ x, x ∈ l → ACall p_ f ([.agg (Held.row false x)] ++ caps) (fun r _ => r = bl (p x))) :
  ACall p_ 245 [.sl false 5 (l.map (Held.row false)), .fn f caps] (fun r _ => r = bl (l.any p)) := zHv
open Go.Proofs.Wb renaming H123 → z0_, zKh → z1_ in
theorem zIp (l : List Lock) (f : Nat) (caps : List T) (p : Lock → Bool) (hent : zBT p_ f = true) (hcap : caps.all T.cap = true) (hl : l.length ≤ maxLen) (hp : ∀ x, x ∈ l → ACall p_ f ([.agg (Lock.row false x)] ++ caps) (fun r _ => r = bl (p x))) :
  ACall p_ 123 [.sl false 3 (l.map (Lock.row false)), .fn f caps] (fun r _ => r = bl (l.any p)) := zHv
open Go.Proofs.Wb renaming H188 → z0_, zL4 → z1_ in
theorem zJB (l : List Op) (f : Nat) (caps : List T) (p : Op → Bool) (hent : zBT p_ f = true) (hcap : caps.all T.cap = true) (hl : l.length ≤ maxLen) (hp : ∀ x, x ∈ l → ACall p_ f ([.agg (Op.row false x)] ++ caps) (fun r _ => r = bl (p x))) :
  ACall p_ 188 [.sl false 4 (l.map (Op.row false)), .fn f caps] (fun r _ => r = bl (l.any p)) := zHv
open Go.Proofs.Wb renaming H119 → z0_, zIn → z1_ in
theorem zGD (l : List Replica) (f : Nat) (caps : List T) (p : Replica → Bool) (hent : zBT p_ f = true) (hcap : caps.all T.cap = true) (hl : l.length ≤ maxLen) (hp : ∀ x, x ∈ l → ACall p_ f ([.agg (Replica.row false x)] ++ caps) (fun r _ => r = bl (p x))) :
  ACall p_ 119 [.sl false 3 (l.map (Replica.row false)), .fn f caps] (fun r _ => r = bl (l.any p)) := zHv
open Go.Proofs.Wb renaming H82 → z0_, zHn → z1_ in
theorem zFR (l : List WorldLook) (f : Nat) (caps : List T) (p : WorldLook → Bool) (hent : zBT p_ f = true) (hcap : caps.all T.cap = true) (hl : l.length ≤ maxLen) (hp : ∀ x, x ∈ l → ACall p_ f ([.agg (WorldLook.row false x)] ++ caps) (fun r _ => r = bl (p x))) :
  ACall p_ 82 [.sl false 6 (l.map (WorldLook.row false)), .fn f caps] (fun r _ => r = bl (l.any p)) := zHv
open Go.Proofs.Wb renaming H79 → z0_, zHM → z1_ in
theorem zGs (l : List WorldTxn) (f : Nat) (caps : List T) (p : WorldTxn → Bool) (hent : zBT p_ f = true) (hcap : caps.all T.cap = true) (hl : l.length ≤ maxLen) (hp : ∀ x, x ∈ l → ACall p_ f ([.agg (WorldTxn.row false x)] ++ caps) (fun r _ => r = bl (p x))) :
  ACall p_ 79 [.sl false 10 (l.map (WorldTxn.row false)), .fn f caps] (fun r _ => r = bl (l.any p)) := zHv
open Go.Proofs.Wb renaming H140 → z0_, zJy → z1_ in
theorem zD5 (l : List Write) (f : Nat) (caps : List T) (p : Write → Bool) (hent : zBT p_ f = true) (hcap : caps.all T.cap = true) (hl : l.length ≤ maxLen) (hp : ∀ x, x ∈ l → ACall p_ f ([.agg (Write.row false x)] ++ caps) (fun r _ => r = bl (p x))) :
  ACall p_ 140 [.sl false 3 (l.map (Write.row false)), .fn f caps] (fun r _ => r = bl (l.any p)) := zHv
open Go.Proofs.Wb renaming H130 → z0_, zLh → z1_ in
theorem zIQ (l : List Int) (f : Nat) (caps : List T) (p : Int → Bool) (hent : zBT p_ f = true) (hcap : caps.all T.cap = true) (hl : l.length ≤ maxLen) (hp : ∀ x, x ∈ l → ACall p_ f ([i64 x] ++ caps) (fun r _ => r = bl (p x))) :
  ACall p_ 130 [.sl false 1 (ints l), .fn f caps] (fun r _ => r = bl (l.any p)) := zHv
theorem zJC (l : List ByteArray) (v : ByteArray) (hl : l.length ≤ maxLen) : ACall p_ 287 [.sl false 1 (strs l), str v] (fun r _ => r = bl (l.any fun x => decide (v = x))) := by
 refine fg H287 fun E hE hH => ?_; simp only [go_sem, hE, hH, zDB]
 repeat' (first | ((with_reducible apply ga) <;> refine gs fun h => ?_) | ((with_reducible apply an); · omega) | ((first | refine zAa ?_ | refine cvA (zL5 _ _ hl) ?_); refine st ?_) | refine jn _ ?_ ?_ | (with_reducible first | apply both | apply an | exact ti) | exact fe | refine st ?_ | exact fm | refine s1 ?_)
 rw [zJ6]
def bys (code : List Int) : List (List T) := code.map fun b => [.v (.int .u8 b)]
@[go_sem] theorem zAg2 (code : List Int) : bys code = code.map fun b => [.v (.int .u8 b)] := rfl
def rng (n lo hi : Int) : Bool := decide (lo ≤ n) && decide (n ≤ hi)
theorem zCn {n lo hi : Int} : rng n lo hi = true ↔ lo ≤ n ∧ n ≤ hi := by simp [rng]
theorem zPR {n lo hi : Int} : rng n lo hi = false ↔ ¬ (lo ≤ n ∧ n ≤ hi) := by rw [← zCn]; simp
open Go.Proofs.Wb renaming H75 → z0_, C75 → z1_ in
theorem zBl (n lo hi : Int) : ACall p_ 75 [i64 n, i64 lo, i64 hi] (fun r _ => r = bl (rng n lo hi)) := Q19_
open Go.Proofs.Wb renaming H62 → z0_, C62 → z1_ in
theorem zBB (n lo hi : Int) : ACall p_ 62 [i64 n, i64 lo, i64 hi] (fun r _ => r = bl (rng n lo hi)) := Q19_
def zLi (b : Int) : Bool := (decide (97 ≤ b) && decide (b ≤ 122)) || (decide (48 ≤ b) && decide (b ≤ 57))
def hasc (more : ByteArray) (b : Int) : Bool := !zAt (fun i => !decide (b = byt more i)) more.size
def hasB (s more : ByteArray) : Bool := zAt (fun i => zLi (byt s i) || hasc more (byt s i)) s.size
def zA2 (s : ByteArray) : Bool := rng s.size 1 12 && hasB s ⟨⟨[46, 47]⟩⟩
def zDf (s : ByteArray) : Bool := decide ((s.size : Int) ≤ 24) && hasB s ⟨⟨[46, 45, 44, 95]⟩⟩
theorem zTe (b : Int) : ACall p_ 211 [u8 b] (fun r _ => r = bl (zLi b)) := by
 refine fg H211 fun E hE hH => ?_; simp only [go_sem, hE, hH, C211]
 repeat' (first | ((with_reducible apply ga) <;> refine gs fun h => ?_) | ((with_reducible apply an); · omega) | refine jn _ ?_ ?_ | (with_reducible first | apply both | apply an | exact ti) | exact fe | refine st ?_ | exact fm | refine s1 ?_)
 all_goals (simp_all [zLi] <;> try omega)
theorem zWM (s : ByteArray) (c : UInt8) : decide (firstIdx s c < 0) = zAt (fun i => !decide ((c.toNat : Int) = byt s i)) s.size := by
 rw [Bool.eq_iff_iff, zAL, decide_eq_true_iff]
 have key : ∀ i, i < s.size → ((s[i]! == c) = true ↔ (c.toNat : Int) = byt s i) := by
  intro i hi
  have h1 : s[i]! = s.data.toList.getD i 0 := by
   rw [getElem!_pos s i hi]
   simp [ByteArray.getElem_eq_getElem_data, List.getD]
   rw [getElem?_pos _ _ (by simpa using hi)]
   simp
  rw [h1, byt, beq_iff_eq, ← UInt8.toNat_inj]
  omega
 unfold firstIdx
 cases hf : (List.range s.size).find? fun i => s[i]! == c with
 | some i =>
  dsimp only
  have h1 := List.find?_some hf
  have h2 : i < s.size := by simpa using List.mem_of_find?_eq_some hf
  constructor
  ·intro h; omega
  ·intro h
   have := h i h2
   rw [(key i h2).1 h1] at this
   simp at this
 | none =>
  dsimp only
  constructor
  ·intro _ i hi
   have := List.find?_eq_none.1 hf i (by simpa using hi)
   simp only [Bool.not_eq_true', decide_eq_false_iff_not]
   exact fun e => this ((key i hi).2 e)
  ·intro _; omega
theorem zYg (s : ByteArray) (c : Int) (w : Go.World) : (callFunc 262 #[.string s, .int .u8 c]).run p_ w = .ok (.value (.int .i64 (firstIdx s c.toNat.toUInt8))) w := by
 rw [run_callFunc_extern (e := Extern.BytealgIndexByte.indexByte) zDF (by kernel_rfl) (by kernel_rfl) (by kernel_rfl) (by kernel_rfl), run_indexByte_string]
 rfl
theorem zPS (s : ByteArray) (c : Int) : ACall p_ 233 [str s, u8 c] (fun r _ => r = i64 (firstIdx s c.toNat.toUInt8)) := by
 refine fg H233 fun E hE hH => ?_; simp only [go_sem, hE, hH, C233]
 refine zV2 (vs := [.string s, .int .u8 c]) rfl (zYg s c) ?_
 try simp only [go_sem, hE, hH]
open Go.Proofs.Wb renaming H212 → z0_, C212 → z1_, zPS → z2_ in
theorem zPT (s : ByteArray) (c : Int) : ACall p_ 212 [str s, u8 c] (fun r _ => r = i64 (firstIdx s c.toNat.toUInt8)) := zQt
theorem zKB (s more : ByteArray) (hs : s.size ≤ maxLen) : ACall p_ 186 [str s, str more] (fun r _ => r = bl (hasB s more)) := by
 have hm := zAf
 refine fg H186 fun E hE hH => ?_; simp only [go_sem, hE, hH, zZ8]
 refine zAu s.size (fun j (_ : Unit) => ⟨[(0, str s), (1, str more), (7, i64 s.size), (8, i64 j)], []⟩) (fun j _ => zAt (fun i => zLi (byt s i) || hasc more (byt s i)) j = true) () rfl ?_
 intro j _ hj hI
 try simp only [go_sem, hE, hH, zRE]
 first | refine zAg (fun h => ?_) (fun h => ?_) | refine zAh (fun h => ?_) (fun h => ?_)
 ·have hb := h
  simp only [nf] at h
  have hlt := h; clear h
  have hf : decide (firstIdx more (byt s j).toNat.toUInt8 < 0) = !hasc more (byt s j) := by
   rw [zWM, hasc, Bool.not_not]
   congr 1; funext i
   congr 2
   simp [byt]
  try refine sb ?_; try exact ⟨⟩
  repeat' (first | ((with_reducible apply ga) <;> refine gs fun h => ?_) | ((with_reducible apply an); · omega) | ((first | refine zAa ?_ | refine cvA (zTe _) ?_ | refine cvA (zPT _ _) ?_); refine st ?_) | refine jn _ ?_ ?_ | (with_reducible first | apply both | apply an | exact ti) | exact fe | refine st ?_ | exact fm | refine s1 ?_)
  ·rw [decide_eq_true h] at hf
   rw [hasB, zAF hlt (by simp_all)]
  ·rw [decide_eq_false (by omega)] at hf
   exact ⟨(), rfl, zAc hI (by simp_all)⟩
  ·exact ⟨(), rfl, zAc hI (by simp_all)⟩
 ·try simp (disch := omega) only [go_sem, hE, hH, h]
  simp only [nf] at h
  rw [show j = s.size by omega] at hI
  rw [hasB, hI]
theorem zL7 (s more : ByteArray) (hs : s.size ≤ maxLen) (hm : more.size ≤ maxLen) : ACall p_ 154 [str s, str more] (fun r _ => r = bl (hasB s more)) := by
 have hmx := zAf
 refine fg H154 fun E hE hH => ?_; simp only [go_sem, hE, hH, zZQ]
 refine zAu s.size (fun j (_ : Unit) => ⟨[(0, str s), (1, str more), (5, i64 j)], []⟩) (fun j _ => zAt (fun i => zLi (byt s i) || hasc more (byt s i)) j = true) () rfl ?_
 intro j _ hj hI
 try simp only [go_sem, hE, hH, zRC]
 first | refine zAg (fun h => ?_) (fun h => ?_) | refine zAh (fun h => ?_) (fun h => ?_)
 ·have hb := h
  simp only [nf] at h
  have hlt := h; clear h
  try refine sb ?_; try exact ⟨⟩
  repeat' (first | ((with_reducible apply ga) <;> refine gs fun h => ?_) | ((with_reducible apply an); · omega) | refine jn _ ?_ ?_ | (with_reducible first | apply both | apply an | exact ti) | exact fe | refine st ?_ | exact fm | refine s1 ?_)
  all_goals (
   refine zAR more.size (fun k (_ : Unit) => ⟨[(0, str s), (1, str more), (5, i64 j), (6, bl (zLi (byt s j) || !zAt (fun i => !decide (byt s j = byt more i)) k)), (7, i64 k)], []⟩) (fun _ _ => True) () ?_ trivial ?_
   ·simp_all [zLi, zAt]
    try omega
   intro k _ hk _
   try simp only [go_sem, hE, hH, zRB]
   first | refine zAg (fun h => ?_) (fun h => ?_) | refine zAh (fun h => ?_) (fun h => ?_)
   ·try simp (disch := omega) only [go_sem, hE, hH, h]
    simp only [nf] at h
    repeat' (first | ((with_reducible apply ga) <;> refine gs fun h => ?_) | ((with_reducible apply an); · omega) | refine jn _ ?_ ?_ | (with_reducible first | apply both | apply an | exact ti) | exact fe | refine st ?_ | exact fm | refine s1 ?_)
    ·exact ⟨(), by simp_all [zAt]; rcases h with h | h <;> simp [h]⟩
    ·exact ⟨(), by simp_all [zAt]⟩
   ·try simp (disch := omega) only [go_sem, hE, hH, h]
    simp only [nf] at h
    rw [show k = more.size by omega]
    repeat' (first | ((with_reducible apply ga) <;> refine gs fun h => ?_) | ((with_reducible apply an); · omega) | refine jn _ ?_ ?_ | (with_reducible first | apply both | apply an | exact ti) | exact fe | refine st ?_ | exact fm | refine s1 ?_)
    ·rw [hasB, zAF hlt (by simp_all [hasc])]
    ·exact ⟨(), rfl, zAc hI (by simp_all [hasc])⟩)
 ·try simp (disch := omega) only [go_sem, hE, hH, h]
  simp only [nf] at h
  rw [show j = s.size by omega] at hI
  rw [hasB, hI]
theorem zFS (s : ByteArray) (hs : s.size ≤ maxLen) : ACall p_ 161 [str s] (fun r _ => r = bl (zA2 s)) := by
 refine fg H161 fun E hE hH => ?_; simp only [go_sem, hE, hH, zZW]
 repeat' (first | ((with_reducible apply ga) <;> refine gs fun h => ?_) | ((with_reducible apply an); · omega) | ((first | refine zAa ?_ | refine cvA (zBl _ _ _) ?_ | refine cvA (zKB _ _ hs) ?_); refine st ?_) | refine jn _ ?_ ?_ | (with_reducible first | apply both | apply an | exact ti) | exact fe | refine st ?_ | exact fm | refine s1 ?_)
 all_goals simp_all [zA2]
theorem zDp (s : ByteArray) (hs : s.size ≤ maxLen) : ACall p_ 102 [str s] (fun r _ => r = bl (zA2 s)) := by
 refine fg H102 fun E hE hH => ?_; simp only [go_sem, hE, hH, zZk]
 repeat' (first | ((with_reducible apply ga) <;> refine gs fun h => ?_) | ((with_reducible apply an); · omega) | ((first | refine zAa ?_ | refine cvA (zBB _ _ _) ?_ | refine cvA (zL7 _ _ hs (by decide)) ?_); refine st ?_) | refine jn _ ?_ ?_ | (with_reducible first | apply both | apply an | exact ti) | exact fe | refine st ?_ | exact fm | refine s1 ?_)
 all_goals simp_all [zA2]
def zB1 (l : List ByteArray) : Bool := zAt (fun i => zA2 (nth l i) && (decide (i = 0) || zAj (nth l (i - 1)) (nth l i))) l.length
theorem zDq (l : List ByteArray) (hl : zA6 (fun s => s.size ≤ maxLen) l) : ACall p_ 116 [.sl false 1 (strs l)] (fun r _ => r = bl (zB1 l)) := by
 obtain ⟨hl, hx⟩ := hl
 have hmx := zAf
 refine fg H116 fun E hE hH => ?_; simp only [go_sem, hE, hH, zZt]
 refine zAu l.length (fun j (_ : Unit) => ⟨[(0, .sl false 1 (strs l)), (5, .sl false 1 (strs l)), (6, i64 l.length), (7, i64 j)], []⟩) (fun j _ => zAt (fun i => zA2 (nth l i) && (decide (i = 0) || zAj (nth l (i - 1)) (nth l i))) j = true) () rfl ?_
 intro j _ hj hI
 try simp only [go_sem, hE, hH, zRu]
 first | refine zAg (fun h => ?_) (fun h => ?_) | refine zAh (fun h => ?_) (fun h => ?_)
 ·have hb := h
  simp only [nf] at h
  have hlt := h; clear h
  have hs := hx _ (zAd hlt)
  try refine sb ?_; try exact ⟨⟩
  repeat' (first | ((with_reducible apply ga) <;> refine gs fun h => ?_) | ((with_reducible apply an); · omega) | ((first | refine zAa ?_ | refine cvA (zFS _ (by assumption)) ?_); refine st ?_) | refine jn _ ?_ ?_ | (with_reducible first | apply both | apply an | exact ti) | exact fe | refine st ?_ | exact fm | refine s1 ?_)
  ·rw [zB1, zAF hlt (by simp_all)]
  ·rw [zB1, zAF hlt (by simp_all <;> omega)]
  ·exact ⟨(), rfl, zAc hI (by simp_all)⟩
  ·exact ⟨(), rfl, zAc hI (by simp_all <;> omega)⟩
 ·try simp (disch := omega) only [go_sem, hE, hH, h]
  simp only [nf] at h
  rw [show j = l.length by omega] at hI
  rw [zB1, hI]
def zGt (l : List Int) (lo hi : Int) : Bool := zAt (fun i => rng (nth l i) lo hi) l.length
theorem zPU (l : List Int) (lo hi : Int) (hl : l.length ≤ maxLen) : ACall p_ 56 [.sl false 1 (ints l), i64 lo, i64 hi] (fun r _ => r = bl (zGt l lo hi)) := by
 have hmx := zAf
 refine fg H56 fun E hE hH => ?_; simp only [go_sem, hE, hH, C56]
 refine zAu l.length (fun j (_ : Unit) => ⟨[(1, i64 lo), (2, i64 hi), (9, .sl false 1 (ints l)), (10, i64 l.length), (11, i64 j)], []⟩) (fun j _ => zAt (fun i => rng (nth l i) lo hi) j = true) () rfl ?_
 intro j _ hj hI
 try simp only [go_sem, hE, hH, zUT]
 first | refine zAg (fun h => ?_) (fun h => ?_) | refine zAh (fun h => ?_) (fun h => ?_)
 ·have hb := h
  simp only [nf] at h
  have hlt := h; clear h
  try refine sb ?_; try exact ⟨⟩
  repeat' (first | ((with_reducible apply ga) <;> refine gs fun h => ?_) | ((with_reducible apply an); · omega) | ((first | refine zAa ?_ | refine cvA (zBB _ _ _) ?_); refine st ?_) | refine jn _ ?_ ?_ | (with_reducible first | apply both | apply an | exact ti) | exact fe | refine st ?_ | exact fm | refine s1 ?_)
  ·rw [zGt, zAF hlt h]
  ·exact ⟨(), rfl, zAc hI h⟩
 ·try simp (disch := omega) only [go_sem, hE, hH, h]
  simp only [nf] at h
  rw [show j = l.length by omega] at hI
  rw [zGt, hI]
theorem zWN (l : List Int) (lo hi : Int) : (!l.any fun n => !rng n lo hi) = zGt l lo hi := by
 rw [zGt, zAW (p := fun n => rng n lo hi)]
 simp [List.any_eq_not_all_not]
end Go.Proofs.Wb

import Derived.Test.YtbomnfkdccemmaaGreatFnExactSnapAtG0
import Derived.Laws.Externs
set_option linter.all false
set_option maxHeartbeats 4000000
namespace Go.Proofs.Wb
open Tryz renaming prog → p_
open Go Go.Am
def stored (v : ByteArray) (gone : Bool) : Bool := zDf v && !(gone && !decide (v = ⟨⟨[]⟩⟩))
theorem zF3 {α β : Type} [Inhabited α] [Inhabited β] {f : α → β} {l : List α} {i : Nat} (h : i < l.length) : nth (l.map f) i = f (nth l i) := by
 rw [zA5 (by simpa using h), zA5 h, List.getElem_map]
theorem zL8 (s : ByteArray) (hs : s.size ≤ maxLen) : ACall p_ 177 [str s] (fun r _ => r = bl (zDf s)) := by
 refine fg H177 fun E hE hH => ?_; simp only [go_sem, hE, hH, zZ3]
 repeat' (first | ((with_reducible apply ga) <;> refine gs fun h => ?_) | ((with_reducible apply an); · omega) | ((first | refine zAa ?_ | refine cvA (zKB _ _ hs) ?_); refine st ?_) | refine jn _ ?_ ?_ | (with_reducible first | apply both | apply an | exact ti) | exact fe | refine st ?_ | exact fm | refine s1 ?_)
 all_goals (first | (simp_all [zDf]; done) | (simp_all [zDf] <;> first | omega | (intros; omega)))
theorem zLj (s : ByteArray) (hs : s.size ≤ maxLen) : ACall p_ 109 [str s] (fun r _ => r = bl (zDf s)) := by
 refine fg H109 fun E hE hH => ?_; simp only [go_sem, hE, hH, zZq]
 repeat' (first | ((with_reducible apply ga) <;> refine gs fun h => ?_) | ((with_reducible apply an); · omega) | ((first | refine zAa ?_ | refine cvA (zL7 _ _ hs (by decide)) ?_); refine st ?_) | refine jn _ ?_ ?_ | (with_reducible first | apply both | apply an | exact ti) | exact fe | refine st ?_ | exact fm | refine s1 ?_)
 all_goals (first | (simp_all [zDf]; done) | (simp_all [zDf] <;> first | omega | (intros; omega)))
theorem zHo (s : ByteArray) (g : Bool) (hs : s.size ≤ maxLen) : ACall p_ 142 [str s, bl g] (fun r _ => r = bl (stored s g)) := by
 refine fg H142 fun E hE hH => ?_; simp only [go_sem, hE, hH, zZK]
 repeat' (first | ((with_reducible apply ga) <;> refine gs fun h => ?_) | ((with_reducible apply an); · omega) | ((first | refine zAa ?_ | refine cvA (zL8 _ hs) ?_); refine st ?_) | refine jn _ ?_ ?_ | (with_reducible first | apply both | apply an | exact ti) | exact fe | refine st ?_ | exact fm | refine s1 ?_)
 all_goals simp_all [stored]
theorem zL9 (k s : ByteArray) (g : Bool) (hk : k.size ≤ maxLen) (hs : s.size ≤ maxLen) : ACall p_ 63 [str k, str s, bl g] (fun r _ => r = bl (zA2 k && stored s g)) := by
 refine fg H63 fun E hE hH => ?_; simp only [go_sem, hE, hH, C63]
 repeat' (first | ((with_reducible apply ga) <;> refine gs fun h => ?_) | ((with_reducible apply an); · omega) | ((first | refine zAa ?_ | refine cvA (zDp _ hk) ?_ | refine cvA (zLj _ hs) ?_); refine st ?_) | refine jn _ ?_ ?_ | (with_reducible first | apply both | apply an | exact ti) | exact fe | refine st ?_ | exact fm | refine s1 ?_)
 all_goals simp_all [stored]
def zA0 (l : List Write) : Bool := decide ((l.length : Int) ≤ 24) && zAt (fun i => (zA2 (nth l i).Key && stored (nth l i).Val (nth l i).Gone) && (decide (i = 0) || zAj (nth l (i - 1)).Key (nth l i).Key)) l.length
theorem zIM (l : List Write) : zA0 l = (decide ((l.length : Int) ≤ 24) && zB1 (l.map (·.Key)) && !l.any fun w => !stored w.Val w.Gone) := by
 have h1 : (!l.any fun w => !stored w.Val w.Gone) = zAt (fun i => stored (nth l i).Val (nth l i).Gone) l.length := by
  rw [zAW (p := fun w : Write => stored w.Val w.Gone)]
  simp [List.any_eq_not_all_not]
 have h2 : zB1 (l.map (·.Key)) = zAt (fun i => zA2 (nth l i).Key && (decide (i = 0) || zAj (nth l (i - 1)).Key (nth l i).Key)) l.length := by
  unfold zB1
  rw [List.length_map]
  refine zLP fun i hi => ?_
  rw [zF3 hi, zF3 (by omega)]
 rw [h1, h2, zA0, Bool.and_assoc]
 congr 1
 rw [Bool.eq_iff_iff, Bool.and_eq_true, zAL, zAL, zAL]
 constructor
 ·intro h
  exact ⟨fun i hi => by have := h i hi; simp only [Bool.and_eq_true] at this ⊢; exact ⟨this.1.1, this.2⟩, fun i hi => by have := h i hi; simp only [Bool.and_eq_true] at this ⊢; exact this.1.2⟩
 ·rintro ⟨ha, hb⟩ i hi
  have ha := ha i hi; have hb := hb i hi
  simp only [Bool.and_eq_true] at ha hb ⊢
  exact ⟨⟨ha.1, hb⟩, ha.2⟩
theorem zPV (l : List Write) (hl : l.length ≤ 2 ^ 20) : ACall p_ 139 [.sl false 3 (l.map (Write.row false))] (fun r _ => r = .sl true 1 (strs (l.map (·.Key)))) := by
 refine fg H139 fun E hE hH => ?_; simp only [go_sem, hE, hH, zZI]
 refine zAR l.length (fun j (x : List ByteArray) => ⟨[(3, .ref 4000000 0 x.length), (7, .sl false 3 (l.map (Write.row false))), (8, i64 l.length), (9, i64 j)], [(4000000, ⟨1, strs x⟩)]⟩) (fun j x => x = (l.take j).map (·.Key)) [] (by simp) (by simp) ?_
 intro j x hj hx
 have hlen : x.length = j := by rw [hx]; simp; omega
 try simp only [go_sem, hE, hH, zRx]
 first | refine zAg (fun h => ?_) (fun h => ?_) | refine zAh (fun h => ?_) (fun h => ?_)
 ·have hb := h
  simp only [nf] at h
  try refine sb ?_; try exact ⟨⟩
  refine ⟨by omega, by omega, by omega, ?_⟩
  rw [zAE h, List.map_append, ← hx]
  simp [hlen]; omega
 ·have hb := h
  simp only [nf] at h
  try refine sb ?_; try exact ⟨⟩
  rw [hx, show j = l.length by omega, List.take_length]
theorem zMa (w : Write) (hw : w.wf) : ACall p_ 141 [.agg (Write.row false w)] (fun r _ => r = bl (!stored w.Val w.Gone)) := by
 obtain ⟨w1, w2⟩ := hw
 refine fg H141 fun E hE hH => ?_; simp only [go_sem, hE, hH, zZJ]
 repeat' (first | ((with_reducible apply ga) <;> refine gs fun h => ?_) | ((with_reducible apply an); · omega) | ((first | refine zAa ?_ | refine cvA (zHo _ _ w2) ?_); refine st ?_) | refine jn _ ?_ ?_ | (with_reducible first | apply both | apply an | exact ti) | exact fe | refine st ?_ | exact fm | refine s1 ?_)
theorem zIN (l : List Write) (hl : wfL Write.wf l) : ACall p_ 87 [.sl false 3 (l.map (Write.row false))] (fun r _ => r = bl (zA0 l)) := by
 obtain ⟨hl, hx⟩ := hl
 have hmx := zAf
 have hr : zA6 (fun s : ByteArray => s.size ≤ maxLen) (l.map (·.Key)) := ⟨by simpa using hl, fun s hs => by obtain ⟨w, hw, rfl⟩ := List.mem_map.1 hs; exact (hx w hw).1⟩
 rw [zIM]
 refine fg H87 fun E hE hH => ?_; simp only [go_sem, hE, hH, C87]
 repeat' (first | ((with_reducible apply ga) <;> refine gs fun h => ?_) | ((with_reducible apply an); · omega) | ((first | refine zAa ?_ | refine cvA (zPV l (by omega)) ?_ | refine cvA (zDq _ hr) ?_ | refine cvA (zD5 l _ [] (fun w => !stored w.Val w.Gone) (by kernel_rfl) rfl hl (fun w hw => zMa w (hx w hw))) ?_); refine st ?_) | refine jn _ ?_ ?_ | (with_reducible first | apply both | apply an | exact ti) | exact fe | refine st ?_ | exact fm | refine s1 ?_)
 all_goals (first | (simp_all []; done) | (simp_all [] <;> first | omega | (intros; omega)))
theorem zHp (l : List Write) (hl : wfL Write.wf l) : ACall p_ 22 [.sl false 3 (l.map (Write.row false))] (fun r _ => r = bl (zA0 l)) := by
 obtain ⟨hl, hx⟩ := hl
 have hmx := zAf
 refine fg H22 fun E hE hH => ?_; simp only [go_sem, hE, hH, C22]
 refine zAu l.length (fun j (_ : Unit) => ⟨[(0, .sl false 3 (l.map (Write.row false))), (5, .sl false 3 (l.map (Write.row false))), (6, i64 l.length), (7, i64 j)], []⟩) (fun j _ => zAt (fun i => (zA2 (nth l i).Key && stored (nth l i).Val (nth l i).Gone) && (decide (i = 0) || zAj (nth l (i - 1)).Key (nth l i).Key)) j = true) () rfl ?_
 intro j _ hj hI
 try simp only [go_sem, hE, hH, zUz]
 first | refine zAg (fun h => ?_) (fun h => ?_) | refine zAh (fun h => ?_) (fun h => ?_)
 ·have hb := h
  simp only [nf] at h
  have hlt := h; clear h
  obtain ⟨w1, w2⟩ := hx _ (zAd hlt)
  try refine sb ?_; try exact ⟨⟩
  repeat' (first | ((with_reducible apply ga) <;> refine gs fun h => ?_) | ((with_reducible apply an); · omega) | ((first | refine zAa ?_ | refine cvA (zL9 _ _ _ w1 w2) ?_); refine st ?_) | refine jn _ ?_ ?_ | (with_reducible first | apply both | apply an | exact ti) | exact fe | refine st ?_ | exact fm | refine s1 ?_)
  ·rw [zA0, zAF hlt (by simp_all)]; simp
  ·rw [zA0, zAF hlt (by simp_all <;> omega)]; simp
  ·first | exact ⟨(), rfl, zAc hI (by simp_all <;> omega)⟩ | exact ⟨by omega, (), rfl, zAc hI (by simp_all <;> omega)⟩ | exact ⟨by omega, by omega, (), rfl, zAc hI (by simp_all <;> omega)⟩
  ·first | exact ⟨(), rfl, zAc hI (by simp_all <;> omega)⟩ | exact ⟨by omega, (), rfl, zAc hI (by simp_all <;> omega)⟩ | exact ⟨by omega, by omega, (), rfl, zAc hI (by simp_all <;> omega)⟩
 ·try simp (disch := omega) only [go_sem, hE, hH, h]
  simp only [nf] at h
  rw [show j = l.length by omega] at hI
  rw [zA0, hI]
  simp
def zBG (l : List Got) : Bool := zAt (fun i => (zA2 (nth l i).Key && stored (nth l i).Val (!(nth l i).There)) && !(l.take i).any fun h => decide (h.Key = (nth l i).Key)) l.length && decide ((l.length : Int) ≤ 8)
theorem zQR (h g : Got) : ACall p_ 168 ([.agg (Got.row false h)] ++ [.bx false (Got.row false g)]) (fun r _ => r = bl (decide (h.Key = g.Key))) := by
 refine fg H168 fun E hE hH => ?_; simp only [go_sem, hE, hH, zZ0]
 try refine st ?_; try exact ⟨⟩
theorem zN0 (l : List Got) (hl : wfL Got.wf l) : ACall p_ 129 [.sl false 3 (l.map (Got.row false))] (fun r _ => r = bl (zBG l)) := by
 obtain ⟨hl, hx⟩ := hl
 have hmx := zAf
 refine fg H129 fun E hE hH => ?_; simp only [go_sem, hE, hH, zZB]
 refine zAu l.length (fun j (_ : Unit) => ⟨[(0, .sl false 3 (l.map (Got.row false))), (5, .sl false 3 (l.map (Got.row false))), (6, i64 l.length), (7, i64 j)], []⟩) (fun j _ => zAt (fun i => (zA2 (nth l i).Key && stored (nth l i).Val (!(nth l i).There)) && !(l.take i).any fun h => decide (h.Key = (nth l i).Key)) j = true) () rfl ?_
 intro j _ hj hI
 try simp only [go_sem, hE, hH, zRw]
 first | refine zAg (fun h => ?_) (fun h => ?_) | refine zAh (fun h => ?_) (fun h => ?_)
 ·have hb := h
  simp only [nf] at h
  have hlt := h; clear h
  obtain ⟨w1, w2⟩ := hx _ (zAd hlt)
  have ht : ((l.map (Got.row false)).take j) = (l.take j).map (Got.row false) := by rw [List.map_take]
  try simp (disch := omega) only [go_sem, hE, hH, hb, ht]
  repeat' (first | ((with_reducible apply ga) <;> refine gs fun h => ?_) | ((with_reducible apply an); · omega) | ((first | refine zAa ?_ | refine cvA (zFS _ w1) ?_ | refine cvA (zHo _ _ w2) ?_ | refine cvA (zIP (l.take j) _ [.bx false (Got.row false (nth l j))] (fun h => decide (h.Key = (nth l j).Key)) (by kernel_rfl) rfl (by rw [List.length_take]; omega) (fun h _ => zQR h _)) ?_); refine st ?_) | refine jn _ ?_ ?_ | (with_reducible first | apply both | apply an | exact ti) | exact fe | refine st ?_ | exact fm | refine s1 ?_)
  ·rw [zBG, zAF hlt (by simp_all)]; simp
  ·rw [zBG, zAF hlt (by simp_all)]; simp
  ·rw [zBG, zAF hlt (by simp_all)]; simp
  ·first | exact ⟨(), rfl, zAc hI (by simp_all)⟩ | exact ⟨by omega, (), rfl, zAc hI (by simp_all)⟩ | exact ⟨by omega, by omega, (), rfl, zAc hI (by simp_all)⟩
 ·try simp (disch := omega) only [go_sem, hE, hH, h]
  simp only [nf] at h
  rw [show j = l.length by omega] at hI
  rw [zBG, hI]
  simp
theorem zN1 (l : List Got) (hl : wfL Got.wf l) : ACall p_ 107 [.sl false 3 (l.map (Got.row false))] (fun r _ => r = bl (zBG l)) := by
 obtain ⟨hl, hx⟩ := hl
 have hmx := zAf
 refine fg H107 fun E hE hH => ?_; simp only [go_sem, hE, hH, zZo]
 refine zAu l.length (fun j (_ : Unit) => ⟨[(0, .sl false 3 (l.map (Got.row false))), (7, .sl false 3 (l.map (Got.row false))), (8, i64 l.length), (9, i64 j)], []⟩) (fun j _ => zAt (fun i => (zA2 (nth l i).Key && stored (nth l i).Val (!(nth l i).There)) && !(l.take i).any fun h => decide (h.Key = (nth l i).Key)) j = true) () rfl ?_
 intro j _ hj hI
 try simp only [go_sem, hE, hH, zRq]
 first | refine zAg (fun h => ?_) (fun h => ?_) | refine zAh (fun h => ?_) (fun h => ?_)
 ·have hb := h
  simp only [nf] at h
  have hlt := h; clear h
  obtain ⟨w1, w2⟩ := hx _ (zAd hlt)
  try refine sb ?_; try exact ⟨⟩
  repeat' (first | ((with_reducible apply ga) <;> refine gs fun h => ?_) | ((with_reducible apply an); · omega) | ((first | refine zAa ?_ | refine cvA (zDp _ w1) ?_ | refine cvA (zLj _ w2) ?_); refine st ?_) | refine jn _ ?_ ?_ | (with_reducible first | apply both | apply an | exact ti) | exact fe | refine st ?_ | exact fm | refine s1 ?_)
  ·rw [zBG, zAF hlt (by simp_all)]; simp
  ·rw [zBG, zAF hlt (by simp_all [stored])]; simp
  ·rw [zBG, zAF hlt (by simp_all [stored])]; simp
  ·have hlj : (l.take j).length = j := by rw [List.length_take]; omega
   refine zAu (l.take j).length (fun k (_ : Unit) => ⟨[(0, .sl false 3 (l.map (Got.row false))), (4, .ptr 5000000 0 0), (7, .sl false 3 (l.map (Got.row false))), (8, i64 l.length), (9, i64 j), (36, .sl false 3 ((l.take j).map (Got.row false))), (37, i64 (l.take j).length), (38, i64 k)], [(5000000, ⟨3, [Got.row false (nth l j)]⟩)]⟩) (fun k _ => zAt (fun i => !decide ((nth (l.take j) i).Key = (nth l j).Key)) k = true) () rfl ?_
   intro k _ hk hK
   try simp only [go_sem, hE, hH, zMS]
   first | refine zAg (fun h2 => ?_) (fun h2 => ?_) | refine zAh (fun h2 => ?_) (fun h2 => ?_)
   ·have hb2 := h2
    simp only [nf] at h2
    have hlt2 : k < (l.take j).length := by omega
    try simp (disch := omega) only [go_sem, hE, hH, hb2]
    repeat' (first | ((with_reducible apply ga) <;> refine gs fun h => ?_) | ((with_reducible apply an); · omega) | refine jn _ ?_ ?_ | (with_reducible first | apply both | apply an | exact ti) | exact fe | refine st ?_ | exact fm | refine s1 ?_)
    ·rw [zBG, zAF hlt (by
      have : ((l.take j).any fun h => decide (h.Key = (nth l j).Key)) = true := List.any_eq_true.2 ⟨_, zAd hlt2, by simp_all⟩
      simp_all)]
     simp
    ·first | exact ⟨(), rfl, zAc hK (by show (!decide _) = true; rw [Bool.not_eq_true', decide_eq_false_iff_not]; exact fun e => h e.symm)⟩ | exact ⟨by omega, (), rfl, zAc hK (by show (!decide _) = true; rw [Bool.not_eq_true', decide_eq_false_iff_not]; exact fun e => h e.symm)⟩ | exact ⟨by omega, by omega, (), rfl, zAc hK (by show (!decide _) = true; rw [Bool.not_eq_true', decide_eq_false_iff_not]; exact fun e => h e.symm)⟩
   ·try simp (disch := omega) only [go_sem, hE, hH, h2]
    simp only [nf] at h2
    rw [show k = (l.take j).length by omega] at hK
    have hN : ((l.take j).any fun h => decide (h.Key = (nth l j).Key)) = false := by
     rw [zAW (p := fun h : Got => !decide (h.Key = (nth l j).Key))] at hK
     rw [List.any_eq_false]
     intro x hx'
     have := List.all_eq_true.1 hK x hx'
     simpa using this
    first | exact ⟨(), rfl, zAc hI (by simp_all [stored])⟩ | exact ⟨by omega, (), rfl, zAc hI (by simp_all [stored])⟩ | exact ⟨by omega, by omega, (), rfl, zAc hI (by simp_all [stored])⟩
  ·have hlj : (l.take j).length = j := by rw [List.length_take]; omega
   refine zAu (l.take j).length (fun k (_ : Unit) => ⟨[(0, .sl false 3 (l.map (Got.row false))), (4, .ptr 5000000 0 0), (7, .sl false 3 (l.map (Got.row false))), (8, i64 l.length), (9, i64 j), (36, .sl false 3 ((l.take j).map (Got.row false))), (37, i64 (l.take j).length), (38, i64 k)], [(5000000, ⟨3, [Got.row false (nth l j)]⟩)]⟩) (fun k _ => zAt (fun i => !decide ((nth (l.take j) i).Key = (nth l j).Key)) k = true) () rfl ?_
   intro k _ hk hK
   try simp only [go_sem, hE, hH, zMS]
   first | refine zAg (fun h2 => ?_) (fun h2 => ?_) | refine zAh (fun h2 => ?_) (fun h2 => ?_)
   ·have hb2 := h2
    simp only [nf] at h2
    have hlt2 : k < (l.take j).length := by omega
    try simp (disch := omega) only [go_sem, hE, hH, hb2]
    repeat' (first | ((with_reducible apply ga) <;> refine gs fun h => ?_) | ((with_reducible apply an); · omega) | refine jn _ ?_ ?_ | (with_reducible first | apply both | apply an | exact ti) | exact fe | refine st ?_ | exact fm | refine s1 ?_)
    ·rw [zBG, zAF hlt (by
      have : ((l.take j).any fun h => decide (h.Key = (nth l j).Key)) = true := List.any_eq_true.2 ⟨_, zAd hlt2, by simp_all⟩
      simp_all)]
     simp
    ·first | exact ⟨(), rfl, zAc hK (by show (!decide _) = true; rw [Bool.not_eq_true', decide_eq_false_iff_not]; exact fun e => h e.symm)⟩ | exact ⟨by omega, (), rfl, zAc hK (by show (!decide _) = true; rw [Bool.not_eq_true', decide_eq_false_iff_not]; exact fun e => h e.symm)⟩ | exact ⟨by omega, by omega, (), rfl, zAc hK (by show (!decide _) = true; rw [Bool.not_eq_true', decide_eq_false_iff_not]; exact fun e => h e.symm)⟩
   ·try simp (disch := omega) only [go_sem, hE, hH, h2]
    simp only [nf] at h2
    rw [show k = (l.take j).length by omega] at hK
    have hN : ((l.take j).any fun h => decide (h.Key = (nth l j).Key)) = false := by
     rw [zAW (p := fun h : Got => !decide (h.Key = (nth l j).Key))] at hK
     rw [List.any_eq_false]
     intro x hx'
     have := List.all_eq_true.1 hK x hx'
     simpa using this
    first | exact ⟨(), rfl, zAc hI (by simp_all [stored])⟩ | exact ⟨by omega, (), rfl, zAc hI (by simp_all [stored])⟩ | exact ⟨by omega, by omega, (), rfl, zAc hI (by simp_all [stored])⟩
 ·try simp (disch := omega) only [go_sem, hE, hH, h]
  simp only [nf] at h
  rw [show j = l.length by omega] at hI
  rw [zBG, hI]
  simp
open Go.Proofs.Wb renaming H164 → z0_, zZY → z1_, zBl → z2_ in
theorem zPW (n : Int) : ACall p_ 164 [i64 n] (fun r _ => r = bl (rng n 1 60)) := zNq
open Go.Proofs.Wb renaming H32 → z0_, C32 → z1_, zBl → z2_ in
theorem zFy (n : Int) : ACall p_ 32 [i64 n] (fun r _ => r = bl (rng n 0 100000)) := zNq
open Go.Proofs.Wb renaming H21 → z0_, C21 → z1_, zBB → z2_ in
theorem zGV (n : Int) : ACall p_ 21 [i64 n] (fun r _ => r = bl (rng n 0 100000)) := zNq
theorem zWO {α : Type} [Inhabited α] {l : List α} {i k : Nat} : nth (l.drop i) k = nth l (i + k) := by
 simp [nth, List.getD, List.getElem?_drop]
theorem zMb (x : ByteArray) : ACall p_ 193 [str x] (fun r _ => r = bl false) := by
 refine fg H193 fun E hE hH => ?_; simp only [go_sem, hE, hH, C193]
 try refine st ?_; try exact ⟨⟩
def zEn (a b : ByteArray) : Int := if zAj a b then -1 else if zAj b a then 1 else 0
theorem zFI (a b : ByteArray) : ACall p_ 173 [str a, str b] (fun r _ => r = i64 (zEn a b)) := by
 refine fg H173 fun E hE hH => ?_; simp only [go_sem, hE, hH, zON]
 repeat' (first | ((with_reducible apply ga) <;> refine gs fun h => ?_) | ((with_reducible apply an); · omega) | ((first | refine zAa ?_ | refine cvA (zMb _) ?_); refine st ?_) | refine jn _ ?_ ?_ | (with_reducible first | apply both | apply an | exact ti) | exact fe | refine st ?_ | exact fm | refine s1 ?_)
 all_goals (rcases zBV a b with q | q | q <;> simp_all [zEn, zBu, zCH])
open Go.Proofs.Wb renaming H172 → z0_, zGS → z1_, zFI → z2_ in
theorem zNb (w : Write) (key : ByteArray) : ACall p_ 172 ([.agg (Write.row false w), str key] ++ []) (fun r _ => r = i64 (zEn w.Key key)) := zQt
def zCd (l : List Write) : Prop := ∀ i j, i < j → j < l.length → zAj (nth l i).Key (nth l j).Key = true
theorem zHO {l : List Write} (h : zA0 l = true) : zCd l := by
 simp only [zA0, Bool.and_eq_true] at h
 have key : ∀ d i, i + d + 1 < l.length → zAj (nth l i).Key (nth l (i + d + 1)).Key = true := by
  intro d
  induction d with
  | zero =>
   intro i hi
   have := zAL.1 h.2 (i + 1) (by omega)
   simp only [Bool.and_eq_true, Bool.or_eq_true, decide_eq_true_eq] at this
   exact this.2.resolve_left (by omega)
  | succ d ih =>
   intro i hi
   have h1 := ih i (by omega)
   have := zAL.1 h.2 (i + d + 2) (by omega)
   simp only [Bool.and_eq_true, Bool.or_eq_true, decide_eq_true_eq] at this
   exact zCG h1 (this.2.resolve_left (by omega))
 intro i j h1 h2
 have := key (j - i - 1) i (by omega)
 rwa [show i + (j - i - 1) + 1 = j by omega] at this
def fwI (l : List Write) (k : ByteArray) : Nat := zEj (fun i => zAj (nth l i).Key k) l.length
def fwF (l : List Write) (k : ByteArray) : Bool := l.any fun w => decide (w.Key = k)
theorem zLk {a b : ByteArray} : zEn a b < 0 ↔ zAj a b = true := by
 unfold zEn
 split
 ·simp_all
 ·split <;> simp_all
theorem zJD {a b : ByteArray} : zEn a b = 0 ↔ a = b := by
 unfold zEn
 rcases zBV a b with h | h | h
 ·rw [if_pos h]; simp [zIi h]
 ·subst h; simp [zBu]
 ·rw [zCH h, if_neg (by simp), if_pos h]; simp [(zIi h).symm]
theorem zXu {l : List Write} (hs : zCd l) (k : ByteArray) : bsI (fun w : Write => zEn w.Key k) l = fwI l k ∧ bsF (fun w : Write => zEn w.Key k) l = fwF l k := by
 have e1 : bsI (fun w : Write => zEn w.Key k) l = fwI l k := by
  unfold bsI fwI
  congr 1; funext i
  rw [Bool.eq_iff_iff, decide_eq_true_iff, zLk]
 refine ⟨e1, ?_⟩
 rw [Bool.eq_iff_iff]
 unfold bsF fwF
 rw [e1, Bool.and_eq_true, decide_eq_true_iff, decide_eq_true_iff, zJD, List.any_eq_true]
 constructor
 ·rintro ⟨h1, h2⟩; exact ⟨_, zAd h1, by simp [h2]⟩
 ·rintro ⟨w, hw, h1⟩
  obtain ⟨i, hi, rfl⟩ := List.getElem_of_mem hw
  simp only [decide_eq_true_eq] at h1
  rw [← zA5 hi] at h1
  have e2 : fwI l k = i := by
   unfold fwI
   rw [zFw (Nat.le_of_lt hi) (fun j a b => ?_), zGk (zAL.2 fun j hj => ?_)]
   ·rw [← h1]; exact hs j i hj hi
   ·by_cases e : j = i
    ·rw [e, h1]; exact zBu _
    ·rw [← h1]; exact zCH (hs i j (by omega) b)
  rw [e2]; exact ⟨hi, h1⟩
theorem zGu (l : List Write) (key : ByteArray) (hl : l.length ≤ 2 ^ 60) (hs : zCd l) : ACall p_ 137 [.sl false 3 (l.map (Write.row false)), str key] (fun r _ => r = .tup [i64 (fwI l key), bl (fwF l key)]) := by
 obtain ⟨e1, e2⟩ := zXu hs key
 refine fg H137 fun E hE hH => ?_; simp only [go_sem, hE, hH, zZG]
 repeat' (first | ((with_reducible apply ga) <;> refine gs fun h => ?_) | ((with_reducible apply an); · omega) | ((first | refine zAa ?_ | refine cvA (zFQ l key _ [] (fun w => zEn w.Key key) (by kernel_rfl) rfl hl (fun i j h1 h2 h3 => by have := hs i j h1 h2; rw [← Int.not_lt, zLk] at h3 ⊢; exact fun h => h3 (zCG this h)) (fun w _ => zNb w key)) ?_); refine st ?_) | refine jn _ ?_ ?_ | (with_reducible first | apply both | apply an | exact ti) | exact fe | refine st ?_ | exact fm | refine s1 ?_)
 all_goals simp only [e1, e2]
theorem zKC (l : List Write) (key : ByteArray) (hl : l.length ≤ maxLen) : ACall p_ 256 [.sl false 3 (l.map (Write.row false)), str key] (fun r _ => r = bl (fwF l key)) := by
 have hmx := zAf
 refine fg H256 fun E hE hH => ?_; simp only [go_sem, hE, hH, C256]
 refine zAu l.length (fun j (_ : Unit) => ⟨[(1, str key), (7, .sl false 3 (l.map (Write.row false))), (8, i64 l.length), (9, i64 j)], []⟩) (fun j _ => zAt (fun i => !decide ((nth l i).Key = key)) j = true) () rfl ?_
 intro j _ hj hI
 try simp only [go_sem, hE, hH, zRX]
 first | refine zAg (fun h => ?_) (fun h => ?_) | refine zAh (fun h => ?_) (fun h => ?_)
 ·have hb := h
  simp only [nf] at h
  have hlt := h; clear h
  try refine sb ?_; try exact ⟨⟩
  repeat' (first | ((with_reducible apply ga) <;> refine gs fun h => ?_) | ((with_reducible apply an); · omega) | refine jn _ ?_ ?_ | (with_reducible first | apply both | apply an | exact ti) | exact fe | refine st ?_ | exact fm | refine s1 ?_)
  ·have : fwF l key = true := List.any_eq_true.2 ⟨_, zAd hlt, by simp [h]⟩
   rw [this]
  ·first | exact ⟨(), rfl, zAc hI (by simp [h])⟩ | exact ⟨by omega, (), rfl, zAc hI (by simp [h])⟩ | exact ⟨by omega, by omega, (), rfl, zAc hI (by simp [h])⟩
 ·try simp (disch := omega) only [go_sem, hE, hH, h]
  simp only [nf] at h
  rw [show j = l.length by omega, zAW (p := fun w : Write => !decide (w.Key = key))] at hI
  have : fwF l key = false := by
   rw [fwF, List.any_eq_false]; intro x hx; simpa using List.all_eq_true.1 hI x hx
  rw [this]
def zIq (ws : List Write) (reads : List ByteArray) (others : List Write) : Bool := ws.any fun w => fwF others w.Key || reads.any fun x => decide (w.Key = x)
theorem zPX (w : Write) (others : List Write) (reads : List ByteArray) (hl : others.length ≤ 2 ^ 60) (hr : reads.length ≤ maxLen) (hs : zCd others) : ACall p_ 286 ([.agg (Write.row false w)] ++ [.bx false [.sl false 3 (others.map (Write.row false))], .bx false [.sl false 1 (strs reads)]]) (fun r _ => r = bl (fwF others w.Key || reads.any fun x => decide (w.Key = x))) := by
 refine fg H286 fun E hE hH => ?_; simp only [go_sem, hE, hH, C286]
 repeat' (first | ((with_reducible apply ga) <;> refine gs fun h => ?_) | ((with_reducible apply an); · omega) | ((first | refine zAa ?_ | refine cvA (zGu others _ hl hs) ?_ | refine cvA (zJC _ _ hr) ?_); refine st ?_) | refine jn _ ?_ ?_ | (with_reducible first | apply both | apply an | exact ti) | exact fe | refine st ?_ | exact fm | refine s1 ?_)
 all_goals simp_all
theorem zMc (ws : List Write) (reads : List ByteArray) (others : List Write) (hw : ws.length ≤ maxLen) (hl : others.length ≤ 2 ^ 60) (hr : reads.length ≤ maxLen) (hs : zCd others) : ACall p_ 274 [.sl false 3 (ws.map (Write.row false)), .sl false 1 (strs reads), .sl false 3 (others.map (Write.row false))] (fun r _ => r = bl (zIq ws reads others)) := by
 refine fg H274 fun E hE hH => ?_; simp only [go_sem, hE, hH, C274]
 repeat' (first | ((with_reducible apply ga) <;> refine gs fun h => ?_) | ((with_reducible apply an); · omega) | ((first | refine zAa ?_ | refine cvA (zD5 ws _ [.bx false [.sl false 3 (others.map (Write.row false))], .bx false [.sl false 1 (strs reads)]] (fun w => fwF others w.Key || reads.any fun x => decide (w.Key = x)) (by kernel_rfl) rfl hw (fun w _ => zPX w others reads hl hr hs)) ?_); refine st ?_) | refine jn _ ?_ ?_ | (with_reducible first | apply both | apply an | exact ti) | exact fe | refine st ?_ | exact fm | refine s1 ?_)
 rfl
def zIr (a b : Int) : Int := if a < b then -1 else if b < a then 1 else 0
theorem zPY (x : Int) : ACall p_ 266 [i64 x] (fun r _ => r = bl false) := by
 refine fg H266 fun E hE hH => ?_; simp only [go_sem, hE, hH, C266]
 try refine st ?_; try exact ⟨⟩
theorem zHP (a b : Int) : ACall p_ 239 [i64 a, i64 b] (fun r _ => r = i64 (zIr a b)) := by
 refine fg H239 fun E hE hH => ?_; simp only [go_sem, hE, hH, zON]
 repeat' (first | ((with_reducible apply ga) <;> refine gs fun h => ?_) | ((with_reducible apply an); · omega) | ((first | refine zAa ?_ | refine cvA (zPY _) ?_); refine st ?_) | refine jn _ ?_ ?_ | (with_reducible first | apply both | apply an | exact ti) | exact fe | refine st ?_ | exact fm | refine s1 ?_)
 all_goals (unfold zIr)
 ·rw [if_pos h]
 ·rw [if_neg (by omega), if_pos h]
 ·rw [if_neg (by omega), if_neg (by omega)]
theorem zVb (n : Int) : ACall p_ 117 [i64 n] (fun r _ => r = bl (decide (n = 3) || decide (n = 5))) := by
 refine fg H117 fun E hE hH => ?_; simp only [go_sem, hE, hH, zZu]
 repeat' (first | ((with_reducible apply ga) <;> refine gs fun h => ?_) | ((with_reducible apply an); · omega) | refine jn _ ?_ ?_ | (with_reducible first | apply both | apply an | exact ti) | exact fe | refine st ?_ | exact fm | refine s1 ?_)
 all_goals (first | (simp_all []; done) | (simp_all [] <;> first | omega | (intros; omega)))
def zOP (a b : Int) : Int := if a > b then a else b
theorem zVc (a b : Int) : ACall p_ 207 [i64 a, i64 b] (fun r _ => r = i64 (zOP a b)) := by
 refine fg H207 fun E hE hH => ?_; simp only [go_sem, hE, hH, C207]
 repeat' (first | ((with_reducible apply ga) <;> refine gs fun h => ?_) | ((with_reducible apply an); · omega) | refine jn _ ?_ ?_ | (with_reducible first | apply both | apply an | exact ti) | exact fe | refine st ?_ | exact fm | refine s1 ?_)
 all_goals (simp only [zOP]; first | rw [if_pos (by omega)] | rw [if_neg (by omega)])
open Go.Proofs.Wb renaming H187 → z0_, zZ9 → z1_, zBl → z2_ in
theorem zN2 (n : Int) : ACall p_ 187 [i64 n] (fun r _ => r = bl (rng n 1 100000)) := zNq
open Go.Proofs.Wb renaming H198 → z0_, C198 → z1_, zBB → z2_ in
theorem zJE (n : Int) : ACall p_ 198 [i64 n] (fun r _ => r = bl (rng n 1 100000)) := zNq
theorem zN3 (l : List ByteArray) (hl : zA6 (fun s => s.size ≤ maxLen) l) : ACall p_ 199 [.sl false 1 (strs l)] (fun r _ => r = bl (zB1 l && decide ((l.length : Int) ≤ 8))) := by
 obtain ⟨hl, hx⟩ := hl
 have hmx := zAf
 refine fg H199 fun E hE hH => ?_; simp only [go_sem, hE, hH, C199]
 refine zAu l.length (fun j (_ : Unit) => ⟨[(0, .sl false 1 (strs l)), (5, .sl false 1 (strs l)), (6, i64 l.length), (7, i64 j)], []⟩) (fun j _ => zAt (fun i => zA2 (nth l i) && (decide (i = 0) || zAj (nth l (i - 1)) (nth l i))) j = true) () rfl ?_
 intro j _ hj hI
 try simp only [go_sem, hE, hH, zRF]
 first | refine zAg (fun h => ?_) (fun h => ?_) | refine zAh (fun h => ?_) (fun h => ?_)
 ·have hb := h
  simp only [nf] at h
  have hlt := h; clear h
  have hs := hx _ (zAd hlt)
  try refine sb ?_; try exact ⟨⟩
  repeat' (first | ((with_reducible apply ga) <;> refine gs fun h => ?_) | ((with_reducible apply an); · omega) | ((first | refine zAa ?_ | refine cvA (zDp _ (by assumption)) ?_); refine st ?_) | refine jn _ ?_ ?_ | (with_reducible first | apply both | apply an | exact ti) | exact fe | refine st ?_ | exact fm | refine s1 ?_)
  ·rw [zB1, zAF hlt (by simp_all)]; rfl
  ·rw [zB1, zAF hlt (by simp_all <;> omega)]; rfl
  ·exact ⟨(), rfl, zAc hI (by simp_all)⟩
  ·exact ⟨(), rfl, zAc hI (by simp_all <;> omega)⟩
 ·try simp (disch := omega) only [go_sem, hE, hH, h]
  simp only [nf] at h
  rw [show j = l.length by omega] at hI
  rw [zB1, hI]
  simp
def zGW (r : Rec) : Bool := decide (r.Lead = 0) && decide (r.Reads.length = 0) && decide (r.Writes.length = 0)
def zBe (r : Rec) : Bool :=
 if r.Kind = 1 then rng r.Txn 1 60 && rng r.Time 1 100000 && rng r.Lead 0 3 && (zB1 r.Reads && decide ((r.Reads.length : Int) ≤ 8)) && decide ((r.Writes.length : Int) ≤ 8) && zA0 r.Writes && decide (0 < r.Reads.length + r.Writes.length) && !r.Yes
 else if r.Kind = 2 ∨ r.Kind = 3 then zGW r && rng r.Txn 1 60 && ((r.Yes && rng r.Time 1 100000) || (!r.Yes && decide (r.Time = 0)))
 else if r.Kind = 4 then zGW r && decide (r.Txn = 0) && rng r.Time 1 100000 && !r.Yes
 else false
theorem zTf (r : Rec) (hw : r.wf) : ACall p_ 163 [.agg (Rec.row false r)] (fun x _ => x = bl (zBe r)) := by
 have hmx := zAf
 obtain ⟨w1, w2, w3, w4, w5, w6⟩ := hw
 refine fg H163 fun E hE hH => ?_; simp only [go_sem, hE, hH, zZX]
 repeat' (first | ((with_reducible apply ga) <;> refine gs fun h => ?_) | ((with_reducible apply an); · omega) | ((first | refine zAa ?_ | refine cvA (zPW _) ?_ | refine cvA (zN2 _) ?_ | refine cvA (zBl _ _ _) ?_ | refine cvA (zDq _ w5) ?_ | refine cvA (zIN _ w6) ?_); refine st ?_) | (with_reducible first | apply jn | apply both | apply an | exact ti) | exact fj | refine st ?_ | exact fm | refine s1 ?_)
 all_goals (first | (simp_all [zBe, zGW]; done) | (simp_all [zBe, zGW] <;> first | omega | (intros; omega)))
def zTg (r : Rec) : Prop := r.wf ∧ r.Reads.length ≤ 2 ^ 60 ∧ r.Writes.length ≤ 2 ^ 60
theorem zVd (r : Rec) (hw : zTg r) : ACall p_ 183 [.agg (Rec.row false r)] (fun x _ => x = bl (zBe r)) := by
 have hmx := zAf
 obtain ⟨⟨w1, w2, w3, w4, w5, w6⟩, z1, z2⟩ := hw
 have hrl : rng (r.Writes.length : Int) 0 8 = decide ((r.Writes.length : Int) ≤ 8) := by simp [rng]
 by_cases hb : r.Reads.length + r.Writes.length = 0
 ·have hR : r.Reads = [] := List.length_eq_zero_iff.1 (by omega)
  have hW : r.Writes = [] := List.length_eq_zero_iff.1 (by omega)
  refine fg zZ7 fun E hE hH => ?_; simp only [go_sem, hE, hH, zWA]
  repeat' (first | ((with_reducible apply ga) <;> refine gs fun h => ?_) | ((with_reducible apply an); · omega) | ((first | refine zAa ?_ | refine cvA (zBB _ _ _) ?_ | refine cvA (zJE _) ?_ | refine cvA (zN3 _ w5) ?_ | refine cvA (zHp _ w6) ?_); refine st ?_) | (with_reducible first | apply jn | apply both | apply an | exact ti) | exact fj | refine st ?_ | exact fm | refine s1 ?_)
  all_goals (first | (simp_all [zBe, zGW]; done) | (simp_all [zBe, zGW]; omega))
 ·have hn : zGW r = false := by
   have : (decide (r.Reads.length = 0) && decide (r.Writes.length = 0)) = false := by
    rw [Bool.and_eq_false_iff, decide_eq_false_iff_not, decide_eq_false_iff_not]; omega
   rw [zGW, Bool.and_assoc, this, Bool.and_false]
  have hp : 0 < r.Reads.length + r.Writes.length := by omega
  have hp2 : (0 : Int) < (r.Reads.length : Int) + r.Writes.length := by omega
  refine fg zZ7 fun E hE hH => ?_; simp only [go_sem, hE, hH, zWA]
  repeat' (first | ((with_reducible apply ga) <;> refine gs fun h => ?_) | ((with_reducible apply an); · omega) | ((first | refine zAa ?_ | refine cvA (zBB _ _ _) ?_ | refine cvA (zJE _) ?_ | refine cvA (zN3 _ w5) ?_ | refine cvA (zHp _ w6) ?_); refine st ?_) | (with_reducible first | apply jn | apply both | apply an | exact ti) | exact fj | refine st ?_ | exact fm | refine s1 ?_)
  all_goals (clear hb)
  all_goals (first | omega | (simp [zBe, *]; done) | (simp_all [zBe]; done) | (simp_all [zBe] <;> omega) | trace_state)
theorem zQS (r : Rec) (hw : zTg r) : ACall p_ 155 [.agg (Rec.row false r)] (fun x _ => x = bl (zBe r)) := by
 refine fg H155 fun E hE hH => ?_; simp only [go_sem, hE, hH, zZR]
 repeat' (first | ((with_reducible apply ga) <;> refine gs fun h => ?_) | ((with_reducible apply an); · omega) | ((first | refine zAa ?_ | refine cvA (zVd r hw) ?_); refine st ?_) | refine jn _ ?_ ?_ | (with_reducible first | apply both | apply an | exact ti) | exact fe | refine st ?_ | exact fm | refine s1 ?_)
def zB6 (t : Int) (l : List Entry) (i : Nat) : Bool := rng (nth l i).Term 1 t && zBe (nth l i).Rec && (decide (i = 0) || !decide ((nth l i).Term < (nth l (i - 1)).Term))
def zGX (t : Int) (l : List Entry) : Bool := zAt (zB6 t l) l.length && decide ((l.length : Int) ≤ 60)
theorem zGv {t : Int} {l : List Entry} {j : Nat} (hlt : j < l.length) (h : zB6 t l j = false) : zGX t l = false := by
 rw [zGX, zAF hlt h]; rfl
def zMd (l : List Entry) (j : Nat) : Int := if j = 0 then 1 else (nth l (j - 1)).Term
theorem zWP {t : Int} {l : List Entry} {j : Nat} (h : 1 ≤ zMd l j) : (rng (nth l j).Term (zMd l j) t && zBe (nth l j).Rec) = zB6 t l j := by
 unfold zMd at h ⊢
 unfold zB6
 by_cases hj : j = 0
 ·simp [hj]
 ·simp only [hj, if_false] at h ⊢
  rw [Bool.eq_iff_iff]
  simp only [Bool.and_eq_true, zCn, Bool.or_eq_true, decide_eq_true_eq, Bool.not_eq_true', decide_eq_false_iff_not, hj, false_or]
  constructor
  ·rintro ⟨⟨h1, h2⟩, h3⟩; exact ⟨⟨⟨by omega, h2⟩, h3⟩, by omega⟩
  ·rintro ⟨⟨⟨h1, h2⟩, h3⟩, h4⟩; exact ⟨⟨by omega, h2⟩, h3⟩
theorem zWQ (l : List Entry) (t : Int) (hl : l.length ≤ maxLen) (hx : ∀ e ∈ l, zTg e.Rec) : ACall p_ 121 [.sl false 8 (l.map (Entry.row false)), i64 t] (fun r _ => r = bl (zGX t l)) := by
 have hmx := zAf
 refine fg H121 fun E hE hH => ?_; simp only [go_sem, hE, hH, zZx]
 refine zAu l.length (fun j (_ : Unit) => ⟨[(0, .sl false 8 (l.map (Entry.row false))), (1, i64 t), (7, .sl false 8 (l.map (Entry.row false))), (8, i64 l.length), (9, i64 j)], []⟩) (fun j _ => zAt (zB6 t l) j = true) () rfl ?_
 intro j _ hj hI
 try simp only [go_sem, hE, hH, zRv]
 first | refine zAg (fun h => ?_) (fun h => ?_) | refine zAh (fun h => ?_) (fun h => ?_)
 ·have hb := h
  simp only [nf] at h
  have hlt := h; clear h
  have hs := (hx _ (zAd hlt)).1
  try refine sb ?_; try exact ⟨⟩
  repeat' (first | ((with_reducible apply ga) <;> refine gs fun h => ?_) | ((with_reducible apply an); · omega) | ((first | refine zAa ?_ | refine cvA (zBl _ _ _) ?_ | refine cvA (zTf (nth l j).Rec hs) ?_); refine st ?_) | (with_reducible first | apply jn | apply both | apply an | exact ti) | exact fj | refine st ?_ | exact fm | refine s1 ?_)
  ·rw [zGv hlt (by simp [zB6, h])]
  ·rw [zGv hlt (by simp [zB6, h])]
  ·rw [zGv hlt (by first | (simp_all [zB6]; done) | (simp_all [zB6]; omega))]
  ·exact ⟨(), rfl, zAc hI (by simp_all [zB6])⟩
  ·exact ⟨(), rfl, zAc hI (by first | (simp_all [zB6]; done) | (simp_all [zB6]; omega))⟩
 ·try simp (disch := omega) only [go_sem, hE, hH, h]
  simp only [nf] at h
  rw [show j = l.length by omega] at hI
  rw [zGX, hI]
  simp
def zCi (t : Int) (r : Replica) : Bool := zGX t r.Log && rng r.Sure 0 r.Log.length
def zWR (r : Replica) : Prop := r.Log.length ≤ maxLen ∧ ∀ e ∈ r.Log, zTg e.Rec
theorem zJF (x : Replica) (t : Int) (hw : zWR x) : ACall p_ 103 [.agg (Replica.row false x), i64 t] (fun r _ => r = bl (zCi t x)) := by
 obtain ⟨hl, hx⟩ := hw
 have hmx := zAf
 refine fg H103 fun E hE hH => ?_; simp only [go_sem, hE, hH, zZl]
 repeat' (first | ((with_reducible apply ga) <;> refine gs fun h => ?_) | ((with_reducible apply an); · omega) | ((first | refine zAa ?_ | refine cvA (zBB _ _ _) ?_); refine st ?_) | (with_reducible first | apply jn | apply both | apply an | exact ti) | exact fj | refine st ?_ | exact fm | refine s1 ?_)
 ·rw [zCi, zGX, decide_eq_false (by omega)]; simp
 ·rw [zCi, h]; simp
 refine zAu x.Log.length (fun j (v : Int) => ⟨[(1, i64 t), (2, .ptr 3000000 0 0), (5, i64 v), (6, i64 j)], [(3000000, ⟨3, [Replica.row false x]⟩)]⟩) (fun j v => zAt (zB6 t x.Log) j = true ∧ v = zMd x.Log j ∧ 1 ≤ v) 1 ⟨rfl, rfl, by omega⟩ ?_
 rintro j v hj ⟨hI, rfl, h0⟩
 have he := zWP (t := t) h0
 try simp only [go_sem, hE, hH, zRo]
 first | refine zAg (fun h1 => ?_) (fun h1 => ?_) | refine zAh (fun h1 => ?_) (fun h1 => ?_)
 ·have hb1 := h1
  simp only [nf] at h1
  have hlt := h1; clear h1
  have hs := hx _ (zAd hlt)
  try simp (disch := omega) only [go_sem, hE, hH, hb1]
  repeat' (first | ((with_reducible apply ga) <;> refine gs fun h => ?_) | ((with_reducible apply an); · omega) | ((first | refine zAa ?_ | refine cvA (zBB _ _ _) ?_ | refine cvA (zQS (nth x.Log j).Rec hs) ?_); refine st ?_) | (with_reducible first | apply jn | apply both | apply an | exact ti) | exact fj | refine st ?_ | exact fm | refine s1 ?_)
  ·rw [zCi, zGv hlt (by rw [← he, h]; simp)]; rfl
  ·rw [zCi, zGv hlt (by rw [← he, h]; simp)]; rfl
  ·rename_i hD
   have hD' := zCn.1 hD
   exact ⟨(nth x.Log j).Term, rfl, zAc hI (by rw [← he, hD, h]; rfl), by simp [zMd], by omega⟩
 ·try simp (disch := omega) only [go_sem, hE, hH, h1]
  simp only [nf] at h1
  rw [show j = x.Log.length by omega] at hI
  rw [zCi, zGX, hI]
  have : decide ((x.Log.length : Int) ≤ 60) = true := decide_eq_true (by omega)
  simp_all
def zTh (g : Group) : Prop := g.Reps.length ≤ maxLen ∧ ∀ r ∈ g.Reps, zWR r
theorem zYh {g : Group} (hw : g.wf) (hs : g.sz ≤ 2 ^ 20) : zTh g := by
 refine ⟨hw.1.1, fun r hr => ⟨(hw.1.2 r hr).1.1, fun e he => ?_⟩⟩
 have h1 := zCv (f := Replica.sz) hr
 have h2 := zCv (f := Entry.sz) he
 have h3 : Group.sz g = szL Replica.sz g.Reps := rfl
 have h4 : Replica.sz r = szL Entry.sz r.Log := rfl
 have h5 : Entry.sz e = szL ByteArray.size e.Rec.Reads + szL Write.sz e.Rec.Writes := rfl
 have h6 := zB7 (f := ByteArray.size) (l := e.Rec.Reads)
 have h7 := zB7 (f := Write.sz) (l := e.Rec.Writes)
 exact ⟨((hw.1.2 r hr).1.2 e he).2, by omega, by omega⟩
def zC9 (g : Group) : Bool := decide (g.Lead = -1) || (rng g.Lead 0 ((g.Reps.length : Int) - 1) && (nth g.Reps g.Lead.toNat).Up)
def zBH (g : Group) : Bool := (decide ((g.Reps.length : Int) = 3) || decide ((g.Reps.length : Int) = 5)) && rng g.Term 0 200 && zC9 g && g.Reps.all (zCi g.Term)
open Go.Proofs.Wb renaming H118 → z0_, zZv → z1_ in
theorem zWS (g : Group) (r : Int) (hl : g.Reps.length ≤ maxLen) : ACall p_ 118 [.agg (Group.row false g), i64 r] (fun x _ => x = bl (rng r 0 ((g.Reps.length : Int) - 1))) := Q22_
theorem zNc (x : Replica) (g : Group) (hw : zWR x) : ACall p_ 120 ([.agg (Replica.row false x)] ++ [.bx false (Group.row false g)]) (fun r _ => r = bl (!zCi g.Term x)) := by
 obtain ⟨hl, hx⟩ := hw
 have hmx := zAf
 refine fg H120 fun E hE hH => ?_; simp only [go_sem, hE, hH, zZw]
 repeat' (first | ((with_reducible apply ga) <;> refine gs fun h => ?_) | ((with_reducible apply an); · omega) | ((first | refine zAa ?_ | refine cvA (zWQ x.Log g.Term hl hx) ?_ | refine cvA (zBl _ _ _) ?_); refine st ?_) | (with_reducible first | apply jn | apply both | apply an | exact ti) | exact fj | refine st ?_ | exact fm | refine s1 ?_)
 all_goals (first | (simp_all [zCi]; done) | (simp_all [zCi] <;> first | omega | (intros; omega)))
theorem zPZ (g : Group) (hw : zTh g) : ACall p_ 73 [.agg (Group.row false g)] (fun r _ => r = bl (zBH g)) := by
 have hmx := zAf
 obtain ⟨hl, hx⟩ := hw
 have hany : (g.Reps.any fun x => !zCi g.Term x) = !(g.Reps.all (zCi g.Term)) := by
  rw [List.all_eq_not_any_not]; simp
 refine fg H73 fun E hE hH => ?_; simp only [go_sem, hE, hH, C73]
 repeat' (first | ((with_reducible apply ga) <;> refine gs fun h => ?_) | ((with_reducible apply an); · omega) | ((first | refine zAa ?_ | refine cvA (zVb _) ?_ | refine cvA (zBl _ _ _) ?_ | refine cvA (zWS g g.Lead hl) ?_); refine st ?_) | (with_reducible first | apply jn | apply both | apply an | exact ti) | exact fj | refine st ?_ | exact fm | refine s1 ?_)
 all_goals try simp only [zCn] at h
 all_goals try omega
 all_goals try (have hk : g.Lead.toNat < g.Reps.length := by omega)
 repeat' (first | ((with_reducible apply ga) <;> refine gs fun h => ?_) | ((with_reducible apply an); · omega) | ((first | refine zAa ?_ | refine cvA (zGD g.Reps _ [.bx false (Group.row false g)] (fun x => !zCi g.Term x) (by kernel_rfl) rfl hl (fun x hx' => zNc x g (hx x hx'))) ?_); refine st ?_) | (with_reducible first | apply jn | apply both | apply an | exact ti) | exact fj | refine st ?_ | exact fm | refine s1 ?_)
 all_goals try simp only [hany, Bool.not_not]
 all_goals clear hany
 all_goals (first | (simp_all [zBH, zC9]; done) | (simp_all [zBH, zC9, rng]; done) | (simp_all [zBH, zC9, rng] <;> omega) | trace_state)
theorem zOu (g : Group) (hw : zTh g) : ACall p_ 57 [.agg (Group.row false g)] (fun r _ => r = bl (zBH g)) := by
 have hmx := zAf
 obtain ⟨hl, hx⟩ := hw
 refine fg H57 fun E hE hH => ?_; simp only [go_sem, hE, hH, C57]
 repeat' (first | ((with_reducible apply ga) <;> refine gs fun h => ?_) | ((with_reducible apply an); · omega) | ((first | refine zAa ?_ | refine cvA (zBB _ _ _) ?_); refine st ?_) | (with_reducible first | apply jn | apply both | apply an | exact ti) | exact fj | refine st ?_ | exact fm | refine s1 ?_)
 ·simp [zBH, *]
 ·simp [zBH, *]
 ·have : zC9 g = false := by
   rw [zPR] at h
   simp only [zC9, rng, Bool.or_eq_false_iff, Bool.and_eq_false_iff, decide_eq_false_iff_not]
   omega
  simp [zBH, this]
 ·refine zAu g.Reps.length (fun j (_ : Unit) => ⟨[(1, .ptr 2000000 0 0), (3, i64 j)], [(2000000, ⟨3, [Group.row false g]⟩)]⟩) (fun j _ => zAt (fun i => zCi g.Term (nth g.Reps i)) j = true) () rfl ?_
  intro j _ hj hI
  try simp only [go_sem, hE, hH, zPJ]
  first | refine zAg (fun h1 => ?_) (fun h1 => ?_) | refine zAh (fun h1 => ?_) (fun h1 => ?_)
  ·have hb1 := h1
   simp only [nf] at h1
   have hlt := h1; clear h1
   try simp (disch := omega) only [go_sem, hE, hH, hb1]
   repeat' (first | ((with_reducible apply ga) <;> refine gs fun h => ?_) | ((with_reducible apply an); · omega) | ((first | refine zAa ?_ | refine cvA (zJF (nth g.Reps j) g.Term (hx _ (zAd hlt))) ?_); refine st ?_) | (with_reducible first | apply jn | apply both | apply an | exact ti) | exact fj | refine st ?_ | exact fm | refine s1 ?_)
   ·have : g.Reps.all (zCi g.Term) = false := by rw [← zAW]; exact zAF hlt h
    simp [zBH, this]
   ·first | exact ⟨(), rfl, zAc hI (by simp [h])⟩ | exact ⟨by omega, (), rfl, zAc hI (by simp [h])⟩ | exact ⟨by omega, by omega, (), rfl, zAc hI (by simp [h])⟩
  ·try simp (disch := omega) only [go_sem, hE, hH, h1]
   simp only [nf] at h1
   rw [show j = g.Reps.length by omega, zAW] at hI
   repeat' (first | ((with_reducible apply ga) <;> refine gs fun h => ?_) | ((with_reducible apply an); · omega) | (with_reducible first | apply jn | apply both | apply an | exact ti) | exact fj | refine st ?_ | exact fm | refine s1 ?_)
   all_goals try simp only [zCn] at *
   all_goals try omega
   all_goals try (have hk : g.Lead.toNat < g.Reps.length := by omega)
   repeat' (first | ((with_reducible apply ga) <;> refine gs fun h => ?_) | ((with_reducible apply an); · omega) | (with_reducible first | apply jn | apply both | apply an | exact ti) | exact fj | refine st ?_ | exact fm | refine s1 ?_)
   all_goals (first | (have hL : g.Lead = -1 := by omega) | (have hL : g.Lead ≠ -1 := by omega))
   all_goals (first | (simp_all [zBH, zC9, rng]; done) | (simp_all [zBH, zC9, rng]; omega))
 ·simp [zBH, *]
 ·have : zC9 g = false := by
   rw [zPR] at h
   simp only [zC9, rng, Bool.or_eq_false_iff, Bool.and_eq_false_iff, decide_eq_false_iff_not]
   omega
  simp [zBH, this]
 ·refine zAu g.Reps.length (fun j (_ : Unit) => ⟨[(1, .ptr 2000000 0 0), (3, i64 j)], [(2000000, ⟨3, [Group.row false g]⟩)]⟩) (fun j _ => zAt (fun i => zCi g.Term (nth g.Reps i)) j = true) () rfl ?_
  intro j _ hj hI
  try simp only [go_sem, hE, hH, zPJ]
  first | refine zAg (fun h1 => ?_) (fun h1 => ?_) | refine zAh (fun h1 => ?_) (fun h1 => ?_)
  ·have hb1 := h1
   simp only [nf] at h1
   have hlt := h1; clear h1
   try simp (disch := omega) only [go_sem, hE, hH, hb1]
   repeat' (first | ((with_reducible apply ga) <;> refine gs fun h => ?_) | ((with_reducible apply an); · omega) | ((first | refine zAa ?_ | refine cvA (zJF (nth g.Reps j) g.Term (hx _ (zAd hlt))) ?_); refine st ?_) | (with_reducible first | apply jn | apply both | apply an | exact ti) | exact fj | refine st ?_ | exact fm | refine s1 ?_)
   ·have : g.Reps.all (zCi g.Term) = false := by rw [← zAW]; exact zAF hlt h
    simp [zBH, this]
   ·first | exact ⟨(), rfl, zAc hI (by simp [h])⟩ | exact ⟨by omega, (), rfl, zAc hI (by simp [h])⟩ | exact ⟨by omega, by omega, (), rfl, zAc hI (by simp [h])⟩
  ·try simp (disch := omega) only [go_sem, hE, hH, h1]
   simp only [nf] at h1
   rw [show j = g.Reps.length by omega, zAW] at hI
   repeat' (first | ((with_reducible apply ga) <;> refine gs fun h => ?_) | ((with_reducible apply an); · omega) | (with_reducible first | apply jn | apply both | apply an | exact ti) | exact fj | refine st ?_ | exact fm | refine s1 ?_)
   all_goals try simp only [zCn] at *
   all_goals try omega
   all_goals try (have hk : g.Lead.toNat < g.Reps.length := by omega)
   repeat' (first | ((with_reducible apply ga) <;> refine gs fun h => ?_) | ((with_reducible apply an); · omega) | (with_reducible first | apply jn | apply both | apply an | exact ti) | exact fj | refine st ?_ | exact fm | refine s1 ?_)
   all_goals (first | (have hL : g.Lead = -1 := by omega) | (have hL : g.Lead ≠ -1 := by omega))
   all_goals (first | (simp_all [zBH, zC9, rng]; done) | (simp_all [zBH, zC9, rng]; omega))
theorem zYi (x : Replica) (h0 : 0 ≤ x.Sure) (h1 : x.Sure ≤ x.Log.length) : ACall p_ 145 [.agg (Replica.row false x)] (fun r _ => r = .sl false 8 ((x.Log.take x.Sure.toNat).map (Entry.row false))) := by
 refine fg H145 fun E hE hH => ?_; simp only [go_sem, hE, hH, zZN]
 repeat' (first | ((with_reducible apply ga) <;> refine gs fun h => ?_) | ((with_reducible apply an); · omega) | (with_reducible first | apply jn | apply both | apply an | exact ti) | exact fj | refine st ?_ | exact fm | refine s1 ?_)
 exact h1
def zGY (c : Clock) : Bool := rng c.Off (-5) 5
open Go.Proofs.Wb renaming H78 → z0_, C78 → z1_, zBl → z2_ in
theorem zP0 (c : Clock) : ACall p_ 78 [.agg (Clock.row false c)] (fun r _ => r = bl (zGY c)) := Q23_
theorem zR9 {α : Type} {p : α → Bool} {l : List α} : (l.any fun x => !p x) = !(l.all p) := by
 rw [List.all_eq_not_any_not]; simp
open Go.Proofs.Wb renaming H59 → z0_, C59 → z1_, zBB → z2_ in
theorem zTi (c : Clock) : ACall p_ 59 [.agg (Clock.row false c)] (fun r _ => r = bl (zGY c)) := Q23_
def zCt (l : List Write) (w : Write) : List Write := if fwF l w.Key then l.set (fwI l w.Key) w else l.take (fwI l w.Key) ++ [w] ++ l.drop (fwI l w.Key)
theorem zVe {l : List Write} {k : ByteArray} : fwI l k ≤ l.length := zJ7
theorem zP1 {l : List Write} (hs : zCd l) {n : Nat} {k : ByteArray} (hn : n ≤ l.length) (h1 : ∀ i, i < n → zAj (nth l i).Key k = true) (h2 : ∀ i, n ≤ i → i < l.length → zAj (nth l i).Key k = false) : fwI l k = n := by
 unfold fwI
 rw [zFw hn h2, zGk (zAL.2 h1)]
theorem zN4 {l : List Write} (hs : zCd l) (k : ByteArray) : (∀ i, i < fwI l k → zAj (nth l i).Key k = true) ∧ (∀ i, fwI l k ≤ i → i < l.length → zAj (nth l i).Key k = false) := by
 have key : ∀ n, n ≤ l.length → (∃ m, m ≤ n ∧ (∀ i, i < m → zAj (nth l i).Key k = true) ∧ ∀ i, m ≤ i → i < n → zAj (nth l i).Key k = false) := by
  intro n
  induction n with
  | zero => exact fun _ => ⟨0, Nat.le_refl _, fun i h => by omega, fun i _ h => by omega⟩
  | succ n ih =>
   intro hn
   obtain ⟨m, h1, h2, h3⟩ := ih (by omega)
   cases hk : zAj (nth l n).Key k with
   | true =>
    by_cases e : m = n
    ·subst e
     exact ⟨m + 1, Nat.le_refl _, fun i hi => by
      by_cases e : i = m
      ·rw [e]; exact hk
      ·exact h2 i (by omega), fun i _ _ => by omega⟩
    ·have := h3 m (Nat.le_refl _) (by omega)
     rw [zCG (hs m n (by omega) hn) hk] at this
     cases this
   | false =>
    exact ⟨m, by omega, h2, fun i hi hi2 => by
     by_cases e : i = n
     ·rw [e]; exact hk
     ·exact h3 i hi (by omega)⟩
 obtain ⟨m, h1, h2, h3⟩ := key l.length (Nat.le_refl _)
 rw [zP1 hs h1 h2 h3]
 exact ⟨h2, h3⟩
theorem zSa {l : List Write} {k : ByteArray} (hs : zCd l) : fwF l k = true ↔ fwI l k < l.length ∧ (nth l (fwI l k)).Key = k := by
 obtain ⟨e1, e2⟩ := zXu hs k
 rw [← e2, bsF, e1, Bool.and_eq_true, decide_eq_true_iff, decide_eq_true_iff, zJD]
theorem zAcs {l : List Write} {k : ByteArray} (hs : zCd l) (hf : fwF l k = false) {i : Nat} (h1 : fwI l k ≤ i) (h2 : i < l.length) : zAj k (nth l i).Key = true := by
 have a := (zN4 hs k).2 i h1 h2
 rcases zBV (nth l i).Key k with h | h | h
 ·rw [h] at a; cases a
 ·have : fwF l k = true := List.any_eq_true.2 ⟨_, zAd h2, by simp [h]⟩
  rw [this] at hf; cases hf
 ·exact h
theorem zLl {l : List Write} {w : Write} (h : fwF l w.Key = true) : zCt l w = l.set (fwI l w.Key) w := by rw [zCt, if_pos h]
theorem zKb {l : List Write} {w : Write} (h : fwF l w.Key = false) : zCt l w = l.take (fwI l w.Key) ++ [w] ++ l.drop (fwI l w.Key) := by rw [zCt, h]; rfl
theorem zWT (l : List Write) (w : Write) : (zCt l w).length ≤ l.length + 1 := by
 unfold zCt
 split
 ·rw [List.length_set]; omega
 ·rw [List.length_append, List.length_append, List.length_take, List.length_drop]; simp; omega
theorem zSb {α : Type} [Inhabited α] {l : List α} {i j : Nat} {x : α} (h : j < l.length) : nth (l.set i x) j = if i = j then x else nth l j := by
 rw [zA5 (by simpa using h), List.getElem_set, zA5 h]
theorem zLm {α : Type} [Inhabited α] {a b : List α} {j : Nat} (h : j < a.length) : nth (a ++ b) j = nth a j := by
 rw [zA5 (by rw [List.length_append]; omega), List.getElem_append_left h, zA5 h]
theorem zP2 {α : Type} [Inhabited α] {a b : List α} {j : Nat} (h : a.length ≤ j) : nth (a ++ b) j = nth b (j - a.length) := by
 rw [nth, nth, List.getD_eq_getElem?_getD, List.getD_eq_getElem?_getD, List.getElem?_append_right h]
theorem zVf {α : Type} [Inhabited α] {l : List α} {i j : Nat} (h : j < i) : nth (l.take i) j = nth l j := by
 rw [nth, nth, List.getD_eq_getElem?_getD, List.getD_eq_getElem?_getD, List.getElem?_take, if_pos h]
theorem zWU {l : List Write} {w : Write} (hs : zCd l) : zCd (zCt l w) := by
 cases hf : fwF l w.Key with
 | true =>
  obtain ⟨a, b⟩ := (zSa hs).1 hf
  rw [zLl hf]
  intro i j h1 h2
  rw [List.length_set] at h2
  rw [zSb (by omega), zSb h2]
  have := hs i j h1 h2
  split <;> split
  ·omega
  ·rename_i e _; rw [← e, b] at this; exact this
  ·rename_i _ e; rw [← e, b] at this; exact this
  ·exact this
 | false =>
  obtain ⟨q1, q2⟩ := zN4 hs w.Key
  have hle := zVe (l := l) (k := w.Key)
  have hl1 : (l.take (fwI l w.Key)).length = fwI l w.Key := by rw [List.length_take]; omega
  have hl2 : (l.take (fwI l w.Key) ++ [w]).length = fwI l w.Key + 1 := by rw [List.length_append, hl1]; rfl
  have key : ∀ i, i < l.length + 1 → nth (zCt l w) i = if i < fwI l w.Key then nth l i else if i = fwI l w.Key then w else nth l (i - 1) := by
   intro i hi
   rw [zKb hf]
   split
   ·rename_i h; rw [zLm (by omega), zLm (by omega), zVf h]
   ·rename_i h
    split
    ·rename_i e; rw [zLm (by omega), zP2 (by omega), hl1, e, Nat.sub_self]; rfl
    ·rename_i e
     rw [zP2 (by omega), hl2, zWO]
     congr 1; omega
  have hlen : (zCt l w).length = l.length + 1 := by
   rw [zKb hf, List.length_append, hl2, List.length_drop]; omega
  intro i j h1 h2
  rw [hlen] at h2
  rw [key i (by omega), key j h2]
  by_cases a1 : i < fwI l w.Key <;> by_cases a2 : i = fwI l w.Key <;> by_cases b1 : j < fwI l w.Key <;> by_cases b2 : j = fwI l w.Key <;>
   simp only [a1, a2, b1, b2, ↓reduceIte, Nat.lt_irrefl]
  all_goals first
   | omega
   | exact hs _ _ (by omega) (by omega)
   | exact q1 _ (by omega)
   | exact zAcs hs hf (by omega) (by omega)
theorem zWV {l : List Write} {w x : Write} (h : x ∈ zCt l w) : x = w ∨ x ∈ l := by
 unfold zCt at h
 split at h
 ·exact (List.mem_or_eq_of_mem_set h).symm
 ·simp only [List.mem_append, List.mem_singleton] at h
  rcases h with (h | h) | h
  ·exact .inr (List.mem_of_mem_take h)
  ·exact .inl h
  ·exact .inr (List.mem_of_mem_drop h)
theorem zQT (l : List Write) (w : Write) (hl : l.length ≤ 2 ^ 20) (hs : zCd l) : ACall p_ 86 [.sl true 3 (l.map (Write.row true)), .agg (Write.row false w)] (fun r a => r = .sl true 3 ((zCt l w).map (Write.row true)) ∧ a = [.any, .agg (Write.row false w)]) := by
 have hmx := zAf
 have hle := zVe (l := l) (k := w.Key)
 have e1 : (fwI l w.Key : Int).toNat = fwI l w.Key := by omega
 cases h1 : fwF l w.Key with
 | true =>
  obtain ⟨a, b⟩ := (zSa hs).1 h1
  have i1 := zGu l w.Key (by omega) hs
  rw [h1] at i1
  have e := zLl h1
  refine zJo [true, false] (hqA H86) (hqB H86) ⟨by simp only [go_sem], fun E hE hH => ?_⟩; simp only [go_sem] at hE hH; simp only [go_sem, hE, hH, C86]
  all_goals (have y1_ := e1; repeat' (first | ((with_reducible apply ga) <;> refine zBK fun h => ?_) | ((with_reducible apply an); · omega) | ((first | refine zAa ?_ | refine cvA (i1) ?_); refine zAq ?_) | refine jn _ ?_ ?_ | (with_reducible first | apply both | apply an | exact ti) | exact zDH | refine zAq ?_ | exact zBM | refine zBL ?_))
  all_goals (rw [e, List.map_set]; rfl)
 | false =>
  have i1 := zGu l w.Key (by omega) hs
  rw [h1] at i1
  have e := zKb h1
  refine zJo [true, false] (hqA H86) (hqB H86) ⟨by simp only [go_sem], fun E hE hH => ?_⟩; simp only [go_sem] at hE hH; simp only [go_sem, hE, hH, C86]
  all_goals (have y1_ := e1; repeat' (first | ((with_reducible apply ga) <;> refine zBK fun h => ?_) | ((with_reducible apply an); · omega) | (refine zAD [true, false, false] ?_; refine zAq ?_; refine cmA (zL6 l [w] (fwI l w.Key) (by omega) (by omega) (by omega) (by simp)) ?_; refine zAq ?_) | ((first | refine zAa ?_ | refine cvA (i1) ?_); refine zAq ?_) | refine jn _ ?_ ?_ | (with_reducible first | apply both | apply an | exact ti) | exact zDH | refine zAq ?_ | exact zBM | refine zBL ?_))
  all_goals rw [e]
theorem zEo {α β : Type} [Inhabited α] {f : β → α → β} {b : β} {l : List α} {j : Nat} (h : j < l.length) : (l.take (j + 1)).foldl f b = f ((l.take j).foldl f b) (nth l j) := by
 simp only [zAE h, List.foldl_append, List.foldl_cons, List.foldl_nil]
theorem zJG {ws : List Write} : ∀ {l : List Write}, zCd l → zCd (ws.foldl zCt l) := by
 induction ws with
 | nil => exact fun h => h
 | cons w t ih => exact fun h => ih (zWU h)
theorem zJH {ws : List Write} : ∀ {l : List Write}, (ws.foldl zCt l).length ≤ l.length + ws.length := by
 induction ws with
 | nil => intro l; simp
 | cons w t ih =>
  intro l
  have := ih (l := zCt l w)
  have := zWT l w
  simp only [List.foldl_cons, List.length_cons]; omega
theorem zVg {ws : List Write} : ∀ {l : List Write} {x : Write}, x ∈ ws.foldl zCt l → x ∈ ws ∨ x ∈ l := by
 induction ws with
 | nil => exact fun h => .inr h
 | cons w t ih =>
  intro l x h
  rcases ih h with h | h
  ·exact .inl (List.mem_cons_of_mem _ h)
  ·rcases zWV h with h | h
   ·exact .inl (h ▸ List.mem_cons_self)
   ·exact .inr h
theorem zWW {l : List Write} {k : ByteArray} {x : Nat} (hs : zCd l) (hx : x < l.length) (h2 : (nth l x).Key = k) : fwF l k = true ∧ fwI l k = x := by
 refine ⟨List.any_eq_true.2 ⟨_, zAd hx, by simp [h2]⟩, zP1 hs (by omega) (fun i hi => by have := hs i x hi hx; rwa [h2] at this) fun i h1 h3 => ?_⟩
 by_cases e : i = x
 ·rw [e, h2]; exact zBu _
 ·have := hs x i (by omega) h3
  rw [h2] at this
  exact zCH this
theorem zAbk {l : List Write} {k : ByteArray} {x : Nat} (hs : zCd l) (hx : x ≤ l.length) (h1 : ∀ i, x ≤ i → i < l.length → zAj k (nth l i).Key = true) (h2 : x = 0 ∨ zAj (nth l (x - 1)).Key k = true) : fwF l k = false ∧ fwI l k = x := by
 have hlo : ∀ i, i < x → zAj (nth l i).Key k = true := by
  intro i hi
  rcases h2 with h2 | h2
  ·omega
  ·by_cases e : i = x - 1
   ·rw [e]; exact h2
   ·exact zCG (hs i (x - 1) (by omega) (by omega)) h2
 refine ⟨?_, zP1 hs hx hlo fun i a b => zCH (h1 i a b)⟩
 rw [fwF, List.any_eq_false]
 intro w hw
 obtain ⟨i, hi, rfl⟩ := List.getElem_of_mem hw
 rw [← zA5 hi, decide_eq_true_iff]
 intro e
 by_cases a : i < x
 ·have := hlo i a; rw [e, zBu] at this; cases this
 ·have := h1 i (by omega) hi; rw [e, zBu] at this; cases this
theorem zVh (l : List Write) (w : Write) (hl : l.length ≤ 2 ^ 20) (hs : zCd l) : ACall p_ 66 [.sl false 3 (l.map (Write.row false)), .agg (Write.row false w)] (fun r _ => r = .sl true 3 ((zCt l w).map (Write.row true))) := by
 have hmx := zAf
 refine fg H66 fun E hE hH => ?_; simp only [go_sem, hE, hH, C66]
 try simp only [go_sem, hE, hH]
 refine zIe (fun (x : Nat) => ⟨[(0, .sl false 3 (l.map (Write.row false))), (3, .ptr 4000000 0 0), (5, i64 x)], [(4000000, ⟨3, [Write.row false w]⟩)]⟩) (fun x => x ≤ l.length ∧ ∀ i, x ≤ i → i < l.length → zAj w.Key (nth l i).Key = true) (fun x => x) l.length ⟨Nat.le_refl _, fun i a b => by omega⟩ ?_
 rintro x ⟨hx, hgt⟩
 have e1 : ((x : Int) - 1).toNat = x - 1 := by omega
 have e2 : (l.take x).length = x := by rw [List.length_take]; omega
 have e3 : (l.drop x).take (l.length - x) = l.drop x := List.take_of_length_le (by rw [List.length_drop]; exact Nat.le_refl _)
 have e4 : ∀ r : List T, (List.map (fun x : Write => [str x.Key, str x.Val, bl x.Gone]) (l.take x) ++ [r]).take (x + 1) = List.map (fun x : Write => [str x.Key, str x.Val, bl x.Gone]) (l.take x) ++ [r] := fun r => List.take_of_length_le (by rw [List.length_append, List.length_map, e2]; exact Nat.le_refl _)
 have e5 : (l.drop x).length = l.length - x := List.length_drop
 have e6 : (l.take x).take x = l.take x := by rw [List.take_take, Nat.min_self]
 have e7 : ∀ r : List T, (List.map (fun x : Write => [str x.Key, str x.Val, bl x.Gone]) (l.take x) ++ [r]).length = x + 1 := fun r => by rw [List.length_append, List.length_map, e2]; rfl
 have end1 : ∀ {h0 : 0 < x}, (nth l (x - 1)).Key = w.Key → (l.map (Write.row true)).set (x - 1) (Write.row true w) = (zCt l w).map (Write.row true) := by
  intro h0 h
  obtain ⟨a, b⟩ := zWW hs (x := x - 1) (by omega) h
  rw [zLl a, b, List.map_set]
 have end2 : x = 0 ∨ zAj (nth l (x - 1)).Key w.Key = true → (l.take x).map (Write.row true) ++ [Write.row true w] ++ (l.drop x).map (Write.row true) = (zCt l w).map (Write.row true) := by
  intro h
  obtain ⟨a, b⟩ := zAbk hs hx hgt h
  rw [zKb a, b, List.map_append, List.map_append]; rfl
 try simp only [go_sem, hE, hH, zUZ]
 repeat' (first | ((with_reducible first | refine zAg ?_ ?_ | refine zAh ?_ ?_) <;> (intro h; have hb := h; (try simp only [nf] at h); simp (disch := omega) only [go_sem, hE, hH, e1, e2, e3, e4, e5, e6, e7, hb]; (try clear hb))) | ((with_reducible refine And.intro ?_ ?_); · omega) | (with_reducible first | apply jn | apply both | refine And.intro ?_ ?_) | ((with_reducible apply zBb); (try (simp (disch := omega) only [go_sem, hE, hH, e1, e2, e3, e4, e5, e6, e7])); first | done | rfl) | (simp (disch := omega) only [go_sem, hE, hH, e1, e2, e3, e4, e5, e6, e7]) | ((first | apply zAC | apply zA9) <;> (simp only [go_sem, hE, hH, e1, e2, e3, e4, e5, e6, e7]; done)) | (simp only [go_sem, hE, hH, e1, e2, e3, e4, e5, e6, e7]) | fail)
 all_goals try omega
 ·refine ⟨x - 1, by rw [show ((x : Int) - 1) = ((x - 1 : Nat) : Int) by omega], ⟨by omega, fun i h1 h2 => ?_⟩, by omega⟩
  by_cases e : i = x - 1
  ·rw [e]; assumption
  ·exact hgt i (by omega) h2
 ·exact congrArg (T.sl true 3) (end1 (h0 := by omega) (by assumption))
 ·exact congrArg (T.sl true 3) (end2 (.inr (by
   rcases zBV (nth l (x - 1)).Key w.Key with q | q | q
   ·exact q
   ·contradiction
   ·simp_all)))
 ·exact congrArg (T.sl true 3) (end2 (.inl (by omega)))
def zEp (x : Lock) : Bool := zA2 x.Key && rng x.Txn 1 60
def zJI (x y : Lock) : Bool := decide (x.Key = y.Key) && !decide (x.Txn = y.Txn) && (x.Write || y.Write)
def zEq (x y : Lock) : Bool := zJI x y || (decide (x.Key = y.Key) && decide (x.Txn = y.Txn))
def zDg (l : List Lock) : Bool := zAt (fun i => zEp (nth l i) && !(l.take i).any fun y => zEq (nth l i) y) l.length && decide ((l.length : Int) ≤ 60)
theorem zVi (x : Lock) (hw : x.wf) : ACall p_ 122 [.agg (Lock.row false x)] (fun r _ => r = bl (zEp x)) := by
 refine fg H122 fun E hE hH => ?_; simp only [go_sem, hE, hH, zZy]
 repeat' (first | ((with_reducible apply ga) <;> refine gs fun h => ?_) | ((with_reducible apply an); · omega) | ((first | refine zAa ?_ | refine cvA (zFS _ hw.1) ?_ | refine cvA (zPW _) ?_); refine st ?_) | (with_reducible first | apply jn | apply both | apply an | exact ti) | exact fj | refine st ?_ | exact fm | refine s1 ?_)
 all_goals (first | (simp_all [zEp]; done) | (simp_all [zEp] <;> first | omega | (intros; omega)))
theorem zTj (x : Lock) (hw : x.wf) : ACall p_ 104 [.agg (Lock.row false x)] (fun r _ => r = bl (zEp x)) := by
 refine fg H104 fun E hE hH => ?_; simp only [go_sem, hE, hH, zZm]
 repeat' (first | ((with_reducible apply ga) <;> refine gs fun h => ?_) | ((with_reducible apply an); · omega) | ((first | refine zAa ?_ | refine cvA (zDp _ hw.1) ?_ | refine cvA (zBB _ _ _) ?_); refine st ?_) | (with_reducible first | apply jn | apply both | apply an | exact ti) | exact fj | refine st ?_ | exact fm | refine s1 ?_)
 all_goals (first | (simp_all [zEp]; done) | (simp_all [zEp] <;> first | omega | (intros; omega)))
open Go.Proofs.Wb renaming H125 → z0_ in
theorem zQU (x y : Lock) : ACall p_ 125 [.agg (Lock.row false x), .agg (Lock.row false y)] (fun r _ => r = bl (zJI x y)) := Q24_
open Go.Proofs.Wb renaming H105 → z0_ in
theorem zQV (x y : Lock) : ACall p_ 105 [.agg (Lock.row false x), .agg (Lock.row false y)] (fun r _ => r = bl (zJI x y)) := Q24_
theorem zNd (y x : Lock) : ACall p_ 124 ([.agg (Lock.row false y)] ++ [.bx false (Lock.row false x)]) (fun r _ => r = bl (zEq x y)) := by
 refine fg H124 fun E hE hH => ?_; simp only [go_sem, hE, hH, zZz]
 repeat' (first | ((with_reducible apply ga) <;> refine gs fun h => ?_) | ((with_reducible apply an); · omega) | ((first | refine zAa ?_ | refine cvA (zQU x y) ?_); refine st ?_) | (with_reducible first | apply jn | apply both | apply an | exact ti) | exact fj | refine st ?_ | exact fm | refine s1 ?_)
 all_goals (first | (simp_all [zEq]; done) | (simp_all [zEq] <;> first | omega | (intros; omega)))
theorem zP3 (l : List Lock) (hl : wfL Lock.wf l) : ACall p_ 74 [.sl false 3 (l.map (Lock.row false))] (fun r _ => r = bl (zDg l)) := by
 obtain ⟨hl, hx⟩ := hl
 have hmx := zAf
 refine fg H74 fun E hE hH => ?_; simp only [go_sem, hE, hH, C74]
 repeat' (first | ((with_reducible apply ga) <;> refine gs fun h => ?_) | ((with_reducible apply an); · omega) | refine jn _ ?_ ?_ | (with_reducible first | apply both | apply an | exact ti) | exact fe | refine st ?_ | exact fm | refine s1 ?_)
 refine zAR l.length (fun j (_ : Unit) => ⟨[(0, .sl false 3 (l.map (Lock.row false))), (5, .sl false 3 (l.map (Lock.row false))), (6, i64 l.length), (7, i64 j)], []⟩) (fun j _ => zAt (fun i => zEp (nth l i) && !(l.take i).any fun y => zEq (nth l i) y) j = true) () rfl rfl ?_
 intro j _ hj hI
 try simp only [go_sem, hE, hH, zU0]
 first | refine zAg (fun h => ?_) (fun h => ?_) | refine zAh (fun h => ?_) (fun h => ?_)
 ·have hb := h
  simp only [nf] at h
  have hlt := h; clear h
  have hw := hx _ (zAd hlt)
  have ht : ((l.map (Lock.row false)).take j) = (l.take j).map (Lock.row false) := by rw [List.map_take]
  try simp (disch := omega) only [go_sem, hE, hH, hb, ht]
  repeat' (first | ((with_reducible apply ga) <;> refine gs fun h => ?_) | ((with_reducible apply an); · omega) | ((first | refine zAa ?_ | refine cvA (zVi _ hw) ?_ | refine cvA (zIp (l.take j) _ [.bx false (Lock.row false (nth l j))] (fun y => zEq (nth l j) y) (by kernel_rfl) rfl (by rw [List.length_take]; omega) (fun y _ => zNd y _)) ?_); refine st ?_) | refine jn _ ?_ ?_ | (with_reducible first | apply both | apply an | exact ti) | exact fe | refine st ?_ | exact fm | refine s1 ?_)
  all_goals first | (rw [zDg, zAF hlt (by simp_all)]; rfl) | (exact ⟨(), rfl, zAc hI (by simp_all)⟩)
 ·try simp (disch := omega) only [go_sem, hE, hH, h]
  simp only [nf] at h
  rw [show j = l.length by omega] at hI
  repeat' (first | ((with_reducible apply ga) <;> refine gs fun h => ?_) | ((with_reducible apply an); · omega) | refine jn _ ?_ ?_ | (with_reducible first | apply both | apply an | exact ti) | exact fe | refine st ?_ | exact fm | refine s1 ?_)
  all_goals first | (rw [zDg, hI]; simp_all; done) | (simp_all [zDg]; done)
theorem zTk (l : List Lock) (hl : wfL Lock.wf l) : ACall p_ 58 [.sl false 3 (l.map (Lock.row false))] (fun r _ => r = bl (zDg l)) := by
 obtain ⟨hl, hx⟩ := hl
 have hmx := zAf
 refine fg H58 fun E hE hH => ?_; simp only [go_sem, hE, hH, C58]
 repeat' (first | ((with_reducible apply ga) <;> refine gs fun h => ?_) | ((with_reducible apply an); · omega) | refine jn _ ?_ ?_ | (with_reducible first | apply both | apply an | exact ti) | exact fe | refine st ?_ | exact fm | refine s1 ?_)
 refine zAR l.length (fun j (_ : Unit) => ⟨[(0, .sl false 3 (l.map (Lock.row false))), (7, .sl false 3 (l.map (Lock.row false))), (8, i64 l.length), (9, i64 j)], []⟩) (fun j _ => zAt (fun i => zEp (nth l i) && !(l.take i).any fun y => zEq (nth l i) y) j = true) () rfl rfl ?_
 intro j _ hj hI
 try simp only [go_sem, hE, hH, zUV]
 first | refine zAg (fun h => ?_) (fun h => ?_) | refine zAh (fun h => ?_) (fun h => ?_)
 ·have hb := h
  simp only [nf] at h
  have hlt := h; clear h
  have hw := hx _ (zAd hlt)
  try refine sb ?_; try exact ⟨⟩
  repeat' (first | ((with_reducible apply ga) <;> refine gs fun h => ?_) | ((with_reducible apply an); · omega) | ((first | refine zAa ?_ | refine cvA (zTj _ hw) ?_); refine st ?_) | refine jn _ ?_ ?_ | (with_reducible first | apply both | apply an | exact ti) | exact fe | refine st ?_ | exact fm | refine s1 ?_)
  ·rw [zDg, zAF hlt (by simp_all)]; rfl
  have hlj : (l.take j).length = j := by rw [List.length_take]; omega
  refine zAR (l.take j).length (fun k (_ : Unit) => ⟨[(0, .sl false 3 (l.map (Lock.row false))), (4, .ptr 5000000 0 0), (7, .sl false 3 (l.map (Lock.row false))), (8, i64 l.length), (9, i64 j), (19, .sl false 3 ((l.take j).map (Lock.row false))), (20, i64 (l.take j).length), (21, i64 k)], [(5000000, ⟨3, [Lock.row false (nth l j)]⟩)]⟩) (fun k _ => zAt (fun i => !zEq (nth l j) (nth (l.take j) i)) k = true) () (by simp [hlj, Lock.row]) rfl ?_
  intro k _ hk hK
  try simp only [go_sem, hE, hH, zUU]
  first | refine zAg (fun h2 => ?_) (fun h2 => ?_) | refine zAh (fun h2 => ?_) (fun h2 => ?_)
  ·have hb2 := h2
   simp only [nf] at h2
   have hlt2 : k < (l.take j).length := by omega
   try simp (disch := omega) only [go_sem, hE, hH, hb2]
   have hany : zEq (nth l j) (nth (l.take j) k) = true → ((l.take j).any fun y => zEq (nth l j) y) = true := fun h => List.any_eq_true.2 ⟨_, zAd hlt2, h⟩
   repeat' (first | ((with_reducible apply ga) <;> refine gs fun h => ?_) | ((with_reducible apply an); · omega) | ((first | refine zAa ?_ | refine cvA (zQV (nth l j) (nth (l.take j) k)) ?_); refine st ?_) | refine jn _ ?_ ?_ | (with_reducible first | apply both | apply an | exact ti) | exact fe | refine st ?_ | exact fm | refine s1 ?_)
   all_goals first | (rw [zDg, zAF hlt (by rw [hany (by simp_all [zEq])]; simp)]; rfl) | (exact ⟨(), rfl, zAc hK (by simp_all [zEq])⟩)
  ·try simp (disch := omega) only [go_sem, hE, hH, h2]
   simp only [nf] at h2
   rw [show k = (l.take j).length by omega] at hK
   have hN : ((l.take j).any fun y => zEq (nth l j) y) = false := by
    rw [zAW (p := fun y : Lock => !zEq (nth l j) y)] at hK
    rw [List.any_eq_false]
    intro x hx'
    have := List.all_eq_true.1 hK x hx'
    simpa using this
   repeat' (first | ((with_reducible apply ga) <;> refine gs fun h => ?_) | ((with_reducible apply an); · omega) | refine jn _ ?_ ?_ | (with_reducible first | apply both | apply an | exact ti) | exact fe | refine st ?_ | exact fm | refine s1 ?_)
   all_goals first | (exact ⟨(), rfl, zAc hI (by simp_all)⟩)
 ·try simp (disch := omega) only [go_sem, hE, hH, h]
  simp only [nf] at h
  rw [show j = l.length by omega] at hI
  repeat' (first | ((with_reducible apply ga) <;> refine gs fun h => ?_) | ((with_reducible apply an); · omega) | refine jn _ ?_ ?_ | (with_reducible first | apply both | apply an | exact ti) | exact fe | refine st ?_ | exact fm | refine s1 ?_)
  all_goals first | (rw [zDg, hI]; simp_all; done) | (simp_all [zDg]; done)
def zE1 (o : Op) : Bool := rng o.Kind 1 7 && zA2 o.Key && zDf o.Val && ((decide (o.Kind = 2) || decide (o.Kind = 7)) || decide (o.Val = ⟨⟨[]⟩⟩)) && rng o.By (-9999) 9999 && ((decide (o.Kind = 4) || decide (o.Kind = 5)) || decide (o.By = 0))
def zGZ (l : List Op) : Bool := decide ((l.length : Int) ≤ 8) && l.all zE1
theorem zQW : zDf ⟨⟨[]⟩⟩ = true := by decide
open Go.Proofs.Wb renaming H214 → z0_, C214 → z1_ in
theorem zVj (k : Int) : ACall p_ 214 [i64 k] (fun r _ => r = bl (decide (k = 2) || decide (k = 7))) := Q25_
open Go.Proofs.Wb renaming H215 → z0_, C215 → z1_ in
theorem zWX (k : Int) : ACall p_ 215 [i64 k] (fun r _ => r = bl (decide (k = 4) || decide (k = 5))) := Q25_
theorem zYj (o : Op) (hw : o.wf) : ACall p_ 190 [.agg (Op.row false o)] (fun r _ => r = bl (zE1 o)) := by
 have hmx := zAf
 refine fg H190 fun E hE hH => ?_; simp only [go_sem, hE, hH, C190]
 repeat' (first | ((with_reducible apply ga) <;> refine gs fun h => ?_) | ((with_reducible apply an); · omega) | ((first | refine zAa ?_ | refine cvA (zBl _ _ _) ?_ | refine cvA (zFS _ hw.2.1) ?_ | refine cvA (zL8 _ hw.2.2.1) ?_ | refine cvA (zVj _) ?_ | refine cvA (zWX _) ?_); refine st ?_) | (with_reducible first | apply jn | apply both | apply an | exact ti) | exact fj | refine st ?_ | exact fm | refine s1 ?_)
 all_goals (first | (simp_all [zE1]; done) | (simp_all [zE1] <;> first | omega | (intros; omega)))
theorem zYk (o : Op) (hw : o.wf) : ACall p_ 156 [.agg (Op.row false o)] (fun r _ => r = bl (zE1 o)) := by
 have hmx := zAf
 refine fg H156 fun E hE hH => ?_; simp only [go_sem, hE, hH, zZS]
 repeat' (first | ((with_reducible apply ga) <;> refine gs fun h => ?_) | ((with_reducible apply an); · omega) | ((first | refine zAa ?_ | refine cvA (zDp _ hw.2.1) ?_ | refine cvA (zLj _ hw.2.2.1) ?_ | refine cvA (zBB _ _ _) ?_); refine st ?_) | (with_reducible first | apply jn | apply both | apply an | exact ti) | exact fj | refine st ?_ | exact fm | refine s1 ?_)
 all_goals (first | (simp_all [zE1, zQW, rng]; done) | (have hk : rng o.Kind 1 7 = false := (zPR.2 (by omega)); rw [zE1, hk]; rfl) | trace_state)
theorem zP4 (o : Op) (hw : o.wf) : ACall p_ 189 ([.agg (Op.row false o)] ++ []) (fun r _ => r = bl (!zE1 o)) := by
 refine fg H189 fun E hE hH => ?_; simp only [go_sem, hE, hH, C189]
 repeat' (first | ((with_reducible apply ga) <;> refine gs fun h => ?_) | ((with_reducible apply an); · omega) | ((first | refine zAa ?_ | refine cvA (zYj o hw) ?_); refine st ?_) | refine jn _ ?_ ?_ | (with_reducible first | apply both | apply an | exact ti) | exact fe | refine st ?_ | exact fm | refine s1 ?_)
theorem zTl (l : List Op) (hl : wfL Op.wf l) : ACall p_ 166 [.sl false 4 (l.map (Op.row false))] (fun r _ => r = bl (zGZ l)) := by
 obtain ⟨hl, hx⟩ := hl
 have hmx := zAf
 have hn : (l.any fun o => !zE1 o) = !(l.all zE1) := zR9
 refine fg H166 fun E hE hH => ?_; simp only [go_sem, hE, hH, zZZ]
 repeat' (first | ((with_reducible apply ga) <;> refine gs fun h => ?_) | ((with_reducible apply an); · omega) | ((first | refine zAa ?_ | refine cvA (zJB l _ [] (fun o => !zE1 o) (by kernel_rfl) rfl hl (fun o ho => zP4 o (hx o ho))) ?_); refine st ?_) | (with_reducible first | apply jn | apply both | apply an | exact ti) | exact fj | refine st ?_ | exact fm | refine s1 ?_)
 all_goals first | (simp_all [zGZ]; done) | (have hl8 : decide ((l.length : Int) ≤ 8) = false := decide_eq_false (by omega); rw [zGZ, hl8]; rfl)
theorem zVk (l : List Op) (hl : wfL Op.wf l) : ACall p_ 106 [.sl false 4 (l.map (Op.row false))] (fun r _ => r = bl (zGZ l)) := by
 obtain ⟨hl, hx⟩ := hl
 have hmx := zAf
 refine fg H106 fun E hE hH => ?_; simp only [go_sem, hE, hH, zZn]
 repeat' (first | ((with_reducible apply ga) <;> refine gs fun h => ?_) | ((with_reducible apply an); · omega) | refine jn _ ?_ ?_ | (with_reducible first | apply both | apply an | exact ti) | exact fe | refine st ?_ | exact fm | refine s1 ?_)
 refine zAR l.length (fun j (_ : Unit) => ⟨[(0, .sl false 4 (l.map (Op.row false))), (5, .sl false 4 (l.map (Op.row false))), (6, i64 l.length), (7, i64 j)], []⟩) (fun j _ => zAt (fun i => zE1 (nth l i)) j = true) () rfl rfl ?_
 intro j _ hj hI
 try simp only [go_sem, hE, hH, zRp]
 first | refine zAg (fun h => ?_) (fun h => ?_) | refine zAh (fun h => ?_) (fun h => ?_)
 ·have hb := h
  simp only [nf] at h
  have hlt := h; clear h
  have hw := hx _ (zAd hlt)
  try refine sb ?_; try exact ⟨⟩
  repeat' (first | ((with_reducible apply ga) <;> refine gs fun h => ?_) | ((with_reducible apply an); · omega) | ((first | refine zAa ?_ | refine cvA (zYk _ hw) ?_); refine st ?_) | refine jn _ ?_ ?_ | (with_reducible first | apply both | apply an | exact ti) | exact fe | refine st ?_ | exact fm | refine s1 ?_)
  all_goals first | (have e : l.all zE1 = false := (by rw [← zAW]; exact zAF hlt (by assumption)); rw [zGZ, e, Bool.and_false]; done) | (exact ⟨(), rfl, zAc hI (by assumption)⟩)
 ·try simp (disch := omega) only [go_sem, hE, hH, h]
  simp only [nf] at h
  rw [show j = l.length by omega, zAW] at hI
  repeat' (first | ((with_reducible apply ga) <;> refine gs fun h => ?_) | ((with_reducible apply an); · omega) | refine jn _ ?_ ?_ | (with_reducible first | apply both | apply an | exact ti) | exact fe | refine st ?_ | exact fm | refine s1 ?_)
  all_goals first | (rw [zGZ, hI]; simp_all; done) | (simp_all [zGZ]; done)
end Go.Proofs.Wb

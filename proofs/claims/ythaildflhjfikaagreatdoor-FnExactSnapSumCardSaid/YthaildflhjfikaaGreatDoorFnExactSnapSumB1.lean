import Derived.Test.YthaildflhjfikaaGreatDoorFnExactSnapSumN0
import Derived.Laws.Externs
set_option linter.all false
set_option maxHeartbeats 4000000
namespace Go.Proofs.Wb
open Tryz renaming prog → p_
open Go Go.Am
def stored (v : ByteArray) (gone : Bool) : Bool := zC8 v && !(gone && !decide (v = ⟨⟨[]⟩⟩))
theorem zFP {α β : Type} [Inhabited α] [Inhabited β] {f : α → β} {l : List α} {i : Nat} (h : i < l.length) : nth (l.map f) i = f (nth l i) := by
 rw [zA6 (by simpa using h), zA6 h, List.getElem_map]
theorem zLV (s : ByteArray) (hs : s.size ≤ maxLen) : ACall p_ 175 [str s] (fun r _ => r = bl (zC8 s)) := by
 refine fg H175 fun E hE hH => ?_; simp only [go_sem, hE, hH, zZC]
 repeat' (first | ((with_reducible apply ga) <;> refine gs fun h => ?_) | ((with_reducible apply an); · omega) | ((first | refine zAa ?_ | refine cvA (zKo _ _ hs) ?_); refine st ?_) | refine jn _ ?_ ?_ | (with_reducible first | apply both | apply an | exact ti) | exact fe | refine st ?_ | exact fm | refine s1 ?_)
 all_goals (first | (simp_all [zC8]; done) | (simp_all [zC8] <;> first | omega | (intros; omega)))
theorem zK4 (s : ByteArray) (hs : s.size ≤ maxLen) : ACall p_ 111 [str s] (fun r _ => r = bl (zC8 s)) := by
 refine fg H111 fun E hE hH => ?_; simp only [go_sem, hE, hH, zYZ]
 repeat' (first | ((with_reducible apply ga) <;> refine gs fun h => ?_) | ((with_reducible apply an); · omega) | ((first | refine zAa ?_ | refine cvA (zLU _ _ hs (by decide)) ?_); refine st ?_) | refine jn _ ?_ ?_ | (with_reducible first | apply both | apply an | exact ti) | exact fe | refine st ?_ | exact fm | refine s1 ?_)
 all_goals (first | (simp_all [zC8]; done) | (simp_all [zC8] <;> first | omega | (intros; omega)))
theorem zHc (s : ByteArray) (g : Bool) (hs : s.size ≤ maxLen) : ACall p_ 143 [str s, bl g] (fun r _ => r = bl (stored s g)) := by
 refine fg H143 fun E hE hH => ?_; simp only [go_sem, hE, hH, zZl]
 repeat' (first | ((with_reducible apply ga) <;> refine gs fun h => ?_) | ((with_reducible apply an); · omega) | ((first | refine zAa ?_ | refine cvA (zLV _ hs) ?_); refine st ?_) | refine jn _ ?_ ?_ | (with_reducible first | apply both | apply an | exact ti) | exact fe | refine st ?_ | exact fm | refine s1 ?_)
 all_goals simp_all [stored]
theorem zLW (k s : ByteArray) (g : Bool) (hk : k.size ≤ maxLen) (hs : s.size ≤ maxLen) : ACall p_ 70 [str k, str s, bl g] (fun r _ => r = bl (zAX k && stored s g)) := by
 refine fg H70 fun E hE hH => ?_; simp only [go_sem, hE, hH, C70]
 repeat' (first | ((with_reducible apply ga) <;> refine gs fun h => ?_) | ((with_reducible apply an); · omega) | ((first | refine zAa ?_ | refine cvA (zDi _ hk) ?_ | refine cvA (zK4 _ hs) ?_); refine st ?_) | refine jn _ ?_ ?_ | (with_reducible first | apply both | apply an | exact ti) | exact fe | refine st ?_ | exact fm | refine s1 ?_)
 all_goals simp_all [stored]
def zAV (l : List Write) : Bool := decide ((l.length : Int) ≤ 24) && zAq (fun i => (zAX (nth l i).Key && stored (nth l i).Val (nth l i).Gone) && (decide (i = 0) || zAj (nth l (i - 1)).Key (nth l i).Key)) l.length
theorem zIw (l : List Write) : zAV l = (decide ((l.length : Int) ≤ 24) && zBU (l.map (·.Key)) && !l.any fun w => !stored w.Val w.Gone) := by
 have h1 : (!l.any fun w => !stored w.Val w.Gone) = zAq (fun i => stored (nth l i).Val (nth l i).Gone) l.length := by
  rw [zAQ (p := fun w : Write => stored w.Val w.Gone)]
  simp [List.any_eq_not_all_not]
 have h2 : zBU (l.map (·.Key)) = zAq (fun i => zAX (nth l i).Key && (decide (i = 0) || zAj (nth l (i - 1)).Key (nth l i).Key)) l.length := by
  unfold zBU
  rw [List.length_map]
  refine zLD fun i hi => ?_
  rw [zFP hi, zFP (by omega)]
 rw [h1, h2, zAV, Bool.and_assoc]
 congr 1
 rw [Bool.eq_iff_iff, Bool.and_eq_true, zAE, zAE, zAE]
 constructor
 ·intro h
  exact ⟨fun i hi => by have := h i hi; simp only [Bool.and_eq_true] at this ⊢; exact ⟨this.1.1, this.2⟩, fun i hi => by have := h i hi; simp only [Bool.and_eq_true] at this ⊢; exact this.1.2⟩
 ·rintro ⟨ha, hb⟩ i hi
  have ha := ha i hi; have hb := hb i hi
  simp only [Bool.and_eq_true] at ha hb ⊢
  exact ⟨⟨ha.1, hb⟩, ha.2⟩
theorem zPG (l : List Write) (hl : l.length ≤ 2 ^ 20) : ACall p_ 140 [.sl false 3 (l.map (Write.row false))] (fun r _ => r = .sl true 1 (strs (l.map (·.Key)))) := by
 refine fg H140 fun E hE hH => ?_; simp only [go_sem, hE, hH, zZj]
 refine zA0 l.length (fun j (x : List ByteArray) => ⟨[(3, .ref 4000000 0 x.length), (7, .sl false 3 (l.map (Write.row false))), (8, i64 l.length), (9, i64 j)], [(4000000, ⟨1, strs x⟩)]⟩) (fun j x => x = (l.take j).map (·.Key)) [] (by simp) (by simp) ?_
 intro j x hj hx
 have hlen : x.length = j := by rw [hx]; simp; omega
 try simp only [go_sem, hE, hH, zRh]
 first | refine zAg (fun h => ?_) (fun h => ?_) | refine zAh (fun h => ?_) (fun h => ?_)
 ·have hb := h
  simp only [nf] at h
  try refine sb ?_; try exact ⟨⟩
  refine ⟨by omega, by omega, by omega, ?_⟩
  rw [zAD h, List.map_append, ← hx]
  simp [hlen]; omega
 ·have hb := h
  simp only [nf] at h
  try refine sb ?_; try exact ⟨⟩
  rw [hx, show j = l.length by omega, List.take_length]
theorem zLX (w : Write) (hw : w.wf) : ACall p_ 142 [.agg (Write.row false w)] (fun r _ => r = bl (!stored w.Val w.Gone)) := by
 obtain ⟨w1, w2⟩ := hw
 refine fg H142 fun E hE hH => ?_; simp only [go_sem, hE, hH, zZk]
 repeat' (first | ((with_reducible apply ga) <;> refine gs fun h => ?_) | ((with_reducible apply an); · omega) | ((first | refine zAa ?_ | refine cvA (zHc _ _ w2) ?_); refine st ?_) | refine jn _ ?_ ?_ | (with_reducible first | apply both | apply an | exact ti) | exact fe | refine st ?_ | exact fm | refine s1 ?_)
theorem zIx (l : List Write) (hl : wfL Write.wf l) : ACall p_ 93 [.sl false 3 (l.map (Write.row false))] (fun r _ => r = bl (zAV l)) := by
 obtain ⟨hl, hx⟩ := hl
 have hmx := zAf
 have hr : zA1 (fun s : ByteArray => s.size ≤ maxLen) (l.map (·.Key)) := ⟨by simpa using hl, fun s hs => by obtain ⟨w, hw, rfl⟩ := List.mem_map.1 hs; exact (hx w hw).1⟩
 rw [zIw]
 refine fg H93 fun E hE hH => ?_; simp only [go_sem, hE, hH, C93]
 repeat' (first | ((with_reducible apply ga) <;> refine gs fun h => ?_) | ((with_reducible apply an); · omega) | ((first | refine zAa ?_ | refine cvA (zPG l (by omega)) ?_ | refine cvA (zDj _ hr) ?_ | refine cvA (zDX l _ [] (fun w => !stored w.Val w.Gone) (by kernel_rfl) rfl hl (fun w hw => zLX w (hx w hw))) ?_); refine st ?_) | refine jn _ ?_ ?_ | (with_reducible first | apply both | apply an | exact ti) | exact fe | refine st ?_ | exact fm | refine s1 ?_)
 all_goals (first | (simp_all []; done) | (simp_all [] <;> first | omega | (intros; omega)))
theorem zHd (l : List Write) (hl : wfL Write.wf l) : ACall p_ 40 [.sl false 3 (l.map (Write.row false))] (fun r _ => r = bl (zAV l)) := by
 obtain ⟨hl, hx⟩ := hl
 have hmx := zAf
 refine fg H40 fun E hE hH => ?_; simp only [go_sem, hE, hH, C40]
 refine zAs l.length (fun j (_ : Unit) => ⟨[(0, .sl false 3 (l.map (Write.row false))), (5, .sl false 3 (l.map (Write.row false))), (6, i64 l.length), (7, i64 j)], []⟩) (fun j _ => zAq (fun i => (zAX (nth l i).Key && stored (nth l i).Val (nth l i).Gone) && (decide (i = 0) || zAj (nth l (i - 1)).Key (nth l i).Key)) j = true) () rfl ?_
 intro j _ hj hI
 try simp only [go_sem, hE, hH, zUj]
 first | refine zAg (fun h => ?_) (fun h => ?_) | refine zAh (fun h => ?_) (fun h => ?_)
 ·have hb := h
  simp only [nf] at h
  have hlt := h; clear h
  obtain ⟨w1, w2⟩ := hx _ (zAc hlt)
  try refine sb ?_; try exact ⟨⟩
  repeat' (first | ((with_reducible apply ga) <;> refine gs fun h => ?_) | ((with_reducible apply an); · omega) | ((first | refine zAa ?_ | refine cvA (zLW _ _ _ w1 w2) ?_); refine st ?_) | refine jn _ ?_ ?_ | (with_reducible first | apply both | apply an | exact ti) | exact fe | refine st ?_ | exact fm | refine s1 ?_)
  ·rw [zAV, zAz hlt (by simp_all)]; simp
  ·rw [zAV, zAz hlt (by simp_all <;> omega)]; simp
  ·first | exact ⟨(), rfl, zAd hI (by simp_all <;> omega)⟩ | exact ⟨by omega, (), rfl, zAd hI (by simp_all <;> omega)⟩ | exact ⟨by omega, by omega, (), rfl, zAd hI (by simp_all <;> omega)⟩
  ·first | exact ⟨(), rfl, zAd hI (by simp_all <;> omega)⟩ | exact ⟨by omega, (), rfl, zAd hI (by simp_all <;> omega)⟩ | exact ⟨by omega, by omega, (), rfl, zAd hI (by simp_all <;> omega)⟩
 ·try simp (disch := omega) only [go_sem, hE, hH, h]
  simp only [nf] at h
  rw [show j = l.length by omega] at hI
  rw [zAV, hI]
  simp
def zBD (l : List Got) : Bool := zAq (fun i => (zAX (nth l i).Key && stored (nth l i).Val (!(nth l i).There)) && !(l.take i).any fun h => decide (h.Key = (nth l i).Key)) l.length && decide ((l.length : Int) ≤ 8)
theorem zQy (h g : Got) : ACall p_ 166 ([.agg (Got.row false h)] ++ [.bx false (Got.row false g)]) (fun r _ => r = bl (decide (h.Key = g.Key))) := by
 refine fg H166 fun E hE hH => ?_; simp only [go_sem, hE, hH, zZz]
 try refine st ?_; try exact ⟨⟩
theorem zNQ (l : List Got) (hl : wfL Got.wf l) : ACall p_ 130 [.sl false 3 (l.map (Got.row false))] (fun r _ => r = bl (zBD l)) := by
 obtain ⟨hl, hx⟩ := hl
 have hmx := zAf
 refine fg H130 fun E hE hH => ?_; simp only [go_sem, hE, hH, zZc]
 refine zAs l.length (fun j (_ : Unit) => ⟨[(0, .sl false 3 (l.map (Got.row false))), (5, .sl false 3 (l.map (Got.row false))), (6, i64 l.length), (7, i64 j)], []⟩) (fun j _ => zAq (fun i => (zAX (nth l i).Key && stored (nth l i).Val (!(nth l i).There)) && !(l.take i).any fun h => decide (h.Key = (nth l i).Key)) j = true) () rfl ?_
 intro j _ hj hI
 try simp only [go_sem, hE, hH, zRg]
 first | refine zAg (fun h => ?_) (fun h => ?_) | refine zAh (fun h => ?_) (fun h => ?_)
 ·have hb := h
  simp only [nf] at h
  have hlt := h; clear h
  obtain ⟨w1, w2⟩ := hx _ (zAc hlt)
  have ht : ((l.map (Got.row false)).take j) = (l.take j).map (Got.row false) := by rw [List.map_take]
  try simp (disch := omega) only [go_sem, hE, hH, hb, ht]
  repeat' (first | ((with_reducible apply ga) <;> refine gs fun h => ?_) | ((with_reducible apply an); · omega) | ((first | refine zAa ?_ | refine cvA (zFF _ w1) ?_ | refine cvA (zHc _ _ w2) ?_ | refine cvA (zIz (l.take j) _ [.bx false (Got.row false (nth l j))] (fun h => decide (h.Key = (nth l j).Key)) (by kernel_rfl) rfl (by rw [List.length_take]; omega) (fun h _ => zQy h _)) ?_); refine st ?_) | refine jn _ ?_ ?_ | (with_reducible first | apply both | apply an | exact ti) | exact fe | refine st ?_ | exact fm | refine s1 ?_)
  ·rw [zBD, zAz hlt (by simp_all)]; simp
  ·rw [zBD, zAz hlt (by simp_all)]; simp
  ·rw [zBD, zAz hlt (by simp_all)]; simp
  ·first | exact ⟨(), rfl, zAd hI (by simp_all)⟩ | exact ⟨by omega, (), rfl, zAd hI (by simp_all)⟩ | exact ⟨by omega, by omega, (), rfl, zAd hI (by simp_all)⟩
 ·try simp (disch := omega) only [go_sem, hE, hH, h]
  simp only [nf] at h
  rw [show j = l.length by omega] at hI
  rw [zBD, hI]
  simp
theorem zNR (l : List Got) (hl : wfL Got.wf l) : ACall p_ 109 [.sl false 3 (l.map (Got.row false))] (fun r _ => r = bl (zBD l)) := by
 obtain ⟨hl, hx⟩ := hl
 have hmx := zAf
 refine fg H109 fun E hE hH => ?_; simp only [go_sem, hE, hH, zYX]
 refine zAs l.length (fun j (_ : Unit) => ⟨[(0, .sl false 3 (l.map (Got.row false))), (7, .sl false 3 (l.map (Got.row false))), (8, i64 l.length), (9, i64 j)], []⟩) (fun j _ => zAq (fun i => (zAX (nth l i).Key && stored (nth l i).Val (!(nth l i).There)) && !(l.take i).any fun h => decide (h.Key = (nth l i).Key)) j = true) () rfl ?_
 intro j _ hj hI
 try simp only [go_sem, hE, hH, zRa]
 first | refine zAg (fun h => ?_) (fun h => ?_) | refine zAh (fun h => ?_) (fun h => ?_)
 ·have hb := h
  simp only [nf] at h
  have hlt := h; clear h
  obtain ⟨w1, w2⟩ := hx _ (zAc hlt)
  try refine sb ?_; try exact ⟨⟩
  repeat' (first | ((with_reducible apply ga) <;> refine gs fun h => ?_) | ((with_reducible apply an); · omega) | ((first | refine zAa ?_ | refine cvA (zDi _ w1) ?_ | refine cvA (zK4 _ w2) ?_); refine st ?_) | refine jn _ ?_ ?_ | (with_reducible first | apply both | apply an | exact ti) | exact fe | refine st ?_ | exact fm | refine s1 ?_)
  ·rw [zBD, zAz hlt (by simp_all)]; simp
  ·rw [zBD, zAz hlt (by simp_all [stored])]; simp
  ·rw [zBD, zAz hlt (by simp_all [stored])]; simp
  ·have hlj : (l.take j).length = j := by rw [List.length_take]; omega
   refine zAs (l.take j).length (fun k (_ : Unit) => ⟨[(0, .sl false 3 (l.map (Got.row false))), (4, .ptr 5000000 0 0), (7, .sl false 3 (l.map (Got.row false))), (8, i64 l.length), (9, i64 j), (36, .sl false 3 ((l.take j).map (Got.row false))), (37, i64 (l.take j).length), (38, i64 k)], [(5000000, ⟨3, [Got.row false (nth l j)]⟩)]⟩) (fun k _ => zAq (fun i => !decide ((nth (l.take j) i).Key = (nth l j).Key)) k = true) () rfl ?_
   intro k _ hk hK
   try simp only [go_sem, hE, hH, zMH]
   first | refine zAg (fun h2 => ?_) (fun h2 => ?_) | refine zAh (fun h2 => ?_) (fun h2 => ?_)
   ·have hb2 := h2
    simp only [nf] at h2
    have hlt2 : k < (l.take j).length := by omega
    try simp (disch := omega) only [go_sem, hE, hH, hb2]
    repeat' (first | ((with_reducible apply ga) <;> refine gs fun h => ?_) | ((with_reducible apply an); · omega) | refine jn _ ?_ ?_ | (with_reducible first | apply both | apply an | exact ti) | exact fe | refine st ?_ | exact fm | refine s1 ?_)
    ·rw [zBD, zAz hlt (by
      have : ((l.take j).any fun h => decide (h.Key = (nth l j).Key)) = true := List.any_eq_true.2 ⟨_, zAc hlt2, by simp_all⟩
      simp_all)]
     simp
    ·first | exact ⟨(), rfl, zAd hK (by show (!decide _) = true; rw [Bool.not_eq_true', decide_eq_false_iff_not]; exact fun e => h e.symm)⟩ | exact ⟨by omega, (), rfl, zAd hK (by show (!decide _) = true; rw [Bool.not_eq_true', decide_eq_false_iff_not]; exact fun e => h e.symm)⟩ | exact ⟨by omega, by omega, (), rfl, zAd hK (by show (!decide _) = true; rw [Bool.not_eq_true', decide_eq_false_iff_not]; exact fun e => h e.symm)⟩
   ·try simp (disch := omega) only [go_sem, hE, hH, h2]
    simp only [nf] at h2
    rw [show k = (l.take j).length by omega] at hK
    have hN : ((l.take j).any fun h => decide (h.Key = (nth l j).Key)) = false := by
     rw [zAQ (p := fun h : Got => !decide (h.Key = (nth l j).Key))] at hK
     rw [List.any_eq_false]
     intro x hx'
     have := List.all_eq_true.1 hK x hx'
     simpa using this
    first | exact ⟨(), rfl, zAd hI (by simp_all [stored])⟩ | exact ⟨by omega, (), rfl, zAd hI (by simp_all [stored])⟩ | exact ⟨by omega, by omega, (), rfl, zAd hI (by simp_all [stored])⟩
  ·have hlj : (l.take j).length = j := by rw [List.length_take]; omega
   refine zAs (l.take j).length (fun k (_ : Unit) => ⟨[(0, .sl false 3 (l.map (Got.row false))), (4, .ptr 5000000 0 0), (7, .sl false 3 (l.map (Got.row false))), (8, i64 l.length), (9, i64 j), (36, .sl false 3 ((l.take j).map (Got.row false))), (37, i64 (l.take j).length), (38, i64 k)], [(5000000, ⟨3, [Got.row false (nth l j)]⟩)]⟩) (fun k _ => zAq (fun i => !decide ((nth (l.take j) i).Key = (nth l j).Key)) k = true) () rfl ?_
   intro k _ hk hK
   try simp only [go_sem, hE, hH, zMH]
   first | refine zAg (fun h2 => ?_) (fun h2 => ?_) | refine zAh (fun h2 => ?_) (fun h2 => ?_)
   ·have hb2 := h2
    simp only [nf] at h2
    have hlt2 : k < (l.take j).length := by omega
    try simp (disch := omega) only [go_sem, hE, hH, hb2]
    repeat' (first | ((with_reducible apply ga) <;> refine gs fun h => ?_) | ((with_reducible apply an); · omega) | refine jn _ ?_ ?_ | (with_reducible first | apply both | apply an | exact ti) | exact fe | refine st ?_ | exact fm | refine s1 ?_)
    ·rw [zBD, zAz hlt (by
      have : ((l.take j).any fun h => decide (h.Key = (nth l j).Key)) = true := List.any_eq_true.2 ⟨_, zAc hlt2, by simp_all⟩
      simp_all)]
     simp
    ·first | exact ⟨(), rfl, zAd hK (by show (!decide _) = true; rw [Bool.not_eq_true', decide_eq_false_iff_not]; exact fun e => h e.symm)⟩ | exact ⟨by omega, (), rfl, zAd hK (by show (!decide _) = true; rw [Bool.not_eq_true', decide_eq_false_iff_not]; exact fun e => h e.symm)⟩ | exact ⟨by omega, by omega, (), rfl, zAd hK (by show (!decide _) = true; rw [Bool.not_eq_true', decide_eq_false_iff_not]; exact fun e => h e.symm)⟩
   ·try simp (disch := omega) only [go_sem, hE, hH, h2]
    simp only [nf] at h2
    rw [show k = (l.take j).length by omega] at hK
    have hN : ((l.take j).any fun h => decide (h.Key = (nth l j).Key)) = false := by
     rw [zAQ (p := fun h : Got => !decide (h.Key = (nth l j).Key))] at hK
     rw [List.any_eq_false]
     intro x hx'
     have := List.all_eq_true.1 hK x hx'
     simpa using this
    first | exact ⟨(), rfl, zAd hI (by simp_all [stored])⟩ | exact ⟨by omega, (), rfl, zAd hI (by simp_all [stored])⟩ | exact ⟨by omega, by omega, (), rfl, zAd hI (by simp_all [stored])⟩
 ·try simp (disch := omega) only [go_sem, hE, hH, h]
  simp only [nf] at h
  rw [show j = l.length by omega] at hI
  rw [zBD, hI]
  simp
open Go.Proofs.Wb renaming H162 → z0_, zZx → z1_, zBa → z2_ in
theorem zPH (n : Int) : ACall p_ 162 [i64 n] (fun r _ => r = bl (rng n 1 60)) := zNg
open Go.Proofs.Wb renaming H49 → z0_, C49 → z1_, zBa → z2_ in
theorem zFj (n : Int) : ACall p_ 49 [i64 n] (fun r _ => r = bl (rng n 0 100000)) := zNg
open Go.Proofs.Wb renaming H39 → z0_, C39 → z1_, zBp → z2_ in
theorem zGH (n : Int) : ACall p_ 39 [i64 n] (fun r _ => r = bl (rng n 0 100000)) := zNg
theorem zWj {α : Type} [Inhabited α] {l : List α} {i k : Nat} : nth (l.drop i) k = nth l (i + k) := by
 simp [nth, List.getD, List.getElem?_drop]
theorem zLY (x : ByteArray) : ACall p_ 195 [str x] (fun r _ => r = bl false) := by
 refine fg H195 fun E hE hH => ?_; simp only [go_sem, hE, hH, zZL]
 try refine st ?_; try exact ⟨⟩
def zEd (a b : ByteArray) : Int := if zAj a b then -1 else if zAj b a then 1 else 0
theorem zFv (a b : ByteArray) : ACall p_ 171 [str a, str b] (fun r _ => r = i64 (zEd a b)) := by
 refine fg H171 fun E hE hH => ?_; simp only [go_sem, hE, hH, zOz]
 repeat' (first | ((with_reducible apply ga) <;> refine gs fun h => ?_) | ((with_reducible apply an); · omega) | ((first | refine zAa ?_ | refine cvA (zLY _) ?_); refine st ?_) | refine jn _ ?_ ?_ | (with_reducible first | apply both | apply an | exact ti) | exact fe | refine st ?_ | exact fm | refine s1 ?_)
 all_goals (rcases zBP a b with q | q | q <;> simp_all [zEd, zBr, zCC])
open Go.Proofs.Wb renaming H170 → z0_, zGE → z1_, zFv → z2_ in
theorem zMZ (w : Write) (key : ByteArray) : ACall p_ 170 ([.agg (Write.row false w), str key] ++ []) (fun r _ => r = i64 (zEd w.Key key)) := zP9
def zB6 (l : List Write) : Prop := ∀ i j, i < j → j < l.length → zAj (nth l i).Key (nth l j).Key = true
theorem zHD {l : List Write} (h : zAV l = true) : zB6 l := by
 simp only [zAV, Bool.and_eq_true] at h
 have key : ∀ d i, i + d + 1 < l.length → zAj (nth l i).Key (nth l (i + d + 1)).Key = true := by
  intro d
  induction d with
  | zero =>
   intro i hi
   have := zAE.1 h.2 (i + 1) (by omega)
   simp only [Bool.and_eq_true, Bool.or_eq_true, decide_eq_true_eq] at this
   exact this.2.resolve_left (by omega)
  | succ d ih =>
   intro i hi
   have h1 := ih i (by omega)
   have := zAE.1 h.2 (i + d + 2) (by omega)
   simp only [Bool.and_eq_true, Bool.or_eq_true, decide_eq_true_eq] at this
   exact zCB h1 (this.2.resolve_left (by omega))
 intro i j h1 h2
 have := key (j - i - 1) i (by omega)
 rwa [show i + (j - i - 1) + 1 = j by omega] at this
def fwI (l : List Write) (k : ByteArray) : Nat := zEa (fun i => zAj (nth l i).Key k) l.length
def fwF (l : List Write) (k : ByteArray) : Bool := l.any fun w => decide (w.Key = k)
theorem zK5 {a b : ByteArray} : zEd a b < 0 ↔ zAj a b = true := by
 unfold zEd
 split
 ·simp_all
 ·split <;> simp_all
theorem zJp {a b : ByteArray} : zEd a b = 0 ↔ a = b := by
 unfold zEd
 rcases zBP a b with h | h | h
 ·rw [if_pos h]; simp [zH4 h]
 ·subst h; simp [zBr]
 ·rw [zCC h, if_neg (by simp), if_pos h]; simp [(zH4 h).symm]
theorem zWZ {l : List Write} (hs : zB6 l) (k : ByteArray) : bsI (fun w : Write => zEd w.Key k) l = fwI l k ∧ bsF (fun w : Write => zEd w.Key k) l = fwF l k := by
 have e1 : bsI (fun w : Write => zEd w.Key k) l = fwI l k := by
  unfold bsI fwI
  congr 1; funext i
  rw [Bool.eq_iff_iff, decide_eq_true_iff, zK5]
 refine ⟨e1, ?_⟩
 rw [Bool.eq_iff_iff]
 unfold bsF fwF
 rw [e1, Bool.and_eq_true, decide_eq_true_iff, decide_eq_true_iff, zJp, List.any_eq_true]
 constructor
 ·rintro ⟨h1, h2⟩; exact ⟨_, zAc h1, by simp [h2]⟩
 ·rintro ⟨w, hw, h1⟩
  obtain ⟨i, hi, rfl⟩ := List.getElem_of_mem hw
  simp only [decide_eq_true_eq] at h1
  rw [← zA6 hi] at h1
  have e2 : fwI l k = i := by
   unfold fwI
   rw [zFh (Nat.le_of_lt hi) (fun j a b => ?_), zF4 (zAE.2 fun j hj => ?_)]
   ·rw [← h1]; exact hs j i hj hi
   ·by_cases e : j = i
    ·rw [e, h1]; exact zBr _
    ·rw [← h1]; exact zCC (hs i j (by omega) b)
  rw [e2]; exact ⟨hi, h1⟩
theorem zGf (l : List Write) (key : ByteArray) (hl : l.length ≤ 2 ^ 60) (hs : zB6 l) : ACall p_ 138 [.sl false 3 (l.map (Write.row false)), str key] (fun r _ => r = .tup [i64 (fwI l key), bl (fwF l key)]) := by
 obtain ⟨e1, e2⟩ := zWZ hs key
 refine fg H138 fun E hE hH => ?_; simp only [go_sem, hE, hH, zZh]
 repeat' (first | ((with_reducible apply ga) <;> refine gs fun h => ?_) | ((with_reducible apply an); · omega) | ((first | refine zAa ?_ | refine cvA (zFD l key _ [] (fun w => zEd w.Key key) (by kernel_rfl) rfl hl (fun i j h1 h2 h3 => by have := hs i j h1 h2; rw [← Int.not_lt, zK5] at h3 ⊢; exact fun h => h3 (zCB this h)) (fun w _ => zMZ w key)) ?_); refine st ?_) | refine jn _ ?_ ?_ | (with_reducible first | apply both | apply an | exact ti) | exact fe | refine st ?_ | exact fm | refine s1 ?_)
 all_goals simp only [e1, e2]
theorem zKp (l : List Write) (key : ByteArray) (hl : l.length ≤ maxLen) : ACall p_ 274 [.sl false 3 (l.map (Write.row false)), str key] (fun r _ => r = bl (fwF l key)) := by
 have hmx := zAf
 refine fg H274 fun E hE hH => ?_; simp only [go_sem, hE, hH, C274]
 refine zAs l.length (fun j (_ : Unit) => ⟨[(1, str key), (7, .sl false 3 (l.map (Write.row false))), (8, i64 l.length), (9, i64 j)], []⟩) (fun j _ => zAq (fun i => !decide ((nth l i).Key = key)) j = true) () rfl ?_
 intro j _ hj hI
 try simp only [go_sem, hE, hH, zRG]
 first | refine zAg (fun h => ?_) (fun h => ?_) | refine zAh (fun h => ?_) (fun h => ?_)
 ·have hb := h
  simp only [nf] at h
  have hlt := h; clear h
  try refine sb ?_; try exact ⟨⟩
  repeat' (first | ((with_reducible apply ga) <;> refine gs fun h => ?_) | ((with_reducible apply an); · omega) | refine jn _ ?_ ?_ | (with_reducible first | apply both | apply an | exact ti) | exact fe | refine st ?_ | exact fm | refine s1 ?_)
  ·have : fwF l key = true := List.any_eq_true.2 ⟨_, zAc hlt, by simp [h]⟩
   rw [this]
  ·first | exact ⟨(), rfl, zAd hI (by simp [h])⟩ | exact ⟨by omega, (), rfl, zAd hI (by simp [h])⟩ | exact ⟨by omega, by omega, (), rfl, zAd hI (by simp [h])⟩
 ·try simp (disch := omega) only [go_sem, hE, hH, h]
  simp only [nf] at h
  rw [show j = l.length by omega, zAQ (p := fun w : Write => !decide (w.Key = key))] at hI
  have : fwF l key = false := by
   rw [fwF, List.any_eq_false]; intro x hx; simpa using List.all_eq_true.1 hI x hx
  rw [this]
def zIb (ws : List Write) (reads : List ByteArray) (others : List Write) : Bool := ws.any fun w => fwF others w.Key || reads.any fun x => decide (w.Key = x)
theorem zPI (w : Write) (others : List Write) (reads : List ByteArray) (hl : others.length ≤ 2 ^ 60) (hr : reads.length ≤ maxLen) (hs : zB6 others) : ACall p_ 303 ([.agg (Write.row false w)] ++ [.bx false [.sl false 3 (others.map (Write.row false))], .bx false [.sl false 1 (strs reads)]]) (fun r _ => r = bl (fwF others w.Key || reads.any fun x => decide (w.Key = x))) := by
 refine fg H303 fun E hE hH => ?_; simp only [go_sem, hE, hH, C303]
 repeat' (first | ((with_reducible apply ga) <;> refine gs fun h => ?_) | ((with_reducible apply an); · omega) | ((first | refine zAa ?_ | refine cvA (zGf others _ hl hs) ?_ | refine cvA (zJo _ _ hr) ?_); refine st ?_) | refine jn _ ?_ ?_ | (with_reducible first | apply both | apply an | exact ti) | exact fe | refine st ?_ | exact fm | refine s1 ?_)
 all_goals simp_all
theorem zLZ (ws : List Write) (reads : List ByteArray) (others : List Write) (hw : ws.length ≤ maxLen) (hl : others.length ≤ 2 ^ 60) (hr : reads.length ≤ maxLen) (hs : zB6 others) : ACall p_ 292 [.sl false 3 (ws.map (Write.row false)), .sl false 1 (strs reads), .sl false 3 (others.map (Write.row false))] (fun r _ => r = bl (zIb ws reads others)) := by
 refine fg H292 fun E hE hH => ?_; simp only [go_sem, hE, hH, C292]
 repeat' (first | ((with_reducible apply ga) <;> refine gs fun h => ?_) | ((with_reducible apply an); · omega) | ((first | refine zAa ?_ | refine cvA (zDX ws _ [.bx false [.sl false 3 (others.map (Write.row false))], .bx false [.sl false 1 (strs reads)]] (fun w => fwF others w.Key || reads.any fun x => decide (w.Key = x)) (by kernel_rfl) rfl hw (fun w _ => zPI w others reads hl hr hs)) ?_); refine st ?_) | refine jn _ ?_ ?_ | (with_reducible first | apply both | apply an | exact ti) | exact fe | refine st ?_ | exact fm | refine s1 ?_)
 rfl
def zIc (a b : Int) : Int := if a < b then -1 else if b < a then 1 else 0
theorem zPJ (x : Int) : ACall p_ 284 [i64 x] (fun r _ => r = bl false) := by
 refine fg H284 fun E hE hH => ?_; simp only [go_sem, hE, hH, C284]
 try refine st ?_; try exact ⟨⟩
theorem zHE (a b : Int) : ACall p_ 255 [i64 a, i64 b] (fun r _ => r = i64 (zIc a b)) := by
 refine fg H255 fun E hE hH => ?_; simp only [go_sem, hE, hH, zOz]
 repeat' (first | ((with_reducible apply ga) <;> refine gs fun h => ?_) | ((with_reducible apply an); · omega) | ((first | refine zAa ?_ | refine cvA (zPJ _) ?_); refine st ?_) | refine jn _ ?_ ?_ | (with_reducible first | apply both | apply an | exact ti) | exact fe | refine st ?_ | exact fm | refine s1 ?_)
 all_goals (unfold zIc)
 ·rw [if_pos h]
 ·rw [if_neg (by omega), if_pos h]
 ·rw [if_neg (by omega), if_neg (by omega)]
theorem zUH (n : Int) : ACall p_ 118 [i64 n] (fun r _ => r = bl (decide (n = 3) || decide (n = 5))) := by
 refine fg H118 fun E hE hH => ?_; simp only [go_sem, hE, hH, zY5]
 repeat' (first | ((with_reducible apply ga) <;> refine gs fun h => ?_) | ((with_reducible apply an); · omega) | refine jn _ ?_ ?_ | (with_reducible first | apply both | apply an | exact ti) | exact fe | refine st ?_ | exact fm | refine s1 ?_)
 all_goals (first | (simp_all []; done) | (simp_all [] <;> first | omega | (intros; omega)))
def zOB (a b : Int) : Int := if a > b then a else b
theorem zUI (a b : Int) : ACall p_ 216 [i64 a, i64 b] (fun r _ => r = i64 (zOB a b)) := by
 refine fg H216 fun E hE hH => ?_; simp only [go_sem, hE, hH, zZW]
 repeat' (first | ((with_reducible apply ga) <;> refine gs fun h => ?_) | ((with_reducible apply an); · omega) | refine jn _ ?_ ?_ | (with_reducible first | apply both | apply an | exact ti) | exact fe | refine st ?_ | exact fm | refine s1 ?_)
 all_goals (simp only [zOB]; first | rw [if_pos (by omega)] | rw [if_neg (by omega)])
open Go.Proofs.Wb renaming H189 → z0_, zZI → z1_, zBa → z2_ in
theorem zNS (n : Int) : ACall p_ 189 [i64 n] (fun r _ => r = bl (rng n 1 100000)) := zNg
open Go.Proofs.Wb renaming H207 → z0_, zZN → z1_, zBp → z2_ in
theorem zJq (n : Int) : ACall p_ 207 [i64 n] (fun r _ => r = bl (rng n 1 100000)) := zNg
theorem zNT (l : List ByteArray) (hl : zA1 (fun s => s.size ≤ maxLen) l) : ACall p_ 208 [.sl false 1 (strs l)] (fun r _ => r = bl (zBU l && decide ((l.length : Int) ≤ 8))) := by
 obtain ⟨hl, hx⟩ := hl
 have hmx := zAf
 refine fg H208 fun E hE hH => ?_; simp only [go_sem, hE, hH, zZO]
 refine zAs l.length (fun j (_ : Unit) => ⟨[(0, .sl false 1 (strs l)), (5, .sl false 1 (strs l)), (6, i64 l.length), (7, i64 j)], []⟩) (fun j _ => zAq (fun i => zAX (nth l i) && (decide (i = 0) || zAj (nth l (i - 1)) (nth l i))) j = true) () rfl ?_
 intro j _ hj hI
 try simp only [go_sem, hE, hH, zRo]
 first | refine zAg (fun h => ?_) (fun h => ?_) | refine zAh (fun h => ?_) (fun h => ?_)
 ·have hb := h
  simp only [nf] at h
  have hlt := h; clear h
  have hs := hx _ (zAc hlt)
  try refine sb ?_; try exact ⟨⟩
  repeat' (first | ((with_reducible apply ga) <;> refine gs fun h => ?_) | ((with_reducible apply an); · omega) | ((first | refine zAa ?_ | refine cvA (zDi _ (by assumption)) ?_); refine st ?_) | refine jn _ ?_ ?_ | (with_reducible first | apply both | apply an | exact ti) | exact fe | refine st ?_ | exact fm | refine s1 ?_)
  ·rw [zBU, zAz hlt (by simp_all)]; rfl
  ·rw [zBU, zAz hlt (by simp_all <;> omega)]; rfl
  ·exact ⟨(), rfl, zAd hI (by simp_all)⟩
  ·exact ⟨(), rfl, zAd hI (by simp_all <;> omega)⟩
 ·try simp (disch := omega) only [go_sem, hE, hH, h]
  simp only [nf] at h
  rw [show j = l.length by omega] at hI
  rw [zBU, hI]
  simp
def zGI (r : Rec) : Bool := decide (r.Lead = 0) && decide (r.Reads.length = 0) && decide (r.Writes.length = 0)
def zA8 (r : Rec) : Bool :=
 if r.Kind = 1 then rng r.Txn 1 60 && rng r.Time 1 100000 && rng r.Lead 0 3 && (zBU r.Reads && decide ((r.Reads.length : Int) ≤ 8)) && decide ((r.Writes.length : Int) ≤ 8) && zAV r.Writes && decide (0 < r.Reads.length + r.Writes.length) && !r.Yes
 else if r.Kind = 2 ∨ r.Kind = 3 then zGI r && rng r.Txn 1 60 && ((r.Yes && rng r.Time 1 100000) || (!r.Yes && decide (r.Time = 0)))
 else if r.Kind = 4 then zGI r && decide (r.Txn = 0) && rng r.Time 1 100000 && !r.Yes
 else false
theorem zSW (r : Rec) (hw : r.wf) : ACall p_ 161 [.agg (Rec.row false r)] (fun x _ => x = bl (zA8 r)) := by
 have hmx := zAf
 obtain ⟨w1, w2, w3, w4, w5, w6⟩ := hw
 refine fg H161 fun E hE hH => ?_; simp only [go_sem, hE, hH, zZw]
 repeat' (first | ((with_reducible apply ga) <;> refine gs fun h => ?_) | ((with_reducible apply an); · omega) | ((first | refine zAa ?_ | refine cvA (zPH _) ?_ | refine cvA (zNS _) ?_ | refine cvA (zBa _ _ _) ?_ | refine cvA (zDj _ w5) ?_ | refine cvA (zIx _ w6) ?_); refine st ?_) | (with_reducible first | apply jn | apply both | apply an | exact ti) | exact fj | refine st ?_ | exact fm | refine s1 ?_)
 all_goals (first | (simp_all [zA8, zGI]; done) | (simp_all [zA8, zGI] <;> first | omega | (intros; omega)))
def zSX (r : Rec) : Prop := r.wf ∧ r.Reads.length ≤ 2 ^ 60 ∧ r.Writes.length ≤ 2 ^ 60
theorem zUJ (r : Rec) (hw : zSX r) : ACall p_ 185 [.agg (Rec.row false r)] (fun x _ => x = bl (zA8 r)) := by
 have hmx := zAf
 obtain ⟨⟨w1, w2, w3, w4, w5, w6⟩, z1, z2⟩ := hw
 have hrl : rng (r.Writes.length : Int) 0 8 = decide ((r.Writes.length : Int) ≤ 8) := by simp [rng]
 by_cases hb : r.Reads.length + r.Writes.length = 0
 ·have hR : r.Reads = [] := List.length_eq_zero_iff.1 (by omega)
  have hW : r.Writes = [] := List.length_eq_zero_iff.1 (by omega)
  refine fg zZF fun E hE hH => ?_; simp only [go_sem, hE, hH, zV5]
  repeat' (first | ((with_reducible apply ga) <;> refine gs fun h => ?_) | ((with_reducible apply an); · omega) | ((first | refine zAa ?_ | refine cvA (zBp _ _ _) ?_ | refine cvA (zJq _) ?_ | refine cvA (zNT _ w5) ?_ | refine cvA (zHd _ w6) ?_); refine st ?_) | (with_reducible first | apply jn | apply both | apply an | exact ti) | exact fj | refine st ?_ | exact fm | refine s1 ?_)
  all_goals (first | (simp_all [zA8, zGI]; done) | (simp_all [zA8, zGI]; omega))
 ·have hn : zGI r = false := by
   have : (decide (r.Reads.length = 0) && decide (r.Writes.length = 0)) = false := by
    rw [Bool.and_eq_false_iff, decide_eq_false_iff_not, decide_eq_false_iff_not]; omega
   rw [zGI, Bool.and_assoc, this, Bool.and_false]
  have hp : 0 < r.Reads.length + r.Writes.length := by omega
  have hp2 : (0 : Int) < (r.Reads.length : Int) + r.Writes.length := by omega
  refine fg zZF fun E hE hH => ?_; simp only [go_sem, hE, hH, zV5]
  repeat' (first | ((with_reducible apply ga) <;> refine gs fun h => ?_) | ((with_reducible apply an); · omega) | ((first | refine zAa ?_ | refine cvA (zBp _ _ _) ?_ | refine cvA (zJq _) ?_ | refine cvA (zNT _ w5) ?_ | refine cvA (zHd _ w6) ?_); refine st ?_) | (with_reducible first | apply jn | apply both | apply an | exact ti) | exact fj | refine st ?_ | exact fm | refine s1 ?_)
  all_goals (clear hb)
  all_goals (first | omega | (simp [zA8, *]; done) | (simp_all [zA8]; done) | (simp_all [zA8] <;> omega) | trace_state)
theorem zQz (r : Rec) (hw : zSX r) : ACall p_ 155 [.agg (Rec.row false r)] (fun x _ => x = bl (zA8 r)) := by
 refine fg H155 fun E hE hH => ?_; simp only [go_sem, hE, hH, zZs]
 repeat' (first | ((with_reducible apply ga) <;> refine gs fun h => ?_) | ((with_reducible apply an); · omega) | ((first | refine zAa ?_ | refine cvA (zUJ r hw) ?_); refine st ?_) | refine jn _ ?_ ?_ | (with_reducible first | apply both | apply an | exact ti) | exact fe | refine st ?_ | exact fm | refine s1 ?_)
def zBZ (t : Int) (l : List Entry) (i : Nat) : Bool := rng (nth l i).Term 1 t && zA8 (nth l i).Rec && (decide (i = 0) || !decide ((nth l i).Term < (nth l (i - 1)).Term))
def zGJ (t : Int) (l : List Entry) : Bool := zAq (zBZ t l) l.length && decide ((l.length : Int) ≤ 60)
theorem zGg {t : Int} {l : List Entry} {j : Nat} (hlt : j < l.length) (h : zBZ t l j = false) : zGJ t l = false := by
 rw [zGJ, zAz hlt h]; rfl
def zL0 (l : List Entry) (j : Nat) : Int := if j = 0 then 1 else (nth l (j - 1)).Term
theorem zWk {t : Int} {l : List Entry} {j : Nat} (h : 1 ≤ zL0 l j) : (rng (nth l j).Term (zL0 l j) t && zA8 (nth l j).Rec) = zBZ t l j := by
 unfold zL0 at h ⊢
 unfold zBZ
 by_cases hj : j = 0
 ·simp [hj]
 ·simp only [hj, if_false] at h ⊢
  rw [Bool.eq_iff_iff]
  simp only [Bool.and_eq_true, zBy, Bool.or_eq_true, decide_eq_true_eq, Bool.not_eq_true', decide_eq_false_iff_not, hj, false_or]
  constructor
  ·rintro ⟨⟨h1, h2⟩, h3⟩; exact ⟨⟨⟨by omega, h2⟩, h3⟩, by omega⟩
  ·rintro ⟨⟨⟨h1, h2⟩, h3⟩, h4⟩; exact ⟨⟨by omega, h2⟩, h3⟩
theorem zWl (l : List Entry) (t : Int) (hl : l.length ≤ maxLen) (hx : ∀ e ∈ l, zSX e.Rec) : ACall p_ 122 [.sl false 8 (l.map (Entry.row false)), i64 t] (fun r _ => r = bl (zGJ t l)) := by
 have hmx := zAf
 refine fg H122 fun E hE hH => ?_; simp only [go_sem, hE, hH, zY8]
 refine zAs l.length (fun j (_ : Unit) => ⟨[(0, .sl false 8 (l.map (Entry.row false))), (1, i64 t), (7, .sl false 8 (l.map (Entry.row false))), (8, i64 l.length), (9, i64 j)], []⟩) (fun j _ => zAq (zBZ t l) j = true) () rfl ?_
 intro j _ hj hI
 try simp only [go_sem, hE, hH, zRf]
 first | refine zAg (fun h => ?_) (fun h => ?_) | refine zAh (fun h => ?_) (fun h => ?_)
 ·have hb := h
  simp only [nf] at h
  have hlt := h; clear h
  have hs := (hx _ (zAc hlt)).1
  try refine sb ?_; try exact ⟨⟩
  repeat' (first | ((with_reducible apply ga) <;> refine gs fun h => ?_) | ((with_reducible apply an); · omega) | ((first | refine zAa ?_ | refine cvA (zBa _ _ _) ?_ | refine cvA (zSW (nth l j).Rec hs) ?_); refine st ?_) | (with_reducible first | apply jn | apply both | apply an | exact ti) | exact fj | refine st ?_ | exact fm | refine s1 ?_)
  ·rw [zGg hlt (by simp [zBZ, h])]
  ·rw [zGg hlt (by simp [zBZ, h])]
  ·rw [zGg hlt (by first | (simp_all [zBZ]; done) | (simp_all [zBZ]; omega))]
  ·exact ⟨(), rfl, zAd hI (by simp_all [zBZ])⟩
  ·exact ⟨(), rfl, zAd hI (by first | (simp_all [zBZ]; done) | (simp_all [zBZ]; omega))⟩
 ·try simp (disch := omega) only [go_sem, hE, hH, h]
  simp only [nf] at h
  rw [show j = l.length by omega] at hI
  rw [zGJ, hI]
  simp
def zCc (t : Int) (r : Replica) : Bool := zGJ t r.Log && rng r.Sure 0 r.Log.length
def zWm (r : Replica) : Prop := r.Log.length ≤ maxLen ∧ ∀ e ∈ r.Log, zSX e.Rec
theorem zJr (x : Replica) (t : Int) (hw : zWm x) : ACall p_ 105 [.agg (Replica.row false x), i64 t] (fun r _ => r = bl (zCc t x)) := by
 obtain ⟨hl, hx⟩ := hw
 have hmx := zAf
 refine fg H105 fun E hE hH => ?_; simp only [go_sem, hE, hH, zYU]
 repeat' (first | ((with_reducible apply ga) <;> refine gs fun h => ?_) | ((with_reducible apply an); · omega) | ((first | refine zAa ?_ | refine cvA (zBp _ _ _) ?_); refine st ?_) | (with_reducible first | apply jn | apply both | apply an | exact ti) | exact fj | refine st ?_ | exact fm | refine s1 ?_)
 ·rw [zCc, zGJ, decide_eq_false (by omega)]; simp
 ·rw [zCc, h]; simp
 refine zAs x.Log.length (fun j (v : Int) => ⟨[(1, i64 t), (2, .ptr 3000000 0 0), (5, i64 v), (6, i64 j)], [(3000000, ⟨3, [Replica.row false x]⟩)]⟩) (fun j v => zAq (zBZ t x.Log) j = true ∧ v = zL0 x.Log j ∧ 1 ≤ v) 1 ⟨rfl, rfl, by omega⟩ ?_
 rintro j v hj ⟨hI, rfl, h0⟩
 have he := zWk (t := t) h0
 try simp only [go_sem, hE, hH, zQ8]
 first | refine zAg (fun h1 => ?_) (fun h1 => ?_) | refine zAh (fun h1 => ?_) (fun h1 => ?_)
 ·have hb1 := h1
  simp only [nf] at h1
  have hlt := h1; clear h1
  have hs := hx _ (zAc hlt)
  try simp (disch := omega) only [go_sem, hE, hH, hb1]
  repeat' (first | ((with_reducible apply ga) <;> refine gs fun h => ?_) | ((with_reducible apply an); · omega) | ((first | refine zAa ?_ | refine cvA (zBp _ _ _) ?_ | refine cvA (zQz (nth x.Log j).Rec hs) ?_); refine st ?_) | (with_reducible first | apply jn | apply both | apply an | exact ti) | exact fj | refine st ?_ | exact fm | refine s1 ?_)
  ·rw [zCc, zGg hlt (by rw [← he, h]; simp)]; rfl
  ·rw [zCc, zGg hlt (by rw [← he, h]; simp)]; rfl
  ·rename_i hD
   have hD' := zBy.1 hD
   exact ⟨(nth x.Log j).Term, rfl, zAd hI (by rw [← he, hD, h]; rfl), by simp [zL0], by omega⟩
 ·try simp (disch := omega) only [go_sem, hE, hH, h1]
  simp only [nf] at h1
  rw [show j = x.Log.length by omega] at hI
  rw [zCc, zGJ, hI]
  have : decide ((x.Log.length : Int) ≤ 60) = true := decide_eq_true (by omega)
  simp_all
def zSY (g : Group) : Prop := g.Reps.length ≤ maxLen ∧ ∀ r ∈ g.Reps, zWm r
theorem zXL {g : Group} (hw : g.wf) (hs : g.sz ≤ 2 ^ 20) : zSY g := by
 refine ⟨hw.1.1, fun r hr => ⟨(hw.1.2 r hr).1.1, fun e he => ?_⟩⟩
 have h1 := zCp (f := Replica.sz) hr
 have h2 := zCp (f := Entry.sz) he
 have h3 : Group.sz g = szL Replica.sz g.Reps := rfl
 have h4 : Replica.sz r = szL Entry.sz r.Log := rfl
 have h5 : Entry.sz e = szL ByteArray.size e.Rec.Reads + szL Write.sz e.Rec.Writes := rfl
 have h6 := zCh (f := ByteArray.size) (l := e.Rec.Reads)
 have h7 := zCh (f := Write.sz) (l := e.Rec.Writes)
 exact ⟨((hw.1.2 r hr).1.2 e he).2, by omega, by omega⟩
def zC1 (g : Group) : Bool := decide (g.Lead = -1) || (rng g.Lead 0 ((g.Reps.length : Int) - 1) && (nth g.Reps g.Lead.toNat).Up)
def zBE (g : Group) : Bool := (decide ((g.Reps.length : Int) = 3) || decide ((g.Reps.length : Int) = 5)) && rng g.Term 0 200 && zC1 g && g.Reps.all (zCc g.Term)
open Go.Proofs.Wb renaming H119 → z0_, zY6 → z1_ in
theorem zWn (g : Group) (r : Int) (hl : g.Reps.length ≤ maxLen) : ACall p_ 119 [.agg (Group.row false g), i64 r] (fun x _ => x = bl (rng r 0 ((g.Reps.length : Int) - 1))) := Q18_
theorem zM0 (x : Replica) (g : Group) (hw : zWm x) : ACall p_ 121 ([.agg (Replica.row false x)] ++ [.bx false (Group.row false g)]) (fun r _ => r = bl (!zCc g.Term x)) := by
 obtain ⟨hl, hx⟩ := hw
 have hmx := zAf
 refine fg H121 fun E hE hH => ?_; simp only [go_sem, hE, hH, zY7]
 repeat' (first | ((with_reducible apply ga) <;> refine gs fun h => ?_) | ((with_reducible apply an); · omega) | ((first | refine zAa ?_ | refine cvA (zWl x.Log g.Term hl hx) ?_ | refine cvA (zBa _ _ _) ?_); refine st ?_) | (with_reducible first | apply jn | apply both | apply an | exact ti) | exact fj | refine st ?_ | exact fm | refine s1 ?_)
 all_goals (first | (simp_all [zCc]; done) | (simp_all [zCc] <;> first | omega | (intros; omega)))
theorem zPK (g : Group) (hw : zSY g) : ACall p_ 79 [.agg (Group.row false g)] (fun r _ => r = bl (zBE g)) := by
 have hmx := zAf
 obtain ⟨hl, hx⟩ := hw
 have hany : (g.Reps.any fun x => !zCc g.Term x) = !(g.Reps.all (zCc g.Term)) := by
  rw [List.all_eq_not_any_not]; simp
 refine fg H79 fun E hE hH => ?_; simp only [go_sem, hE, hH, C79]
 repeat' (first | ((with_reducible apply ga) <;> refine gs fun h => ?_) | ((with_reducible apply an); · omega) | ((first | refine zAa ?_ | refine cvA (zUH _) ?_ | refine cvA (zBa _ _ _) ?_ | refine cvA (zWn g g.Lead hl) ?_); refine st ?_) | (with_reducible first | apply jn | apply both | apply an | exact ti) | exact fj | refine st ?_ | exact fm | refine s1 ?_)
 all_goals try simp only [zBy] at h
 all_goals try omega
 all_goals try (have hk : g.Lead.toNat < g.Reps.length := by omega)
 repeat' (first | ((with_reducible apply ga) <;> refine gs fun h => ?_) | ((with_reducible apply an); · omega) | ((first | refine zAa ?_ | refine cvA (zGq g.Reps _ [.bx false (Group.row false g)] (fun x => !zCc g.Term x) (by kernel_rfl) rfl hl (fun x hx' => zM0 x g (hx x hx'))) ?_); refine st ?_) | (with_reducible first | apply jn | apply both | apply an | exact ti) | exact fj | refine st ?_ | exact fm | refine s1 ?_)
 all_goals try simp only [hany, Bool.not_not]
 all_goals clear hany
 all_goals (first | (simp_all [zBE, zC1]; done) | (simp_all [zBE, zC1, rng]; done) | (simp_all [zBE, zC1, rng] <;> omega) | trace_state)
theorem zOh (g : Group) (hw : zSY g) : ACall p_ 64 [.agg (Group.row false g)] (fun r _ => r = bl (zBE g)) := by
 have hmx := zAf
 obtain ⟨hl, hx⟩ := hw
 refine fg H64 fun E hE hH => ?_; simp only [go_sem, hE, hH, C64]
 repeat' (first | ((with_reducible apply ga) <;> refine gs fun h => ?_) | ((with_reducible apply an); · omega) | ((first | refine zAa ?_ | refine cvA (zBp _ _ _) ?_); refine st ?_) | (with_reducible first | apply jn | apply both | apply an | exact ti) | exact fj | refine st ?_ | exact fm | refine s1 ?_)
 ·simp [zBE, *]
 ·simp [zBE, *]
 ·have : zC1 g = false := by
   rw [zGd] at h
   simp only [zC1, rng, Bool.or_eq_false_iff, Bool.and_eq_false_iff, decide_eq_false_iff_not]
   omega
  simp [zBE, this]
 ·refine zAs g.Reps.length (fun j (_ : Unit) => ⟨[(1, .ptr 2000000 0 0), (3, i64 j)], [(2000000, ⟨3, [Group.row false g]⟩)]⟩) (fun j _ => zAq (fun i => zCc g.Term (nth g.Reps i)) j = true) () rfl ?_
  intro j _ hj hI
  try simp only [go_sem, hE, hH, zPx]
  first | refine zAg (fun h1 => ?_) (fun h1 => ?_) | refine zAh (fun h1 => ?_) (fun h1 => ?_)
  ·have hb1 := h1
   simp only [nf] at h1
   have hlt := h1; clear h1
   try simp (disch := omega) only [go_sem, hE, hH, hb1]
   repeat' (first | ((with_reducible apply ga) <;> refine gs fun h => ?_) | ((with_reducible apply an); · omega) | ((first | refine zAa ?_ | refine cvA (zJr (nth g.Reps j) g.Term (hx _ (zAc hlt))) ?_); refine st ?_) | (with_reducible first | apply jn | apply both | apply an | exact ti) | exact fj | refine st ?_ | exact fm | refine s1 ?_)
   ·have : g.Reps.all (zCc g.Term) = false := by rw [← zAQ]; exact zAz hlt h
    simp [zBE, this]
   ·first | exact ⟨(), rfl, zAd hI (by simp [h])⟩ | exact ⟨by omega, (), rfl, zAd hI (by simp [h])⟩ | exact ⟨by omega, by omega, (), rfl, zAd hI (by simp [h])⟩
  ·try simp (disch := omega) only [go_sem, hE, hH, h1]
   simp only [nf] at h1
   rw [show j = g.Reps.length by omega, zAQ] at hI
   repeat' (first | ((with_reducible apply ga) <;> refine gs fun h => ?_) | ((with_reducible apply an); · omega) | (with_reducible first | apply jn | apply both | apply an | exact ti) | exact fj | refine st ?_ | exact fm | refine s1 ?_)
   all_goals try simp only [zBy] at *
   all_goals try omega
   all_goals try (have hk : g.Lead.toNat < g.Reps.length := by omega)
   repeat' (first | ((with_reducible apply ga) <;> refine gs fun h => ?_) | ((with_reducible apply an); · omega) | (with_reducible first | apply jn | apply both | apply an | exact ti) | exact fj | refine st ?_ | exact fm | refine s1 ?_)
   all_goals (first | (have hL : g.Lead = -1 := by omega) | (have hL : g.Lead ≠ -1 := by omega))
   all_goals (first | (simp_all [zBE, zC1, rng]; done) | (simp_all [zBE, zC1, rng]; omega))
 ·simp [zBE, *]
 ·have : zC1 g = false := by
   rw [zGd] at h
   simp only [zC1, rng, Bool.or_eq_false_iff, Bool.and_eq_false_iff, decide_eq_false_iff_not]
   omega
  simp [zBE, this]
 ·refine zAs g.Reps.length (fun j (_ : Unit) => ⟨[(1, .ptr 2000000 0 0), (3, i64 j)], [(2000000, ⟨3, [Group.row false g]⟩)]⟩) (fun j _ => zAq (fun i => zCc g.Term (nth g.Reps i)) j = true) () rfl ?_
  intro j _ hj hI
  try simp only [go_sem, hE, hH, zPx]
  first | refine zAg (fun h1 => ?_) (fun h1 => ?_) | refine zAh (fun h1 => ?_) (fun h1 => ?_)
  ·have hb1 := h1
   simp only [nf] at h1
   have hlt := h1; clear h1
   try simp (disch := omega) only [go_sem, hE, hH, hb1]
   repeat' (first | ((with_reducible apply ga) <;> refine gs fun h => ?_) | ((with_reducible apply an); · omega) | ((first | refine zAa ?_ | refine cvA (zJr (nth g.Reps j) g.Term (hx _ (zAc hlt))) ?_); refine st ?_) | (with_reducible first | apply jn | apply both | apply an | exact ti) | exact fj | refine st ?_ | exact fm | refine s1 ?_)
   ·have : g.Reps.all (zCc g.Term) = false := by rw [← zAQ]; exact zAz hlt h
    simp [zBE, this]
   ·first | exact ⟨(), rfl, zAd hI (by simp [h])⟩ | exact ⟨by omega, (), rfl, zAd hI (by simp [h])⟩ | exact ⟨by omega, by omega, (), rfl, zAd hI (by simp [h])⟩
  ·try simp (disch := omega) only [go_sem, hE, hH, h1]
   simp only [nf] at h1
   rw [show j = g.Reps.length by omega, zAQ] at hI
   repeat' (first | ((with_reducible apply ga) <;> refine gs fun h => ?_) | ((with_reducible apply an); · omega) | (with_reducible first | apply jn | apply both | apply an | exact ti) | exact fj | refine st ?_ | exact fm | refine s1 ?_)
   all_goals try simp only [zBy] at *
   all_goals try omega
   all_goals try (have hk : g.Lead.toNat < g.Reps.length := by omega)
   repeat' (first | ((with_reducible apply ga) <;> refine gs fun h => ?_) | ((with_reducible apply an); · omega) | (with_reducible first | apply jn | apply both | apply an | exact ti) | exact fj | refine st ?_ | exact fm | refine s1 ?_)
   all_goals (first | (have hL : g.Lead = -1 := by omega) | (have hL : g.Lead ≠ -1 := by omega))
   all_goals (first | (simp_all [zBE, zC1, rng]; done) | (simp_all [zBE, zC1, rng]; omega))
theorem zXM (x : Replica) (h0 : 0 ≤ x.Sure) (h1 : x.Sure ≤ x.Log.length) : ACall p_ 146 [.agg (Replica.row false x)] (fun r _ => r = .sl false 8 ((x.Log.take x.Sure.toNat).map (Entry.row false))) := by
 refine fg H146 fun E hE hH => ?_; simp only [go_sem, hE, hH, zZo]
 repeat' (first | ((with_reducible apply ga) <;> refine gs fun h => ?_) | ((with_reducible apply an); · omega) | (with_reducible first | apply jn | apply both | apply an | exact ti) | exact fj | refine st ?_ | exact fm | refine s1 ?_)
 exact h1
def zGK (c : Clock) : Bool := rng c.Off (-5) 5
open Go.Proofs.Wb renaming H84 → z0_, C84 → z1_, zBa → z2_ in
theorem zPL (c : Clock) : ACall p_ 84 [.agg (Clock.row false c)] (fun r _ => r = bl (zGK c)) := Q19_
theorem zRR {α : Type} {p : α → Bool} {l : List α} : (l.any fun x => !p x) = !(l.all p) := by
 rw [List.all_eq_not_any_not]; simp
open Go.Proofs.Wb renaming H66 → z0_, C66 → z1_, zBp → z2_ in
theorem zSZ (c : Clock) : ACall p_ 66 [.agg (Clock.row false c)] (fun r _ => r = bl (zGK c)) := Q19_
def zCm (l : List Write) (w : Write) : List Write := if fwF l w.Key then l.set (fwI l w.Key) w else l.take (fwI l w.Key) ++ [w] ++ l.drop (fwI l w.Key)
theorem zUK {l : List Write} {k : ByteArray} : fwI l k ≤ l.length := zJW
theorem zPM {l : List Write} (hs : zB6 l) {n : Nat} {k : ByteArray} (hn : n ≤ l.length) (h1 : ∀ i, i < n → zAj (nth l i).Key k = true) (h2 : ∀ i, n ≤ i → i < l.length → zAj (nth l i).Key k = false) : fwI l k = n := by
 unfold fwI
 rw [zFh hn h2, zF4 (zAE.2 h1)]
theorem zNU {l : List Write} (hs : zB6 l) (k : ByteArray) : (∀ i, i < fwI l k → zAj (nth l i).Key k = true) ∧ (∀ i, fwI l k ≤ i → i < l.length → zAj (nth l i).Key k = false) := by
 have key : ∀ n, n ≤ l.length → (∃ m, m ≤ n ∧ (∀ i, i < m → zAj (nth l i).Key k = true) ∧ ∀ i, m ≤ i → i < n → zAj (nth l i).Key k = false) := by
  intro n
  induction n with
  | zero => exact fun _ => ⟨0, Nat.le_refl _, fun i h => by omega, fun i _ h => by omega⟩
  | succ n ih =>
   intro hn
   obtain ⟨m, h1, h2, h3⟩ := ih (by omega)
   cases hk : zAj (nth l n).Key k with
   | true =>
    by_cases e : m = n
    ·subst e
     exact ⟨m + 1, Nat.le_refl _, fun i hi => by
      by_cases e : i = m
      ·rw [e]; exact hk
      ·exact h2 i (by omega), fun i _ _ => by omega⟩
    ·have := h3 m (Nat.le_refl _) (by omega)
     rw [zCB (hs m n (by omega) hn) hk] at this
     cases this
   | false =>
    exact ⟨m, by omega, h2, fun i hi hi2 => by
     by_cases e : i = n
     ·rw [e]; exact hk
     ·exact h3 i hi (by omega)⟩
 obtain ⟨m, h1, h2, h3⟩ := key l.length (Nat.le_refl _)
 rw [zPM hs h1 h2 h3]
 exact ⟨h2, h3⟩
theorem zRS {l : List Write} {k : ByteArray} (hs : zB6 l) : fwF l k = true ↔ fwI l k < l.length ∧ (nth l (fwI l k)).Key = k := by
 obtain ⟨e1, e2⟩ := zWZ hs k
 rw [← e2, bsF, e1, Bool.and_eq_true, decide_eq_true_iff, decide_eq_true_iff, zJp]
theorem zAbX {l : List Write} {k : ByteArray} (hs : zB6 l) (hf : fwF l k = false) {i : Nat} (h1 : fwI l k ≤ i) (h2 : i < l.length) : zAj k (nth l i).Key = true := by
 have a := (zNU hs k).2 i h1 h2
 rcases zBP (nth l i).Key k with h | h | h
 ·rw [h] at a; cases a
 ·have : fwF l k = true := List.any_eq_true.2 ⟨_, zAc h2, by simp [h]⟩
  rw [this] at hf; cases hf
 ·exact h
theorem zK6 {l : List Write} {w : Write} (h : fwF l w.Key = true) : zCm l w = l.set (fwI l w.Key) w := by rw [zCm, if_pos h]
theorem zJ1 {l : List Write} {w : Write} (h : fwF l w.Key = false) : zCm l w = l.take (fwI l w.Key) ++ [w] ++ l.drop (fwI l w.Key) := by rw [zCm, h]; rfl
theorem zWo (l : List Write) (w : Write) : (zCm l w).length ≤ l.length + 1 := by
 unfold zCm
 split
 ·rw [List.length_set]; omega
 ·rw [List.length_append, List.length_append, List.length_take, List.length_drop]; simp; omega
theorem zRT {α : Type} [Inhabited α] {l : List α} {i j : Nat} {x : α} (h : j < l.length) : nth (l.set i x) j = if i = j then x else nth l j := by
 rw [zA6 (by simpa using h), List.getElem_set, zA6 h]
theorem zK7 {α : Type} [Inhabited α] {a b : List α} {j : Nat} (h : j < a.length) : nth (a ++ b) j = nth a j := by
 rw [zA6 (by rw [List.length_append]; omega), List.getElem_append_left h, zA6 h]
theorem zPN {α : Type} [Inhabited α] {a b : List α} {j : Nat} (h : a.length ≤ j) : nth (a ++ b) j = nth b (j - a.length) := by
 rw [nth, nth, List.getD_eq_getElem?_getD, List.getD_eq_getElem?_getD, List.getElem?_append_right h]
theorem zUL {α : Type} [Inhabited α] {l : List α} {i j : Nat} (h : j < i) : nth (l.take i) j = nth l j := by
 rw [nth, nth, List.getD_eq_getElem?_getD, List.getD_eq_getElem?_getD, List.getElem?_take, if_pos h]
theorem zWp {l : List Write} {w : Write} (hs : zB6 l) : zB6 (zCm l w) := by
 cases hf : fwF l w.Key with
 | true =>
  obtain ⟨a, b⟩ := (zRS hs).1 hf
  rw [zK6 hf]
  intro i j h1 h2
  rw [List.length_set] at h2
  rw [zRT (by omega), zRT h2]
  have := hs i j h1 h2
  split <;> split
  ·omega
  ·rename_i e _; rw [← e, b] at this; exact this
  ·rename_i _ e; rw [← e, b] at this; exact this
  ·exact this
 | false =>
  obtain ⟨q1, q2⟩ := zNU hs w.Key
  have hle := zUK (l := l) (k := w.Key)
  have hl1 : (l.take (fwI l w.Key)).length = fwI l w.Key := by rw [List.length_take]; omega
  have hl2 : (l.take (fwI l w.Key) ++ [w]).length = fwI l w.Key + 1 := by rw [List.length_append, hl1]; rfl
  have key : ∀ i, i < l.length + 1 → nth (zCm l w) i = if i < fwI l w.Key then nth l i else if i = fwI l w.Key then w else nth l (i - 1) := by
   intro i hi
   rw [zJ1 hf]
   split
   ·rename_i h; rw [zK7 (by omega), zK7 (by omega), zUL h]
   ·rename_i h
    split
    ·rename_i e; rw [zK7 (by omega), zPN (by omega), hl1, e, Nat.sub_self]; rfl
    ·rename_i e
     rw [zPN (by omega), hl2, zWj]
     congr 1; omega
  have hlen : (zCm l w).length = l.length + 1 := by
   rw [zJ1 hf, List.length_append, hl2, List.length_drop]; omega
  intro i j h1 h2
  rw [hlen] at h2
  rw [key i (by omega), key j h2]
  by_cases a1 : i < fwI l w.Key <;> by_cases a2 : i = fwI l w.Key <;> by_cases b1 : j < fwI l w.Key <;> by_cases b2 : j = fwI l w.Key <;>
   simp only [a1, a2, b1, b2, ↓reduceIte, Nat.lt_irrefl]
  all_goals first
   | omega
   | exact hs _ _ (by omega) (by omega)
   | exact q1 _ (by omega)
   | exact zAbX hs hf (by omega) (by omega)
theorem zWq {l : List Write} {w x : Write} (h : x ∈ zCm l w) : x = w ∨ x ∈ l := by
 unfold zCm at h
 split at h
 ·exact (List.mem_or_eq_of_mem_set h).symm
 ·simp only [List.mem_append, List.mem_singleton] at h
  rcases h with (h | h) | h
  ·exact .inr (List.mem_of_mem_take h)
  ·exact .inl h
  ·exact .inr (List.mem_of_mem_drop h)
theorem zQA (l : List Write) (w : Write) (hl : l.length ≤ 2 ^ 20) (hs : zB6 l) : ACall p_ 92 [.sl true 3 (l.map (Write.row true)), .agg (Write.row false w)] (fun r a => r = .sl true 3 ((zCm l w).map (Write.row true)) ∧ a = [.any, .agg (Write.row false w)]) := by
 have hmx := zAf
 have hle := zUK (l := l) (k := w.Key)
 have e1 : (fwI l w.Key : Int).toNat = fwI l w.Key := by omega
 cases h1 : fwF l w.Key with
 | true =>
  obtain ⟨a, b⟩ := (zRS hs).1 h1
  have i1 := zGf l w.Key (by omega) hs
  rw [h1] at i1
  have e := zK6 h1
  refine zI9 [true, false] (hqA H92) (hqB H92) ⟨by simp only [go_sem], fun E hE hH => ?_⟩; simp only [go_sem] at hE hH; simp only [go_sem, hE, hH, C92]
  all_goals (have y1_ := e1; repeat' (first | ((with_reducible apply ga) <;> refine zCO fun h => ?_) | ((with_reducible apply an); · omega) | ((first | refine zAa ?_ | refine cvA (i1) ?_); refine zAR ?_) | refine jn _ ?_ ?_ | (with_reducible first | apply both | apply an | exact ti) | exact zJE | refine zAR ?_ | exact zCH | refine zCG ?_))
  all_goals (rw [e, List.map_set]; rfl)
 | false =>
  have i1 := zGf l w.Key (by omega) hs
  rw [h1] at i1
  have e := zJ1 h1
  refine zI9 [true, false] (hqA H92) (hqB H92) ⟨by simp only [go_sem], fun E hE hH => ?_⟩; simp only [go_sem] at hE hH; simp only [go_sem, hE, hH, C92]
  all_goals (have y1_ := e1; repeat' (first | ((with_reducible apply ga) <;> refine zCO fun h => ?_) | ((with_reducible apply an); · omega) | (refine zBj [true, false, false] ?_; refine zAR ?_; refine cmA (zLT l [w] (fwI l w.Key) (by omega) (by omega) (by omega) (by simp)) ?_; refine zAR ?_) | ((first | refine zAa ?_ | refine cvA (i1) ?_); refine zAR ?_) | refine jn _ ?_ ?_ | (with_reducible first | apply both | apply an | exact ti) | exact zJE | refine zAR ?_ | exact zCH | refine zCG ?_))
  all_goals rw [e]
theorem zCw {α β : Type} [Inhabited α] {f : β → α → β} {b : β} {l : List α} {j : Nat} (h : j < l.length) : (l.take (j + 1)).foldl f b = f ((l.take j).foldl f b) (nth l j) := by
 simp only [zAD h, List.foldl_append, List.foldl_cons, List.foldl_nil]
theorem zJs {ws : List Write} : ∀ {l : List Write}, zB6 l → zB6 (ws.foldl zCm l) := by
 induction ws with
 | nil => exact fun h => h
 | cons w t ih => exact fun h => ih (zWp h)
theorem zJt {ws : List Write} : ∀ {l : List Write}, (ws.foldl zCm l).length ≤ l.length + ws.length := by
 induction ws with
 | nil => intro l; simp
 | cons w t ih =>
  intro l
  have := ih (l := zCm l w)
  have := zWo l w
  simp only [List.foldl_cons, List.length_cons]; omega
theorem zUM {ws : List Write} : ∀ {l : List Write} {x : Write}, x ∈ ws.foldl zCm l → x ∈ ws ∨ x ∈ l := by
 induction ws with
 | nil => exact fun h => .inr h
 | cons w t ih =>
  intro l x h
  rcases ih h with h | h
  ·exact .inl (List.mem_cons_of_mem _ h)
  ·rcases zWq h with h | h
   ·exact .inl (h ▸ List.mem_cons_self)
   ·exact .inr h
theorem zWr {l : List Write} {k : ByteArray} {x : Nat} (hs : zB6 l) (hx : x < l.length) (h2 : (nth l x).Key = k) : fwF l k = true ∧ fwI l k = x := by
 refine ⟨List.any_eq_true.2 ⟨_, zAc hx, by simp [h2]⟩, zPM hs (by omega) (fun i hi => by have := hs i x hi hx; rwa [h2] at this) fun i h1 h3 => ?_⟩
 by_cases e : i = x
 ·rw [e, h2]; exact zBr _
 ·have := hs x i (by omega) h3
  rw [h2] at this
  exact zCC this
theorem zAaR {l : List Write} {k : ByteArray} {x : Nat} (hs : zB6 l) (hx : x ≤ l.length) (h1 : ∀ i, x ≤ i → i < l.length → zAj k (nth l i).Key = true) (h2 : x = 0 ∨ zAj (nth l (x - 1)).Key k = true) : fwF l k = false ∧ fwI l k = x := by
 have hlo : ∀ i, i < x → zAj (nth l i).Key k = true := by
  intro i hi
  rcases h2 with h2 | h2
  ·omega
  ·by_cases e : i = x - 1
   ·rw [e]; exact h2
   ·exact zCB (hs i (x - 1) (by omega) (by omega)) h2
 refine ⟨?_, zPM hs hx hlo fun i a b => zCC (h1 i a b)⟩
 rw [fwF, List.any_eq_false]
 intro w hw
 obtain ⟨i, hi, rfl⟩ := List.getElem_of_mem hw
 rw [← zA6 hi, decide_eq_true_iff]
 intro e
 by_cases a : i < x
 ·have := hlo i a; rw [e, zBr] at this; cases this
 ·have := h1 i (by omega) hi; rw [e, zBr] at this; cases this
theorem zUN (l : List Write) (w : Write) (hl : l.length ≤ 2 ^ 20) (hs : zB6 l) : ACall p_ 73 [.sl false 3 (l.map (Write.row false)), .agg (Write.row false w)] (fun r _ => r = .sl true 3 ((zCm l w).map (Write.row true))) := by
 have hmx := zAf
 refine fg H73 fun E hE hH => ?_; simp only [go_sem, hE, hH, C73]
 try simp only [go_sem, hE, hH]
 refine zJU (fun (x : Nat) => ⟨[(0, .sl false 3 (l.map (Write.row false))), (3, .ptr 4000000 0 0), (5, i64 x)], [(4000000, ⟨3, [Write.row false w]⟩)]⟩) (fun x => x ≤ l.length ∧ ∀ i, x ≤ i → i < l.length → zAj w.Key (nth l i).Key = true) (fun x => x) l.length ⟨Nat.le_refl _, fun i a b => by omega⟩ ?_
 rintro x ⟨hx, hgt⟩
 have e1 : ((x : Int) - 1).toNat = x - 1 := by omega
 have e2 : (l.take x).length = x := by rw [List.length_take]; omega
 have e3 : (l.drop x).take (l.length - x) = l.drop x := List.take_of_length_le (by rw [List.length_drop]; exact Nat.le_refl _)
 have e4 : ∀ r : List T, (List.map (fun x : Write => [str x.Key, str x.Val, bl x.Gone]) (l.take x) ++ [r]).take (x + 1) = List.map (fun x : Write => [str x.Key, str x.Val, bl x.Gone]) (l.take x) ++ [r] := fun r => List.take_of_length_le (by rw [List.length_append, List.length_map, e2]; exact Nat.le_refl _)
 have e5 : (l.drop x).length = l.length - x := List.length_drop
 have e6 : (l.take x).take x = l.take x := by rw [List.take_take, Nat.min_self]
 have e7 : ∀ r : List T, (List.map (fun x : Write => [str x.Key, str x.Val, bl x.Gone]) (l.take x) ++ [r]).length = x + 1 := fun r => by rw [List.length_append, List.length_map, e2]; rfl
 have end1 : ∀ {h0 : 0 < x}, (nth l (x - 1)).Key = w.Key → (l.map (Write.row true)).set (x - 1) (Write.row true w) = (zCm l w).map (Write.row true) := by
  intro h0 h
  obtain ⟨a, b⟩ := zWr hs (x := x - 1) (by omega) h
  rw [zK6 a, b, List.map_set]
 have end2 : x = 0 ∨ zAj (nth l (x - 1)).Key w.Key = true → (l.take x).map (Write.row true) ++ [Write.row true w] ++ (l.drop x).map (Write.row true) = (zCm l w).map (Write.row true) := by
  intro h
  obtain ⟨a, b⟩ := zAaR hs hx hgt h
  rw [zJ1 a, b, List.map_append, List.map_append]; rfl
 try simp only [go_sem, hE, hH, zUy]
 repeat' (first | ((with_reducible first | refine zAg ?_ ?_ | refine zAh ?_ ?_) <;> (intro h; have hb := h; (try simp only [nf] at h); simp (disch := omega) only [go_sem, hE, hH, e1, e2, e3, e4, e5, e6, e7, hb]; (try clear hb))) | ((with_reducible refine And.intro ?_ ?_); · omega) | (with_reducible first | apply jn | apply both | refine And.intro ?_ ?_) | ((with_reducible apply zA4); (try (simp (disch := omega) only [go_sem, hE, hH, e1, e2, e3, e4, e5, e6, e7])); first | done | rfl) | (simp (disch := omega) only [go_sem, hE, hH, e1, e2, e3, e4, e5, e6, e7]) | ((first | apply zAN | apply zBs) <;> (simp only [go_sem, hE, hH, e1, e2, e3, e4, e5, e6, e7]; done)) | (simp only [go_sem, hE, hH, e1, e2, e3, e4, e5, e6, e7]) | fail)
 all_goals try omega
 ·refine ⟨x - 1, by rw [show ((x : Int) - 1) = ((x - 1 : Nat) : Int) by omega], ⟨by omega, fun i h1 h2 => ?_⟩, by omega⟩
  by_cases e : i = x - 1
  ·rw [e]; assumption
  ·exact hgt i (by omega) h2
 ·exact congrArg (T.sl true 3) (end1 (h0 := by omega) (by assumption))
 ·exact congrArg (T.sl true 3) (end2 (.inr (by
   rcases zBP (nth l (x - 1)).Key w.Key with q | q | q
   ·exact q
   ·contradiction
   ·simp_all)))
 ·exact congrArg (T.sl true 3) (end2 (.inl (by omega)))
def zEe (x : Lock) : Bool := zAX x.Key && rng x.Txn 1 60
def zJu (x y : Lock) : Bool := decide (x.Key = y.Key) && !decide (x.Txn = y.Txn) && (x.Write || y.Write)
def zEf (x y : Lock) : Bool := zJu x y || (decide (x.Key = y.Key) && decide (x.Txn = y.Txn))
def zC9 (l : List Lock) : Bool := zAq (fun i => zEe (nth l i) && !(l.take i).any fun y => zEf (nth l i) y) l.length && decide ((l.length : Int) ≤ 60)
theorem zUO (x : Lock) (hw : x.wf) : ACall p_ 123 [.agg (Lock.row false x)] (fun r _ => r = bl (zEe x)) := by
 refine fg H123 fun E hE hH => ?_; simp only [go_sem, hE, hH, zY9]
 repeat' (first | ((with_reducible apply ga) <;> refine gs fun h => ?_) | ((with_reducible apply an); · omega) | ((first | refine zAa ?_ | refine cvA (zFF _ hw.1) ?_ | refine cvA (zPH _) ?_); refine st ?_) | (with_reducible first | apply jn | apply both | apply an | exact ti) | exact fj | refine st ?_ | exact fm | refine s1 ?_)
 all_goals (first | (simp_all [zEe]; done) | (simp_all [zEe] <;> first | omega | (intros; omega)))
theorem zS0 (x : Lock) (hw : x.wf) : ACall p_ 106 [.agg (Lock.row false x)] (fun r _ => r = bl (zEe x)) := by
 refine fg H106 fun E hE hH => ?_; simp only [go_sem, hE, hH, zYV]
 repeat' (first | ((with_reducible apply ga) <;> refine gs fun h => ?_) | ((with_reducible apply an); · omega) | ((first | refine zAa ?_ | refine cvA (zDi _ hw.1) ?_ | refine cvA (zBp _ _ _) ?_); refine st ?_) | (with_reducible first | apply jn | apply both | apply an | exact ti) | exact fj | refine st ?_ | exact fm | refine s1 ?_)
 all_goals (first | (simp_all [zEe]; done) | (simp_all [zEe] <;> first | omega | (intros; omega)))
open Go.Proofs.Wb renaming H126 → z0_ in
theorem zQB (x y : Lock) : ACall p_ 126 [.agg (Lock.row false x), .agg (Lock.row false y)] (fun r _ => r = bl (zJu x y)) := Q20_
open Go.Proofs.Wb renaming H107 → z0_ in
theorem zQC (x y : Lock) : ACall p_ 107 [.agg (Lock.row false x), .agg (Lock.row false y)] (fun r _ => r = bl (zJu x y)) := Q20_
theorem zM1 (y x : Lock) : ACall p_ 125 ([.agg (Lock.row false y)] ++ [.bx false (Lock.row false x)]) (fun r _ => r = bl (zEf x y)) := by
 refine fg H125 fun E hE hH => ?_; simp only [go_sem, hE, hH, zZa]
 repeat' (first | ((with_reducible apply ga) <;> refine gs fun h => ?_) | ((with_reducible apply an); · omega) | ((first | refine zAa ?_ | refine cvA (zQB x y) ?_); refine st ?_) | (with_reducible first | apply jn | apply both | apply an | exact ti) | exact fj | refine st ?_ | exact fm | refine s1 ?_)
 all_goals (first | (simp_all [zEf]; done) | (simp_all [zEf] <;> first | omega | (intros; omega)))
theorem zPO (l : List Lock) (hl : wfL Lock.wf l) : ACall p_ 80 [.sl false 3 (l.map (Lock.row false))] (fun r _ => r = bl (zC9 l)) := by
 obtain ⟨hl, hx⟩ := hl
 have hmx := zAf
 refine fg H80 fun E hE hH => ?_; simp only [go_sem, hE, hH, C80]
 repeat' (first | ((with_reducible apply ga) <;> refine gs fun h => ?_) | ((with_reducible apply an); · omega) | refine jn _ ?_ ?_ | (with_reducible first | apply both | apply an | exact ti) | exact fe | refine st ?_ | exact fm | refine s1 ?_)
 refine zA0 l.length (fun j (_ : Unit) => ⟨[(0, .sl false 3 (l.map (Lock.row false))), (5, .sl false 3 (l.map (Lock.row false))), (6, i64 l.length), (7, i64 j)], []⟩) (fun j _ => zAq (fun i => zEe (nth l i) && !(l.take i).any fun y => zEf (nth l i) y) j = true) () rfl rfl ?_
 intro j _ hj hI
 try simp only [go_sem, hE, hH, zUz]
 first | refine zAg (fun h => ?_) (fun h => ?_) | refine zAh (fun h => ?_) (fun h => ?_)
 ·have hb := h
  simp only [nf] at h
  have hlt := h; clear h
  have hw := hx _ (zAc hlt)
  have ht : ((l.map (Lock.row false)).take j) = (l.take j).map (Lock.row false) := by rw [List.map_take]
  try simp (disch := omega) only [go_sem, hE, hH, hb, ht]
  repeat' (first | ((with_reducible apply ga) <;> refine gs fun h => ?_) | ((with_reducible apply an); · omega) | ((first | refine zAa ?_ | refine cvA (zUO _ hw) ?_ | refine cvA (zIa (l.take j) _ [.bx false (Lock.row false (nth l j))] (fun y => zEf (nth l j) y) (by kernel_rfl) rfl (by rw [List.length_take]; omega) (fun y _ => zM1 y _)) ?_); refine st ?_) | refine jn _ ?_ ?_ | (with_reducible first | apply both | apply an | exact ti) | exact fe | refine st ?_ | exact fm | refine s1 ?_)
  all_goals first | (rw [zC9, zAz hlt (by simp_all)]; rfl) | (exact ⟨(), rfl, zAd hI (by simp_all)⟩)
 ·try simp (disch := omega) only [go_sem, hE, hH, h]
  simp only [nf] at h
  rw [show j = l.length by omega] at hI
  repeat' (first | ((with_reducible apply ga) <;> refine gs fun h => ?_) | ((with_reducible apply an); · omega) | refine jn _ ?_ ?_ | (with_reducible first | apply both | apply an | exact ti) | exact fe | refine st ?_ | exact fm | refine s1 ?_)
  all_goals first | (rw [zC9, hI]; simp_all; done) | (simp_all [zC9]; done)
theorem zS1 (l : List Lock) (hl : wfL Lock.wf l) : ACall p_ 65 [.sl false 3 (l.map (Lock.row false))] (fun r _ => r = bl (zC9 l)) := by
 obtain ⟨hl, hx⟩ := hl
 have hmx := zAf
 refine fg H65 fun E hE hH => ?_; simp only [go_sem, hE, hH, C65]
 repeat' (first | ((with_reducible apply ga) <;> refine gs fun h => ?_) | ((with_reducible apply an); · omega) | refine jn _ ?_ ?_ | (with_reducible first | apply both | apply an | exact ti) | exact fe | refine st ?_ | exact fm | refine s1 ?_)
 refine zA0 l.length (fun j (_ : Unit) => ⟨[(0, .sl false 3 (l.map (Lock.row false))), (7, .sl false 3 (l.map (Lock.row false))), (8, i64 l.length), (9, i64 j)], []⟩) (fun j _ => zAq (fun i => zEe (nth l i) && !(l.take i).any fun y => zEf (nth l i) y) j = true) () rfl rfl ?_
 intro j _ hj hI
 try simp only [go_sem, hE, hH, zUu]
 first | refine zAg (fun h => ?_) (fun h => ?_) | refine zAh (fun h => ?_) (fun h => ?_)
 ·have hb := h
  simp only [nf] at h
  have hlt := h; clear h
  have hw := hx _ (zAc hlt)
  try refine sb ?_; try exact ⟨⟩
  repeat' (first | ((with_reducible apply ga) <;> refine gs fun h => ?_) | ((with_reducible apply an); · omega) | ((first | refine zAa ?_ | refine cvA (zS0 _ hw) ?_); refine st ?_) | refine jn _ ?_ ?_ | (with_reducible first | apply both | apply an | exact ti) | exact fe | refine st ?_ | exact fm | refine s1 ?_)
  ·rw [zC9, zAz hlt (by simp_all)]; rfl
  have hlj : (l.take j).length = j := by rw [List.length_take]; omega
  refine zA0 (l.take j).length (fun k (_ : Unit) => ⟨[(0, .sl false 3 (l.map (Lock.row false))), (4, .ptr 5000000 0 0), (7, .sl false 3 (l.map (Lock.row false))), (8, i64 l.length), (9, i64 j), (19, .sl false 3 ((l.take j).map (Lock.row false))), (20, i64 (l.take j).length), (21, i64 k)], [(5000000, ⟨3, [Lock.row false (nth l j)]⟩)]⟩) (fun k _ => zAq (fun i => !zEf (nth l j) (nth (l.take j) i)) k = true) () (by simp [hlj, Lock.row]) rfl ?_
  intro k _ hk hK
  try simp only [go_sem, hE, hH, zUt]
  first | refine zAg (fun h2 => ?_) (fun h2 => ?_) | refine zAh (fun h2 => ?_) (fun h2 => ?_)
  ·have hb2 := h2
   simp only [nf] at h2
   have hlt2 : k < (l.take j).length := by omega
   try simp (disch := omega) only [go_sem, hE, hH, hb2]
   have hany : zEf (nth l j) (nth (l.take j) k) = true → ((l.take j).any fun y => zEf (nth l j) y) = true := fun h => List.any_eq_true.2 ⟨_, zAc hlt2, h⟩
   repeat' (first | ((with_reducible apply ga) <;> refine gs fun h => ?_) | ((with_reducible apply an); · omega) | ((first | refine zAa ?_ | refine cvA (zQC (nth l j) (nth (l.take j) k)) ?_); refine st ?_) | refine jn _ ?_ ?_ | (with_reducible first | apply both | apply an | exact ti) | exact fe | refine st ?_ | exact fm | refine s1 ?_)
   all_goals first | (rw [zC9, zAz hlt (by rw [hany (by simp_all [zEf])]; simp)]; rfl) | (exact ⟨(), rfl, zAd hK (by simp_all [zEf])⟩)
  ·try simp (disch := omega) only [go_sem, hE, hH, h2]
   simp only [nf] at h2
   rw [show k = (l.take j).length by omega] at hK
   have hN : ((l.take j).any fun y => zEf (nth l j) y) = false := by
    rw [zAQ (p := fun y : Lock => !zEf (nth l j) y)] at hK
    rw [List.any_eq_false]
    intro x hx'
    have := List.all_eq_true.1 hK x hx'
    simpa using this
   repeat' (first | ((with_reducible apply ga) <;> refine gs fun h => ?_) | ((with_reducible apply an); · omega) | refine jn _ ?_ ?_ | (with_reducible first | apply both | apply an | exact ti) | exact fe | refine st ?_ | exact fm | refine s1 ?_)
   all_goals first | (exact ⟨(), rfl, zAd hI (by simp_all)⟩)
 ·try simp (disch := omega) only [go_sem, hE, hH, h]
  simp only [nf] at h
  rw [show j = l.length by omega] at hI
  repeat' (first | ((with_reducible apply ga) <;> refine gs fun h => ?_) | ((with_reducible apply an); · omega) | refine jn _ ?_ ?_ | (with_reducible first | apply both | apply an | exact ti) | exact fe | refine st ?_ | exact fm | refine s1 ?_)
  all_goals first | (rw [zC9, hI]; simp_all; done) | (simp_all [zC9]; done)
def zEP (o : Op) : Bool := rng o.Kind 1 7 && zAX o.Key && zC8 o.Val && ((decide (o.Kind = 2) || decide (o.Kind = 7)) || decide (o.Val = ⟨⟨[]⟩⟩)) && rng o.By (-9999) 9999 && ((decide (o.Kind = 4) || decide (o.Kind = 5)) || decide (o.By = 0))
def zGL (l : List Op) : Bool := decide ((l.length : Int) ≤ 8) && l.all zEP
theorem zQD : zC8 ⟨⟨[]⟩⟩ = true := by decide
open Go.Proofs.Wb renaming H223 → z0_, zZ2 → z1_ in
theorem zUP (k : Int) : ACall p_ 223 [i64 k] (fun r _ => r = bl (decide (k = 2) || decide (k = 7))) := Q21_
open Go.Proofs.Wb renaming H224 → z0_, zZ3 → z1_ in
theorem zWs (k : Int) : ACall p_ 224 [i64 k] (fun r _ => r = bl (decide (k = 4) || decide (k = 5))) := Q21_
theorem zXN (o : Op) (hw : o.wf) : ACall p_ 192 [.agg (Op.row false o)] (fun r _ => r = bl (zEP o)) := by
 have hmx := zAf
 refine fg H192 fun E hE hH => ?_; simp only [go_sem, hE, hH, zZK]
 repeat' (first | ((with_reducible apply ga) <;> refine gs fun h => ?_) | ((with_reducible apply an); · omega) | ((first | refine zAa ?_ | refine cvA (zBa _ _ _) ?_ | refine cvA (zFF _ hw.2.1) ?_ | refine cvA (zLV _ hw.2.2.1) ?_ | refine cvA (zUP _) ?_ | refine cvA (zWs _) ?_); refine st ?_) | (with_reducible first | apply jn | apply both | apply an | exact ti) | exact fj | refine st ?_ | exact fm | refine s1 ?_)
 all_goals (first | (simp_all [zEP]; done) | (simp_all [zEP] <;> first | omega | (intros; omega)))
theorem zXO (o : Op) (hw : o.wf) : ACall p_ 156 [.agg (Op.row false o)] (fun r _ => r = bl (zEP o)) := by
 have hmx := zAf
 refine fg H156 fun E hE hH => ?_; simp only [go_sem, hE, hH, zZt]
 repeat' (first | ((with_reducible apply ga) <;> refine gs fun h => ?_) | ((with_reducible apply an); · omega) | ((first | refine zAa ?_ | refine cvA (zDi _ hw.2.1) ?_ | refine cvA (zK4 _ hw.2.2.1) ?_ | refine cvA (zBp _ _ _) ?_); refine st ?_) | (with_reducible first | apply jn | apply both | apply an | exact ti) | exact fj | refine st ?_ | exact fm | refine s1 ?_)
 all_goals (first | (simp_all [zEP, zQD, rng]; done) | (have hk : rng o.Kind 1 7 = false := (zGd.2 (by omega)); rw [zEP, hk]; rfl) | trace_state)
theorem zPP (o : Op) (hw : o.wf) : ACall p_ 191 ([.agg (Op.row false o)] ++ []) (fun r _ => r = bl (!zEP o)) := by
 refine fg H191 fun E hE hH => ?_; simp only [go_sem, hE, hH, zZJ]
 repeat' (first | ((with_reducible apply ga) <;> refine gs fun h => ?_) | ((with_reducible apply an); · omega) | ((first | refine zAa ?_ | refine cvA (zXN o hw) ?_); refine st ?_) | refine jn _ ?_ ?_ | (with_reducible first | apply both | apply an | exact ti) | exact fe | refine st ?_ | exact fm | refine s1 ?_)
theorem zS2 (l : List Op) (hl : wfL Op.wf l) : ACall p_ 164 [.sl false 4 (l.map (Op.row false))] (fun r _ => r = bl (zGL l)) := by
 obtain ⟨hl, hx⟩ := hl
 have hmx := zAf
 have hn : (l.any fun o => !zEP o) = !(l.all zEP) := zRR
 refine fg H164 fun E hE hH => ?_; simp only [go_sem, hE, hH, zZy]
 repeat' (first | ((with_reducible apply ga) <;> refine gs fun h => ?_) | ((with_reducible apply an); · omega) | ((first | refine zAa ?_ | refine cvA (zJn l _ [] (fun o => !zEP o) (by kernel_rfl) rfl hl (fun o ho => zPP o (hx o ho))) ?_); refine st ?_) | (with_reducible first | apply jn | apply both | apply an | exact ti) | exact fj | refine st ?_ | exact fm | refine s1 ?_)
 all_goals first | (simp_all [zGL]; done) | (have hl8 : decide ((l.length : Int) ≤ 8) = false := decide_eq_false (by omega); rw [zGL, hl8]; rfl)
theorem zUQ (l : List Op) (hl : wfL Op.wf l) : ACall p_ 108 [.sl false 4 (l.map (Op.row false))] (fun r _ => r = bl (zGL l)) := by
 obtain ⟨hl, hx⟩ := hl
 have hmx := zAf
 refine fg H108 fun E hE hH => ?_; simp only [go_sem, hE, hH, zYW]
 repeat' (first | ((with_reducible apply ga) <;> refine gs fun h => ?_) | ((with_reducible apply an); · omega) | refine jn _ ?_ ?_ | (with_reducible first | apply both | apply an | exact ti) | exact fe | refine st ?_ | exact fm | refine s1 ?_)
 refine zA0 l.length (fun j (_ : Unit) => ⟨[(0, .sl false 4 (l.map (Op.row false))), (5, .sl false 4 (l.map (Op.row false))), (6, i64 l.length), (7, i64 j)], []⟩) (fun j _ => zAq (fun i => zEP (nth l i)) j = true) () rfl rfl ?_
 intro j _ hj hI
 try simp only [go_sem, hE, hH, zQ9]
 first | refine zAg (fun h => ?_) (fun h => ?_) | refine zAh (fun h => ?_) (fun h => ?_)
 ·have hb := h
  simp only [nf] at h
  have hlt := h; clear h
  have hw := hx _ (zAc hlt)
  try refine sb ?_; try exact ⟨⟩
  repeat' (first | ((with_reducible apply ga) <;> refine gs fun h => ?_) | ((with_reducible apply an); · omega) | ((first | refine zAa ?_ | refine cvA (zXO _ hw) ?_); refine st ?_) | refine jn _ ?_ ?_ | (with_reducible first | apply both | apply an | exact ti) | exact fe | refine st ?_ | exact fm | refine s1 ?_)
  all_goals first | (have e : l.all zEP = false := (by rw [← zAQ]; exact zAz hlt (by assumption)); rw [zGL, e, Bool.and_false]; done) | (exact ⟨(), rfl, zAd hI (by assumption)⟩)
 ·try simp (disch := omega) only [go_sem, hE, hH, h]
  simp only [nf] at h
  rw [show j = l.length by omega, zAQ] at hI
  repeat' (first | ((with_reducible apply ga) <;> refine gs fun h => ?_) | ((with_reducible apply an); · omega) | refine jn _ ?_ ?_ | (with_reducible first | apply both | apply an | exact ti) | exact fe | refine st ?_ | exact fm | refine s1 ?_)
  all_goals first | (rw [zGL, hI]; simp_all; done) | (simp_all [zGL]; done)
end Go.Proofs.Wb

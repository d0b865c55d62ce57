import Derived.Test.YtmhgijcckgijaaaGreatFnExactLookHoldsN0
import Derived.Laws.Externs
set_option linter.unusedSimpArgs false
set_option linter.unusedVariables false
set_option linter.unusedSectionVars false
namespace Go.Proofs.Wb
open Go Go.Am
def stored (v : ByteArray) (gone : Bool) : Bool := zCZ v && !(gone && !decide (v = ⟨⟨[]⟩⟩))
theorem zDI {α β : Type} [Inhabited α] [Inhabited β] {f : α → β} {l : List α} {i : Nat} (h : i < l.length) : nth (l.map f) i = f (nth l i) := by
 rw [zBd (by simpa using h), zBd h, List.getElem_map]
theorem zKU (s : ByteArray) (hs : s.size ≤ maxLen) : ACall Tryz.prog 195 [str s] (fun r _ => r = bl (zCZ s)) := by
 refine fi H195 fun E hE hH => ?_; simp only [go_sem] at hE hH; simp only [go_sem, hE, hH, zX3]
 repeat' (first | ((with_reducible first | refine zAa ?_ ?_ | refine zAb ?_ ?_) <;> (intro h; have hb := h; (try simp only [nf] at h); refine sb ?_; (try clear hb))) | ((with_reducible refine And.intro ?_ ?_); · omega) | ((first | refine zAc ?_ | refine cvA (zJt _ _ hs) ?_); refine st ?_) | refine jn _ ?_ ?_ | (with_reducible first | refine both ?_ ?_ | refine And.intro ?_ ?_) | exact fe | refine st ?_ | exact fm | refine s1 ?_ | (with_reducible exact True.intro))
 all_goals (first | (simp_all [zCZ]; done) | (simp_all [zCZ] <;> first | omega | (intros; omega)))
theorem zKa (s : ByteArray) (hs : s.size ≤ maxLen) : ACall Tryz.prog 155 [str s] (fun r _ => r = bl (zCZ s)) := by
 refine fi H155 fun E hE hH => ?_; simp only [go_sem] at hE hH; simp only [go_sem, hE, hH, zXG]
 repeat' (first | ((with_reducible first | refine zAa ?_ ?_ | refine zAb ?_ ?_) <;> (intro h; have hb := h; (try simp only [nf] at h); refine sb ?_; (try clear hb))) | ((with_reducible refine And.intro ?_ ?_); · omega) | ((first | refine zAc ?_ | refine cvA (zKT _ _ hs (by decide)) ?_); refine st ?_) | refine jn _ ?_ ?_ | (with_reducible first | refine both ?_ ?_ | refine And.intro ?_ ?_) | exact fe | refine st ?_ | exact fm | refine s1 ?_ | (with_reducible exact True.intro))
 all_goals (first | (simp_all [zCZ]; done) | (simp_all [zCZ] <;> first | omega | (intros; omega)))
theorem zGA (s : ByteArray) (g : Bool) (hs : s.size ≤ maxLen) : ACall Tryz.prog 162 [str s, bl g] (fun r _ => r = bl (stored s g)) := by
 refine fi H162 fun E hE hH => ?_; simp only [go_sem] at hE hH; simp only [go_sem, hE, hH, zXK]
 repeat' (first | ((with_reducible first | refine zAa ?_ ?_ | refine zAb ?_ ?_) <;> (intro h; have hb := h; (try simp only [nf] at h); refine sb ?_; (try clear hb))) | ((with_reducible refine And.intro ?_ ?_); · omega) | ((first | refine zAc ?_ | refine cvA (zKU _ hs) ?_); refine st ?_) | refine jn _ ?_ ?_ | (with_reducible first | refine both ?_ ?_ | refine And.intro ?_ ?_) | exact fe | refine st ?_ | exact fm | refine s1 ?_ | (with_reducible exact True.intro))
 all_goals simp_all [stored]
theorem zKV (k s : ByteArray) (g : Bool) (hk : k.size ≤ maxLen) (hs : s.size ≤ maxLen) : ACall Tryz.prog 99 [str k, str s, bl g] (fun r _ => r = bl (zAZ k && stored s g)) := by
 refine fi H99 fun E hE hH => ?_; simp only [go_sem] at hE hH; simp only [go_sem, hE, hH, C99]
 repeat' (first | ((with_reducible first | refine zAa ?_ ?_ | refine zAb ?_ ?_) <;> (intro h; have hb := h; (try simp only [nf] at h); refine sb ?_; (try clear hb))) | ((with_reducible refine And.intro ?_ ?_); · omega) | ((first | refine zAc ?_ | refine cvA (zC8 _ hk) ?_ | refine cvA (zKa _ hs) ?_); refine st ?_) | refine jn _ ?_ ?_ | (with_reducible first | refine both ?_ ?_ | refine And.intro ?_ ?_) | exact fe | refine st ?_ | exact fm | refine s1 ?_ | (with_reducible exact True.intro))
 all_goals simp_all [stored]
def zBm (l : List Write) : Bool := decide ((l.length : Int) ≤ 24) && zAu (fun i => (zAZ (nth l i).Key && stored (nth l i).Val (nth l i).Gone) && (decide (i = 0) || zAm (nth l (i - 1)).Key (nth l i).Key)) l.length
theorem zHP (l : List Write) : zBm l = (decide ((l.length : Int) ≤ 24) && zBv (l.map (·.Key)) && !l.any fun w => !stored w.Val w.Gone) := by
 have h1 : (!l.any fun w => !stored w.Val w.Gone) = zAu (fun i => stored (nth l i).Val (nth l i).Gone) l.length := by
  rw [zAS (p := fun w : Write => stored w.Val w.Gone)]
  simp [List.any_eq_not_all_not]
 have h2 : zBv (l.map (·.Key)) = zAu (fun i => zAZ (nth l i).Key && (decide (i = 0) || zAm (nth l (i - 1)).Key (nth l i).Key)) l.length := by
  unfold zBv
  rw [List.length_map]
  refine zHs fun i hi => ?_
  rw [zDI hi, zDI (by omega)]
 rw [h1, h2, zBm, Bool.and_assoc]
 congr 1
 rw [Bool.eq_iff_iff, Bool.and_eq_true, zAE, zAE, zAE]
 constructor
 ·intro h
  exact ⟨fun i hi => by have := h i hi; simp only [Bool.and_eq_true] at this ⊢; exact ⟨this.1.1, this.2⟩, fun i hi => by have := h i hi; simp only [Bool.and_eq_true] at this ⊢; exact this.1.2⟩
 ·rintro ⟨ha, hb⟩ i hi
  have ha := ha i hi; have hb := hb i hi
  simp only [Bool.and_eq_true] at ha hb ⊢
  exact ⟨⟨ha.1, hb⟩, ha.2⟩
theorem zOD (l : List Write) (hl : l.length ≤ 2 ^ 20) : ACall Tryz.prog 159 [.sl false 3 (l.map (Write.row false))] (fun r _ => r = .sl true 1 (strs (l.map (·.Key)))) := by
 refine fi H159 fun E hE hH => ?_; simp only [go_sem] at hE hH; simp only [go_sem, hE, hH, zXI]
 refine zBg l.length (fun j (x : List ByteArray) => ⟨[(3, .ref 4000000 0 x.length), (7, .sl false 3 (l.map (Write.row false))), (8, i64 l.length), (9, i64 j)], [(4000000, ⟨1, strs x⟩)]⟩) (fun j x => x = (l.take j).map (·.Key)) [] (by simp) (by simp) ?_
 intro j x hj hx
 have hlen : x.length = j := by rw [hx]; simp; omega
 try simp only [go_sem, hE, hH, zQg]
 first | refine zAa (fun h => ?_) (fun h => ?_) | refine zAb (fun h => ?_) (fun h => ?_)
 ·have hb := h
  simp only [nf] at h
  try simp (disch := omega) only [go_sem, hE, hH, hb]
  refine ⟨by omega, by omega, by omega, ?_⟩
  rw [zAI h, List.map_append, ← hx]
  simp [hlen]; omega
 ·have hb := h
  simp only [nf] at h
  try simp (disch := omega) only [go_sem, hE, hH, hb]
  rw [hx, show j = l.length by omega, List.take_length]
theorem zKW (w : Write) (hw : w.wf) : ACall Tryz.prog 161 [.agg (Write.row false w)] (fun r _ => r = bl (!stored w.Val w.Gone)) := by
 obtain ⟨w1, w2⟩ := hw
 refine fi H161 fun E hE hH => ?_; simp only [go_sem] at hE hH; simp only [go_sem, hE, hH, zXJ]
 repeat' (first | ((with_reducible first | refine zAa ?_ ?_ | refine zAb ?_ ?_) <;> (intro h; have hb := h; (try simp only [nf] at h); refine sb ?_; (try clear hb))) | ((with_reducible refine And.intro ?_ ?_); · omega) | ((first | refine zAc ?_ | refine cvA (zGA _ _ w2) ?_); refine st ?_) | refine jn _ ?_ ?_ | (with_reducible first | refine both ?_ ?_ | refine And.intro ?_ ?_) | exact fe | refine st ?_ | exact fm | refine s1 ?_ | (with_reducible exact True.intro))
theorem zNa (l : List Write) (hl : wfL Write.wf l) : ACall Tryz.prog 104 [.sl false 3 (l.map (Write.row false))] (fun r _ => r = bl (zBm l)) := by
 obtain ⟨hl, hx⟩ := hl
 have hmx := zAi
 have hr : zA0 (fun s : ByteArray => s.size ≤ maxLen) (l.map (·.Key)) := ⟨by simpa using hl, fun s hs => by obtain ⟨w, hw, rfl⟩ := List.mem_map.1 hs; exact (hx w hw).1⟩
 rw [zHP]
 refine fi H104 fun E hE hH => ?_; simp only [go_sem] at hE hH; simp only [go_sem, hE, hH, zXe]
 repeat' (first | ((with_reducible first | refine zAa ?_ ?_ | refine zAb ?_ ?_) <;> (intro h; have hb := h; (try simp only [nf] at h); refine sb ?_; (try clear hb))) | ((with_reducible refine And.intro ?_ ?_); · omega) | ((first | refine zAc ?_ | refine cvA (zOD l (by omega)) ?_ | refine cvA (zC9 _ hr) ?_ | refine cvA (zDH l _ [] (fun w => !stored w.Val w.Gone) (by kernel_rfl) rfl hl (fun w hw => zKW w (hx w hw))) ?_); refine st ?_) | refine jn _ ?_ ?_ | (with_reducible first | refine both ?_ ?_ | refine And.intro ?_ ?_) | exact fe | refine st ?_ | exact fm | refine s1 ?_ | (with_reducible exact True.intro))
 all_goals (first | (simp_all []; done) | (simp_all [] <;> first | omega | (intros; omega)))
theorem zJu (l : List Write) (hl : wfL Write.wf l) : ACall Tryz.prog 47 [.sl false 3 (l.map (Write.row false))] (fun r _ => r = bl (zBm l)) := by
 obtain ⟨hl, hx⟩ := hl
 have hmx := zAi
 refine fi H47 fun E hE hH => ?_; simp only [go_sem] at hE hH; simp only [go_sem, hE, hH, C47]
 refine zAx l.length (fun j (_ : Unit) => ⟨[(0, .sl false 3 (l.map (Write.row false))), (5, .sl false 3 (l.map (Write.row false))), (6, i64 l.length), (7, i64 j)], []⟩) (fun j _ => zAu (fun i => (zAZ (nth l i).Key && stored (nth l i).Val (nth l i).Gone) && (decide (i = 0) || zAm (nth l (i - 1)).Key (nth l i).Key)) j = true) () rfl ?_
 intro j _ hj hI
 try simp only [go_sem, hE, hH, zS5]
 first | refine zAa (fun h => ?_) (fun h => ?_) | refine zAb (fun h => ?_) (fun h => ?_)
 ·have hb := h
  simp only [nf] at h
  have hlt := h; clear h
  obtain ⟨w1, w2⟩ := hx _ (zAh hlt)
  try simp (disch := omega) only [go_sem, hE, hH, hb]
  repeat' (first | ((with_reducible first | refine zAa ?_ ?_ | refine zAb ?_ ?_) <;> (intro h; have hb := h; (try simp only [nf] at h); refine sb ?_; (try clear hb))) | ((with_reducible refine And.intro ?_ ?_); · omega) | ((first | refine zAc ?_ | refine cvA (zKV _ _ _ w1 w2) ?_); refine st ?_) | refine jn _ ?_ ?_ | (with_reducible first | refine both ?_ ?_ | refine And.intro ?_ ?_) | exact fe | refine st ?_ | exact fm | refine s1 ?_ | (with_reducible exact True.intro))
  ·rw [zBm, zAF hlt (by simp_all)]; simp
  ·rw [zBm, zAF hlt (by simp_all <;> omega)]; simp
  ·first | exact ⟨(), rfl, zAf hI (by simp_all <;> omega)⟩ | exact ⟨by omega, (), rfl, zAf hI (by simp_all <;> omega)⟩ | exact ⟨by omega, by omega, (), rfl, zAf hI (by simp_all <;> omega)⟩
  ·first | exact ⟨(), rfl, zAf hI (by simp_all <;> omega)⟩ | exact ⟨by omega, (), rfl, zAf hI (by simp_all <;> omega)⟩ | exact ⟨by omega, by omega, (), rfl, zAf hI (by simp_all <;> omega)⟩
 ·try simp (disch := omega) only [go_sem, hE, hH, h]
  simp only [nf] at h
  rw [show j = l.length by omega] at hI
  rw [zBm, hI]
  simp
def zA5 (l : List Got) : Bool := zAu (fun i => (zAZ (nth l i).Key && stored (nth l i).Val (!(nth l i).There)) && !(l.take i).any fun h => decide (h.Key = (nth l i).Key)) l.length && decide ((l.length : Int) ≤ 8)
theorem zPx (h g : Got) : ACall Tryz.prog 181 ([.agg (Got.row false h)] ++ [.bx false (Got.row false g)]) (fun r _ => r = bl (decide (h.Key = g.Key))) := by
 refine fi H181 fun E hE hH => ?_; simp only [go_sem] at hE hH; simp only [go_sem, hE, hH, zXW]
 try simp (disch := omega) only [go_sem, hE, hH]
theorem zMM (l : List Got) (hl : wfL Got.wf l) : ACall Tryz.prog 140 [.sl false 3 (l.map (Got.row false))] (fun r _ => r = bl (zA5 l)) := by
 obtain ⟨hl, hx⟩ := hl
 have hmx := zAi
 refine fi H140 fun E hE hH => ?_; simp only [go_sem] at hE hH; simp only [go_sem, hE, hH, zXx]
 refine zAx l.length (fun j (_ : Unit) => ⟨[(0, .sl false 3 (l.map (Got.row false))), (5, .sl false 3 (l.map (Got.row false))), (6, i64 l.length), (7, i64 j)], []⟩) (fun j _ => zAu (fun i => (zAZ (nth l i).Key && stored (nth l i).Val (!(nth l i).There)) && !(l.take i).any fun h => decide (h.Key = (nth l i).Key)) j = true) () rfl ?_
 intro j _ hj hI
 try simp only [go_sem, hE, hH, zQd]
 first | refine zAa (fun h => ?_) (fun h => ?_) | refine zAb (fun h => ?_) (fun h => ?_)
 ·have hb := h
  simp only [nf] at h
  have hlt := h; clear h
  obtain ⟨w1, w2⟩ := hx _ (zAh hlt)
  have ht : ((l.map (Got.row false)).take j) = (l.take j).map (Got.row false) := by rw [List.map_take]
  try simp (disch := omega) only [go_sem, hE, hH, hb, ht]
  repeat' (first | ((with_reducible first | refine zAa ?_ ?_ | refine zAb ?_ ?_) <;> (intro h; have hb := h; (try simp only [nf] at h); refine sb ?_; (try clear hb))) | ((with_reducible refine And.intro ?_ ?_); · omega) | ((first | refine zAc ?_ | refine cvA (zFb _ w1) ?_ | refine cvA (zGA _ _ w2) ?_ | refine cvA (zHR (l.take j) _ [.bx false (Got.row false (nth l j))] (fun h => decide (h.Key = (nth l j).Key)) (by kernel_rfl) rfl (by rw [List.length_take]; omega) (fun h _ => zPx h _)) ?_); refine st ?_) | refine jn _ ?_ ?_ | (with_reducible first | refine both ?_ ?_ | refine And.intro ?_ ?_) | exact fe | refine st ?_ | exact fm | refine s1 ?_ | (with_reducible exact True.intro))
  ·rw [zA5, zAF hlt (by simp_all)]; simp
  ·rw [zA5, zAF hlt (by simp_all)]; simp
  ·rw [zA5, zAF hlt (by simp_all)]; simp
  ·first | exact ⟨(), rfl, zAf hI (by simp_all)⟩ | exact ⟨by omega, (), rfl, zAf hI (by simp_all)⟩ | exact ⟨by omega, by omega, (), rfl, zAf hI (by simp_all)⟩
 ·try simp (disch := omega) only [go_sem, hE, hH, h]
  simp only [nf] at h
  rw [show j = l.length by omega] at hI
  rw [zA5, hI]
  simp
theorem zMN (l : List Got) (hl : wfL Got.wf l) : ACall Tryz.prog 118 [.sl false 3 (l.map (Got.row false))] (fun r _ => r = bl (zA5 l)) := by
 obtain ⟨hl, hx⟩ := hl
 have hmx := zAi
 refine fi H118 fun E hE hH => ?_; simp only [go_sem] at hE hH; simp only [go_sem, hE, hH, zXk]
 refine zAx l.length (fun j (_ : Unit) => ⟨[(0, .sl false 3 (l.map (Got.row false))), (7, .sl false 3 (l.map (Got.row false))), (8, i64 l.length), (9, i64 j)], []⟩) (fun j _ => zAu (fun i => (zAZ (nth l i).Key && stored (nth l i).Val (!(nth l i).There)) && !(l.take i).any fun h => decide (h.Key = (nth l i).Key)) j = true) () rfl ?_
 intro j _ hj hI
 try simp only [go_sem, hE, hH, zP6]
 first | refine zAa (fun h => ?_) (fun h => ?_) | refine zAb (fun h => ?_) (fun h => ?_)
 ·have hb := h
  simp only [nf] at h
  have hlt := h; clear h
  obtain ⟨w1, w2⟩ := hx _ (zAh hlt)
  try simp (disch := omega) only [go_sem, hE, hH, hb]
  repeat' (first | ((with_reducible first | refine zAa ?_ ?_ | refine zAb ?_ ?_) <;> (intro h; have hb := h; (try simp only [nf] at h); refine sb ?_; (try clear hb))) | ((with_reducible refine And.intro ?_ ?_); · omega) | ((first | refine zAc ?_ | refine cvA (zC8 _ w1) ?_ | refine cvA (zKa _ w2) ?_); refine st ?_) | refine jn _ ?_ ?_ | (with_reducible first | refine both ?_ ?_ | refine And.intro ?_ ?_) | exact fe | refine st ?_ | exact fm | refine s1 ?_ | (with_reducible exact True.intro))
  ·rw [zA5, zAF hlt (by simp_all)]; simp
  ·rw [zA5, zAF hlt (by simp_all [stored])]; simp
  ·rw [zA5, zAF hlt (by simp_all [stored])]; simp
  ·have hlj : (l.take j).length = j := by rw [List.length_take]; omega
   refine zAx (l.take j).length (fun k (_ : Unit) => ⟨[(0, .sl false 3 (l.map (Got.row false))), (4, .ptr 5000000 0 0), (7, .sl false 3 (l.map (Got.row false))), (8, i64 l.length), (9, i64 j), (36, .sl false 3 ((l.take j).map (Got.row false))), (37, i64 (l.take j).length), (38, i64 k)], [(5000000, ⟨3, [Got.row false (nth l j)]⟩)]⟩) (fun k _ => zAu (fun i => !decide ((nth (l.take j) i).Key = (nth l j).Key)) k = true) () rfl ?_
   intro k _ hk hK
   try simp only [go_sem, hE, hH, zLG]
   first | refine zAa (fun h2 => ?_) (fun h2 => ?_) | refine zAb (fun h2 => ?_) (fun h2 => ?_)
   ·have hb2 := h2
    simp only [nf] at h2
    have hlt2 : k < (l.take j).length := by omega
    try simp (disch := omega) only [go_sem, hE, hH, hb2]
    repeat' (first | ((with_reducible first | refine zAa ?_ ?_ | refine zAb ?_ ?_) <;> (intro h; have hb := h; (try simp only [nf] at h); refine sb ?_; (try clear hb))) | ((with_reducible refine And.intro ?_ ?_); · omega) | refine jn _ ?_ ?_ | (with_reducible first | refine both ?_ ?_ | refine And.intro ?_ ?_) | exact fe | refine st ?_ | exact fm | refine s1 ?_ | (with_reducible exact True.intro))
    ·rw [zA5, zAF hlt (by
      have : ((l.take j).any fun h => decide (h.Key = (nth l j).Key)) = true := List.any_eq_true.2 ⟨_, zAh hlt2, by simp_all⟩
      simp_all)]
     simp
    ·first | exact ⟨(), rfl, zAf hK (by show (!decide _) = true; rw [Bool.not_eq_true', decide_eq_false_iff_not]; exact fun e => h e.symm)⟩ | exact ⟨by omega, (), rfl, zAf hK (by show (!decide _) = true; rw [Bool.not_eq_true', decide_eq_false_iff_not]; exact fun e => h e.symm)⟩ | exact ⟨by omega, by omega, (), rfl, zAf hK (by show (!decide _) = true; rw [Bool.not_eq_true', decide_eq_false_iff_not]; exact fun e => h e.symm)⟩
   ·try simp (disch := omega) only [go_sem, hE, hH, h2]
    simp only [nf] at h2
    rw [show k = (l.take j).length by omega] at hK
    have hN : ((l.take j).any fun h => decide (h.Key = (nth l j).Key)) = false := by
     rw [zAS (p := fun h : Got => !decide (h.Key = (nth l j).Key))] at hK
     rw [List.any_eq_false]
     intro x hx'
     have := List.all_eq_true.1 hK x hx'
     simpa using this
    first | exact ⟨(), rfl, zAf hI (by simp_all [stored])⟩ | exact ⟨by omega, (), rfl, zAf hI (by simp_all [stored])⟩ | exact ⟨by omega, by omega, (), rfl, zAf hI (by simp_all [stored])⟩
  ·have hlj : (l.take j).length = j := by rw [List.length_take]; omega
   refine zAx (l.take j).length (fun k (_ : Unit) => ⟨[(0, .sl false 3 (l.map (Got.row false))), (4, .ptr 5000000 0 0), (7, .sl false 3 (l.map (Got.row false))), (8, i64 l.length), (9, i64 j), (36, .sl false 3 ((l.take j).map (Got.row false))), (37, i64 (l.take j).length), (38, i64 k)], [(5000000, ⟨3, [Got.row false (nth l j)]⟩)]⟩) (fun k _ => zAu (fun i => !decide ((nth (l.take j) i).Key = (nth l j).Key)) k = true) () rfl ?_
   intro k _ hk hK
   try simp only [go_sem, hE, hH, zLG]
   first | refine zAa (fun h2 => ?_) (fun h2 => ?_) | refine zAb (fun h2 => ?_) (fun h2 => ?_)
   ·have hb2 := h2
    simp only [nf] at h2
    have hlt2 : k < (l.take j).length := by omega
    try simp (disch := omega) only [go_sem, hE, hH, hb2]
    repeat' (first | ((with_reducible first | refine zAa ?_ ?_ | refine zAb ?_ ?_) <;> (intro h; have hb := h; (try simp only [nf] at h); refine sb ?_; (try clear hb))) | ((with_reducible refine And.intro ?_ ?_); · omega) | refine jn _ ?_ ?_ | (with_reducible first | refine both ?_ ?_ | refine And.intro ?_ ?_) | exact fe | refine st ?_ | exact fm | refine s1 ?_ | (with_reducible exact True.intro))
    ·rw [zA5, zAF hlt (by
      have : ((l.take j).any fun h => decide (h.Key = (nth l j).Key)) = true := List.any_eq_true.2 ⟨_, zAh hlt2, by simp_all⟩
      simp_all)]
     simp
    ·first | exact ⟨(), rfl, zAf hK (by show (!decide _) = true; rw [Bool.not_eq_true', decide_eq_false_iff_not]; exact fun e => h e.symm)⟩ | exact ⟨by omega, (), rfl, zAf hK (by show (!decide _) = true; rw [Bool.not_eq_true', decide_eq_false_iff_not]; exact fun e => h e.symm)⟩ | exact ⟨by omega, by omega, (), rfl, zAf hK (by show (!decide _) = true; rw [Bool.not_eq_true', decide_eq_false_iff_not]; exact fun e => h e.symm)⟩
   ·try simp (disch := omega) only [go_sem, hE, hH, h2]
    simp only [nf] at h2
    rw [show k = (l.take j).length by omega] at hK
    have hN : ((l.take j).any fun h => decide (h.Key = (nth l j).Key)) = false := by
     rw [zAS (p := fun h : Got => !decide (h.Key = (nth l j).Key))] at hK
     rw [List.any_eq_false]
     intro x hx'
     have := List.all_eq_true.1 hK x hx'
     simpa using this
    first | exact ⟨(), rfl, zAf hI (by simp_all [stored])⟩ | exact ⟨by omega, (), rfl, zAf hI (by simp_all [stored])⟩ | exact ⟨by omega, by omega, (), rfl, zAf hI (by simp_all [stored])⟩
 ·try simp (disch := omega) only [go_sem, hE, hH, h]
  simp only [nf] at h
  rw [show j = l.length by omega] at hI
  rw [zA5, hI]
  simp
open Go.Proofs.Wb renaming H177 → z0_, zXU → z1_, zA8 → z2_ in
theorem zOE (n : Int) : ACall Tryz.prog 177 [i64 n] (fun r _ => r = bl (rng n 1 60)) := zMc
open Go.Proofs.Wb renaming H49 → z0_, C49 → z1_, zA8 → z2_ in
theorem zF6 (n : Int) : ACall Tryz.prog 49 [i64 n] (fun r _ => r = bl (rng n 0 100000)) := zMc
open Go.Proofs.Wb renaming H46 → z0_, C46 → z1_, zBq → z2_ in
theorem zIG (n : Int) : ACall Tryz.prog 46 [i64 n] (fun r _ => r = bl (rng n 0 100000)) := zMc
theorem zKX (x : ByteArray) : ACall Tryz.prog 211 [str x] (fun r _ => r = bl false) := by
 refine fi H211 fun E hE hH => ?_; simp only [go_sem] at hE hH; simp only [go_sem, hE, hH, zX9]
 try simp (disch := omega) only [go_sem, hE, hH]
def zDV (a b : ByteArray) : Int := if zAm a b then -1 else if zAm b a then 1 else 0
theorem zE1 (a b : ByteArray) : ACall Tryz.prog 191 [str a, str b] (fun r _ => r = i64 (zDV a b)) := by
 refine fi H191 fun E hE hH => ?_; simp only [go_sem] at hE hH; simp only [go_sem, hE, hH, zNv]
 repeat' (first | ((with_reducible first | refine zAa ?_ ?_ | refine zAb ?_ ?_) <;> (intro h; have hb := h; (try simp only [nf] at h); refine sb ?_; (try clear hb))) | ((with_reducible refine And.intro ?_ ?_); · omega) | ((first | refine zAc ?_ | refine cvA (zKX _) ?_); refine st ?_) | refine jn _ ?_ ?_ | (with_reducible first | refine both ?_ ?_ | refine And.intro ?_ ?_) | exact fe | refine st ?_ | exact fm | refine s1 ?_ | (with_reducible exact True.intro))
 all_goals (rcases zCu a b with q | q | q <;> simp_all [zDV, zBP, zDv])
open Go.Proofs.Wb renaming H190 → z0_, zF3 → z1_, zE1 → z2_ in
theorem zLY (w : Write) (key : ByteArray) : ACall Tryz.prog 190 ([.agg (Write.row false w), str key] ++ []) (fun r _ => r = i64 (zDV w.Key key)) := zO8
def zGB (l : List Write) : Prop := ∀ i j, i < j → j < l.length → zAm (nth l i).Key (nth l j).Key = true
theorem zG0 {l : List Write} (h : zBm l = true) : zGB l := by
 simp only [zBm, Bool.and_eq_true] at h
 have key : ∀ d i, i + d + 1 < l.length → zAm (nth l i).Key (nth l (i + d + 1)).Key = true := by
  intro d
  induction d with
  | zero =>
   intro i hi
   have := zAE.1 h.2 (i + 1) (by omega)
   simp only [Bool.and_eq_true, Bool.or_eq_true, decide_eq_true_eq] at this
   exact this.2.resolve_left (by omega)
  | succ d ih =>
   intro i hi
   have h1 := ih i (by omega)
   have := zAE.1 h.2 (i + d + 2) (by omega)
   simp only [Bool.and_eq_true, Bool.or_eq_true, decide_eq_true_eq] at this
   exact zCt h1 (this.2.resolve_left (by omega))
 intro i j h1 h2
 have := key (j - i - 1) i (by omega)
 rwa [show i + (j - i - 1) + 1 = j by omega] at this
def fwI (l : List Write) (k : ByteArray) : Nat := zCE (fun i => zAm (nth l i).Key k) l.length
def fwF (l : List Write) (k : ByteArray) : Bool := l.any fun w => decide (w.Key = k)
theorem zKb {a b : ByteArray} : zDV a b < 0 ↔ zAm a b = true := by
 unfold zDV
 split
 ·simp_all
 ·split <;> simp_all
theorem zMO {a b : ByteArray} : zDV a b = 0 ↔ a = b := by
 unfold zDV
 rcases zCu a b with h | h | h
 ·rw [if_pos h]; simp [zHt h]
 ·subst h; simp [zBP]
 ·rw [zDv h, if_neg (by simp), if_pos h]; simp [(zHt h).symm]
theorem zAaf {l : List Write} (hs : zGB l) (k : ByteArray) : bsI (fun w : Write => zDV w.Key k) l = fwI l k ∧ bsF (fun w : Write => zDV w.Key k) l = fwF l k := by
 have e1 : bsI (fun w : Write => zDV w.Key k) l = fwI l k := by
  unfold bsI fwI
  congr 1; funext i
  rw [Bool.eq_iff_iff, decide_eq_true_iff, zKb]
 refine ⟨e1, ?_⟩
 rw [Bool.eq_iff_iff]
 unfold bsF fwF
 rw [e1, Bool.and_eq_true, decide_eq_true_iff, decide_eq_true_iff, zMO, List.any_eq_true]
 constructor
 ·rintro ⟨h1, h2⟩; exact ⟨_, zAh h1, by simp [h2]⟩
 ·rintro ⟨w, hw, h1⟩
  obtain ⟨i, hi, rfl⟩ := List.getElem_of_mem hw
  simp only [decide_eq_true_eq] at h1
  rw [← zBd hi] at h1
  have e2 : fwI l k = i := by
   unfold fwI
   rw [zER (Nat.le_of_lt hi) (fun j a b => ?_), zFB (zAE.2 fun j hj => ?_)]
   ·rw [← h1]; exact hs j i hj hi
   ·by_cases e : j = i
    ·rw [e, h1]; exact zBP _
    ·rw [← h1]; exact zDv (hs i j (by omega) b)
  rw [e2]; exact ⟨hi, h1⟩
theorem zOF (l : List Write) (key : ByteArray) (hl : l.length ≤ 2 ^ 60) (hs : zGB l) : ACall Tryz.prog 157 [.sl false 3 (l.map (Write.row false)), str key] (fun r _ => r = .tup [i64 (fwI l key), bl (fwF l key)]) := by
 obtain ⟨e1, e2⟩ := zAaf hs key
 refine fi H157 fun E hE hH => ?_; simp only [go_sem] at hE hH; simp only [go_sem, hE, hH, zXH]
 repeat' (first | ((with_reducible first | refine zAa ?_ ?_ | refine zAb ?_ ?_) <;> (intro h; have hb := h; (try simp only [nf] at h); refine sb ?_; (try clear hb))) | ((with_reducible refine And.intro ?_ ?_); · omega) | ((first | refine zAc ?_ | refine cvA (zE9 l key _ [] (fun w => zDV w.Key key) (by kernel_rfl) rfl hl (fun i j h1 h2 h3 => by have := hs i j h1 h2; rw [← Int.not_lt, zKb] at h3 ⊢; exact fun h => h3 (zCt this h)) (fun w _ => zLY w key)) ?_); refine st ?_) | refine jn _ ?_ ?_ | (with_reducible first | refine both ?_ ?_ | refine And.intro ?_ ?_) | exact fe | refine st ?_ | exact fm | refine s1 ?_ | (with_reducible exact True.intro))
 all_goals simp only [e1, e2]
theorem zJv (l : List Write) (key : ByteArray) (hl : l.length ≤ maxLen) : ACall Tryz.prog 272 [.sl false 3 (l.map (Write.row false)), str key] (fun r _ => r = bl (fwF l key)) := by
 have hmx := zAi
 refine fi H272 fun E hE hH => ?_; simp only [go_sem] at hE hH; simp only [go_sem, hE, hH, zYU]
 refine zAx l.length (fun j (_ : Unit) => ⟨[(1, str key), (7, .sl false 3 (l.map (Write.row false))), (8, i64 l.length), (9, i64 j)], []⟩) (fun j _ => zAu (fun i => !decide ((nth l i).Key = key)) j = true) () rfl ?_
 intro j _ hj hI
 try simp only [go_sem, hE, hH, zQD]
 first | refine zAa (fun h => ?_) (fun h => ?_) | refine zAb (fun h => ?_) (fun h => ?_)
 ·have hb := h
  simp only [nf] at h
  have hlt := h; clear h
  try simp (disch := omega) only [go_sem, hE, hH, hb]
  repeat' (first | ((with_reducible first | refine zAa ?_ ?_ | refine zAb ?_ ?_) <;> (intro h; have hb := h; (try simp only [nf] at h); refine sb ?_; (try clear hb))) | ((with_reducible refine And.intro ?_ ?_); · omega) | refine jn _ ?_ ?_ | (with_reducible first | refine both ?_ ?_ | refine And.intro ?_ ?_) | exact fe | refine st ?_ | exact fm | refine s1 ?_ | (with_reducible exact True.intro))
  ·have : fwF l key = true := List.any_eq_true.2 ⟨_, zAh hlt, by simp [h]⟩
   rw [this]
  ·first | exact ⟨(), rfl, zAf hI (by simp [h])⟩ | exact ⟨by omega, (), rfl, zAf hI (by simp [h])⟩ | exact ⟨by omega, by omega, (), rfl, zAf hI (by simp [h])⟩
 ·try simp (disch := omega) only [go_sem, hE, hH, h]
  simp only [nf] at h
  rw [show j = l.length by omega, zAS (p := fun w : Write => !decide (w.Key = key))] at hI
  have : fwF l key = false := by
   rw [fwF, List.any_eq_false]; intro x hx; simpa using List.all_eq_true.1 hI x hx
  rw [this]
def zHA (ws : List Write) (reads : List ByteArray) (others : List Write) : Bool := ws.any fun w => fwF others w.Key || reads.any fun x => decide (w.Key = x)
theorem zOG (w : Write) (others : List Write) (reads : List ByteArray) (hl : others.length ≤ 2 ^ 60) (hr : reads.length ≤ maxLen) (hs : zGB others) : ACall Tryz.prog 298 ([.agg (Write.row false w)] ++ [.bx false [.sl false 3 (others.map (Write.row false))], .bx false [.sl false 1 (strs reads)]]) (fun r _ => r = bl (fwF others w.Key || reads.any fun x => decide (w.Key = x))) := by
 refine fi H298 fun E hE hH => ?_; simp only [go_sem] at hE hH; simp only [go_sem, hE, hH, zZa]
 repeat' (first | ((with_reducible first | refine zAa ?_ ?_ | refine zAb ?_ ?_) <;> (intro h; have hb := h; (try simp only [nf] at h); refine sb ?_; (try clear hb))) | ((with_reducible refine And.intro ?_ ?_); · omega) | ((first | refine zAc ?_ | refine cvA (zOF others _ hl hs) ?_ | refine cvA (zIF _ _ hr) ?_); refine st ?_) | refine jn _ ?_ ?_ | (with_reducible first | refine both ?_ ?_ | refine And.intro ?_ ?_) | exact fe | refine st ?_ | exact fm | refine s1 ?_ | (with_reducible exact True.intro))
 all_goals simp_all
theorem zKY (ws : List Write) (reads : List ByteArray) (others : List Write) (hw : ws.length ≤ maxLen) (hl : others.length ≤ 2 ^ 60) (hr : reads.length ≤ maxLen) (hs : zGB others) : ACall Tryz.prog 288 [.sl false 3 (ws.map (Write.row false)), .sl false 1 (strs reads), .sl false 3 (others.map (Write.row false))] (fun r _ => r = bl (zHA ws reads others)) := by
 refine fi H288 fun E hE hH => ?_; simp only [go_sem] at hE hH; simp only [go_sem, hE, hH, zY5]
 repeat' (first | ((with_reducible first | refine zAa ?_ ?_ | refine zAb ?_ ?_) <;> (intro h; have hb := h; (try simp only [nf] at h); refine sb ?_; (try clear hb))) | ((with_reducible refine And.intro ?_ ?_); · omega) | ((first | refine zAc ?_ | refine cvA (zDH ws _ [.bx false [.sl false 3 (others.map (Write.row false))], .bx false [.sl false 1 (strs reads)]] (fun w => fwF others w.Key || reads.any fun x => decide (w.Key = x)) (by kernel_rfl) rfl hw (fun w _ => zOG w others reads hl hr hs)) ?_); refine st ?_) | refine jn _ ?_ ?_ | (with_reducible first | refine both ?_ ?_ | refine And.intro ?_ ?_) | exact fe | refine st ?_ | exact fm | refine s1 ?_ | (with_reducible exact True.intro))
 rfl
def zHB (a b : Int) : Int := if a < b then -1 else if b < a then 1 else 0
theorem zOH (x : Int) : ACall Tryz.prog 281 [i64 x] (fun r _ => r = bl false) := by
 refine fi H281 fun E hE hH => ?_; simp only [go_sem] at hE hH; simp only [go_sem, hE, hH, zY0]
 try simp (disch := omega) only [go_sem, hE, hH]
theorem zG1 (a b : Int) : ACall Tryz.prog 255 [i64 a, i64 b] (fun r _ => r = i64 (zHB a b)) := by
 refine fi H255 fun E hE hH => ?_; simp only [go_sem] at hE hH; simp only [go_sem, hE, hH, zNv]
 repeat' (first | ((with_reducible first | refine zAa ?_ ?_ | refine zAb ?_ ?_) <;> (intro h; have hb := h; (try simp only [nf] at h); refine sb ?_; (try clear hb))) | ((with_reducible refine And.intro ?_ ?_); · omega) | ((first | refine zAc ?_ | refine cvA (zOH _) ?_); refine st ?_) | refine jn _ ?_ ?_ | (with_reducible first | refine both ?_ ?_ | refine And.intro ?_ ?_) | exact fe | refine st ?_ | exact fm | refine s1 ?_ | (with_reducible exact True.intro))
 all_goals (unfold zHB)
 ·rw [if_pos h]
 ·rw [if_neg (by omega), if_pos h]
 ·rw [if_neg (by omega), if_neg (by omega)]
theorem zTm (n : Int) : ACall Tryz.prog 128 [i64 n] (fun r _ => r = bl (decide (n = 3) || decide (n = 5))) := by
 refine fi H128 fun E hE hH => ?_; simp only [go_sem] at hE hH; simp only [go_sem, hE, hH, zXq]
 repeat' (first | ((with_reducible first | refine zAa ?_ ?_ | refine zAb ?_ ?_) <;> (intro h; have hb := h; (try simp only [nf] at h); refine sb ?_; (try clear hb))) | ((with_reducible refine And.intro ?_ ?_); · omega) | refine jn _ ?_ ?_ | (with_reducible first | refine both ?_ ?_ | refine And.intro ?_ ?_) | exact fe | refine st ?_ | exact fm | refine s1 ?_ | (with_reducible exact True.intro))
 all_goals (first | (simp_all []; done) | (simp_all [] <;> first | omega | (intros; omega)))
def zNx (a b : Int) : Int := if a > b then a else b
theorem zTn (a b : Int) : ACall Tryz.prog 223 [i64 a, i64 b] (fun r _ => r = i64 (zNx a b)) := by
 refine fi H223 fun E hE hH => ?_; simp only [go_sem] at hE hH; simp only [go_sem, hE, hH, zYk]
 repeat' (first | ((with_reducible first | refine zAa ?_ ?_ | refine zAb ?_ ?_) <;> (intro h; have hb := h; (try simp only [nf] at h); refine sb ?_; (try clear hb))) | ((with_reducible refine And.intro ?_ ?_); · omega) | refine jn _ ?_ ?_ | (with_reducible first | refine both ?_ ?_ | refine And.intro ?_ ?_) | exact fe | refine st ?_ | exact fm | refine s1 ?_ | (with_reducible exact True.intro))
 all_goals (simp only [zNx]; first | rw [if_pos (by omega)] | rw [if_neg (by omega)])
open Go.Proofs.Wb renaming H201 → z0_, zX6 → z1_, zA8 → z2_ in
theorem zMP (n : Int) : ACall Tryz.prog 201 [i64 n] (fun r _ => r = bl (rng n 1 100000)) := zMc
open Go.Proofs.Wb renaming H214 → z0_, zYb → z1_, zBq → z2_ in
theorem zIH (n : Int) : ACall Tryz.prog 214 [i64 n] (fun r _ => r = bl (rng n 1 100000)) := zMc
theorem zMQ (l : List ByteArray) (hl : zA0 (fun s => s.size ≤ maxLen) l) : ACall Tryz.prog 215 [.sl false 1 (strs l)] (fun r _ => r = bl (zBv l && decide ((l.length : Int) ≤ 8))) := by
 obtain ⟨hl, hx⟩ := hl
 have hmx := zAi
 refine fi H215 fun E hE hH => ?_; simp only [go_sem] at hE hH; simp only [go_sem, hE, hH, zYc]
 refine zAx l.length (fun j (_ : Unit) => ⟨[(0, .sl false 1 (strs l)), (5, .sl false 1 (strs l)), (6, i64 l.length), (7, i64 j)], []⟩) (fun j _ => zAu (fun i => zAZ (nth l i) && (decide (i = 0) || zAm (nth l (i - 1)) (nth l i))) j = true) () rfl ?_
 intro j _ hj hI
 try simp only [go_sem, hE, hH, zQl]
 first | refine zAa (fun h => ?_) (fun h => ?_) | refine zAb (fun h => ?_) (fun h => ?_)
 ·have hb := h
  simp only [nf] at h
  have hlt := h; clear h
  have hs := hx _ (zAh hlt)
  try simp (disch := omega) only [go_sem, hE, hH, hb]
  repeat' (first | ((with_reducible first | refine zAa ?_ ?_ | refine zAb ?_ ?_) <;> (intro h; have hb := h; (try simp only [nf] at h); refine sb ?_; (try clear hb))) | ((with_reducible refine And.intro ?_ ?_); · omega) | ((first | refine zAc ?_ | refine cvA (zC8 _ (by assumption)) ?_); refine st ?_) | refine jn _ ?_ ?_ | (with_reducible first | refine both ?_ ?_ | refine And.intro ?_ ?_) | exact fe | refine st ?_ | exact fm | refine s1 ?_ | (with_reducible exact True.intro))
  ·rw [zBv, zAF hlt (by simp_all)]; rfl
  ·rw [zBv, zAF hlt (by simp_all <;> omega)]; rfl
  ·exact ⟨(), rfl, zAf hI (by simp_all)⟩
  ·exact ⟨(), rfl, zAf hI (by simp_all <;> omega)⟩
 ·try simp (disch := omega) only [go_sem, hE, hH, h]
  simp only [nf] at h
  rw [show j = l.length by omega] at hI
  rw [zBv, hI]
  simp
def zF7 (r : Rec) : Bool := decide (r.Lead = 0) && decide (r.Reads.length = 0) && decide (r.Writes.length = 0)
def zA6 (r : Rec) : Bool :=
 if r.Kind = 1 then rng r.Txn 1 60 && rng r.Time 1 100000 && rng r.Lead 0 3 && (zBv r.Reads && decide ((r.Reads.length : Int) ≤ 8)) && decide ((r.Writes.length : Int) ≤ 8) && zBm r.Writes && decide (0 < r.Reads.length + r.Writes.length) && !r.Yes
 else if r.Kind = 2 ∨ r.Kind = 3 then zF7 r && rng r.Txn 1 60 && ((r.Yes && rng r.Time 1 100000) || (!r.Yes && decide (r.Time = 0)))
 else if r.Kind = 4 then zF7 r && decide (r.Txn = 0) && rng r.Time 1 100000 && !r.Yes
 else false
theorem zRN (r : Rec) (hw : r.wf) : ACall Tryz.prog 176 [.agg (Rec.row false r)] (fun x _ => x = bl (zA6 r)) := by
 have hmx := zAi
 obtain ⟨w1, w2, w3, w4, w5, w6⟩ := hw
 refine fi H176 fun E hE hH => ?_; simp only [go_sem] at hE hH; simp only [go_sem, hE, hH, zXT]
 repeat' (first | ((with_reducible first | refine zAa ?_ ?_ | refine zAb ?_ ?_) <;> (intro h; have hb := h; (try simp only [nf] at h); refine sb ?_; (try clear hb))) | ((with_reducible refine And.intro ?_ ?_); · omega) | ((first | refine zAc ?_ | refine cvA (zOE _) ?_ | refine cvA (zMP _) ?_ | refine cvA (zA8 _ _ _) ?_ | refine cvA (zC9 _ w5) ?_ | refine cvA (zNa _ w6) ?_); refine st ?_) | (with_reducible first | apply jn | apply both | refine And.intro ?_ ?_) | exact fj | refine st ?_ | exact fm | refine s1 ?_ | (with_reducible exact True.intro))
 all_goals (first | (simp_all [zA6, zF7]; done) | (simp_all [zA6, zF7] <;> first | omega | (intros; omega)))
def zRO (r : Rec) : Prop := r.wf ∧ r.Reads.length ≤ 2 ^ 60 ∧ r.Writes.length ≤ 2 ^ 60
theorem zTo (r : Rec) (hw : zRO r) : ACall Tryz.prog 197 [.agg (Rec.row false r)] (fun x _ => x = bl (zA6 r)) := by
 have hmx := zAi
 obtain ⟨⟨w1, w2, w3, w4, w5, w6⟩, z1, z2⟩ := hw
 have hrl : rng (r.Writes.length : Int) 0 8 = decide ((r.Writes.length : Int) ≤ 8) := by simp [rng]
 by_cases hb : r.Reads.length + r.Writes.length = 0
 ·have hR : r.Reads = [] := List.length_eq_zero_iff.1 (by omega)
  have hW : r.Writes = [] := List.length_eq_zero_iff.1 (by omega)
  refine fi zX4 fun E hE hH => ?_; simp only [go_sem] at hE hH; simp only [go_sem, hE, hH, zUF]
  repeat' (first | ((with_reducible first | refine zAa ?_ ?_ | refine zAb ?_ ?_) <;> (intro h; have hb := h; (try simp only [nf] at h); refine sb ?_; (try clear hb))) | ((with_reducible refine And.intro ?_ ?_); · omega) | ((first | refine zAc ?_ | refine cvA (zBq _ _ _) ?_ | refine cvA (zIH _) ?_ | refine cvA (zMQ _ w5) ?_ | refine cvA (zJu _ w6) ?_); refine st ?_) | (with_reducible first | apply jn | apply both | refine And.intro ?_ ?_) | exact fj | refine st ?_ | exact fm | refine s1 ?_ | (with_reducible exact True.intro))
  all_goals (first | (simp_all [zA6, zF7]; done) | (simp_all [zA6, zF7]; omega))
 ·have hn : zF7 r = false := by
   have : (decide (r.Reads.length = 0) && decide (r.Writes.length = 0)) = false := by
    rw [Bool.and_eq_false_iff, decide_eq_false_iff_not, decide_eq_false_iff_not]; omega
   rw [zF7, Bool.and_assoc, this, Bool.and_false]
  have hp : 0 < r.Reads.length + r.Writes.length := by omega
  have hp2 : (0 : Int) < (r.Reads.length : Int) + r.Writes.length := by omega
  refine fi zX4 fun E hE hH => ?_; simp only [go_sem] at hE hH; simp only [go_sem, hE, hH, zUF]
  repeat' (first | ((with_reducible first | refine zAa ?_ ?_ | refine zAb ?_ ?_) <;> (intro h; have hb := h; (try simp only [nf] at h); refine sb ?_; (try clear hb))) | ((with_reducible refine And.intro ?_ ?_); · omega) | ((first | refine zAc ?_ | refine cvA (zBq _ _ _) ?_ | refine cvA (zIH _) ?_ | refine cvA (zMQ _ w5) ?_ | refine cvA (zJu _ w6) ?_); refine st ?_) | (with_reducible first | apply jn | apply both | refine And.intro ?_ ?_) | exact fj | refine st ?_ | exact fm | refine s1 ?_ | (with_reducible exact True.intro))
  all_goals (clear hb)
  all_goals (first | omega | (simp [zA6, *]; done) | (simp_all [zA6]; done) | (simp_all [zA6] <;> omega) | trace_state)
theorem zPy (r : Rec) (hw : zRO r) : ACall Tryz.prog 168 [.agg (Rec.row false r)] (fun x _ => x = bl (zA6 r)) := by
 refine fi H168 fun E hE hH => ?_; simp only [go_sem] at hE hH; simp only [go_sem, hE, hH, zXN]
 repeat' (first | ((with_reducible first | refine zAa ?_ ?_ | refine zAb ?_ ?_) <;> (intro h; have hb := h; (try simp only [nf] at h); refine sb ?_; (try clear hb))) | ((with_reducible refine And.intro ?_ ?_); · omega) | ((first | refine zAc ?_ | refine cvA (zTo r hw) ?_); refine st ?_) | refine jn _ ?_ ?_ | (with_reducible first | refine both ?_ ?_ | refine And.intro ?_ ?_) | exact fe | refine st ?_ | exact fm | refine s1 ?_ | (with_reducible exact True.intro))
def zBW (t : Int) (l : List Entry) (i : Nat) : Bool := rng (nth l i).Term 1 t && zA6 (nth l i).Rec && (decide (i = 0) || !decide ((nth l i).Term < (nth l (i - 1)).Term))
def zF8 (t : Int) (l : List Entry) : Bool := zAu (zBW t l) l.length && decide ((l.length : Int) ≤ 60)
theorem zFL {t : Int} {l : List Entry} {j : Nat} (hlt : j < l.length) (h : zBW t l j = false) : zF8 t l = false := by
 rw [zF8, zAF hlt h]; rfl
def zKZ (l : List Entry) (j : Nat) : Int := if j = 0 then 1 else (nth l (j - 1)).Term
theorem zUT {t : Int} {l : List Entry} {j : Nat} (h : 1 ≤ zKZ l j) : (rng (nth l j).Term (zKZ l j) t && zA6 (nth l j).Rec) = zBW t l j := by
 unfold zKZ at h ⊢
 unfold zBW
 by_cases hj : j = 0
 ·simp [hj]
 ·simp only [hj, if_false] at h ⊢
  rw [Bool.eq_iff_iff]
  simp only [Bool.and_eq_true, zBJ, Bool.or_eq_true, decide_eq_true_eq, Bool.not_eq_true', decide_eq_false_iff_not, hj, false_or]
  constructor
  ·rintro ⟨⟨h1, h2⟩, h3⟩; exact ⟨⟨⟨by omega, h2⟩, h3⟩, by omega⟩
  ·rintro ⟨⟨⟨h1, h2⟩, h3⟩, h4⟩; exact ⟨⟨by omega, h2⟩, h3⟩
theorem zUU (l : List Entry) (t : Int) (hl : l.length ≤ maxLen) (hx : ∀ e ∈ l, zRO e.Rec) : ACall Tryz.prog 132 [.sl false 8 (l.map (Entry.row false)), i64 t] (fun r _ => r = bl (zF8 t l)) := by
 have hmx := zAi
 refine fi H132 fun E hE hH => ?_; simp only [go_sem] at hE hH; simp only [go_sem, hE, hH, zXt]
 refine zAx l.length (fun j (_ : Unit) => ⟨[(0, .sl false 8 (l.map (Entry.row false))), (1, i64 t), (7, .sl false 8 (l.map (Entry.row false))), (8, i64 l.length), (9, i64 j)], []⟩) (fun j _ => zAu (zBW t l) j = true) () rfl ?_
 intro j _ hj hI
 try simp only [go_sem, hE, hH, zQc]
 first | refine zAa (fun h => ?_) (fun h => ?_) | refine zAb (fun h => ?_) (fun h => ?_)
 ·have hb := h
  simp only [nf] at h
  have hlt := h; clear h
  have hs := (hx _ (zAh hlt)).1
  try simp (disch := omega) only [go_sem, hE, hH, hb]
  repeat' (first | ((with_reducible first | refine zAa ?_ ?_ | refine zAb ?_ ?_) <;> (intro h; have hb := h; (try simp only [nf] at h); refine sb ?_; (try clear hb))) | ((with_reducible refine And.intro ?_ ?_); · omega) | ((first | refine zAc ?_ | refine cvA (zA8 _ _ _) ?_ | refine cvA (zRN (nth l j).Rec hs) ?_); refine st ?_) | (with_reducible first | apply jn | apply both | refine And.intro ?_ ?_) | exact fj | refine st ?_ | exact fm | refine s1 ?_ | (with_reducible exact True.intro))
  ·rw [zFL hlt (by simp [zBW, h])]
  ·rw [zFL hlt (by simp [zBW, h])]
  ·rw [zFL hlt (by first | (simp_all [zBW]; done) | (simp_all [zBW]; omega))]
  ·exact ⟨(), rfl, zAf hI (by simp_all [zBW])⟩
  ·exact ⟨(), rfl, zAf hI (by first | (simp_all [zBW]; done) | (simp_all [zBW]; omega))⟩
 ·try simp (disch := omega) only [go_sem, hE, hH, h]
  simp only [nf] at h
  rw [show j = l.length by omega] at hI
  rw [zF8, hI]
  simp
def zB7 (t : Int) (r : Replica) : Bool := zF8 t r.Log && rng r.Sure 0 r.Log.length
def zUV (r : Replica) : Prop := r.Log.length ≤ maxLen ∧ ∀ e ∈ r.Log, zRO e.Rec
theorem zII (x : Replica) (t : Int) (hw : zUV x) : ACall Tryz.prog 114 [.agg (Replica.row false x), i64 t] (fun r _ => r = bl (zB7 t x)) := by
 obtain ⟨hl, hx⟩ := hw
 have hmx := zAi
 refine fi H114 fun E hE hH => ?_; simp only [go_sem] at hE hH; simp only [go_sem, hE, hH, zXh]
 repeat' (first | ((with_reducible first | refine zAa ?_ ?_ | refine zAb ?_ ?_) <;> (intro h; have hb := h; (try simp only [nf] at h); refine sb ?_; (try clear hb))) | ((with_reducible refine And.intro ?_ ?_); · omega) | ((first | refine zAc ?_ | refine cvA (zBq _ _ _) ?_); refine st ?_) | (with_reducible first | apply jn | apply both | refine And.intro ?_ ?_) | exact fj | refine st ?_ | exact fm | refine s1 ?_ | (with_reducible exact True.intro))
 ·rw [zB7, zF8, decide_eq_false (by omega)]; simp
 ·rw [zB7, h]; simp
 refine zAx x.Log.length (fun j (v : Int) => ⟨[(1, i64 t), (2, .ptr 3000000 0 0), (5, i64 v), (6, i64 j)], [(3000000, ⟨3, [Replica.row false x]⟩)]⟩) (fun j v => zAu (zBW t x.Log) j = true ∧ v = zKZ x.Log j ∧ 1 ≤ v) 1 ⟨rfl, rfl, by omega⟩ ?_
 rintro j v hj ⟨hI, rfl, h0⟩
 have he := zUT (t := t) h0
 try simp only [go_sem, hE, hH, zP4]
 first | refine zAa (fun h1 => ?_) (fun h1 => ?_) | refine zAb (fun h1 => ?_) (fun h1 => ?_)
 ·have hb1 := h1
  simp only [nf] at h1
  have hlt := h1; clear h1
  have hs := hx _ (zAh hlt)
  try simp (disch := omega) only [go_sem, hE, hH, hb1]
  repeat' (first | ((with_reducible first | refine zAa ?_ ?_ | refine zAb ?_ ?_) <;> (intro h; have hb := h; (try simp only [nf] at h); refine sb ?_; (try clear hb))) | ((with_reducible refine And.intro ?_ ?_); · omega) | ((first | refine zAc ?_ | refine cvA (zBq _ _ _) ?_ | refine cvA (zPy (nth x.Log j).Rec hs) ?_); refine st ?_) | (with_reducible first | apply jn | apply both | refine And.intro ?_ ?_) | exact fj | refine st ?_ | exact fm | refine s1 ?_ | (with_reducible exact True.intro))
  ·rw [zB7, zFL hlt (by rw [← he, h]; simp)]; rfl
  ·rw [zB7, zFL hlt (by rw [← he, h]; simp)]; rfl
  ·rename_i hD
   have hD' := zBJ.1 hD
   exact ⟨(nth x.Log j).Term, rfl, zAf hI (by rw [← he, hD, h]; rfl), by simp [zKZ], by omega⟩
 ·try simp (disch := omega) only [go_sem, hE, hH, h1]
  simp only [nf] at h1
  rw [show j = x.Log.length by omega] at hI
  rw [zB7, zF8, hI]
  have : decide ((x.Log.length : Int) ≤ 60) = true := decide_eq_true (by omega)
  simp_all
def zRP (g : Group) : Prop := g.Reps.length ≤ maxLen ∧ ∀ r ∈ g.Reps, zUV r
theorem zWb {g : Group} (hw : g.wf) (hs : g.sz ≤ 2 ^ 20) : zRP g := by
 refine ⟨hw.1.1, fun r hr => ⟨(hw.1.2 r hr).1.1, fun e he => ?_⟩⟩
 have h1 := zCj (f := Replica.sz) hr
 have h2 := zCj (f := Entry.sz) he
 have h3 : Group.sz g = szL Replica.sz g.Reps := rfl
 have h4 : Replica.sz r = szL Entry.sz r.Log := rfl
 have h5 : Entry.sz e = szL ByteArray.size e.Rec.Reads + szL Write.sz e.Rec.Writes := rfl
 have h6 := zCc (f := ByteArray.size) (l := e.Rec.Reads)
 have h7 := zCc (f := Write.sz) (l := e.Rec.Writes)
 exact ⟨((hw.1.2 r hr).1.2 e he).2, by omega, by omega⟩
def zCS (g : Group) : Bool := decide (g.Lead = -1) || (rng g.Lead 0 ((g.Reps.length : Int) - 1) && (nth g.Reps g.Lead.toNat).Up)
def zBA (g : Group) : Bool := (decide ((g.Reps.length : Int) = 3) || decide ((g.Reps.length : Int) = 5)) && rng g.Term 0 200 && zCS g && g.Reps.all (zB7 g.Term)
open Go.Proofs.Wb renaming H129 → z0_, zXr → z1_ in
theorem zUW (g : Group) (r : Int) (hl : g.Reps.length ≤ maxLen) : ACall Tryz.prog 129 [.agg (Group.row false g), i64 r] (fun x _ => x = bl (rng r 0 ((g.Reps.length : Int) - 1))) := zZq
theorem zLZ (x : Replica) (g : Group) (hw : zUV x) : ACall Tryz.prog 131 ([.agg (Replica.row false x)] ++ [.bx false (Group.row false g)]) (fun r _ => r = bl (!zB7 g.Term x)) := by
 obtain ⟨hl, hx⟩ := hw
 have hmx := zAi
 refine fi H131 fun E hE hH => ?_; simp only [go_sem] at hE hH; simp only [go_sem, hE, hH, zXs]
 repeat' (first | ((with_reducible first | refine zAa ?_ ?_ | refine zAb ?_ ?_) <;> (intro h; have hb := h; (try simp only [nf] at h); refine sb ?_; (try clear hb))) | ((with_reducible refine And.intro ?_ ?_); · omega) | ((first | refine zAc ?_ | refine cvA (zUU x.Log g.Term hl hx) ?_ | refine cvA (zA8 _ _ _) ?_); refine st ?_) | (with_reducible first | apply jn | apply both | refine And.intro ?_ ?_) | exact fj | refine st ?_ | exact fm | refine s1 ?_ | (with_reducible exact True.intro))
 all_goals (first | (simp_all [zB7]; done) | (simp_all [zB7] <;> first | omega | (intros; omega)))
theorem zOI (g : Group) (hw : zRP g) : ACall Tryz.prog 80 [.agg (Group.row false g)] (fun r _ => r = bl (zBA g)) := by
 have hmx := zAi
 obtain ⟨hl, hx⟩ := hw
 have hany : (g.Reps.any fun x => !zB7 g.Term x) = !(g.Reps.all (zB7 g.Term)) := by
  rw [List.all_eq_not_any_not]; simp
 refine fi H80 fun E hE hH => ?_; simp only [go_sem] at hE hH; simp only [go_sem, hE, hH, C80]
 repeat' (first | ((with_reducible first | refine zAa ?_ ?_ | refine zAb ?_ ?_) <;> (intro h; have hb := h; (try simp only [nf] at h); refine sb ?_; (try clear hb))) | ((with_reducible refine And.intro ?_ ?_); · omega) | ((first | refine zAc ?_ | refine cvA (zTm _) ?_ | refine cvA (zA8 _ _ _) ?_ | refine cvA (zUW g g.Lead hl) ?_); refine st ?_) | (with_reducible first | apply jn | apply both | refine And.intro ?_ ?_) | exact fj | refine st ?_ | exact fm | refine s1 ?_ | (with_reducible exact True.intro))
 all_goals try simp only [zBJ] at h
 all_goals try omega
 all_goals try (have hk : g.Lead.toNat < g.Reps.length := by omega)
 repeat' (first | ((with_reducible first | refine zAa ?_ ?_ | refine zAb ?_ ?_) <;> (intro h; have hb := h; (try simp only [nf] at h); refine sb ?_; (try clear hb))) | ((with_reducible refine And.intro ?_ ?_); · omega) | ((first | refine zAc ?_ | refine cvA (zFP g.Reps _ [.bx false (Group.row false g)] (fun x => !zB7 g.Term x) (by kernel_rfl) rfl hl (fun x hx' => zLZ x g (hx x hx'))) ?_); refine st ?_) | (with_reducible first | apply jn | apply both | refine And.intro ?_ ?_) | exact fj | refine st ?_ | exact fm | refine s1 ?_ | (with_reducible exact True.intro))
 all_goals try simp only [hany, Bool.not_not]
 all_goals clear hany
 all_goals (first | (simp_all [zBA, zCS]; done) | (simp_all [zBA, zCS, rng]; done) | (simp_all [zBA, zCS, rng] <;> omega) | trace_state)
theorem zNb (g : Group) (hw : zRP g) : ACall Tryz.prog 66 [.agg (Group.row false g)] (fun r _ => r = bl (zBA g)) := by
 have hmx := zAi
 obtain ⟨hl, hx⟩ := hw
 refine fi H66 fun E hE hH => ?_; simp only [go_sem] at hE hH; simp only [go_sem, hE, hH, C66]
 repeat' (first | ((with_reducible first | refine zAa ?_ ?_ | refine zAb ?_ ?_) <;> (intro h; have hb := h; (try simp only [nf] at h); refine sb ?_; (try clear hb))) | ((with_reducible refine And.intro ?_ ?_); · omega) | ((first | refine zAc ?_ | refine cvA (zBq _ _ _) ?_); refine st ?_) | (with_reducible first | apply jn | apply both | refine And.intro ?_ ?_) | exact fj | refine st ?_ | exact fm | refine s1 ?_ | (with_reducible exact True.intro))
 ·simp [zBA, *]
 ·simp [zBA, *]
 ·have : zCS g = false := by
   rw [zOz] at h
   simp only [zCS, rng, Bool.or_eq_false_iff, Bool.and_eq_false_iff, decide_eq_false_iff_not]
   omega
  simp [zBA, this]
 ·refine zAx g.Reps.length (fun j (_ : Unit) => ⟨[(1, .ptr 2000000 0 0), (3, i64 j)], [(2000000, ⟨3, [Group.row false g]⟩)]⟩) (fun j _ => zAu (fun i => zB7 g.Term (nth g.Reps i)) j = true) () rfl ?_
  intro j _ hj hI
  try simp only [go_sem, hE, hH, zOt]
  first | refine zAa (fun h1 => ?_) (fun h1 => ?_) | refine zAb (fun h1 => ?_) (fun h1 => ?_)
  ·have hb1 := h1
   simp only [nf] at h1
   have hlt := h1; clear h1
   try simp (disch := omega) only [go_sem, hE, hH, hb1]
   repeat' (first | ((with_reducible first | refine zAa ?_ ?_ | refine zAb ?_ ?_) <;> (intro h; have hb := h; (try simp only [nf] at h); refine sb ?_; (try clear hb))) | ((with_reducible refine And.intro ?_ ?_); · omega) | ((first | refine zAc ?_ | refine cvA (zII (nth g.Reps j) g.Term (hx _ (zAh hlt))) ?_); refine st ?_) | (with_reducible first | apply jn | apply both | refine And.intro ?_ ?_) | exact fj | refine st ?_ | exact fm | refine s1 ?_ | (with_reducible exact True.intro))
   ·have : g.Reps.all (zB7 g.Term) = false := by rw [← zAS]; exact zAF hlt h
    simp [zBA, this]
   ·first | exact ⟨(), rfl, zAf hI (by simp [h])⟩ | exact ⟨by omega, (), rfl, zAf hI (by simp [h])⟩ | exact ⟨by omega, by omega, (), rfl, zAf hI (by simp [h])⟩
  ·try simp (disch := omega) only [go_sem, hE, hH, h1]
   simp only [nf] at h1
   rw [show j = g.Reps.length by omega, zAS] at hI
   repeat' (first | ((with_reducible first | refine zAa ?_ ?_ | refine zAb ?_ ?_) <;> (intro h; have hb := h; (try simp only [nf] at h); refine sb ?_; (try clear hb))) | ((with_reducible refine And.intro ?_ ?_); · omega) | (with_reducible first | apply jn | apply both | refine And.intro ?_ ?_) | exact fj | refine st ?_ | exact fm | refine s1 ?_ | (with_reducible exact True.intro))
   all_goals try simp only [zBJ] at *
   all_goals try omega
   all_goals try (have hk : g.Lead.toNat < g.Reps.length := by omega)
   repeat' (first | ((with_reducible first | refine zAa ?_ ?_ | refine zAb ?_ ?_) <;> (intro h; have hb := h; (try simp only [nf] at h); refine sb ?_; (try clear hb))) | ((with_reducible refine And.intro ?_ ?_); · omega) | (with_reducible first | apply jn | apply both | refine And.intro ?_ ?_) | exact fj | refine st ?_ | exact fm | refine s1 ?_ | (with_reducible exact True.intro))
   all_goals (first | (have hL : g.Lead = -1 := by omega) | (have hL : g.Lead ≠ -1 := by omega))
   all_goals (first | (simp_all [zBA, zCS, rng]; done) | (simp_all [zBA, zCS, rng]; omega))
 ·simp [zBA, *]
 ·have : zCS g = false := by
   rw [zOz] at h
   simp only [zCS, rng, Bool.or_eq_false_iff, Bool.and_eq_false_iff, decide_eq_false_iff_not]
   omega
  simp [zBA, this]
 ·refine zAx g.Reps.length (fun j (_ : Unit) => ⟨[(1, .ptr 2000000 0 0), (3, i64 j)], [(2000000, ⟨3, [Group.row false g]⟩)]⟩) (fun j _ => zAu (fun i => zB7 g.Term (nth g.Reps i)) j = true) () rfl ?_
  intro j _ hj hI
  try simp only [go_sem, hE, hH, zOt]
  first | refine zAa (fun h1 => ?_) (fun h1 => ?_) | refine zAb (fun h1 => ?_) (fun h1 => ?_)
  ·have hb1 := h1
   simp only [nf] at h1
   have hlt := h1; clear h1
   try simp (disch := omega) only [go_sem, hE, hH, hb1]
   repeat' (first | ((with_reducible first | refine zAa ?_ ?_ | refine zAb ?_ ?_) <;> (intro h; have hb := h; (try simp only [nf] at h); refine sb ?_; (try clear hb))) | ((with_reducible refine And.intro ?_ ?_); · omega) | ((first | refine zAc ?_ | refine cvA (zII (nth g.Reps j) g.Term (hx _ (zAh hlt))) ?_); refine st ?_) | (with_reducible first | apply jn | apply both | refine And.intro ?_ ?_) | exact fj | refine st ?_ | exact fm | refine s1 ?_ | (with_reducible exact True.intro))
   ·have : g.Reps.all (zB7 g.Term) = false := by rw [← zAS]; exact zAF hlt h
    simp [zBA, this]
   ·first | exact ⟨(), rfl, zAf hI (by simp [h])⟩ | exact ⟨by omega, (), rfl, zAf hI (by simp [h])⟩ | exact ⟨by omega, by omega, (), rfl, zAf hI (by simp [h])⟩
  ·try simp (disch := omega) only [go_sem, hE, hH, h1]
   simp only [nf] at h1
   rw [show j = g.Reps.length by omega, zAS] at hI
   repeat' (first | ((with_reducible first | refine zAa ?_ ?_ | refine zAb ?_ ?_) <;> (intro h; have hb := h; (try simp only [nf] at h); refine sb ?_; (try clear hb))) | ((with_reducible refine And.intro ?_ ?_); · omega) | (with_reducible first | apply jn | apply both | refine And.intro ?_ ?_) | exact fj | refine st ?_ | exact fm | refine s1 ?_ | (with_reducible exact True.intro))
   all_goals try simp only [zBJ] at *
   all_goals try omega
   all_goals try (have hk : g.Lead.toNat < g.Reps.length := by omega)
   repeat' (first | ((with_reducible first | refine zAa ?_ ?_ | refine zAb ?_ ?_) <;> (intro h; have hb := h; (try simp only [nf] at h); refine sb ?_; (try clear hb))) | ((with_reducible refine And.intro ?_ ?_); · omega) | (with_reducible first | apply jn | apply both | refine And.intro ?_ ?_) | exact fj | refine st ?_ | exact fm | refine s1 ?_ | (with_reducible exact True.intro))
   all_goals (first | (have hL : g.Lead = -1 := by omega) | (have hL : g.Lead ≠ -1 := by omega))
   all_goals (first | (simp_all [zBA, zCS, rng]; done) | (simp_all [zBA, zCS, rng]; omega))
theorem zWc (x : Replica) (h0 : 0 ≤ x.Sure) (h1 : x.Sure ≤ x.Log.length) : ACall Tryz.prog 150 [.agg (Replica.row false x)] (fun r _ => r = .sl false 8 ((x.Log.take x.Sure.toNat).map (Entry.row false))) := by
 refine fi H150 fun E hE hH => ?_; simp only [go_sem] at hE hH; simp only [go_sem, hE, hH, zXF]
 repeat' (first | ((with_reducible first | refine zAa ?_ ?_ | refine zAb ?_ ?_) <;> (intro h; have hb := h; (try simp only [nf] at h); refine sb ?_; (try clear hb))) | ((with_reducible refine And.intro ?_ ?_); · omega) | (with_reducible first | apply jn | apply both | refine And.intro ?_ ?_) | exact fj | refine st ?_ | exact fm | refine s1 ?_ | (with_reducible exact True.intro))
 exact h1
def zF9 (c : Clock) : Bool := rng c.Off (-5) 5
open Go.Proofs.Wb renaming H84 → z0_, C84 → z1_, zA8 → z2_ in
theorem zOJ (c : Clock) : ACall Tryz.prog 84 [.agg (Clock.row false c)] (fun r _ => r = bl (zF9 c)) := zZr
theorem zQN {α : Type} {p : α → Bool} {l : List α} : (l.any fun x => !p x) = !(l.all p) := by
 rw [List.all_eq_not_any_not]; simp
open Go.Proofs.Wb renaming H68 → z0_, C68 → z1_, zBq → z2_ in
theorem zRQ (c : Clock) : ACall Tryz.prog 68 [.agg (Clock.row false c)] (fun r _ => r = bl (zF9 c)) := zZr
theorem zZg {a b : Got} : (decide (a.Key = b.Key) && (decide (a.Val = b.Val) && a.There == b.There)) = decide (a = b) := by
 rcases a with ⟨a1, a2, a3⟩
 rcases b with ⟨b1, b2, b3⟩
 rw [Bool.eq_iff_iff]
 simp
def zDW (x : Lock) : Bool := zAZ x.Key && rng x.Txn 1 60
def zIJ (x y : Lock) : Bool := decide (x.Key = y.Key) && !decide (x.Txn = y.Txn) && (x.Write || y.Write)
def zDX (x y : Lock) : Bool := zIJ x y || (decide (x.Key = y.Key) && decide (x.Txn = y.Txn))
def zC0 (l : List Lock) : Bool := zAu (fun i => zDW (nth l i) && !(l.take i).any fun y => zDX (nth l i) y) l.length && decide ((l.length : Int) ≤ 60)
theorem zTp (x : Lock) (hw : x.wf) : ACall Tryz.prog 133 [.agg (Lock.row false x)] (fun r _ => r = bl (zDW x)) := by
 refine fi H133 fun E hE hH => ?_; simp only [go_sem] at hE hH; simp only [go_sem, hE, hH, zXu]
 repeat' (first | ((with_reducible first | refine zAa ?_ ?_ | refine zAb ?_ ?_) <;> (intro h; have hb := h; (try simp only [nf] at h); refine sb ?_; (try clear hb))) | ((with_reducible refine And.intro ?_ ?_); · omega) | ((first | refine zAc ?_ | refine cvA (zFb _ hw.1) ?_ | refine cvA (zOE _) ?_); refine st ?_) | (with_reducible first | apply jn | apply both | refine And.intro ?_ ?_) | exact fj | refine st ?_ | exact fm | refine s1 ?_ | (with_reducible exact True.intro))
 all_goals (first | (simp_all [zDW]; done) | (simp_all [zDW] <;> first | omega | (intros; omega)))
theorem zRR (x : Lock) (hw : x.wf) : ACall Tryz.prog 115 [.agg (Lock.row false x)] (fun r _ => r = bl (zDW x)) := by
 refine fi H115 fun E hE hH => ?_; simp only [go_sem] at hE hH; simp only [go_sem, hE, hH, zXi]
 repeat' (first | ((with_reducible first | refine zAa ?_ ?_ | refine zAb ?_ ?_) <;> (intro h; have hb := h; (try simp only [nf] at h); refine sb ?_; (try clear hb))) | ((with_reducible refine And.intro ?_ ?_); · omega) | ((first | refine zAc ?_ | refine cvA (zC8 _ hw.1) ?_ | refine cvA (zBq _ _ _) ?_); refine st ?_) | (with_reducible first | apply jn | apply both | refine And.intro ?_ ?_) | exact fj | refine st ?_ | exact fm | refine s1 ?_ | (with_reducible exact True.intro))
 all_goals (first | (simp_all [zDW]; done) | (simp_all [zDW] <;> first | omega | (intros; omega)))
open Go.Proofs.Wb renaming H136 → z0_ in
theorem zPz (x y : Lock) : ACall Tryz.prog 136 [.agg (Lock.row false x), .agg (Lock.row false y)] (fun r _ => r = bl (zIJ x y)) := zZs
open Go.Proofs.Wb renaming H116 → z0_ in
theorem zPA (x y : Lock) : ACall Tryz.prog 116 [.agg (Lock.row false x), .agg (Lock.row false y)] (fun r _ => r = bl (zIJ x y)) := zZs
theorem zL0 (y x : Lock) : ACall Tryz.prog 135 ([.agg (Lock.row false y)] ++ [.bx false (Lock.row false x)]) (fun r _ => r = bl (zDX x y)) := by
 refine fi H135 fun E hE hH => ?_; simp only [go_sem] at hE hH; simp only [go_sem, hE, hH, zXv]
 repeat' (first | ((with_reducible first | refine zAa ?_ ?_ | refine zAb ?_ ?_) <;> (intro h; have hb := h; (try simp only [nf] at h); refine sb ?_; (try clear hb))) | ((with_reducible refine And.intro ?_ ?_); · omega) | ((first | refine zAc ?_ | refine cvA (zPz x y) ?_); refine st ?_) | (with_reducible first | apply jn | apply both | refine And.intro ?_ ?_) | exact fj | refine st ?_ | exact fm | refine s1 ?_ | (with_reducible exact True.intro))
 all_goals (first | (simp_all [zDX]; done) | (simp_all [zDX] <;> first | omega | (intros; omega)))
theorem zOK (l : List Lock) (hl : wfL Lock.wf l) : ACall Tryz.prog 81 [.sl false 3 (l.map (Lock.row false))] (fun r _ => r = bl (zC0 l)) := by
 obtain ⟨hl, hx⟩ := hl
 have hmx := zAi
 refine fi H81 fun E hE hH => ?_; simp only [go_sem] at hE hH; simp only [go_sem, hE, hH, C81]
 repeat' (first | ((with_reducible first | refine zAa ?_ ?_ | refine zAb ?_ ?_) <;> (intro h; have hb := h; (try simp only [nf] at h); refine sb ?_; (try clear hb))) | ((with_reducible refine And.intro ?_ ?_); · omega) | refine jn _ ?_ ?_ | (with_reducible first | refine both ?_ ?_ | refine And.intro ?_ ?_) | exact fe | refine st ?_ | exact fm | refine s1 ?_ | (with_reducible exact True.intro))
 refine zBg l.length (fun j (_ : Unit) => ⟨[(0, .sl false 3 (l.map (Lock.row false))), (5, .sl false 3 (l.map (Lock.row false))), (6, i64 l.length), (7, i64 j)], []⟩) (fun j _ => zAu (fun i => zDW (nth l i) && !(l.take i).any fun y => zDX (nth l i) y) j = true) () rfl rfl ?_
 intro j _ hj hI
 try simp only [go_sem, hE, hH, zTd]
 first | refine zAa (fun h => ?_) (fun h => ?_) | refine zAb (fun h => ?_) (fun h => ?_)
 ·have hb := h
  simp only [nf] at h
  have hlt := h; clear h
  have hw := hx _ (zAh hlt)
  have ht : ((l.map (Lock.row false)).take j) = (l.take j).map (Lock.row false) := by rw [List.map_take]
  try simp (disch := omega) only [go_sem, hE, hH, hb, ht]
  repeat' (first | ((with_reducible first | refine zAa ?_ ?_ | refine zAb ?_ ?_) <;> (intro h; have hb := h; (try simp only [nf] at h); refine sb ?_; (try clear hb))) | ((with_reducible refine And.intro ?_ ?_); · omega) | ((first | refine zAc ?_ | refine cvA (zTp _ hw) ?_ | refine cvA (zHz (l.take j) _ [.bx false (Lock.row false (nth l j))] (fun y => zDX (nth l j) y) (by kernel_rfl) rfl (by rw [List.length_take]; omega) (fun y _ => zL0 y _)) ?_); refine st ?_) | refine jn _ ?_ ?_ | (with_reducible first | refine both ?_ ?_ | refine And.intro ?_ ?_) | exact fe | refine st ?_ | exact fm | refine s1 ?_ | (with_reducible exact True.intro))
  all_goals first | (rw [zC0, zAF hlt (by simp_all)]; rfl) | (exact ⟨(), rfl, zAf hI (by simp_all)⟩)
 ·try simp (disch := omega) only [go_sem, hE, hH, h]
  simp only [nf] at h
  rw [show j = l.length by omega] at hI
  repeat' (first | ((with_reducible first | refine zAa ?_ ?_ | refine zAb ?_ ?_) <;> (intro h; have hb := h; (try simp only [nf] at h); refine sb ?_; (try clear hb))) | ((with_reducible refine And.intro ?_ ?_); · omega) | refine jn _ ?_ ?_ | (with_reducible first | refine both ?_ ?_ | refine And.intro ?_ ?_) | exact fe | refine st ?_ | exact fm | refine s1 ?_ | (with_reducible exact True.intro))
  all_goals first | (rw [zC0, hI]; simp_all; done) | (simp_all [zC0]; done)
theorem zRS (l : List Lock) (hl : wfL Lock.wf l) : ACall Tryz.prog 67 [.sl false 3 (l.map (Lock.row false))] (fun r _ => r = bl (zC0 l)) := by
 obtain ⟨hl, hx⟩ := hl
 have hmx := zAi
 refine fi H67 fun E hE hH => ?_; simp only [go_sem] at hE hH; simp only [go_sem, hE, hH, C67]
 repeat' (first | ((with_reducible first | refine zAa ?_ ?_ | refine zAb ?_ ?_) <;> (intro h; have hb := h; (try simp only [nf] at h); refine sb ?_; (try clear hb))) | ((with_reducible refine And.intro ?_ ?_); · omega) | refine jn _ ?_ ?_ | (with_reducible first | refine both ?_ ?_ | refine And.intro ?_ ?_) | exact fe | refine st ?_ | exact fm | refine s1 ?_ | (with_reducible exact True.intro))
 refine zBg l.length (fun j (_ : Unit) => ⟨[(0, .sl false 3 (l.map (Lock.row false))), (7, .sl false 3 (l.map (Lock.row false))), (8, i64 l.length), (9, i64 j)], []⟩) (fun j _ => zAu (fun i => zDW (nth l i) && !(l.take i).any fun y => zDX (nth l i) y) j = true) () rfl rfl ?_
 intro j _ hj hI
 try simp only [go_sem, hE, hH, zS9]
 first | refine zAa (fun h => ?_) (fun h => ?_) | refine zAb (fun h => ?_) (fun h => ?_)
 ·have hb := h
  simp only [nf] at h
  have hlt := h; clear h
  have hw := hx _ (zAh hlt)
  try simp (disch := omega) only [go_sem, hE, hH, hb]
  repeat' (first | ((with_reducible first | refine zAa ?_ ?_ | refine zAb ?_ ?_) <;> (intro h; have hb := h; (try simp only [nf] at h); refine sb ?_; (try clear hb))) | ((with_reducible refine And.intro ?_ ?_); · omega) | ((first | refine zAc ?_ | refine cvA (zRR _ hw) ?_); refine st ?_) | refine jn _ ?_ ?_ | (with_reducible first | refine both ?_ ?_ | refine And.intro ?_ ?_) | exact fe | refine st ?_ | exact fm | refine s1 ?_ | (with_reducible exact True.intro))
  ·rw [zC0, zAF hlt (by simp_all)]; rfl
  have hlj : (l.take j).length = j := by rw [List.length_take]; omega
  refine zBg (l.take j).length (fun k (_ : Unit) => ⟨[(0, .sl false 3 (l.map (Lock.row false))), (4, .ptr 5000000 0 0), (7, .sl false 3 (l.map (Lock.row false))), (8, i64 l.length), (9, i64 j), (19, .sl false 3 ((l.take j).map (Lock.row false))), (20, i64 (l.take j).length), (21, i64 k)], [(5000000, ⟨3, [Lock.row false (nth l j)]⟩)]⟩) (fun k _ => zAu (fun i => !zDX (nth l j) (nth (l.take j) i)) k = true) () (by simp [hlj, Lock.row]) rfl ?_
  intro k _ hk hK
  try simp only [go_sem, hE, hH, zS8]
  first | refine zAa (fun h2 => ?_) (fun h2 => ?_) | refine zAb (fun h2 => ?_) (fun h2 => ?_)
  ·have hb2 := h2
   simp only [nf] at h2
   have hlt2 : k < (l.take j).length := by omega
   try simp (disch := omega) only [go_sem, hE, hH, hb2]
   have hany : zDX (nth l j) (nth (l.take j) k) = true → ((l.take j).any fun y => zDX (nth l j) y) = true := fun h => List.any_eq_true.2 ⟨_, zAh hlt2, h⟩
   repeat' (first | ((with_reducible first | refine zAa ?_ ?_ | refine zAb ?_ ?_) <;> (intro h; have hb := h; (try simp only [nf] at h); refine sb ?_; (try clear hb))) | ((with_reducible refine And.intro ?_ ?_); · omega) | ((first | refine zAc ?_ | refine cvA (zPA (nth l j) (nth (l.take j) k)) ?_); refine st ?_) | refine jn _ ?_ ?_ | (with_reducible first | refine both ?_ ?_ | refine And.intro ?_ ?_) | exact fe | refine st ?_ | exact fm | refine s1 ?_ | (with_reducible exact True.intro))
   all_goals first | (rw [zC0, zAF hlt (by rw [hany (by simp_all [zDX])]; simp)]; rfl) | (exact ⟨(), rfl, zAf hK (by simp_all [zDX])⟩)
  ·try simp (disch := omega) only [go_sem, hE, hH, h2]
   simp only [nf] at h2
   rw [show k = (l.take j).length by omega] at hK
   have hN : ((l.take j).any fun y => zDX (nth l j) y) = false := by
    rw [zAS (p := fun y : Lock => !zDX (nth l j) y)] at hK
    rw [List.any_eq_false]
    intro x hx'
    have := List.all_eq_true.1 hK x hx'
    simpa using this
   repeat' (first | ((with_reducible first | refine zAa ?_ ?_ | refine zAb ?_ ?_) <;> (intro h; have hb := h; (try simp only [nf] at h); refine sb ?_; (try clear hb))) | ((with_reducible refine And.intro ?_ ?_); · omega) | refine jn _ ?_ ?_ | (with_reducible first | refine both ?_ ?_ | refine And.intro ?_ ?_) | exact fe | refine st ?_ | exact fm | refine s1 ?_ | (with_reducible exact True.intro))
   all_goals first | (exact ⟨(), rfl, zAf hI (by simp_all)⟩)
 ·try simp (disch := omega) only [go_sem, hE, hH, h]
  simp only [nf] at h
  rw [show j = l.length by omega] at hI
  repeat' (first | ((with_reducible first | refine zAa ?_ ?_ | refine zAb ?_ ?_) <;> (intro h; have hb := h; (try simp only [nf] at h); refine sb ?_; (try clear hb))) | ((with_reducible refine And.intro ?_ ?_); · omega) | refine jn _ ?_ ?_ | (with_reducible first | refine both ?_ ?_ | refine And.intro ?_ ?_) | exact fe | refine st ?_ | exact fm | refine s1 ?_ | (with_reducible exact True.intro))
  all_goals first | (rw [zC0, hI]; simp_all; done) | (simp_all [zC0]; done)
def zEs (o : Op) : Bool := rng o.Kind 1 7 && zAZ o.Key && zCZ o.Val && ((decide (o.Kind = 2) || decide (o.Kind = 7)) || decide (o.Val = ⟨⟨[]⟩⟩)) && rng o.By (-9999) 9999 && ((decide (o.Kind = 4) || decide (o.Kind = 5)) || decide (o.By = 0))
def zGa (l : List Op) : Bool := decide ((l.length : Int) ≤ 8) && l.all zEs
theorem zPB : zCZ ⟨⟨[]⟩⟩ = true := by decide
open Go.Proofs.Wb renaming H230 → z0_, zYq → z1_ in
theorem zTq (k : Int) : ACall Tryz.prog 230 [i64 k] (fun r _ => r = bl (decide (k = 2) || decide (k = 7))) := zZt
open Go.Proofs.Wb renaming H231 → z0_, zYr → z1_ in
theorem zUX (k : Int) : ACall Tryz.prog 231 [i64 k] (fun r _ => r = bl (decide (k = 4) || decide (k = 5))) := zZt
theorem zWd (o : Op) (hw : o.wf) : ACall Tryz.prog 204 [.agg (Op.row false o)] (fun r _ => r = bl (zEs o)) := by
 have hmx := zAi
 refine fi H204 fun E hE hH => ?_; simp only [go_sem] at hE hH; simp only [go_sem, hE, hH, zX8]
 repeat' (first | ((with_reducible first | refine zAa ?_ ?_ | refine zAb ?_ ?_) <;> (intro h; have hb := h; (try simp only [nf] at h); refine sb ?_; (try clear hb))) | ((with_reducible refine And.intro ?_ ?_); · omega) | ((first | refine zAc ?_ | refine cvA (zA8 _ _ _) ?_ | refine cvA (zFb _ hw.2.1) ?_ | refine cvA (zKU _ hw.2.2.1) ?_ | refine cvA (zTq _) ?_ | refine cvA (zUX _) ?_); refine st ?_) | (with_reducible first | apply jn | apply both | refine And.intro ?_ ?_) | exact fj | refine st ?_ | exact fm | refine s1 ?_ | (with_reducible exact True.intro))
 all_goals (first | (simp_all [zEs]; done) | (simp_all [zEs] <;> first | omega | (intros; omega)))
theorem zWe (o : Op) (hw : o.wf) : ACall Tryz.prog 169 [.agg (Op.row false o)] (fun r _ => r = bl (zEs o)) := by
 have hmx := zAi
 refine fi H169 fun E hE hH => ?_; simp only [go_sem] at hE hH; simp only [go_sem, hE, hH, zXO]
 repeat' (first | ((with_reducible first | refine zAa ?_ ?_ | refine zAb ?_ ?_) <;> (intro h; have hb := h; (try simp only [nf] at h); refine sb ?_; (try clear hb))) | ((with_reducible refine And.intro ?_ ?_); · omega) | ((first | refine zAc ?_ | refine cvA (zC8 _ hw.2.1) ?_ | refine cvA (zKa _ hw.2.2.1) ?_ | refine cvA (zBq _ _ _) ?_); refine st ?_) | (with_reducible first | apply jn | apply both | refine And.intro ?_ ?_) | exact fj | refine st ?_ | exact fm | refine s1 ?_ | (with_reducible exact True.intro))
 all_goals (first | (simp_all [zEs, zPB, rng]; done) | (have hk : rng o.Kind 1 7 = false := (zOz.2 (by omega)); rw [zEs, hk]; rfl) | trace_state)
theorem zOL (o : Op) (hw : o.wf) : ACall Tryz.prog 203 ([.agg (Op.row false o)] ++ []) (fun r _ => r = bl (!zEs o)) := by
 refine fi H203 fun E hE hH => ?_; simp only [go_sem] at hE hH; simp only [go_sem, hE, hH, zX7]
 repeat' (first | ((with_reducible first | refine zAa ?_ ?_ | refine zAb ?_ ?_) <;> (intro h; have hb := h; (try simp only [nf] at h); refine sb ?_; (try clear hb))) | ((with_reducible refine And.intro ?_ ?_); · omega) | ((first | refine zAc ?_ | refine cvA (zWd o hw) ?_); refine st ?_) | refine jn _ ?_ ?_ | (with_reducible first | refine both ?_ ?_ | refine And.intro ?_ ?_) | exact fe | refine st ?_ | exact fm | refine s1 ?_ | (with_reducible exact True.intro))
theorem zRT (l : List Op) (hl : wfL Op.wf l) : ACall Tryz.prog 179 [.sl false 4 (l.map (Op.row false))] (fun r _ => r = bl (zGa l)) := by
 obtain ⟨hl, hx⟩ := hl
 have hmx := zAi
 have hn : (l.any fun o => !zEs o) = !(l.all zEs) := zQN
 refine fi H179 fun E hE hH => ?_; simp only [go_sem] at hE hH; simp only [go_sem, hE, hH, zXV]
 repeat' (first | ((with_reducible first | refine zAa ?_ ?_ | refine zAb ?_ ?_) <;> (intro h; have hb := h; (try simp only [nf] at h); refine sb ?_; (try clear hb))) | ((with_reducible refine And.intro ?_ ?_); · omega) | ((first | refine zAc ?_ | refine cvA (zIE l _ [] (fun o => !zEs o) (by kernel_rfl) rfl hl (fun o ho => zOL o (hx o ho))) ?_); refine st ?_) | (with_reducible first | apply jn | apply both | refine And.intro ?_ ?_) | exact fj | refine st ?_ | exact fm | refine s1 ?_ | (with_reducible exact True.intro))
 all_goals first | (simp_all [zGa]; done) | (have hl8 : decide ((l.length : Int) ≤ 8) = false := decide_eq_false (by omega); rw [zGa, hl8]; rfl)
theorem zTr (l : List Op) (hl : wfL Op.wf l) : ACall Tryz.prog 117 [.sl false 4 (l.map (Op.row false))] (fun r _ => r = bl (zGa l)) := by
 obtain ⟨hl, hx⟩ := hl
 have hmx := zAi
 refine fi H117 fun E hE hH => ?_; simp only [go_sem] at hE hH; simp only [go_sem, hE, hH, zXj]
 repeat' (first | ((with_reducible first | refine zAa ?_ ?_ | refine zAb ?_ ?_) <;> (intro h; have hb := h; (try simp only [nf] at h); refine sb ?_; (try clear hb))) | ((with_reducible refine And.intro ?_ ?_); · omega) | refine jn _ ?_ ?_ | (with_reducible first | refine both ?_ ?_ | refine And.intro ?_ ?_) | exact fe | refine st ?_ | exact fm | refine s1 ?_ | (with_reducible exact True.intro))
 refine zBg l.length (fun j (_ : Unit) => ⟨[(0, .sl false 4 (l.map (Op.row false))), (5, .sl false 4 (l.map (Op.row false))), (6, i64 l.length), (7, i64 j)], []⟩) (fun j _ => zAu (fun i => zEs (nth l i)) j = true) () rfl rfl ?_
 intro j _ hj hI
 try simp only [go_sem, hE, hH, zP5]
 first | refine zAa (fun h => ?_) (fun h => ?_) | refine zAb (fun h => ?_) (fun h => ?_)
 ·have hb := h
  simp only [nf] at h
  have hlt := h; clear h
  have hw := hx _ (zAh hlt)
  try simp (disch := omega) only [go_sem, hE, hH, hb]
  repeat' (first | ((with_reducible first | refine zAa ?_ ?_ | refine zAb ?_ ?_) <;> (intro h; have hb := h; (try simp only [nf] at h); refine sb ?_; (try clear hb))) | ((with_reducible refine And.intro ?_ ?_); · omega) | ((first | refine zAc ?_ | refine cvA (zWe _ hw) ?_); refine st ?_) | refine jn _ ?_ ?_ | (with_reducible first | refine both ?_ ?_ | refine And.intro ?_ ?_) | exact fe | refine st ?_ | exact fm | refine s1 ?_ | (with_reducible exact True.intro))
  all_goals first | (have e : l.all zEs = false := (by rw [← zAS]; exact zAF hlt (by assumption)); rw [zGa, e, Bool.and_false]; done) | (exact ⟨(), rfl, zAf hI (by assumption)⟩)
 ·try simp (disch := omega) only [go_sem, hE, hH, h]
  simp only [nf] at h
  rw [show j = l.length by omega, zAS] at hI
  repeat' (first | ((with_reducible first | refine zAa ?_ ?_ | refine zAb ?_ ?_) <;> (intro h; have hb := h; (try simp only [nf] at h); refine sb ?_; (try clear hb))) | ((with_reducible refine And.intro ?_ ?_); · omega) | refine jn _ ?_ ?_ | (with_reducible first | refine both ?_ ?_ | refine And.intro ?_ ?_) | exact fe | refine st ?_ | exact fm | refine s1 ?_ | (with_reducible exact True.intro))
  all_goals first | (rw [zGa, hI]; simp_all; done) | (simp_all [zGa]; done)
end Go.Proofs.Wb

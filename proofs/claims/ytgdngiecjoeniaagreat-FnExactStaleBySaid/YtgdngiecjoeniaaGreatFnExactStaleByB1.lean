import Derived.Test.YtgdngiecjoeniaaGreatFnExactStaleByN0
import Derived.Laws.Externs
set_option linter.unusedSimpArgs false
set_option linter.unusedVariables false
set_option linter.unusedSectionVars false
namespace Go.Proofs.Wb
open Go Go.Am
def stored (v : ByteArray) (gone : Bool) : Bool := goodVal v && !(gone && !decide (v = ⟨⟨[]⟩⟩))
theorem nth_map {α β : Type} [Inhabited α] [Inhabited β] {f : α → β} {l : List α} {i : Nat} (h : i < l.length) : nth (l.map f) i = f (nth l i) := by
 rw [nth_lt (by simpa using h), nth_lt h, List.getElem_map]
theorem GoodVal_ok (s : ByteArray) (hs : s.size ≤ maxLen) : ACall Tryz.prog 190 [str s] (fun r _ => r = bl (goodVal s)) := by
 refine fi H190 fun E hE hH => ?_; simp only [go_sem] at hE hH; simp only [go_sem, hE, hH, C190]
 repeat' (first | ((with_reducible first | refine gd_t ?_ ?_ | refine gd_f ?_ ?_) <;> (intro h; have hb := h; (try simp only [nf] at h); refine sb ?_; (try clear hb))) | ((with_reducible refine And.intro ?_ ?_); · omega) | ((first | refine ok_view ?_ | refine cvA (hasBytes_ok _ _ hs) ?_); refine st ?_) | refine jn _ ?_ ?_ | (with_reducible first | refine both ?_ ?_ | refine And.intro ?_ ?_) | exact fe | refine st ?_ | exact fm | refine s1 ?_ | (with_reducible exact True.intro) | fail)
 all_goals (first | (simp_all [goodVal]; done) | (simp_all [goodVal] <;> first | omega | (intros; omega)))
theorem l3Val_ok (s : ByteArray) (hs : s.size ≤ maxLen) : ACall Tryz.prog 150 [str s] (fun r _ => r = bl (goodVal s)) := by
 refine fi H150 fun E hE hH => ?_; simp only [go_sem] at hE hH; simp only [go_sem, hE, hH, C150]
 repeat' (first | ((with_reducible first | refine gd_t ?_ ?_ | refine gd_f ?_ ?_) <;> (intro h; have hb := h; (try simp only [nf] at h); refine sb ?_; (try clear hb))) | ((with_reducible refine And.intro ?_ ?_); · omega) | ((first | refine ok_view ?_ | refine cvA (l3Bytes_ok _ _ hs (by decide)) ?_); refine st ?_) | refine jn _ ?_ ?_ | (with_reducible first | refine both ?_ ?_ | refine And.intro ?_ ?_) | exact fe | refine st ?_ | exact fm | refine s1 ?_ | (with_reducible exact True.intro) | fail)
 all_goals (first | (simp_all [goodVal]; done) | (simp_all [goodVal] <;> first | omega | (intros; omega)))
theorem isStored_ok (s : ByteArray) (g : Bool) (hs : s.size ≤ maxLen) : ACall Tryz.prog 161 [str s, bl g] (fun r _ => r = bl (stored s g)) := by
 refine fi H161 fun E hE hH => ?_; simp only [go_sem] at hE hH; simp only [go_sem, hE, hH, C161]
 repeat' (first | ((with_reducible first | refine gd_t ?_ ?_ | refine gd_f ?_ ?_) <;> (intro h; have hb := h; (try simp only [nf] at h); refine sb ?_; (try clear hb))) | ((with_reducible refine And.intro ?_ ?_); · omega) | ((first | refine ok_view ?_ | refine cvA (GoodVal_ok _ hs) ?_); refine st ?_) | refine jn _ ?_ ?_ | (with_reducible first | refine both ?_ ?_ | refine And.intro ?_ ?_) | exact fe | refine st ?_ | exact fm | refine s1 ?_ | (with_reducible exact True.intro) | fail)
 all_goals simp_all [stored]
theorem l3Write_ok (k s : ByteArray) (g : Bool) (hk : k.size ≤ maxLen) (hs : s.size ≤ maxLen) : ACall Tryz.prog 238 [str k, str s, bl g] (fun r _ => r = bl (goodKey k && stored s g)) := by
 refine fi H238 fun E hE hH => ?_; simp only [go_sem] at hE hH; simp only [go_sem, hE, hH, C238]
 repeat' (first | ((with_reducible first | refine gd_t ?_ ?_ | refine gd_f ?_ ?_) <;> (intro h; have hb := h; (try simp only [nf] at h); refine sb ?_; (try clear hb))) | ((with_reducible refine And.intro ?_ ?_); · omega) | ((first | refine ok_view ?_ | refine cvA (l3Key_ok _ hk) ?_ | refine cvA (l3Val_ok _ hs) ?_); refine st ?_) | refine jn _ ?_ ?_ | (with_reducible first | refine both ?_ ?_ | refine And.intro ?_ ?_) | exact fe | refine st ?_ | exact fm | refine s1 ?_ | (with_reducible exact True.intro) | fail)
 all_goals simp_all [stored]
def goodWrites (l : List Write) : Bool := decide ((l.length : Int) ≤ 24) && allN (fun i => (goodKey (nth l i).Key && stored (nth l i).Val (nth l i).Gone) && (decide (i = 0) || strLt (nth l (i - 1)).Key (nth l i).Key)) l.length
theorem goodWrites_eq (l : List Write) : goodWrites l = (decide ((l.length : Int) ≤ 24) && risB (l.map (·.Key)) && !l.any fun w => !stored w.Val w.Gone) := by
 have h1 : (!l.any fun w => !stored w.Val w.Gone) = allN (fun i => stored (nth l i).Val (nth l i).Gone) l.length := by
  rw [allN_all (p := fun w : Write => stored w.Val w.Gone)]
  simp [List.any_eq_not_all_not]
 have h2 : risB (l.map (·.Key)) = allN (fun i => goodKey (nth l i).Key && (decide (i = 0) || strLt (nth l (i - 1)).Key (nth l i).Key)) l.length := by
  unfold risB
  rw [List.length_map]
  refine allN_congr fun i hi => ?_
  rw [nth_map hi, nth_map (by omega)]
 rw [h1, h2, goodWrites, Bool.and_assoc]
 congr 1
 rw [Bool.eq_iff_iff, Bool.and_eq_true, allN_iff, allN_iff, allN_iff]
 constructor
 ·intro h
  exact ⟨fun i hi => by have := h i hi; simp only [Bool.and_eq_true] at this ⊢; exact ⟨this.1.1, this.2⟩, fun i hi => by have := h i hi; simp only [Bool.and_eq_true] at this ⊢; exact this.1.2⟩
 ·rintro ⟨ha, hb⟩ i hi
  have ha := ha i hi; have hb := hb i hi
  simp only [Bool.and_eq_true] at ha hb ⊢
  exact ⟨⟨ha.1, hb⟩, ha.2⟩
theorem writeKeys_ok (l : List Write) (hl : l.length ≤ 2 ^ 20) : ACall Tryz.prog 213 [.sl false 3 (l.map (Write.row false))] (fun r _ => r = .sl true 1 (strs (l.map (·.Key)))) := by
 refine fi H213 fun E hE hH => ?_; simp only [go_sem] at hE hH; simp only [go_sem, hE, hH, C213]
 refine loopNe l.length (fun j (x : List ByteArray) => ⟨[(3, .ref 4000000 0 x.length), (7, .sl false 3 (l.map (Write.row false))), (8, i64 l.length), (9, i64 j)], [(4000000, ⟨1, strs x⟩)]⟩) (fun j x => x = (l.take j).map (·.Key)) [] (by simp) (by simp) ?_
 intro j x hj hx
 have hlen : x.length = j := by rw [hx]; simp; omega
 try simp only [go_sem, hE, hH, C213_l1]
 first | refine gd_t (fun h => ?_) (fun h => ?_) | refine gd_f (fun h => ?_) (fun h => ?_)
 ·have hb := h
  simp only [nf] at h
  try simp (disch := omega) only [go_sem, hE, hH, hb]
  refine ⟨by omega, by omega, by omega, ?_⟩
  rw [take_nth h, List.map_append, ← hx]
  simp [hlen]; omega
 ·have hb := h
  simp only [nf] at h
  try simp (disch := omega) only [go_sem, hE, hH, hb]
  rw [hx, show j = l.length by omega, List.take_length]
theorem GoodWrites_1_ok (w : Write) (hw : w.wf) : ACall Tryz.prog 215 [.agg (Write.row false w)] (fun r _ => r = bl (!stored w.Val w.Gone)) := by
 obtain ⟨w1, w2⟩ := hw
 refine fi H215 fun E hE hH => ?_; simp only [go_sem] at hE hH; simp only [go_sem, hE, hH, C215]
 repeat' (first | ((with_reducible first | refine gd_t ?_ ?_ | refine gd_f ?_ ?_) <;> (intro h; have hb := h; (try simp only [nf] at h); refine sb ?_; (try clear hb))) | ((with_reducible refine And.intro ?_ ?_); · omega) | ((first | refine ok_view ?_ | refine cvA (isStored_ok _ _ w2) ?_); refine st ?_) | refine jn _ ?_ ?_ | (with_reducible first | refine both ?_ ?_ | refine And.intro ?_ ?_) | exact fe | refine st ?_ | exact fm | refine s1 ?_ | (with_reducible exact True.intro) | fail)
theorem GoodWrites_ok (l : List Write) (hl : wfL Write.wf l) : ACall Tryz.prog 186 [.sl false 3 (l.map (Write.row false))] (fun r _ => r = bl (goodWrites l)) := by
 obtain ⟨hl, hx⟩ := hl
 have hmx := mx_eq
 have hr : limL (fun s : ByteArray => s.size ≤ maxLen) (l.map (·.Key)) := ⟨by simpa using hl, fun s hs => by obtain ⟨w, hw, rfl⟩ := List.mem_map.1 hs; exact (hx w hw).1⟩
 rw [goodWrites_eq]
 refine fi H186 fun E hE hH => ?_; simp only [go_sem] at hE hH; simp only [go_sem, hE, hH, C186]
 repeat' (first | ((with_reducible first | refine gd_t ?_ ?_ | refine gd_f ?_ ?_) <;> (intro h; have hb := h; (try simp only [nf] at h); refine sb ?_; (try clear hb))) | ((with_reducible refine And.intro ?_ ?_); · omega) | ((first | refine ok_view ?_ | refine cvA (writeKeys_ok l (by omega)) ?_ | refine cvA (areRising_ok _ hr) ?_ | refine cvA (ContainsFunc_Write_ok l _ [] (fun w => !stored w.Val w.Gone) (by kernel_rfl) rfl hl (fun w hw => GoodWrites_1_ok w (hx w hw))) ?_); refine st ?_) | refine jn _ ?_ ?_ | (with_reducible first | refine both ?_ ?_ | refine And.intro ?_ ?_) | exact fe | refine st ?_ | exact fm | refine s1 ?_ | (with_reducible exact True.intro) | fail)
 all_goals (first | (simp_all []; done) | (simp_all [] <;> first | omega | (intros; omega)))
theorem l3Writes_ok (l : List Write) (hl : wfL Write.wf l) : ACall Tryz.prog 203 [.sl false 3 (l.map (Write.row false))] (fun r _ => r = bl (goodWrites l)) := by
 obtain ⟨hl, hx⟩ := hl
 have hmx := mx_eq
 refine fi H203 fun E hE hH => ?_; simp only [go_sem] at hE hH; simp only [go_sem, hE, hH, C203]
 refine loopN l.length (fun j (_ : Unit) => ⟨[(0, .sl false 3 (l.map (Write.row false))), (5, .sl false 3 (l.map (Write.row false))), (6, i64 l.length), (7, i64 j)], []⟩) (fun j _ => allN (fun i => (goodKey (nth l i).Key && stored (nth l i).Val (nth l i).Gone) && (decide (i = 0) || strLt (nth l (i - 1)).Key (nth l i).Key)) j = true) () rfl ?_
 intro j _ hj hI
 try simp only [go_sem, hE, hH, C203_l1]
 first | refine gd_t (fun h => ?_) (fun h => ?_) | refine gd_f (fun h => ?_) (fun h => ?_)
 ·have hb := h
  simp only [nf] at h
  have hlt := h; clear h
  obtain ⟨w1, w2⟩ := hx _ (nth_mem hlt)
  try simp (disch := omega) only [go_sem, hE, hH, hb]
  repeat' (first | ((with_reducible first | refine gd_t ?_ ?_ | refine gd_f ?_ ?_) <;> (intro h; have hb := h; (try simp only [nf] at h); refine sb ?_; (try clear hb))) | ((with_reducible refine And.intro ?_ ?_); · omega) | ((first | refine ok_view ?_ | refine cvA (l3Write_ok _ _ _ w1 w2) ?_); refine st ?_) | refine jn _ ?_ ?_ | (with_reducible first | refine both ?_ ?_ | refine And.intro ?_ ?_) | exact fe | refine st ?_ | exact fm | refine s1 ?_ | (with_reducible exact True.intro) | fail)
  ·rw [goodWrites, allN_no hlt (by simp_all)]; simp
  ·rw [goodWrites, allN_no hlt (by simp_all <;> omega)]; simp
  ·first | exact ⟨(), rfl, allN_step hI (by simp_all <;> omega)⟩ | exact ⟨by omega, (), rfl, allN_step hI (by simp_all <;> omega)⟩ | exact ⟨by omega, by omega, (), rfl, allN_step hI (by simp_all <;> omega)⟩
  ·first | exact ⟨(), rfl, allN_step hI (by simp_all <;> omega)⟩ | exact ⟨by omega, (), rfl, allN_step hI (by simp_all <;> omega)⟩ | exact ⟨by omega, by omega, (), rfl, allN_step hI (by simp_all <;> omega)⟩
 ·try simp (disch := omega) only [go_sem, hE, hH, h]
  simp only [nf] at h
  rw [show j = l.length by omega] at hI
  rw [goodWrites, hI]
  simp
def goodGots (l : List Got) : Bool := allN (fun i => (goodKey (nth l i).Key && stored (nth l i).Val (!(nth l i).There)) && !(l.take i).any fun h => decide (h.Key = (nth l i).Key)) l.length && decide ((l.length : Int) ≤ 8)
theorem areGot_1_ok (h g : Got) : ACall Tryz.prog 163 ([.agg (Got.row false h)] ++ [.bx false (Got.row false g)]) (fun r _ => r = bl (decide (h.Key = g.Key))) := by
 refine fi H163 fun E hE hH => ?_; simp only [go_sem] at hE hH; simp only [go_sem, hE, hH, C163]
 try simp (disch := omega) only [go_sem, hE, hH]
theorem areGot_ok (l : List Got) (hl : wfL Got.wf l) : ACall Tryz.prog 130 [.sl false 3 (l.map (Got.row false))] (fun r _ => r = bl (goodGots l)) := by
 obtain ⟨hl, hx⟩ := hl
 have hmx := mx_eq
 refine fi H130 fun E hE hH => ?_; simp only [go_sem] at hE hH; simp only [go_sem, hE, hH, C130]
 refine loopN l.length (fun j (_ : Unit) => ⟨[(0, .sl false 3 (l.map (Got.row false))), (5, .sl false 3 (l.map (Got.row false))), (6, i64 l.length), (7, i64 j)], []⟩) (fun j _ => allN (fun i => (goodKey (nth l i).Key && stored (nth l i).Val (!(nth l i).There)) && !(l.take i).any fun h => decide (h.Key = (nth l i).Key)) j = true) () rfl ?_
 intro j _ hj hI
 try simp only [go_sem, hE, hH, C130_l1]
 first | refine gd_t (fun h => ?_) (fun h => ?_) | refine gd_f (fun h => ?_) (fun h => ?_)
 ·have hb := h
  simp only [nf] at h
  have hlt := h; clear h
  obtain ⟨w1, w2⟩ := hx _ (nth_mem hlt)
  have ht : ((l.map (Got.row false)).take j) = (l.take j).map (Got.row false) := by rw [List.map_take]
  try simp (disch := omega) only [go_sem, hE, hH, hb, ht]
  repeat' (first | ((with_reducible first | refine gd_t ?_ ?_ | refine gd_f ?_ ?_) <;> (intro h; have hb := h; (try simp only [nf] at h); refine sb ?_; (try clear hb))) | ((with_reducible refine And.intro ?_ ?_); · omega) | ((first | refine ok_view ?_ | refine cvA (GoodKey_ok _ w1) ?_ | refine cvA (isStored_ok _ _ w2) ?_ | refine cvA (ContainsFunc_Got_ok (l.take j) _ [.bx false (Got.row false (nth l j))] (fun h => decide (h.Key = (nth l j).Key)) (by kernel_rfl) rfl (by rw [List.length_take]; omega) (fun h _ => areGot_1_ok h _)) ?_); refine st ?_) | refine jn _ ?_ ?_ | (with_reducible first | refine both ?_ ?_ | refine And.intro ?_ ?_) | exact fe | refine st ?_ | exact fm | refine s1 ?_ | (with_reducible exact True.intro) | fail)
  ·rw [goodGots, allN_no hlt (by simp_all)]; simp
  ·rw [goodGots, allN_no hlt (by simp_all)]; simp
  ·rw [goodGots, allN_no hlt (by simp_all)]; simp
  ·first | exact ⟨(), rfl, allN_step hI (by simp_all)⟩ | exact ⟨by omega, (), rfl, allN_step hI (by simp_all)⟩ | exact ⟨by omega, by omega, (), rfl, allN_step hI (by simp_all)⟩
 ·try simp (disch := omega) only [go_sem, hE, hH, h]
  simp only [nf] at h
  rw [show j = l.length by omega] at hI
  rw [goodGots, hI]
  simp
theorem l5Gots_ok (l : List Got) (hl : wfL Got.wf l) : ACall Tryz.prog 111 [.sl false 3 (l.map (Got.row false))] (fun r _ => r = bl (goodGots l)) := by
 obtain ⟨hl, hx⟩ := hl
 have hmx := mx_eq
 refine fi H111 fun E hE hH => ?_; simp only [go_sem] at hE hH; simp only [go_sem, hE, hH, C111]
 refine loopN l.length (fun j (_ : Unit) => ⟨[(0, .sl false 3 (l.map (Got.row false))), (7, .sl false 3 (l.map (Got.row false))), (8, i64 l.length), (9, i64 j)], []⟩) (fun j _ => allN (fun i => (goodKey (nth l i).Key && stored (nth l i).Val (!(nth l i).There)) && !(l.take i).any fun h => decide (h.Key = (nth l i).Key)) j = true) () rfl ?_
 intro j _ hj hI
 try simp only [go_sem, hE, hH, C111_l2]
 first | refine gd_t (fun h => ?_) (fun h => ?_) | refine gd_f (fun h => ?_) (fun h => ?_)
 ·have hb := h
  simp only [nf] at h
  have hlt := h; clear h
  obtain ⟨w1, w2⟩ := hx _ (nth_mem hlt)
  try simp (disch := omega) only [go_sem, hE, hH, hb]
  repeat' (first | ((with_reducible first | refine gd_t ?_ ?_ | refine gd_f ?_ ?_) <;> (intro h; have hb := h; (try simp only [nf] at h); refine sb ?_; (try clear hb))) | ((with_reducible refine And.intro ?_ ?_); · omega) | ((first | refine ok_view ?_ | refine cvA (l3Key_ok _ w1) ?_ | refine cvA (l3Val_ok _ w2) ?_); refine st ?_) | refine jn _ ?_ ?_ | (with_reducible first | refine both ?_ ?_ | refine And.intro ?_ ?_) | exact fe | refine st ?_ | exact fm | refine s1 ?_ | (with_reducible exact True.intro) | fail)
  ·rw [goodGots, allN_no hlt (by simp_all)]; simp
  ·rw [goodGots, allN_no hlt (by simp_all [stored])]; simp
  ·rw [goodGots, allN_no hlt (by simp_all [stored])]; simp
  ·have hlj : (l.take j).length = j := by rw [List.length_take]; omega
   refine loopN (l.take j).length (fun k (_ : Unit) => ⟨[(0, .sl false 3 (l.map (Got.row false))), (4, .ptr 5000000 0 0), (7, .sl false 3 (l.map (Got.row false))), (8, i64 l.length), (9, i64 j), (36, .sl false 3 ((l.take j).map (Got.row false))), (37, i64 (l.take j).length), (38, i64 k)], [(5000000, ⟨3, [Got.row false (nth l j)]⟩)]⟩) (fun k _ => allN (fun i => !decide ((nth (l.take j) i).Key = (nth l j).Key)) k = true) () rfl ?_
   intro k _ hk hK
   try simp only [go_sem, hE, hH, C111_l1]
   first | refine gd_t (fun h2 => ?_) (fun h2 => ?_) | refine gd_f (fun h2 => ?_) (fun h2 => ?_)
   ·have hb2 := h2
    simp only [nf] at h2
    have hlt2 : k < (l.take j).length := by omega
    try simp (disch := omega) only [go_sem, hE, hH, hb2]
    repeat' (first | ((with_reducible first | refine gd_t ?_ ?_ | refine gd_f ?_ ?_) <;> (intro h; have hb := h; (try simp only [nf] at h); refine sb ?_; (try clear hb))) | ((with_reducible refine And.intro ?_ ?_); · omega) | refine jn _ ?_ ?_ | (with_reducible first | refine both ?_ ?_ | refine And.intro ?_ ?_) | exact fe | refine st ?_ | exact fm | refine s1 ?_ | (with_reducible exact True.intro) | fail)
    ·rw [goodGots, allN_no hlt (by
      have : ((l.take j).any fun h => decide (h.Key = (nth l j).Key)) = true := List.any_eq_true.2 ⟨_, nth_mem hlt2, by simp_all⟩
      simp_all)]
     simp
    ·first | exact ⟨(), rfl, allN_step hK (by show (!decide _) = true; rw [Bool.not_eq_true', decide_eq_false_iff_not]; exact fun e => h e.symm)⟩ | exact ⟨by omega, (), rfl, allN_step hK (by show (!decide _) = true; rw [Bool.not_eq_true', decide_eq_false_iff_not]; exact fun e => h e.symm)⟩ | exact ⟨by omega, by omega, (), rfl, allN_step hK (by show (!decide _) = true; rw [Bool.not_eq_true', decide_eq_false_iff_not]; exact fun e => h e.symm)⟩
   ·try simp (disch := omega) only [go_sem, hE, hH, h2]
    simp only [nf] at h2
    rw [show k = (l.take j).length by omega] at hK
    have hN : ((l.take j).any fun h => decide (h.Key = (nth l j).Key)) = false := by
     rw [allN_all (p := fun h : Got => !decide (h.Key = (nth l j).Key))] at hK
     rw [List.any_eq_false]
     intro x hx'
     have := List.all_eq_true.1 hK x hx'
     simpa using this
    first | exact ⟨(), rfl, allN_step hI (by simp_all [stored])⟩ | exact ⟨by omega, (), rfl, allN_step hI (by simp_all [stored])⟩ | exact ⟨by omega, by omega, (), rfl, allN_step hI (by simp_all [stored])⟩
  ·have hlj : (l.take j).length = j := by rw [List.length_take]; omega
   refine loopN (l.take j).length (fun k (_ : Unit) => ⟨[(0, .sl false 3 (l.map (Got.row false))), (4, .ptr 5000000 0 0), (7, .sl false 3 (l.map (Got.row false))), (8, i64 l.length), (9, i64 j), (36, .sl false 3 ((l.take j).map (Got.row false))), (37, i64 (l.take j).length), (38, i64 k)], [(5000000, ⟨3, [Got.row false (nth l j)]⟩)]⟩) (fun k _ => allN (fun i => !decide ((nth (l.take j) i).Key = (nth l j).Key)) k = true) () rfl ?_
   intro k _ hk hK
   try simp only [go_sem, hE, hH, C111_l1]
   first | refine gd_t (fun h2 => ?_) (fun h2 => ?_) | refine gd_f (fun h2 => ?_) (fun h2 => ?_)
   ·have hb2 := h2
    simp only [nf] at h2
    have hlt2 : k < (l.take j).length := by omega
    try simp (disch := omega) only [go_sem, hE, hH, hb2]
    repeat' (first | ((with_reducible first | refine gd_t ?_ ?_ | refine gd_f ?_ ?_) <;> (intro h; have hb := h; (try simp only [nf] at h); refine sb ?_; (try clear hb))) | ((with_reducible refine And.intro ?_ ?_); · omega) | refine jn _ ?_ ?_ | (with_reducible first | refine both ?_ ?_ | refine And.intro ?_ ?_) | exact fe | refine st ?_ | exact fm | refine s1 ?_ | (with_reducible exact True.intro) | fail)
    ·rw [goodGots, allN_no hlt (by
      have : ((l.take j).any fun h => decide (h.Key = (nth l j).Key)) = true := List.any_eq_true.2 ⟨_, nth_mem hlt2, by simp_all⟩
      simp_all)]
     simp
    ·first | exact ⟨(), rfl, allN_step hK (by show (!decide _) = true; rw [Bool.not_eq_true', decide_eq_false_iff_not]; exact fun e => h e.symm)⟩ | exact ⟨by omega, (), rfl, allN_step hK (by show (!decide _) = true; rw [Bool.not_eq_true', decide_eq_false_iff_not]; exact fun e => h e.symm)⟩ | exact ⟨by omega, by omega, (), rfl, allN_step hK (by show (!decide _) = true; rw [Bool.not_eq_true', decide_eq_false_iff_not]; exact fun e => h e.symm)⟩
   ·try simp (disch := omega) only [go_sem, hE, hH, h2]
    simp only [nf] at h2
    rw [show k = (l.take j).length by omega] at hK
    have hN : ((l.take j).any fun h => decide (h.Key = (nth l j).Key)) = false := by
     rw [allN_all (p := fun h : Got => !decide (h.Key = (nth l j).Key))] at hK
     rw [List.any_eq_false]
     intro x hx'
     have := List.all_eq_true.1 hK x hx'
     simpa using this
    first | exact ⟨(), rfl, allN_step hI (by simp_all [stored])⟩ | exact ⟨by omega, (), rfl, allN_step hI (by simp_all [stored])⟩ | exact ⟨by omega, by omega, (), rfl, allN_step hI (by simp_all [stored])⟩
 ·try simp (disch := omega) only [go_sem, hE, hH, h]
  simp only [nf] at h
  rw [show j = l.length by omega] at hI
  rw [goodGots, hI]
  simp
open Go.Proofs.Wb renaming H158 → z0_, C158 → z1_, within_ok → z2_ in
theorem isTxn_ok (n : Int) : ACall Tryz.prog 158 [i64 n] (fun r _ => r = bl (rng n 1 60)) := Q16_
open Go.Proofs.Wb renaming H77 → z0_, C77 → z1_, within_ok → z2_ in
theorem isTrue_ok (n : Int) : ACall Tryz.prog 77 [i64 n] (fun r _ => r = bl (rng n 0 100000)) := Q16_
open Go.Proofs.Wb renaming H67 → z0_, C67 → z1_, l1In_ok → z2_ in
theorem l2True_ok (n : Int) : ACall Tryz.prog 67 [i64 n] (fun r _ => r = bl (rng n 0 100000)) := Q16_
theorem isNaN_string_ok (x : ByteArray) : ACall Tryz.prog 281 [str x] (fun r _ => r = bl false) := by
 refine fi H281 fun E hE hH => ?_; simp only [go_sem] at hE hH; simp only [go_sem, hE, hH, C281]
 try simp (disch := omega) only [go_sem, hE, hH]
def cmpS (a b : ByteArray) : Int := if strLt a b then -1 else if strLt b a then 1 else 0
theorem Compare_string_ok (a b : ByteArray) : ACall Tryz.prog 267 [str a, str b] (fun r _ => r = i64 (cmpS a b)) := by
 refine fi H267 fun E hE hH => ?_; simp only [go_sem] at hE hH; simp only [go_sem, hE, hH, T18_x]
 repeat' (first | ((with_reducible first | refine gd_t ?_ ?_ | refine gd_f ?_ ?_) <;> (intro h; have hb := h; (try simp only [nf] at h); refine sb ?_; (try clear hb))) | ((with_reducible refine And.intro ?_ ?_); · omega) | ((first | refine ok_view ?_ | refine cvA (isNaN_string_ok _) ?_); refine st ?_) | refine jn _ ?_ ?_ | (with_reducible first | refine both ?_ ?_ | refine And.intro ?_ ?_) | exact fe | refine st ?_ | exact fm | refine s1 ?_ | (with_reducible exact True.intro) | fail)
 all_goals (rcases strLt_total a b with q | q | q <;> simp_all [cmpS, strLt_irr, strLt_asymm])
open Go.Proofs.Wb renaming H285 → z0_, T17_x → z1_, Compare_string_ok → z2_ in
theorem findWrite_1_ok (w : Write) (key : ByteArray) : ACall Tryz.prog 285 ([.agg (Write.row false w), str key] ++ []) (fun r _ => r = i64 (cmpS w.Key key)) := Q15_
def srtW (l : List Write) : Prop := ∀ i j, i < j → j < l.length → strLt (nth l i).Key (nth l j).Key = true
theorem goodWrites_srt {l : List Write} (h : goodWrites l = true) : srtW l := by
 simp only [goodWrites, Bool.and_eq_true] at h
 have key : ∀ d i, i + d + 1 < l.length → strLt (nth l i).Key (nth l (i + d + 1)).Key = true := by
  intro d
  induction d with
  | zero =>
   intro i hi
   have := allN_iff.1 h.2 (i + 1) (by omega)
   simp only [Bool.and_eq_true, Bool.or_eq_true, decide_eq_true_eq] at this
   exact this.2.resolve_left (by omega)
  | succ d ih =>
   intro i hi
   have h1 := ih i (by omega)
   have := allN_iff.1 h.2 (i + d + 2) (by omega)
   simp only [Bool.and_eq_true, Bool.or_eq_true, decide_eq_true_eq] at this
   exact strLt_trans h1 (this.2.resolve_left (by omega))
 intro i j h1 h2
 have := key (j - i - 1) i (by omega)
 rwa [show i + (j - i - 1) + 1 = j by omega] at this
def fwI (l : List Write) (k : ByteArray) : Nat := cntN (fun i => strLt (nth l i).Key k) l.length
def fwF (l : List Write) (k : ByteArray) : Bool := l.any fun w => decide (w.Key = k)
theorem cmpS_neg {a b : ByteArray} : cmpS a b < 0 ↔ strLt a b = true := by
 unfold cmpS
 split
 ·simp_all
 ·split <;> simp_all
theorem cmpS_zero {a b : ByteArray} : cmpS a b = 0 ↔ a = b := by
 unfold cmpS
 rcases strLt_total a b with h | h | h
 ·rw [if_pos h]; simp [strLt_ne h]
 ·subst h; simp [strLt_irr]
 ·rw [strLt_asymm h, if_neg (by simp), if_pos h]; simp [(strLt_ne h).symm]
theorem fw_eq {l : List Write} (hs : srtW l) (k : ByteArray) : bsI (fun w : Write => cmpS w.Key k) l = fwI l k ∧ bsF (fun w : Write => cmpS w.Key k) l = fwF l k := by
 have e1 : bsI (fun w : Write => cmpS w.Key k) l = fwI l k := by
  unfold bsI fwI
  congr 1; funext i
  rw [Bool.eq_iff_iff, decide_eq_true_iff, cmpS_neg]
 refine ⟨e1, ?_⟩
 rw [Bool.eq_iff_iff]
 unfold bsF fwF
 rw [e1, Bool.and_eq_true, decide_eq_true_iff, decide_eq_true_iff, cmpS_zero, List.any_eq_true]
 constructor
 ·rintro ⟨h1, h2⟩; exact ⟨_, nth_mem h1, by simp [h2]⟩
 ·rintro ⟨w, hw, h1⟩
  obtain ⟨i, hi, rfl⟩ := List.getElem_of_mem hw
  simp only [decide_eq_true_eq] at h1
  rw [← nth_lt hi] at h1
  have e2 : fwI l k = i := by
   unfold fwI
   rw [cntN_none (Nat.le_of_lt hi) (fun j a b => ?_), cntN_all (allN_iff.2 fun j hj => ?_)]
   ·rw [← h1]; exact hs j i hj hi
   ·by_cases e : j = i
    ·rw [e, h1]; exact strLt_irr _
    ·rw [← h1]; exact strLt_asymm (hs i j (by omega) b)
  rw [e2]; exact ⟨hi, h1⟩
theorem findWrite_ok (l : List Write) (key : ByteArray) (hl : l.length ≤ 2 ^ 60) (hs : srtW l) : ACall Tryz.prog 273 [.sl false 3 (l.map (Write.row false)), str key] (fun r _ => r = .tup [i64 (fwI l key), bl (fwF l key)]) := by
 obtain ⟨e1, e2⟩ := fw_eq hs key
 refine fi H273 fun E hE hH => ?_; simp only [go_sem] at hE hH; simp only [go_sem, hE, hH, C273]
 repeat' (first | ((with_reducible first | refine gd_t ?_ ?_ | refine gd_f ?_ ?_) <;> (intro h; have hb := h; (try simp only [nf] at h); refine sb ?_; (try clear hb))) | ((with_reducible refine And.intro ?_ ?_); · omega) | ((first | refine ok_view ?_ | refine cvA (BinarySearchFunc_Write_ok l key _ [] (fun w => cmpS w.Key key) (by kernel_rfl) rfl hl (fun i j h1 h2 h3 => by have := hs i j h1 h2; rw [← Int.not_lt, cmpS_neg] at h3 ⊢; exact fun h => h3 (strLt_trans this h)) (fun w _ => findWrite_1_ok w key)) ?_); refine st ?_) | refine jn _ ?_ ?_ | (with_reducible first | refine both ?_ ?_ | refine And.intro ?_ ?_) | exact fe | refine st ?_ | exact fm | refine s1 ?_ | (with_reducible exact True.intro) | fail)
 all_goals simp only [e1, e2]
theorem l13Wrote_ok (l : List Write) (key : ByteArray) (hl : l.length ≤ maxLen) : ACall Tryz.prog 239 [.sl false 3 (l.map (Write.row false)), str key] (fun r _ => r = bl (fwF l key)) := by
 have hmx := mx_eq
 refine fi H239 fun E hE hH => ?_; simp only [go_sem] at hE hH; simp only [go_sem, hE, hH, C239]
 refine loopN l.length (fun j (_ : Unit) => ⟨[(1, str key), (7, .sl false 3 (l.map (Write.row false))), (8, i64 l.length), (9, i64 j)], []⟩) (fun j _ => allN (fun i => !decide ((nth l i).Key = key)) j = true) () rfl ?_
 intro j _ hj hI
 try simp only [go_sem, hE, hH, C239_l1]
 first | refine gd_t (fun h => ?_) (fun h => ?_) | refine gd_f (fun h => ?_) (fun h => ?_)
 ·have hb := h
  simp only [nf] at h
  have hlt := h; clear h
  try simp (disch := omega) only [go_sem, hE, hH, hb]
  repeat' (first | ((with_reducible first | refine gd_t ?_ ?_ | refine gd_f ?_ ?_) <;> (intro h; have hb := h; (try simp only [nf] at h); refine sb ?_; (try clear hb))) | ((with_reducible refine And.intro ?_ ?_); · omega) | refine jn _ ?_ ?_ | (with_reducible first | refine both ?_ ?_ | refine And.intro ?_ ?_) | exact fe | refine st ?_ | exact fm | refine s1 ?_ | (with_reducible exact True.intro) | fail)
  ·have : fwF l key = true := List.any_eq_true.2 ⟨_, nth_mem hlt, by simp [h]⟩
   rw [this]
  ·first | exact ⟨(), rfl, allN_step hI (by simp [h])⟩ | exact ⟨by omega, (), rfl, allN_step hI (by simp [h])⟩ | exact ⟨by omega, by omega, (), rfl, allN_step hI (by simp [h])⟩
 ·try simp (disch := omega) only [go_sem, hE, hH, h]
  simp only [nf] at h
  rw [show j = l.length by omega, allN_all (p := fun w : Write => !decide (w.Key = key))] at hI
  have : fwF l key = false := by
   rw [fwF, List.any_eq_false]; intro x hx; simpa using List.all_eq_true.1 hI x hx
  rw [this]
def overlapW (ws : List Write) (reads : List ByteArray) (others : List Write) : Bool := ws.any fun w => fwF others w.Key || reads.any fun x => decide (w.Key = x)
theorem overlap_1_ok (w : Write) (others : List Write) (reads : List ByteArray) (hl : others.length ≤ 2 ^ 60) (hr : reads.length ≤ maxLen) (hs : srtW others) : ACall Tryz.prog 272 ([.agg (Write.row false w)] ++ [.bx false [.sl false 3 (others.map (Write.row false))], .bx false [.sl false 1 (strs reads)]]) (fun r _ => r = bl (fwF others w.Key || reads.any fun x => decide (w.Key = x))) := by
 refine fi H272 fun E hE hH => ?_; simp only [go_sem] at hE hH; simp only [go_sem, hE, hH, C272]
 repeat' (first | ((with_reducible first | refine gd_t ?_ ?_ | refine gd_f ?_ ?_) <;> (intro h; have hb := h; (try simp only [nf] at h); refine sb ?_; (try clear hb))) | ((with_reducible refine And.intro ?_ ?_); · omega) | ((first | refine ok_view ?_ | refine cvA (findWrite_ok others _ hl hs) ?_ | refine cvA (Contains_String_ok _ _ hr) ?_); refine st ?_) | refine jn _ ?_ ?_ | (with_reducible first | refine both ?_ ?_ | refine And.intro ?_ ?_) | exact fe | refine st ?_ | exact fm | refine s1 ?_ | (with_reducible exact True.intro) | fail)
 all_goals simp_all
theorem overlap_ok (ws : List Write) (reads : List ByteArray) (others : List Write) (hw : ws.length ≤ maxLen) (hl : others.length ≤ 2 ^ 60) (hr : reads.length ≤ maxLen) (hs : srtW others) : ACall Tryz.prog 257 [.sl false 3 (ws.map (Write.row false)), .sl false 1 (strs reads), .sl false 3 (others.map (Write.row false))] (fun r _ => r = bl (overlapW ws reads others)) := by
 refine fi H257 fun E hE hH => ?_; simp only [go_sem] at hE hH; simp only [go_sem, hE, hH, C257]
 repeat' (first | ((with_reducible first | refine gd_t ?_ ?_ | refine gd_f ?_ ?_) <;> (intro h; have hb := h; (try simp only [nf] at h); refine sb ?_; (try clear hb))) | ((with_reducible refine And.intro ?_ ?_); · omega) | ((first | refine ok_view ?_ | refine cvA (ContainsFunc_Write_ok ws _ [.bx false [.sl false 3 (others.map (Write.row false))], .bx false [.sl false 1 (strs reads)]] (fun w => fwF others w.Key || reads.any fun x => decide (w.Key = x)) (by kernel_rfl) rfl hw (fun w _ => overlap_1_ok w others reads hl hr hs)) ?_); refine st ?_) | refine jn _ ?_ ?_ | (with_reducible first | refine both ?_ ?_ | refine And.intro ?_ ?_) | exact fe | refine st ?_ | exact fm | refine s1 ?_ | (with_reducible exact True.intro) | fail)
 rfl
def cmpI (a b : Int) : Int := if a < b then -1 else if b < a then 1 else 0
theorem isNaN_int_ok (x : Int) : ACall Tryz.prog 199 [i64 x] (fun r _ => r = bl false) := by
 refine fi H199 fun E hE hH => ?_; simp only [go_sem] at hE hH; simp only [go_sem, hE, hH, C199]
 try simp (disch := omega) only [go_sem, hE, hH]
theorem Compare_int_ok (a b : Int) : ACall Tryz.prog 171 [i64 a, i64 b] (fun r _ => r = i64 (cmpI a b)) := by
 refine fi H171 fun E hE hH => ?_; simp only [go_sem] at hE hH; simp only [go_sem, hE, hH, T18_x]
 repeat' (first | ((with_reducible first | refine gd_t ?_ ?_ | refine gd_f ?_ ?_) <;> (intro h; have hb := h; (try simp only [nf] at h); refine sb ?_; (try clear hb))) | ((with_reducible refine And.intro ?_ ?_); · omega) | ((first | refine ok_view ?_ | refine cvA (isNaN_int_ok _) ?_); refine st ?_) | refine jn _ ?_ ?_ | (with_reducible first | refine both ?_ ?_ | refine And.intro ?_ ?_) | exact fe | refine st ?_ | exact fm | refine s1 ?_ | (with_reducible exact True.intro) | fail)
 all_goals (unfold cmpI)
 ·rw [if_pos h]
 ·rw [if_neg (by omega), if_pos h]
 ·rw [if_neg (by omega), if_neg (by omega)]
theorem isMany_ok (n : Int) : ACall Tryz.prog 119 [i64 n] (fun r _ => r = bl (decide (n = 3) || decide (n = 5))) := by
 refine fi H119 fun E hE hH => ?_; simp only [go_sem] at hE hH; simp only [go_sem, hE, hH, C119]
 repeat' (first | ((with_reducible first | refine gd_t ?_ ?_ | refine gd_f ?_ ?_) <;> (intro h; have hb := h; (try simp only [nf] at h); refine sb ?_; (try clear hb))) | ((with_reducible refine And.intro ?_ ?_); · omega) | refine jn _ ?_ ?_ | (with_reducible first | refine both ?_ ?_ | refine And.intro ?_ ?_) | exact fe | refine st ?_ | exact fm | refine s1 ?_ | (with_reducible exact True.intro) | fail)
 all_goals (first | (simp_all []; done) | (simp_all [] <;> first | omega | (intros; omega)))
def mostI (a b : Int) : Int := if a > b then a else b
theorem l1Most_ok (a b : Int) : ACall Tryz.prog 180 [i64 a, i64 b] (fun r _ => r = i64 (mostI a b)) := by
 refine fi H180 fun E hE hH => ?_; simp only [go_sem] at hE hH; simp only [go_sem, hE, hH, C180]
 repeat' (first | ((with_reducible first | refine gd_t ?_ ?_ | refine gd_f ?_ ?_) <;> (intro h; have hb := h; (try simp only [nf] at h); refine sb ?_; (try clear hb))) | ((with_reducible refine And.intro ?_ ?_); · omega) | refine jn _ ?_ ?_ | (with_reducible first | refine both ?_ ?_ | refine And.intro ?_ ?_) | exact fe | refine st ?_ | exact fm | refine s1 ?_ | (with_reducible exact True.intro) | fail)
 all_goals (simp only [mostI]; first | rw [if_pos (by omega)] | rw [if_neg (by omega)])
open Go.Proofs.Wb renaming H185 → z0_, C185 → z1_, within_ok → z2_ in
theorem isTime_ok (n : Int) : ACall Tryz.prog 185 [i64 n] (fun r _ => r = bl (rng n 1 100000)) := Q16_
open Go.Proofs.Wb renaming H201 → z0_, C201 → z1_, l1In_ok → z2_ in
theorem l3Time_ok (n : Int) : ACall Tryz.prog 201 [i64 n] (fun r _ => r = bl (rng n 1 100000)) := Q16_
theorem l4Keys_ok (l : List ByteArray) (hl : limL (fun s => s.size ≤ maxLen) l) : ACall Tryz.prog 202 [.sl false 1 (strs l)] (fun r _ => r = bl (risB l && decide ((l.length : Int) ≤ 8))) := by
 obtain ⟨hl, hx⟩ := hl
 have hmx := mx_eq
 refine fi H202 fun E hE hH => ?_; simp only [go_sem] at hE hH; simp only [go_sem, hE, hH, C202]
 refine loopN l.length (fun j (_ : Unit) => ⟨[(0, .sl false 1 (strs l)), (5, .sl false 1 (strs l)), (6, i64 l.length), (7, i64 j)], []⟩) (fun j _ => allN (fun i => goodKey (nth l i) && (decide (i = 0) || strLt (nth l (i - 1)) (nth l i))) j = true) () rfl ?_
 intro j _ hj hI
 try simp only [go_sem, hE, hH, C202_l1]
 first | refine gd_t (fun h => ?_) (fun h => ?_) | refine gd_f (fun h => ?_) (fun h => ?_)
 ·have hb := h
  simp only [nf] at h
  have hlt := h; clear h
  have hs := hx _ (nth_mem hlt)
  try simp (disch := omega) only [go_sem, hE, hH, hb]
  repeat' (first | ((with_reducible first | refine gd_t ?_ ?_ | refine gd_f ?_ ?_) <;> (intro h; have hb := h; (try simp only [nf] at h); refine sb ?_; (try clear hb))) | ((with_reducible refine And.intro ?_ ?_); · omega) | ((first | refine ok_view ?_ | refine cvA (l3Key_ok _ (by assumption)) ?_); refine st ?_) | refine jn _ ?_ ?_ | (with_reducible first | refine both ?_ ?_ | refine And.intro ?_ ?_) | exact fe | refine st ?_ | exact fm | refine s1 ?_ | (with_reducible exact True.intro) | fail)
  ·rw [risB, allN_no hlt (by simp_all)]; rfl
  ·rw [risB, allN_no hlt (by simp_all <;> omega)]; rfl
  ·exact ⟨(), rfl, allN_step hI (by simp_all)⟩
  ·exact ⟨(), rfl, allN_step hI (by simp_all <;> omega)⟩
 ·try simp (disch := omega) only [go_sem, hE, hH, h]
  simp only [nf] at h
  rw [show j = l.length by omega] at hI
  rw [risB, hI]
  simp
def bareR (r : Rec) : Bool := decide (r.Lead = 0) && decide (r.Reads.length = 0) && decide (r.Writes.length = 0)
def recOk (r : Rec) : Bool :=
 if r.Kind = 1 then rng r.Txn 1 60 && rng r.Time 1 100000 && rng r.Lead 0 3 && (risB r.Reads && decide ((r.Reads.length : Int) ≤ 8)) && decide ((r.Writes.length : Int) ≤ 8) && goodWrites r.Writes && decide (0 < r.Reads.length + r.Writes.length) && !r.Yes
 else if r.Kind = 2 ∨ r.Kind = 3 then bareR r && rng r.Txn 1 60 && ((r.Yes && rng r.Time 1 100000) || (!r.Yes && decide (r.Time = 0)))
 else if r.Kind = 4 then bareR r && decide (r.Txn = 0) && rng r.Time 1 100000 && !r.Yes
 else false
theorem GoodRec_ok (r : Rec) (hw : r.wf) : ACall Tryz.prog 157 [.agg (Rec.row false r)] (fun x _ => x = bl (recOk r)) := by
 have hmx := mx_eq
 obtain ⟨w1, w2, w3, w4, w5, w6⟩ := hw
 refine fi H157 fun E hE hH => ?_; simp only [go_sem] at hE hH; simp only [go_sem, hE, hH, C157]
 repeat' (first | ((with_reducible first | refine gd_t ?_ ?_ | refine gd_f ?_ ?_) <;> (intro h; have hb := h; (try simp only [nf] at h); refine sb ?_; (try clear hb))) | ((with_reducible refine And.intro ?_ ?_); · omega) | ((first | refine ok_view ?_ | refine cvA (isTxn_ok _) ?_ | refine cvA (isTime_ok _) ?_ | refine cvA (within_ok _ _ _) ?_ | refine cvA (areRising_ok _ w5) ?_ | refine cvA (GoodWrites_ok _ w6) ?_); refine st ?_) | (with_reducible apply jn) | (with_reducible apply both) | (with_reducible refine And.intro ?_ ?_) | exact fj | refine st ?_ | exact fm | refine s1 ?_ | (with_reducible exact True.intro) | fail)
 all_goals (first | (simp_all [recOk, bareR]; done) | (simp_all [recOk, bareR] <;> first | omega | (intros; omega)))
def recW (r : Rec) : Prop := r.wf ∧ r.Reads.length ≤ 2 ^ 60 ∧ r.Writes.length ≤ 2 ^ 60
theorem l4Good_ok (r : Rec) (hw : recW r) : ACall Tryz.prog 173 [.agg (Rec.row false r)] (fun x _ => x = bl (recOk r)) := by
 have hmx := mx_eq
 obtain ⟨⟨w1, w2, w3, w4, w5, w6⟩, z1, z2⟩ := hw
 have hrl : rng (r.Writes.length : Int) 0 8 = decide ((r.Writes.length : Int) ≤ 8) := by simp [rng]
 by_cases hb : r.Reads.length + r.Writes.length = 0
 ·have hR : r.Reads = [] := List.length_eq_zero_iff.1 (by omega)
  have hW : r.Writes = [] := List.length_eq_zero_iff.1 (by omega)
  refine fi H173 fun E hE hH => ?_; simp only [go_sem] at hE hH; simp only [go_sem, hE, hH, C173]
  repeat' (first | ((with_reducible first | refine gd_t ?_ ?_ | refine gd_f ?_ ?_) <;> (intro h; have hb := h; (try simp only [nf] at h); refine sb ?_; (try clear hb))) | ((with_reducible refine And.intro ?_ ?_); · omega) | ((first | refine ok_view ?_ | refine cvA (l1In_ok _ _ _) ?_ | refine cvA (l3Time_ok _) ?_ | refine cvA (l4Keys_ok _ w5) ?_ | refine cvA (l3Writes_ok _ w6) ?_); refine st ?_) | (with_reducible apply jn) | (with_reducible apply both) | (with_reducible refine And.intro ?_ ?_) | exact fj | refine st ?_ | exact fm | refine s1 ?_ | (with_reducible exact True.intro) | fail)
  all_goals (first | (simp_all [recOk, bareR]; done) | (simp_all [recOk, bareR]; omega))
 ·have hn : bareR r = false := by
   have : (decide (r.Reads.length = 0) && decide (r.Writes.length = 0)) = false := by
    rw [Bool.and_eq_false_iff, decide_eq_false_iff_not, decide_eq_false_iff_not]; omega
   rw [bareR, Bool.and_assoc, this, Bool.and_false]
  have hp : 0 < r.Reads.length + r.Writes.length := by omega
  have hp2 : (0 : Int) < (r.Reads.length : Int) + r.Writes.length := by omega
  refine fi H173 fun E hE hH => ?_; simp only [go_sem] at hE hH; simp only [go_sem, hE, hH, C173]
  repeat' (first | ((with_reducible first | refine gd_t ?_ ?_ | refine gd_f ?_ ?_) <;> (intro h; have hb := h; (try simp only [nf] at h); refine sb ?_; (try clear hb))) | ((with_reducible refine And.intro ?_ ?_); · omega) | ((first | refine ok_view ?_ | refine cvA (l1In_ok _ _ _) ?_ | refine cvA (l3Time_ok _) ?_ | refine cvA (l4Keys_ok _ w5) ?_ | refine cvA (l3Writes_ok _ w6) ?_); refine st ?_) | (with_reducible apply jn) | (with_reducible apply both) | (with_reducible refine And.intro ?_ ?_) | exact fj | refine st ?_ | exact fm | refine s1 ?_ | (with_reducible exact True.intro) | fail)
  all_goals (clear hb)
  all_goals (first | omega | (simp [recOk, *]; done) | (simp_all [recOk]; done) | (simp_all [recOk] <;> omega) | trace_state)
theorem sGoodRec_ok (r : Rec) (hw : recW r) : ACall Tryz.prog 148 [.agg (Rec.row false r)] (fun x _ => x = bl (recOk r)) := by
 refine fi H148 fun E hE hH => ?_; simp only [go_sem] at hE hH; simp only [go_sem, hE, hH, C148]
 repeat' (first | ((with_reducible first | refine gd_t ?_ ?_ | refine gd_f ?_ ?_) <;> (intro h; have hb := h; (try simp only [nf] at h); refine sb ?_; (try clear hb))) | ((with_reducible refine And.intro ?_ ?_); · omega) | ((first | refine ok_view ?_ | refine cvA (l4Good_ok r hw) ?_); refine st ?_) | refine jn _ ?_ ?_ | (with_reducible first | refine both ?_ ?_ | refine And.intro ?_ ?_) | exact fe | refine st ?_ | exact fm | refine s1 ?_ | (with_reducible exact True.intro) | fail)
def entOk (t : Int) (l : List Entry) (i : Nat) : Bool := rng (nth l i).Term 1 t && recOk (nth l i).Rec && (decide (i = 0) || !decide ((nth l i).Term < (nth l (i - 1)).Term))
def logOk (t : Int) (l : List Entry) : Bool := allN (entOk t l) l.length && decide ((l.length : Int) ≤ 60)
theorem logOk_no {t : Int} {l : List Entry} {j : Nat} (hlt : j < l.length) (h : entOk t l j = false) : logOk t l = false := by
 rw [logOk, allN_no hlt h]; rfl
def lastE (l : List Entry) (j : Nat) : Int := if j = 0 then 1 else (nth l (j - 1)).Term
theorem lastE_eq {t : Int} {l : List Entry} {j : Nat} (h : 1 ≤ lastE l j) : (rng (nth l j).Term (lastE l j) t && recOk (nth l j).Rec) = entOk t l j := by
 unfold lastE at h ⊢
 unfold entOk
 by_cases hj : j = 0
 ·simp [hj]
 ·simp only [hj, if_false] at h ⊢
  rw [Bool.eq_iff_iff]
  simp only [Bool.and_eq_true, rng_iff, Bool.or_eq_true, decide_eq_true_eq, Bool.not_eq_true', decide_eq_false_iff_not, hj, false_or]
  constructor
  ·rintro ⟨⟨h1, h2⟩, h3⟩; exact ⟨⟨⟨by omega, h2⟩, h3⟩, by omega⟩
  ·rintro ⟨⟨⟨h1, h2⟩, h3⟩, h4⟩; exact ⟨⟨by omega, h2⟩, h3⟩
theorem isLog_ok (l : List Entry) (t : Int) (hl : l.length ≤ maxLen) (hx : ∀ e ∈ l, recW e.Rec) : ACall Tryz.prog 122 [.sl false 8 (l.map (Entry.row false)), i64 t] (fun r _ => r = bl (logOk t l)) := by
 have hmx := mx_eq
 refine fi H122 fun E hE hH => ?_; simp only [go_sem] at hE hH; simp only [go_sem, hE, hH, C122]
 refine loopN l.length (fun j (_ : Unit) => ⟨[(0, .sl false 8 (l.map (Entry.row false))), (1, i64 t), (7, .sl false 8 (l.map (Entry.row false))), (8, i64 l.length), (9, i64 j)], []⟩) (fun j _ => allN (entOk t l) j = true) () rfl ?_
 intro j _ hj hI
 try simp only [go_sem, hE, hH, C122_l1]
 first | refine gd_t (fun h => ?_) (fun h => ?_) | refine gd_f (fun h => ?_) (fun h => ?_)
 ·have hb := h
  simp only [nf] at h
  have hlt := h; clear h
  have hs := (hx _ (nth_mem hlt)).1
  try simp (disch := omega) only [go_sem, hE, hH, hb]
  repeat' (first | ((with_reducible first | refine gd_t ?_ ?_ | refine gd_f ?_ ?_) <;> (intro h; have hb := h; (try simp only [nf] at h); refine sb ?_; (try clear hb))) | ((with_reducible refine And.intro ?_ ?_); · omega) | ((first | refine ok_view ?_ | refine cvA (within_ok _ _ _) ?_ | refine cvA (GoodRec_ok (nth l j).Rec hs) ?_); refine st ?_) | (with_reducible apply jn) | (with_reducible apply both) | (with_reducible refine And.intro ?_ ?_) | exact fj | refine st ?_ | exact fm | refine s1 ?_ | (with_reducible exact True.intro) | fail)
  ·rw [logOk_no hlt (by simp [entOk, h])]
  ·rw [logOk_no hlt (by simp [entOk, h])]
  ·rw [logOk_no hlt (by first | (simp_all [entOk]; done) | (simp_all [entOk]; omega))]
  ·exact ⟨(), rfl, allN_step hI (by simp_all [entOk])⟩
  ·exact ⟨(), rfl, allN_step hI (by first | (simp_all [entOk]; done) | (simp_all [entOk]; omega))⟩
 ·try simp (disch := omega) only [go_sem, hE, hH, h]
  simp only [nf] at h
  rw [show j = l.length by omega] at hI
  rw [logOk, hI]
  simp
def repOk (t : Int) (r : Replica) : Bool := logOk t r.Log && rng r.Sure 0 r.Log.length
def repW (r : Replica) : Prop := r.Log.length ≤ maxLen ∧ ∀ e ∈ r.Log, recW e.Rec
theorem l9GoodRep_ok (x : Replica) (t : Int) (hw : repW x) : ACall Tryz.prog 107 [.agg (Replica.row false x), i64 t] (fun r _ => r = bl (repOk t x)) := by
 obtain ⟨hl, hx⟩ := hw
 have hmx := mx_eq
 refine fi H107 fun E hE hH => ?_; simp only [go_sem] at hE hH; simp only [go_sem, hE, hH, C107]
 repeat' (first | ((with_reducible first | refine gd_t ?_ ?_ | refine gd_f ?_ ?_) <;> (intro h; have hb := h; (try simp only [nf] at h); refine sb ?_; (try clear hb))) | ((with_reducible refine And.intro ?_ ?_); · omega) | ((first | refine ok_view ?_ | refine cvA (l1In_ok _ _ _) ?_); refine st ?_) | (with_reducible apply jn) | (with_reducible apply both) | (with_reducible refine And.intro ?_ ?_) | exact fj | refine st ?_ | exact fm | refine s1 ?_ | (with_reducible exact True.intro) | fail)
 ·rw [repOk, logOk, decide_eq_false (by omega)]; simp
 ·rw [repOk, h]; simp
 refine loopN x.Log.length (fun j (v : Int) => ⟨[(1, i64 t), (2, .ptr 3000000 0 0), (5, i64 v), (6, i64 j)], [(3000000, ⟨3, [Replica.row false x]⟩)]⟩) (fun j v => allN (entOk t x.Log) j = true ∧ v = lastE x.Log j ∧ 1 ≤ v) 1 ⟨rfl, rfl, by omega⟩ ?_
 rintro j v hj ⟨hI, rfl, h0⟩
 have he := lastE_eq (t := t) h0
 try simp only [go_sem, hE, hH, C107_l1]
 first | refine gd_t (fun h1 => ?_) (fun h1 => ?_) | refine gd_f (fun h1 => ?_) (fun h1 => ?_)
 ·have hb1 := h1
  simp only [nf] at h1
  have hlt := h1; clear h1
  have hs := hx _ (nth_mem hlt)
  try simp (disch := omega) only [go_sem, hE, hH, hb1]
  repeat' (first | ((with_reducible first | refine gd_t ?_ ?_ | refine gd_f ?_ ?_) <;> (intro h; have hb := h; (try simp only [nf] at h); refine sb ?_; (try clear hb))) | ((with_reducible refine And.intro ?_ ?_); · omega) | ((first | refine ok_view ?_ | refine cvA (l1In_ok _ _ _) ?_ | refine cvA (sGoodRec_ok (nth x.Log j).Rec hs) ?_); refine st ?_) | (with_reducible apply jn) | (with_reducible apply both) | (with_reducible refine And.intro ?_ ?_) | exact fj | refine st ?_ | exact fm | refine s1 ?_ | (with_reducible exact True.intro) | fail)
  ·rw [repOk, logOk_no hlt (by rw [← he, h]; simp)]; rfl
  ·rw [repOk, logOk_no hlt (by rw [← he, h]; simp)]; rfl
  ·rename_i hD
   have hD' := rng_iff.1 hD
   exact ⟨(nth x.Log j).Term, rfl, allN_step hI (by rw [← he, hD, h]; rfl), by simp [lastE], by omega⟩
 ·try simp (disch := omega) only [go_sem, hE, hH, h1]
  simp only [nf] at h1
  rw [show j = x.Log.length by omega] at hI
  rw [repOk, logOk, hI]
  have : decide ((x.Log.length : Int) ≤ 60) = true := decide_eq_true (by omega)
  simp_all
def grpW (g : Group) : Prop := g.Reps.length ≤ maxLen ∧ ∀ r ∈ g.Reps, repW r
theorem grpW_of {g : Group} (hw : g.wf) (hs : g.sz ≤ 2 ^ 20) : grpW g := by
 refine ⟨hw.1.1, fun r hr => ⟨(hw.1.2 r hr).1.1, fun e he => ?_⟩⟩
 have h1 := szL_mem (f := Replica.sz) hr
 have h2 := szL_mem (f := Entry.sz) he
 have h3 : Group.sz g = szL Replica.sz g.Reps := rfl
 have h4 : Replica.sz r = szL Entry.sz r.Log := rfl
 have h5 : Entry.sz e = szL ByteArray.size e.Rec.Reads + szL Write.sz e.Rec.Writes := rfl
 have h6 := szL_len (f := ByteArray.size) (l := e.Rec.Reads)
 have h7 := szL_len (f := Write.sz) (l := e.Rec.Writes)
 exact ⟨((hw.1.2 r hr).1.2 e he).2, by omega, by omega⟩
def leadOk (g : Group) : Bool := decide (g.Lead = -1) || (rng g.Lead 0 ((g.Reps.length : Int) - 1) && (nth g.Reps g.Lead.toNat).Up)
def grpOk (g : Group) : Bool := (decide ((g.Reps.length : Int) = 3) || decide ((g.Reps.length : Int) = 5)) && rng g.Term 0 200 && leadOk g && g.Reps.all (repOk g.Term)
open Go.Proofs.Wb renaming H87 → z0_, C87 → z1_ in
theorem isRep_ok (g : Group) (r : Int) (hl : g.Reps.length ≤ maxLen) : ACall Tryz.prog 87 [.agg (Group.row false g), i64 r] (fun x _ => x = bl (rng r 0 ((g.Reps.length : Int) - 1))) := Q17_
theorem GoodGroup_1_ok (x : Replica) (g : Group) (hw : repW x) : ACall Tryz.prog 121 ([.agg (Replica.row false x)] ++ [.bx false (Group.row false g)]) (fun r _ => r = bl (!repOk g.Term x)) := by
 obtain ⟨hl, hx⟩ := hw
 have hmx := mx_eq
 refine fi H121 fun E hE hH => ?_; simp only [go_sem] at hE hH; simp only [go_sem, hE, hH, C121]
 repeat' (first | ((with_reducible first | refine gd_t ?_ ?_ | refine gd_f ?_ ?_) <;> (intro h; have hb := h; (try simp only [nf] at h); refine sb ?_; (try clear hb))) | ((with_reducible refine And.intro ?_ ?_); · omega) | ((first | refine ok_view ?_ | refine cvA (isLog_ok x.Log g.Term hl hx) ?_ | refine cvA (within_ok _ _ _) ?_); refine st ?_) | (with_reducible apply jn) | (with_reducible apply both) | (with_reducible refine And.intro ?_ ?_) | exact fj | refine st ?_ | exact fm | refine s1 ?_ | (with_reducible exact True.intro) | fail)
 all_goals (first | (simp_all [repOk]; done) | (simp_all [repOk] <;> first | omega | (intros; omega)))
theorem GoodGroup_ok (g : Group) (hw : grpW g) : ACall Tryz.prog 75 [.agg (Group.row false g)] (fun r _ => r = bl (grpOk g)) := by
 have hmx := mx_eq
 obtain ⟨hl, hx⟩ := hw
 have hany : (g.Reps.any fun x => !repOk g.Term x) = !(g.Reps.all (repOk g.Term)) := by
  rw [List.all_eq_not_any_not]; simp
 refine fi H75 fun E hE hH => ?_; simp only [go_sem] at hE hH; simp only [go_sem, hE, hH, C75]
 repeat' (first | ((with_reducible first | refine gd_t ?_ ?_ | refine gd_f ?_ ?_) <;> (intro h; have hb := h; (try simp only [nf] at h); refine sb ?_; (try clear hb))) | ((with_reducible refine And.intro ?_ ?_); · omega) | ((first | refine ok_view ?_ | refine cvA (isMany_ok _) ?_ | refine cvA (within_ok _ _ _) ?_ | refine cvA (isRep_ok g g.Lead hl) ?_); refine st ?_) | (with_reducible apply jn) | (with_reducible apply both) | (with_reducible refine And.intro ?_ ?_) | exact fj | refine st ?_ | exact fm | refine s1 ?_ | (with_reducible exact True.intro) | fail)
 all_goals try simp only [rng_iff] at h
 all_goals try omega
 all_goals try (have hk : g.Lead.toNat < g.Reps.length := by omega)
 repeat' (first | ((with_reducible first | refine gd_t ?_ ?_ | refine gd_f ?_ ?_) <;> (intro h; have hb := h; (try simp only [nf] at h); refine sb ?_; (try clear hb))) | ((with_reducible refine And.intro ?_ ?_); · omega) | ((first | refine ok_view ?_ | refine cvA (ContainsFunc_Replica_ok g.Reps _ [.bx false (Group.row false g)] (fun x => !repOk g.Term x) (by kernel_rfl) rfl hl (fun x hx' => GoodGroup_1_ok x g (hx x hx'))) ?_); refine st ?_) | (with_reducible apply jn) | (with_reducible apply both) | (with_reducible refine And.intro ?_ ?_) | exact fj | refine st ?_ | exact fm | refine s1 ?_ | (with_reducible exact True.intro) | fail)
 all_goals try simp only [hany, Bool.not_not]
 all_goals clear hany
 all_goals (first | (simp_all [grpOk, leadOk]; done) | (simp_all [grpOk, leadOk, rng]; done) | (simp_all [grpOk, leadOk, rng] <;> omega) | trace_state)
theorem sGoodGroup_ok (g : Group) (hw : grpW g) : ACall Tryz.prog 62 [.agg (Group.row false g)] (fun r _ => r = bl (grpOk g)) := by
 have hmx := mx_eq
 obtain ⟨hl, hx⟩ := hw
 refine fi H62 fun E hE hH => ?_; simp only [go_sem] at hE hH; simp only [go_sem, hE, hH, C62]
 repeat' (first | ((with_reducible first | refine gd_t ?_ ?_ | refine gd_f ?_ ?_) <;> (intro h; have hb := h; (try simp only [nf] at h); refine sb ?_; (try clear hb))) | ((with_reducible refine And.intro ?_ ?_); · omega) | ((first | refine ok_view ?_ | refine cvA (l1In_ok _ _ _) ?_); refine st ?_) | (with_reducible apply jn) | (with_reducible apply both) | (with_reducible refine And.intro ?_ ?_) | exact fj | refine st ?_ | exact fm | refine s1 ?_ | (with_reducible exact True.intro) | fail)
 ·simp [grpOk, *]
 ·simp [grpOk, *]
 ·have : leadOk g = false := by
   rw [rng_no] at h
   simp only [leadOk, rng, Bool.or_eq_false_iff, Bool.and_eq_false_iff, decide_eq_false_iff_not]
   omega
  simp [grpOk, this]
 ·refine loopN g.Reps.length (fun j (_ : Unit) => ⟨[(1, .ptr 2000000 0 0), (3, i64 j)], [(2000000, ⟨3, [Group.row false g]⟩)]⟩) (fun j _ => allN (fun i => repOk g.Term (nth g.Reps i)) j = true) () rfl ?_
  intro j _ hj hI
  try simp only [go_sem, hE, hH, C62_l1]
  first | refine gd_t (fun h1 => ?_) (fun h1 => ?_) | refine gd_f (fun h1 => ?_) (fun h1 => ?_)
  ·have hb1 := h1
   simp only [nf] at h1
   have hlt := h1; clear h1
   try simp (disch := omega) only [go_sem, hE, hH, hb1]
   repeat' (first | ((with_reducible first | refine gd_t ?_ ?_ | refine gd_f ?_ ?_) <;> (intro h; have hb := h; (try simp only [nf] at h); refine sb ?_; (try clear hb))) | ((with_reducible refine And.intro ?_ ?_); · omega) | ((first | refine ok_view ?_ | refine cvA (l9GoodRep_ok (nth g.Reps j) g.Term (hx _ (nth_mem hlt))) ?_); refine st ?_) | (with_reducible apply jn) | (with_reducible apply both) | (with_reducible refine And.intro ?_ ?_) | exact fj | refine st ?_ | exact fm | refine s1 ?_ | (with_reducible exact True.intro) | fail)
   ·have : g.Reps.all (repOk g.Term) = false := by rw [← allN_all]; exact allN_no hlt h
    simp [grpOk, this]
   ·first | exact ⟨(), rfl, allN_step hI (by simp [h])⟩ | exact ⟨by omega, (), rfl, allN_step hI (by simp [h])⟩ | exact ⟨by omega, by omega, (), rfl, allN_step hI (by simp [h])⟩
  ·try simp (disch := omega) only [go_sem, hE, hH, h1]
   simp only [nf] at h1
   rw [show j = g.Reps.length by omega, allN_all] at hI
   repeat' (first | ((with_reducible first | refine gd_t ?_ ?_ | refine gd_f ?_ ?_) <;> (intro h; have hb := h; (try simp only [nf] at h); refine sb ?_; (try clear hb))) | ((with_reducible refine And.intro ?_ ?_); · omega) | (with_reducible apply jn) | (with_reducible apply both) | (with_reducible refine And.intro ?_ ?_) | exact fj | refine st ?_ | exact fm | refine s1 ?_ | (with_reducible exact True.intro) | fail)
   all_goals try simp only [rng_iff] at *
   all_goals try omega
   all_goals try (have hk : g.Lead.toNat < g.Reps.length := by omega)
   repeat' (first | ((with_reducible first | refine gd_t ?_ ?_ | refine gd_f ?_ ?_) <;> (intro h; have hb := h; (try simp only [nf] at h); refine sb ?_; (try clear hb))) | ((with_reducible refine And.intro ?_ ?_); · omega) | (with_reducible apply jn) | (with_reducible apply both) | (with_reducible refine And.intro ?_ ?_) | exact fj | refine st ?_ | exact fm | refine s1 ?_ | (with_reducible exact True.intro) | fail)
   all_goals (first | (have hL : g.Lead = -1 := by omega) | (have hL : g.Lead ≠ -1 := by omega))
   all_goals (first | (simp_all [grpOk, leadOk, rng]; done) | (simp_all [grpOk, leadOk, rng]; omega))
 ·simp [grpOk, *]
 ·have : leadOk g = false := by
   rw [rng_no] at h
   simp only [leadOk, rng, Bool.or_eq_false_iff, Bool.and_eq_false_iff, decide_eq_false_iff_not]
   omega
  simp [grpOk, this]
 ·refine loopN g.Reps.length (fun j (_ : Unit) => ⟨[(1, .ptr 2000000 0 0), (3, i64 j)], [(2000000, ⟨3, [Group.row false g]⟩)]⟩) (fun j _ => allN (fun i => repOk g.Term (nth g.Reps i)) j = true) () rfl ?_
  intro j _ hj hI
  try simp only [go_sem, hE, hH, C62_l1]
  first | refine gd_t (fun h1 => ?_) (fun h1 => ?_) | refine gd_f (fun h1 => ?_) (fun h1 => ?_)
  ·have hb1 := h1
   simp only [nf] at h1
   have hlt := h1; clear h1
   try simp (disch := omega) only [go_sem, hE, hH, hb1]
   repeat' (first | ((with_reducible first | refine gd_t ?_ ?_ | refine gd_f ?_ ?_) <;> (intro h; have hb := h; (try simp only [nf] at h); refine sb ?_; (try clear hb))) | ((with_reducible refine And.intro ?_ ?_); · omega) | ((first | refine ok_view ?_ | refine cvA (l9GoodRep_ok (nth g.Reps j) g.Term (hx _ (nth_mem hlt))) ?_); refine st ?_) | (with_reducible apply jn) | (with_reducible apply both) | (with_reducible refine And.intro ?_ ?_) | exact fj | refine st ?_ | exact fm | refine s1 ?_ | (with_reducible exact True.intro) | fail)
   ·have : g.Reps.all (repOk g.Term) = false := by rw [← allN_all]; exact allN_no hlt h
    simp [grpOk, this]
   ·first | exact ⟨(), rfl, allN_step hI (by simp [h])⟩ | exact ⟨by omega, (), rfl, allN_step hI (by simp [h])⟩ | exact ⟨by omega, by omega, (), rfl, allN_step hI (by simp [h])⟩
  ·try simp (disch := omega) only [go_sem, hE, hH, h1]
   simp only [nf] at h1
   rw [show j = g.Reps.length by omega, allN_all] at hI
   repeat' (first | ((with_reducible first | refine gd_t ?_ ?_ | refine gd_f ?_ ?_) <;> (intro h; have hb := h; (try simp only [nf] at h); refine sb ?_; (try clear hb))) | ((with_reducible refine And.intro ?_ ?_); · omega) | (with_reducible apply jn) | (with_reducible apply both) | (with_reducible refine And.intro ?_ ?_) | exact fj | refine st ?_ | exact fm | refine s1 ?_ | (with_reducible exact True.intro) | fail)
   all_goals try simp only [rng_iff] at *
   all_goals try omega
   all_goals try (have hk : g.Lead.toNat < g.Reps.length := by omega)
   repeat' (first | ((with_reducible first | refine gd_t ?_ ?_ | refine gd_f ?_ ?_) <;> (intro h; have hb := h; (try simp only [nf] at h); refine sb ?_; (try clear hb))) | ((with_reducible refine And.intro ?_ ?_); · omega) | (with_reducible apply jn) | (with_reducible apply both) | (with_reducible refine And.intro ?_ ?_) | exact fj | refine st ?_ | exact fm | refine s1 ?_ | (with_reducible exact True.intro) | fail)
   all_goals (first | (have hL : g.Lead = -1 := by omega) | (have hL : g.Lead ≠ -1 := by omega))
   all_goals (first | (simp_all [grpOk, leadOk, rng]; done) | (simp_all [grpOk, leadOk, rng]; omega))
theorem sure_ok (x : Replica) (h0 : 0 ≤ x.Sure) (h1 : x.Sure ≤ x.Log.length) : ACall Tryz.prog 89 [.agg (Replica.row false x)] (fun r _ => r = .sl false 8 ((x.Log.take x.Sure.toNat).map (Entry.row false))) := by
 refine fi H89 fun E hE hH => ?_; simp only [go_sem] at hE hH; simp only [go_sem, hE, hH, C89]
 repeat' (first | ((with_reducible first | refine gd_t ?_ ?_ | refine gd_f ?_ ?_) <;> (intro h; have hb := h; (try simp only [nf] at h); refine sb ?_; (try clear hb))) | ((with_reducible refine And.intro ?_ ?_); · omega) | (with_reducible apply jn) | (with_reducible apply both) | (with_reducible refine And.intro ?_ ?_) | exact fj | refine st ?_ | exact fm | refine s1 ?_ | (with_reducible exact True.intro) | fail)
 exact h1
def clkOk (c : Clock) : Bool := rng c.Off (-5) 5
open Go.Proofs.Wb renaming H80 → z0_, C80 → z1_, within_ok → z2_ in
theorem GoodClock_ok (c : Clock) : ACall Tryz.prog 80 [.agg (Clock.row false c)] (fun r _ => r = bl (clkOk c)) := Q18_
theorem any_not {α : Type} {p : α → Bool} {l : List α} : (l.any fun x => !p x) = !(l.all p) := by
 rw [List.all_eq_not_any_not]; simp
open Go.Proofs.Wb renaming H64 → z0_, C64 → z1_, l1In_ok → z2_ in
theorem l2Clock_ok (c : Clock) : ACall Tryz.prog 64 [.agg (Clock.row false c)] (fun r _ => r = bl (clkOk c)) := Q18_
def lockOk (x : Lock) : Bool := goodKey x.Key && rng x.Txn 1 60
def clashL (x y : Lock) : Bool := decide (x.Key = y.Key) && !decide (x.Txn = y.Txn) && (x.Write || y.Write)
def badL (x y : Lock) : Bool := clashL x y || (decide (x.Key = y.Key) && decide (x.Txn = y.Txn))
def locksOk (l : List Lock) : Bool := allN (fun i => lockOk (nth l i) && !(l.take i).any fun y => badL (nth l i) y) l.length && decide ((l.length : Int) ≤ 60)
theorem isLock_ok (x : Lock) (hw : x.wf) : ACall Tryz.prog 123 [.agg (Lock.row false x)] (fun r _ => r = bl (lockOk x)) := by
 refine fi H123 fun E hE hH => ?_; simp only [go_sem] at hE hH; simp only [go_sem, hE, hH, C123]
 repeat' (first | ((with_reducible first | refine gd_t ?_ ?_ | refine gd_f ?_ ?_) <;> (intro h; have hb := h; (try simp only [nf] at h); refine sb ?_; (try clear hb))) | ((with_reducible refine And.intro ?_ ?_); · omega) | ((first | refine ok_view ?_ | refine cvA (GoodKey_ok _ hw.1) ?_ | refine cvA (isTxn_ok _) ?_); refine st ?_) | (with_reducible apply jn) | (with_reducible apply both) | (with_reducible refine And.intro ?_ ?_) | exact fj | refine st ?_ | exact fm | refine s1 ?_ | (with_reducible exact True.intro) | fail)
 all_goals (first | (simp_all [lockOk]; done) | (simp_all [lockOk] <;> first | omega | (intros; omega)))
theorem l12Lock_ok (x : Lock) (hw : x.wf) : ACall Tryz.prog 108 [.agg (Lock.row false x)] (fun r _ => r = bl (lockOk x)) := by
 refine fi H108 fun E hE hH => ?_; simp only [go_sem] at hE hH; simp only [go_sem, hE, hH, C108]
 repeat' (first | ((with_reducible first | refine gd_t ?_ ?_ | refine gd_f ?_ ?_) <;> (intro h; have hb := h; (try simp only [nf] at h); refine sb ?_; (try clear hb))) | ((with_reducible refine And.intro ?_ ?_); · omega) | ((first | refine ok_view ?_ | refine cvA (l3Key_ok _ hw.1) ?_ | refine cvA (l1In_ok _ _ _) ?_); refine st ?_) | (with_reducible apply jn) | (with_reducible apply both) | (with_reducible refine And.intro ?_ ?_) | exact fj | refine st ?_ | exact fm | refine s1 ?_ | (with_reducible exact True.intro) | fail)
 all_goals (first | (simp_all [lockOk]; done) | (simp_all [lockOk] <;> first | omega | (intros; omega)))
open Go.Proofs.Wb renaming H126 → z0_ in
theorem conflict_ok (x y : Lock) : ACall Tryz.prog 126 [.agg (Lock.row false x), .agg (Lock.row false y)] (fun r _ => r = bl (clashL x y)) := Q19_
open Go.Proofs.Wb renaming H109 → z0_ in
theorem l12Clash_ok (x y : Lock) : ACall Tryz.prog 109 [.agg (Lock.row false x), .agg (Lock.row false y)] (fun r _ => r = bl (clashL x y)) := Q19_
theorem GoodLocks_1_ok (y x : Lock) : ACall Tryz.prog 125 ([.agg (Lock.row false y)] ++ [.bx false (Lock.row false x)]) (fun r _ => r = bl (badL x y)) := by
 refine fi H125 fun E hE hH => ?_; simp only [go_sem] at hE hH; simp only [go_sem, hE, hH, C125]
 repeat' (first | ((with_reducible first | refine gd_t ?_ ?_ | refine gd_f ?_ ?_) <;> (intro h; have hb := h; (try simp only [nf] at h); refine sb ?_; (try clear hb))) | ((with_reducible refine And.intro ?_ ?_); · omega) | ((first | refine ok_view ?_ | refine cvA (conflict_ok x y) ?_); refine st ?_) | (with_reducible apply jn) | (with_reducible apply both) | (with_reducible refine And.intro ?_ ?_) | exact fj | refine st ?_ | exact fm | refine s1 ?_ | (with_reducible exact True.intro) | fail)
 all_goals (first | (simp_all [badL]; done) | (simp_all [badL] <;> first | omega | (intros; omega)))
theorem GoodLocks_ok (l : List Lock) (hl : wfL Lock.wf l) : ACall Tryz.prog 76 [.sl false 3 (l.map (Lock.row false))] (fun r _ => r = bl (locksOk l)) := by
 obtain ⟨hl, hx⟩ := hl
 have hmx := mx_eq
 refine fi H76 fun E hE hH => ?_; simp only [go_sem] at hE hH; simp only [go_sem, hE, hH, C76]
 repeat' (first | ((with_reducible first | refine gd_t ?_ ?_ | refine gd_f ?_ ?_) <;> (intro h; have hb := h; (try simp only [nf] at h); refine sb ?_; (try clear hb))) | ((with_reducible refine And.intro ?_ ?_); · omega) | refine jn _ ?_ ?_ | (with_reducible first | refine both ?_ ?_ | refine And.intro ?_ ?_) | exact fe | refine st ?_ | exact fm | refine s1 ?_ | (with_reducible exact True.intro) | fail)
 refine loopNe l.length (fun j (_ : Unit) => ⟨[(0, .sl false 3 (l.map (Lock.row false))), (5, .sl false 3 (l.map (Lock.row false))), (6, i64 l.length), (7, i64 j)], []⟩) (fun j _ => allN (fun i => lockOk (nth l i) && !(l.take i).any fun y => badL (nth l i) y) j = true) () rfl rfl ?_
 intro j _ hj hI
 try simp only [go_sem, hE, hH, C76_l1]
 first | refine gd_t (fun h => ?_) (fun h => ?_) | refine gd_f (fun h => ?_) (fun h => ?_)
 ·have hb := h
  simp only [nf] at h
  have hlt := h; clear h
  have hw := hx _ (nth_mem hlt)
  have ht : ((l.map (Lock.row false)).take j) = (l.take j).map (Lock.row false) := by rw [List.map_take]
  try simp (disch := omega) only [go_sem, hE, hH, hb, ht]
  repeat' (first | ((with_reducible first | refine gd_t ?_ ?_ | refine gd_f ?_ ?_) <;> (intro h; have hb := h; (try simp only [nf] at h); refine sb ?_; (try clear hb))) | ((with_reducible refine And.intro ?_ ?_); · omega) | ((first | refine ok_view ?_ | refine cvA (isLock_ok _ hw) ?_ | refine cvA (ContainsFunc_Lock_ok (l.take j) _ [.bx false (Lock.row false (nth l j))] (fun y => badL (nth l j) y) (by kernel_rfl) rfl (by rw [List.length_take]; omega) (fun y _ => GoodLocks_1_ok y _)) ?_); refine st ?_) | refine jn _ ?_ ?_ | (with_reducible first | refine both ?_ ?_ | refine And.intro ?_ ?_) | exact fe | refine st ?_ | exact fm | refine s1 ?_ | (with_reducible exact True.intro) | fail)
  all_goals first | (rw [locksOk, allN_no hlt (by simp_all)]; rfl) | (exact ⟨(), rfl, allN_step hI (by simp_all)⟩)
 ·try simp (disch := omega) only [go_sem, hE, hH, h]
  simp only [nf] at h
  rw [show j = l.length by omega] at hI
  repeat' (first | ((with_reducible first | refine gd_t ?_ ?_ | refine gd_f ?_ ?_) <;> (intro h; have hb := h; (try simp only [nf] at h); refine sb ?_; (try clear hb))) | ((with_reducible refine And.intro ?_ ?_); · omega) | refine jn _ ?_ ?_ | (with_reducible first | refine both ?_ ?_ | refine And.intro ?_ ?_) | exact fe | refine st ?_ | exact fm | refine s1 ?_ | (with_reducible exact True.intro) | fail)
  all_goals first | (rw [locksOk, hI]; simp_all; done) | (simp_all [locksOk]; done)
theorem l12Good_ok (l : List Lock) (hl : wfL Lock.wf l) : ACall Tryz.prog 63 [.sl false 3 (l.map (Lock.row false))] (fun r _ => r = bl (locksOk l)) := by
 obtain ⟨hl, hx⟩ := hl
 have hmx := mx_eq
 refine fi H63 fun E hE hH => ?_; simp only [go_sem] at hE hH; simp only [go_sem, hE, hH, C63]
 repeat' (first | ((with_reducible first | refine gd_t ?_ ?_ | refine gd_f ?_ ?_) <;> (intro h; have hb := h; (try simp only [nf] at h); refine sb ?_; (try clear hb))) | ((with_reducible refine And.intro ?_ ?_); · omega) | refine jn _ ?_ ?_ | (with_reducible first | refine both ?_ ?_ | refine And.intro ?_ ?_) | exact fe | refine st ?_ | exact fm | refine s1 ?_ | (with_reducible exact True.intro) | fail)
 refine loopNe l.length (fun j (_ : Unit) => ⟨[(0, .sl false 3 (l.map (Lock.row false))), (7, .sl false 3 (l.map (Lock.row false))), (8, i64 l.length), (9, i64 j)], []⟩) (fun j _ => allN (fun i => lockOk (nth l i) && !(l.take i).any fun y => badL (nth l i) y) j = true) () rfl rfl ?_
 intro j _ hj hI
 try simp only [go_sem, hE, hH, C63_l2]
 first | refine gd_t (fun h => ?_) (fun h => ?_) | refine gd_f (fun h => ?_) (fun h => ?_)
 ·have hb := h
  simp only [nf] at h
  have hlt := h; clear h
  have hw := hx _ (nth_mem hlt)
  try simp (disch := omega) only [go_sem, hE, hH, hb]
  repeat' (first | ((with_reducible first | refine gd_t ?_ ?_ | refine gd_f ?_ ?_) <;> (intro h; have hb := h; (try simp only [nf] at h); refine sb ?_; (try clear hb))) | ((with_reducible refine And.intro ?_ ?_); · omega) | ((first | refine ok_view ?_ | refine cvA (l12Lock_ok _ hw) ?_); refine st ?_) | refine jn _ ?_ ?_ | (with_reducible first | refine both ?_ ?_ | refine And.intro ?_ ?_) | exact fe | refine st ?_ | exact fm | refine s1 ?_ | (with_reducible exact True.intro) | fail)
  ·rw [locksOk, allN_no hlt (by simp_all)]; rfl
  have hlj : (l.take j).length = j := by rw [List.length_take]; omega
  refine loopNe (l.take j).length (fun k (_ : Unit) => ⟨[(0, .sl false 3 (l.map (Lock.row false))), (4, .ptr 5000000 0 0), (7, .sl false 3 (l.map (Lock.row false))), (8, i64 l.length), (9, i64 j), (19, .sl false 3 ((l.take j).map (Lock.row false))), (20, i64 (l.take j).length), (21, i64 k)], [(5000000, ⟨3, [Lock.row false (nth l j)]⟩)]⟩) (fun k _ => allN (fun i => !badL (nth l j) (nth (l.take j) i)) k = true) () (by simp [hlj, Lock.row]) rfl ?_
  intro k _ hk hK
  try simp only [go_sem, hE, hH, C63_l1]
  first | refine gd_t (fun h2 => ?_) (fun h2 => ?_) | refine gd_f (fun h2 => ?_) (fun h2 => ?_)
  ·have hb2 := h2
   simp only [nf] at h2
   have hlt2 : k < (l.take j).length := by omega
   try simp (disch := omega) only [go_sem, hE, hH, hb2]
   have hany : badL (nth l j) (nth (l.take j) k) = true → ((l.take j).any fun y => badL (nth l j) y) = true := fun h => List.any_eq_true.2 ⟨_, nth_mem hlt2, h⟩
   repeat' (first | ((with_reducible first | refine gd_t ?_ ?_ | refine gd_f ?_ ?_) <;> (intro h; have hb := h; (try simp only [nf] at h); refine sb ?_; (try clear hb))) | ((with_reducible refine And.intro ?_ ?_); · omega) | ((first | refine ok_view ?_ | refine cvA (l12Clash_ok (nth l j) (nth (l.take j) k)) ?_); refine st ?_) | refine jn _ ?_ ?_ | (with_reducible first | refine both ?_ ?_ | refine And.intro ?_ ?_) | exact fe | refine st ?_ | exact fm | refine s1 ?_ | (with_reducible exact True.intro) | fail)
   all_goals first | (rw [locksOk, allN_no hlt (by rw [hany (by simp_all [badL])]; simp)]; rfl) | (exact ⟨(), rfl, allN_step hK (by simp_all [badL])⟩)
  ·try simp (disch := omega) only [go_sem, hE, hH, h2]
   simp only [nf] at h2
   rw [show k = (l.take j).length by omega] at hK
   have hN : ((l.take j).any fun y => badL (nth l j) y) = false := by
    rw [allN_all (p := fun y : Lock => !badL (nth l j) y)] at hK
    rw [List.any_eq_false]
    intro x hx'
    have := List.all_eq_true.1 hK x hx'
    simpa using this
   repeat' (first | ((with_reducible first | refine gd_t ?_ ?_ | refine gd_f ?_ ?_) <;> (intro h; have hb := h; (try simp only [nf] at h); refine sb ?_; (try clear hb))) | ((with_reducible refine And.intro ?_ ?_); · omega) | refine jn _ ?_ ?_ | (with_reducible first | refine both ?_ ?_ | refine And.intro ?_ ?_) | exact fe | refine st ?_ | exact fm | refine s1 ?_ | (with_reducible exact True.intro) | fail)
   all_goals first | (exact ⟨(), rfl, allN_step hI (by simp_all)⟩)
 ·try simp (disch := omega) only [go_sem, hE, hH, h]
  simp only [nf] at h
  rw [show j = l.length by omega] at hI
  repeat' (first | ((with_reducible first | refine gd_t ?_ ?_ | refine gd_f ?_ ?_) <;> (intro h; have hb := h; (try simp only [nf] at h); refine sb ?_; (try clear hb))) | ((with_reducible refine And.intro ?_ ?_); · omega) | refine jn _ ?_ ?_ | (with_reducible first | refine both ?_ ?_ | refine And.intro ?_ ?_) | exact fe | refine st ?_ | exact fm | refine s1 ?_ | (with_reducible exact True.intro) | fail)
  all_goals first | (rw [locksOk, hI]; simp_all; done) | (simp_all [locksOk]; done)
def opOk (o : Op) : Bool := rng o.Kind 1 7 && goodKey o.Key && goodVal o.Val && ((decide (o.Kind = 2) || decide (o.Kind = 7)) || decide (o.Val = ⟨⟨[]⟩⟩)) && rng o.By (-9999) 9999 && ((decide (o.Kind = 4) || decide (o.Kind = 5)) || decide (o.By = 0))
def opsOk (l : List Op) : Bool := decide ((l.length : Int) ≤ 8) && l.all opOk
theorem goodVal_nil : goodVal ⟨⟨[]⟩⟩ = true := by decide
open Go.Proofs.Wb renaming H217 → z0_, C217 → z1_ in
theorem hasVal_ok (k : Int) : ACall Tryz.prog 217 [i64 k] (fun r _ => r = bl (decide (k = 2) || decide (k = 7))) := Q20_
open Go.Proofs.Wb renaming H218 → z0_, C218 → z1_ in
theorem hasBy_ok (k : Int) : ACall Tryz.prog 218 [i64 k] (fun r _ => r = bl (decide (k = 4) || decide (k = 5))) := Q20_
theorem isOp_ok (o : Op) (hw : o.wf) : ACall Tryz.prog 189 [.agg (Op.row false o)] (fun r _ => r = bl (opOk o)) := by
 have hmx := mx_eq
 refine fi H189 fun E hE hH => ?_; simp only [go_sem] at hE hH; simp only [go_sem, hE, hH, C189]
 repeat' (first | ((with_reducible first | refine gd_t ?_ ?_ | refine gd_f ?_ ?_) <;> (intro h; have hb := h; (try simp only [nf] at h); refine sb ?_; (try clear hb))) | ((with_reducible refine And.intro ?_ ?_); · omega) | ((first | refine ok_view ?_ | refine cvA (within_ok _ _ _) ?_ | refine cvA (GoodKey_ok _ hw.2.1) ?_ | refine cvA (GoodVal_ok _ hw.2.2.1) ?_ | refine cvA (hasVal_ok _) ?_ | refine cvA (hasBy_ok _) ?_); refine st ?_) | (with_reducible apply jn) | (with_reducible apply both) | (with_reducible refine And.intro ?_ ?_) | exact fj | refine st ?_ | exact fm | refine s1 ?_ | (with_reducible exact True.intro) | fail)
 all_goals (first | (simp_all [opOk]; done) | (simp_all [opOk] <;> first | omega | (intros; omega)))
theorem l5Op_ok (o : Op) (hw : o.wf) : ACall Tryz.prog 149 [.agg (Op.row false o)] (fun r _ => r = bl (opOk o)) := by
 have hmx := mx_eq
 refine fi H149 fun E hE hH => ?_; simp only [go_sem] at hE hH; simp only [go_sem, hE, hH, C149]
 repeat' (first | ((with_reducible first | refine gd_t ?_ ?_ | refine gd_f ?_ ?_) <;> (intro h; have hb := h; (try simp only [nf] at h); refine sb ?_; (try clear hb))) | ((with_reducible refine And.intro ?_ ?_); · omega) | ((first | refine ok_view ?_ | refine cvA (l3Key_ok _ hw.2.1) ?_ | refine cvA (l3Val_ok _ hw.2.2.1) ?_ | refine cvA (l1In_ok _ _ _) ?_); refine st ?_) | (with_reducible apply jn) | (with_reducible apply both) | (with_reducible refine And.intro ?_ ?_) | exact fj | refine st ?_ | exact fm | refine s1 ?_ | (with_reducible exact True.intro) | fail)
 all_goals (first | (simp_all [opOk, goodVal_nil, rng]; done) | (have hk : rng o.Kind 1 7 = false := (rng_no.2 (by omega)); rw [opOk, hk]; rfl) | trace_state)
theorem GoodOps_1_ok (o : Op) (hw : o.wf) : ACall Tryz.prog 188 ([.agg (Op.row false o)] ++ []) (fun r _ => r = bl (!opOk o)) := by
 refine fi H188 fun E hE hH => ?_; simp only [go_sem] at hE hH; simp only [go_sem, hE, hH, C188]
 repeat' (first | ((with_reducible first | refine gd_t ?_ ?_ | refine gd_f ?_ ?_) <;> (intro h; have hb := h; (try simp only [nf] at h); refine sb ?_; (try clear hb))) | ((with_reducible refine And.intro ?_ ?_); · omega) | ((first | refine ok_view ?_ | refine cvA (isOp_ok o hw) ?_); refine st ?_) | refine jn _ ?_ ?_ | (with_reducible first | refine both ?_ ?_ | refine And.intro ?_ ?_) | exact fe | refine st ?_ | exact fm | refine s1 ?_ | (with_reducible exact True.intro) | fail)
theorem GoodOps_ok (l : List Op) (hl : wfL Op.wf l) : ACall Tryz.prog 160 [.sl false 4 (l.map (Op.row false))] (fun r _ => r = bl (opsOk l)) := by
 obtain ⟨hl, hx⟩ := hl
 have hmx := mx_eq
 have hn : (l.any fun o => !opOk o) = !(l.all opOk) := any_not
 refine fi H160 fun E hE hH => ?_; simp only [go_sem] at hE hH; simp only [go_sem, hE, hH, C160]
 repeat' (first | ((with_reducible first | refine gd_t ?_ ?_ | refine gd_f ?_ ?_) <;> (intro h; have hb := h; (try simp only [nf] at h); refine sb ?_; (try clear hb))) | ((with_reducible refine And.intro ?_ ?_); · omega) | ((first | refine ok_view ?_ | refine cvA (ContainsFunc_Op_ok l _ [] (fun o => !opOk o) (by kernel_rfl) rfl hl (fun o ho => GoodOps_1_ok o (hx o ho))) ?_); refine st ?_) | (with_reducible apply jn) | (with_reducible apply both) | (with_reducible refine And.intro ?_ ?_) | exact fj | refine st ?_ | exact fm | refine s1 ?_ | (with_reducible exact True.intro) | fail)
 all_goals first | (simp_all [opsOk]; done) | (have hl8 : decide ((l.length : Int) ≤ 8) = false := decide_eq_false (by omega); rw [opsOk, hl8]; rfl)
theorem l5Good_ok (l : List Op) (hl : wfL Op.wf l) : ACall Tryz.prog 110 [.sl false 4 (l.map (Op.row false))] (fun r _ => r = bl (opsOk l)) := by
 obtain ⟨hl, hx⟩ := hl
 have hmx := mx_eq
 refine fi H110 fun E hE hH => ?_; simp only [go_sem] at hE hH; simp only [go_sem, hE, hH, C110]
 repeat' (first | ((with_reducible first | refine gd_t ?_ ?_ | refine gd_f ?_ ?_) <;> (intro h; have hb := h; (try simp only [nf] at h); refine sb ?_; (try clear hb))) | ((with_reducible refine And.intro ?_ ?_); · omega) | refine jn _ ?_ ?_ | (with_reducible first | refine both ?_ ?_ | refine And.intro ?_ ?_) | exact fe | refine st ?_ | exact fm | refine s1 ?_ | (with_reducible exact True.intro) | fail)
 refine loopNe l.length (fun j (_ : Unit) => ⟨[(0, .sl false 4 (l.map (Op.row false))), (5, .sl false 4 (l.map (Op.row false))), (6, i64 l.length), (7, i64 j)], []⟩) (fun j _ => allN (fun i => opOk (nth l i)) j = true) () rfl rfl ?_
 intro j _ hj hI
 try simp only [go_sem, hE, hH, C110_l1]
 first | refine gd_t (fun h => ?_) (fun h => ?_) | refine gd_f (fun h => ?_) (fun h => ?_)
 ·have hb := h
  simp only [nf] at h
  have hlt := h; clear h
  have hw := hx _ (nth_mem hlt)
  try simp (disch := omega) only [go_sem, hE, hH, hb]
  repeat' (first | ((with_reducible first | refine gd_t ?_ ?_ | refine gd_f ?_ ?_) <;> (intro h; have hb := h; (try simp only [nf] at h); refine sb ?_; (try clear hb))) | ((with_reducible refine And.intro ?_ ?_); · omega) | ((first | refine ok_view ?_ | refine cvA (l5Op_ok _ hw) ?_); refine st ?_) | refine jn _ ?_ ?_ | (with_reducible first | refine both ?_ ?_ | refine And.intro ?_ ?_) | exact fe | refine st ?_ | exact fm | refine s1 ?_ | (with_reducible exact True.intro) | fail)
  all_goals first | (have e : l.all opOk = false := (by rw [← allN_all]; exact allN_no hlt (by assumption)); rw [opsOk, e, Bool.and_false]; done) | (exact ⟨(), rfl, allN_step hI (by assumption)⟩)
 ·try simp (disch := omega) only [go_sem, hE, hH, h]
  simp only [nf] at h
  rw [show j = l.length by omega, allN_all] at hI
  repeat' (first | ((with_reducible first | refine gd_t ?_ ?_ | refine gd_f ?_ ?_) <;> (intro h; have hb := h; (try simp only [nf] at h); refine sb ?_; (try clear hb))) | ((with_reducible refine And.intro ?_ ?_); · omega) | refine jn _ ?_ ?_ | (with_reducible first | refine both ?_ ?_ | refine And.intro ?_ ?_) | exact fe | refine st ?_ | exact fm | refine s1 ?_ | (with_reducible exact True.intro) | fail)
  all_goals first | (rw [opsOk, hI]; simp_all; done) | (simp_all [opsOk]; done)
end Go.Proofs.Wb

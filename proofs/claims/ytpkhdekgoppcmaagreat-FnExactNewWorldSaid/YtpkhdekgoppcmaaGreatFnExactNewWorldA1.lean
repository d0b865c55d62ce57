import Derived.Test.YtpkhdekgoppcmaaGreatFnExactNewWorldM0
import Derived.Laws.Externs
set_option linter.all false
set_option maxHeartbeats 4000000
namespace Go.Proofs.Wb
open Tryz renaming prog → p_
open Go Go.Am
def bys (code : List Int) : List (List T) := code.map fun b => [.v (.int .u8 b)]
@[go_sem] theorem bys_eq (code : List Int) : bys code = code.map fun b => [.v (.int .u8 b)] := rfl
def rng (n lo hi : Int) : Bool := decide (lo ≤ n) && decide (n ≤ hi)
theorem rng_iff {n lo hi : Int} : rng n lo hi = true ↔ lo ≤ n ∧ n ≤ hi := by simp [rng]
theorem rng_no {n lo hi : Int} : rng n lo hi = false ↔ ¬ (lo ≤ n ∧ n ≤ hi) := by rw [← rng_iff]; simp
open Go.Proofs.Wb renaming H79 → z0_, C79 → z1_ in
theorem within_ok (n lo hi : Int) : ACall p_ 79 [i64 n, i64 lo, i64 hi] (fun r _ => r = bl (rng n lo hi)) := Q15_
open Go.Proofs.Wb renaming H66 → z0_, C66 → z1_ in
theorem l1In_ok (n lo hi : Int) : ACall p_ 66 [i64 n, i64 lo, i64 hi] (fun r _ => r = bl (rng n lo hi)) := Q15_
def lowc (b : Int) : Bool := (decide (97 ≤ b) && decide (b ≤ 122)) || (decide (48 ≤ b) && decide (b ≤ 57))
def hasc (more : ByteArray) (b : Int) : Bool := !allN (fun i => !decide (b = byt more i)) more.size
def hasB (s more : ByteArray) : Bool := allN (fun i => lowc (byt s i) || hasc more (byt s i)) s.size
def goodKey (s : ByteArray) : Bool := rng s.size 1 12 && hasB s ⟨⟨[46, 47]⟩⟩
def goodVal (s : ByteArray) : Bool := decide ((s.size : Int) ≤ 24) && hasB s ⟨⟨[46, 45, 44, 95]⟩⟩
theorem isLower_ok (b : Int) : ACall p_ 171 [u8 b] (fun r _ => r = bl (lowc b)) := by
 refine fg H171 fun E hE hH => ?_; simp only [go_sem, hE, hH, C171]
 repeat' (first | ((with_reducible apply ga) <;> refine gs fun h => ?_) | ((with_reducible apply an); · omega) | refine jn _ ?_ ?_ | (with_reducible first | apply both | apply an | exact ti) | exact fe | refine st ?_ | exact fm | refine s1 ?_)
 all_goals (simp_all [lowc] <;> try omega)
theorem find_idx (s : ByteArray) (c : UInt8) : decide (firstIdx s c < 0) = allN (fun i => !decide ((c.toNat : Int) = byt s i)) s.size := by
 rw [Bool.eq_iff_iff, allN_iff, decide_eq_true_iff]
 have key : ∀ i, i < s.size → ((s[i]! == c) = true ↔ (c.toNat : Int) = byt s i) := by
  intro i hi
  have h1 : s[i]! = s.data.toList.getD i 0 := by
   rw [getElem!_pos s i hi]
   simp [ByteArray.getElem_eq_getElem_data, List.getD]
   rw [getElem?_pos _ _ (by simpa using hi)]
   simp
  rw [h1, byt, beq_iff_eq, ← UInt8.toNat_inj]
  omega
 unfold firstIdx
 cases hf : (List.range s.size).find? fun i => s[i]! == c with
 | some i =>
  dsimp only
  have h1 := List.find?_some hf
  have h2 : i < s.size := by simpa using List.mem_of_find?_eq_some hf
  constructor
  ·intro h; omega
  ·intro h
   have := h i h2
   rw [(key i h2).1 h1] at this
   simp at this
 | none =>
  dsimp only
  constructor
  ·intro _ i hi
   have := List.find?_eq_none.1 hf i (by simpa using hi)
   simp only [Bool.not_eq_true', decide_eq_false_iff_not]
   exact fun e => this ((key i hi).2 e)
  ·intro _; omega
theorem idx_run (s : ByteArray) (c : Int) (w : Go.World) : (callFunc 234 #[.string s, .int .u8 c]).run p_ w = .ok (.value (.int .i64 (firstIdx s c.toNat.toUInt8))) w := by
 rw [run_callFunc_extern (e := Extern.BytealgIndexByte.indexByte) d_internal_bytealg_IndexByteString (by kernel_rfl) (by kernel_rfl) (by kernel_rfl) (by kernel_rfl), run_indexByte_string]
 rfl
theorem liteIndex_ok (s : ByteArray) (c : Int) : ACall p_ 205 [str s, u8 c] (fun r _ => r = i64 (firstIdx s c.toNat.toUInt8)) := by
 refine fg H205 fun E hE hH => ?_; simp only [go_sem, hE, hH, C205]
 refine ok_xcall (vs := [.string s, .int .u8 c]) rfl (idx_run s c) ?_
 try simp only [go_sem, hE, hH]
theorem indexByte_ok (s : ByteArray) (c : Int) : ACall p_ 172 [str s, u8 c] (fun r _ => r = i64 (firstIdx s c.toNat.toUInt8)) := by
 refine fg H172 fun E hE hH => ?_; simp only [go_sem, hE, hH, C172]
 repeat' (first | ((with_reducible apply ga) <;> refine gs fun h => ?_) | ((with_reducible apply an); · omega) | ((first | refine ok_view ?_ | refine cvA (liteIndex_ok _ _) ?_); refine st ?_) | refine jn _ ?_ ?_ | (with_reducible first | apply both | apply an | exact ti) | exact fe | refine st ?_ | exact fm | refine s1 ?_)
theorem hasBytes_ok (s more : ByteArray) (hs : s.size ≤ maxLen) : ACall p_ 139 [str s, str more] (fun r _ => r = bl (hasB s more)) := by
 have hm := mx_eq
 refine fg H139 fun E hE hH => ?_; simp only [go_sem, hE, hH, C139]
 refine loopN s.size (fun j (_ : Unit) => ⟨[(0, str s), (1, str more), (7, i64 s.size), (8, i64 j)], []⟩) (fun j _ => allN (fun i => lowc (byt s i) || hasc more (byt s i)) j = true) () rfl ?_
 intro j _ hj hI
 try simp only [go_sem, hE, hH, C139_l1]
 first | refine gd_t (fun h => ?_) (fun h => ?_) | refine gd_f (fun h => ?_) (fun h => ?_)
 ·have hb := h
  simp only [nf] at h
  have hlt := h; clear h
  have hf : decide (firstIdx more (byt s j).toNat.toUInt8 < 0) = !hasc more (byt s j) := by
   rw [find_idx, hasc, Bool.not_not]
   congr 1; funext i
   congr 2
   simp [byt]
  try refine sb ?_; try exact ⟨⟩
  repeat' (first | ((with_reducible apply ga) <;> refine gs fun h => ?_) | ((with_reducible apply an); · omega) | ((first | refine ok_view ?_ | refine cvA (isLower_ok _) ?_ | refine cvA (indexByte_ok _ _) ?_); refine st ?_) | refine jn _ ?_ ?_ | (with_reducible first | apply both | apply an | exact ti) | exact fe | refine st ?_ | exact fm | refine s1 ?_)
  ·rw [decide_eq_true h] at hf
   rw [hasB, allN_no hlt (by simp_all)]
  ·rw [decide_eq_false (by omega)] at hf
   exact ⟨(), rfl, allN_step hI (by simp_all)⟩
  ·exact ⟨(), rfl, allN_step hI (by simp_all)⟩
 ·try simp (disch := omega) only [go_sem, hE, hH, h]
  simp only [nf] at h
  rw [show j = s.size by omega] at hI
  rw [hasB, hI]
theorem l3Bytes_ok (s more : ByteArray) (hs : s.size ≤ maxLen) (hm : more.size ≤ maxLen) : ACall p_ 100 [str s, str more] (fun r _ => r = bl (hasB s more)) := by
 have hmx := mx_eq
 refine fg H100 fun E hE hH => ?_; simp only [go_sem, hE, hH, C100]
 refine loopN s.size (fun j (_ : Unit) => ⟨[(0, str s), (1, str more), (5, i64 j)], []⟩) (fun j _ => allN (fun i => lowc (byt s i) || hasc more (byt s i)) j = true) () rfl ?_
 intro j _ hj hI
 try simp only [go_sem, hE, hH, C100_l2]
 first | refine gd_t (fun h => ?_) (fun h => ?_) | refine gd_f (fun h => ?_) (fun h => ?_)
 ·have hb := h
  simp only [nf] at h
  have hlt := h; clear h
  try refine sb ?_; try exact ⟨⟩
  repeat' (first | ((with_reducible apply ga) <;> refine gs fun h => ?_) | ((with_reducible apply an); · omega) | refine jn _ ?_ ?_ | (with_reducible first | apply both | apply an | exact ti) | exact fe | refine st ?_ | exact fm | refine s1 ?_)
  all_goals (
   refine loopNe more.size (fun k (_ : Unit) => ⟨[(0, str s), (1, str more), (5, i64 j), (6, bl (lowc (byt s j) || !allN (fun i => !decide (byt s j = byt more i)) k)), (7, i64 k)], []⟩) (fun _ _ => True) () ?_ trivial ?_
   ·simp_all [lowc, allN]
    try omega
   intro k _ hk _
   try simp only [go_sem, hE, hH, C100_l1]
   first | refine gd_t (fun h => ?_) (fun h => ?_) | refine gd_f (fun h => ?_) (fun h => ?_)
   ·try simp (disch := omega) only [go_sem, hE, hH, h]
    simp only [nf] at h
    repeat' (first | ((with_reducible apply ga) <;> refine gs fun h => ?_) | ((with_reducible apply an); · omega) | refine jn _ ?_ ?_ | (with_reducible first | apply both | apply an | exact ti) | exact fe | refine st ?_ | exact fm | refine s1 ?_)
    ·exact ⟨(), by simp_all [allN]; rcases h with h | h <;> simp [h]⟩
    ·exact ⟨(), by simp_all [allN]⟩
   ·try simp (disch := omega) only [go_sem, hE, hH, h]
    simp only [nf] at h
    rw [show k = more.size by omega]
    repeat' (first | ((with_reducible apply ga) <;> refine gs fun h => ?_) | ((with_reducible apply an); · omega) | refine jn _ ?_ ?_ | (with_reducible first | apply both | apply an | exact ti) | exact fe | refine st ?_ | exact fm | refine s1 ?_)
    ·rw [hasB, allN_no hlt (by simp_all [hasc])]
    ·exact ⟨(), rfl, allN_step hI (by simp_all [hasc])⟩)
 ·try simp (disch := omega) only [go_sem, hE, hH, h]
  simp only [nf] at h
  rw [show j = s.size by omega] at hI
  rw [hasB, hI]
theorem GoodKey_ok (s : ByteArray) (hs : s.size ≤ maxLen) : ACall p_ 110 [str s] (fun r _ => r = bl (goodKey s)) := by
 refine fg H110 fun E hE hH => ?_; simp only [go_sem, hE, hH, C110]
 repeat' (first | ((with_reducible apply ga) <;> refine gs fun h => ?_) | ((with_reducible apply an); · omega) | ((first | refine ok_view ?_ | refine cvA (within_ok _ _ _) ?_ | refine cvA (hasBytes_ok _ _ hs) ?_); refine st ?_) | refine jn _ ?_ ?_ | (with_reducible first | apply both | apply an | exact ti) | exact fe | refine st ?_ | exact fm | refine s1 ?_)
 all_goals simp_all [goodKey]
theorem l3Key_ok (s : ByteArray) (hs : s.size ≤ maxLen) : ACall p_ 64 [str s] (fun r _ => r = bl (goodKey s)) := by
 refine fg H64 fun E hE hH => ?_; simp only [go_sem, hE, hH, C64]
 repeat' (first | ((with_reducible apply ga) <;> refine gs fun h => ?_) | ((with_reducible apply an); · omega) | ((first | refine ok_view ?_ | refine cvA (l1In_ok _ _ _) ?_ | refine cvA (l3Bytes_ok _ _ hs (by decide)) ?_); refine st ?_) | refine jn _ ?_ ?_ | (with_reducible first | apply both | apply an | exact ti) | exact fe | refine st ?_ | exact fm | refine s1 ?_)
 all_goals simp_all [goodKey]
def risB (l : List ByteArray) : Bool := allN (fun i => goodKey (nth l i) && (decide (i = 0) || strLt (nth l (i - 1)) (nth l i))) l.length
theorem areRising_ok (l : List ByteArray) (hl : limL (fun s => s.size ≤ maxLen) l) : ACall p_ 75 [.sl false 1 (strs l)] (fun r _ => r = bl (risB l)) := by
 obtain ⟨hl, hx⟩ := hl
 have hmx := mx_eq
 refine fg H75 fun E hE hH => ?_; simp only [go_sem, hE, hH, C75]
 refine loopN l.length (fun j (_ : Unit) => ⟨[(0, .sl false 1 (strs l)), (5, .sl false 1 (strs l)), (6, i64 l.length), (7, i64 j)], []⟩) (fun j _ => allN (fun i => goodKey (nth l i) && (decide (i = 0) || strLt (nth l (i - 1)) (nth l i))) j = true) () rfl ?_
 intro j _ hj hI
 try simp only [go_sem, hE, hH, C75_l1]
 first | refine gd_t (fun h => ?_) (fun h => ?_) | refine gd_f (fun h => ?_) (fun h => ?_)
 ·have hb := h
  simp only [nf] at h
  have hlt := h; clear h
  have hs := hx _ (nth_mem hlt)
  try refine sb ?_; try exact ⟨⟩
  repeat' (first | ((with_reducible apply ga) <;> refine gs fun h => ?_) | ((with_reducible apply an); · omega) | ((first | refine ok_view ?_ | refine cvA (GoodKey_ok _ (by assumption)) ?_); refine st ?_) | refine jn _ ?_ ?_ | (with_reducible first | apply both | apply an | exact ti) | exact fe | refine st ?_ | exact fm | refine s1 ?_)
  ·rw [risB, allN_no hlt (by simp_all)]
  ·rw [risB, allN_no hlt (by simp_all <;> omega)]
  ·exact ⟨(), rfl, allN_step hI (by simp_all)⟩
  ·exact ⟨(), rfl, allN_step hI (by simp_all <;> omega)⟩
 ·try simp (disch := omega) only [go_sem, hE, hH, h]
  simp only [nf] at h
  rw [show j = l.length by omega] at hI
  rw [risB, hI]
def stored (v : ByteArray) (gone : Bool) : Bool := goodVal v && !(gone && !decide (v = ⟨⟨[]⟩⟩))
theorem nth_map {α β : Type} [Inhabited α] [Inhabited β] {f : α → β} {l : List α} {i : Nat} (h : i < l.length) : nth (l.map f) i = f (nth l i) := by
 rw [nth_lt (by simpa using h), nth_lt h, List.getElem_map]
theorem GoodVal_ok (s : ByteArray) (hs : s.size ≤ maxLen) : ACall p_ 141 [str s] (fun r _ => r = bl (goodVal s)) := by
 refine fg H141 fun E hE hH => ?_; simp only [go_sem, hE, hH, C141]
 repeat' (first | ((with_reducible apply ga) <;> refine gs fun h => ?_) | ((with_reducible apply an); · omega) | ((first | refine ok_view ?_ | refine cvA (hasBytes_ok _ _ hs) ?_); refine st ?_) | refine jn _ ?_ ?_ | (with_reducible first | apply both | apply an | exact ti) | exact fe | refine st ?_ | exact fm | refine s1 ?_)
 all_goals (first | (simp_all [goodVal]; done) | (simp_all [goodVal] <;> first | omega | (intros; omega)))
theorem l3Val_ok (s : ByteArray) (hs : s.size ≤ maxLen) : ACall p_ 101 [str s] (fun r _ => r = bl (goodVal s)) := by
 refine fg H101 fun E hE hH => ?_; simp only [go_sem, hE, hH, C101]
 repeat' (first | ((with_reducible apply ga) <;> refine gs fun h => ?_) | ((with_reducible apply an); · omega) | ((first | refine ok_view ?_ | refine cvA (l3Bytes_ok _ _ hs (by decide)) ?_); refine st ?_) | refine jn _ ?_ ?_ | (with_reducible first | apply both | apply an | exact ti) | exact fe | refine st ?_ | exact fm | refine s1 ?_)
 all_goals (first | (simp_all [goodVal]; done) | (simp_all [goodVal] <;> first | omega | (intros; omega)))
theorem isStored_ok (s : ByteArray) (g : Bool) (hs : s.size ≤ maxLen) : ACall p_ 206 [str s, bl g] (fun r _ => r = bl (stored s g)) := by
 refine fg H206 fun E hE hH => ?_; simp only [go_sem, hE, hH, C206]
 repeat' (first | ((with_reducible apply ga) <;> refine gs fun h => ?_) | ((with_reducible apply an); · omega) | ((first | refine ok_view ?_ | refine cvA (GoodVal_ok _ hs) ?_); refine st ?_) | refine jn _ ?_ ?_ | (with_reducible first | apply both | apply an | exact ti) | exact fe | refine st ?_ | exact fm | refine s1 ?_)
 all_goals simp_all [stored]
theorem l3Write_ok (k s : ByteArray) (g : Bool) (hk : k.size ≤ maxLen) (hs : s.size ≤ maxLen) : ACall p_ 226 [str k, str s, bl g] (fun r _ => r = bl (goodKey k && stored s g)) := by
 refine fg H226 fun E hE hH => ?_; simp only [go_sem, hE, hH, C226]
 repeat' (first | ((with_reducible apply ga) <;> refine gs fun h => ?_) | ((with_reducible apply an); · omega) | ((first | refine ok_view ?_ | refine cvA (l3Key_ok _ hk) ?_ | refine cvA (l3Val_ok _ hs) ?_); refine st ?_) | refine jn _ ?_ ?_ | (with_reducible first | apply both | apply an | exact ti) | exact fe | refine st ?_ | exact fm | refine s1 ?_)
 all_goals simp_all [stored]
def goodWrites (l : List Write) : Bool := decide ((l.length : Int) ≤ 24) && allN (fun i => (goodKey (nth l i).Key && stored (nth l i).Val (nth l i).Gone) && (decide (i = 0) || strLt (nth l (i - 1)).Key (nth l i).Key)) l.length
theorem goodWrites_eq (l : List Write) : goodWrites l = (decide ((l.length : Int) ≤ 24) && risB (l.map (·.Key)) && !l.any fun w => !stored w.Val w.Gone) := by
 have h1 : (!l.any fun w => !stored w.Val w.Gone) = allN (fun i => stored (nth l i).Val (nth l i).Gone) l.length := by
  rw [allN_all (p := fun w : Write => stored w.Val w.Gone)]
  simp [List.any_eq_not_all_not]
 have h2 : risB (l.map (·.Key)) = allN (fun i => goodKey (nth l i).Key && (decide (i = 0) || strLt (nth l (i - 1)).Key (nth l i).Key)) l.length := by
  unfold risB
  rw [List.length_map]
  refine allN_congr fun i hi => ?_
  rw [nth_map hi, nth_map (by omega)]
 rw [h1, h2, goodWrites, Bool.and_assoc]
 congr 1
 rw [Bool.eq_iff_iff, Bool.and_eq_true, allN_iff, allN_iff, allN_iff]
 constructor
 ·intro h
  exact ⟨fun i hi => by have := h i hi; simp only [Bool.and_eq_true] at this ⊢; exact ⟨this.1.1, this.2⟩, fun i hi => by have := h i hi; simp only [Bool.and_eq_true] at this ⊢; exact this.1.2⟩
 ·rintro ⟨ha, hb⟩ i hi
  have ha := ha i hi; have hb := hb i hi
  simp only [Bool.and_eq_true] at ha hb ⊢
  exact ⟨⟨ha.1, hb⟩, ha.2⟩
theorem writeKeys_ok (l : List Write) (hl : l.length ≤ 2 ^ 20) : ACall p_ 222 [.sl false 3 (l.map (Write.row false))] (fun r _ => r = .sl true 1 (strs (l.map (·.Key)))) := by
 refine fg H222 fun E hE hH => ?_; simp only [go_sem, hE, hH, C222]
 refine loopNe l.length (fun j (x : List ByteArray) => ⟨[(3, .ref 4000000 0 x.length), (7, .sl false 3 (l.map (Write.row false))), (8, i64 l.length), (9, i64 j)], [(4000000, ⟨1, strs x⟩)]⟩) (fun j x => x = (l.take j).map (·.Key)) [] (by simp) (by simp) ?_
 intro j x hj hx
 have hlen : x.length = j := by rw [hx]; simp; omega
 try simp only [go_sem, hE, hH, C222_l1]
 first | refine gd_t (fun h => ?_) (fun h => ?_) | refine gd_f (fun h => ?_) (fun h => ?_)
 ·have hb := h
  simp only [nf] at h
  try refine sb ?_; try exact ⟨⟩
  refine ⟨by omega, by omega, by omega, ?_⟩
  rw [take_nth h, List.map_append, ← hx]
  simp [hlen]; omega
 ·have hb := h
  simp only [nf] at h
  try refine sb ?_; try exact ⟨⟩
  rw [hx, show j = l.length by omega, List.take_length]
theorem GoodWrites_1_ok (w : Write) (hw : w.wf) : ACall p_ 223 [.agg (Write.row false w)] (fun r _ => r = bl (!stored w.Val w.Gone)) := by
 obtain ⟨w1, w2⟩ := hw
 refine fg H223 fun E hE hH => ?_; simp only [go_sem, hE, hH, C223]
 repeat' (first | ((with_reducible apply ga) <;> refine gs fun h => ?_) | ((with_reducible apply an); · omega) | ((first | refine ok_view ?_ | refine cvA (isStored_ok _ _ w2) ?_); refine st ?_) | refine jn _ ?_ ?_ | (with_reducible first | apply both | apply an | exact ti) | exact fe | refine st ?_ | exact fm | refine s1 ?_)
theorem GoodWrites_ok (l : List Write) (hl : wfL Write.wf l) : ACall p_ 188 [.sl false 3 (l.map (Write.row false))] (fun r _ => r = bl (goodWrites l)) := by
 obtain ⟨hl, hx⟩ := hl
 have hmx := mx_eq
 have hr : limL (fun s : ByteArray => s.size ≤ maxLen) (l.map (·.Key)) := ⟨by simpa using hl, fun s hs => by obtain ⟨w, hw, rfl⟩ := List.mem_map.1 hs; exact (hx w hw).1⟩
 rw [goodWrites_eq]
 refine fg H188 fun E hE hH => ?_; simp only [go_sem, hE, hH, C188]
 repeat' (first | ((with_reducible apply ga) <;> refine gs fun h => ?_) | ((with_reducible apply an); · omega) | ((first | refine ok_view ?_ | refine cvA (writeKeys_ok l (by omega)) ?_ | refine cvA (areRising_ok _ hr) ?_ | refine cvA (ContainsFunc_Write_ok l _ [] (fun w => !stored w.Val w.Gone) (by kernel_rfl) rfl hl (fun w hw => GoodWrites_1_ok w (hx w hw))) ?_); refine st ?_) | refine jn _ ?_ ?_ | (with_reducible first | apply both | apply an | exact ti) | exact fe | refine st ?_ | exact fm | refine s1 ?_)
 all_goals (first | (simp_all []; done) | (simp_all [] <;> first | omega | (intros; omega)))
theorem l3Writes_ok (l : List Write) (hl : wfL Write.wf l) : ACall p_ 195 [.sl false 3 (l.map (Write.row false))] (fun r _ => r = bl (goodWrites l)) := by
 obtain ⟨hl, hx⟩ := hl
 have hmx := mx_eq
 refine fg H195 fun E hE hH => ?_; simp only [go_sem, hE, hH, C195]
 refine loopN l.length (fun j (_ : Unit) => ⟨[(0, .sl false 3 (l.map (Write.row false))), (5, .sl false 3 (l.map (Write.row false))), (6, i64 l.length), (7, i64 j)], []⟩) (fun j _ => allN (fun i => (goodKey (nth l i).Key && stored (nth l i).Val (nth l i).Gone) && (decide (i = 0) || strLt (nth l (i - 1)).Key (nth l i).Key)) j = true) () rfl ?_
 intro j _ hj hI
 try simp only [go_sem, hE, hH, C195_l1]
 first | refine gd_t (fun h => ?_) (fun h => ?_) | refine gd_f (fun h => ?_) (fun h => ?_)
 ·have hb := h
  simp only [nf] at h
  have hlt := h; clear h
  obtain ⟨w1, w2⟩ := hx _ (nth_mem hlt)
  try refine sb ?_; try exact ⟨⟩
  repeat' (first | ((with_reducible apply ga) <;> refine gs fun h => ?_) | ((with_reducible apply an); · omega) | ((first | refine ok_view ?_ | refine cvA (l3Write_ok _ _ _ w1 w2) ?_); refine st ?_) | refine jn _ ?_ ?_ | (with_reducible first | apply both | apply an | exact ti) | exact fe | refine st ?_ | exact fm | refine s1 ?_)
  ·rw [goodWrites, allN_no hlt (by simp_all)]; simp
  ·rw [goodWrites, allN_no hlt (by simp_all <;> omega)]; simp
  ·first | exact ⟨(), rfl, allN_step hI (by simp_all <;> omega)⟩ | exact ⟨by omega, (), rfl, allN_step hI (by simp_all <;> omega)⟩ | exact ⟨by omega, by omega, (), rfl, allN_step hI (by simp_all <;> omega)⟩
  ·first | exact ⟨(), rfl, allN_step hI (by simp_all <;> omega)⟩ | exact ⟨by omega, (), rfl, allN_step hI (by simp_all <;> omega)⟩ | exact ⟨by omega, by omega, (), rfl, allN_step hI (by simp_all <;> omega)⟩
 ·try simp (disch := omega) only [go_sem, hE, hH, h]
  simp only [nf] at h
  rw [show j = l.length by omega] at hI
  rw [goodWrites, hI]
  simp
open Go.Proofs.Wb renaming H155 → z0_, C155 → z1_, within_ok → z2_ in
theorem isTxn_ok (n : Int) : ACall p_ 155 [i64 n] (fun r _ => r = bl (rng n 1 60)) := Q16_
open Go.Proofs.Wb renaming H151 → z0_, C151 → z1_, within_ok → z2_ in
theorem isTrue_ok (n : Int) : ACall p_ 151 [i64 n] (fun r _ => r = bl (rng n 0 100000)) := Q16_
def fwF (l : List Write) (k : ByteArray) : Bool := l.any fun w => decide (w.Key = k)
def overlapW (ws : List Write) (reads : List ByteArray) (others : List Write) : Bool := ws.any fun w => fwF others w.Key || reads.any fun x => decide (w.Key = x)
theorem l1Least_ok (a b : Int) : ACall p_ 168 [i64 a, i64 b] (fun r _ => r = i64 (if a < b then a else b)) := by
 refine fg H168 fun E hE hH => ?_; simp only [go_sem, hE, hH, C168]
 repeat' (first | ((with_reducible apply ga) <;> refine gs fun h => ?_) | ((with_reducible apply an); · omega) | refine jn _ ?_ ?_ | (with_reducible first | apply both | apply an | exact ti) | exact fe | refine st ?_ | exact fm | refine s1 ?_)
 all_goals (first | rw [if_pos (by omega)] | rw [if_neg (by omega)])
theorem isMany_ok (n : Int) : ACall p_ 80 [i64 n] (fun r _ => r = bl (decide (n = 3) || decide (n = 5))) := by
 refine fg H80 fun E hE hH => ?_; simp only [go_sem, hE, hH, C80]
 repeat' (first | ((with_reducible apply ga) <;> refine gs fun h => ?_) | ((with_reducible apply an); · omega) | refine jn _ ?_ ?_ | (with_reducible first | apply both | apply an | exact ti) | exact fe | refine st ?_ | exact fm | refine s1 ?_)
 all_goals (first | (simp_all []; done) | (simp_all [] <;> first | omega | (intros; omega)))
def mostI (a b : Int) : Int := if a > b then a else b
theorem l1Most_ok (a b : Int) : ACall p_ 106 [i64 a, i64 b] (fun r _ => r = i64 (mostI a b)) := by
 refine fg H106 fun E hE hH => ?_; simp only [go_sem, hE, hH, C106]
 repeat' (first | ((with_reducible apply ga) <;> refine gs fun h => ?_) | ((with_reducible apply an); · omega) | refine jn _ ?_ ?_ | (with_reducible first | apply both | apply an | exact ti) | exact fe | refine st ?_ | exact fm | refine s1 ?_)
 all_goals (simp only [mostI]; first | rw [if_pos (by omega)] | rw [if_neg (by omega)])
open Go.Proofs.Wb renaming H187 → z0_, C187 → z1_, within_ok → z2_ in
theorem isTime_ok (n : Int) : ACall p_ 187 [i64 n] (fun r _ => r = bl (rng n 1 100000)) := Q16_
open Go.Proofs.Wb renaming H193 → z0_, C193 → z1_, l1In_ok → z2_ in
theorem l3Time_ok (n : Int) : ACall p_ 193 [i64 n] (fun r _ => r = bl (rng n 1 100000)) := Q16_
theorem l4Keys_ok (l : List ByteArray) (hl : limL (fun s => s.size ≤ maxLen) l) : ACall p_ 194 [.sl false 1 (strs l)] (fun r _ => r = bl (risB l && decide ((l.length : Int) ≤ 8))) := by
 obtain ⟨hl, hx⟩ := hl
 have hmx := mx_eq
 refine fg H194 fun E hE hH => ?_; simp only [go_sem, hE, hH, C194]
 refine loopN l.length (fun j (_ : Unit) => ⟨[(0, .sl false 1 (strs l)), (5, .sl false 1 (strs l)), (6, i64 l.length), (7, i64 j)], []⟩) (fun j _ => allN (fun i => goodKey (nth l i) && (decide (i = 0) || strLt (nth l (i - 1)) (nth l i))) j = true) () rfl ?_
 intro j _ hj hI
 try simp only [go_sem, hE, hH, C194_l1]
 first | refine gd_t (fun h => ?_) (fun h => ?_) | refine gd_f (fun h => ?_) (fun h => ?_)
 ·have hb := h
  simp only [nf] at h
  have hlt := h; clear h
  have hs := hx _ (nth_mem hlt)
  try refine sb ?_; try exact ⟨⟩
  repeat' (first | ((with_reducible apply ga) <;> refine gs fun h => ?_) | ((with_reducible apply an); · omega) | ((first | refine ok_view ?_ | refine cvA (l3Key_ok _ (by assumption)) ?_); refine st ?_) | refine jn _ ?_ ?_ | (with_reducible first | apply both | apply an | exact ti) | exact fe | refine st ?_ | exact fm | refine s1 ?_)
  ·rw [risB, allN_no hlt (by simp_all)]; rfl
  ·rw [risB, allN_no hlt (by simp_all <;> omega)]; rfl
  ·exact ⟨(), rfl, allN_step hI (by simp_all)⟩
  ·exact ⟨(), rfl, allN_step hI (by simp_all <;> omega)⟩
 ·try simp (disch := omega) only [go_sem, hE, hH, h]
  simp only [nf] at h
  rw [show j = l.length by omega] at hI
  rw [risB, hI]
  simp
def bareR (r : Rec) : Bool := decide (r.Lead = 0) && decide (r.Reads.length = 0) && decide (r.Writes.length = 0)
def recOk (r : Rec) : Bool :=
 if r.Kind = 1 then rng r.Txn 1 60 && rng r.Time 1 100000 && rng r.Lead 0 3 && (risB r.Reads && decide ((r.Reads.length : Int) ≤ 8)) && decide ((r.Writes.length : Int) ≤ 8) && goodWrites r.Writes && decide (0 < r.Reads.length + r.Writes.length) && !r.Yes
 else if r.Kind = 2 ∨ r.Kind = 3 then bareR r && rng r.Txn 1 60 && ((r.Yes && rng r.Time 1 100000) || (!r.Yes && decide (r.Time = 0)))
 else if r.Kind = 4 then bareR r && decide (r.Txn = 0) && rng r.Time 1 100000 && !r.Yes
 else false
theorem GoodRec_ok (r : Rec) (hw : r.wf) : ACall p_ 158 [.agg (Rec.row false r)] (fun x _ => x = bl (recOk r)) := by
 have hmx := mx_eq
 obtain ⟨w1, w2, w3, w4, w5, w6⟩ := hw
 refine fg H158 fun E hE hH => ?_; simp only [go_sem, hE, hH, C158]
 repeat' (first | ((with_reducible apply ga) <;> refine gs fun h => ?_) | ((with_reducible apply an); · omega) | ((first | refine ok_view ?_ | refine cvA (isTxn_ok _) ?_ | refine cvA (isTime_ok _) ?_ | refine cvA (within_ok _ _ _) ?_ | refine cvA (areRising_ok _ w5) ?_ | refine cvA (GoodWrites_ok _ w6) ?_); refine st ?_) | (with_reducible first | apply jn | apply both | apply an | exact ti) | exact fj | refine st ?_ | exact fm | refine s1 ?_)
 all_goals (first | (simp_all [recOk, bareR]; done) | (simp_all [recOk, bareR] <;> first | omega | (intros; omega)))
def recW (r : Rec) : Prop := r.wf ∧ r.Reads.length ≤ 2 ^ 60 ∧ r.Writes.length ≤ 2 ^ 60
theorem l4Good_ok (r : Rec) (hw : recW r) : ACall p_ 167 [.agg (Rec.row false r)] (fun x _ => x = bl (recOk r)) := by
 have hmx := mx_eq
 obtain ⟨⟨w1, w2, w3, w4, w5, w6⟩, z1, z2⟩ := hw
 have hrl : rng (r.Writes.length : Int) 0 8 = decide ((r.Writes.length : Int) ≤ 8) := by simp [rng]
 by_cases hb : r.Reads.length + r.Writes.length = 0
 ·have hR : r.Reads = [] := List.length_eq_zero_iff.1 (by omega)
  have hW : r.Writes = [] := List.length_eq_zero_iff.1 (by omega)
  refine fg H167 fun E hE hH => ?_; simp only [go_sem, hE, hH, C167]
  repeat' (first | ((with_reducible apply ga) <;> refine gs fun h => ?_) | ((with_reducible apply an); · omega) | ((first | refine ok_view ?_ | refine cvA (l1In_ok _ _ _) ?_ | refine cvA (l3Time_ok _) ?_ | refine cvA (l4Keys_ok _ w5) ?_ | refine cvA (l3Writes_ok _ w6) ?_); refine st ?_) | (with_reducible first | apply jn | apply both | apply an | exact ti) | exact fj | refine st ?_ | exact fm | refine s1 ?_)
  all_goals (first | (simp_all [recOk, bareR]; done) | (simp_all [recOk, bareR]; omega))
 ·have hn : bareR r = false := by
   have : (decide (r.Reads.length = 0) && decide (r.Writes.length = 0)) = false := by
    rw [Bool.and_eq_false_iff, decide_eq_false_iff_not, decide_eq_false_iff_not]; omega
   rw [bareR, Bool.and_assoc, this, Bool.and_false]
  have hp : 0 < r.Reads.length + r.Writes.length := by omega
  have hp2 : (0 : Int) < (r.Reads.length : Int) + r.Writes.length := by omega
  refine fg H167 fun E hE hH => ?_; simp only [go_sem, hE, hH, C167]
  repeat' (first | ((with_reducible apply ga) <;> refine gs fun h => ?_) | ((with_reducible apply an); · omega) | ((first | refine ok_view ?_ | refine cvA (l1In_ok _ _ _) ?_ | refine cvA (l3Time_ok _) ?_ | refine cvA (l4Keys_ok _ w5) ?_ | refine cvA (l3Writes_ok _ w6) ?_); refine st ?_) | (with_reducible first | apply jn | apply both | apply an | exact ti) | exact fj | refine st ?_ | exact fm | refine s1 ?_)
  all_goals (clear hb)
  all_goals (first | omega | (simp [recOk, *]; done) | (simp_all [recOk]; done) | (simp_all [recOk] <;> omega) | trace_state)
theorem sGoodRec_ok (r : Rec) (hw : recW r) : ACall p_ 135 [.agg (Rec.row false r)] (fun x _ => x = bl (recOk r)) := by
 refine fg H135 fun E hE hH => ?_; simp only [go_sem, hE, hH, C135]
 repeat' (first | ((with_reducible apply ga) <;> refine gs fun h => ?_) | ((with_reducible apply an); · omega) | ((first | refine ok_view ?_ | refine cvA (l4Good_ok r hw) ?_); refine st ?_) | refine jn _ ?_ ?_ | (with_reducible first | apply both | apply an | exact ti) | exact fe | refine st ?_ | exact fm | refine s1 ?_)
def entOk (t : Int) (l : List Entry) (i : Nat) : Bool := rng (nth l i).Term 1 t && recOk (nth l i).Rec && (decide (i = 0) || !decide ((nth l i).Term < (nth l (i - 1)).Term))
def logOk (t : Int) (l : List Entry) : Bool := allN (entOk t l) l.length && decide ((l.length : Int) ≤ 60)
theorem logOk_no {t : Int} {l : List Entry} {j : Nat} (hlt : j < l.length) (h : entOk t l j = false) : logOk t l = false := by
 rw [logOk, allN_no hlt h]; rfl
def lastE (l : List Entry) (j : Nat) : Int := if j = 0 then 1 else (nth l (j - 1)).Term
theorem lastE_eq {t : Int} {l : List Entry} {j : Nat} (h : 1 ≤ lastE l j) : (rng (nth l j).Term (lastE l j) t && recOk (nth l j).Rec) = entOk t l j := by
 unfold lastE at h ⊢
 unfold entOk
 by_cases hj : j = 0
 ·simp [hj]
 ·simp only [hj, if_false] at h ⊢
  rw [Bool.eq_iff_iff]
  simp only [Bool.and_eq_true, rng_iff, Bool.or_eq_true, decide_eq_true_eq, Bool.not_eq_true', decide_eq_false_iff_not, hj, false_or]
  constructor
  ·rintro ⟨⟨h1, h2⟩, h3⟩; exact ⟨⟨⟨by omega, h2⟩, h3⟩, by omega⟩
  ·rintro ⟨⟨⟨h1, h2⟩, h3⟩, h4⟩; exact ⟨⟨by omega, h2⟩, h3⟩
theorem isLog_ok (l : List Entry) (t : Int) (hl : l.length ≤ maxLen) (hx : ∀ e ∈ l, recW e.Rec) : ACall p_ 148 [.sl false 8 (l.map (Entry.row false)), i64 t] (fun r _ => r = bl (logOk t l)) := by
 have hmx := mx_eq
 refine fg H148 fun E hE hH => ?_; simp only [go_sem, hE, hH, C148]
 refine loopN l.length (fun j (_ : Unit) => ⟨[(0, .sl false 8 (l.map (Entry.row false))), (1, i64 t), (7, .sl false 8 (l.map (Entry.row false))), (8, i64 l.length), (9, i64 j)], []⟩) (fun j _ => allN (entOk t l) j = true) () rfl ?_
 intro j _ hj hI
 try simp only [go_sem, hE, hH, C148_l1]
 first | refine gd_t (fun h => ?_) (fun h => ?_) | refine gd_f (fun h => ?_) (fun h => ?_)
 ·have hb := h
  simp only [nf] at h
  have hlt := h; clear h
  have hs := (hx _ (nth_mem hlt)).1
  try refine sb ?_; try exact ⟨⟩
  repeat' (first | ((with_reducible apply ga) <;> refine gs fun h => ?_) | ((with_reducible apply an); · omega) | ((first | refine ok_view ?_ | refine cvA (within_ok _ _ _) ?_ | refine cvA (GoodRec_ok (nth l j).Rec hs) ?_); refine st ?_) | (with_reducible first | apply jn | apply both | apply an | exact ti) | exact fj | refine st ?_ | exact fm | refine s1 ?_)
  ·rw [logOk_no hlt (by simp [entOk, h])]
  ·rw [logOk_no hlt (by simp [entOk, h])]
  ·rw [logOk_no hlt (by first | (simp_all [entOk]; done) | (simp_all [entOk]; omega))]
  ·exact ⟨(), rfl, allN_step hI (by simp_all [entOk])⟩
  ·exact ⟨(), rfl, allN_step hI (by first | (simp_all [entOk]; done) | (simp_all [entOk]; omega))⟩
 ·try simp (disch := omega) only [go_sem, hE, hH, h]
  simp only [nf] at h
  rw [show j = l.length by omega] at hI
  rw [logOk, hI]
  simp
def repOk (t : Int) (r : Replica) : Bool := logOk t r.Log && rng r.Sure 0 r.Log.length
def repW (r : Replica) : Prop := r.Log.length ≤ maxLen ∧ ∀ e ∈ r.Log, recW e.Rec
theorem l9GoodRep_ok (x : Replica) (t : Int) (hw : repW x) : ACall p_ 166 [.agg (Replica.row false x), i64 t] (fun r _ => r = bl (repOk t x)) := by
 obtain ⟨hl, hx⟩ := hw
 have hmx := mx_eq
 refine fg H166 fun E hE hH => ?_; simp only [go_sem, hE, hH, C166]
 repeat' (first | ((with_reducible apply ga) <;> refine gs fun h => ?_) | ((with_reducible apply an); · omega) | ((first | refine ok_view ?_ | refine cvA (l1In_ok _ _ _) ?_); refine st ?_) | (with_reducible first | apply jn | apply both | apply an | exact ti) | exact fj | refine st ?_ | exact fm | refine s1 ?_)
 ·rw [repOk, logOk, decide_eq_false (by omega)]; simp
 ·rw [repOk, h]; simp
 refine loopN x.Log.length (fun j (v : Int) => ⟨[(1, i64 t), (2, .ptr 3000000 0 0), (5, i64 v), (6, i64 j)], [(3000000, ⟨3, [Replica.row false x]⟩)]⟩) (fun j v => allN (entOk t x.Log) j = true ∧ v = lastE x.Log j ∧ 1 ≤ v) 1 ⟨rfl, rfl, by omega⟩ ?_
 rintro j v hj ⟨hI, rfl, h0⟩
 have he := lastE_eq (t := t) h0
 try simp only [go_sem, hE, hH, C166_l1]
 first | refine gd_t (fun h1 => ?_) (fun h1 => ?_) | refine gd_f (fun h1 => ?_) (fun h1 => ?_)
 ·have hb1 := h1
  simp only [nf] at h1
  have hlt := h1; clear h1
  have hs := hx _ (nth_mem hlt)
  try simp (disch := omega) only [go_sem, hE, hH, hb1]
  repeat' (first | ((with_reducible apply ga) <;> refine gs fun h => ?_) | ((with_reducible apply an); · omega) | ((first | refine ok_view ?_ | refine cvA (l1In_ok _ _ _) ?_ | refine cvA (sGoodRec_ok (nth x.Log j).Rec hs) ?_); refine st ?_) | (with_reducible first | apply jn | apply both | apply an | exact ti) | exact fj | refine st ?_ | exact fm | refine s1 ?_)
  ·rw [repOk, logOk_no hlt (by rw [← he, h]; simp)]; rfl
  ·rw [repOk, logOk_no hlt (by rw [← he, h]; simp)]; rfl
  ·rename_i hD
   have hD' := rng_iff.1 hD
   exact ⟨(nth x.Log j).Term, rfl, allN_step hI (by rw [← he, hD, h]; rfl), by simp [lastE], by omega⟩
 ·try simp (disch := omega) only [go_sem, hE, hH, h1]
  simp only [nf] at h1
  rw [show j = x.Log.length by omega] at hI
  rw [repOk, logOk, hI]
  have : decide ((x.Log.length : Int) ≤ 60) = true := decide_eq_true (by omega)
  simp_all
def grpW (g : Group) : Prop := g.Reps.length ≤ maxLen ∧ ∀ r ∈ g.Reps, repW r
def leadOk (g : Group) : Bool := decide (g.Lead = -1) || (rng g.Lead 0 ((g.Reps.length : Int) - 1) && (nth g.Reps g.Lead.toNat).Up)
def grpOk (g : Group) : Bool := (decide ((g.Reps.length : Int) = 3) || decide ((g.Reps.length : Int) = 5)) && rng g.Term 0 200 && leadOk g && g.Reps.all (repOk g.Term)
theorem isRep_ok (g : Group) (r : Int) (hl : g.Reps.length ≤ maxLen) : ACall p_ 116 [.agg (Group.row false g), i64 r] (fun x _ => x = bl (rng r 0 ((g.Reps.length : Int) - 1))) := by
 have hmx := mx_eq
 refine fg H116 fun E hE hH => ?_; simp only [go_sem, hE, hH, C116]
 repeat' (first | ((with_reducible apply ga) <;> refine gs fun h => ?_) | ((with_reducible apply an); · omega) | ((first | refine ok_view ?_ | refine cvA (within_ok _ _ _) ?_); refine st ?_) | refine jn _ ?_ ?_ | (with_reducible first | apply both | apply an | exact ti) | exact fe | refine st ?_ | exact fm | refine s1 ?_)
theorem GoodGroup_1_ok (x : Replica) (g : Group) (hw : repW x) : ACall p_ 147 ([.agg (Replica.row false x)] ++ [.bx false (Group.row false g)]) (fun r _ => r = bl (!repOk g.Term x)) := by
 obtain ⟨hl, hx⟩ := hw
 have hmx := mx_eq
 refine fg H147 fun E hE hH => ?_; simp only [go_sem, hE, hH, C147]
 repeat' (first | ((with_reducible apply ga) <;> refine gs fun h => ?_) | ((with_reducible apply an); · omega) | ((first | refine ok_view ?_ | refine cvA (isLog_ok x.Log g.Term hl hx) ?_ | refine cvA (within_ok _ _ _) ?_); refine st ?_) | (with_reducible first | apply jn | apply both | apply an | exact ti) | exact fj | refine st ?_ | exact fm | refine s1 ?_)
 all_goals (first | (simp_all [repOk]; done) | (simp_all [repOk] <;> first | omega | (intros; omega)))
theorem GoodGroup_ok (g : Group) (hw : grpW g) : ACall p_ 115 [.agg (Group.row false g)] (fun r _ => r = bl (grpOk g)) := by
 have hmx := mx_eq
 obtain ⟨hl, hx⟩ := hw
 have hany : (g.Reps.any fun x => !repOk g.Term x) = !(g.Reps.all (repOk g.Term)) := by
  rw [List.all_eq_not_any_not]; simp
 refine fg H115 fun E hE hH => ?_; simp only [go_sem, hE, hH, C115]
 repeat' (first | ((with_reducible apply ga) <;> refine gs fun h => ?_) | ((with_reducible apply an); · omega) | ((first | refine ok_view ?_ | refine cvA (isMany_ok _) ?_ | refine cvA (within_ok _ _ _) ?_ | refine cvA (isRep_ok g g.Lead hl) ?_); refine st ?_) | (with_reducible first | apply jn | apply both | apply an | exact ti) | exact fj | refine st ?_ | exact fm | refine s1 ?_)
 all_goals try simp only [rng_iff] at h
 all_goals try omega
 all_goals try (have hk : g.Lead.toNat < g.Reps.length := by omega)
 repeat' (first | ((with_reducible apply ga) <;> refine gs fun h => ?_) | ((with_reducible apply an); · omega) | ((first | refine ok_view ?_ | refine cvA (ContainsFunc_Replica_ok g.Reps _ [.bx false (Group.row false g)] (fun x => !repOk g.Term x) (by kernel_rfl) rfl hl (fun x hx' => GoodGroup_1_ok x g (hx x hx'))) ?_); refine st ?_) | (with_reducible first | apply jn | apply both | apply an | exact ti) | exact fj | refine st ?_ | exact fm | refine s1 ?_)
 all_goals try simp only [hany, Bool.not_not]
 all_goals clear hany
 all_goals (first | (simp_all [grpOk, leadOk]; done) | (simp_all [grpOk, leadOk, rng]; done) | (simp_all [grpOk, leadOk, rng] <;> omega) | trace_state)
theorem sGoodGroup_ok (g : Group) (hw : grpW g) : ACall p_ 133 [.agg (Group.row false g)] (fun r _ => r = bl (grpOk g)) := by
 have hmx := mx_eq
 obtain ⟨hl, hx⟩ := hw
 refine fg H133 fun E hE hH => ?_; simp only [go_sem, hE, hH, C133]
 repeat' (first | ((with_reducible apply ga) <;> refine gs fun h => ?_) | ((with_reducible apply an); · omega) | ((first | refine ok_view ?_ | refine cvA (l1In_ok _ _ _) ?_); refine st ?_) | (with_reducible first | apply jn | apply both | apply an | exact ti) | exact fj | refine st ?_ | exact fm | refine s1 ?_)
 ·simp [grpOk, *]
 ·simp [grpOk, *]
 ·have : leadOk g = false := by
   rw [rng_no] at h
   simp only [leadOk, rng, Bool.or_eq_false_iff, Bool.and_eq_false_iff, decide_eq_false_iff_not]
   omega
  simp [grpOk, this]
 ·refine loopN g.Reps.length (fun j (_ : Unit) => ⟨[(1, .ptr 2000000 0 0), (3, i64 j)], [(2000000, ⟨3, [Group.row false g]⟩)]⟩) (fun j _ => allN (fun i => repOk g.Term (nth g.Reps i)) j = true) () rfl ?_
  intro j _ hj hI
  try simp only [go_sem, hE, hH, C133_l1]
  first | refine gd_t (fun h1 => ?_) (fun h1 => ?_) | refine gd_f (fun h1 => ?_) (fun h1 => ?_)
  ·have hb1 := h1
   simp only [nf] at h1
   have hlt := h1; clear h1
   try simp (disch := omega) only [go_sem, hE, hH, hb1]
   repeat' (first | ((with_reducible apply ga) <;> refine gs fun h => ?_) | ((with_reducible apply an); · omega) | ((first | refine ok_view ?_ | refine cvA (l9GoodRep_ok (nth g.Reps j) g.Term (hx _ (nth_mem hlt))) ?_); refine st ?_) | (with_reducible first | apply jn | apply both | apply an | exact ti) | exact fj | refine st ?_ | exact fm | refine s1 ?_)
   ·have : g.Reps.all (repOk g.Term) = false := by rw [← allN_all]; exact allN_no hlt h
    simp [grpOk, this]
   ·first | exact ⟨(), rfl, allN_step hI (by simp [h])⟩ | exact ⟨by omega, (), rfl, allN_step hI (by simp [h])⟩ | exact ⟨by omega, by omega, (), rfl, allN_step hI (by simp [h])⟩
  ·try simp (disch := omega) only [go_sem, hE, hH, h1]
   simp only [nf] at h1
   rw [show j = g.Reps.length by omega, allN_all] at hI
   repeat' (first | ((with_reducible apply ga) <;> refine gs fun h => ?_) | ((with_reducible apply an); · omega) | (with_reducible first | apply jn | apply both | apply an | exact ti) | exact fj | refine st ?_ | exact fm | refine s1 ?_)
   all_goals try simp only [rng_iff] at *
   all_goals try omega
   all_goals try (have hk : g.Lead.toNat < g.Reps.length := by omega)
   repeat' (first | ((with_reducible apply ga) <;> refine gs fun h => ?_) | ((with_reducible apply an); · omega) | (with_reducible first | apply jn | apply both | apply an | exact ti) | exact fj | refine st ?_ | exact fm | refine s1 ?_)
   all_goals (first | (have hL : g.Lead = -1 := by omega) | (have hL : g.Lead ≠ -1 := by omega))
   all_goals (first | (simp_all [grpOk, leadOk, rng]; done) | (simp_all [grpOk, leadOk, rng]; omega))
 ·simp [grpOk, *]
 ·have : leadOk g = false := by
   rw [rng_no] at h
   simp only [leadOk, rng, Bool.or_eq_false_iff, Bool.and_eq_false_iff, decide_eq_false_iff_not]
   omega
  simp [grpOk, this]
 ·refine loopN g.Reps.length (fun j (_ : Unit) => ⟨[(1, .ptr 2000000 0 0), (3, i64 j)], [(2000000, ⟨3, [Group.row false g]⟩)]⟩) (fun j _ => allN (fun i => repOk g.Term (nth g.Reps i)) j = true) () rfl ?_
  intro j _ hj hI
  try simp only [go_sem, hE, hH, C133_l1]
  first | refine gd_t (fun h1 => ?_) (fun h1 => ?_) | refine gd_f (fun h1 => ?_) (fun h1 => ?_)
  ·have hb1 := h1
   simp only [nf] at h1
   have hlt := h1; clear h1
   try simp (disch := omega) only [go_sem, hE, hH, hb1]
   repeat' (first | ((with_reducible apply ga) <;> refine gs fun h => ?_) | ((with_reducible apply an); · omega) | ((first | refine ok_view ?_ | refine cvA (l9GoodRep_ok (nth g.Reps j) g.Term (hx _ (nth_mem hlt))) ?_); refine st ?_) | (with_reducible first | apply jn | apply both | apply an | exact ti) | exact fj | refine st ?_ | exact fm | refine s1 ?_)
   ·have : g.Reps.all (repOk g.Term) = false := by rw [← allN_all]; exact allN_no hlt h
    simp [grpOk, this]
   ·first | exact ⟨(), rfl, allN_step hI (by simp [h])⟩ | exact ⟨by omega, (), rfl, allN_step hI (by simp [h])⟩ | exact ⟨by omega, by omega, (), rfl, allN_step hI (by simp [h])⟩
  ·try simp (disch := omega) only [go_sem, hE, hH, h1]
   simp only [nf] at h1
   rw [show j = g.Reps.length by omega, allN_all] at hI
   repeat' (first | ((with_reducible apply ga) <;> refine gs fun h => ?_) | ((with_reducible apply an); · omega) | (with_reducible first | apply jn | apply both | apply an | exact ti) | exact fj | refine st ?_ | exact fm | refine s1 ?_)
   all_goals try simp only [rng_iff] at *
   all_goals try omega
   all_goals try (have hk : g.Lead.toNat < g.Reps.length := by omega)
   repeat' (first | ((with_reducible apply ga) <;> refine gs fun h => ?_) | ((with_reducible apply an); · omega) | (with_reducible first | apply jn | apply both | apply an | exact ti) | exact fj | refine st ?_ | exact fm | refine s1 ?_)
   all_goals (first | (have hL : g.Lead = -1 := by omega) | (have hL : g.Lead ≠ -1 := by omega))
   all_goals (first | (simp_all [grpOk, leadOk, rng]; done) | (simp_all [grpOk, leadOk, rng]; omega))
theorem any_not {α : Type} {p : α → Bool} {l : List α} : (l.any fun x => !p x) = !(l.all p) := by
 rw [List.all_eq_not_any_not]; simp
theorem cspan_ok (c : Clock) (t : Int) (h0 : 0 ≤ t) (h1 : t ≤ 100000) (h2 : -5 ≤ c.Off) (h3 : c.Off ≤ 5) : ACall p_ 125 [.agg (Clock.row false c), i64 t] (fun r _ => r = .agg [i64 (t + c.Off - 5), i64 (t + c.Off + 5)]) := by
 refine fg H125 fun E hE hH => ?_; simp only [go_sem, hE, hH, T13_x]
 repeat' (first | ((with_reducible apply ga) <;> refine gs fun h => ?_) | ((with_reducible apply an); · omega) | (with_reducible first | apply jn | apply both | apply an | exact ti) | exact fj | refine st ?_ | exact fm | refine s1 ?_)
theorem l2At_ok (c : Clock) (t : Int) (h0 : 0 ≤ t) (h1 : t ≤ 100000) (h2 : -5 ≤ c.Off) (h3 : c.Off ≤ 5) : ACall p_ 108 [.agg (Clock.row false c), i64 t] (fun r _ => r = .agg [i64 (t + c.Off - 5), i64 (t + c.Off + 5)]) := by
 refine fg H108 fun E hE hH => ?_; simp only [go_sem, hE, hH, T13_x]
 repeat' (first | ((with_reducible apply ga) <;> refine gs fun h => ?_) | ((with_reducible apply an); · omega) | (with_reducible first | apply jn | apply both | apply an | exact ti) | exact fj | refine st ?_ | exact fm | refine s1 ?_)
def opOk (o : Op) : Bool := rng o.Kind 1 7 && goodKey o.Key && goodVal o.Val && ((decide (o.Kind = 2) || decide (o.Kind = 7)) || decide (o.Val = ⟨⟨[]⟩⟩)) && rng o.By (-9999) 9999 && ((decide (o.Kind = 4) || decide (o.Kind = 5)) || decide (o.By = 0))
def opsOk (l : List Op) : Bool := decide ((l.length : Int) ≤ 8) && l.all opOk
theorem goodVal_nil : goodVal ⟨⟨[]⟩⟩ = true := by decide
open Go.Proofs.Wb renaming H142 → z0_, C142 → z1_ in
theorem hasVal_ok (k : Int) : ACall p_ 142 [i64 k] (fun r _ => r = bl (decide (k = 2) || decide (k = 7))) := Q17_
open Go.Proofs.Wb renaming H143 → z0_, C143 → z1_ in
theorem hasBy_ok (k : Int) : ACall p_ 143 [i64 k] (fun r _ => r = bl (decide (k = 4) || decide (k = 5))) := Q17_
theorem isOp_ok (o : Op) (hw : o.wf) : ACall p_ 113 [.agg (Op.row false o)] (fun r _ => r = bl (opOk o)) := by
 have hmx := mx_eq
 refine fg H113 fun E hE hH => ?_; simp only [go_sem, hE, hH, C113]
 repeat' (first | ((with_reducible apply ga) <;> refine gs fun h => ?_) | ((with_reducible apply an); · omega) | ((first | refine ok_view ?_ | refine cvA (within_ok _ _ _) ?_ | refine cvA (GoodKey_ok _ hw.2.1) ?_ | refine cvA (GoodVal_ok _ hw.2.2.1) ?_ | refine cvA (hasVal_ok _) ?_ | refine cvA (hasBy_ok _) ?_); refine st ?_) | (with_reducible first | apply jn | apply both | apply an | exact ti) | exact fj | refine st ?_ | exact fm | refine s1 ?_)
 all_goals (first | (simp_all [opOk]; done) | (simp_all [opOk] <;> first | omega | (intros; omega)))
theorem l5Op_ok (o : Op) (hw : o.wf) : ACall p_ 65 [.agg (Op.row false o)] (fun r _ => r = bl (opOk o)) := by
 have hmx := mx_eq
 refine fg H65 fun E hE hH => ?_; simp only [go_sem, hE, hH, C65]
 repeat' (first | ((with_reducible apply ga) <;> refine gs fun h => ?_) | ((with_reducible apply an); · omega) | ((first | refine ok_view ?_ | refine cvA (l3Key_ok _ hw.2.1) ?_ | refine cvA (l3Val_ok _ hw.2.2.1) ?_ | refine cvA (l1In_ok _ _ _) ?_); refine st ?_) | (with_reducible first | apply jn | apply both | apply an | exact ti) | exact fj | refine st ?_ | exact fm | refine s1 ?_)
 all_goals (first | (simp_all [opOk, goodVal_nil, rng]; done) | (have hk : rng o.Kind 1 7 = false := (rng_no.2 (by omega)); rw [opOk, hk]; rfl) | trace_state)
theorem GoodOps_1_ok (o : Op) (hw : o.wf) : ACall p_ 112 ([.agg (Op.row false o)] ++ []) (fun r _ => r = bl (!opOk o)) := by
 refine fg H112 fun E hE hH => ?_; simp only [go_sem, hE, hH, C112]
 repeat' (first | ((with_reducible apply ga) <;> refine gs fun h => ?_) | ((with_reducible apply an); · omega) | ((first | refine ok_view ?_ | refine cvA (isOp_ok o hw) ?_); refine st ?_) | refine jn _ ?_ ?_ | (with_reducible first | apply both | apply an | exact ti) | exact fe | refine st ?_ | exact fm | refine s1 ?_)
theorem GoodOps_ok (l : List Op) (hl : wfL Op.wf l) : ACall p_ 77 [.sl false 4 (l.map (Op.row false))] (fun r _ => r = bl (opsOk l)) := by
 obtain ⟨hl, hx⟩ := hl
 have hmx := mx_eq
 have hn : (l.any fun o => !opOk o) = !(l.all opOk) := any_not
 refine fg H77 fun E hE hH => ?_; simp only [go_sem, hE, hH, C77]
 repeat' (first | ((with_reducible apply ga) <;> refine gs fun h => ?_) | ((with_reducible apply an); · omega) | ((first | refine ok_view ?_ | refine cvA (ContainsFunc_Op_ok l _ [] (fun o => !opOk o) (by kernel_rfl) rfl hl (fun o ho => GoodOps_1_ok o (hx o ho))) ?_); refine st ?_) | (with_reducible first | apply jn | apply both | apply an | exact ti) | exact fj | refine st ?_ | exact fm | refine s1 ?_)
 all_goals first | (simp_all [opsOk]; done) | (have hl8 : decide ((l.length : Int) ≤ 8) = false := decide_eq_false (by omega); rw [opsOk, hl8]; rfl)
theorem l5Good_ok (l : List Op) (hl : wfL Op.wf l) : ACall p_ 23 [.sl false 4 (l.map (Op.row false))] (fun r _ => r = bl (opsOk l)) := by
 obtain ⟨hl, hx⟩ := hl
 have hmx := mx_eq
 refine fg H23 fun E hE hH => ?_; simp only [go_sem, hE, hH, C23]
 repeat' (first | ((with_reducible apply ga) <;> refine gs fun h => ?_) | ((with_reducible apply an); · omega) | refine jn _ ?_ ?_ | (with_reducible first | apply both | apply an | exact ti) | exact fe | refine st ?_ | exact fm | refine s1 ?_)
 refine loopNe l.length (fun j (_ : Unit) => ⟨[(0, .sl false 4 (l.map (Op.row false))), (5, .sl false 4 (l.map (Op.row false))), (6, i64 l.length), (7, i64 j)], []⟩) (fun j _ => allN (fun i => opOk (nth l i)) j = true) () rfl rfl ?_
 intro j _ hj hI
 try simp only [go_sem, hE, hH, C23_l1]
 first | refine gd_t (fun h => ?_) (fun h => ?_) | refine gd_f (fun h => ?_) (fun h => ?_)
 ·have hb := h
  simp only [nf] at h
  have hlt := h; clear h
  have hw := hx _ (nth_mem hlt)
  try refine sb ?_; try exact ⟨⟩
  repeat' (first | ((with_reducible apply ga) <;> refine gs fun h => ?_) | ((with_reducible apply an); · omega) | ((first | refine ok_view ?_ | refine cvA (l5Op_ok _ hw) ?_); refine st ?_) | refine jn _ ?_ ?_ | (with_reducible first | apply both | apply an | exact ti) | exact fe | refine st ?_ | exact fm | refine s1 ?_)
  all_goals first | (have e : l.all opOk = false := (by rw [← allN_all]; exact allN_no hlt (by assumption)); rw [opsOk, e, Bool.and_false]; done) | (exact ⟨(), rfl, allN_step hI (by assumption)⟩)
 ·try simp (disch := omega) only [go_sem, hE, hH, h]
  simp only [nf] at h
  rw [show j = l.length by omega, allN_all] at hI
  repeat' (first | ((with_reducible apply ga) <;> refine gs fun h => ?_) | ((with_reducible apply an); · omega) | refine jn _ ?_ ?_ | (with_reducible first | apply both | apply an | exact ti) | exact fe | refine st ?_ | exact fm | refine s1 ?_)
  all_goals first | (rw [opsOk, hI]; simp_all; done) | (simp_all [opsOk]; done)
def keysOk (l : List ByteArray) : Bool := rng (l.length : Int) 1 8 && risB l
def cutsOk (l : List ByteArray) : Bool := decide ((l.length : Int) < 4) && risB l
def wProgOk (l : List Op) : Bool := decide (0 < (l.length : Int)) && opsOk l
open Go.Proofs.Wb renaming H33 → z0_, C33 → z1_, GoodOps_ok → z2_, wProgOk → z3_ in
theorem isProgram_ok (l : List Op) (hl : wfL Op.wf l) : ACall p_ 33 [.sl false 4 (l.map (Op.row false))] (fun r _ => r = bl (wProgOk l)) := Q18_
theorem areLookKeys_ok (l : List ByteArray) (hl : limL (fun s => s.size ≤ maxLen) l) : ACall p_ 36 [.sl false 1 (strs l)] (fun r _ => r = bl (keysOk l)) := by
 have hmx := mx_eq
 have hl' := hl.1
 refine fg H36 fun E hE hH => ?_; simp only [go_sem, hE, hH, C36]
 repeat' (first | ((with_reducible apply ga) <;> refine gs fun h => ?_) | ((with_reducible apply an); · omega) | ((first | refine ok_view ?_ | refine cvA (within_ok _ _ _) ?_ | refine cvA (areRising_ok l hl) ?_); refine st ?_) | (with_reducible first | apply jn | apply both | apply an | exact ti) | exact fj | refine st ?_ | exact fm | refine s1 ?_)
 all_goals (first | (simp_all [keysOk]; done) | (simp_all [keysOk] <;> first | omega | (intros; omega)))
open Go.Proofs.Wb renaming H30 → z0_, C30 → z1_, areRising_ok → z2_, cutsOk → z3_ in
theorem GoodCuts_ok (l : List ByteArray) (hl : limL (fun s => s.size ≤ maxLen) l) : ACall p_ 30 [.sl false 1 (strs l)] (fun r _ => r = bl (cutsOk l)) := Q18_
theorem l16Keys_ok (l : List ByteArray) (hl : limL (fun s => s.size ≤ maxLen) l) : ACall p_ 24 [.sl false 1 (strs l)] (fun r _ => r = bl (keysOk l)) := by
 obtain ⟨hl, hx⟩ := hl
 have hmx := mx_eq
 refine fg H24 fun E hE hH => ?_; simp only [go_sem, hE, hH, C24]
 refine loopN l.length (fun j (_ : Unit) => ⟨[(0, .sl false 1 (strs l)), (5, .sl false 1 (strs l)), (6, i64 l.length), (7, i64 j)], []⟩) (fun j _ => allN (fun i => goodKey (nth l i) && (decide (i = 0) || strLt (nth l (i - 1)) (nth l i))) j = true) () rfl ?_
 intro j _ hj hI
 try simp only [go_sem, hE, hH, C24_l1]
 first | refine gd_t (fun h => ?_) (fun h => ?_) | refine gd_f (fun h => ?_) (fun h => ?_)
 ·have hb := h
  simp only [nf] at h
  have hlt := h; clear h
  have hs := hx _ (nth_mem hlt)
  try refine sb ?_; try exact ⟨⟩
  repeat' (first | ((with_reducible apply ga) <;> refine gs fun h => ?_) | ((with_reducible apply an); · omega) | ((first | refine ok_view ?_ | refine cvA (l3Key_ok _ (by assumption)) ?_); refine st ?_) | refine jn _ ?_ ?_ | (with_reducible first | apply both | apply an | exact ti) | exact fe | refine st ?_ | exact fm | refine s1 ?_)
  ·rw [keysOk, risB, allN_no hlt (by simp_all), Bool.and_false]
  ·rw [keysOk, risB, allN_no hlt (by simp_all <;> omega), Bool.and_false]
  ·exact ⟨(), rfl, allN_step hI (by simp_all)⟩
  ·exact ⟨(), rfl, allN_step hI (by simp_all <;> omega)⟩
 ·try simp (disch := omega) only [go_sem, hE, hH, h]
  simp only [nf] at h
  rw [show j = l.length by omega] at hI
  repeat' (first | ((with_reducible apply ga) <;> refine gs fun h => ?_) | ((with_reducible apply an); · omega) | ((first | refine ok_view ?_ | refine cvA (l1In_ok _ _ _) ?_); refine st ?_) | refine jn _ ?_ ?_ | (with_reducible first | apply both | apply an | exact ti) | exact fe | refine st ?_ | exact fm | refine s1 ?_)
  all_goals (rw [keysOk, risB, hI]; simp)
theorem l15Cuts_ok (l : List ByteArray) (hl : limL (fun s => s.size ≤ maxLen) l) : ACall p_ 22 [.sl false 1 (strs l)] (fun r _ => r = bl (cutsOk l)) := by
 obtain ⟨hl, hx⟩ := hl
 have hmx := mx_eq
 refine fg H22 fun E hE hH => ?_; simp only [go_sem, hE, hH, C22]
 refine loopN l.length (fun j (_ : Unit) => ⟨[(0, .sl false 1 (strs l)), (5, .sl false 1 (strs l)), (6, i64 l.length), (7, i64 j)], []⟩) (fun j _ => allN (fun i => goodKey (nth l i) && (decide (i = 0) || strLt (nth l (i - 1)) (nth l i))) j = true) () rfl ?_
 intro j _ hj hI
 try simp only [go_sem, hE, hH, C22_l1]
 first | refine gd_t (fun h => ?_) (fun h => ?_) | refine gd_f (fun h => ?_) (fun h => ?_)
 ·have hb := h
  simp only [nf] at h
  have hlt := h; clear h
  have hs := hx _ (nth_mem hlt)
  try refine sb ?_; try exact ⟨⟩
  repeat' (first | ((with_reducible apply ga) <;> refine gs fun h => ?_) | ((with_reducible apply an); · omega) | ((first | refine ok_view ?_ | refine cvA (l3Key_ok _ (by assumption)) ?_); refine st ?_) | refine jn _ ?_ ?_ | (with_reducible first | apply both | apply an | exact ti) | exact fe | refine st ?_ | exact fm | refine s1 ?_)
  ·rw [cutsOk, risB, allN_no hlt (by simp_all), Bool.and_false]
  ·rw [cutsOk, risB, allN_no hlt (by simp_all <;> omega), Bool.and_false]
  ·exact ⟨(), rfl, allN_step hI (by simp_all)⟩
  ·exact ⟨(), rfl, allN_step hI (by simp_all <;> omega)⟩
 ·try simp (disch := omega) only [go_sem, hE, hH, h]
  simp only [nf] at h
  rw [show j = l.length by omega] at hI
  repeat' (first | ((with_reducible apply ga) <;> refine gs fun h => ?_) | ((with_reducible apply an); · omega) | refine jn _ ?_ ?_ | (with_reducible first | apply both | apply an | exact ti) | exact fe | refine st ?_ | exact fm | refine s1 ?_)
  all_goals (rw [cutsOk, risB, hI]; simp)
def ddL : List ByteArray → List ByteArray
 | [] => []
 | x :: t => if t.any fun y => decide (y = x) then ddL t else x :: ddL t
def dnN (l : List ByteArray) : Nat := (ddL l).length
def verOk (c : Cell) (i : Nat) : Bool := rng (nth c.Vers i).Time 1 100000 && stored (nth c.Vers i).Val (nth c.Vers i).Gone && (decide (i = 0) || decide ((nth c.Vers (i - 1)).Time < (nth c.Vers i).Time))
def celOk (c : Cell) : Bool := allN (verOk c) c.Vers.length && rng (c.Vers.length : Int) 1 16
def cellAtOk (l : List Cell) (i : Nat) : Bool := celOk (nth l i) && goodKey (nth l i).Key && (decide (i = 0) || strLt (nth l (i - 1)).Key (nth l i).Key)
def goodCells (l : List Cell) : Bool := allN (cellAtOk l) l.length && decide ((l.length : Int) ≤ 24)
structure cellI (n : Nat) (l : List Cell) : Prop where
 len : l.length ≤ 24 + n
 srt : srtX strLt Cell.Key l
 one : ∀ c ∈ l, 1 ≤ c.Vers.length ∧ c.Vers.length ≤ 16 + n
 wf : ∀ c ∈ l, c.Key.size ≤ 100 ∧ ∀ v ∈ c.Vers, v.Val.size ≤ 100
theorem stored_size {v : ByteArray} {g : Bool} (h : stored v g = true) : v.size ≤ 24 := by
 simp only [stored, goodVal, Bool.and_eq_true, rng_iff, decide_eq_true_eq] at h
 omega
theorem goodKey_size {k : ByteArray} (h : goodKey k = true) : k.size ≤ 12 := by
 simp only [goodKey, Bool.and_eq_true, rng_iff] at h
 omega
theorem goodCells_iff {l : List Cell} : goodCells l = true ↔ l.length ≤ 24 ∧ srtX strLt Cell.Key l ∧ ∀ c ∈ l, celOk c = true ∧ goodKey c.Key = true := by
 simp only [goodCells, Bool.and_eq_true, decide_eq_true_eq, allN_iff]
 constructor
 ·rintro ⟨h1, h2⟩
  refine ⟨by omega, ?_, ?_⟩
  ·have key : ∀ d i, i + d + 1 < l.length → strLt (nth l i).Key (nth l (i + d + 1)).Key = true := by
    intro d
    induction d with
    | zero =>
     intro i hi
     have := h1 (i + 1) (by omega)
     simp only [cellAtOk, Bool.and_eq_true, Bool.or_eq_true, decide_eq_true_eq] at this
     exact this.2.resolve_left (by omega)
    | succ d ih =>
     intro i hi
     have h3 := ih i (by omega)
     have := h1 (i + d + 2) (by omega)
     simp only [cellAtOk, Bool.and_eq_true, Bool.or_eq_true, decide_eq_true_eq] at this
     exact strLt_trans h3 (this.2.resolve_left (by omega))
   intro i j h3 h4
   have := key (j - i - 1) i (by omega)
   rwa [show i + (j - i - 1) + 1 = j by omega] at this
  ·intro c hc
   obtain ⟨i, hi, rfl⟩ := List.getElem_of_mem hc
   have := h1 i hi
   simp only [cellAtOk, Bool.and_eq_true, nth_lt hi] at this
   exact this.1
 ·rintro ⟨h1, h2, h3⟩
  refine ⟨fun i hi => ?_, by omega⟩
  simp only [cellAtOk, Bool.and_eq_true, Bool.or_eq_true, decide_eq_true_eq]
  refine ⟨h3 _ (nth_mem hi), ?_⟩
  by_cases e : i = 0
  ·exact .inl e
  ·exact .inr (h2 _ _ (by omega) hi)
theorem goodCells_I {l : List Cell} (h : goodCells l = true) : cellI 0 l := by
 obtain ⟨h1, h2, h3⟩ := goodCells_iff.1 h
 refine ⟨by omega, h2, fun c hc => ?_, fun c hc => ⟨?_, fun v hv => ?_⟩⟩
 ·have := (h3 c hc).1
  simp only [celOk, Bool.and_eq_true, rng_iff] at this
  omega
 ·have := goodKey_size (h3 c hc).2; omega
 ·obtain ⟨i, hi, rfl⟩ := List.getElem_of_mem hv
  have := (h3 c hc).1
  simp only [celOk, Bool.and_eq_true] at this
  have := allN_iff.1 this.1 i hi
  simp only [verOk, Bool.and_eq_true, nth_lt hi] at this
  have := stored_size this.1.2
  omega
def lastV (c : Cell) : Int := (nth c.Vers (c.Vers.length - 1)).Time
def cI (l : List Cell) (k : ByteArray) : Nat := fxI strLt Cell.Key l k
def cF (l : List Cell) (k : ByteArray) : Bool := fxF Cell.Key l k
def putV (t : Int) (l : List Cell) (x : Write) : Option (List Cell) :=
 if cF l x.Key then
  if t ≤ lastV (nth l (cI l x.Key)) then none
  else some (l.set (cI l x.Key) ⟨(nth l (cI l x.Key)).Key, (nth l (cI l x.Key)).Vers ++ [⟨t, x.Val, x.Gone⟩]⟩)
 else some (putAt l (cI l x.Key) ⟨x.Key, [⟨t, x.Val, x.Gone⟩]⟩)
def putVs (t : Int) (ws : List Write) (o : Option (List Cell)) : Option (List Cell) := ws.foldl (fun o x => o.bind fun l => putV t l x) o
def putC (t : Int) (l : List Cell) (ws : List Write) : Option (List Cell) := (putVs t ws (some l)).bind fun c => if goodCells c then some c else none
def hRec (h : Held) : Rec := ⟨1, h.Txn, h.Time, h.Lead, h.Reads, h.Writes, false⟩
def hOf (r : Rec) : Held := ⟨r.Txn, r.Time, r.Lead, r.Reads, r.Writes⟩
def clashH (h k : Held) : Bool := overlapW h.Writes k.Reads k.Writes || overlapW k.Writes h.Reads h.Writes
def hldOk (h : Held) : Prop := recOk (hRec h) = true
theorem hldOk_lists {h : Held} (k : hldOk h) : h.Reads.length ≤ 8 ∧ h.Writes.length ≤ 8 ∧ goodWrites h.Writes = true ∧ risB h.Reads = true ∧ 1 ≤ h.Txn ∧ h.Txn ≤ 60 ∧ 1 ≤ h.Time ∧ h.Time ≤ 100000 ∧ 0 ≤ h.Lead ∧ h.Lead ≤ 3 := by
 simp only [hldOk, recOk, hRec, if_true, Bool.and_eq_true, rng_iff, decide_eq_true_eq] at k
 obtain ⟨⟨⟨⟨⟨⟨⟨h1, h2⟩, h3⟩, h4, h5⟩, h6⟩, h7⟩, h8⟩, h9⟩ := k
 have h5 := of_decide_eq_true h5; have h6 := of_decide_eq_true h6
 exact ⟨by omega, by omega, h7, h4, by omega, by omega, by omega, by omega, by omega, by omega⟩
def hI (l : List Held) (t : Int) : Nat := fxI ltI Held.Txn l t
def hF (l : List Held) (t : Int) : Bool := fxF Held.Txn l t
def allWs (l : List Held) : List Write := l.flatMap (·.Writes)
def fullK (cs : List Cell) (k : ByteArray) : Bool := cF cs k && decide (16 ≤ (nth cs (cI cs k)).Vers.length)
def roomS (cs : List Cell) (ws : List Write) : Bool := !(ws.any fun w => fullK cs w.Key) && decide (dnN (cs.map (·.Key) ++ ws.map (·.Key)) ≤ 24)
def tI (l : List Told) (t : Int) : Nat := fxI ltI Told.Txn l t
def tF (l : List Told) (t : Int) : Bool := fxF Told.Txn l t
def fitsS (s : State) (reads : List ByteArray) (writes : List Write) : Bool := !(s.Held.any fun k => clashH ⟨0, 0, 0, reads, writes⟩ k) && (decide ((s.Held.length : Int) + 1 ≤ 12) && roomS s.Cells (allWs s.Held ++ writes))
def toldAdd (s : State) (r : Rec) : List Told := putAt s.Told (tI s.Told r.Txn) ⟨r.Txn, r.Yes, r.Time⟩
def heldCut (s : State) (r : Rec) : List Held := if hF s.Held r.Txn then cutAt s.Held (hI s.Held r.Txn) else s.Held
def decS (s : State) (r : Rec) : Option State :=
 if r.Yes then
  if !hF s.Held r.Txn || decide (r.Time < (nth s.Held (hI s.Held r.Txn)).Time) then none
  else (putC r.Time s.Cells (nth s.Held (hI s.Held r.Txn)).Writes).map fun c => ⟨max s.Floor r.Time, c, heldCut s r, toldAdd s r⟩
 else some ⟨s.Floor, s.Cells, heldCut s r, toldAdd s r⟩
def appS (s : State) (r : Rec) : Option State :=
 if r.Kind = 4 then if r.Time ≤ s.Floor then none else some ⟨r.Time, s.Cells, s.Held, s.Told⟩
 else if tF s.Told r.Txn then none
 else if r.Kind ≠ 1 then decS s r
 else if hF s.Held r.Txn || decide (r.Time ≤ s.Floor) || !fitsS s r.Reads r.Writes then none
 else some ⟨r.Time, s.Cells, putAt s.Held (hI s.Held r.Txn) (hOf r), s.Told⟩
structure stI (n : Nat) (s : State) : Prop where
 cells : goodCells s.Cells = true
 hlen : s.Held.length ≤ 12
 hsrt : srtX ltI Held.Txn s.Held
 hok : ∀ h ∈ s.Held, hldOk h
 tlen : s.Told.length ≤ n
 tsrt : srtX ltI Told.Txn s.Told
def st0 : State := ⟨0, [], [], []⟩
theorem l1OwnS_ok (l : List ByteArray) (hl : l.length ≤ 2 ^ 20) : ACall p_ 25 [.sl false 1 (strs l)] (fun r _ => r = .sl true 1 (strs l)) := by
 refine fg H25 fun E hE hH => ?_; simp only [go_sem, hE, hH, C25]
 repeat' (first | ((with_reducible apply ga) <;> refine gs fun h => ?_) | ((with_reducible apply an); · omega) | refine jn _ ?_ ?_ | (with_reducible first | apply both | apply an | exact ti) | exact fe | refine st ?_ | exact fm | refine s1 ?_)
 all_goals omega
set_option maxRecDepth 100000 in
theorem Len64_0_ok : ACall p_ 274 [.v (.int .u64 0)] (fun r _ => r = i64 0) := by
 have z1 : decide ((4294967296 : Int) ≤ 0) = false := rfl
 have z2 : decide ((65536 : Int) ≤ 0) = false := rfl
 have z3 : decide ((256 : Int) ≤ 0) = false := rfl
 have z4 : IntKind.u8.wrap 0 = 0 := rfl
 refine fg H274 fun E hE hH => ?_; simp only [go_sem, hE, hH, C274]
 all_goals (have y1_ := z1; have y2_ := z2; have y3_ := z3; have y4_ := z4; repeat' (first | ((with_reducible apply ga) <;> refine gs3_ fun h => ?_) | ((with_reducible apply an); · omega) | (with_reducible first | apply jn | apply both | apply an | exact ti) | exact fj3_ | refine st3_ ?_ | exact fm3_ | refine s13_ ?_))
 all_goals first | rfl | decide | (exfalso; omega)
theorem Len_0_ok : ACall p_ 239 [.v (.int .u64 0)] (fun r _ => r = i64 0) := by
 refine fg H239 fun E hE hH => ?_; simp only [go_sem, hE, hH, C239]
 repeat' (first | ((with_reducible apply ga) <;> refine gs fun h => ?_) | ((with_reducible apply an); · omega) | ((first | refine ok_view ?_ | refine cvA (Len64_0_ok) ?_); refine st ?_) | (with_reducible first | apply jn | apply both | apply an | exact ti) | exact fj | refine st ?_ | exact fm | refine s1 ?_)
 all_goals first | rfl
theorem insSort0_ok : ACall p_ 264 [.sl true 1 [], i64 0, i64 0] (fun r a => r = .tup [] ∧ a = [.sl true 1 [], i64 0, i64 0]) := by
 refine fg H264 fun E hE hH => ?_; simp only [go_sem, hE, hH, C264]
 try refine st ?_; try exact ⟨⟩
 refine loopN 0 (fun j (_ : Unit) => ⟨[(0, .ref 0 0 0), (1, i64 0), (2, i64 0), (6, i64 1)], [(0, ⟨1, []⟩)]⟩) (fun _ _ => True) () trivial ?_
 intro j _ hj _
 have z1 : decide ((1 : Int) < 0) = false := rfl
 try simp only [go_sem, hE, hH, z1, C264_l2]
 all_goals (have y1_ := z1; repeat' (first | ((with_reducible apply ga) <;> refine gs1_ fun h => ?_) | ((with_reducible apply an); · omega) | (with_reducible first | apply jn | apply both | apply an | exact ti) | exact fj1_ | refine st1_ ?_ | exact fm1_ | refine s11_ ?_))
 all_goals trace_state
theorem pdq0_ok : ACall p_ 238 [.sl true 1 [], i64 0, i64 0, i64 0] (fun r a => r = .tup [] ∧ a = [.sl true 1 [], i64 0, i64 0, i64 0]) := by
 refine fg H238 fun E hE hH => ?_; simp only [go_sem, hE, hH, C238]
 try refine st ?_; try exact ⟨⟩
 refine loopN 0 (fun j (_ : Unit) => ⟨[(0, .ref 0 0 0), (1, i64 0), (2, i64 0), (3, i64 0), (8, bl true), (9, bl true)], [(0, ⟨1, []⟩)]⟩) (fun _ _ => True) () trivial ?_
 intro j _ hj _
 have z1 : decide ((0 : Int) - 0 ≤ 12) = true := rfl
 have z2 : decide ((0 : Int) ≤ 12) = true := rfl
 have z3 : IntKind.i64.wrap 0 = 0 := rfl
 try simp only [go_sem, hE, hH, z1, z2, z3, Int.sub_self, C238_l1]
 repeat' (first | ((with_reducible first | refine gd_t ?_ ?_ | refine gd_f ?_ ?_) <;> (intro h; have hb := h; (try simp only [nf] at h); simp (disch := omega) only [go_sem, hE, hH, z1, z2, z3, Int.sub_self, hb]; (try clear hb))) | ((with_reducible refine And.intro ?_ ?_); · omega) | (refine ok_lend [true, false, false] ?_; simp (disch := omega) only [go_sem, hE, hH, z1, z2, z3, Int.sub_self]; refine cmA (insSort0_ok) ?_; simp (disch := omega) only [go_sem, hE, hH, z1, z2, z3, Int.sub_self]) | (with_reducible first | apply jn | apply both | refine And.intro ?_ ?_) | ((with_reducible apply fin_eq); (try (simp (disch := omega) only [go_sem, hE, hH, z1, z2, z3, Int.sub_self])); first | done | rfl) | (simp (disch := omega) only [go_sem, hE, hH, z1, z2, z3, Int.sub_self]) | ((first | apply noMLL_sE | apply pk_sE) <;> (simp only [go_sem, hE, hH, z1, z2, z3, Int.sub_self]; done)) | (simp only [go_sem, hE, hH, z1, z2, z3, Int.sub_self]) | fail)
 all_goals first | (exfalso; omega) | (exfalso; simp_all; done)
theorem sort0_ok : ACall p_ 210 [.sl true 1 []] (fun r a => r = .tup [] ∧ a = [.sl true 1 []]) := by
 refine fg H210 fun E hE hH => ?_; simp only [go_sem, hE, hH, C210]
 have z1 : IntKind.u64.wrap 0 = 0 := rfl
 all_goals (have y1_ := z1; repeat' (first | ((with_reducible apply ga) <;> refine gs1_ fun h => ?_) | ((with_reducible apply an); · omega) | (refine ok_lend [true, false, false, false] ?_; refine st1_ ?_; refine cmA (pdq0_ok) ?_; refine st1_ ?_) | ((first | refine ok_view ?_ | refine cvA (Len_0_ok) ?_); refine st1_ ?_) | (with_reducible first | apply jn | apply both | apply an | exact ti) | exact fj1_ | refine st1_ ?_ | exact fm1_ | refine s11_ ?_))
 all_goals trace_state
theorem ok_pack {P : Program} {E : Env} (ms : List (Nat × Nat × List (Nat × Nat))) {i : IN} {K : St → Prop} {s : St} (h : clsQ (InstrOk P E i K) (clsM ms (True, s))) : InstrOk P E i K s := instrOk_ent (clsM_ent (r := (True, s)) (fun _ => Ent.refl s) h.1).2 h.2
theorem lt_sE {d : Nat} {rows : List (List T)} {i : Nat} {r : List T} (h1 : ltLL d rows) (h2 : ltL d r) : ltLL d (rows.set i r) := fun x hx => (List.mem_or_eq_of_mem_set hx).elim (h1 x) fun e => e ▸ h2
theorem szL_bd2 {α : Type} {f : α → Nat} {C : Nat} : ∀ {l : List α}, (∀ x ∈ l, f x ≤ C) → szL f l ≤ (C + 1) * l.length
 | [], _ => by simp [szL]
 | x :: l, h => by
  have h1 := szL_bd2 (l := l) fun y hy => h y (List.mem_cons_of_mem _ hy)
  have h2 := h x List.mem_cons_self
  simp only [szL, List.map_cons, List.sum_cons, List.length_cons, Nat.mul_succ] at h1 ⊢
  omega
theorem risB_key {l : List ByteArray} (h : risB l = true) : ∀ x ∈ l, goodKey x = true := by
 intro x hx
 obtain ⟨i, hi, rfl⟩ := List.getElem_of_mem hx
 simp only [risB] at h
 have := allN_iff.1 h i hi
 simp only [Bool.and_eq_true, nth_lt hi] at this
 exact this.1
theorem stI.sz {n : Nat} {s : State} (h : stI n s) (hn : n ≤ 1000) : s.sz ≤ 2 ^ 20 := by
 have hc := goodCells_I h.cells
 have hl := hc.len
 have h1 : szL Cell.sz s.Cells ≤ (2000 + 1) * s.Cells.length := szL_bd2 fun c q => by
  have h2 := (hc.one c q).2
  have h3 := hc.wf c q
  have h4 : szL Ver.sz c.Vers ≤ (100 + 1) * c.Vers.length := szL_bd2 fun v hv => h3.2 v hv
  have h5 : (100 + 1) * c.Vers.length ≤ (100 + 1) * 16 := Nat.mul_le_mul_left _ (by omega)
  show c.Key.size + szL Ver.sz c.Vers ≤ 2000
  omega
 have h2 : szL Held.sz s.Held ≤ (2000 + 1) * s.Held.length := szL_bd2 fun x q => by
  have h3 := hldOk_lists (h.hok x q)
  have h4 : szL ByteArray.size x.Reads ≤ (100 + 1) * x.Reads.length := szL_bd2 fun v hv => by
   have := goodKey_size (risB_key h3.2.2.2.1 v hv); omega
  have h5 : szL Write.sz x.Writes ≤ (100 + 1) * x.Writes.length := szL_bd2 fun v hv => by
   obtain ⟨i, hi, rfl⟩ := List.getElem_of_mem hv
   have h6 := h3.2.2.1
   rw [goodWrites_eq] at h6
   simp only [Bool.and_eq_true, Bool.not_eq_true', List.any_eq_false] at h6
   have h7 := goodKey_size (risB_key h6.1.2 _ (List.mem_map.2 ⟨_, hv, rfl⟩))
   have h8 := h6.2 _ hv
   have h8 : stored (x.Writes[i]).Val (x.Writes[i]).Gone = true := by simpa using h8
   have := stored_size h8
   show (x.Writes[i]).Key.size + (x.Writes[i]).Val.size ≤ 100
   omega
  have h6 : (100 + 1) * x.Reads.length ≤ (100 + 1) * 8 := Nat.mul_le_mul_left _ (by omega)
  have h7 : (100 + 1) * x.Writes.length ≤ (100 + 1) * 8 := Nat.mul_le_mul_left _ (by omega)
  show szL ByteArray.size x.Reads + szL Write.sz x.Writes ≤ 2000
  omega
 have h3 := h.tlen
 have h4 := h.hlen
 have h5 : (2000 + 1) * s.Cells.length ≤ (2000 + 1) * 24 := Nat.mul_le_mul_left _ (by omega)
 have h6 : (2000 + 1) * s.Held.length ≤ (2000 + 1) * 12 := Nat.mul_le_mul_left _ (by omega)
 show szL Cell.sz s.Cells + szL Held.sz s.Held + s.Told.length ≤ 2 ^ 20
 omega
theorem mul64_13 : ACall p_ 145 [.v (.int .u64 1), .v (.int .u64 3)] (fun r _ => r = .tup [.v (.int .u64 0), .v (.int .u64 3)]) := by
 refine fg H145 fun E hE hH => ?_; simp only [go_sem, hE, hH, C145]
 repeat' (first | ((with_reducible apply ga) <;> refine gs fun h => ?_) | ((with_reducible apply an); · omega) | (with_reducible first | apply jn | apply both | apply an | exact ti) | exact fj | refine st ?_ | exact fm | refine s1 ?_)
 all_goals first | rfl | decide
theorem mul_13 : ACall p_ 114 [.v (.int .u64 1), .v (.int .u64 3)] (fun r _ => r = .tup [.v (.int .u64 0), .v (.int .u64 3)]) := by
 refine fg H114 fun E hE hH => ?_; simp only [go_sem, hE, hH, C114]
 repeat' (first | ((with_reducible apply ga) <;> refine gs fun h => ?_) | ((with_reducible apply an); · omega) | ((first | refine ok_view ?_ | refine cvA (mul64_13) ?_); refine st ?_) | (with_reducible first | apply jn | apply both | apply an | exact ti) | exact fj | refine st ?_ | exact fm | refine s1 ?_)
 all_goals first | rfl | decide
def recB (r : Rec) : Prop := r.Reads.length ≤ 2 ^ 20 ∧ r.Writes.length ≤ 2 ^ 20
def logB (l : List Entry) : Prop := l.length ≤ 2 ^ 20 ∧ ∀ e ∈ l, recB e.Rec
def grpB (g : Group) : Prop := g.Reps.length ≤ 2 ^ 20 ∧ ∀ r ∈ g.Reps, logB r.Log
theorem cp2_lt {α : Type} [Inhabited α] {f g : α → List T} {l : List α} {j d : Nat} (hf : ∀ x, ltL d (f x)) (hg : ∀ x, ltL d (g x)) : ltLL d (cp2 f g l j) := by
 intro r hr
 rw [cp2, List.mem_append, List.mem_map, List.mem_map] at hr
 rcases hr with ⟨x, _, rfl⟩ | ⟨x, _, rfl⟩
 ·exact hf x
 ·exact hg x
def zE : List T := [i64 0, i64 0, i64 0, i64 0, i64 0, nils, nils, bl false]
def newR : Replica := ⟨true, [], 0⟩
def newG : Group := ⟨[newR, newR, newR], 0, -1⟩
def elG : Group := ⟨[newR, newR, newR], 1, 0⟩
def flR : Rec := ⟨4, 0, 15, 0, [], [], false⟩
def flE : Entry := ⟨1, flR⟩
def rpN (n : Int) : Replica := ⟨true, [flE], n⟩
def ptG : Group := ⟨[rpN 0, newR, newR], 1, 0⟩
def c1G : Group := ⟨[rpN 0, rpN 0, newR], 1, 0⟩
def c2G : Group := ⟨[rpN 0, rpN 0, rpN 0], 1, 0⟩
def adG : Group := ⟨[rpN 1, rpN 0, rpN 0], 1, 0⟩
theorem copyRec_ok (r : Rec) (h : recB r) : ACall p_ 159 [.agg (Rec.row false r)] (fun x _ => x = .agg (Rec.row true r)) := by
 have hmx := mx_eq
 refine fg H159 fun E hE hH => ?_; simp only [go_sem, hE, hH, C159]
 repeat' (first | ((with_reducible apply ga) <;> refine gs fun h => ?_) | ((with_reducible apply an); · omega) | ((first | refine ok_view ?_ | refine cvA (Clone_String_ok _ h.1) ?_ | refine cvA (Clone_Write_ok _ h.2) ?_); refine st ?_) | refine jn _ ?_ ?_ | (with_reducible first | apply both | apply an | exact ti) | exact fe | refine st ?_ | exact fm | refine s1 ?_)
 all_goals first | omega | rfl
theorem copyEntries_ok (l : List Entry) (h : logB l) : ACall p_ 150 [.sl false 8 (l.map (Entry.row false))] (fun x _ => x = .sl true 8 (l.map (Entry.row true))) := by
 have hmx := mx_eq
 obtain ⟨h1, h2⟩ := h
 refine fg H150 fun E hE hH => ?_; simp only [go_sem, hE, hH, C150]
 repeat' (first | ((with_reducible apply ga) <;> refine gs fun h => ?_) | ((with_reducible apply an); · omega) | (with_reducible first | apply jn | apply both | apply an | exact ti) | exact fj | refine st ?_ | exact fm | refine s1 ?_)
 all_goals try omega
 refine loopNe l.length (fun j (_ : Unit) => ⟨[(3, .ref 4000000 0 l.length), (9, .sl false 8 (l.map (Entry.row false))), (10, i64 l.length), (11, i64 j)], [(4000000, ⟨8, cp2 (Entry.row true) (fun _ => zE) l j⟩)]⟩) (fun _ _ => True) () (by rw [cp2_zero, List.map_const']; rfl) trivial ?_
 intro j _ hj _
 try simp only [go_sem, hE, hH, C150_l1]
 first | refine gd_t (fun h => ?_) (fun h => ?_) | refine gd_f (fun h => ?_) (fun h => ?_)
 ·have hb := h
  simp only [nf] at h
  have hlt : j < l.length := by omega
  clear h
  have hg := cp2_get (f := Entry.row true) (g := fun _ => zE) hlt
  have hn := cp2_len (f := Entry.row true) (g := fun _ => zE) (l := l) (j := j)
  have hy := h2 _ (nth_mem hlt)
  have hs := fun r => cp2_gs (f := Entry.row true) (g := fun _ => zE) (k := j) hlt (r := r)
  try simp (disch := omega) only [go_sem, hE, hH, hg, hn, hs, hb]
  all_goals (have y1_ := hg; have y2_ := hn; have y3_ := hs; repeat' (first | ((with_reducible apply ga) <;> refine gs4_ fun h => ?_) | ((with_reducible apply an); · omega) | ((first | refine ok_view ?_ | refine cvA (copyRec_ok (nth l j).Rec hy) ?_); refine st4_ ?_) | (with_reducible first | apply jn | apply both | apply an | exact ti) | exact fj4_ | refine st4_ ?_ | exact fm4_ | refine s14_ ?_))
  all_goals try omega
  all_goals try exact cp2_noM (fun x => by simp only [go_sem]) (fun x => by simp only [zE, go_sem])
  all_goals try exact cp2_lt (fun x => by simp only [go_sem]) (fun x => by simp only [zE, go_sem])
  all_goals first | (refine ⟨(), ?_⟩; rw [← cp2_set (f := Entry.row true) (g := fun _ => zE) hlt rfl]; rfl)
 ·try simp (disch := omega) only [go_sem, hE, hH, h]
  simp only [nf] at h
  rw [cp2_end (show j = l.length by omega)]
  try refine st ?_; try exact ⟨⟩
  all_goals first | rfl
def cpG (g : Group) : Nat → St
 | 0 => ⟨[(2, .ptr 3000000 0 0), (3, .ptr 4000000 0 0), (12, .sl false 3 (g.Reps.map (Replica.row false))), (13, i64 g.Reps.length), (14, i64 0)], [(3000000, ⟨3, [[nils, i64 0, i64 0]]⟩), (4000000, ⟨3, [[nils, i64 g.Term, i64 g.Lead]]⟩)]⟩
 | j + 1 => ⟨[(2, .ptr 3000000 0 0), (3, .ptr 4000000 0 0), (12, .sl false 3 (g.Reps.map (Replica.row false))), (13, i64 g.Reps.length), (14, i64 (j + 1 : Nat))], [(3000000, ⟨3, [[nils, i64 0, i64 0]]⟩), (4000000, ⟨3, [[.ref 4000001 0 (j + 1), i64 g.Term, i64 g.Lead]]⟩), (4000001, ⟨3, (g.Reps.take (j + 1)).map (Replica.row true)⟩)]⟩
theorem copyGroup_ok (g : Group) (h : grpB g) : ACall p_ 120 [.agg (Group.row false g)] (fun x _ => x = .agg (Group.row true g)) := by
 have hmx := mx_eq
 obtain ⟨h1, h2⟩ := h
 refine fg H120 fun E hE hH => ?_; simp only [go_sem, hE, hH, C120]
 repeat' (first | ((with_reducible apply ga) <;> refine gs fun h => ?_) | ((with_reducible apply an); · omega) | (with_reducible first | apply jn | apply both | apply an | exact ti) | exact fj | refine st ?_ | exact fm | refine s1 ?_)
 refine loopNe g.Reps.length (fun j (_ : Unit) => cpG g j) (fun _ _ => True) () rfl trivial ?_
 intro j _ hj _
 cases j with
 | zero =>
  try simp only [go_sem, hE, hH, C120_l1, cpG]
  first | refine gd_t (fun h => ?_) (fun h => ?_) | refine gd_f (fun h => ?_) (fun h => ?_)
  ·have hb := h
   simp only [nf] at h
   have hlt : 0 < g.Reps.length := by omega
   have ht : g.Reps.take 1 = [nth g.Reps 0] := by rw [take_nth hlt]; rfl
   try refine sb ?_; try exact ⟨⟩
   repeat' (first | ((with_reducible apply ga) <;> refine gs fun h => ?_) | ((with_reducible apply an); · omega) | ((first | refine ok_view ?_ | refine cvA (copyEntries_ok _ (h2 _ (nth_mem hlt))) ?_); refine st ?_) | (with_reducible first | apply jn | apply both | apply an | exact ti) | exact fj | refine st ?_ | exact fm | refine s1 ?_)
   all_goals first | omega | (refine ⟨(), ?_⟩; rw [ht]; rfl)
  ·try simp (disch := omega) only [go_sem, hE, hH, h]
   simp only [nf] at h
   have e : g.Reps = [] := List.length_eq_zero_iff.1 (by omega)
   rw [e]
   all_goals first | rfl
 | succ j =>
  try simp only [go_sem, hE, hH, C120_l1, cpG]
  first | refine gd_t (fun h => ?_) (fun h => ?_) | refine gd_f (fun h => ?_) (fun h => ?_)
  ·have hb := h
   simp only [nf] at h
   have hlt : j + 1 < g.Reps.length := by omega
   have hn : (g.Reps.take (j + 1)).length = j + 1 := by simp; omega
   have ht : (g.Reps.take (j + 1)).take (j + 1) = g.Reps.take (j + 1) := by rw [List.take_take, Nat.min_self]
   try simp (disch := omega) only [go_sem, hE, hH, hn, hb]
   all_goals (have y1_ := hn; repeat' (first | ((with_reducible apply ga) <;> refine gs1_ fun h => ?_) | ((with_reducible apply an); · omega) | ((first | refine ok_view ?_ | refine cvA (copyEntries_ok _ (h2 _ (nth_mem hlt))) ?_); refine st1_ ?_) | (with_reducible first | apply jn | apply both | apply an | exact ti) | exact fj1_ | refine st1_ ?_ | exact fm1_ | refine s11_ ?_))
   all_goals try simp only [ht, hn]
   all_goals try first | omega | exact Nat.le_trans (Nat.mul_le_mul_right _ (show j + 1 + 1 ≤ 2 ^ 20 + 1 by omega)) (by decide)
   all_goals first | (refine ⟨(), ?_⟩; rw [take_nth hlt, List.map_append]; rfl)
  ·try simp (disch := omega) only [go_sem, hE, hH, h]
   simp only [nf] at h
   rw [show j + 1 = g.Reps.length by omega, List.take_length]
   all_goals first | exact ⟨rfl, rfl⟩ | rfl
theorem l9OwnLog_ok (l : List Entry) (h : logB l) : ACall p_ 109 [.sl false 8 (l.map (Entry.row false))] (fun x _ => x = .sl true 8 (l.map (Entry.row true))) := by
 have hmx := mx_eq
 obtain ⟨h1, h2⟩ := h
 refine fg H109 fun E hE hH => ?_; simp only [go_sem, hE, hH, C109]
 repeat' (first | ((with_reducible apply ga) <;> refine gs fun h => ?_) | ((with_reducible apply an); · omega) | (with_reducible first | apply jn | apply both | apply an | exact ti) | exact fj | refine st ?_ | exact fm | refine s1 ?_)
 refine loopNe l.length (fun j (_ : Unit) => ⟨[(0, .sl false 8 (l.map (Entry.row false))), (3, .ref 4000000 0 j), (4, i64 j)], [(4000000, ⟨8, (l.take j).map (Entry.row true)⟩)]⟩) (fun _ _ => True) () rfl trivial ?_
 intro j _ hj _
 try simp only [go_sem, hE, hH, C109_l1]
 first | refine gd_t (fun h => ?_) (fun h => ?_) | refine gd_f (fun h => ?_) (fun h => ?_)
 ·have hb := h
  simp only [nf] at h
  have hlt : j < l.length := by omega
  clear h
  obtain ⟨hy1, hy2⟩ := h2 _ (nth_mem hlt)
  have hn : (l.take j).length = j := by simp; omega
  have ht : (l.take j).take j = l.take j := by rw [List.take_take, Nat.min_self]
  try simp (disch := omega) only [go_sem, hE, hH, hn, hb]
  all_goals (have y1_ := hn; repeat' (first | ((with_reducible apply ga) <;> refine gs1_ fun h => ?_) | ((with_reducible apply an); · omega) | (with_reducible first | apply jn | apply both | apply an | exact ti) | exact fj1_ | refine st1_ ?_ | exact fm1_ | refine s11_ ?_))
  all_goals try simp only [ht, hn]
  all_goals try first | omega | exact Nat.le_trans (Nat.mul_le_mul_right _ (show j + 1 ≤ 2 ^ 20 + 1 by omega)) (by decide)
  all_goals first | (refine ⟨(), ?_⟩; rw [take_nth hlt, List.map_append]; rfl)
 ·try simp (disch := omega) only [go_sem, hE, hH, h]
  simp only [nf] at h
  rw [show j = l.length by omega, List.take_length]
  try refine st ?_; try exact ⟨⟩
  all_goals first | rfl
theorem l9Own_ok (g : Group) (h : grpB g) : ACall p_ 73 [.agg (Group.row false g)] (fun x _ => x = .agg (Group.row true g)) := by
 have hmx := mx_eq
 obtain ⟨h1, h2⟩ := h
 refine fg H73 fun E hE hH => ?_; simp only [go_sem, hE, hH, C73]
 repeat' (first | ((with_reducible apply ga) <;> refine gs fun h => ?_) | ((with_reducible apply an); · omega) | (with_reducible first | apply jn | apply both | apply an | exact ti) | exact fj | refine st ?_ | exact fm | refine s1 ?_)
 refine loopNe g.Reps.length (fun j (_ : Unit) => ⟨[(1, .ptr 2000000 0 0), (2, .ptr 3000000 0 0), (3, .ptr 4000000 0 0), (4, i64 j)], [(2000000, ⟨3, [Group.row false g]⟩), (3000000, ⟨3, [[nils, i64 0, i64 0]]⟩), (4000000, ⟨3, [[.ref 4000001 0 j, i64 g.Term, i64 g.Lead]]⟩), (4000001, ⟨3, (g.Reps.take j).map (Replica.row true)⟩)]⟩) (fun _ _ => True) () rfl trivial ?_
 intro j _ hj _
 try simp only [go_sem, hE, hH, C73_l1]
 first | refine gd_t (fun h => ?_) (fun h => ?_) | refine gd_f (fun h => ?_) (fun h => ?_)
 ·have hb := h
  simp only [nf] at h
  have hlt : j < g.Reps.length := by omega
  clear h
  have hn : (g.Reps.take j).length = j := by simp; omega
  have ht : (g.Reps.take j).take j = g.Reps.take j := by rw [List.take_take, Nat.min_self]
  try simp (disch := omega) only [go_sem, hE, hH, hn, hb]
  all_goals (have y1_ := hn; repeat' (first | ((with_reducible apply ga) <;> refine gs1_ fun h => ?_) | ((with_reducible apply an); · omega) | ((first | refine ok_view ?_ | refine cvA (l9OwnLog_ok _ (h2 _ (nth_mem hlt))) ?_); refine st1_ ?_) | (with_reducible first | apply jn | apply both | apply an | exact ti) | exact fj1_ | refine st1_ ?_ | exact fm1_ | refine s11_ ?_))
  all_goals try simp only [ht, hn]
  all_goals try first | omega | exact Nat.le_trans (Nat.mul_le_mul_right _ (show j + 1 ≤ 2 ^ 20 + 1 by omega)) (by decide)
  all_goals first | (refine ⟨(), ?_⟩; rw [take_nth hlt, List.map_append]; rfl)
 ·try simp (disch := omega) only [go_sem, hE, hH, h]
  simp only [nf] at h
  rw [show j = g.Reps.length by omega, List.take_length]
  try refine st ?_; try exact ⟨⟩
  all_goals first | rfl | exact ⟨rfl, rfl⟩
end Go.Proofs.Wb

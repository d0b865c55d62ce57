import Derived.Test.YtjfjakbgelikeaaGreatFnExactSettleDealN1
import Derived.Laws.Externs
set_option linter.all false
set_option maxHeartbeats 4000000
namespace Go.Proofs.Wb
open Tryz renaming prog → p_
open Go Go.Am
theorem zF5 {l : List Held} {j : Nat} (h : j < l.length) : zAY (l.take (j + 1)) = zAY (l.take j) ++ (nth l j).Writes := by
 rw [zAp h, zAY, List.flatMap_append]; simp [zAY]
theorem zNK {l : List Held} {m : Nat} (h : ∀ x ∈ l, x.Writes.length ≤ m) : (zAY l).length ≤ l.length * m := by
 induction l with
 | nil => simp [zAY]
 | cons x t ih =>
  have h1 := h x List.mem_cons_self
  have h2 := ih fun y hy => h y (List.mem_cons_of_mem _ hy)
  simp only [zAY, List.flatMap_cons, List.length_append, List.length_cons, Nat.succ_mul] at h2 ⊢
  omega
theorem zU5 {l : List Held} {j i : Nat} (h : j < l.length) (h2 : i < (nth l j).Writes.length) : nth (nth l j).Writes i ∈ zAY l :=
 List.mem_flatMap.2 ⟨_, zAc h, zAc h2⟩
theorem zMd {cs : List Cell} {ws : List Write} {w : Write} (hw : w ∈ ws) (h : zB0 cs w.Key = true) : zB9 cs ws = false := by
 unfold zB9
 rw [List.any_eq_true.2 ⟨w, hw, h⟩]; rfl
theorem zRE (hS : zB5) (s : State) (held : List Held) (hc : zA1 s.Cells = true) (hl : held.length ≤ 100) (hw : ∀ h ∈ held, h.Writes.length ≤ 100) : ACall p_ 162 [.agg (State.row false s), .sl false 5 (held.map (Held.row false))] (fun r _ => r = bl (decide ((held.length : Int) ≤ 12) && zB9 s.Cells (zAY held))) := by
 have hmx := zAh
 have hI0 := zBy hc
 have hcl := hI0.len
 have hone : ∀ c ∈ s.Cells, c.Vers.length ≤ 100 := fun c q => by have := (hI0.one c q).2; omega
 have hal : ∀ j, (zAY (held.take j)).length ≤ 10000 := fun j => by
  have h1 := zNK (l := held.take j) (m := 100) fun x hx => hw x (List.mem_of_mem_take hx)
  have h2 : (held.take j).length ≤ 100 := by rw [List.length_take]; omega
  have := Nat.mul_le_mul_right 100 h2
  omega
 refine fg H162 fun E hE hH => ?_; simp only [go_sem, hE, hH, zZf]
 repeat' (first | ((with_reducible apply ga) <;> refine gs fun h => ?_) | ((with_reducible apply an); · omega) | (with_reducible first | apply jn | apply both | apply an | exact ti) | exact fj | refine st ?_ | exact fm | refine s1 ?_)
 refine zAK s.Cells.length (fun j (x : List ByteArray) => ⟨[(1, .sl false 5 (held.map (Held.row false))), (2, .ptr 3000000 0 0), (5, .ref 6000000 0 x.length), (16, .sl false 2 (s.Cells.map (Cell.row false))), (17, i64 s.Cells.length), (18, i64 j)], [(3000000, ⟨4, [State.row false s]⟩), (6000000, ⟨1, strs x⟩)]⟩) (fun j x => x = (s.Cells.take j).map (·.Key)) [] rfl ?_
 rintro j x hj hx
 have hlen : x.length = j := by rw [hx]; simp; omega
 try simp only [go_sem, hE, hH, zRi]
 first | refine zAe (fun h1 => ?_) (fun h1 => ?_) | refine zAf (fun h1 => ?_) (fun h1 => ?_)
 ·have hb1 := h1
  simp only [nf] at h1
  try simp (disch := omega) only [go_sem, hE, hH, hb1]
  repeat' (first | ((with_reducible apply ga) <;> refine gs fun h => ?_) | ((with_reducible apply an); · omega) | (with_reducible first | apply jn | apply both | apply an | exact ti) | exact fj | refine st ?_ | exact fm | refine s1 ?_)
  have e : (s.Cells.take (j + 1)).map (·.Key) = x ++ [(nth s.Cells j).Key] := by rw [zAp h1, List.map_append, ← hx]; rfl
  have e2 : (s.Cells.take (j + 1)).length = x.length + 1 := by rw [List.length_take, hlen]; omega
  rw [e, e2, strs, List.map_append]
  rfl
 ·try simp (disch := omega) only [go_sem, hE, hH, h1]
  simp only [nf] at h1
  rw [show j = s.Cells.length by omega, List.take_length] at hx
  subst hx
  clear hlen
  repeat' (first | ((with_reducible apply ga) <;> refine gs fun h => ?_) | ((with_reducible apply an); · omega) | (with_reducible first | apply jn | apply both | apply an | exact ti) | exact fj | refine st ?_ | exact fm | refine s1 ?_)
  refine zAG held.length (fun j (x : List ByteArray) => ⟨[(1, .sl false 5 (held.map (Held.row false))), (2, .ptr 3000000 0 0), (5, .ref 6000000 0 x.length), (28, .sl false 5 (held.map (Held.row false))), (29, i64 held.length), (30, i64 j)], [(3000000, ⟨4, [State.row false s]⟩), (6000000, ⟨1, strs x⟩)]⟩) (fun j x => x = s.Cells.map (·.Key) ++ (zAY (held.take j)).map (·.Key) ∧ (zAY (held.take j)).any (fun w => zB0 s.Cells w.Key) = false) (s.Cells.map (·.Key)) (by rw [List.length_map]; rfl) ⟨by simp [zAY], by simp [zAY]⟩ ?_
  rintro j x hj ⟨hx, hnf⟩
  try simp only [go_sem, hE, hH, zRk]
  first | refine zAe (fun h2 => ?_) (fun h2 => ?_) | refine zAf (fun h2 => ?_) (fun h2 => ?_)
  ·have hb2 := h2
   simp only [nf] at h2
   have hlt2 := h2; clear h2
   try simp (disch := omega) only [go_sem, hE, hH, hb2]
   repeat' (first | ((with_reducible apply ga) <;> refine gs fun h => ?_) | ((with_reducible apply an); · omega) | (with_reducible first | apply jn | apply both | apply an | exact ti) | exact fj | refine st ?_ | exact fm | refine s1 ?_)
   refine zAK (nth held j).Writes.length (fun i (x : List ByteArray) => ⟨[(1, .sl false 5 (held.map (Held.row false))), (2, .ptr 3000000 0 0), (5, .ref 6000000 0 x.length), (28, .sl false 5 (held.map (Held.row false))), (29, i64 held.length), (30, i64 j), (35, .sl false 3 ((nth held j).Writes.map (Write.row false))), (36, i64 (nth held j).Writes.length), (37, i64 i)], [(3000000, ⟨4, [State.row false s]⟩), (6000000, ⟨1, strs x⟩)]⟩) (fun i x => x = s.Cells.map (·.Key) ++ (zAY (held.take j) ++ (nth held j).Writes.take i).map (·.Key) ∧ ((nth held j).Writes.take i).any (fun w => zB0 s.Cells w.Key) = false) x ⟨by simp [hx], rfl⟩ ?_
   rintro i y hi ⟨hy, hfi⟩
   have hwj := hw _ (zAc hlt2)
   have hyl : y.length ≤ 20000 := by
    have := hal j
    rw [hy, List.length_append, List.length_map, List.length_map, List.length_append, List.length_take]; omega
   try simp only [go_sem, hE, hH, zRj]
   first | refine zAe (fun h3 => ?_) (fun h3 => ?_) | refine zAf (fun h3 => ?_) (fun h3 => ?_)
   ·have hb3 := h3
    simp only [nf] at h3
    have hlt3 := h3; clear h3
    have cF1 := zFm s.Cells (nth (nth held j).Writes i).Key (by omega) hI0.srt
    have hci := zJ6 (l := s.Cells) (k := (nth (nth held j).Writes i).Key)
    cases hf : cF s.Cells (nth (nth held j).Writes i).Key with
    | true =>
     rw [hf] at cF1
     obtain ⟨k1, k2⟩ := zDC hI0.srt hf
     try simp (disch := omega) only [go_sem, hE, hH, hb3]
     repeat' (first | ((with_reducible apply ga) <;> refine gs fun h => ?_) | ((with_reducible apply an); · omega) | ((first | refine zAa ?_ | refine cvA (cF1) ?_); refine st ?_) | (with_reducible first | apply jn | apply both | apply an | exact ti) | exact fj | refine st ?_ | exact fm | refine s1 ?_)
     ·rw [zMd (zU5 hlt2 hlt3) (by simp only [zB0, hf, Bool.true_and, decide_eq_true_eq]; omega), Bool.and_false]
     ·refine ⟨y ++ [(nth (nth held j).Writes i).Key], by simp [strs], ?_, ?_⟩
      ·rw [zAp hlt3, hy]; simp [List.map_append]
      ·rw [zAp hlt3, List.any_append, hfi]
       simp only [List.any_cons, List.any_nil, Bool.or_false, Bool.false_or, zB0, hf, Bool.true_and, decide_eq_false_iff_not]
       omega
    | false =>
     rw [hf] at cF1
     try simp (disch := omega) only [go_sem, hE, hH, hb3]
     repeat' (first | ((with_reducible apply ga) <;> refine gs fun h => ?_) | ((with_reducible apply an); · omega) | ((first | refine zAa ?_ | refine cvA (cF1) ?_); refine st ?_) | (with_reducible first | apply jn | apply both | apply an | exact ti) | exact fj | refine st ?_ | exact fm | refine s1 ?_)
     all_goals try omega
     refine ⟨y ++ [(nth (nth held j).Writes i).Key], by simp [strs], ?_, ?_⟩
     ·rw [zAp hlt3, hy]; simp [List.map_append]
     ·rw [zAp hlt3, List.any_append, hfi]
      simp only [List.any_cons, List.any_nil, Bool.or_false, Bool.false_or, zB0, hf, Bool.false_and]
   ·try simp (disch := omega) only [go_sem, hE, hH, h3]
    simp only [nf] at h3
    rw [show i = (nth held j).Writes.length by omega, List.take_length] at hy hfi
    refine ⟨hlt2, y, rfl, ?_, ?_⟩
    ·rw [zF5 hlt2, hy]
    ·rw [zF5 hlt2, List.any_append, hnf, hfi]; rfl
  ·try simp (disch := omega) only [go_sem, hE, hH, h2]
   simp only [nf] at h2
   rw [show j = held.length by omega, List.take_length] at hx hnf
   have hxl : x.length ≤ 20000 := by
    have := hal held.length
    rw [List.take_length] at this
    rw [hx, List.length_append, List.length_map, List.length_map]; omega
   have hsl : (zBR x).length = x.length := zFG
   have hst : (zBR x).take x.length = zBR x := List.take_of_length_le (by omega)
   have hdn : (zBs (zBR x)).length = dnN x := zZ4 (zPM x) fun y => zNF
   have hrm : zB9 s.Cells (zAY held) = decide (dnN x ≤ 24) := by rw [zB9, hnf, ← hx]; rfl
   all_goals (have y1_ := hsl; have y2_ := hst; repeat' (first | ((with_reducible apply ga) <;> refine zHi fun h => ?_) | ((with_reducible apply an); · omega) | (refine zAI [true] ?_; refine zCA ?_; refine cmA (zRD hS x (by omega)) ?_; refine zCA ?_) | (refine zAI [true] ?_; refine zCA ?_; refine cmA (zFU (zBR x) (by rw [zFG]; omega)) ?_; refine zCA ?_) | (with_reducible first | apply jn | apply both | apply an | exact ti) | exact zHk | refine zCA ?_ | exact zHl | refine zHj ?_))
   all_goals rw [hrm, hdn, show decide (((dnN x : Nat) : Int) ≤ 24) = decide (dnN x ≤ 24) by rw [decide_eq_decide]; omega]
theorem zSQ {l : List ByteArray} {k : ByteArray} (hs : zAN zAg id l) (h : fxF id l k = true) : dnI (fun y : ByteArray => zAg k y) l l.length = fxI zAg id l k + 1 := by
 obtain ⟨h1, h2⟩ := zCZ zCg hs h
 simp only [id] at h2
 refine zFE (by omega) (fun i a b => ?_) (.inr ?_)
 ·have := hs _ _ (show fxI zAg id l k < i by omega) b
  simp only [id] at this
  rwa [h2] at this
 ·simp only [Nat.add_sub_cancel, h2, zBM]
theorem zFH (l : List ByteArray) (key : ByteArray) (hl : l.length ≤ 2 ^ 20) (hs : zAN zAg id l) : ACall p_ 100 [.sl true 1 (strs l), str key] (fun r a => r = .sl true 1 (strs (zBP l key)) ∧ a = [.any, str key]) := by
 have hmx := zAh
 refine zGr [true, false] (hqA zYE) (hqB zYE) ⟨by simp only [go_sem], fun E hE hH => ?_⟩; simp only [go_sem] at hE hH; simp only [go_sem, hE, hH, zYD]
 try refine st ?_; try exact ⟨⟩
 refine zGO (fun (k : Nat) => ⟨[(0, .ref 0 0 l.length), (1, str key), (5, i64 k)], [(0, ⟨1, strs l⟩)]⟩) (fun k => k ≤ l.length ∧ ∀ i, k ≤ i → i < l.length → zAg key (nth l i) = true) (fun k => k) l.length ⟨Nat.le_refl _, fun i a b => absurd b (by omega)⟩ ?_
 rintro k ⟨hk, hK⟩
 have e1 : ((k : Int) - 1).toNat = k - 1 := by omega
 by_cases hgo : k ≠ 0 ∧ zAg key (nth l (k - 1)) = true
 ·obtain ⟨hk0, hq⟩ := hgo
  have e2 : decide ((0 : Int) < (k : Int)) = true := decide_eq_true (by omega)
  try simp only [go_sem, hE, hH, e1, e2, hq, zHB]
  all_goals (have y1_ := e1; have y2_ := e2; have y3_ := hq; repeat' (first | ((with_reducible apply ga) <;> refine zFQ fun h => ?_) | ((with_reducible apply an); · omega) | (with_reducible first | apply jn | apply both | apply an | exact ti) | exact zGF | refine zBY ?_ | exact zFS | refine zFR ?_))
  all_goals first | omega | (refine ⟨k - 1, ?_, ⟨by omega, fun i a b => ?_⟩, by omega⟩)
  ·rw [show ((k - 1 : Nat) : Int) = (k : Int) - 1 by omega]
  ·by_cases e : i = k - 1
   ·rw [e]; exact hq
   ·exact hK i (by omega) b
 have hd : dnI (fun y : ByteArray => zAg key y) l l.length = k := zFE hk hK (by
  by_cases e : k = 0
  ·exact .inl e
  ·right
   cases q : zAg key (nth l (k - 1)) with
   | false => rfl
   | true => exact absurd ⟨e, q⟩ hgo)
 cases hf : fxF id l key with
 | true =>
  have hc0 := zSQ hs hf
  obtain ⟨k1, k2⟩ := zCZ zCg hs hf
  have hk0 : k ≠ 0 := by omega
  have e2 : decide ((0 : Int) < (k : Int)) = true := decide_eq_true (by omega)
  have e3 : nth l (k - 1) = key := by rw [show k - 1 = fxI zAg id l key by omega]; exact k2
  have hq : zAg key key = false := zBM _
  try simp only [go_sem, hE, hH, e1, e2, e3, hq, zHB]
  all_goals (have y1_ := e1; have y2_ := e2; have y3_ := e3; have y4_ := hq; repeat' (first | ((with_reducible apply ga) <;> refine zJJ fun h => ?_) | ((with_reducible apply an); · omega) | (with_reducible first | apply jn | apply both | apply an | exact ti) | exact zJL | refine zCV ?_ | exact zJM | refine zJK ?_))
  all_goals first | omega | (simp only [zBP, hf, if_true]; done)
 | false =>
  have hc0 : k = fxI zAg id l key := by
   rw [← hd]; exact zLZ (f := id) (x := key) zCg hs hf
  have hP : zBP l key = l.take k ++ key :: l.drop k := by rw [zBP, hf, hc0]; rfl
  have lt1 : (l.take k).length = k := by rw [List.length_take]; omega
  have hdx : (l.drop k).length = l.length - k := by simp
  have d1 : (l.drop k).take (l.length - k) = l.drop k := List.take_of_length_le (by simp)
  have d2 : (l.take k).take k = l.take k := by rw [List.take_take, Nat.min_self]
  have d3 : ∀ q, (strs (l.take k) ++ [q]).take (k + 1) = strs (l.take k) ++ [q] := fun q => List.take_of_length_le (by simp [strs]; omega)
  by_cases hk0 : k = 0
  ·subst hk0
   have fC : decide ((0 : Int) < ((0 : Nat) : Int)) = false := rfl
   have fD : decide ((0 : Int) < (0 : Int)) = false := rfl
   try simp only [go_sem, hE, hH, fC, fD, d1, d2, d3, hdx, zHB]
   all_goals (have y1_ := fC; have y2_ := fD; have y3_ := d1; have y4_ := d2; have y5_ := d3; have y6_ := hdx; repeat' (first | ((with_reducible apply ga) <;> refine zTq fun h => ?_) | ((with_reducible apply an); · omega) | ((first | refine zAa ?_ | refine cvA (zDp [] (by decide)) ?_ | refine cvA (zDp _ (by simp; omega)) ?_); refine zOq ?_) | (with_reducible first | apply jn | apply both | apply an | exact ti) | exact zTs | refine zOq ?_ | exact zTt | refine zTr ?_))
   all_goals first | omega | (rw [hP]; simp [strs]; done)
  ·have fC : decide ((0 : Int) < (k : Int)) = true := decide_eq_true (by omega)
   have fE : decide (nth l (k - 1) = key) = false := decide_eq_false fun e => by
    have : fxF id l key = true := zB8.2 ⟨k - 1, by omega, e⟩
    rw [hf] at this; cases this
   have fF : zAg (nth l (k - 1)) key = true := by
    rcases zBZ (nth l (k - 1)) key with q | q | q
    ·exact q
    ·exact absurd q (of_decide_eq_false fE)
    ·exact absurd ⟨hk0, q⟩ hgo
   try simp only [go_sem, hE, hH, e1, fC, fE, fF, d1, d2, d3, hdx, lt1, zHB]
   repeat' (first | ((with_reducible first | refine zAe ?_ ?_ | refine zAf ?_ ?_) <;> (intro h; have hb := h; (try simp only [nf] at h); simp (disch := omega) only [go_sem, hE, hH, e1, fC, fE, fF, d1, d2, d3, hdx, lt1, hb]; (try clear hb))) | ((with_reducible refine And.intro ?_ ?_); · omega) | ((first | refine zAa ?_ | refine cvA (zDp _ (by simp; omega)) ?_); simp (disch := omega) only [go_sem, hE, hH, e1, fC, fE, fF, d1, d2, d3, hdx, lt1]) | (with_reducible first | apply jn | apply both | refine And.intro ?_ ?_) | ((with_reducible apply zAz); (try (simp (disch := omega) only [go_sem, hE, hH, e1, fC, fE, fF, d1, d2, d3, hdx, lt1])); first | done | rfl) | (simp (disch := omega) only [go_sem, hE, hH, e1, fC, fE, fF, d1, d2, d3, hdx, lt1]) | ((first | apply zAj | apply zAC) <;> (simp only [go_sem, hE, hH, e1, fC, fE, fF, d1, d2, d3, hdx, lt1]; done)) | (simp only [go_sem, hE, hH, e1, fC, fE, fF, d1, d2, d3, hdx, lt1]) | fail)
   all_goals first | omega | (rw [hP]; simp [strs]; done)
theorem zMe (s : State) (ws : List Write) (hc : zA1 s.Cells = true) (hws : ws.length ≤ 100) (hl : s.Held.length ≤ 100) (hw : ∀ h ∈ s.Held, h.Writes.length ≤ 100) : ACall p_ 141 [.agg (State.row false s), .sl false 3 (ws.map (Write.row false))] (fun r _ => r = bl (zB9 s.Cells (ws ++ zAY s.Held))) := by
 have hmx := zAh
 have hI0 := zBy hc
 have hcl := hI0.len
 have hone : ∀ c ∈ s.Cells, c.Vers.length ≤ 100 := fun c q => by have := (hI0.one c q).2; omega
 have hal : ∀ j, (zAY (s.Held.take j)).length ≤ 10000 := fun j => by
  have h1 := zNK (l := s.Held.take j) (m := 100) fun x hx => hw x (List.mem_of_mem_take hx)
  have h2 : (s.Held.take j).length ≤ 100 := by rw [List.length_take]; omega
  have := Nat.mul_le_mul_right 100 h2
  omega
 have hal2 : (ws ++ zAY s.Held).length ≤ 20000 := by
  have := hal s.Held.length
  rw [List.take_length] at this
  rw [List.length_append]; omega
 refine fg H141 fun E hE hH => ?_; simp only [go_sem, hE, hH, zY3]
 repeat' (first | ((with_reducible apply ga) <;> refine gs fun h => ?_) | ((with_reducible apply an); · omega) | (with_reducible first | apply jn | apply both | apply an | exact ti) | exact fj | refine st ?_ | exact fm | refine s1 ?_)
 refine zAK s.Cells.length (fun j (x : List ByteArray) => ⟨[(1, .sl false 3 (ws.map (Write.row false))), (2, .ptr 3000000 0 0), (5, .ref 6000000 0 x.length), (15, .sl false 2 (s.Cells.map (Cell.row false))), (16, i64 s.Cells.length), (17, i64 j)], [(3000000, ⟨4, [State.row false s]⟩), (6000000, ⟨1, strs x⟩)]⟩) (fun j x => x = ((s.Cells.take j).map (·.Key)).foldl zBP [] ∧ x.length ≤ j ∧ zAN zAg id x) [] ⟨rfl, Nat.le_refl _, fun i j _ h => absurd h (by simp)⟩ ?_
 rintro j x hj ⟨hx, hxl, hxs⟩
 try simp only [go_sem, hE, hH, zRb]
 first | refine zAe (fun h1 => ?_) (fun h1 => ?_) | refine zAf (fun h1 => ?_) (fun h1 => ?_)
 ·have hb1 := h1
  simp only [nf] at h1
  try simp (disch := omega) only [go_sem, hE, hH, hb1]
  repeat' (first | ((with_reducible apply ga) <;> refine gs fun h => ?_) | ((with_reducible apply an); · omega) | (refine zAI [true, false] ?_; refine st ?_; refine cmA (zFH x _ (by omega) hxs) ?_; refine st ?_) | (with_reducible first | apply jn | apply both | apply an | exact ti) | exact fj | refine st ?_ | exact fm | refine s1 ?_)
  have := zPK (l := x) (k := (nth s.Cells j).Key)
  exact ⟨zBP x (nth s.Cells j).Key, rfl, by rw [zAp h1, List.map_append, List.foldl_append, ← hx]; rfl, by omega, zPJ hxs⟩
 ·try simp (disch := omega) only [go_sem, hE, hH, h1]
  simp only [nf] at h1
  rw [show j = s.Cells.length by omega, List.take_length] at hx
  repeat' (first | ((with_reducible apply ga) <;> refine gs fun h => ?_) | ((with_reducible apply an); · omega) | (with_reducible first | apply jn | apply both | apply an | exact ti) | exact fj | refine st ?_ | exact fm | refine s1 ?_)
  refine zAG s.Held.length (fun j (z : List Write) => ⟨[(2, .ptr 3000000 0 0), (5, .ref 6000000 0 x.length), (8, .ref 9000000 0 z.length), (30, .sl false 5 (s.Held.map (Held.row false))), (31, i64 s.Held.length), (32, i64 j)], [(3000000, ⟨4, [State.row false s]⟩), (6000000, ⟨1, strs x⟩), (9000000, ⟨3, z.map (Write.row true)⟩)]⟩) (fun j z => z = ws ++ zAY (s.Held.take j)) ws rfl (by simp [zAY]) ?_
  rintro j z hj hz
  have hzl : z.length ≤ 20000 := by
   have := hal j
   rw [hz, List.length_append]; omega
  try simp only [go_sem, hE, hH, zRc]
  first | refine zAe (fun h2 => ?_) (fun h2 => ?_) | refine zAf (fun h2 => ?_) (fun h2 => ?_)
  ·have hb2 := h2
   simp only [nf] at h2
   have hwj := hw _ (zAc h2)
   try simp (disch := omega) only [go_sem, hE, hH, hb2]
   repeat' (first | ((with_reducible apply ga) <;> refine gs fun h => ?_) | ((with_reducible apply an); · omega) | (with_reducible first | apply jn | apply both | apply an | exact ti) | exact fj | refine st ?_ | exact fm | refine s1 ?_)
   all_goals try omega
   have el : ws.length + (zAY (s.Held.take (j + 1))).length = z.length + (nth s.Held j).Writes.length := by rw [zF5 h2, hz, List.length_append, List.length_append, Nat.add_assoc]
   have er : ws ++ zAY (s.Held.take (j + 1)) = z ++ (nth s.Held j).Writes := by rw [zF5 h2, hz, List.append_assoc]
   rw [el, er, List.map_append]
   rfl
  ·try simp (disch := omega) only [go_sem, hE, hH, h2]
   simp only [nf] at h2
   rw [show j = s.Held.length by omega, List.take_length] at hz
   rw [← hz] at hal2
   repeat' (first | ((with_reducible apply ga) <;> refine gs fun h => ?_) | ((with_reducible apply an); · omega) | (with_reducible first | apply jn | apply both | apply an | exact ti) | exact fj | refine st ?_ | exact fm | refine s1 ?_)
   refine zAG z.length (fun i (y : List ByteArray) => ⟨[(2, .ptr 3000000 0 0), (5, .ref 6000000 0 y.length), (41, .ref 9000000 0 z.length), (42, i64 z.length), (43, i64 i)], [(3000000, ⟨4, [State.row false s]⟩), (6000000, ⟨1, strs y⟩), (9000000, ⟨3, z.map (Write.row true)⟩)]⟩) (fun i y => y = ((z.take i).map (·.Key)).foldl zBP x ∧ (z.take i).any (fun w => zB0 s.Cells w.Key) = false) x ?_ ⟨by simp, by simp⟩ ?_
   ·rfl
   rintro i y hi ⟨hy, hfi⟩
   have hys : zAN zAg id y := by rw [hy]; exact zFF hxs
   have hyl : y.length ≤ 30000 := by
    have := zGS (ws := (z.take i).map (·.Key)) (l := x)
    rw [← hy, List.length_map, List.length_take] at this
    omega
   try simp only [go_sem, hE, hH, zRd]
   first | refine zAe (fun h3 => ?_) (fun h3 => ?_) | refine zAf (fun h3 => ?_) (fun h3 => ?_)
   ·have hb3 := h3
    simp only [nf] at h3
    have hlt3 := h3; clear h3
    have hAt := zRC s.Cells (nth z i).Key (by omega) hI0.srt
    have hstep : zBP y (nth z i).Key = ((z.take (i + 1)).map (·.Key)).foldl zBP x := by
     rw [zAp hlt3, List.map_append, List.foldl_append, ← hy]; rfl
    cases hf : cF s.Cells (nth z i).Key with
    | true =>
     rw [hf, if_pos rfl] at hAt
     obtain ⟨k1, k2⟩ := zDC hI0.srt hf
     try simp (disch := omega) only [go_sem, hE, hH, hb3]
     repeat' (first | ((with_reducible apply ga) <;> refine gs fun h => ?_) | ((with_reducible apply an); · omega) | (refine zAI [true, false] ?_; refine st ?_; refine cmA (zFH y _ (by omega) hys) ?_; refine st ?_) | ((first | refine zAa ?_ | refine cvA (hAt) ?_); refine st ?_) | (with_reducible first | apply jn | apply both | apply an | exact ti) | exact fj | refine st ?_ | exact fm | refine s1 ?_)
     all_goals try omega
     ·rw [← hz, zMd (zAc hlt3) (by simp only [zB0, hf, Bool.true_and, decide_eq_true_eq]; omega)]
     ·refine ⟨_, rfl, hstep, ?_⟩
      rw [zAp hlt3, List.any_append, hfi]
      simp only [List.any_cons, List.any_nil, Bool.or_false, Bool.false_or, zB0, hf, Bool.true_and, decide_eq_false_iff_not]
      omega
    | false =>
     rw [hf] at hAt
     simp only [Bool.false_eq_true, if_false] at hAt
     try simp (disch := omega) only [go_sem, hE, hH, hb3]
     repeat' (first | ((with_reducible apply ga) <;> refine gs fun h => ?_) | ((with_reducible apply an); · omega) | (refine zAI [true, false] ?_; refine st ?_; refine cmA (zFH y _ (by omega) hys) ?_; refine st ?_) | ((first | refine zAa ?_ | refine cvA (hAt) ?_); refine st ?_) | (with_reducible first | apply jn | apply both | apply an | exact ti) | exact fj | refine st ?_ | exact fm | refine s1 ?_)
     all_goals try omega
     refine ⟨_, rfl, hstep, ?_⟩
     rw [zAp hlt3, List.any_append, hfi]
     simp only [List.any_cons, List.any_nil, Bool.or_false, Bool.false_or, zB0, hf, Bool.false_and]
   ·try simp (disch := omega) only [go_sem, hE, hH, h3]
    simp only [nf] at h3
    rw [show i = z.length by omega, List.take_length] at hy hfi
    repeat' (first | ((with_reducible apply ga) <;> refine gs fun h => ?_) | ((with_reducible apply an); · omega) | (with_reducible first | apply jn | apply both | apply an | exact ti) | exact fj | refine st ?_ | exact fm | refine s1 ?_)
    have hy2 : y = (s.Cells.map (·.Key) ++ z.map (·.Key)).foldl zBP [] := by rw [List.foldl_append, ← hx, ← hy]
    have hrm : zB9 s.Cells (ws ++ zAY s.Held) = decide (y.length ≤ 24) := by rw [← hz, zB9, hfi, hy2, zWh]; rfl
    rw [hrm, show decide (((y.length : Nat) : Int) ≤ 24) = decide (y.length ≤ 24) by rw [decide_eq_decide]; omega]
def zDq (h : Held) (reads : List ByteArray) (writes : List Write) : Bool := !(reads.any (fun k => fwF h.Writes k) || writes.any fun w => fwF h.Writes w.Key || h.Reads.any fun x => decide (w.Key = x))
theorem zQA (h : Held) (reads : List ByteArray) (writes : List Write) : zBz ⟨0, 0, 0, reads, writes⟩ h = !zDq h reads writes := by
 unfold zDq zBz zGA fwF
 rw [Bool.not_not, Bool.eq_iff_iff]
 simp only [Bool.or_eq_true, List.any_eq_true, decide_eq_true_eq]
 constructor
 ·rintro (⟨w, h1, h2⟩ | ⟨w, h1, ⟨v, h2, h3⟩ | ⟨x, h2, h3⟩⟩)
  ·exact .inr ⟨w, h1, h2⟩
  ·exact .inr ⟨v, h2, .inl ⟨w, h1, h3.symm⟩⟩
  ·exact .inl ⟨x, h2, w, h1, h3⟩
 ·rintro (⟨x, h1, w, h2, h3⟩ | ⟨w, h1, h2⟩)
  ·exact .inr ⟨w, h2, .inr ⟨x, h1, h3⟩⟩
  ·exact .inl ⟨w, h1, h2⟩
theorem zJy (l : List Held) (reads : List ByteArray) (writes : List Write) : (l.any fun k => zBz ⟨0, 0, 0, reads, writes⟩ k) = !zAD (fun i => zDq (nth l i) reads writes) l.length := by
 rw [zBJ (p := fun k => zDq k reads writes), List.all_eq_not_any_not, Bool.not_not]
 congr 1; funext k; exact zQA k reads writes
theorem zKy (a : Held) (reads : List ByteArray) (writes : List Write) (h1 : a.Writes.length ≤ maxLen) (h2 : a.Reads.length ≤ maxLen) (h3 : reads.length ≤ maxLen) (h4 : writes.length ≤ maxLen) : ACall p_ 140 [.agg (Held.row false a), .sl false 1 (strs reads), .sl false 3 (writes.map (Write.row false))] (fun r _ => r = bl (zDq a reads writes)) := by
 have hmx := zAh
 refine fg H140 fun E hE hH => ?_; simp only [go_sem, hE, hH, zY2]
 repeat' (first | ((with_reducible apply ga) <;> refine gs fun h => ?_) | ((with_reducible apply an); · omega) | (with_reducible first | apply jn | apply both | apply an | exact ti) | exact fj | refine st ?_ | exact fm | refine s1 ?_)
 refine zAK reads.length (fun j (_ : Unit) => ⟨[(2, .sl false 3 (writes.map (Write.row false))), (3, .ptr 4000000 0 0), (11, .sl false 1 (strs reads)), (12, i64 reads.length), (13, i64 j)], [(4000000, ⟨5, [Held.row false a]⟩)]⟩) (fun j _ => zAD (fun i => !fwF a.Writes (nth reads i)) j = true) () rfl ?_
 intro j _ hj hIn
 try simp only [go_sem, hE, hH, zQ9]
 first | refine zAe (fun hh => ?_) (fun hh => ?_) | refine zAf (fun hh => ?_) (fun hh => ?_)
 ·have hb := hh
  simp only [nf] at hh
  have hlt := hh; clear hh
  try refine sb ?_; try exact ⟨⟩
  repeat' (first | ((with_reducible apply ga) <;> refine gs fun h => ?_) | ((with_reducible apply an); · omega) | ((first | refine zAa ?_ | refine cvA (zKv _ _ h1) ?_); refine st ?_) | (with_reducible first | apply jn | apply both | apply an | exact ti) | exact fj | refine st ?_ | exact fm | refine s1 ?_)
  all_goals first | (exact ⟨(), rfl, zAl hIn (by simp_all)⟩) | (have e : (reads.any fun k => fwF a.Writes k) = true := List.any_eq_true.2 ⟨_, zAc hlt, by simp_all⟩; rw [zDq, e]; rfl)
 ·try simp (disch := omega) only [go_sem, hE, hH, hh]
  simp only [nf] at hh
  rw [show j = reads.length by omega, zBJ (p := fun k => !fwF a.Writes k)] at hIn
  have e1 : (reads.any fun k => fwF a.Writes k) = false := by
   rw [List.any_eq_false]; intro x hx; have := List.all_eq_true.1 hIn x hx; simpa using this
  clear hIn hh
  repeat' (first | ((with_reducible apply ga) <;> refine gs fun h => ?_) | ((with_reducible apply an); · omega) | (with_reducible first | apply jn | apply both | apply an | exact ti) | exact fj | refine st ?_ | exact fm | refine s1 ?_)
  refine zAK writes.length (fun j (_ : Unit) => ⟨[(3, .ptr 4000000 0 0), (22, .sl false 3 (writes.map (Write.row false))), (23, i64 writes.length), (24, i64 j)], [(4000000, ⟨5, [Held.row false a]⟩)]⟩) (fun j _ => zAD (fun i => !(fwF a.Writes (nth writes i).Key || a.Reads.any fun x => decide ((nth writes i).Key = x))) j = true) () rfl ?_
  intro j _ hj hIn2
  try simp only [go_sem, hE, hH, zRa]
  first | refine zAe (fun hh2 => ?_) (fun hh2 => ?_) | refine zAf (fun hh2 => ?_) (fun hh2 => ?_)
  ·have hb2 := hh2
   simp only [nf] at hh2
   have hlt2 := hh2; clear hh2
   try simp (disch := omega) only [go_sem, hE, hH, hb2]
   repeat' (first | ((with_reducible apply ga) <;> refine gs fun h => ?_) | ((with_reducible apply an); · omega) | ((first | refine zAa ?_ | refine cvA (zKv _ _ h1) ?_ | refine cvA (zU4 _ _ h2) ?_); refine st ?_) | (with_reducible first | apply jn | apply both | apply an | exact ti) | exact fj | refine st ?_ | exact fm | refine s1 ?_)
   all_goals first | (exact ⟨(), rfl, zAl hIn2 (by simp_all)⟩) | (have e : (writes.any fun w => fwF a.Writes w.Key || a.Reads.any fun x => decide (w.Key = x)) = true := List.any_eq_true.2 ⟨_, zAc hlt2, by simp_all⟩; rw [zDq, e]; simp; done)
  ·try simp (disch := omega) only [go_sem, hE, hH, hh2]
   simp only [nf] at hh2
   rw [show j = writes.length by omega, zBJ (p := fun w : Write => !(fwF a.Writes w.Key || a.Reads.any fun x => decide (w.Key = x)))] at hIn2
   have e : (writes.any fun w => fwF a.Writes w.Key || a.Reads.any fun x => decide (w.Key = x)) = false := by
    rw [List.any_eq_false]; intro x hx; have := List.all_eq_true.1 hIn2 x hx; simpa only [Bool.not_eq_true', Bool.not_eq_true] using this
   rw [zDq, e1, e]
   rfl
theorem zU6 (k a : Held) (h1 : a.Writes.length ≤ 2 ^ 20) (h2 : k.Writes.length ≤ 2 ^ 20) (h3 : a.Reads.length ≤ 2 ^ 20) (h4 : k.Reads.length ≤ 2 ^ 20) (s1 : zFO a.Writes) (s2 : zFO k.Writes) : ACall p_ 205 ([.agg (Held.row false k)] ++ [.bx false (Held.row false a)]) (fun r _ => r = bl (zBz a k)) := by
 refine fg H205 fun E hE hH => ?_; simp only [go_sem, hE, hH, zZP]
 repeat' (first | ((with_reducible apply ga) <;> refine gs fun h => ?_) | ((with_reducible apply an); · omega) | ((first | refine zAa ?_ | refine cvA (zPQ a k h1 h2 h3 h4 s1 s2) ?_); refine st ?_) | refine jn _ ?_ ?_ | (with_reducible first | apply both | apply an | exact ti) | exact fe | refine st ?_ | exact fm | refine s1 ?_)
theorem zXG (hS : zB5) {n : Nat} (s : State) (reads : List ByteArray) (writes : List Write) (hi : stI n s) (h1 : reads.length ≤ 100) (h2 : writes.length ≤ 100) (hs : zFO writes) : ACall p_ 171 [.agg (State.row false s), .sl false 1 (strs reads), .sl false 3 (writes.map (Write.row false))] (fun r _ => r = bl (zD3 s reads writes)) := by
 have hmx := zAh
 have hl := hi.hlen
 have hw : ∀ h ∈ s.Held, h.Writes.length ≤ 100 := fun x hx => by have := zAV (hi.hok x hx); omega
 have hw2 : ∀ h ∈ s.Held ++ [(⟨0, 0, 0, reads, writes⟩ : Held)], h.Writes.length ≤ 100 := fun x hx => by
  rcases List.mem_append.1 hx with hx | hx
  ·exact hw x hx
  ·rw [List.mem_singleton.1 hx]; exact h2
 have cR := zRE hS s (s.Held ++ [⟨0, 0, 0, reads, writes⟩]) hi.cells (by rw [List.length_append]; simp; omega) hw2
 have eW : zAY (s.Held ++ [(⟨0, 0, 0, reads, writes⟩ : Held)]) = zAY s.Held ++ writes := by simp [zAY]
 rw [List.map_append, eW] at cR
 have cC := zEu s.Held 205 [.bx false (Held.row false ⟨0, 0, 0, reads, writes⟩)] (fun k => zBz ⟨0, 0, 0, reads, writes⟩ k) (by kernel_rfl) rfl (by omega) (fun k hk => by
  have q := zAV (hi.hok k hk)
  exact zU6 k ⟨0, 0, 0, reads, writes⟩ (by simp only; omega) (by omega) (by simp only; omega) (by omega) hs (zDA q.2.2.1))
 have et : ∀ (f : Held → List T) (q : List T), (s.Held.map f ++ [q]).take (s.Held.length + 1) = s.Held.map f ++ [q] := fun f q => List.take_of_length_le (by simp)
 refine fg H171 fun E hE hH => ?_; simp only [go_sem, hE, hH, zZm]
 all_goals (have y1_ := et; repeat' (first | ((with_reducible apply ga) <;> refine zBC fun h => ?_) | ((with_reducible apply an); · omega) | ((first | refine zAa ?_ | refine cvA (cC) ?_ | refine cvA (zN0 _ (by omega)) ?_ | refine cvA (cR) ?_); refine zAu ?_) | (with_reducible first | apply jn | apply both | apply an | exact ti) | exact zED | refine zAu ?_ | exact zBE | refine zBD ?_))
 all_goals first | omega | (rw [zD3, h]; rfl) | (rw [zD3, h, List.length_append]; simp; done)
theorem zSR {n : Nat} (s : State) (reads : List ByteArray) (writes : List Write) (hi : stI n s) (h1 : reads.length ≤ 100) (h2 : writes.length ≤ 100) : ACall p_ 185 [.agg (State.row false s), .sl false 1 (strs reads), .sl false 3 (writes.map (Write.row false))] (fun r _ => r = bl (zD3 s reads writes)) := by
 have hmx := zAh
 have hl := hi.hlen
 have hw : ∀ h ∈ s.Held, h.Writes.length ≤ 100 ∧ h.Reads.length ≤ 100 := fun x hx => by have := zAV (hi.hok x hx); omega
 have cR := zMe s writes hi.cells h2 (by omega) fun h hh => (hw h hh).1
 have hR : zB9 s.Cells (zAY s.Held ++ writes) = zB9 s.Cells (writes ++ zAY s.Held) := zQx fun x => by simp only [List.mem_append]; exact Or.comm
 refine fg H185 fun E hE hH => ?_; simp only [go_sem, hE, hH, zZy]
 repeat' (first | ((with_reducible apply ga) <;> refine gs fun h => ?_) | ((with_reducible apply an); · omega) | (with_reducible first | apply jn | apply both | apply an | exact ti) | exact fj | refine st ?_ | exact fm | refine s1 ?_)
 refine zAK s.Held.length (fun j (_ : Unit) => ⟨[(1, .sl false 1 (strs reads)), (2, .sl false 3 (writes.map (Write.row false))), (3, .ptr 4000000 0 0), (10, .sl false 5 (s.Held.map (Held.row false))), (11, i64 s.Held.length), (12, i64 j)], [(4000000, ⟨4, [State.row false s]⟩)]⟩) (fun j _ => zAD (fun i => zDq (nth s.Held i) reads writes) j = true) () rfl ?_
 intro j _ hj hIn
 try simp only [go_sem, hE, hH, zRr]
 first | refine zAe (fun hh => ?_) (fun hh => ?_) | refine zAf (fun hh => ?_) (fun hh => ?_)
 ·have hb := hh
  simp only [nf] at hh
  have hlt := hh; clear hh
  obtain ⟨q1, q2⟩ := hw _ (zAc hlt)
  try refine sb ?_; try exact ⟨⟩
  repeat' (first | ((with_reducible apply ga) <;> refine gs fun h => ?_) | ((with_reducible apply an); · omega) | ((first | refine zAa ?_ | refine cvA (zKy _ _ _ (by omega) (by omega) (by omega) (by omega)) ?_); refine st ?_) | (with_reducible first | apply jn | apply both | apply an | exact ti) | exact fj | refine st ?_ | exact fm | refine s1 ?_)
  all_goals first | (exact ⟨(), rfl, zAl hIn (by simp_all)⟩) | (rw [zD3, zJy, zBh hlt (by simp_all)]; rfl)
 ·try simp (disch := omega) only [go_sem, hE, hH, hh]
  simp only [nf] at hh
  rw [show j = s.Held.length by omega] at hIn
  have hF : zD3 s reads writes = (decide ((s.Held.length : Int) + 1 ≤ 12) && zB9 s.Cells (writes ++ zAY s.Held)) := by rw [zD3, zJy, hIn, hR]; rfl
  rw [hF]
  repeat' (first | ((with_reducible apply ga) <;> refine gs fun h => ?_) | ((with_reducible apply an); · omega) | ((first | refine zAa ?_ | refine cvA (cR) ?_); refine st ?_) | (with_reducible first | apply jn | apply both | apply an | exact ti) | exact fj | refine st ?_ | exact fm | refine s1 ?_)
  all_goals first | (simp_all; done) | (simp_all; omega)
theorem zGC {l : List Write} (h : zBq l = true) {x : Write} (hx : x ∈ l) : x.Key.size ≤ 100 ∧ x.Val.size ≤ 100 := by
 obtain ⟨i, hi, rfl⟩ := List.getElem_of_mem hx
 simp only [zBq, Bool.and_eq_true] at h
 have := zAv.1 h.2 i hi
 simp only [Bool.and_eq_true, zAM hi] at this
 have h1 := zCQ this.1.1
 have h2 := zFl this.1.2
 exact ⟨by omega, by omega⟩
theorem zEg {P : Program} {E : Env} (ms : List (Nat × Nat × List (Nat × Nat))) {i : IN} {K : St → Prop} {s : St} (h : zI5 (zAq P E i K) (zD5 ms (True, s))) : zAq P E i K s := zKa (zEL (r := (True, s)) (fun _ => Ent.refl s) h.1).2 h.2
theorem zMf {d : Nat} {rows : List (List T)} {i : Nat} {r : List T} (h1 : zCY d rows) (h2 : ltL d r) : zCY d (rows.set i r) := fun x hx => (List.mem_or_eq_of_mem_set hx).elim (h1 x) fun e => e ▸ h2
theorem zWp {α : Type} [Inhabited α] {f : α → List T} {l : List α} {k : Nat} (h : k < l.length) : (l.map f).set k (f (nth l k)) = l.map f := by
 rw [← List.map_set, zAM h, List.set_getElem_self]
def zCS : Option State → T
 | none => .tup [.agg (State.row true st0), bl false]
 | some s => .tup [.agg (State.row true s), bl true]
theorem zMg {l : List Held} {t : Int} (hs : zAN ltI Held.Txn l) (h : hF l t = true) : hI l t < l.length ∧ (nth l (hI l t)).Txn = t := zCZ zBK hs h
theorem zMh (l : List Held) (i : Nat) (hi : i < l.length) (hl : l.length ≤ 100) : ACall p_ 203 [.sl true 5 (l.map (Held.row true)), i64 i, i64 ((i : Int) + 1)] (fun r a => r = .sl true 5 ((cutAt l i).map (Held.row true)) ∧ a = [.any, i64 i, i64 ((i : Int) + 1)]) := by
 have hmx := zAh
 have q := zMT l i ((i : Int) + 1) (by omega) (by omega) (by omega) (by omega)
 rwa [show l.take ((i : Int)).toNat ++ l.drop ((i : Int) + 1).toNat = cutAt l i by unfold cutAt; rfl] at q
theorem zSS (l : List Told) (i : Nat) (x : Told) (hi : i ≤ l.length) (hl : l.length ≤ 2 ^ 20) : ACall p_ 204 [.sl true 3 (l.map (Told.row true)), i64 i, .sl false 3 [Told.row false x]] (fun r a => r = .sl true 3 ((putAt l i x).map (Told.row true)) ∧ a = [.any, i64 i, .sl false 3 [Told.row false x]]) := by
 have q := zMW l [x] i (by omega) (by omega) hl (by simp)
 rwa [show l.take ((i : Int)).toNat ++ [x] ++ l.drop ((i : Int)).toNat = putAt l i x by unfold putAt; simp] at q
theorem zST {n : Nat} (s : State) (r : Rec) (hi : stI n s) (hn : n ≤ 100) (ht : r.Yes = true → 1 ≤ r.Time) : ACall p_ 170 [.agg (State.row false s), .agg (Rec.row false r)] (fun x _ => x = zCS (zBQ s r)) := by
 have hmx := zAh
 have hb := hi.b (by omega)
 have hHl := hi.hlen
 have hTl := hi.tlen
 have cFH := zFn s r.Txn (by omega) hi.hsrt
 have hIl : hI s.Held r.Txn ≤ s.Held.length := zDT
 have tIl : tI s.Told r.Txn ≤ s.Told.length := zDT
 have cIT := zSS s.Told (tI s.Told r.Txn) ⟨r.Txn, r.Yes, r.Time⟩ tIl (by omega)
 rw [show putAt s.Told (tI s.Told r.Txn) (⟨r.Txn, r.Yes, r.Time⟩ : Told) = zBX s r from rfl] at cIT
 have hcl : (zAQ s r).length ≤ 12 := (zJt hi r).1
 have hct : (zBX s r).length = s.Told.length + 1 := zB3 tIl
 cases hY : r.Yes with
 | false =>
  rw [hY] at cIT
  have hD : zBQ s r = some ⟨s.Floor, s.Cells, zAQ s r, zBX s r⟩ := by rw [zBQ, hY]; rfl
  rw [hD, zCS]
  have cFT := zDV ⟨s.Floor, s.Cells, zAQ s r, s.Told⟩ r.Txn (by simp only; omega) hi.tsrt
  cases hH : hF s.Held r.Txn with
  | false =>
   rw [hH] at cFH
   have hC : zAQ s r = s.Held := by rw [zAQ, hH]; rfl
   rw [hC] at cFT ⊢
   refine fg zMQ fun E hE hH => ?_; simp only [go_sem, hE, hH, zLb]
   all_goals (have y1_ := hY; repeat' (first | ((with_reducible apply ga) <;> refine zBC fun h => ?_) | ((with_reducible apply an); · omega) | (refine zAI [true, false, false] ?_; refine zAu ?_; refine cmA (cIT) ?_; refine zAu ?_) | ((first | refine zAa ?_ | refine cvA (zBA s hb) ?_ | refine cvA (cFH) ?_ | refine cvA (cFT) ?_); refine zAu ?_) | (with_reducible first | apply jn | apply both | apply an | exact ti) | exact zED | refine zAu ?_ | exact zBE | refine zBD ?_))
  | true =>
   rw [hH] at cFH
   obtain ⟨k1, k2⟩ := zMg hi.hsrt hH
   have cD := zMh s.Held (hI s.Held r.Txn) k1 (by omega)
   rw [show cutAt s.Held (hI s.Held r.Txn) = zAQ s r by rw [zAQ, hH]; rfl] at cD
   refine fg zMQ fun E hE hH => ?_; simp only [go_sem, hE, hH, zLb]
   all_goals (have y1_ := hY; repeat' (first | ((with_reducible apply ga) <;> refine zBC fun h => ?_) | ((with_reducible apply an); · omega) | (refine zAI [true, false, false] ?_; refine zAu ?_; refine cmA (cD) ?_; refine zAu ?_) | (refine zAI [true, false, false] ?_; refine zAu ?_; refine cmA (cIT) ?_; refine zAu ?_) | ((first | refine zAa ?_ | refine cvA (zBA s hb) ?_ | refine cvA (cFH) ?_ | refine cvA (cFT) ?_); refine zAu ?_) | (with_reducible first | apply jn | apply both | apply an | exact ti) | exact zED | refine zAu ?_ | exact zBE | refine zBD ?_))
 | true =>
  rw [hY] at cIT
  have ht := ht hY
  cases hH : hF s.Held r.Txn with
  | false =>
   rw [hH] at cFH
   have hD : zBQ s r = none := by rw [zBQ, hY, hH]; rfl
   rw [hD, zCS]
   refine fg zMQ fun E hE hH => ?_; simp only [go_sem, hE, hH, zLb]
   all_goals (have y1_ := hY; repeat' (first | ((with_reducible apply ga) <;> refine zBC fun h => ?_) | ((with_reducible apply an); · omega) | ((first | refine zAa ?_ | refine cvA (zBA s hb) ?_ | refine cvA (cFH) ?_); refine zAu ?_) | (with_reducible first | apply jn | apply both | apply an | exact ti) | exact zED | refine zAu ?_ | exact zBE | refine zBD ?_))
   all_goals rfl
  | true =>
   rw [hH] at cFH
   obtain ⟨k1, k2⟩ := zMg hi.hsrt hH
   have hld := zAV (hi.hok _ (zAc k1))
   have hI0 := zBy hi.cells
   have cD := zMh s.Held (hI s.Held r.Txn) k1 (by omega)
   rw [show cutAt s.Held (hI s.Held r.Txn) = zAQ s r by rw [zAQ, hH]; rfl] at cD
   have hs := fun r => zEt (f := Held.row true) (r := r) k1
   have hset := zWp (f := Held.row true) k1
   simp only [Held.row_eq] at hset
   by_cases hT : r.Time < (nth s.Held (hI s.Held r.Txn)).Time
   ·have hD : zBQ s r = none := by rw [zBQ, hY, hH, decide_eq_true hT]; rfl
    rw [hD, zCS]
    have hT2 := decide_eq_true hT
    refine fg zMQ fun E hE hH => ?_; simp only [go_sem, hE, hH, zLb]
    all_goals (have y1_ := hY; have y2_ := hT2; repeat' (first | ((with_reducible apply ga) <;> refine zHi fun h => ?_) | ((with_reducible apply an); · omega) | ((first | refine zAa ?_ | refine cvA (zBA s hb) ?_ | refine cvA (cFH) ?_); refine zCA ?_) | (with_reducible first | apply jn | apply both | apply an | exact ti) | exact zHk | refine zCA ?_ | exact zHl | refine zHj ?_))
    all_goals first | rfl
   have hT2 := decide_eq_false hT
   have cP := zQy s.Cells (nth s.Held (hI s.Held r.Txn)).Writes r.Time hI0 (fun x hx => zGC hld.2.2.1 hx) (by omega) ht
   cases hP : zHd r.Time s.Cells (nth s.Held (hI s.Held r.Txn)).Writes with
   | none =>
    rw [hP, zWj] at cP
    have hD : zBQ s r = none := by rw [zBQ, hY, hH, decide_eq_false hT, hP]; rfl
    rw [hD, zCS]
    refine fg zMQ fun E hE hH => ?_; simp only [go_sem, hE, hH, zLb]
    all_goals (have y1_ := hY; have y2_ := hT2; have y3_ := hs; have y4_ := hset; repeat' (first | ((with_reducible apply ga) <;> refine zJJ fun h => ?_) | ((with_reducible apply an); · omega) | ((first | refine zAa ?_ | refine cvA (zBA s hb) ?_ | refine cvA (cFH) ?_ | refine cvA (cP) ?_); refine zCV ?_) | (with_reducible first | apply jn | apply both | apply an | exact ti) | exact zJL | refine zCV ?_ | exact zJM | refine zJK ?_))
    all_goals try (apply zMf <;> simp only [go_sem]; done)
    all_goals first | rfl
   | some c =>
    rw [hP, zWj] at cP
    have hD : zBQ s r = some ⟨max s.Floor r.Time, c, zAQ s r, zBX s r⟩ := by rw [zBQ, hY, hH, decide_eq_false hT, hP]; rfl
    rw [hD, zCS]
    have hmax : (if r.Time > s.Floor then r.Time else s.Floor) = max s.Floor r.Time := by
     rw [Int.max_def]; split <;> split <;> omega
    have cFT := zDV ⟨max s.Floor r.Time, c, zAQ s r, s.Told⟩ r.Txn (by simp only; omega) hi.tsrt
    refine fg zMQ fun E hE hH => ?_; simp only [go_sem, hE, hH, zLb]
    all_goals (have y1_ := hY; have y2_ := hT2; have y3_ := hs; have y4_ := hset; have y5_ := hmax; repeat' (first | ((with_reducible apply ga) <;> refine zJF fun h => ?_) | ((with_reducible apply an); · omega) | (refine zAI [true, false, false] ?_; refine zDv ?_; refine cmA (cD) ?_; refine zDv ?_) | (refine zAI [true, false, false] ?_; refine zDv ?_; refine cmA (cIT) ?_; refine zDv ?_) | ((first | refine zAa ?_ | refine cvA (zBA s hb) ?_ | refine cvA (cFH) ?_ | refine cvA (cP) ?_ | refine cvA (cFT) ?_); refine zDv ?_) | (with_reducible first | apply jn | apply both | apply an | exact ti) | exact zJH | refine zDv ?_ | exact zJI | refine zJG ?_))
    all_goals try (apply zMf <;> simp only [go_sem]; done)
    all_goals first | rfl
theorem zSU (hS : zB5) {n : Nat} (s : State) (r : Rec) (hi : stI n s) (hn : n ≤ 100) (hr : zA2 r = true) : ACall p_ 126 [.agg (State.row false s), .agg (Rec.row false r)] (fun x _ => x = zCS (zA7 s r)) := by
 have hmx := zAh
 have hb := hi.b (by omega)
 have hHl := hi.hlen
 have hTl := hi.tlen
 have cFH := zFn s r.Txn (by omega) hi.hsrt
 have cFT := zDV s r.Txn (by omega) hi.tsrt
 have hIl : hI s.Held r.Txn ≤ s.Held.length := zDT
 by_cases h4 : r.Kind = 4
 ·have z1 : decide (r.Kind = 4) = true := decide_eq_true h4
  by_cases hT : r.Time ≤ s.Floor
  ·have z2 := decide_eq_true hT
   have hD : zA7 s r = none := by rw [zA7, if_pos h4, if_pos hT]
   rw [hD, zCS]
   refine fg zIb fun E hE hH => ?_; simp only [go_sem, hE, hH, zHb]
   try simp (disch := omega) only [go_sem, hE, hH, z1, z2]
   all_goals (have y1_ := z1; have y2_ := z2; repeat' (first | ((with_reducible apply ga) <;> refine zHi fun h => ?_) | ((with_reducible apply an); · omega) | (with_reducible first | apply jn | apply both | apply an | exact ti) | exact zHk | refine zCA ?_ | exact zHl | refine zHj ?_))
   all_goals first | rfl
  ·have z2 := decide_eq_false hT
   have hD : zA7 s r = some ⟨r.Time, s.Cells, s.Held, s.Told⟩ := by rw [zA7, if_pos h4, if_neg hT]
   rw [hD, zCS]
   refine fg zIb fun E hE hH => ?_; simp only [go_sem, hE, hH, zHb]
   try simp (disch := omega) only [go_sem, hE, hH, z1, z2]
   all_goals (have y1_ := z1; have y2_ := z2; repeat' (first | ((with_reducible apply ga) <;> refine zHi fun h => ?_) | ((with_reducible apply an); · omega) | ((first | refine zAa ?_ | refine cvA (zBA s hb) ?_); refine zCA ?_) | (with_reducible first | apply jn | apply both | apply an | exact ti) | exact zHk | refine zCA ?_ | exact zHl | refine zHj ?_))
   all_goals first | rfl
 have z1 : decide (r.Kind = 4) = false := decide_eq_false h4
 cases hTF : tF s.Told r.Txn with
 | true =>
  rw [hTF] at cFT
  have hD : zA7 s r = none := by rw [zA7, if_neg h4, hTF]; rfl
  rw [hD, zCS]
  refine fg zIb fun E hE hH => ?_; simp only [go_sem, hE, hH, zHb]
  try simp (disch := omega) only [go_sem, hE, hH, z1]
  all_goals (have y1_ := z1; repeat' (first | ((with_reducible apply ga) <;> refine zBC fun h => ?_) | ((with_reducible apply an); · omega) | ((first | refine zAa ?_ | refine cvA (cFT) ?_); refine zAu ?_) | (with_reducible first | apply jn | apply both | apply an | exact ti) | exact zED | refine zAu ?_ | exact zBE | refine zBD ?_))
  all_goals first | rfl
 | false =>
  rw [hTF] at cFT
  by_cases h1 : r.Kind = 1
  ·have z2 : decide (r.Kind = 1) = true := decide_eq_true h1
   have hld := zAV (zL9 hr h1)
   have hld1 : r.Reads.length ≤ 8 := hld.1
   have hld2 : r.Writes.length ≤ 8 := hld.2.1
   have cF := zXG hS s r.Reads r.Writes hi (by omega) (by omega) (zDA hld.2.2.1)
   cases hHF : hF s.Held r.Txn with
   | true =>
    rw [hHF] at cFH
    have hD : zA7 s r = none := by rw [zA7, if_neg h4, hTF, if_neg (by simp), if_neg (by simp [h1]), hHF]; rfl
    rw [hD, zCS]
    refine fg zIb fun E hE hH => ?_; simp only [go_sem, hE, hH, zHb]
    try simp (disch := omega) only [go_sem, hE, hH, z1, z2]
    all_goals (have y1_ := z1; have y2_ := z2; repeat' (first | ((with_reducible apply ga) <;> refine zHi fun h => ?_) | ((with_reducible apply an); · omega) | ((first | refine zAa ?_ | refine cvA (cFT) ?_ | refine cvA (cFH) ?_); refine zCA ?_) | (with_reducible first | apply jn | apply both | apply an | exact ti) | exact zHk | refine zCA ?_ | exact zHl | refine zHj ?_))
    all_goals first | rfl
   | false =>
    rw [hHF] at cFH
    by_cases hT : r.Time ≤ s.Floor
    ·have z3 := decide_eq_true hT
     have hD : zA7 s r = none := by rw [zA7, if_neg h4, hTF, if_neg (by simp), if_neg (by simp [h1]), hHF, z3]; rfl
     rw [hD, zCS]
     refine fg zIb fun E hE hH => ?_; simp only [go_sem, hE, hH, zHb]
     try simp (disch := omega) only [go_sem, hE, hH, z1, z2, z3]
     all_goals (have y1_ := z1; have y2_ := z2; have y3_ := z3; repeat' (first | ((with_reducible apply ga) <;> refine zFQ fun h => ?_) | ((with_reducible apply an); · omega) | ((first | refine zAa ?_ | refine cvA (cFT) ?_ | refine cvA (cFH) ?_); refine zBY ?_) | (with_reducible first | apply jn | apply both | apply an | exact ti) | exact zGF | refine zBY ?_ | exact zFS | refine zFR ?_))
     all_goals first | rfl
    have z3 := decide_eq_false hT
    cases hFt : zD3 s r.Reads r.Writes with
    | false =>
     rw [hFt] at cF
     have hD : zA7 s r = none := by rw [zA7, if_neg h4, hTF, if_neg (by simp), if_neg (by simp [h1]), hHF, z3, hFt]; rfl
     rw [hD, zCS]
     refine fg zIb fun E hE hH => ?_; simp only [go_sem, hE, hH, zHb]
     try simp (disch := omega) only [go_sem, hE, hH, z1, z2, z3]
     all_goals (have y1_ := z1; have y2_ := z2; have y3_ := z3; repeat' (first | ((with_reducible apply ga) <;> refine zFQ fun h => ?_) | ((with_reducible apply an); · omega) | ((first | refine zAa ?_ | refine cvA (cFT) ?_ | refine cvA (cFH) ?_ | refine cvA (cF) ?_); refine zBY ?_) | (with_reducible first | apply jn | apply both | apply an | exact ti) | exact zGF | refine zBY ?_ | exact zFS | refine zFR ?_))
     all_goals first | rfl
    | true =>
     rw [hFt] at cF
     have hD : zA7 s r = some ⟨r.Time, s.Cells, putAt s.Held (hI s.Held r.Txn) (hOf r), s.Told⟩ := by rw [zA7, if_neg h4, hTF, if_neg (by simp), if_neg (by simp [h1]), hHF, z3, hFt]; rfl
     rw [hD, zCS]
     have cI := zMV s.Held (hOf r) (hI s.Held r.Txn) (by omega) (by omega) (by omega)
     refine fg zIb fun E hE hH => ?_; simp only [go_sem, hE, hH, zHb]
     try simp (disch := omega) only [go_sem, hE, hH, z1, z2, z3]
     all_goals (have y1_ := z1; have y2_ := z2; have y3_ := z3; repeat' (first | ((with_reducible apply ga) <;> refine zFQ fun h => ?_) | ((with_reducible apply an); · omega) | (refine zEg [(76, 1, [(3, 1), (4, 3)])] ?_; refine zBY ?_; refine zAI [true, false, true] ?_; refine zBY ?_; refine cmA (cI) ?_; refine zBY ?_) | ((first | refine zAa ?_ | refine cvA (cFT) ?_ | refine cvA (cFH) ?_ | refine cvA (cF) ?_ | refine cvA (zBA s hb) ?_ | refine cvA (zNH r (by omega) (by omega)) ?_); refine zBY ?_) | (with_reducible first | apply jn | apply both | apply an | exact ti) | exact zGF | refine zBY ?_ | exact zFS | refine zFR ?_))
     all_goals first | rfl
  ·have z2 : decide (r.Kind = 1) = false := decide_eq_false h1
   have hD : zA7 s r = zBQ s r := by rw [zA7, if_neg h4, hTF, if_neg (by simp), if_pos h1]
   rw [hD]
   have hY : r.Yes = true → 1 ≤ r.Time := fun hY => by
    simp only [zA2, h1, h4, if_false, hY] at hr
    split at hr
    ·simp only [Bool.and_eq_true, Bool.or_eq_true, zBW, Bool.not_true, Bool.false_and, Bool.true_and, Bool.false_eq_true, or_false] at hr
     omega
    ·cases hr
   have cDec := zST s r hi hn hY
   cases hdec : zBQ s r with
   | none =>
    rw [hdec, zCS] at cDec
    rw [zCS]
    refine fg zIb fun E hE hH => ?_; simp only [go_sem, hE, hH, zHb]
    try simp (disch := omega) only [go_sem, hE, hH, z1, z2]
    all_goals (have y1_ := z1; have y2_ := z2; repeat' (first | ((with_reducible apply ga) <;> refine zHi fun h => ?_) | ((with_reducible apply an); · omega) | ((first | refine zAa ?_ | refine cvA (cFT) ?_ | refine cvA (cDec) ?_); refine zCA ?_) | (with_reducible first | apply jn | apply both | apply an | exact ti) | exact zHk | refine zCA ?_ | exact zHl | refine zHj ?_))
    all_goals first | rfl
   | some q =>
    rw [hdec, zCS] at cDec
    rw [zCS]
    refine fg zIb fun E hE hH => ?_; simp only [go_sem, hE, hH, zHb]
    try simp (disch := omega) only [go_sem, hE, hH, z1, z2]
    all_goals (have y1_ := z1; have y2_ := z2; repeat' (first | ((with_reducible apply ga) <;> refine zHi fun h => ?_) | ((with_reducible apply an); · omega) | ((first | refine zAa ?_ | refine cvA (cFT) ?_ | refine cvA (cDec) ?_); refine zCA ?_) | (with_reducible first | apply jn | apply both | apply an | exact ti) | exact zHk | refine zCA ?_ | exact zHl | refine zHj ?_))
    all_goals first | rfl
def tPl (l : List Told) (t : Int) : Nat := dnI (fun y : Told => ltI t y.Txn) l l.length
def hPl (l : List Held) (t : Int) : Nat := dnI (fun y : Held => ltI t y.Txn) l l.length
theorem zZ5 {l : List Told} (hs : zAN ltI Told.Txn l) {x : Told} (h : tF l x.Txn = false) : tPl l x.Txn = tI l x.Txn := zLZ (f := Told.Txn) zBK hs h
theorem zZ6 {l : List Held} (hs : zAN ltI Held.Txn l) {x : Held} (h : hF l x.Txn = false) : hPl l x.Txn = hI l x.Txn := zLZ (f := Held.Txn) zBK hs h
theorem zN7 (l : List Told) (t : Told) (hl : l.length ≤ 2 ^ 20) : ACall p_ 188 [.sl false 3 (l.map (Told.row false)), .agg (Told.row false t)] (fun r _ => r = .sl true 3 ((putAt l (tPl l t.Txn) t).map (Told.row true))) := by
 have hmx := zAh
 refine fg H188 fun E hE hH => ?_; simp only [go_sem, hE, hH, zZB]
 try refine st ?_; try exact ⟨⟩
 refine zGO (fun (k : Nat) => ⟨[(0, .sl false 3 (l.map (Told.row false))), (3, .ptr 4000000 0 0), (5, i64 k)], [(4000000, ⟨3, [Told.row false t]⟩)]⟩) (fun k => k ≤ l.length ∧ ∀ i, k ≤ i → i < l.length → ltI t.Txn (nth l i).Txn = true) (fun k => k) l.length ⟨Nat.le_refl _, fun i a b => absurd b (by omega)⟩ ?_
 rintro k ⟨hk, hK⟩
 have e1 : ((k : Int) - 1).toNat = k - 1 := by omega
 by_cases hgo : k ≠ 0 ∧ ltI t.Txn (nth l (k - 1)).Txn = true
 ·obtain ⟨hk0, hq⟩ := hgo
  have e2 : decide ((0 : Int) < (k : Int)) = true := decide_eq_true (by omega)
  have e3 : decide (t.Txn < (nth l (k - 1)).Txn) = true := hq
  try simp only [go_sem, hE, hH, e1, e2, e3, zJ4]
  all_goals (have y1_ := e1; have y2_ := e2; have y3_ := e3; repeat' (first | ((with_reducible apply ga) <;> refine zFQ fun h => ?_) | ((with_reducible apply an); · omega) | (with_reducible first | apply jn | apply both | apply an | exact ti) | exact zGF | refine zBY ?_ | exact zFS | refine zFR ?_))
  all_goals first | omega | (refine ⟨k - 1, ?_, ⟨by omega, fun i a b => ?_⟩, by omega⟩)
  ·rw [show ((k - 1 : Nat) : Int) = (k : Int) - 1 by omega]
  ·by_cases e : i = k - 1
   ·rw [e]; exact hq
   ·exact hK i (by omega) b
 have hd : tPl l t.Txn = k := zFE hk hK (by
  by_cases e : k = 0
  ·exact .inl e
  ·right
   cases q : ltI t.Txn (nth l (k - 1)).Txn with
   | false => rfl
   | true => exact absurd ⟨e, q⟩ hgo)
 rw [hd]
 have d1 : (l.drop k).take (l.length - k) = l.drop k := List.take_of_length_le (by simp)
 have lt1 : (l.take k).length = k := by rw [List.length_take]; omega
 have d2 : (l.take k).take k = l.take k := by rw [List.take_take, Nat.min_self]
 have d3 : ∀ (f : Told → List T) q, ((l.take k).map f ++ [q]).take (k + 1) = (l.take k).map f ++ [q] := fun f q => List.take_of_length_le (by simp; omega)
 have hdx : (l.drop k).length = l.length - k := by simp
 by_cases hk0 : k = 0
 ·subst hk0
  have fC : decide ((0 : Int) < ((0 : Nat) : Int)) = false := rfl
  have fD : decide ((0 : Int) < (0 : Int)) = false := rfl
  try simp only [go_sem, hE, hH, fC, fD, d1, d2, d3, hdx, zJ4]
  all_goals (have y1_ := fC; have y2_ := fD; have y3_ := d1; have y4_ := d2; have y5_ := d3; have y6_ := hdx; repeat' (first | ((with_reducible apply ga) <;> refine zTq fun h => ?_) | ((with_reducible apply an); · omega) | (with_reducible first | apply jn | apply both | apply an | exact ti) | exact zTs | refine zOq ?_ | exact zTt | refine zTr ?_))
  all_goals first | omega | (simp only [putAt, List.map_append, List.map_cons, List.take_zero, List.drop_zero, List.nil_append, List.append_assoc, List.cons_append]; rfl)
 ·have fC : decide ((0 : Int) < (k : Int)) = true := decide_eq_true (by omega)
  have fE : decide (t.Txn < (nth l (k - 1)).Txn) = false := by
   cases q : ltI t.Txn (nth l (k - 1)).Txn with
   | false => exact q
   | true => exact absurd ⟨hk0, q⟩ hgo
  try simp only [go_sem, hE, hH, e1, fC, fE, d1, d2, d3, hdx, lt1, zJ4]
  repeat' (first | ((with_reducible first | refine zAe ?_ ?_ | refine zAf ?_ ?_) <;> (intro h; have hb := h; (try simp only [nf] at h); simp (disch := omega) only [go_sem, hE, hH, e1, fC, fE, d1, d2, d3, hdx, lt1, hb]; (try clear hb))) | ((with_reducible refine And.intro ?_ ?_); · omega) | (with_reducible first | apply jn | apply both | refine And.intro ?_ ?_) | ((with_reducible apply zAz); (try (simp (disch := omega) only [go_sem, hE, hH, e1, fC, fE, d1, d2, d3, hdx, lt1])); first | done | rfl) | (simp (disch := omega) only [go_sem, hE, hH, e1, fC, fE, d1, d2, d3, hdx, lt1]) | ((first | apply zAj | apply zAC) <;> (simp only [go_sem, hE, hH, e1, fC, fE, d1, d2, d3, hdx, lt1]; done)) | (simp only [go_sem, hE, hH, e1, fC, fE, d1, d2, d3, hdx, lt1]) | fail)
  all_goals first | omega | (simp only [putAt, List.map_append, List.map_cons, List.take_zero, List.drop_zero, List.nil_append, List.append_assoc, List.cons_append]; rfl)
theorem zN8 (l : List Held) (t : Held) (hl : l.length ≤ 2 ^ 20) : ACall p_ 184 [.sl false 5 (l.map (Held.row false)), .agg (Held.row false t)] (fun r _ => r = .sl true 5 ((putAt l (hPl l t.Txn) t).map (Held.row false))) := by
 have hmx := zAh
 refine fg H184 fun E hE hH => ?_; simp only [go_sem, hE, hH, zZx]
 try refine st ?_; try exact ⟨⟩
 refine zGO (fun (k : Nat) => ⟨[(0, .sl false 5 (l.map (Held.row false))), (3, .ptr 4000000 0 0), (5, i64 k)], [(4000000, ⟨5, [Held.row false t]⟩)]⟩) (fun k => k ≤ l.length ∧ ∀ i, k ≤ i → i < l.length → ltI t.Txn (nth l i).Txn = true) (fun k => k) l.length ⟨Nat.le_refl _, fun i a b => absurd b (by omega)⟩ ?_
 rintro k ⟨hk, hK⟩
 have e1 : ((k : Int) - 1).toNat = k - 1 := by omega
 by_cases hgo : k ≠ 0 ∧ ltI t.Txn (nth l (k - 1)).Txn = true
 ·obtain ⟨hk0, hq⟩ := hgo
  have e2 : decide ((0 : Int) < (k : Int)) = true := decide_eq_true (by omega)
  have e3 : decide (t.Txn < (nth l (k - 1)).Txn) = true := hq
  try simp only [go_sem, hE, hH, e1, e2, e3, zJ3]
  all_goals (have y1_ := e1; have y2_ := e2; have y3_ := e3; repeat' (first | ((with_reducible apply ga) <;> refine zFQ fun h => ?_) | ((with_reducible apply an); · omega) | (with_reducible first | apply jn | apply both | apply an | exact ti) | exact zGF | refine zBY ?_ | exact zFS | refine zFR ?_))
  all_goals first | omega | (refine ⟨k - 1, ?_, ⟨by omega, fun i a b => ?_⟩, by omega⟩)
  ·rw [show ((k - 1 : Nat) : Int) = (k : Int) - 1 by omega]
  ·by_cases e : i = k - 1
   ·rw [e]; exact hq
   ·exact hK i (by omega) b
 have hd : hPl l t.Txn = k := zFE hk hK (by
  by_cases e : k = 0
  ·exact .inl e
  ·right
   cases q : ltI t.Txn (nth l (k - 1)).Txn with
   | false => rfl
   | true => exact absurd ⟨e, q⟩ hgo)
 rw [hd]
 have d1 : (l.drop k).take (l.length - k) = l.drop k := List.take_of_length_le (by simp)
 have lt1 : (l.take k).length = k := by rw [List.length_take]; omega
 have d2 : (l.take k).take k = l.take k := by rw [List.take_take, Nat.min_self]
 have d3 : ∀ (f : Held → List T) q, ((l.take k).map f ++ [q]).take (k + 1) = (l.take k).map f ++ [q] := fun f q => List.take_of_length_le (by simp; omega)
 have hdx : (l.drop k).length = l.length - k := by simp
 by_cases hk0 : k = 0
 ·subst hk0
  have fC : decide ((0 : Int) < ((0 : Nat) : Int)) = false := rfl
  have fD : decide ((0 : Int) < (0 : Int)) = false := rfl
  try simp only [go_sem, hE, hH, fC, fD, d1, d2, d3, hdx, zJ3]
  all_goals (have y1_ := fC; have y2_ := fD; have y3_ := d1; have y4_ := d2; have y5_ := d3; have y6_ := hdx; repeat' (first | ((with_reducible apply ga) <;> refine zTq fun h => ?_) | ((with_reducible apply an); · omega) | (with_reducible first | apply jn | apply both | apply an | exact ti) | exact zTs | refine zOq ?_ | exact zTt | refine zTr ?_))
  all_goals first | omega | (simp only [putAt, List.map_append, List.map_cons, List.take_zero, List.drop_zero, List.nil_append, List.append_assoc, List.cons_append]; rfl)
 ·have fC : decide ((0 : Int) < (k : Int)) = true := decide_eq_true (by omega)
  have fE : decide (t.Txn < (nth l (k - 1)).Txn) = false := by
   cases q : ltI t.Txn (nth l (k - 1)).Txn with
   | false => exact q
   | true => exact absurd ⟨hk0, q⟩ hgo
  have g3 : ∀ (f : Held → List T) q, ((l.take k).map f ++ [q] ++ (l.drop k).map f).getD k [] = q := fun f q => by
   have ea : ((l.take k).map f).length = k := by rw [List.length_map, lt1]
   rw [List.append_assoc, List.getD_eq_getElem?_getD, List.getElem?_append_right (by omega), ea, Nat.sub_self]; rfl
  try simp only [go_sem, hE, hH, e1, fC, fE, d1, d2, d3, hdx, lt1, g3, zJ3]
  repeat' (first | ((with_reducible first | refine zAe ?_ ?_ | refine zAf ?_ ?_) <;> (intro h; have hb := h; (try simp only [nf] at h); simp (disch := omega) only [go_sem, hE, hH, e1, fC, fE, d1, d2, d3, hdx, lt1, g3, hb]; (try clear hb))) | ((with_reducible refine And.intro ?_ ?_); · omega) | (with_reducible first | apply jn | apply both | refine And.intro ?_ ?_) | ((with_reducible apply zAz); (try (simp (disch := omega) only [go_sem, hE, hH, e1, fC, fE, d1, d2, d3, hdx, lt1, g3])); first | done | rfl) | (simp (disch := omega) only [go_sem, hE, hH, e1, fC, fE, d1, d2, d3, hdx, lt1, g3]) | ((first | apply zAj | apply zAC) <;> (simp only [go_sem, hE, hH, e1, fC, fE, d1, d2, d3, hdx, lt1, g3]; done)) | (simp only [go_sem, hE, hH, e1, fC, fE, d1, d2, d3, hdx, lt1, g3]) | fail)
  all_goals first | omega | (simp only [putAt, List.map_append, List.map_cons, List.take_zero, List.drop_zero, List.nil_append, List.append_assoc, List.cons_append]; rfl)
theorem zSV (l : List Held) (t : Int) (hl : l.length ≤ 2 ^ 20) : ACall p_ 187 [.sl false 5 (l.map (Held.row false)), i64 t] (fun r _ => r = .sl true 5 ((l.filter fun x => !decide (x.Txn = t)).map (Held.row false))) := by
 have hmx := zAh
 refine fg H187 fun E hE hH => ?_; simp only [go_sem, hE, hH, zZA]
 refine zAK l.length (fun j (x : List Held) => ⟨[(1, i64 t), (5, .ref 6000000 0 x.length), (8, .sl false 5 (l.map (Held.row false))), (9, i64 l.length), (10, i64 j)], [(6000000, ⟨5, x.map (Held.row false)⟩)]⟩) (fun j x => x = (l.take j).filter fun x => !decide (x.Txn = t)) [] rfl ?_
 intro j x hj hx
 have hxl : x.length ≤ j := by
  have h1 : x.length ≤ (l.take j).length := by rw [hx]; exact List.length_filter_le _ _
  rw [List.length_take] at h1; omega
 have hxt : x.take x.length = x := List.take_length
 try simp only [go_sem, hE, hH, zRt]
 first | refine zAe (fun h => ?_) (fun h => ?_) | refine zAf (fun h => ?_) (fun h => ?_)
 ·have hb := h
  simp only [nf] at h
  have hlt := h; clear h
  try refine sb ?_; try exact ⟨⟩
  repeat' (first | ((with_reducible apply ga) <;> refine gs fun h => ?_) | ((with_reducible apply an); · omega) | (with_reducible first | apply jn | apply both | apply an | exact ti) | exact fj | refine st ?_ | exact fm | refine s1 ?_)
  all_goals try omega
  ·have e : (l.take (j + 1)).filter (fun x => !decide (x.Txn = t)) = x ++ [nth l j] := by
    rw [zAp hlt, List.filter_append, ← hx]
    simp [h]
   rw [e, List.length_append, List.map_append]
   rfl
  ·have e : (l.take (j + 1)).filter (fun x => !decide (x.Txn = t)) = x := by
    rw [zAp hlt, List.filter_append, ← hx]
    simp [h]
   rw [e]
   rfl
 ·try simp (disch := omega) only [go_sem, hE, hH, h]
  simp only [nf] at h
  rw [show j = l.length by omega, List.take_length] at hx
  subst hx
  rfl
theorem ACall.dshN {P : Program} {f : Nat} {args : List T} {α : Type} {X : α → T} {C : α → Prop} (h : ACall P f args (fun r _ => ∃ q, zAX r.dsh (X q) ∧ C q)) : ACall P f args (fun r _ => ∃ q, r = X q ∧ C q) := by
 refine ACall.nil (h.dshR.mono ?_)
 rintro r l ⟨r0, ⟨q, h1, h2⟩, rfl⟩
 exact ⟨X q, h1, q, rfl, h2⟩
def zBG (q : State) (b : Bool) : T := .tup [.agg (State.row false q), bl b]
theorem zGU {C : State → Prop} {r : T} {l : List T} {b : Bool} (q : State) (h : zAX r.dsh (zBG q b)) (hC : C q) : zEO (fun r _ => ∃ q, zAX r.dsh (zBG q b) ∧ C q) r l := zEP ⟨q, h, hC⟩
theorem zCH {C : State → Prop} {r : T} {l : List T} {b : Bool} (q : State) (b0 : Bool) (h : zAX r.dsh (zBG q b0)) (hb : b0 = b) (hC : C q) : zEO (fun r _ => ∃ q, zAX r.dsh (zBG q b) ∧ C q) r l := zGU q (hb ▸ h) hC
theorem zHG {n : Nat} {s : State} {r : Rec} (hi : stI n s) : zAQ s r = s.Held.filter fun x => !decide (x.Txn = r.Txn) := by
 unfold zAQ
 cases hH : hF s.Held r.Txn with
 | true =>
  obtain ⟨k1, k2⟩ := zMg hi.hsrt hH
  rw [if_pos rfl, zPA (f := Held.Txn) zBK hi.hsrt k1, k2]
 | false =>
  rw [if_neg (by simp)]
  symm
  rw [List.filter_eq_self]
  intro x hx
  rw [hF, fxF, List.any_eq_false] at hH
  simpa using hH x hx
theorem zQB {n : Nat} (s : State) (r : Rec) (hi : stI n s) (hn : n ≤ 100) (hr : zA2 r = true) : ACall p_ 148 [.agg (State.row false s), .agg (Rec.row false r)] (fun x _ => ∃ q, x = zBG q (zA7 s r).isSome ∧ ∀ s', zA7 s r = some s' → q = s') := by
 have hmx := zAh
 have hb := hi.b (by omega)
 have hHl := hi.hlen
 have hTl := hi.tlen
 have cO := zJx s hb
 have cFH := zGB s r.Txn (by omega) hi.hsrt
 have cFT := zEA s r.Txn (by omega) hi.tsrt
 refine ACall.dshN (X := fun q => zBG q (zA7 s r).isSome) ?_
 by_cases h4 : r.Kind = 4
 ·have z1 : decide (r.Kind = 4) = true := decide_eq_true h4
  have hD : zA7 s r = if r.Time ≤ s.Floor then none else some ⟨r.Time, s.Cells, s.Held, s.Told⟩ := by rw [zA7, if_pos h4]
  refine fg zIc fun E hE hH => ?_; simp only [go_sem, hE, hH, zHc]
  try simp (disch := omega) only [go_sem, hE, hH, z1]
  all_goals (have y1_ := z1; repeat' (first | ((with_reducible apply ga) <;> refine zBC fun h => ?_) | ((with_reducible apply an); · omega) | ((first | refine zAa ?_ | refine cvA (cO) ?_ | refine cvA (cFH) ?_ | refine cvA (cFT) ?_); refine zAu ?_) | (with_reducible first | apply jn | apply both | apply an | exact ti) | exact zED | refine zAu ?_ | exact zBE | refine zBD ?_))
  by_cases hT : r.Time ≤ s.Floor
  ·rw [if_pos hT] at hD
   refine zGU ⟨r.Time, s.Cells, s.Held, s.Told⟩ ?_ (fun s' e => by rw [hD] at e; cases e)
   rw [hD, zBG, decide_eq_false (by omega)]
   simp only [go_sem]
   (repeat' apply And.intro) <;> rfl
  ·rw [if_neg hT] at hD
   refine zGU ⟨r.Time, s.Cells, s.Held, s.Told⟩ ?_ (fun s' e => by rw [hD] at e; injection e)
   rw [hD, zBG, decide_eq_true (by omega)]
   simp only [go_sem]
   (repeat' apply And.intro) <;> rfl
 have z1 : decide (r.Kind = 4) = false := decide_eq_false h4
 cases hTF : tF s.Told r.Txn with
 | true =>
  rw [hTF] at cFT
  have hD : zA7 s r = none := by rw [zA7, if_neg h4, hTF]; rfl
  refine fg zIc fun E hE hH => ?_; simp only [go_sem, hE, hH, zHc]
  try simp (disch := omega) only [go_sem, hE, hH, z1]
  all_goals (have y1_ := z1; repeat' (first | ((with_reducible apply ga) <;> refine zBC fun h => ?_) | ((with_reducible apply an); · omega) | ((first | refine zAa ?_ | refine cvA (cO) ?_ | refine cvA (cFH) ?_ | refine cvA (cFT) ?_); refine zAu ?_) | (with_reducible first | apply jn | apply both | apply an | exact ti) | exact zED | refine zAu ?_ | exact zBE | refine zBD ?_))
  refine zGU s ?_ (fun s' e => by rw [hD] at e; cases e)
  rw [hD, zBG]
  simp only [go_sem]
  (repeat' apply And.intro) <;> rfl
 | false =>
  rw [hTF] at cFT
  by_cases h1 : r.Kind = 1
  ·have z2 : decide (r.Kind = 1) = true := decide_eq_true h1
   have hld := zAV (zL9 hr h1)
   have hld1 : r.Reads.length ≤ 8 := hld.1
   have hld2 : r.Writes.length ≤ 8 := hld.2.1
   have cF := zSR s r.Reads r.Writes hi (by omega) (by omega)
   have hA : zA7 s r = if (hF s.Held r.Txn || decide (r.Time ≤ s.Floor) || !zD3 s r.Reads r.Writes) = true then none else some ⟨r.Time, s.Cells, putAt s.Held (hI s.Held r.Txn) (hOf r), s.Told⟩ := by rw [zA7, if_neg h4, hTF, if_neg (by simp), if_neg (by simp [h1])]
   have hQ : ∀ s', zA7 s r = some s' → (⟨r.Time, s.Cells, putAt s.Held (hPl s.Held r.Txn) (hOf r), s.Told⟩ : State) = s' := by
    intro s' e
    rw [hA] at e
    split at e
    ·cases e
    ·rename_i hcond
     injection e with e
     have hh : hF s.Held r.Txn = false := by
      cases q : hF s.Held r.Txn with
      | false => rfl
      | true => rw [q] at hcond; simp at hcond
     rw [← e, show hPl s.Held r.Txn = hI s.Held r.Txn from zZ6 (x := hOf r) hi.hsrt hh]
   have cPH : ACall p_ 184 [.sl true 5 (s.Held.map (Held.row true)), .agg (Held.row true (hOf r))] (fun x l => x = .sl true 5 ((putAt s.Held (hPl s.Held r.Txn) (hOf r)).map (Held.row false)) ∧ l = [.any, .any]) := zPi (zN8 s.Held (hOf r) (by omega)) (by simp only [go_sem]; rfl) rfl
   refine fg zIc fun E hE hH => ?_; simp only [go_sem, hE, hH, zHc]
   try simp (disch := omega) only [go_sem, hE, hH, z1, z2]
   all_goals (have y1_ := z1; have y2_ := z2; repeat' (first | ((with_reducible apply ga) <;> refine zHi fun h => ?_) | ((with_reducible apply an); · omega) | (refine zAI [true, true] ?_; refine zCA ?_; refine cmA (cPH) ?_; refine zCA ?_) | ((first | refine zAa ?_ | refine cvA (cO) ?_ | refine cvA (cFH) ?_ | refine cvA (cFT) ?_ | refine cvA (zDp _ (by omega)) ?_ | refine cvA (cF) ?_); refine zCA ?_) | (with_reducible first | apply jn | apply both | apply an | exact ti) | exact zHk | refine zCA ?_ | exact zHl | refine zHj ?_))
   ·refine zCH ⟨r.Time, s.Cells, putAt s.Held (hPl s.Held r.Txn) (hOf r), s.Told⟩ (zD3 s r.Reads r.Writes) ?_ ?_ hQ
    ·(rw [zBG]; simp only [go_sem]; (repeat' apply And.intro) <;> rfl)
    ·rw [hA]
     cases hq : zD3 s r.Reads r.Writes <;> (split <;> simp_all <;> omega)
   all_goals (
    refine zCH ⟨r.Time, s.Cells, putAt s.Held (hPl s.Held r.Txn) (hOf r), s.Told⟩ false ?_ ?_ hQ
    ·(rw [zBG]; simp only [go_sem]; (repeat' apply And.intro) <;> rfl)
    ·rw [hA]
     split <;> simp_all <;> omega)
  ·have z2 : decide (r.Kind = 1) = false := decide_eq_false h1
   have hD : zA7 s r = zBQ s r := by rw [zA7, if_neg h4, hTF, if_neg (by simp), if_pos h1]
   have hpt : tPl s.Told r.Txn = tI s.Told r.Txn := zZ5 (x := (⟨r.Txn, r.Yes, r.Time⟩ : Told)) hi.tsrt hTF
   have cPT := zN7 s.Told ⟨r.Txn, r.Yes, r.Time⟩ (by omega)
   rw [show (⟨r.Txn, r.Yes, r.Time⟩ : Told).Txn = r.Txn from rfl, hpt, show putAt s.Told (tI s.Told r.Txn) (⟨r.Txn, r.Yes, r.Time⟩ : Told) = zBX s r from rfl] at cPT
   have cLs : ACall p_ 187 [.sl true 5 (s.Held.map (Held.row true)), i64 r.Txn] (fun x l => x = .sl true 5 ((zAQ s r).map (Held.row false)) ∧ l = [.any, .any]) := by
    rw [zHG hi]
    exact zPi (zSV s.Held r.Txn (by omega)) (by simp only [go_sem]; rfl) rfl
   have hcl : (zAQ s r).length ≤ 12 := (zJt hi r).1
   cases hY : r.Yes with
   | false =>
    rw [hY] at cPT
    have hE2 : zBQ s r = some ⟨s.Floor, s.Cells, zAQ s r, zBX s r⟩ := by rw [zBQ, hY]; rfl
    rw [hE2] at hD
    refine fg zIc fun E hE hH => ?_; simp only [go_sem, hE, hH, zHc]
    try simp (disch := omega) only [go_sem, hE, hH, z1, z2, hY]
    all_goals (have y1_ := z1; have y2_ := z2; have y3_ := hY; repeat' (first | ((with_reducible apply ga) <;> refine zFQ fun h => ?_) | ((with_reducible apply an); · omega) | (refine zAI [true, false] ?_; refine zBY ?_; refine cmA (cLs) ?_; refine zBY ?_) | ((first | refine zAa ?_ | refine cvA (cO) ?_ | refine cvA (cFH) ?_ | refine cvA (cFT) ?_ | refine cvA (cPT) ?_); refine zBY ?_) | (with_reducible first | apply jn | apply both | apply an | exact ti) | exact zGF | refine zBY ?_ | exact zFS | refine zFR ?_))
    refine zCH ⟨s.Floor, s.Cells, zAQ s r, zBX s r⟩ true ?_ (by rw [hD]; rfl) (fun s' e => by rw [hD] at e; injection e)
    (rw [zBG]; simp only [go_sem]; (repeat' apply And.intro) <;> rfl)
   | true =>
    rw [hY] at cPT
    have hTm : 1 ≤ r.Time := by
     simp only [zA2, h1, h4, if_false, hY] at hr
     split at hr
     ·simp only [Bool.and_eq_true, Bool.or_eq_true, zBW, Bool.not_true, Bool.false_and, Bool.true_and, Bool.false_eq_true, or_false] at hr
      omega
     ·cases hr
    cases hH : hF s.Held r.Txn with
    | false =>
     rw [hH] at cFH
     have hE2 : zBQ s r = none := by rw [zBQ, hY, hH]; rfl
     rw [hE2] at hD
     refine fg zIc fun E hE hH => ?_; simp only [go_sem, hE, hH, zHc]
     try simp (disch := omega) only [go_sem, hE, hH, z1, z2, hY]
     all_goals (have y1_ := z1; have y2_ := z2; have y3_ := hY; repeat' (first | ((with_reducible apply ga) <;> refine zFQ fun h => ?_) | ((with_reducible apply an); · omega) | ((first | refine zAa ?_ | refine cvA (cO) ?_ | refine cvA (cFH) ?_ | refine cvA (cFT) ?_); refine zBY ?_) | (with_reducible first | apply jn | apply both | apply an | exact ti) | exact zGF | refine zBY ?_ | exact zFS | refine zFR ?_))
     refine zCH s false ?_ (by rw [hD]; rfl) (fun s' e => by rw [hD] at e; cases e)
     (rw [zBG]; simp only [go_sem]; (repeat' apply And.intro) <;> rfl)
    | true =>
     rw [hH] at cFH
     obtain ⟨k1, k2⟩ := zMg hi.hsrt hH
     have hld := zAV (hi.hok _ (zAc k1))
     have hI0 := zBy hi.cells
     have hN : zMY s.Held r.Txn = nth s.Held (hI s.Held r.Txn) := by rw [zMY, hH, if_pos rfl]
     rw [hN] at cFH
     by_cases hT : r.Time < (nth s.Held (hI s.Held r.Txn)).Time
     ·have hE2 : zBQ s r = none := by rw [zBQ, hY, hH, decide_eq_true hT]; rfl
      rw [hE2] at hD
      have hT2 := decide_eq_true hT
      refine fg zIc fun E hE hH => ?_; simp only [go_sem, hE, hH, zHc]
      try simp (disch := omega) only [go_sem, hE, hH, z1, z2, hY, hT2]
      all_goals (have y1_ := z1; have y2_ := z2; have y3_ := hY; have y4_ := hT2; repeat' (first | ((with_reducible apply ga) <;> refine zJJ fun h => ?_) | ((with_reducible apply an); · omega) | ((first | refine zAa ?_ | refine cvA (cO) ?_ | refine cvA (cFH) ?_ | refine cvA (cFT) ?_); refine zCV ?_) | (with_reducible first | apply jn | apply both | apply an | exact ti) | exact zJL | refine zCV ?_ | exact zJM | refine zJK ?_))
      refine zCH s false ?_ (by rw [hD]; rfl) (fun s' e => by rw [hD] at e; cases e)
      (rw [zBG]; simp only [go_sem]; (repeat' apply And.intro) <;> rfl)
     have hT2 := decide_eq_false hT
     have cP := zWl s.Cells (nth s.Held (hI s.Held r.Txn)).Writes r.Time hI0 (fun x hx => zGC hld.2.2.1 hx) (by omega) hTm
     cases hP : zC0 r.Time (nth s.Held (hI s.Held r.Txn)).Writes (some s.Cells) with
     | none =>
      rw [hP] at cP
      simp only [zSO] at cP
      have hE2 : zBQ s r = none := by rw [zBQ, hY, hH, hT2, zHd, hP]; rfl
      rw [hE2] at hD
      refine fg zIc fun E hE hH => ?_; simp only [go_sem, hE, hH, zHc]
      try simp (disch := omega) only [go_sem, hE, hH, z1, z2, hY, hT2]
      all_goals (have y1_ := z1; have y2_ := z2; have y3_ := hY; have y4_ := hT2; repeat' (first | ((with_reducible apply ga) <;> refine zJJ fun h => ?_) | ((with_reducible apply an); · omega) | ((first | refine zAa ?_ | refine cvA (cO) ?_ | refine cvA (cFH) ?_ | refine cvA (cFT) ?_ | refine cvA (cP) ?_); refine zCV ?_) | (with_reducible first | apply jn | apply both | apply an | exact ti) | exact zJL | refine zCV ?_ | exact zJM | refine zJK ?_))
      refine zCH s false ?_ (by rw [hD]; rfl) (fun s' e => by rw [hD] at e; cases e)
      (rw [zBG]; simp only [go_sem]; (repeat' apply And.intro) <;> rfl)
     | some c =>
      rw [hP] at cP
      simp only [zSO] at cP
      cases hG : zA1 c with
      | false =>
       rw [hG] at cP
       have hE2 : zBQ s r = none := by rw [zBQ, hY, hH, hT2, zHd, hP]; simp [hG]
       rw [hE2] at hD
       refine fg zIc fun E hE hH => ?_; simp only [go_sem, hE, hH, zHc]
       try simp (disch := omega) only [go_sem, hE, hH, z1, z2, hY, hT2]
       all_goals (have y1_ := z1; have y2_ := z2; have y3_ := hY; have y4_ := hT2; repeat' (first | ((with_reducible apply ga) <;> refine zJJ fun h => ?_) | ((with_reducible apply an); · omega) | ((first | refine zAa ?_ | refine cvA (cO) ?_ | refine cvA (cFH) ?_ | refine cvA (cFT) ?_ | refine cvA (cP) ?_); refine zCV ?_) | (with_reducible first | apply jn | apply both | apply an | exact ti) | exact zJL | refine zCV ?_ | exact zJM | refine zJK ?_))
       refine zCH s false ?_ (by rw [hD]; rfl) (fun s' e => by rw [hD] at e; cases e)
       (rw [zBG]; simp only [go_sem]; (repeat' apply And.intro) <;> rfl)
      | true =>
       rw [hG] at cP
       have hE2 : zBQ s r = some ⟨max s.Floor r.Time, c, zAQ s r, zBX s r⟩ := by rw [zBQ, hY, hH, hT2, zHd, hP]; simp [hG]
       rw [hE2] at hD
       have hmx2 : zOo s.Floor r.Time = max s.Floor r.Time := by
        rw [zOo, Int.max_def]; split <;> split <;> omega
       refine fg zIc fun E hE hH => ?_; simp only [go_sem, hE, hH, zHc]
       try simp (disch := omega) only [go_sem, hE, hH, z1, z2, hY, hT2, hmx2]
       all_goals (have y1_ := z1; have y2_ := z2; have y3_ := hY; have y4_ := hT2; have y5_ := hmx2; repeat' (first | ((with_reducible apply ga) <;> refine zJF fun h => ?_) | ((with_reducible apply an); · omega) | (refine zAI [true, false] ?_; refine zDv ?_; refine cmA (cLs) ?_; refine zDv ?_) | ((first | refine zAa ?_ | refine cvA (cO) ?_ | refine cvA (cFH) ?_ | refine cvA (cFT) ?_ | refine cvA (cP) ?_ | refine cvA (zUX _ _) ?_ | refine cvA (cPT) ?_); refine zDv ?_) | (with_reducible first | apply jn | apply both | apply an | exact ti) | exact zJH | refine zDv ?_ | exact zJI | refine zJG ?_))
       refine zCH ⟨max s.Floor r.Time, c, zAQ s r, zBX s r⟩ true ?_ (by rw [hD]; rfl) (fun s' e => by rw [hD] at e; injection e)
       (rw [zBG]; simp only [go_sem]; (repeat' apply And.intro) <;> rfl)
theorem zE8 {α : Type} {f : α → Nat} {C : Nat} : ∀ {l : List α}, (∀ x ∈ l, f x ≤ C) → szL f l ≤ (C + 1) * l.length
 | [], _ => by simp [szL]
 | x :: l, h => by
  have h1 := zE8 (l := l) fun y hy => h y (List.mem_cons_of_mem _ hy)
  have h2 := h x List.mem_cons_self
  simp only [szL, List.map_cons, List.sum_cons, List.length_cons, Nat.mul_succ] at h1 ⊢
  omega
theorem zIh {l : List ByteArray} (h : zBO l = true) : ∀ x ∈ l, zBm x = true := by
 intro x hx
 obtain ⟨i, hi, rfl⟩ := List.getElem_of_mem hx
 simp only [zBO] at h
 have := zAv.1 h i hi
 simp only [Bool.and_eq_true, zAM hi] at this
 exact this.1
theorem stI.sz {n : Nat} {s : State} (h : stI n s) (hn : n ≤ 1000) : s.sz ≤ 2 ^ 20 := by
 have hc := zBy h.cells
 have hl := hc.len
 have h1 : szL Cell.sz s.Cells ≤ (2000 + 1) * s.Cells.length := zE8 fun c q => by
  have h2 := (hc.one c q).2
  have h3 := hc.wf c q
  have h4 : szL Ver.sz c.Vers ≤ (100 + 1) * c.Vers.length := zE8 fun v hv => h3.2 v hv
  have h5 : (100 + 1) * c.Vers.length ≤ (100 + 1) * 16 := Nat.mul_le_mul_left _ (by omega)
  show c.Key.size + szL Ver.sz c.Vers ≤ 2000
  omega
 have h2 : szL Held.sz s.Held ≤ (2000 + 1) * s.Held.length := zE8 fun x q => by
  have h3 := zAV (h.hok x q)
  have h4 : szL ByteArray.size x.Reads ≤ (100 + 1) * x.Reads.length := zE8 fun v hv => by
   have := zCQ (zIh h3.2.2.2.1 v hv); omega
  have h5 : szL Write.sz x.Writes ≤ (100 + 1) * x.Writes.length := zE8 fun v hv => by
   obtain ⟨i, hi, rfl⟩ := List.getElem_of_mem hv
   have h6 := h3.2.2.1
   rw [zFN] at h6
   simp only [Bool.and_eq_true, Bool.not_eq_true', List.any_eq_false] at h6
   have h7 := zCQ (zIh h6.1.2 _ (List.mem_map.2 ⟨_, hv, rfl⟩))
   have h8 := h6.2 _ hv
   have h8 : stored (x.Writes[i]).Val (x.Writes[i]).Gone = true := by simpa using h8
   have := zFl h8
   show (x.Writes[i]).Key.size + (x.Writes[i]).Val.size ≤ 100
   omega
  have h6 : (100 + 1) * x.Reads.length ≤ (100 + 1) * 8 := Nat.mul_le_mul_left _ (by omega)
  have h7 : (100 + 1) * x.Writes.length ≤ (100 + 1) * 8 := Nat.mul_le_mul_left _ (by omega)
  show szL ByteArray.size x.Reads + szL Write.sz x.Writes ≤ 2000
  omega
 have h3 := h.tlen
 have h4 := h.hlen
 have h5 : (2000 + 1) * s.Cells.length ≤ (2000 + 1) * 24 := Nat.mul_le_mul_left _ (by omega)
 have h6 : (2000 + 1) * s.Held.length ≤ (2000 + 1) * 12 := Nat.mul_le_mul_left _ (by omega)
 show szL Cell.sz s.Cells + szL Held.sz s.Held + s.Told.length ≤ 2 ^ 20
 omega
def zBr (s : State) (i : Nat) : Bool := zA2 (zDd (nth s.Held i)) && decide ((nth s.Held i).Time ≤ s.Floor) && (decide (i = 0) || decide ((nth s.Held (i - 1)).Txn < (nth s.Held i).Txn)) && !((s.Held.take i).any fun k => zBz (nth s.Held i) k) && !((nth s.Held i).Writes.any fun w => decide ((nth s.Held i).Time ≤ zA8 s.Cells w.Key))
def zCI (s : State) : Bool := zAD (zBr s) s.Held.length && (decide ((s.Held.length : Int) ≤ 12) && zB9 s.Cells (zAY s.Held))
def zCx (s : State) (i : Nat) : Bool := rng (nth s.Told i).Txn 1 60 && (((nth s.Told i).Yes && rng (nth s.Told i).Time 1 s.Floor) || (!(nth s.Told i).Yes && decide ((nth s.Told i).Time = 0))) && (decide (i = 0) || decide ((nth s.Told (i - 1)).Txn < (nth s.Told i).Txn)) && !hF s.Held (nth s.Told i).Txn
def zA6 (s : State) : Bool := rng s.Floor 0 100000 && zA1 s.Cells && zCI s && decide ((s.Told.length : Int) ≤ 60) && (s.Cells.all fun c => decide (zA8 s.Cells c.Key ≤ s.Floor)) && zAD (zCx s) s.Told.length
theorem zPR (h k : Held) (h1 : h.Writes.length ≤ 2 ^ 20) (h2 : k.Writes.length ≤ 2 ^ 20) (h3 : h.Reads.length ≤ 2 ^ 20) (h4 : k.Reads.length ≤ 2 ^ 20) (s1 : zFO h.Writes) (s2 : zFO k.Writes) : ACall p_ 158 ([.agg (Held.row false k)] ++ [.bx false (Held.row false h)]) (fun r _ => r = bl (zBz h k)) := by
 refine fg H158 fun E hE hH => ?_; simp only [go_sem, hE, hH, zZc]
 repeat' (first | ((with_reducible apply ga) <;> refine gs fun h => ?_) | ((with_reducible apply an); · omega) | ((first | refine zAa ?_ | refine cvA (zPQ h k h1 h2 h3 h4 s1 s2) ?_); refine st ?_) | refine jn _ ?_ ?_ | (with_reducible first | apply both | apply an | exact ti) | exact fe | refine st ?_ | exact fm | refine s1 ?_)
theorem zPS (s : State) (h : Held) (w : Write) (hc : cellI 0 s.Cells) : ACall p_ 161 ([.agg (Write.row false w)] ++ [.bx false (Held.row false h), .bx false (State.row false s)]) (fun r _ => r = bl (decide (h.Time ≤ zA8 s.Cells w.Key))) := by
 have hl := hc.len
 refine fg H161 fun E hE hH => ?_; simp only [go_sem, hE, hH, zZe]
 repeat' (first | ((with_reducible apply ga) <;> refine gs fun h => ?_) | ((with_reducible apply an); · omega) | ((first | refine zAa ?_ | refine cvA (zHe s.Cells w.Key (by omega) hc.srt (fun c q => by have := hc.one c q; omega)) ?_); refine st ?_) | (with_reducible first | apply jn | apply both | apply an | exact ti) | exact fj | refine st ?_ | exact fm | refine s1 ?_)
theorem zEh {s : State} {j : Nat} (hlt : j < s.Held.length) (h : zBr s j = false) : zCI s = false := by
 rw [zCI, zBh hlt h]; rfl
theorem zF6 {s : State} {j : Nat} (h : zBr s j = true) : zD2 (nth s.Held j) := by
 simp only [zBr, Bool.and_eq_true] at h
 exact h.1.1.1.1
def zGV (s : State) : Prop := s.Held.length ≤ 2 ^ 20 ∧ ∀ h ∈ s.Held, h.wf ∧ h.Reads.length ≤ 2 ^ 20 ∧ h.Writes.length ≤ 2 ^ 20
theorem zSW (hS : zB5) (s : State) (hw : zGV s) (hc : zA1 s.Cells = true) : ACall p_ 112 [.agg (State.row false s)] (fun r _ => r = bl (zCI s)) := by
 have hmx := zAh
 obtain ⟨hl, hx⟩ := hw
 have hI0 := zBy hc
 refine fg H112 fun E hE hH => ?_; simp only [go_sem, hE, hH, zYK]
 try refine st ?_; try exact ⟨⟩
 refine zAG s.Held.length (fun j (_ : Unit) => ⟨[(1, .ptr 2000000 0 0), (6, .sl false 5 (s.Held.map (Held.row false))), (7, i64 s.Held.length), (8, i64 j)], [(2000000, ⟨4, [State.row false s]⟩)]⟩) (fun j _ => zAD (zBr s) j = true) () rfl rfl ?_
 intro j _ hj hI
 try simp only [go_sem, hE, hH, zQ1]
 first | refine zAe (fun h => ?_) (fun h => ?_) | refine zAf (fun h => ?_) (fun h => ?_)
 ·have hb := h
  simp only [nf] at h
  have hlt : j < s.Held.length := by omega
  obtain ⟨q1, q2, q3⟩ := hx _ (zAc hlt)
  have hwf : (zDd (nth s.Held j)).wf := by
   unfold Held.wf at q1
   unfold Rec.wf zDd
   simp_all
  have hP : ∀ k ∈ s.Held.take j, zD2 k := by
   intro k hk
   obtain ⟨i, hi, rfl⟩ := List.getElem_of_mem hk
   rw [List.length_take] at hi
   have := zF6 (zAv.1 hI i (by omega))
   rw [zAM (by omega)] at this
   rwa [List.getElem_take]
  try refine sb ?_; try exact ⟨⟩
  repeat' (first | ((with_reducible apply ga) <;> refine gs fun h => ?_) | ((with_reducible apply an); · omega) | ((first | refine zAa ?_ | refine cvA (zKw (nth s.Held j)) ?_ | refine cvA (zL7 (zDd (nth s.Held j)) hwf) ?_); refine st ?_) | (with_reducible first | apply jn | apply both | apply an | exact ti) | exact fj | refine st ?_ | exact fm | refine s1 ?_)
  all_goals try (rw [zEh hlt (by first | (simp_all [zBr]; done) | (simp_all [zBr]; omega))]; done)
  all_goals try (
   have hA : zA2 (zDd (nth s.Held j)) = true := by assumption
   have hA2 := zAV hA
   have hA3 := zDA hA2.2.2.1
   have cF1 := zEu (s.Held.take j) 158 [.bx false (Held.row false (nth s.Held j))] (fun k => zBz (nth s.Held j) k) (by kernel_rfl) rfl (by rw [List.length_take]; omega) (fun k hk => zPR (nth s.Held j) k q3 (by have := zAV (hP k hk); omega) q2 (by have := zAV (hP k hk); omega) hA3 (zDA (zAV (hP k hk)).2.2.1))
   have cF2 := zCP (nth s.Held j).Writes 161 [.bx false (Held.row false (nth s.Held j)), .bx false (State.row false s)] (fun w => decide ((nth s.Held j).Time ≤ zA8 s.Cells w.Key)) (by kernel_rfl) rfl (by omega) (fun w _ => zPS s (nth s.Held j) w hI0)
   repeat' (first | ((with_reducible apply ga) <;> refine gs fun h => ?_) | ((with_reducible apply an); · omega) | ((first | refine zAa ?_ | refine cvA (cF1) ?_ | refine cvA (cF2) ?_); refine st ?_) | (with_reducible first | apply jn | apply both | apply an | exact ti) | exact fj | refine st ?_ | exact fm | refine s1 ?_)
   all_goals clear cF1 cF2 hP hx hwf hA3
   all_goals first | (rw [zEh hlt (by rw [zBr, h]; simp)]; done) | (rw [zEh hlt (by first | (simp_all [zBr]; done) | (simp_all [zBr]; omega))]; done) | exact ⟨(), rfl, zAl hI (by first | (simp_all [zBr]; done) | (simp_all [zBr]; omega))⟩ | trace_state)
 ·try simp (disch := omega) only [go_sem, hE, hH, h]
  simp only [nf] at h
  rw [show j = s.Held.length by omega] at hI
  have hB : ∀ k ∈ s.Held, zD2 k := by
   intro k hk
   obtain ⟨i, hi, rfl⟩ := List.getElem_of_mem hk
   have := zF6 (zAv.1 hI i hi)
   rwa [zAM hi] at this
  have hT : ∀ i, i < s.Held.length → (i : Int) + 1 ≤ (nth s.Held i).Txn := by
   intro i
   induction i with
   | zero => intro hi; have := zAV (hB _ (zAc hi)); omega
   | succ i ih =>
    intro hi
    have h1 := ih (by omega)
    have h2 := zAv.1 hI (i + 1) hi
    simp only [zBr, Bool.and_eq_true, Bool.or_eq_true, decide_eq_true_eq, Nat.add_sub_cancel] at h2
    have h3 := h2.1.1.2.resolve_left (by omega)
    omega
  have h100 : s.Held.length ≤ 100 := by
   rcases Nat.eq_zero_or_pos s.Held.length with e | e
   ·omega
   ·have h1 := hT (s.Held.length - 1) (by omega)
    have h2 := zAV (hB _ (zAc (i := s.Held.length - 1) (by omega)))
    omega
  repeat' (first | ((with_reducible apply ga) <;> refine gs fun h => ?_) | ((with_reducible apply an); · omega) | ((first | refine zAa ?_ | refine cvA (zRE hS s s.Held hc h100 (fun k hk => by have := zAV (hB k hk); omega)) ?_); refine st ?_) | (with_reducible first | apply jn | apply both | apply an | exact ti) | exact fj | refine st ?_ | exact fm | refine s1 ?_)
  rw [zCI, hI]; simp
theorem zJz {s : State} {j : Nat} (hlt : j < s.Cells.length) (h : decide (zA8 s.Cells (nth s.Cells j).Key ≤ s.Floor) = false) : zA6 s = false := by
 have : (s.Cells.all fun c => decide (zA8 s.Cells c.Key ≤ s.Floor)) = false := by
  rw [← zBJ]; exact zBh hlt h
 rw [zA6, this]; simp
theorem zJA {s : State} {j : Nat} (hlt : j < s.Told.length) (h : zCx s j = false) : zA6 s = false := by
 rw [zA6, zBh hlt h]; simp
theorem zLg {s : State} (h : zCI s = true) : s.Held.length ≤ 12 ∧ zAN ltI Held.Txn s.Held ∧ ∀ x ∈ s.Held, zD2 x := by
 simp only [zCI, Bool.and_eq_true, decide_eq_true_eq] at h
 obtain ⟨h1, h2, _⟩ := h
 refine ⟨by omega, ?_, fun x hx => ?_⟩
 ·have key : ∀ d i, i + d + 1 < s.Held.length → (nth s.Held i).Txn < (nth s.Held (i + d + 1)).Txn := by
   intro d
   induction d with
   | zero =>
    intro i hi
    have := zAv.1 h1 (i + 1) (by omega)
    simp only [zBr, Bool.and_eq_true, Bool.or_eq_true, decide_eq_true_eq, Nat.add_sub_cancel] at this
    exact this.1.1.2.resolve_left (by omega)
   | succ d ih =>
    intro i hi
    have h3 := ih i (by omega)
    have := zAv.1 h1 (i + (d + 1) + 1) (by omega)
    simp only [zBr, Bool.and_eq_true, Bool.or_eq_true, decide_eq_true_eq, Nat.add_sub_cancel] at this
    have h4 := this.1.1.2.resolve_left (by omega)
    rw [show i + d + 1 = i + (d + 1) by omega] at h3
    omega
  intro i j hij hj
  have := key (j - i - 1) i (by omega)
  rw [show i + (j - i - 1) + 1 = j by omega] at this
  exact decide_eq_true this
 ·obtain ⟨i, hi, rfl⟩ := List.getElem_of_mem hx
  have := zF6 (zAv.1 h1 i hi)
  rwa [zAM hi] at this
theorem zPT (hS : zB5) (s : State) (hw : zGV s) (hcw : zGT s.Cells) (hcl : s.Cells.length ≤ 2 ^ 20) (htl : s.Told.length ≤ 2 ^ 20) : ACall p_ 58 [.agg (State.row false s)] (fun r _ => r = bl (zA6 s)) := by
 have hmx := zAh
 refine fg H58 fun E hE hH => ?_; simp only [go_sem, hE, hH, C58]
 repeat' (first | ((with_reducible apply ga) <;> refine gs fun h => ?_) | ((with_reducible apply an); · omega) | ((first | refine zAa ?_ | refine cvA (zUV s.Floor) ?_ | refine cvA (zJu s.Cells hcw hcl) ?_ | refine cvA (zSW hS s hw (by assumption)) ?_); refine st ?_) | (with_reducible first | apply jn | apply both | apply an | exact ti) | exact fj | refine st ?_ | exact fm | refine s1 ?_)
 all_goals try (rw [zA6]; first | (simp_all; done) | (simp_all; omega))
 have hC : zA1 s.Cells = true := by assumption
 have hH1 : zCI s = true := by assumption
 have hF1 : rng s.Floor 0 100000 = true := by assumption
 have hI0 := zBy hC
 obtain ⟨hh1, hh2, hh3⟩ := zLg hH1
 refine zAK s.Cells.length (fun j (_ : Unit) => ⟨[(1, .ptr 2000000 0 0), (32, .sl false 2 (s.Cells.map (Cell.row false))), (33, i64 s.Cells.length), (34, i64 j)], [(2000000, ⟨4, [State.row false s]⟩)]⟩) (fun j _ => zAD (fun i => decide (zA8 s.Cells (nth s.Cells i).Key ≤ s.Floor)) j = true) () rfl ?_
 intro j _ hj hI
 try simp only [go_sem, hE, hH, zUm]
 first | refine zAe (fun hh => ?_) (fun hh => ?_) | refine zAf (fun hh => ?_) (fun hh => ?_)
 ·have hb := hh
  simp only [nf] at hh
  have hlt : j < s.Cells.length := by omega
  clear hh
  try refine sb ?_; try exact ⟨⟩
  repeat' (first | ((with_reducible apply ga) <;> refine gs fun h => ?_) | ((with_reducible apply an); · omega) | ((first | refine zAa ?_ | refine cvA (zHe s.Cells (nth s.Cells j).Key (by omega) hI0.srt (fun c q => by have := hI0.one c q; omega)) ?_); refine st ?_) | (with_reducible first | apply jn | apply both | apply an | exact ti) | exact fj | refine st ?_ | exact fm | refine s1 ?_)
  ·rw [zJz hlt (decide_eq_false (by omega))]
  ·exact ⟨(), rfl, zAl hI (decide_eq_true (by omega))⟩
 ·try simp (disch := omega) only [go_sem, hE, hH, hh]
  simp only [nf] at hh
  rw [show j = s.Cells.length by omega] at hI
  clear hj
  have hA := hI
  rw [zBJ (p := fun (c : Cell) => decide (zA8 s.Cells c.Key ≤ s.Floor))] at hA
  repeat' (first | ((with_reducible apply ga) <;> refine gs fun h => ?_) | ((with_reducible apply an); · omega) | (with_reducible first | apply jn | apply both | apply an | exact ti) | exact fj | refine st ?_ | exact fm | refine s1 ?_)
  clear hI
  refine zAK s.Told.length (fun j (_ : Unit) => ⟨[(1, .ptr 2000000 0 0), (48, .sl false 3 (s.Told.map (Told.row false))), (49, i64 s.Told.length), (50, i64 j)], [(2000000, ⟨4, [State.row false s]⟩)]⟩) (fun j _ => zAD (zCx s) j = true) () rfl ?_
  intro j _ hj hI
  try simp only [go_sem, hE, hH, zUn]
  first | refine zAe (fun hh => ?_) (fun hh => ?_) | refine zAf (fun hh => ?_) (fun hh => ?_)
  ·have hb := hh
   simp only [nf] at hh
   have hlt : j < s.Told.length := by omega
   clear hh
   try refine sb ?_; try exact ⟨⟩
   repeat' (first | ((with_reducible apply ga) <;> refine gs fun h => ?_) | ((with_reducible apply an); · omega) | ((first | refine zAa ?_ | refine cvA (zDo _ _ _) ?_ | refine cvA (zLe _) ?_ | refine cvA (zFn s _ (by omega) hh2) ?_); refine st ?_) | (with_reducible first | apply jn | apply both | apply an | exact ti) | exact fj | refine st ?_ | exact fm | refine s1 ?_)
   all_goals clear hA hC hH1 hI0 hh3 hw hcw
   all_goals first | (rw [zJA hlt (by first | (simp_all [zCx]; done) | (simp_all [zCx]; omega))]; done) | exact ⟨(), rfl, zAl hI (by first | (simp_all [zCx]; done) | (simp_all [zCx]; omega))⟩
  ·try simp (disch := omega) only [go_sem, hE, hH, hh]
   simp only [nf] at hh
   rw [show j = s.Told.length by omega] at hI
   rw [zA6, hF1, hC, hH1, hA, hI, decide_eq_true (by omega)]
   rfl
theorem zU7 (s : State) (i : Nat) : zBr s i = (zA2 (zDd (nth s.Held i)) && decide ((nth s.Held i).Time ≤ s.Floor) && (decide (i = 0) || decide ((nth s.Held (i - 1)).Txn < (nth s.Held i).Txn)) && zAD (fun k => zDq (nth (s.Held.take i) k) (nth s.Held i).Reads (nth s.Held i).Writes) (s.Held.take i).length && !((nth s.Held i).Writes.any fun w => decide ((nth s.Held i).Time ≤ zA8 s.Cells w.Key))) := by
 rw [zBr, ← Bool.not_not (b := zAD _ _), ← zJy]
 rfl
theorem zZ7 {h : Held} (q : h.wf) : (zDd h).wf := by
 unfold Held.wf at q
 unfold Rec.wf zDd
 simp_all
theorem zSX (s : State) (hw : zGV s) (hc : zA1 s.Cells = true) : ACall p_ 91 [.agg (State.row false s)] (fun r _ => r = bl (zCI s)) := by
 have hmx := zAh
 obtain ⟨hl, hx⟩ := hw
 have hI0 := zBy hc
 have hcl := hI0.len
 refine fg H91 fun E hE hH => ?_; simp only [go_sem, hE, hH, C91]
 try refine st ?_; try exact ⟨⟩
 refine zAG s.Held.length (fun j (_ : Unit) => ⟨[(1, .ptr 2000000 0 0), (10, .sl false 5 (s.Held.map (Held.row false))), (11, i64 s.Held.length), (12, i64 j)], [(2000000, ⟨4, [State.row false s]⟩)]⟩) (fun j _ => zAD (zBr s) j = true) () rfl rfl ?_
 intro j _ hj hI
 try simp only [go_sem, hE, hH, zUC]
 first | refine zAe (fun h => ?_) (fun h => ?_) | refine zAf (fun h => ?_) (fun h => ?_)
 ·have hb := h
  simp only [nf] at h
  have hlt : j < s.Held.length := by omega
  obtain ⟨q1, q2, q3⟩ := hx _ (zAc hlt)
  have hwf : zPI (zDd (nth s.Held j)) := ⟨zZ7 q1, Nat.le_trans q2 (by decide), Nat.le_trans q3 (by decide)⟩
  have htl : (s.Held.take j).length = j := by rw [List.length_take]; omega
  try refine sb ?_; try exact ⟨⟩
  repeat' (first | ((with_reducible apply ga) <;> refine gs fun h => ?_) | ((with_reducible apply an); · omega) | ((first | refine zAa ?_ | refine cvA (zN4 (nth s.Held j)) ?_ | refine cvA (zJs (zDd (nth s.Held j)) hwf) ?_); refine st ?_) | (with_reducible first | apply jn | apply both | apply an | exact ti) | exact fj | refine st ?_ | exact fm | refine s1 ?_)
  all_goals try (rw [zEh hlt (by first | (simp_all [zBr]; done) | (simp_all [zBr]; omega))]; done)
  all_goals (
   have a3 : (decide (j = 0) || decide ((nth s.Held (j - 1)).Txn < (nth s.Held j).Txn)) = true := by first | (rw [show j = 0 by omega]; rfl) | (rw [decide_eq_true (show (nth s.Held (j - 1)).Txn < (nth s.Held j).Txn by assumption)]; simp)
   have a1 : zA2 (zDd (nth s.Held j)) = true := by assumption
   have a2 : (nth s.Held j).Time ≤ s.Floor := by assumption
   have hat := zU7 s j
   rw [a1, a3, decide_eq_true a2, Bool.true_and, Bool.true_and, Bool.true_and] at hat
   clear a1 a2 a3 hwf
   refine zAG (s.Held.take j).length (fun k (_ : Unit) => ⟨[(1, .ptr 2000000 0 0), (4, .ptr 5000000 0 0), (10, .sl false 5 (s.Held.map (Held.row false))), (11, i64 s.Held.length), (12, i64 j), (47, .sl false 5 ((s.Held.take j).map (Held.row false))), (48, i64 (s.Held.take j).length), (49, i64 k)], [(2000000, ⟨4, [State.row false s]⟩), (5000000, ⟨5, [Held.row false (nth s.Held j)]⟩)]⟩) (fun k _ => zAD (fun i => zDq (nth (s.Held.take j) i) (nth s.Held j).Reads (nth s.Held j).Writes) k = true) () rfl rfl ?_
   intro k _ hk hK
   try simp only [go_sem, hE, hH, zUA]
   first | refine zAe (fun hh => ?_) (fun hh => ?_) | refine zAf (fun hh => ?_) (fun hh => ?_)
   ·have hb2 := hh
    simp only [nf] at hh
    have hkt : k < (s.Held.take j).length := by omega
    clear hh
    obtain ⟨-, p2, p3⟩ := hx _ (List.mem_of_mem_take (zAc hkt))
    try simp (disch := omega) only [go_sem, hE, hH, hb2]
    repeat' (first | ((with_reducible apply ga) <;> refine gs fun h => ?_) | ((with_reducible apply an); · omega) | ((first | refine zAa ?_ | refine cvA (zKy (nth (s.Held.take j) k) (nth s.Held j).Reads (nth s.Held j).Writes (by omega) (by omega) (by omega) (by omega)) ?_); refine st ?_) | (with_reducible first | apply jn | apply both | apply an | exact ti) | exact fj | refine st ?_ | exact fm | refine s1 ?_)
    all_goals first | (rw [zEh hlt (by rw [hat, zBh hkt (by first | assumption | (simp_all; done))]; rfl)]; done) | exact ⟨(), rfl, zAl hK (by first | assumption | (simp_all; done))⟩
   ·try simp (disch := omega) only [go_sem, hE, hH, hh]
    simp only [nf] at hh
    rw [show k = (s.Held.take j).length by omega] at hK
    rw [hK, Bool.true_and] at hat
    clear hh hk hK
    repeat' (first | ((with_reducible apply ga) <;> refine gs fun h => ?_) | ((with_reducible apply an); · omega) | (with_reducible first | apply jn | apply both | apply an | exact ti) | exact fj | refine st ?_ | exact fm | refine s1 ?_)
    refine zAG (nth s.Held j).Writes.length (fun k (_ : Unit) => ⟨[(1, .ptr 2000000 0 0), (4, .ptr 5000000 0 0), (10, .sl false 5 (s.Held.map (Held.row false))), (11, i64 s.Held.length), (12, i64 j), (62, .sl false 3 ((nth s.Held j).Writes.map (Write.row false))), (63, i64 (nth s.Held j).Writes.length), (64, i64 k)], [(2000000, ⟨4, [State.row false s]⟩), (5000000, ⟨5, [Held.row false (nth s.Held j)]⟩)]⟩) (fun k _ => zAD (fun i => !decide ((nth s.Held j).Time ≤ zA8 s.Cells (nth (nth s.Held j).Writes i).Key)) k = true) () rfl rfl ?_
    intro k _ hk hK
    try simp only [go_sem, hE, hH, zUB]
    first | refine zAe (fun hh => ?_) (fun hh => ?_) | refine zAf (fun hh => ?_) (fun hh => ?_)
    ·have hb2 := hh
     simp only [nf] at hh
     have hkt : k < (nth s.Held j).Writes.length := by omega
     clear hh
     try simp (disch := omega) only [go_sem, hE, hH, hb2]
     repeat' (first | ((with_reducible apply ga) <;> refine gs fun h => ?_) | ((with_reducible apply an); · omega) | ((first | refine zAa ?_ | refine cvA (zJw s.Cells (nth (nth s.Held j).Writes k).Key (by omega) hI0.srt (fun c q => by have := hI0.one c q; omega)) ?_); refine st ?_) | (with_reducible first | apply jn | apply both | apply an | exact ti) | exact fj | refine st ?_ | exact fm | refine s1 ?_)
     all_goals first | (rw [zEh hlt (by rw [hat, List.any_eq_true.2 ⟨_, zAc hkt, decide_eq_true (by assumption)⟩]; rfl)]; done) | exact ⟨(), rfl, zAl hK (by simp; omega)⟩
    ·try simp (disch := omega) only [go_sem, hE, hH, hh]
     simp only [nf] at hh
     rw [show k = (nth s.Held j).Writes.length by omega, zBJ (p := fun w : Write => !decide ((nth s.Held j).Time ≤ zA8 s.Cells w.Key))] at hK
     have e : ((nth s.Held j).Writes.any fun w => decide ((nth s.Held j).Time ≤ zA8 s.Cells w.Key)) = false := by
      rw [List.any_eq_false]; intro x hx; have := List.all_eq_true.1 hK x hx; simpa using this
     rw [e] at hat
     clear hK e hh
     try refine st ?_; try exact ⟨⟩
     exact ⟨by omega, (), rfl, zAl hI hat⟩
   )
 ·try simp (disch := omega) only [go_sem, hE, hH, h]
  simp only [nf] at h
  rw [show j = s.Held.length by omega] at hI
  have hB : ∀ k ∈ s.Held, zD2 k := by
   intro k hk
   obtain ⟨i, hi, rfl⟩ := List.getElem_of_mem hk
   have := zF6 (zAv.1 hI i hi)
   rwa [zAM hi] at this
  by_cases h12 : s.Held.length ≤ 12
  ·have g12 : decide ((s.Held.length : Int) ≤ 12) = true := decide_eq_true (by omega)
   rw [g12]
   have cR := zMe s [] hc (by decide) (by omega) (fun k hk => by have := zAV (hB k hk); omega)
   try refine st ?_; try exact ⟨⟩
   repeat' (first | ((with_reducible apply ga) <;> refine gs fun h => ?_) | ((with_reducible apply an); · omega) | ((first | refine zAa ?_ | refine zK3 (cR) ?_); refine st ?_) | (with_reducible first | apply jn | apply both | apply an | exact ti) | exact fj | refine st ?_ | exact fm | refine s1 ?_)
   rw [zCI, hI, g12]; rfl
  ·have g12 : decide ((s.Held.length : Int) ≤ 12) = false := decide_eq_false (by omega)
   rw [g12]
   try refine st ?_; try exact ⟨⟩
   repeat' (first | ((with_reducible apply ga) <;> refine gs fun h => ?_) | ((with_reducible apply an); · omega) | (with_reducible first | apply jn | apply both | apply an | exact ti) | exact fj | refine st ?_ | exact fm | refine s1 ?_)
   rw [zCI, hI, g12]; rfl
theorem zMi (s : State) (hw : zGV s) (hcw : zGT s.Cells) (hcl : s.Cells.length ≤ 2 ^ 20) (htl : s.Told.length ≤ 2 ^ 20) : ACall p_ 44 [.agg (State.row false s)] (fun r _ => r = bl (zA6 s)) := by
 have hmx := zAh
 refine fg H44 fun E hE hH => ?_; simp only [go_sem, hE, hH, C44]
 repeat' (first | ((with_reducible apply ga) <;> refine gs fun h => ?_) | ((with_reducible apply an); · omega) | ((first | refine zAa ?_ | refine cvA (zUW s.Floor) ?_ | refine cvA (zNG s.Cells hcw) ?_ | refine cvA (zSX s hw (by assumption)) ?_); refine st ?_) | (with_reducible first | apply jn | apply both | apply an | exact ti) | exact fj | refine st ?_ | exact fm | refine s1 ?_)
 all_goals try (rw [zA6]; first | (simp_all; done) | (simp_all; omega))
 have hC : zA1 s.Cells = true := by assumption
 have hH1 : zCI s = true := by assumption
 have hF1 : rng s.Floor 0 100000 = true := by assumption
 have hI0 := zBy hC
 obtain ⟨hh1, hh2, hh3⟩ := zLg hH1
 refine zAK s.Cells.length (fun j (_ : Unit) => ⟨[(1, .ptr 2000000 0 0), (31, .sl false 2 (s.Cells.map (Cell.row false))), (32, i64 s.Cells.length), (33, i64 j)], [(2000000, ⟨4, [State.row false s]⟩)]⟩) (fun j _ => zAD (fun i => decide (zA8 s.Cells (nth s.Cells i).Key ≤ s.Floor)) j = true) () rfl ?_
 intro j _ hj hI
 try simp only [go_sem, hE, hH, zUd]
 first | refine zAe (fun hh => ?_) (fun hh => ?_) | refine zAf (fun hh => ?_) (fun hh => ?_)
 ·have hb := hh
  simp only [nf] at hh
  have hlt : j < s.Cells.length := by omega
  clear hh
  try refine sb ?_; try exact ⟨⟩
  repeat' (first | ((with_reducible apply ga) <;> refine gs fun h => ?_) | ((with_reducible apply an); · omega) | ((first | refine zAa ?_ | refine cvA (zJw s.Cells (nth s.Cells j).Key (by omega) hI0.srt (fun c q => by have := hI0.one c q; omega)) ?_); refine st ?_) | (with_reducible first | apply jn | apply both | apply an | exact ti) | exact fj | refine st ?_ | exact fm | refine s1 ?_)
  ·rw [zJz hlt (decide_eq_false (by omega))]
  ·exact ⟨(), rfl, zAl hI (decide_eq_true (by omega))⟩
 ·try simp (disch := omega) only [go_sem, hE, hH, hh]
  simp only [nf] at hh
  rw [show j = s.Cells.length by omega] at hI
  clear hj
  have hA := hI
  rw [zBJ (p := fun (c : Cell) => decide (zA8 s.Cells c.Key ≤ s.Floor))] at hA
  repeat' (first | ((with_reducible apply ga) <;> refine gs fun h => ?_) | ((with_reducible apply an); · omega) | (with_reducible first | apply jn | apply both | apply an | exact ti) | exact fj | refine st ?_ | exact fm | refine s1 ?_)
  clear hI
  refine zAK s.Told.length (fun j (_ : Unit) => ⟨[(1, .ptr 2000000 0 0), (47, .sl false 3 (s.Told.map (Told.row false))), (48, i64 s.Told.length), (49, i64 j)], [(2000000, ⟨4, [State.row false s]⟩)]⟩) (fun j _ => zAD (zCx s) j = true) () rfl ?_
  intro j _ hj hI
  try simp only [go_sem, hE, hH, zUe]
  first | refine zAe (fun hh => ?_) (fun hh => ?_) | refine zAf (fun hh => ?_) (fun hh => ?_)
  ·have hb := hh
   simp only [nf] at hh
   have hlt : j < s.Told.length := by omega
   clear hh
   try refine sb ?_; try exact ⟨⟩
   repeat' (first | ((with_reducible apply ga) <;> refine gs fun h => ?_) | ((with_reducible apply an); · omega) | ((first | refine zAa ?_ | refine cvA (zE7 _ _ _) ?_ | refine cvA (zGB s _ (by omega) hh2) ?_); refine st ?_) | (with_reducible first | apply jn | apply both | apply an | exact ti) | exact fj | refine st ?_ | exact fm | refine s1 ?_)
   all_goals clear hA hC hH1 hI0 hh3 hw hcw
   all_goals first | (rw [zJA hlt (by first | (simp_all [zCx]; done) | (simp_all [zCx]; omega))]; done) | exact ⟨(), rfl, zAl hI (by first | (simp_all [zCx]; done) | (simp_all [zCx]; omega))⟩
  ·try simp (disch := omega) only [go_sem, hE, hH, hh]
   simp only [nf] at hh
   rw [show j = s.Told.length by omega] at hI
   rw [zA6, hF1, hC, hH1, hA, hI, decide_eq_true (by omega)]
   rfl
end Go.Proofs.Wb

import Derived.Test.YtjfjakbgelikeaaGreatFnExactSettleDealN9
import Derived.Laws.Externs
set_option linter.all false
set_option maxHeartbeats 4000000
namespace Go.Proofs.Wb
open Tryz renaming prog → p_
open Go Go.Am
theorem zWq {α : Type} [Inhabited α] {f : α → Int} {l : List α} (h : ∀ i, i + 1 < l.length → f (nth l i) < f (nth l (i + 1))) : zAN ltI f l := by
 have key : ∀ d i, i + d + 1 < l.length → f (nth l i) < f (nth l (i + d + 1)) := by
  intro d
  induction d with
  | zero => intro i hi; exact h i hi
  | succ d ih =>
   intro i hi
   have h3 := ih i (by omega)
   have h4 := h (i + d + 1) (by omega)
   rw [show i + (d + 1) + 1 = i + d + 1 + 1 by omega]
   omega
 intro i j hij hj
 have := key (j - i - 1) i (by omega)
 rw [show i + (j - i - 1) + 1 = j by omega] at this
 exact decide_eq_true this
theorem zB6 {s : State} (h : zA6 s = true) : stI 60 s := by
 simp only [zA6, Bool.and_eq_true, decide_eq_true_eq] at h
 obtain ⟨⟨⟨⟨⟨h1, h2⟩, h3⟩, h4⟩, h5⟩, h6⟩ := h
 obtain ⟨a1, a2, a3⟩ := zLg h3
 refine ⟨h2, a1, a2, a3, by omega, zWq fun i hi => ?_⟩
 have := zAv.1 h6 (i + 1) hi
 simp only [zCx, Bool.and_eq_true, Bool.or_eq_true, decide_eq_true_eq, Nat.add_sub_cancel] at this
 exact this.1.2.resolve_left (by omega)
theorem zZ8 {s : State} (hw : s.wf) (hs : s.sz ≤ 2 ^ 20) : zGV s ∧ zGT s.Cells ∧ s.Cells.length ≤ 2 ^ 20 ∧ s.Told.length ≤ 2 ^ 20 := by
 obtain ⟨-, w1, w2, w3⟩ := hw
 have e : s.sz = szL Cell.sz s.Cells + szL Held.sz s.Held + s.Told.length := rfl
 have l1 := zA9 (f := Cell.sz) (l := s.Cells)
 have l2 := zA9 (f := Held.sz) (l := s.Held)
 refine ⟨⟨by omega, fun h hh => ?_⟩, ⟨w1.1, fun c hc => ?_⟩, by omega, by omega⟩
 ·have h1 := zCq (f := Held.sz) hh
  have h5 : Held.sz h = szL ByteArray.size h.Reads + szL Write.sz h.Writes := rfl
  have h6 := zA9 (f := ByteArray.size) (l := h.Reads)
  have h7 := zA9 (f := Write.sz) (l := h.Writes)
  exact ⟨w2.2 h hh, by omega, by omega⟩
 ·have := w1.2 c hc
  exact ⟨this.1, this.2.1, fun v hv => (this.2.2 v hv).2⟩
theorem zWr {p : Nat → Bool} {n m : Nat} (hn : n ≤ m) (h1 : ∀ i, i < n → p i = true) (h2 : ∀ i, n ≤ i → i < m → p i = false) : zCl p m = n := by
 rw [zFB hn h2, zGs (zAv.2 h1)]
theorem zWs {l : List ByteArray} (h : zBO l = true) : ∀ i j, i < j → j < l.length → zAg (nth l i) (nth l j) = true := by
 have key : ∀ d i, i + d + 1 < l.length → zAg (nth l i) (nth l (i + d + 1)) = true := by
  intro d
  induction d with
  | zero =>
   intro i hi
   have := zAv.1 h (i + 1) hi
   simp only [Bool.and_eq_true, Bool.or_eq_true, decide_eq_true_eq, Nat.add_sub_cancel] at this
   exact this.2.resolve_left (by omega)
  | succ d ih =>
   intro i hi
   have h3 := ih i (by omega)
   have := zAv.1 h (i + (d + 1) + 1) (by omega)
   simp only [Bool.and_eq_true, Bool.or_eq_true, decide_eq_true_eq, Nat.add_sub_cancel] at this
   have h4 := this.2.resolve_left (by omega)
   rw [show i + d + 1 = i + (d + 1) by omega] at h3
   exact zBI h3 h4
 intro i j hij hj
 have := key (j - i - 1) i (by omega)
 rwa [show i + (j - i - 1) + 1 = j by omega] at this
def zC1 (cuts : List ByteArray) (k : ByteArray) : Nat := zCl (fun i => !zAg k (nth cuts i)) cuts.length
theorem zPU {cuts : List ByteArray} {k : ByteArray} : zC1 cuts k ≤ cuts.length := zHw
theorem zPV {cuts : List ByteArray} {k : ByteArray} {n : Nat} (hr : zBO cuts = true) (hn : n ≤ cuts.length) (h1 : ∀ i, i < n → zAg k (nth cuts i) = false) (h2 : n = cuts.length ∨ zAg k (nth cuts n) = true) : zC1 cuts k = n := by
 refine zWr hn (fun i hi => by rw [h1 i hi]; rfl) fun i hi hl => ?_
 rcases h2 with h2 | h2
 ·omega
 ·by_cases e : i = n
  ·rw [e, h2]; rfl
  ·rw [zBI h2 (zWs hr n i (by omega) hl)]; rfl
theorem zSY (cuts : List ByteArray) (k : ByteArray) (hl : cuts.length ≤ 2 ^ 20) (hr : zBO cuts = true) : ACall p_ 99 [.sl false 1 (strs cuts), str k] (fun r _ => r = i64 (zC1 cuts k)) := by
 have hmx := zAh
 refine fg H99 fun E hE hH => ?_; simp only [go_sem, hE, hH, C99]
 repeat' (first | ((with_reducible apply ga) <;> refine gs fun h => ?_) | ((with_reducible apply an); · omega) | (with_reducible first | apply jn | apply both | apply an | exact ti) | exact fj | refine st ?_ | exact fm | refine s1 ?_)
 refine zGO (fun (n : Nat) => ⟨[(0, .sl false 1 (strs cuts)), (1, str k), (5, i64 n)], []⟩) (fun n => n ≤ cuts.length ∧ ∀ i, i < n → zAg k (nth cuts i) = false) (fun n => cuts.length - n) 0 ⟨by omega, fun i hi => by omega⟩ ?_
 rintro n ⟨hn, hI⟩
 have hst : zAg k (nth cuts n) = false → ∀ i, i < n + 1 → zAg k (nth cuts i) = false := fun h i hi => (Nat.lt_succ_iff_lt_or_eq.1 hi).elim (hI i) (fun e => e ▸ h)
 try simp only [go_sem, hE, hH, zUE]
 repeat' (first | ((with_reducible apply ga) <;> refine gs fun h => ?_) | ((with_reducible apply an); · omega) | (with_reducible first | apply jn | apply both | apply an | exact ti) | exact fj | refine st ?_ | exact fm | refine s1 ?_)
 all_goals first | omega | (rw [zPV hr hn hI (by first | (left; omega) | (right; simp_all; done))]; done) | (rw [zPV hr hn hI (by first | (left; omega) | (right; simp_all; done))]; rfl) | exact ⟨n + 1, rfl, ⟨by omega, hst (by assumption)⟩, by omega⟩
structure sG (s : State) : Prop where
 f0 : 0 ≤ s.Floor
 f1 : s.Floor ≤ 100000
 cells : zA1 s.Cells = true
 hsrt : zAN ltI Held.Txn s.Held
 hlen : s.Held.length ≤ 12
 hok : ∀ h ∈ s.Held, zD2 h
 hin : ∀ h ∈ s.Held, h.Time ≤ s.Floor ∧ ∀ w ∈ h.Writes, zA8 s.Cells w.Key < h.Time
 cla : s.Held.Pairwise fun k h => zBz h k = false
 room : zB9 s.Cells (zAY s.Held) = true
 last : ∀ c ∈ s.Cells, zEy c ≤ s.Floor
 tsrt : zAN ltI Told.Txn s.Told
 tok : ∀ t ∈ s.Told, 1 ≤ t.Txn ∧ t.Txn ≤ 60 ∧ (t.Yes = true ∧ 1 ≤ t.Time ∧ t.Time ≤ s.Floor ∨ t.Yes = false ∧ t.Time = 0) ∧ hF s.Held t.Txn = false
theorem zGW {l : List Cell} (hs : zAN zAg Cell.Key l) {c : Cell} (hc : c ∈ l) : zA8 l c.Key = zEy c ∧ zB0 l c.Key = decide (16 ≤ c.Vers.length) := by
 obtain ⟨i, hi, rfl⟩ := List.getElem_of_mem hc
 rw [← zAM hi]
 have hf : cF l (nth l i).Key = true := zB8.2 ⟨i, hi, rfl⟩
 have he : cI l (nth l i).Key = i := zJh zCg hs hi rfl
 rw [zA8, zB0, hf, he]
 exact ⟨rfl, by simp⟩
theorem zPW {l : List Cell} {k : ByteArray} (h : ∀ c ∈ l, c.Key ≠ k) : zA8 l k = 0 ∧ zB0 l k = false := by
 have e : cF l k = false := by
  cases e : cF l k with
  | false => rfl
  | true => obtain ⟨i, hi, e⟩ := zB8.1 e; exact absurd e (h _ (zAc hi))
 rw [zA8, zB0, e]
 exact ⟨by simp, by simp⟩
theorem zSZ {l l' : List Cell} (hs : zAN zAg Cell.Key l) (hs' : zAN zAg Cell.Key l') {k : ByteArray} (h : ∀ c : Cell, c.Key = k → (c ∈ l ↔ c ∈ l')) : zA8 l k = zA8 l' k ∧ zB0 l k = zB0 l' k := by
 by_cases q : ∃ c ∈ l, c.Key = k
 ·obtain ⟨c, hc, rfl⟩ := q
  have hc' := (h c rfl).1 hc
  obtain ⟨a1, a2⟩ := zGW hs hc
  obtain ⟨b1, b2⟩ := zGW hs' hc'
  exact ⟨a1.trans b1.symm, a2.trans b2.symm⟩
 ·obtain ⟨a1, a2⟩ := zPW (l := l) (k := k) fun c hc e => q ⟨c, hc, e⟩
  obtain ⟨b1, b2⟩ := zPW (l := l') (k := k) fun c hc e => q ⟨c, (h c e).2 hc, e⟩
  exact ⟨a1.trans b1.symm, a2.trans b2.symm⟩
theorem zNL {s : State} (h : zA6 s = true) : sG s := by
 have hI := zB6 h
 simp only [zA6, zCI, Bool.and_eq_true, decide_eq_true_eq, List.all_eq_true, zBW] at h
 obtain ⟨⟨⟨⟨⟨h1, h2⟩, h3, h3b, h3c⟩, h4⟩, h5⟩, h6⟩ := h
 have hc := (zD1.1 h2).2.1
 have hat : ∀ i, i < s.Held.length → (((zA2 (zDd (nth s.Held i)) = true ∧ (nth s.Held i).Time ≤ s.Floor) ∧ (i = 0 ∨ (nth s.Held (i - 1)).Txn < (nth s.Held i).Txn)) ∧ ((s.Held.take i).any fun k => zBz (nth s.Held i) k) = false) ∧ ((nth s.Held i).Writes.any fun w => decide ((nth s.Held i).Time ≤ zA8 s.Cells w.Key)) = false := fun i hi => by
  have := zAv.1 h3 i hi
  simp only [zBr, Bool.and_eq_true, Bool.or_eq_true, Bool.not_eq_true', decide_eq_true_eq] at this
  exact this
 refine ⟨h1.1, h1.2, h2, hI.hsrt, hI.hlen, hI.hok, fun x hx => ?_, ?_, h3c, fun c q => ?_, hI.tsrt, fun t ht => ?_⟩
 ·obtain ⟨i, hi, rfl⟩ := List.getElem_of_mem hx
  rw [← zAM hi]
  obtain ⟨⟨⟨⟨a1, a2⟩, a3⟩, a4⟩, a5⟩ := hat i hi
  refine ⟨a2, fun w hw => ?_⟩
  rw [List.any_eq_false] at a5
  have := a5 w hw
  rw [decide_eq_true_eq] at this
  omega
 ·rw [List.pairwise_iff_getElem]
  intro i j hi hj hij
  obtain ⟨⟨⟨⟨a1, a2⟩, a3⟩, a4⟩, a5⟩ := hat j hj
  rw [List.any_eq_false] at a4
  have := a4 (s.Held[i]) (by rw [List.mem_take_iff_getElem]; exact ⟨i, by omega, rfl⟩)
  rw [zAM hj] at this
  simpa using this
 ·rw [← (zGW hc q).1]; exact h5 c q
 ·obtain ⟨i, hi, rfl⟩ := List.getElem_of_mem ht
  have := zAv.1 h6 i hi
  simp only [zCx, Bool.and_eq_true, Bool.or_eq_true, Bool.not_eq_true', decide_eq_true_eq, zBW, zAM hi] at this
  obtain ⟨⟨⟨b1, b2⟩, b3⟩, b4⟩ := this
  exact ⟨b1.1, b1.2, b2, b4⟩
theorem zWt {l : List Told} (hs : zAN ltI Told.Txn l) (h : ∀ t ∈ l, 1 ≤ t.Txn ∧ t.Txn ≤ 60) : l.length ≤ 60 := by
 have hT : ∀ i, i < l.length → (i : Int) + 1 ≤ (nth l i).Txn := by
  intro i
  induction i with
  | zero => intro hi; have := h _ (zAc hi); omega
  | succ i ih =>
   intro hi
   have h1 := ih (by omega)
   have h2 := of_decide_eq_true (hs i (i + 1) (by omega) hi)
   omega
 rcases Nat.eq_zero_or_pos l.length with e | e
 ·omega
 ·have h1 := hT (l.length - 1) (by omega)
  have h2 := h _ (zAc (l := l) (i := l.length - 1) (by omega))
  omega
theorem zB1 {s : State} (h : sG s) : zA6 s = true := by
 have hc := (zD1.1 h.cells).2.1
 have hl := zWt h.tsrt fun t ht => ⟨(h.tok t ht).1, (h.tok t ht).2.1⟩
 have hh := h.hlen
 simp only [zA6, zCI, Bool.and_eq_true, decide_eq_true_eq, List.all_eq_true, zBW]
 refine ⟨⟨⟨⟨⟨⟨h.f0, h.f1⟩, h.cells⟩, zAv.2 fun i hi => ?_, by omega, h.room⟩, by omega⟩, fun c q => ?_⟩, zAv.2 fun i hi => ?_⟩
 ·have hm := zAc hi
  obtain ⟨a1, a2⟩ := h.hin _ hm
  simp only [zBr, Bool.and_eq_true, Bool.not_eq_true', decide_eq_true_eq, Bool.or_eq_true]
  refine ⟨⟨⟨⟨h.hok _ hm, a1⟩, ?_⟩, ?_⟩, ?_⟩
  ·by_cases e : i = 0
   ·exact .inl e
   ·exact .inr (of_decide_eq_true (h.hsrt (i - 1) i (by omega) hi))
  ·rw [List.any_eq_false]
   intro k hk
   obtain ⟨j, hj, rfl⟩ := List.mem_take_iff_getElem.1 hk
   have := List.pairwise_iff_getElem.1 h.cla j i (by omega) hi (by omega)
   rw [zAM hi, this]; simp
  ·rw [List.any_eq_false]
   intro w hw
   have := a2 w hw
   rw [decide_eq_true_eq]; omega
 ·rw [(zGW hc q).1]; exact h.last c q
 ·have hm := zAc hi
  obtain ⟨b1, b2, b3, b4⟩ := h.tok _ hm
  simp only [zCx, Bool.and_eq_true, Bool.or_eq_true, Bool.not_eq_true', decide_eq_true_eq, zBW]
  refine ⟨⟨⟨⟨b1, b2⟩, b3⟩, ?_⟩, b4⟩
  by_cases e : i = 0
  ·exact .inl e
  ·exact .inr (of_decide_eq_true (h.tsrt (i - 1) i (by omega) hi))
theorem zXH {t : Int} {l l' : List Cell} {x : Write} (hs : zAN zAg Cell.Key l) (e : zCR t l x = some l') : zAN zAg Cell.Key l' ∧ (∀ c ∈ l', c ∈ l ∨ c.Key = x.Key ∧ zEy c = t) ∧ (∀ c ∈ l, c.Key ≠ x.Key → c ∈ l') := by
 unfold zCR at e
 cases hf : cF l x.Key with
 | true =>
  rw [hf, if_pos rfl] at e
  obtain ⟨a, b⟩ := zDC hs hf
  split at e
  ·cases e
  ·injection e with e
   subst e
   refine ⟨zRB hs rfl a, fun c hc => ?_, fun c hc hn => ?_⟩
   ·rcases List.mem_or_eq_of_mem_set hc with hc | rfl
    ·exact .inl hc
    ·exact .inr ⟨b, by simp [zEy, nth, List.getD]⟩
   ·obtain ⟨i, hi, rfl⟩ := List.getElem_of_mem hc
    have hne : cI l x.Key ≠ i := by rintro rfl; rw [zAM hi] at b; exact hn b
    rw [List.mem_iff_getElem]
    exact ⟨i, by rw [List.length_set]; exact hi, by rw [List.getElem_set_ne hne]⟩
 | false =>
  rw [hf, if_neg (by simp)] at e
  injection e with e
  subst e
  refine ⟨zFD (x := (⟨x.Key, [⟨t, x.Val, x.Gone⟩]⟩ : Cell)) zCg hs hf, fun c hc => ?_, fun c hc hn => zDn.2 (.inr hc)⟩
  rcases zDn.1 hc with rfl | hc
  ·exact .inr ⟨rfl, rfl⟩
  ·exact .inl hc
theorem zPX {t : Int} : ∀ {ws : List Write} {l l' : List Cell}, zAN zAg Cell.Key l → zC0 t ws (some l) = some l' → zAN zAg Cell.Key l' ∧ (∀ c ∈ l', c ∈ l ∨ (∃ w ∈ ws, c.Key = w.Key) ∧ zEy c = t) ∧ (∀ c ∈ l, (∀ w ∈ ws, w.Key ≠ c.Key) → c ∈ l')
 | [], l, l', hs, e => by
  have e : l = l' := Option.some.inj e
  subst e
  exact ⟨hs, fun c hc => .inl hc, fun c hc _ => hc⟩
 | w :: ws, l, l', hs, e => by
  have e : zC0 t ws (zCR t l w) = some l' := e
  cases h : zCR t l w with
  | none => rw [h, zIg] at e; cases e
  | some m =>
   rw [h] at e
   obtain ⟨a1, a2, a3⟩ := zXH hs h
   obtain ⟨b1, b2, b3⟩ := zPX a1 e
   refine ⟨b1, fun c hc => ?_, fun c hc hn => ?_⟩
   ·rcases b2 c hc with q | ⟨⟨w', q1, q2⟩, q3⟩
    ·rcases a2 c q with q | ⟨q1, q2⟩
     ·exact .inl q
     ·exact .inr ⟨⟨w, List.mem_cons_self, q1⟩, q2⟩
    ·exact .inr ⟨⟨w', List.mem_cons_of_mem _ q1, q2⟩, q3⟩
   ·exact b3 c (a3 c hc (hn w List.mem_cons_self).symm) fun w' q => hn w' (List.mem_cons_of_mem _ q)
theorem zXI {a b : List ByteArray} (h : ∀ x ∈ a, x ∈ b) : dnN a ≤ dnN b := by
 have hin : ∀ x : ByteArray, (a.any fun y => decide (y = x)) = true ↔ x ∈ a := fun x => by
  rw [List.any_eq_true]
  exact ⟨fun ⟨y, h1, h2⟩ => of_decide_eq_true h2 ▸ h1, fun h => ⟨x, h, by simp⟩⟩
 have e : (ddL a ++ (ddL b).filter fun x => !(a.any fun y => decide (y = x))).length = dnN b := zOp (by
   rw [List.nodup_append]
   refine ⟨zEf, zEf.filter _, fun x hx y hy e => ?_⟩
   subst e
   have := (List.mem_filter.1 hy).2
   rw [(hin x).2 (zEe.1 hx)] at this
   cases this) fun x => by
  rw [List.mem_append, List.mem_filter, zEe, zEe, Bool.not_eq_true', ← Bool.not_eq_true, hin]
  by_cases q : x ∈ a
  ·simp [q, h x q]
  ·simp [q]
 rw [List.length_append] at e
 rw [← e]
 exact Nat.le_add_right _ _
theorem zMj {h k : Held} (c : zBz h k = false) {w w' : Write} (hw : w ∈ h.Writes) (hw' : w' ∈ k.Writes) : w.Key ≠ w'.Key := by
 intro e
 simp only [zBz, zGA, Bool.or_eq_false_iff, List.any_eq_false] at c
 refine c.1 w hw ?_
 rw [Bool.or_eq_true]
 left
 rw [fwF, List.any_eq_true]
 exact ⟨w', hw', by simp [e]⟩
theorem zU8 {h k : Held} : zBz h k = zBz k h := Bool.or_comm ..
theorem zZ9 {l : List Held} (hp : l.Pairwise fun k h => zBz h k = false) {a b : Held} (ha : a ∈ l) (hb : b ∈ l) (hn : a.Txn ≠ b.Txn) : zBz a b = false := by
 obtain ⟨i, hi, rfl⟩ := List.getElem_of_mem ha
 obtain ⟨j, hj, rfl⟩ := List.getElem_of_mem hb
 rcases Nat.lt_trichotomy i j with q | q | q
 ·rw [zU8]; exact List.pairwise_iff_getElem.1 hp i j hi hj q
 ·subst q; exact absurd rfl hn
 ·exact List.pairwise_iff_getElem.1 hp j i hj hi q
theorem zE9 {l : List Held} {w : Write} : w ∈ zAY l ↔ ∃ h ∈ l, w ∈ h.Writes := by rw [zAY, List.mem_flatMap]
theorem zNM {cs : List Cell} {ws : List Write} : zB9 cs ws = true ↔ (∀ w ∈ ws, zB0 cs w.Key = false) ∧ dnN (cs.map (·.Key) ++ ws.map (·.Key)) ≤ 24 := by
 simp only [zB9, Bool.and_eq_true, Bool.not_eq_true', List.any_eq_false, decide_eq_true_eq, Bool.not_eq_true]
theorem zPY {r : Rec} (hr : zA2 r = true) (hk : r.Kind = 2 ∨ r.Kind = 3) : 1 ≤ r.Txn ∧ r.Txn ≤ 60 ∧ (r.Yes = true ∧ 1 ≤ r.Time ∧ r.Time ≤ 100000 ∨ r.Yes = false ∧ r.Time = 0) := by
 have h2 := hr
 simp only [zA2, if_neg (show ¬ r.Kind = 1 by omega), if_pos hk, Bool.and_eq_true, Bool.or_eq_true, Bool.not_eq_true', zBW, decide_eq_true_eq] at h2
 exact ⟨h2.1.2.1, h2.1.2.2, h2.2⟩
theorem zAaa {s s' : State} {r : Rec} (h : sG s) (hr : zA2 r = true) (hk : r.Kind = 2 ∨ r.Kind = 3) (e : zA7 s r = some s') : sG s' := by
 have hJ := zB6 (zB1 h)
 have hc := (zD1.1 h.cells).2.1
 have hcut := zHG (r := r) hJ
 have hrr := zPY hr hk
 obtain ⟨hfull, hroom24⟩ := zNM.1 h.room
 unfold zA7 at e
 rw [if_neg (show ¬ r.Kind = 4 by omega)] at e
 split at e
 ·cases e
 rename_i hT
 have hT : tF s.Told r.Txn = false := by simpa using hT
 rw [if_pos (show r.Kind ≠ 1 by omega)] at e
 obtain ⟨-, t2⟩ := zUY hJ hT
 obtain ⟨c1, c2, c3⟩ := zJt hJ r
 have hsub : ∀ x ∈ zAQ s r, x ∈ s.Held ∧ x.Txn ≠ r.Txn := fun x hx => by
  rw [hcut, List.mem_filter] at hx; exact ⟨hx.1, by simpa using hx.2⟩
 have hcla : (zAQ s r).Pairwise fun k h => zBz h k = false := by rw [hcut]; exact h.cla.filter _
 have htold : ∀ F : Int, s.Floor ≤ F → (r.Yes = true → r.Time ≤ F) → ∀ t ∈ zBX s r, 1 ≤ t.Txn ∧ t.Txn ≤ 60 ∧ (t.Yes = true ∧ 1 ≤ t.Time ∧ t.Time ≤ F ∨ t.Yes = false ∧ t.Time = 0) ∧ hF (zAQ s r) t.Txn = false := by
  intro F hF1 hF2 t ht
  have hno : ∀ k : Int, (hF s.Held k = false ∨ k = r.Txn) → hF (zAQ s r) k = false := by
   intro k hk
   cases q : hF (zAQ s r) k with
   | false => rfl
   | true =>
    obtain ⟨i, hi, e⟩ := zB8.1 q
    obtain ⟨m1, m2⟩ := hsub _ (zAc hi)
    rcases hk with hk | hk
    ·have : hF s.Held k = true := by
      unfold hF fxF; rw [List.any_eq_true]; exact ⟨_, m1, by simpa using e⟩
     rw [this] at hk; cases hk
    ·exact absurd (e.trans hk) m2
  rcases zDn.1 ht with rfl | ht
  ·refine ⟨hrr.1, hrr.2.1, ?_, hno _ (.inr rfl)⟩
   rcases hrr.2.2 with ⟨a, b, _⟩ | q
   ·exact .inl ⟨a, b, hF2 a⟩
   ·exact .inr q
  ·obtain ⟨b1, b2, b3, b4⟩ := h.tok t ht
   refine ⟨b1, b2, ?_, hno _ (.inl b4)⟩
   rcases b3 with ⟨a, b, c⟩ | q
   ·exact .inl ⟨a, b, by omega⟩
   ·exact .inr q
 have hroom : ∀ c : List Cell, (∀ x ∈ c, x ∈ s.Cells ∨ ∃ w ∈ zAY s.Held, x.Key = w.Key) → (∀ w ∈ zAY (zAQ s r), zB0 c w.Key = false) → zB9 c (zAY (zAQ s r)) = true := by
  intro c h1 h2
  refine zNM.2 ⟨h2, Nat.le_trans (zXI fun k hk => ?_) hroom24⟩
  rw [List.mem_append, List.mem_map, List.mem_map] at hk ⊢
  rcases hk with ⟨x, q, rfl⟩ | ⟨w, q, rfl⟩
  ·rcases h1 x q with q | ⟨w, q, e⟩
   ·exact .inl ⟨x, q, rfl⟩
   ·exact .inr ⟨w, q, e.symm⟩
  ·obtain ⟨x, q1, q2⟩ := zE9.1 q
   exact .inr ⟨w, zE9.2 ⟨x, (hsub x q1).1, q2⟩, rfl⟩
 have hcutW : ∀ w ∈ zAY (zAQ s r), w ∈ zAY s.Held := fun w q => by
  obtain ⟨x, q1, q2⟩ := zE9.1 q
  exact zE9.2 ⟨x, (hsub x q1).1, q2⟩
 unfold zBQ at e
 cases hy : r.Yes with
 | false =>
  rw [hy, if_neg (by simp)] at e
  injection e with e; subst e
  exact ⟨h.f0, h.f1, h.cells, c2, c1, c3, fun x hx => h.hin x (hsub x hx).1, hcla, hroom _ (fun x q => .inl q) fun w q => hfull w (hcutW w q), h.last, t2, htold _ (Int.le_refl _) fun q => by rw [hy] at q; cases q⟩
 | true =>
  rw [hy, if_pos rfl] at e
  split at e
  ·cases e
  rename_i hb
  simp only [Bool.or_eq_true, Bool.not_eq_true', decide_eq_true_eq, not_or, Bool.not_eq_false] at hb
  obtain ⟨hH, hTm⟩ := hb
  rw [Option.map_eq_some_iff] at e
  obtain ⟨c, hput, rfl⟩ := e
  unfold zHd at hput
  rw [Option.bind_eq_some_iff] at hput
  obtain ⟨d, hd, hg⟩ := hput
  split at hg
  rotate_left
  ·cases hg
  rename_i hgc
  injection hg with hg; subst hg
  obtain ⟨b1, b2, b3⟩ := zPX hc hd
  obtain ⟨n1, n2⟩ := zMg h.hsrt hH
  have hm := zAc n1
  generalize nth s.Held (hI s.Held r.Txn) = H0 at *
  have hrt : 1 ≤ r.Time ∧ r.Time ≤ 100000 := by
   rcases hrr.2.2 with q | q
   ·exact q.2
   ·rw [hy] at q; cases q.1
  have hcc : ∀ k ∈ zAQ s r, ∀ w ∈ k.Writes, zA8 s.Cells w.Key = zA8 d w.Key ∧ zB0 s.Cells w.Key = zB0 d w.Key := by
   intro k hk w hw
   obtain ⟨m1, m2⟩ := hsub k hk
   have hcl : zBz k H0 = false := zZ9 h.cla m1 hm (by rw [n2]; exact m2)
   refine zSZ hc b1 fun x hx => ⟨fun q => b3 x q fun w' hw' => ?_, fun q => ?_⟩
   ·rw [hx]; exact (zMj hcl hw hw').symm
   ·rcases b2 x q with q | ⟨⟨w', q1, q2⟩, _⟩
    ·exact q
    ·exact absurd (hx.symm.trans q2) (zMj hcl hw q1)
  have hfl := h.f0
  refine ⟨by simp only; omega, by have := h.f1; simp only; omega, hgc, c2, c1, c3, fun x hx => ?_, hcla, hroom d (fun x q => ?_) fun w q => ?_, fun x q => ?_, t2, htold _ (by simp only; omega) fun _ => by simp only; omega⟩
  ·obtain ⟨q1, q2⟩ := h.hin x (hsub x hx).1
   refine ⟨by simp only; omega, fun w hw => ?_⟩
   simp only
   rw [← (hcc x hx w hw).1]; exact q2 w hw
  ·rcases b2 x q with q | ⟨⟨w', q1, q2⟩, _⟩
   ·exact .inl q
   ·exact .inr ⟨w', zE9.2 ⟨_, hm, q1⟩, q2⟩
  ·obtain ⟨x, q1, q2⟩ := zE9.1 q
   rw [← (hcc x q1 w q2).2]
   exact hfull w (hcutW w q)
  ·simp only
   rcases b2 x q with q | ⟨_, q2⟩
   ·have := h.last x q; omega
   ·omega
theorem zHf {α : Type} {R : α → α → Prop} (has : ∀ a b, R a b → ¬ R b a) : ∀ {a b : List α}, a.Pairwise R → b.Pairwise R → (∀ x, x ∈ a ↔ x ∈ b) → a = b
 | [], [], _, _, _ => rfl
 | [], y :: b, _, _, h => absurd ((h y).2 List.mem_cons_self) List.not_mem_nil
 | x :: a, [], _, _, h => absurd ((h x).1 List.mem_cons_self) List.not_mem_nil
 | x :: a, y :: b, ha, hb, h => by
  obtain ⟨a1, a2⟩ := List.pairwise_cons.1 ha
  obtain ⟨b1, b2⟩ := List.pairwise_cons.1 hb
  have exy : x = y := by
   have h1 := (h x).1 List.mem_cons_self
   have h2 := (h y).2 List.mem_cons_self
   rw [List.mem_cons] at h1 h2
   rcases h1 with h1 | h1
   ·exact h1
   ·rcases h2 with h2 | h2
    ·exact h2.symm
    ·exact absurd (a1 y h2) (has y x (b1 x h1))
  subst exy
  have hx : ∀ z, R x z → z ≠ x := fun z hz e => by subst e; exact has _ _ hz hz
  rw [zHf has a2 b2 fun z => ⟨fun hz => (List.mem_cons.1 ((h z).1 (List.mem_cons_of_mem _ hz))).resolve_left (hx z (a1 z hz)), fun hz => (List.mem_cons.1 ((h z).2 (List.mem_cons_of_mem _ hz))).resolve_left (hx z (b1 z hz))⟩]
theorem zMZ {α : Type} [Inhabited α] {κ : Type} {lt : κ → κ → Bool} {f : α → κ} {l : List α} (h : zAN lt f l) : l.Pairwise fun a b => lt (f a) (f b) = true := by
 rw [List.pairwise_iff_getElem]
 intro i j hi hj hij
 have := h i j hij hj
 rwa [zAM hi, zAM hj] at this
theorem zM0 : ∀ {l : List ByteArray}, wkL l → (zBs l).Pairwise fun a b => zAg a b = true
 | [], _ => List.Pairwise.nil
 | [y], _ => by simp [zBs]
 | y :: z :: t, h => by
  unfold zBs
  have ht : wkL (z :: t) := (List.pairwise_cons.1 h).2
  split
  ·exact zM0 ht
  ·rename_i e
   refine List.pairwise_cons.2 ⟨fun m hm => ?_, zM0 ht⟩
   rw [zD7, List.mem_cons] at hm
   have h1 := (List.pairwise_cons.1 h).1 z List.mem_cons_self
   rcases zBZ y z with q | q | q
   ·rcases hm with hm | hm
    ·rw [hm]; exact q
    ·have h2 := (List.pairwise_cons.1 ht).1 m hm
     rcases zBZ z m with p | p | p
     ·exact zBI q p
     ·rw [← p]; exact q
     ·rw [h2] at p; cases p
   ·exact absurd q e
   ·rw [h1] at q; cases q
def zEB (reads : List ByteArray) (ws : List Write) : List ByteArray := (reads ++ ws.map (·.Key)).foldl zBP []
theorem zPZ {reads : List ByteArray} {ws : List Write} : zAN zAg id (zEB reads ws) := zFF fun i j _ h => absurd h (Nat.not_lt_zero _)
theorem zP0 {reads : List ByteArray} {ws : List Write} {x : ByteArray} : x ∈ zEB reads ws ↔ x ∈ reads ++ ws.map (·.Key) := by
 rw [zEB, zNE]; simp
theorem zP1 {reads : List ByteArray} {ws : List Write} : (zEB reads ws).length ≤ reads.length + ws.length := by
 have := zGS (ws := reads ++ ws.map (·.Key)) (l := [])
 simp only [List.length_append, List.length_map, List.length_nil] at this
 rw [zEB]; omega
theorem zXJ {reads : List ByteArray} {ws : List Write} : zBs (zBR (reads ++ ws.map (·.Key))) = zEB reads ws := by
 refine zHf (R := fun a b => zAg a b = true) (fun a b h k => ?_) (zM0 (zPM _)) (zMZ zPZ) fun x => ?_
 ·have := zBI h k; rw [zBM] at this; cases this
 ·rw [zD7, zNF, zP0]
def zWu (a b : Int) : Int := if a < b then -1 else if b < a then 1 else 0
theorem zWv : Ord ltI zWu := ⟨fun a b => by unfold zWu ltI; split <;> (try split) <;> simp_all, fun a b => by unfold zWu; split <;> (try split) <;> omega, fun a => by simp [ltI], fun a b c => by simp only [ltI, decide_eq_true_eq]; omega, fun a b => by simp only [ltI, decide_eq_true_eq]; omega⟩
abbrev zFP (l : List Int) : Prop := zAN ltI (fun x : Int => x) l
abbrev iK (l : List Int) (x : Int) : Nat := fxI ltI (fun x : Int => x) l x
abbrev fK (l : List Int) (x : Int) : Bool := fxF (fun x : Int => x) l x
def zCT (l : List Int) (x : Int) : List Int := if fK l x = true then l else putAt l (iK l x) x
theorem zAab {l : List Int} {x : Int} : fK l x = true ↔ x ∈ l := by
 unfold fK fxF
 rw [List.any_eq_true]
 exact ⟨fun ⟨y, h1, h2⟩ => by rw [decide_eq_true_eq] at h2; exact h2 ▸ h1, fun h => ⟨x, h, by simp⟩⟩
theorem zS0 {l : List Int} {x y : Int} : y ∈ zCT l x ↔ y = x ∨ y ∈ l := by
 unfold zCT
 split
 ·rename_i h
  exact ⟨.inr, fun e => e.elim (fun e => e ▸ zAab.1 h) id⟩
 ·exact zDn
theorem zS1 {l : List Int} {x : Int} (h : zFP l) : zFP (zCT l x) := by
 unfold zCT
 split
 ·exact h
 ·rename_i hf
  exact zFD (x := x) zWv h (by simpa using hf)
theorem zAa9 {l : List Int} {x : Int} (hs : zFP l) {k : Nat} (hk : k ≤ l.length) (h1 : ∀ i, i < k → nth l i < x) (h2 : ∀ i, k ≤ i → i < l.length → x ≤ nth l i) : iK l x = k := by
 have lo : ∀ i, i < l.length → (i < iK l x ↔ nth l i < x) := fun i hi => by
  have := zGw (k := x) zWv hs hi
  simpa only [ltI, decide_eq_true_eq] using this
 have hle : iK l x ≤ l.length := zDT
 rcases Nat.lt_trichotomy (iK l x) k with h | h | h
 ·have := (lo (iK l x) (by omega)).2 (h1 _ h); omega
 ·exact h
 ·have := (lo k (by omega)).1 h
  have := h2 k (Nat.le_refl _) (by omega)
  omega
theorem zAba {l : List Int} {x : Int} (hs : zFP l) {k : Nat} (hk : k < l.length) (h : nth l k = x) : fK l x = true := zB8.2 ⟨k, hk, h⟩
theorem zAac {l : List Int} {x : Int} (hs : zFP l) {k : Nat} (hi : iK l x = k) (h : k < l.length → nth l k ≠ x) : fK l x = false := by
 cases hf : fK l x with
 | false => rfl
 | true =>
  obtain ⟨a, b⟩ := zCZ zWv hs hf
  rw [show fxI ltI (fun x : Int => x) l x = k from hi] at a b
  exact absurd b (h a)
def zBL : List Int → List Int
 | [] => []
 | [x] => [x]
 | x :: y :: t => if x = y then zBL (y :: t) else x :: zBL (y :: t)
theorem zGD {x : Int} : ∀ {l : List Int}, x ∈ zBL l ↔ x ∈ l
 | [] => Iff.rfl
 | [y] => Iff.rfl
 | y :: z :: t => by
  unfold zBL
  split
  ·rename_i h
   rw [zGD, List.mem_cons (a := x) (b := y), h]
   exact ⟨.inr, fun e => e.elim (fun e => e ▸ List.mem_cons_self) id⟩
  ·rw [List.mem_cons, List.mem_cons (b := y), zGD]
theorem zM1 : ∀ {l : List Int}, l.Pairwise (· ≤ ·) → (zBL l).Pairwise fun a b => ltI a b = true
 | [], _ => List.Pairwise.nil
 | [y], _ => by simp [zBL]
 | y :: z :: t, h => by
  unfold zBL
  have ht := (List.pairwise_cons.1 h).2
  split
  ·exact zM1 ht
  ·rename_i e
   refine List.pairwise_cons.2 ⟨fun m hm => ?_, zM1 ht⟩
   rw [zGD, List.mem_cons] at hm
   have h1 := (List.pairwise_cons.1 h).1 z List.mem_cons_self
   simp only [ltI, decide_eq_true_eq]
   rcases hm with hm | hm
   ·omega
   ·have h2 := (List.pairwise_cons.1 ht).1 m hm
    omega
theorem zNN {x : Int} : ∀ {p : List Int}, 0 < p.length → zBL (p ++ [x]) = if nth p (p.length - 1) = x then zBL p else zBL p ++ [x]
 | [], h => by simp at h
 | [y], _ => by
  simp only [List.cons_append, List.nil_append, zBL, List.length_cons, List.length_nil, Nat.zero_add, Nat.sub_self, nth, List.getD_cons_zero]
  split
  ·rename_i h; rw [h]
  ·rfl
 | y :: z :: t, _ => by
  have ih := zNN (x := x) (p := z :: t) (by simp)
  have e : nth (y :: z :: t) ((y :: z :: t).length - 1) = nth (z :: t) ((z :: t).length - 1) := by
   simp [nth, List.getD]
  rw [e, List.cons_append, List.cons_append, zBL, ← List.cons_append, ih]
  by_cases h1 : y = z
  ·rw [if_pos h1]
   by_cases h2 : nth (z :: t) ((z :: t).length - 1) = x
   ·rw [if_pos h2, if_pos h2, zBL, if_pos h1]
   ·rw [if_neg h2, if_neg h2, zBL, if_pos h1]
  ·rw [if_neg h1]
   by_cases h2 : nth (z :: t) ((z :: t).length - 1) = x
   ·rw [if_pos h2, if_pos h2, zBL, if_neg h1]
   ·rw [if_neg h2, if_neg h2, zBL, if_neg h1]; rfl
theorem zNO {l : List Int} {m : Nat} (h0 : 0 < m) (hm : m < l.length) : zBL (l.take (m + 1)) = if nth l (m - 1) = nth l m then zBL (l.take m) else zBL (l.take m) ++ [nth l m] := by
 have e : (l.take m).length = m := by rw [List.length_take]; omega
 have e2 : nth (l.take m) (m - 1) = nth l (m - 1) := by simp [nth, List.getD, List.getElem?_take, show m - 1 < m by omega]
 rw [zAp hm, zNN (by omega), e, e2]
theorem zWw {l : List Int} (h : 0 < l.length) : 0 < (zBL l).length := by
 cases l with
 | nil => simp at h
 | cons x t =>
  have : x ∈ zBL (x :: t) := zGD.2 List.mem_cons_self
  exact List.length_pos_of_mem this
theorem zP2 {p q : Nat → Bool} (h : ∀ i, p i = true → q i = true) : ∀ {n : Nat}, zCl p n ≤ zCl q n
 | 0 => Nat.le_refl _
 | n + 1 => by
  have ih := zP2 h (n := n)
  simp only [zCl]
  cases e : p n with
  | false => simp only [Bool.false_eq_true, if_false]; split <;> omega
  | true => rw [h n e]; simp only [if_true]; omega
theorem zS2 {cuts : List ByteArray} {a b : ByteArray} (h : zAg a b = true) : zC1 cuts a ≤ zC1 cuts b := by
 refine zP2 fun i hi => ?_
 cases e : zAg b (nth cuts i) with
 | false => rfl
 | true => rw [zBI h e] at hi; cases hi
def zDr (cuts : List ByteArray) (K : List ByteArray) : List Int := K.foldl (fun l k => zCT l (zC1 cuts k)) []
theorem zKz {cuts : List ByteArray} {y : Int} : ∀ {K : List ByteArray} {l : List Int}, y ∈ K.foldl (fun l k => zCT l (zC1 cuts k)) l ↔ (∃ k ∈ K, y = zC1 cuts k) ∨ y ∈ l
 | [], l => by simp
 | k :: K, l => by
  rw [List.foldl_cons, zKz, zS0]
  simp only [List.mem_cons, exists_eq_or_imp, or_assoc, or_left_comm]
theorem zKA {cuts : List ByteArray} : ∀ {K : List ByteArray} {l : List Int}, zFP l → zFP (K.foldl (fun l k => zCT l (zC1 cuts k)) l)
 | [], l, h => h
 | k :: K, l, h => zKA (K := K) (zS1 h)
theorem zF7 {cuts : List ByteArray} {K : List ByteArray} : zFP (zDr cuts K) := zKA fun i j _ h => absurd h (Nat.not_lt_zero _)
theorem zF8 {cuts : List ByteArray} {K : List ByteArray} {y : Int} : y ∈ zDr cuts K ↔ ∃ k ∈ K, y = zC1 cuts k := by
 rw [zDr, zKz]; simp
theorem zU9 {cuts : List ByteArray} {K : List ByteArray} (hK : zAN zAg id K) : zBL (K.map fun k => (zC1 cuts k : Int)) = zDr cuts K := by
 refine zHf (R := fun a b => ltI a b = true) (fun a b h k => ?_) (zM1 ?_) (zMZ zF7) fun x => ?_
 ·simp only [ltI, decide_eq_true_eq] at h k; omega
 ·rw [List.pairwise_map]
  refine (zMZ hK).imp fun h => ?_
  have := zS2 (cuts := cuts) h
  simp only [id] at this
  omega
 ·rw [zGD, List.mem_map, zF8]
  exact ⟨fun ⟨k, h1, h2⟩ => ⟨k, h1, h2.symm⟩, fun ⟨k, h1, h2⟩ => ⟨k, h1, h2.symm⟩⟩
def zCU (cuts : List ByteArray) (reads : List ByteArray) (ws : List Write) : List Int := zDr cuts (zEB reads ws)
theorem zMk : ∀ (n : Nat) {l : List Int}, zFP l → (∀ x ∈ l, 0 ≤ x ∧ x ≤ n) → l.length ≤ n + 1 := by
 intro n l hs h
 have hT : ∀ i, i < l.length → (i : Int) ≤ nth l i := by
  intro i
  induction i with
  | zero => intro hi; exact (h _ (zAc hi)).1
  | succ i ih =>
   intro hi
   have h1 := ih (by omega)
   have h2 : nth l i < nth l (i + 1) := of_decide_eq_true (hs i (i + 1) (by omega) hi)
   omega
 rcases Nat.eq_zero_or_pos l.length with e | e
 ·omega
 ·have h1 := hT (l.length - 1) (by omega)
  have h2 := h _ (zAc (l := l) (i := l.length - 1) (by omega))
  omega
theorem zNP {cuts reads : List ByteArray} {ws : List Write} {p : Int} (h : p ∈ zCU cuts reads ws) : 0 ≤ p ∧ p ≤ cuts.length := by
 obtain ⟨k, _, rfl⟩ := zF8.1 h
 have := zPU (cuts := cuts) (k := k)
 omega
theorem zS3 {cuts reads : List ByteArray} {ws : List Write} : (zCU cuts reads ws).length ≤ cuts.length + 1 := zMk _ zF7 fun x hx => zNP hx
theorem zS4 {cuts reads : List ByteArray} {ws : List Write} (h : 0 < reads.length + ws.length) : 0 < (zCU cuts reads ws).length := by
 have : ∃ x, x ∈ reads ++ ws.map (·.Key) := by
  cases reads with
  | cons x t => exact ⟨x, by simp⟩
  | nil =>
   cases ws with
   | cons w t => exact ⟨w.Key, by simp⟩
   | nil => simp at h
 obtain ⟨x, hx⟩ := this
 exact List.length_pos_of_mem (zF8.2 ⟨x, zP0.2 hx, rfl⟩)
def zFa (L : List State) (p : Int) (r : Rec) : List State := match zA7 (nth L p.toNat) r with | some s => L.set p.toNat s | none => L
def noR (t : Int) : Rec := ⟨2, t, 0, 0, [], [], false⟩
def doR (t : Int) (x : Told) : Rec := ⟨3, t, x.Time, 0, [], [], x.Yes⟩
def zDs (L : List State) : Prop := ∀ s ∈ L, sG s
theorem zLh {L : List State} {p : Int} {r : Rec} : (zFa L p r).length = L.length := by
 unfold zFa; split
 ·rw [List.length_set]
 ·rfl
theorem zP3 {L : List State} {p : Int} {r : Rec} (h : zDs L) (hp : p.toNat < L.length) (hr : zA2 r = true) (hk : r.Kind = 2 ∨ r.Kind = 3) : zDs (zFa L p r) := by
 unfold zFa
 split
 ·rename_i s e
  intro x hx
  rcases List.mem_or_eq_of_mem_set hx with hx | rfl
  ·exact h x hx
  ·exact zAaa (h _ (zAc hp)) hr hk e
 ·exact h
theorem zMl {t : Int} (h1 : 1 ≤ t) (h2 : t ≤ 60) : zA2 (noR t) = true := by
 have : rng t 1 60 = true := zBW.2 ⟨h1, h2⟩
 simp [zA2, noR, zEx, this]
theorem zXK {s : State} (h : zAN ltI Told.Txn s.Told) {t : Int} (e : tF s.Told t = true) : zB4 s.Told t ∈ s.Told ∧ (zB4 s.Told t).Txn = t := by
 obtain ⟨a, b⟩ := zCZ zBK h e
 rw [zB4, if_pos e]
 exact ⟨zAc a, b⟩
theorem zP4 {s : State} (h : sG s) {t : Int} (e : tF s.Told t = true) : zA2 (doR t (zB4 s.Told t)) = true := by
 obtain ⟨h1, h2⟩ := zXK h.tsrt e
 obtain ⟨b1, b2, b3, b4⟩ := h.tok _ h1
 have := h.f1
 rw [h2] at b1 b2
 have hr : rng t 1 60 = true := zBW.2 ⟨b1, b2⟩
 rcases b3 with ⟨q1, q2, q3⟩ | ⟨q1, q2⟩
 ·have hq : rng (zB4 s.Told t).Time 1 100000 = true := zBW.2 ⟨q2, by omega⟩
  simp [zA2, doR, zEx, hr, q1, hq]
 ·simp [zA2, doR, zEx, hr, q1, q2]
def zD8 (t lead : Int) (L : List State) (p : Int) : List State := if tF (nth L lead.toNat).Told t then zFa L p (doR t (zB4 (nth L lead.toNat).Told t)) else L
def preB (t : Int) (ps : List Int) (L : List State) : Bool := !tF (nth L (nth ps 0).toNat).Told t && ps.any fun p => hF (nth L p.toNat).Held t
def zDG (t : Int) (ps : List Int) (L : List State) : List State := if preB t ps L then zFa L (nth ps 0) (noR t) else L
def ordA (t : Int) (ps : List Int) (L : List State) : List State := (ps.drop 1).foldl (zD8 t (nth ps 0)) (zDG t ps L)
def zLi (cuts : List ByteArray) (L : List State) (o : Order) : List State := ordA o.Txn (zCU cuts o.Reads o.Writes) L
def zHg (d : Deal) : List State := d.Orders.foldl (zLi d.Cuts) d.States
def inP (ps : List Int) (L : List State) : Prop := ∀ p ∈ ps, 0 ≤ p ∧ p.toNat < L.length
theorem zP5 {t lead p : Int} {L : List State} (h : zDs L) (hl : lead.toNat < L.length) (hp : p.toNat < L.length) : zDs (zD8 t lead L p) ∧ (zD8 t lead L p).length = L.length := by
 unfold zD8
 split
 ·rename_i e
  exact ⟨zP3 h hp (zP4 (h _ (zAc hl)) e) (.inr rfl), zLh⟩
 ·exact ⟨h, rfl⟩
theorem zMm {t : Int} {ps : List Int} {L : List State} (h : zDs L) (hl : (nth ps 0).toNat < L.length) (h1 : 1 ≤ t) (h2 : t ≤ 60) : zDs (zDG t ps L) ∧ (zDG t ps L).length = L.length := by
 unfold zDG
 split
 ·exact ⟨zP3 h hl (zMl h1 h2) (.inl rfl), zLh⟩
 ·exact ⟨h, rfl⟩
theorem zVa {t lead : Int} : ∀ {ps : List Int} {L : List State}, zDs L → lead.toNat < L.length → inP ps L → zDs (ps.foldl (zD8 t lead) L) ∧ (ps.foldl (zD8 t lead) L).length = L.length
 | [], L, h, _, _ => ⟨h, rfl⟩
 | p :: ps, L, h, hl, hp => by
  obtain ⟨a, b⟩ := zP5 (t := t) h hl (hp p List.mem_cons_self).2
  obtain ⟨c, d⟩ := zVa (t := t) (ps := ps) a (by rw [b]; exact hl) fun q hq => ⟨(hp q (List.mem_cons_of_mem _ hq)).1, by rw [b]; exact (hp q (List.mem_cons_of_mem _ hq)).2⟩
  exact ⟨c, d.trans b⟩
theorem zVb (hS : zB5) (reads : List ByteArray) (ws : List Write) (h1 : reads.length ≤ 2 ^ 18) (h2 : ws.length ≤ 2 ^ 18) : ACall p_ 122 [.sl false 1 (strs reads), .sl false 3 (ws.map (Write.row false))] (fun r _ => r = .sl true 1 (strs (zEB reads ws))) := by
 have hmx := zAh
 have hap : strs reads ++ strs (ws.map (·.Key)) = strs (reads ++ ws.map (·.Key)) := by simp [strs]
 have hl : (reads ++ ws.map (·.Key)).length = reads.length + ws.length := by simp only [List.length_append, List.length_map]
 have hk := zXJ (reads := reads) (ws := ws)
 have c1 := zDf reads (by omega)
 have c2 := zJq ws (by omega)
 have c3 := zRD hS (reads ++ ws.map (·.Key)) (by omega)
 have c4 := zFU (zBR (reads ++ ws.map (·.Key))) (by rw [zFG]; omega)
 rw [hk] at c4
 have hsl : (zBR (reads ++ ws.map (·.Key))).length = reads.length + ws.length := by rw [zFG, hl]
 have hst : (zBR (reads ++ ws.map (·.Key))).take (reads.length + ws.length) = zBR (reads ++ ws.map (·.Key)) := List.take_of_length_le (by omega)
 refine fg H122 fun E hE hH => ?_; simp only [go_sem, hE, hH, zYR]
 all_goals (have y1_ := hap; have y2_ := hl; have y3_ := hsl; have y4_ := hst; repeat' (first | ((with_reducible apply ga) <;> refine zJJ fun h => ?_) | ((with_reducible apply an); · omega) | (refine zAI [true] ?_; refine zCV ?_; refine cmA (c3) ?_; refine zCV ?_) | (refine zAI [true] ?_; refine zCV ?_; refine cmA (c4) ?_; refine zCV ?_) | ((first | refine zAa ?_ | refine cvA (c1) ?_ | refine cvA (c2) ?_); refine zCV ?_) | (with_reducible first | apply jn | apply both | apply an | exact ti) | exact zJL | refine zCV ?_ | exact zJM | refine zJK ?_))
 all_goals first | omega | rfl
theorem zQC (reads : List ByteArray) (ws : List Write) (h1 : wfL (fun s => s.size ≤ maxLen) reads) (h2 : wfL Write.wf ws) : ACall p_ 116 [.sl false 1 (strs reads), .sl false 3 (ws.map (Write.row false))] (fun r _ => r = bl (zA2 ⟨1, 1, 1, 0, reads, ws, false⟩)) := by
 have hmx := zAh
 have c1 := zL7 ⟨1, 1, 1, 0, reads, ws, false⟩ (by unfold Rec.wf; simp only; exact ⟨by omega, by omega, by omega, by omega, h1, h2⟩)
 refine fg H116 fun E hE hH => ?_; simp only [go_sem, hE, hH, zYO]
 repeat' (first | ((with_reducible apply ga) <;> refine gs fun h => ?_) | ((with_reducible apply an); · omega) | ((first | refine zAa ?_ | refine cvA (c1) ?_); refine st ?_) | (with_reducible first | apply jn | apply both | apply an | exact ti) | exact fj | refine st ?_ | exact fm | refine s1 ?_)
 all_goals trace_state
theorem zM2 (l : List Int) (hl : l.length ≤ 2 ^ 20) : ACall p_ 124 [.sl true 1 (ints l)] (fun r a => r = .sl true 1 (ints (zBL l)) ∧ a = [.any]) := by
 have hmx := zAh
 refine zGr [true] (hqA zYU) (hqB zYU) ⟨by simp only [go_sem], fun E hE hH => ?_⟩; simp only [go_sem] at hE hH; simp only [go_sem, hE, hH, zYT]
 repeat' (first | ((with_reducible apply ga) <;> refine gs fun h => ?_) | ((with_reducible apply an); · omega) | (with_reducible first | apply jn | apply both | apply an | exact ti) | exact fj | refine st ?_ | exact fm | refine s1 ?_)
 ·have : zBL l = l := by
   rcases l with _ | ⟨a, _ | ⟨b, t⟩⟩
   ·rfl
   ·rfl
   ·exfalso; simp only [List.length_cons] at h; try omega
  rw [this]; try rfl
 have h2 : 2 ≤ l.length := by omega
 have t1 : zBL (l.take 1) = l.take 1 := by
  match l, h2 with
  | _ :: _ :: _, _ => rfl
 refine zAG (l.length - 1) (fun j (_ : Unit) => ⟨[(0, .ref 0 0 l.length), (3, i64 (j + 1 : Nat))], [(0, ⟨1, ints l⟩)]⟩) (fun j _ => zBL (l.take (j + 1)) = l.take (j + 1)) () rfl t1 ?_
 intro j _ hj hI
 have e1 : (((j + 1 : Nat) : Int) - 1).toNat = j := by omega
 have e2 : ((j + 1 : Nat) : Int).toNat = j + 1 := by omega
 try simp only [go_sem, hE, hH, zQ5]
 first | refine zAe (fun hh => ?_) (fun hh => ?_) | refine zAf (fun hh => ?_) (fun hh => ?_)
 ·have hb := hh
  simp only [nf] at hh
  have hlt : j + 1 < l.length := by omega
  have hct := zNO (l := l) (Nat.succ_pos j) hlt
  rw [show j.succ - 1 = j from rfl, show j.succ = j + 1 from rfl] at hct
  try simp (disch := omega) only [go_sem, hE, hH, e1, e2, hb]
  all_goals (have y1_ := e1; have y2_ := e2; repeat' (first | ((with_reducible apply ga) <;> refine zHi fun h => ?_) | ((with_reducible apply an); · omega) | (with_reducible first | apply jn | apply both | apply an | exact ti) | exact zHk | refine zCA ?_ | exact zHl | refine zHj ?_))
  all_goals try omega
  ·rw [if_pos (by first | exact h.symm | exact h | omega), hI] at hct
   refine zAG (l.length - (j + 1) - 1) (fun m (x : List Int × Nat) => ⟨[(0, .ref 0 0 l.length), (3, i64 x.2), (4, .ref 0 (j + 1) (l.length - (j + 1))), (5, i64 (m + 1 : Nat))], [(0, ⟨1, ints x.1⟩)]⟩) (fun m x => x.1.length = l.length ∧ x.1.take x.2 = zBL (l.take (j + 1 + (m + 1))) ∧ x.2 = (zBL (l.take (j + 1 + (m + 1)))).length ∧ (∀ q, j + 1 + m ≤ q → q < l.length → nth x.1 q = nth l q) ∧ x.2 ≤ j + 1 + m) (l, j + 1) rfl ⟨rfl, hct.symm, by rw [hct, List.length_take]; omega, fun _ _ _ => rfl, Nat.le_refl _⟩ ?_
   rintro m ⟨R, k⟩ hm ⟨i1, i2, i3, i4, i5⟩
   simp only at i1 i2 i3 i4 i5
   have hkp : 0 < k := by rw [i3]; exact zWw (by rw [List.length_take]; omega)
   have f1 : (((m + 1 : Nat) : Int) - 1).toNat = m := by omega
   have f2 : ((m + 1 : Nat) : Int).toNat = m + 1 := by omega
   try simp only [go_sem, hE, hH, zQ4]
   first | refine zAe (fun hq => ?_) (fun hq => ?_) | refine zAf (fun hq => ?_) (fun hq => ?_)
   ·have hbq := hq
    simp only [nf] at hq
    have hlt2 : j + 1 + (m + 1) < l.length := by omega
    have hct2 := zNO (l := l) (show 0 < j + 1 + (m + 1) by omega) hlt2
    have g1 := i4 (j + 1 + m) (by omega) (by omega)
    have g2 := i4 (j + 1 + (m + 1)) (by omega) (by omega)
    rw [show j + 1 + (m + 1) - 1 = j + 1 + m by omega] at hct2
    try simp (disch := omega) only [go_sem, hE, hH, f1, f2, i1, g1, g2, hbq]
    all_goals (have y1_ := f1; have y2_ := f2; have y3_ := i1; have y4_ := g1; have y5_ := g2; repeat' (first | ((with_reducible apply ga) <;> refine zJF fun h => ?_) | ((with_reducible apply an); · omega) | (with_reducible first | apply jn | apply both | apply an | exact ti) | exact zJH | refine zDv ?_ | exact zJI | refine zJG ?_))
    all_goals try omega
    ·rw [if_neg (by first | exact h | exact fun e => h e.symm | omega)] at hct2
     refine ⟨(R.set k (nth l (j + 1 + (m + 1))), k + 1), by simp [ints, List.map_set], by simp [i1], ?_, ?_, ?_, by simp only; omega⟩
     ·simp only
      rw [zIx (by omega), i2, show j + 1 + (m + 1 + 1) = j + 1 + (m + 1) + 1 by omega, hct2]
     ·simp only
      rw [show j + 1 + (m + 1 + 1) = j + 1 + (m + 1) + 1 by omega, hct2, List.length_append, ← i3]; rfl
     ·intro q a b
      simp only
      rw [zMc (by omega)]; exact i4 q (by omega) b
    ·rw [if_pos (by first | exact h.symm | exact h | omega)] at hct2
     refine ⟨(R, k), rfl, i1, ?_, ?_, fun q a b => i4 q (by omega) b, by simp only; omega⟩
     ·simp only
      rw [i2, show j + 1 + (m + 1 + 1) = j + 1 + (m + 1) + 1 by omega, hct2]
     ·simp only
      rw [show j + 1 + (m + 1 + 1) = j + 1 + (m + 1) + 1 by omega, hct2, ← i3]
   ·have hkl : k < l.length := by omega
    simp only [nf] at hq
    rw [show j + 1 + (m + 1) = l.length by omega, List.take_length] at i2 i3
    have r1 : ∀ z, (zAm (ints R) k (List.replicate (l.length - k) z)).take k = ints (R.take k) := fun z => by
     rw [zAm, List.append_assoc, List.take_append_of_le_length (by simp [ints]; omega), List.take_take, Nat.min_self, ints, ints, List.map_take]
    have r2 : ∀ z, (zAm (ints R) k (List.replicate (l.length - k) z)).length = l.length := fun z => by
     rw [zBb (by simp [ints]; omega)]; simp [ints, i1]
    have hqf : decide (((m + 1 : Nat) : Int) < ((l.length - (j + 1) : Nat) : Int)) = false := decide_eq_false (by omega)
    have e4 : ((k : Nat) : Int).toNat = k := rfl
    try simp (disch := omega) only [go_sem, hE, hH, i1, r1, r2, hqf, e4]
    all_goals (have y1_ := i1; have y2_ := r1; have y3_ := r2; have y4_ := hqf; have y5_ := e4; repeat' (first | ((with_reducible apply ga) <;> refine zJF fun h => ?_) | ((with_reducible apply an); · omega) | (with_reducible first | apply jn | apply both | apply an | exact ti) | exact zJH | refine zDv ?_ | exact zJI | refine zJG ?_))
    ·rw [List.length_take]; omega
    ·rw [i2]
  ·rw [if_neg (by first | exact h | exact fun e => h e.symm | omega), hI] at hct
   exact ⟨(), rfl, by rw [hct, zAp hlt]⟩
 ·try simp (disch := omega) only [go_sem, hE, hH, hh]
  simp only [nf] at hh
  rw [show j + 1 = l.length by omega, List.take_length] at hI
  rw [hI]
theorem zS5 (hS : zB5) (cuts : List ByteArray) (reads : List ByteArray) (ws : List Write) (hc : cuts.length ≤ 2 ^ 18) (h1 : reads.length ≤ 2 ^ 18) (h2 : ws.length ≤ 2 ^ 18) : ACall p_ 65 [.sl false 1 (strs cuts), .sl false 1 (strs reads), .sl false 3 (ws.map (Write.row false))] (fun r _ => r = .sl true 1 (ints (zCU cuts reads ws))) := by
 have hmx := zAh
 have hkl := zP1 (reads := reads) (ws := ws)
 have hp : zBL ((zEB reads ws).map fun k => (zC1 cuts k : Int)) = zCU cuts reads ws := zU9 zPZ
 have c1 := zVb hS reads ws h1 h2
 refine fg H65 fun E hE hH => ?_; simp only [go_sem, hE, hH, C65]
 repeat' (first | ((with_reducible apply ga) <;> refine gs fun h => ?_) | ((with_reducible apply an); · omega) | ((first | refine zAa ?_ | refine cvA (c1) ?_); refine st ?_) | (with_reducible first | apply jn | apply both | apply an | exact ti) | exact fj | refine st ?_ | exact fm | refine s1 ?_)
 clear c1
 generalize zEB reads ws = K at *
 refine zAK K.length (fun j (x : List Int) => ⟨[(0, .sl false 1 (strs cuts)), (7, .ref 8000000 0 x.length), (13, .ref 14000000 0 K.length), (14, i64 K.length), (15, i64 j)], [(8000000, ⟨1, ints x⟩), (14000000, ⟨1, strs K⟩)]⟩) (fun j x => x = (K.take j).map fun k => (zC1 cuts k : Int)) [] rfl ?_
 intro j x hj hx
 have hlen : x.length = j := by rw [hx]; simp; omega
 try simp only [go_sem, hE, hH, zUo]
 first | refine zAe (fun h => ?_) (fun h => ?_) | refine zAf (fun h => ?_) (fun h => ?_)
 ·have hb := h
  simp only [nf] at h
  have hlt := h; clear h
  have cp := zUU cuts (nth K j) (by omega)
  rw [show zCl (fun i => !zAg (nth K j) (nth cuts i)) cuts.length = zC1 cuts (nth K j) from rfl] at cp
  try refine sb ?_; try exact ⟨⟩
  repeat' (first | ((with_reducible apply ga) <;> refine gs fun h => ?_) | ((with_reducible apply an); · omega) | ((first | refine zAa ?_ | refine cvA (cp) ?_); refine st ?_) | (with_reducible first | apply jn | apply both | apply an | exact ti) | exact fj | refine st ?_ | exact fm | refine s1 ?_)
  all_goals first | omega | (rw [zAp hlt, List.map_append, ← hx]; simp [ints, strs, hlen]; omega)
 ·try simp (disch := omega) only [go_sem, hE, hH, h]
  simp only [nf] at h
  rw [show j = K.length by omega, List.take_length] at hx
  have cc := zM2 x (by omega)
  rw [hx, hp, ← hx] at cc
  repeat' (first | ((with_reducible apply ga) <;> refine gs fun h => ?_) | ((with_reducible apply an); · omega) | (refine zAI [true] ?_; refine st ?_; refine cmA (cc) ?_; refine st ?_) | (with_reducible first | apply jn | apply both | apply an | exact ti) | exact fj | refine st ?_ | exact fm | refine s1 ?_)
  all_goals trace_state
theorem zJB (o : Order) (h1 : o.Reads.length ≤ 2 ^ 20) (h2 : o.Writes.length ≤ 2 ^ 20) : ACall p_ 64 [.agg (Order.row false o)] (fun r _ => r = .agg (Order.row true o)) := by
 refine fg H64 fun E hE hH => ?_; simp only [go_sem, hE, hH, C64]
 repeat' (first | ((with_reducible apply ga) <;> refine gs fun h => ?_) | ((with_reducible apply an); · omega) | ((first | refine zAa ?_ | refine cvA (zDf _ h1) ?_ | refine cvA (zHC _ h2) ?_); refine st ?_) | (with_reducible first | apply jn | apply both | apply an | exact ti) | exact fj | refine st ?_ | exact fm | refine s1 ?_)
 all_goals rfl
def zF9 (o : Order) : Bool := rng o.Txn 1 60 && zA2 ⟨1, 1, 1, 0, o.Reads, o.Writes, false⟩
def zDD (l : List Order) (i : Nat) : Bool := zF9 (nth l i) && !(l.take i).any fun p => decide (p.Txn = (nth l i).Txn)
def zDW (l : List Order) : Bool := zAD (zDD l) l.length && decide ((l.length : Int) ≤ 8)
def zA3 (d : Deal) : Bool := zDU d.Cuts && decide ((d.States.length : Int) = d.Cuts.length + 1) && d.States.all zA6 && zDW d.Orders
structure dealW (d : Deal) : Prop where
 cuts : zBN (fun s => s.size ≤ maxLen) d.Cuts
 cl : d.Cuts.length ≤ 2 ^ 20
 sl : d.States.length ≤ 2 ^ 20
 sts : ∀ s ∈ d.States, zGV s ∧ zGT s.Cells ∧ s.Cells.length ≤ 2 ^ 20 ∧ s.Told.length ≤ 2 ^ 20
 ol : d.Orders.length ≤ 2 ^ 20
 ords : ∀ o ∈ d.Orders, o.wf ∧ o.Reads.length ≤ 2 ^ 20 ∧ o.Writes.length ≤ 2 ^ 20
theorem zWx {d : Deal} (hw : d.wf) (hs : d.sz ≤ 2 ^ 20) : dealW d := by
 obtain ⟨w1, w2, w3⟩ := hw
 have e : d.sz = szL ByteArray.size d.Cuts + szL State.sz d.States + szL Order.sz d.Orders := rfl
 have l1 := zA9 (f := ByteArray.size) (l := d.Cuts)
 have l2 := zA9 (f := State.sz) (l := d.States)
 have l3 := zA9 (f := Order.sz) (l := d.Orders)
 refine ⟨⟨w1.1, w1.2⟩, by omega, by omega, fun s h => ?_, by omega, fun o h => ?_⟩
 ·have := zCq (f := State.sz) h
  exact zZ8 (w2.2 s h) (by omega)
 ·have h0 := zCq (f := Order.sz) h
  have h5 : Order.sz o = szL ByteArray.size o.Reads + szL Write.sz o.Writes := rfl
  have h6 := zA9 (f := ByteArray.size) (l := o.Reads)
  have h7 := zA9 (f := Write.sz) (l := o.Writes)
  exact ⟨w3.2 o h, by omega, by omega⟩
theorem zS6 (o : Order) (hw : o.wf) : ACall p_ 59 [.agg (Order.row false o)] (fun r _ => r = bl (zF9 o)) := by
 obtain ⟨w1, w2, w3⟩ := hw
 refine fg H59 fun E hE hH => ?_; simp only [go_sem, hE, hH, C59]
 repeat' (first | ((with_reducible apply ga) <;> refine gs fun h => ?_) | ((with_reducible apply an); · omega) | ((first | refine zAa ?_ | refine cvA (zLe _) ?_ | refine cvA (zQC _ _ w2 w3) ?_); refine st ?_) | (with_reducible first | apply jn | apply both | apply an | exact ti) | exact fj | refine st ?_ | exact fm | refine s1 ?_)
 all_goals (first | (simp_all [zF9]; done) | (simp_all [zF9] <;> first | omega | (intros; omega)))
theorem zN9 (hS : zB5) (s : State) (hw : zGV s) (hcw : zGT s.Cells) (hcl : s.Cells.length ≤ 2 ^ 20) (htl : s.Told.length ≤ 2 ^ 20) : ACall p_ 57 ([.agg (State.row false s)] ++ []) (fun r _ => r = bl (!zA6 s)) := by
 refine fg H57 fun E hE hH => ?_; simp only [go_sem, hE, hH, C57]
 repeat' (first | ((with_reducible apply ga) <;> refine gs fun h => ?_) | ((with_reducible apply an); · omega) | ((first | refine zAa ?_ | refine cvA (zPT hS s hw hcw hcl htl) ?_); refine st ?_) | (with_reducible first | apply jn | apply both | apply an | exact ti) | exact fj | refine st ?_ | exact fm | refine s1 ?_)
theorem zOa (p o : Order) : ACall p_ 61 ([.agg (Order.row false p)] ++ [.bx false (Order.row false o)]) (fun r _ => r = bl (decide (p.Txn = o.Txn))) := by
 refine fg H61 fun E hE hH => ?_; simp only [go_sem, hE, hH, C61]
 repeat' (first | ((with_reducible apply ga) <;> refine gs fun h => ?_) | ((with_reducible apply an); · omega) | (with_reducible first | apply jn | apply both | apply an | exact ti) | exact fj | refine st ?_ | exact fm | refine s1 ?_)
theorem zQD (hS : zB5) (d : Deal) (hw : dealW d) : ACall p_ 23 [.agg (Deal.row false d)] (fun r _ => r = bl (zA3 d)) := by
 have hmx := zAh
 have hd1 : ∀ {P : Prop}, zDU d.Cuts = false → (zA3 d = false → P) → P := fun h k => k (by rw [zA3, h]; rfl)
 have c0 := hw.cl; have c9 := hw.sl; have c8 := hw.ol
 have c1 := zQw _ hw.cuts
 have c2 := zHE d.States 57 [] (fun s => !zA6 s) (by kernel_rfl) rfl (by omega) (fun s h => by obtain ⟨a, b, c, e⟩ := hw.sts s h; exact zN9 hS s a b c e)
 have e1 : (d.States.any fun s => !zA6 s) = !d.States.all zA6 := by simp [List.not_all_eq_any_not]
 rw [e1] at c2
 refine fg H23 fun E hE hH => ?_; simp only [go_sem, hE, hH, C23]
 repeat' (first | ((with_reducible apply ga) <;> refine gs fun h => ?_) | ((with_reducible apply an); · omega) | ((first | refine zAa ?_ | refine cvA (c1) ?_ | refine cvA (c2) ?_); refine st ?_) | (with_reducible first | apply jn | apply both | apply an | exact ti) | exact fj | refine st ?_ | exact fm | refine s1 ?_)
 all_goals try (first | (rw [zA3, show d.States.all zA6 = false by assumption, Bool.and_false, Bool.false_and]; done) | (rw [show zA3 d = false by (first | (simp_all [zA3]; done) | (simp_all [zA3]; omega))]; done))
 all_goals try (
  refine zAG d.Orders.length (fun j (_ : Unit) => ⟨[(1, .ptr 2000000 0 0), (25, .sl false 3 (d.Orders.map (Order.row false))), (26, i64 d.Orders.length), (27, i64 j)], [(2000000, ⟨3, [Deal.row false d]⟩)]⟩) (fun j _ => zAD (zDD d.Orders) j = true) () rfl rfl ?_
  intro j _ hj hI
  try simp only [go_sem, hE, hH, zT5]
  first | refine zAe (fun h => ?_) (fun h => ?_) | refine zAf (fun h => ?_) (fun h => ?_)
  ·have hb := h
   simp only [nf] at h
   have hlt : j < d.Orders.length := by omega
   have hwo := (hw.ords _ (zAc hlt)).1
   have ht : ((d.Orders.map (Order.row false)).take j) = (d.Orders.take j).map (Order.row false) := by rw [List.map_take]
   have cc := zHD (d.Orders.take j) 61 [.bx false (Order.row false (nth d.Orders j))] (fun p => decide (p.Txn = (nth d.Orders j).Txn)) (by kernel_rfl) rfl (by rw [List.length_take]; omega) (fun y _ => zOa y _)
   try simp (disch := omega) only [go_sem, hE, hH, hb, ht]
   repeat' (first | ((with_reducible apply ga) <;> refine gs fun h => ?_) | ((with_reducible apply an); · omega) | ((first | refine zAa ?_ | refine cvA (zS6 _ hwo) ?_ | refine cvA (cc) ?_); refine st ?_) | (with_reducible first | apply jn | apply both | apply an | exact ti) | exact fj | refine st ?_ | exact fm | refine s1 ?_)
   all_goals first | (rw [show zA3 d = false by rw [zA3, zDW, zBh hlt (by first | (simp_all [zDD]; done) | (simp_all [zDD]; omega))]; simp]; done) | (exact ⟨(), rfl, zAl hI (by first | (simp_all [zDD]; done) | (simp_all [zDD]; omega))⟩)
  ·try simp (disch := omega) only [go_sem, hE, hH, h]
   simp only [nf] at h
   rw [show j = d.Orders.length by omega] at hI
   repeat' (first | ((with_reducible apply ga) <;> refine gs fun h => ?_) | ((with_reducible apply an); · omega) | refine jn _ ?_ ?_ | (with_reducible first | apply both | apply an | exact ti) | exact fe | refine st ?_ | exact fm | refine s1 ?_)
   all_goals first | (rw [zA3, zDW, hI]; simp_all; done) | (simp_all [zA3, zDW]; done) | (simp_all [zA3, zDW]; omega) | trace_state)
 all_goals trace_state
theorem zWy (l : List Int) (n : Int) (hl : l.length ≤ 2 ^ 20) (hs : zFP l) : ACall p_ 98 [.sl true 1 (ints l), i64 n] (fun r a => r = .sl true 1 (ints (zCT l n)) ∧ a = [.any, i64 n]) := by
 have hmx := zAh
 have mono : ∀ i j, i < j → j < l.length → nth l i < nth l j := fun i j a b => by
  have := hs i j a b
  simpa only [ltI, decide_eq_true_eq] using this
 refine zGr [true, false] (hqA H98) (hqB H98) ⟨by simp only [go_sem], fun E hE hH => ?_⟩; simp only [go_sem] at hE hH; simp only [go_sem, hE, hH, C98]
 refine zGO (fun (k : Nat) => ⟨[(0, .ref 0 0 l.length), (1, i64 n), (5, i64 k)], [(0, ⟨1, ints l⟩)]⟩) (fun k => k ≤ l.length ∧ ∀ i, i < k → nth l i < n) (fun k => l.length - k) 0 ⟨Nat.zero_le _, fun i h => absurd h (by omega)⟩ ?_
 rintro k ⟨hk, hK⟩
 by_cases hgo : k < l.length ∧ nth l k < n
 ·obtain ⟨g1, g2⟩ := hgo
  try simp only [go_sem, hE, hH, zLY]
  repeat' (first | ((with_reducible apply ga) <;> refine gs fun h => ?_) | ((with_reducible apply an); · omega) | (with_reducible first | apply jn | apply both | apply an | exact ti) | exact fj | refine st ?_ | exact fm | refine s1 ?_)
  all_goals first | omega | (refine ⟨k + 1, rfl, ⟨by omega, fun i hi => ?_⟩, by omega⟩; by_cases e : i = k; (rw [e]; exact g2); exact hK i (by omega))
 ·have h2 : ∀ i, k ≤ i → i < l.length → n ≤ nth l i := fun i a b => by
   by_cases e : i = k
   ·subst e; omega
   ·have := mono k i (by omega) b
    omega
  have e3 : iK l n = k := zAa9 hs hk hK h2
  by_cases hf : k < l.length ∧ nth l k = n
  ·have eY : zCT l n = l := by unfold zCT; rw [if_pos (zAba hs hf.1 hf.2)]
   obtain ⟨g1, g2⟩ := hf
   rw [eY]
   try simp only [go_sem, hE, hH, zLY]
   repeat' (first | ((with_reducible apply ga) <;> refine gs fun h => ?_) | ((with_reducible apply an); · omega) | (with_reducible first | apply jn | apply both | apply an | exact ti) | exact fj | refine st ?_ | exact fm | refine s1 ?_)
   all_goals first | omega | rfl | (exfalso; omega)
  ·have eY : zCT l n = l.take k ++ n :: l.drop k := by
    unfold zCT putAt
    rw [if_neg (by simp [zAac hs e3 (fun h e => hf ⟨h, e⟩)]), e3]
   rw [eY]
   have d1 : (l.drop k).take (l.length - k) = l.drop k := List.take_of_length_le (by simp)
   have lt1 : (l.take k).length = k := by rw [List.length_take]; omega
   have d2 : (l.take k).take k = l.take k := by rw [List.take_take, Nat.min_self]
   have hdx : (l.drop k).length = l.length - k := by simp
   have d3 : ∀ q : List T, ((l.take k).map (fun x : Int => [i64 x]) ++ [q]).take (k + 1) = (l.take k).map (fun x : Int => [i64 x]) ++ [q] := fun q => List.take_of_length_le (by simp; omega)
   try simp only [go_sem, hE, hH, zLY]
   all_goals (have y1_ := d1; have y2_ := d2; have y3_ := lt1; have y4_ := hdx; have y5_ := d3; repeat' (first | ((with_reducible apply ga) <;> refine zJF fun h => ?_) | ((with_reducible apply an); · omega) | (with_reducible first | apply jn | apply both | apply an | exact ti) | exact zJH | refine zDv ?_ | exact zJI | refine zJG ?_))
   all_goals first | omega | rfl | (exfalso; omega) | (simp [ints]; done)
theorem zQE (reads : List ByteArray) (ws : List Write) (h1 : reads.length ≤ 2 ^ 18) (h2 : ws.length ≤ 2 ^ 18) : ACall p_ 51 [.sl false 1 (strs reads), .sl false 3 (ws.map (Write.row false))] (fun r _ => r = .sl true 1 (strs (zEB reads ws))) := by
 have hmx := zAh
 have h0 : zAN zAg id ([] : List ByteArray) := fun i j _ h => absurd h (Nat.not_lt_zero _)
 refine fg H51 fun E hE hH => ?_; simp only [go_sem, hE, hH, C51]
 repeat' (first | ((with_reducible apply ga) <;> refine gs fun h => ?_) | ((with_reducible apply an); · omega) | (with_reducible first | apply jn | apply both | apply an | exact ti) | exact fj | refine st ?_ | exact fm | refine s1 ?_)
 refine zAK reads.length (fun j (x : List ByteArray) => ⟨[(1, .sl false 3 (ws.map (Write.row false))), (5, .ref 6000000 0 x.length), (10, .sl false 1 (strs reads)), (11, i64 reads.length), (12, i64 j)], [(6000000, ⟨1, strs x⟩)]⟩) (fun j x => x = (reads.take j).foldl zBP []) [] rfl ?_
 intro j x hj hx
 have hxs : zAN zAg id x := by rw [hx]; exact zFF h0
 have hxl : x.length ≤ j := by
  have := zGS (ws := reads.take j) (l := [])
  rw [← hx, List.length_take, List.length_nil] at this; omega
 try simp only [go_sem, hE, hH, zUk]
 first | refine zAe (fun h => ?_) (fun h => ?_) | refine zAf (fun h => ?_) (fun h => ?_)
 ·have hb := h
  simp only [nf] at h
  have hlt := h; clear h
  have hst : zBP x (nth reads j) = (reads.take (j + 1)).foldl zBP [] := by rw [zAp hlt, List.foldl_append, ← hx]; rfl
  try refine sb ?_; try exact ⟨⟩
  repeat' (first | ((with_reducible apply ga) <;> refine gs fun h => ?_) | ((with_reducible apply an); · omega) | (refine zAI [true, false] ?_; refine st ?_; refine cmA (zFH x _ (by omega) hxs) ?_; refine st ?_) | (with_reducible first | apply jn | apply both | apply an | exact ti) | exact fj | refine st ?_ | exact fm | refine s1 ?_)
  all_goals first | omega | (rw [← hst]; rfl)
 ·try simp (disch := omega) only [go_sem, hE, hH, h]
  simp only [nf] at h
  rw [show j = reads.length by omega, List.take_length] at hx
  have hxl2 : x.length ≤ 2 ^ 18 := by omega
  clear hxl
  repeat' (first | ((with_reducible apply ga) <;> refine gs fun h => ?_) | ((with_reducible apply an); · omega) | (with_reducible first | apply jn | apply both | apply an | exact ti) | exact fj | refine st ?_ | exact fm | refine s1 ?_)
  refine zAK ws.length (fun i (y : List ByteArray) => ⟨[(5, .ref 6000000 0 y.length), (20, .sl false 3 (ws.map (Write.row false))), (21, i64 ws.length), (22, i64 i)], [(6000000, ⟨1, strs y⟩)]⟩) (fun i y => y = ((ws.take i).map (·.Key)).foldl zBP x) x (by simp) ?_
  intro i y hi hy
  have hys : zAN zAg id y := by rw [hy]; exact zFF hxs
  have hyl : y.length ≤ x.length + i := by
   have := zGS (ws := (ws.take i).map (·.Key)) (l := x)
   rw [← hy, List.length_map, List.length_take] at this; omega
  try simp only [go_sem, hE, hH, zUl]
  first | refine zAe (fun h3 => ?_) (fun h3 => ?_) | refine zAf (fun h3 => ?_) (fun h3 => ?_)
  ·have hb3 := h3
   simp only [nf] at h3
   have hlt3 := h3; clear h3
   have hst : zBP y (nth ws i).Key = ((ws.take (i + 1)).map (·.Key)).foldl zBP x := by rw [zAp hlt3, List.map_append, List.foldl_append, ← hy]; rfl
   try simp (disch := omega) only [go_sem, hE, hH, hb3]
   repeat' (first | ((with_reducible apply ga) <;> refine gs fun h => ?_) | ((with_reducible apply an); · omega) | (refine zAI [true, false] ?_; refine st ?_; refine cmA (zFH y _ (by omega) hys) ?_; refine st ?_) | (with_reducible first | apply jn | apply both | apply an | exact ti) | exact fj | refine st ?_ | exact fm | refine s1 ?_)
   all_goals first | omega | (rw [← hst]; rfl)
  ·try simp (disch := omega) only [go_sem, hE, hH, h3]
   simp only [nf] at h3
   rw [show i = ws.length by omega, List.take_length] at hy
   repeat' (first | ((with_reducible apply ga) <;> refine gs fun h => ?_) | ((with_reducible apply an); · omega) | (with_reducible first | apply jn | apply both | apply an | exact ti) | exact fj | refine st ?_ | exact fm | refine s1 ?_)
   rw [zEB, List.foldl_append, ← hx, ← hy]
   all_goals trace_state
theorem zQF (cuts K : List ByteArray) (hc : cuts.length ≤ 2 ^ 18) (hr : zBO cuts = true) (hk : K.length ≤ 2 ^ 19) : ACall p_ 50 [.sl false 1 (strs cuts), .sl false 1 (strs K)] (fun r _ => r = .sl true 1 (ints (zDr cuts K))) := by
 have hmx := zAh
 refine fg H50 fun E hE hH => ?_; simp only [go_sem, hE, hH, C50]
 repeat' (first | ((with_reducible apply ga) <;> refine gs fun h => ?_) | ((with_reducible apply an); · omega) | (with_reducible first | apply jn | apply both | apply an | exact ti) | exact fj | refine st ?_ | exact fm | refine s1 ?_)
 refine zAK K.length (fun j (x : List Int) => ⟨[(0, .sl false 1 (strs cuts)), (5, .ref 6000000 0 x.length), (8, .sl false 1 (strs K)), (9, i64 K.length), (10, i64 j)], [(6000000, ⟨1, ints x⟩)]⟩) (fun j x => x = zDr cuts (K.take j)) [] rfl ?_
 intro j x hj hx
 have hxs : zFP x := by rw [hx]; exact zF7
 have hxl : x.length ≤ 2 ^ 18 + 1 := by
  have := zMk cuts.length hxs fun z hz => by
   rw [hx, zF8] at hz
   obtain ⟨k, _, rfl⟩ := hz
   have := zPU (cuts := cuts) (k := k); omega
  omega
 try simp only [go_sem, hE, hH, zUj]
 first | refine zAe (fun h => ?_) (fun h => ?_) | refine zAf (fun h => ?_) (fun h => ?_)
 ·have hb := h
  simp only [nf] at h
  have hlt := h; clear h
  have hst : zCT x (zC1 cuts (nth K j)) = zDr cuts (K.take (j + 1)) := by rw [zAp hlt, zDr, List.foldl_append, ← zDr, ← hx]; rfl
  try refine sb ?_; try exact ⟨⟩
  repeat' (first | ((with_reducible apply ga) <;> refine gs fun h => ?_) | ((with_reducible apply an); · omega) | (refine zAI [true, false] ?_; refine st ?_; refine cmA (zWy x _ (by omega) hxs) ?_; refine st ?_) | ((first | refine zAa ?_ | refine cvA (zSY cuts (nth K j) (by omega) hr) ?_); refine st ?_) | (with_reducible first | apply jn | apply both | apply an | exact ti) | exact fj | refine st ?_ | exact fm | refine s1 ?_)
  all_goals first | omega | (rw [← hst]; rfl)
 ·try simp (disch := omega) only [go_sem, hE, hH, h]
  simp only [nf] at h
  rw [show j = K.length by omega, List.take_length] at hx
  rw [← hx]
  repeat' (first | ((with_reducible apply ga) <;> refine gs fun h => ?_) | ((with_reducible apply an); · omega) | (with_reducible first | apply jn | apply both | apply an | exact ti) | exact fj | refine st ?_ | exact fm | refine s1 ?_)
  all_goals trace_state
theorem zLj (cuts : List ByteArray) (o : Order) (hc : cuts.length ≤ 2 ^ 18) (hr : zBO cuts = true) (h1 : o.Reads.length ≤ 2 ^ 17) (h2 : o.Writes.length ≤ 2 ^ 17) : ACall p_ 16 [.sl false 1 (strs cuts), .agg (Order.row false o)] (fun r _ => r = .sl true 1 (ints (zCU cuts o.Reads o.Writes))) := by
 have hkl := zP1 (reads := o.Reads) (ws := o.Writes)
 have c1 := zQE o.Reads o.Writes (by omega) (by omega)
 have c2 := zQF cuts (zEB o.Reads o.Writes) hc hr (by omega)
 rw [show zDr cuts (zEB o.Reads o.Writes) = zCU cuts o.Reads o.Writes from rfl] at c2
 refine fg H16 fun E hE hH => ?_; simp only [go_sem, hE, hH, C16]
 repeat' (first | ((with_reducible apply ga) <;> refine gs fun h => ?_) | ((with_reducible apply an); · omega) | ((first | refine zAa ?_ | refine cvA (c1) ?_ | refine cvA (c2) ?_); refine st ?_) | (with_reducible first | apply jn | apply both | apply an | exact ti) | exact fj | refine st ?_ | exact fm | refine s1 ?_)
 all_goals trace_state
theorem zQG (o : Order) (hw : o.wf) (z1 : o.Reads.length ≤ 2 ^ 20) (z2 : o.Writes.length ≤ 2 ^ 20) : ACall p_ 95 [.agg (Order.row false o)] (fun r _ => r = bl (zF9 o)) := by
 have hmx := zAh
 obtain ⟨w1, w2, w3⟩ := hw
 have c1 := zJs ⟨1, o.Txn, 1, 0, o.Reads, o.Writes, false⟩ ⟨by unfold Rec.wf; simp only; exact ⟨by omega, by omega, by omega, by omega, w2, w3⟩, by simp only; omega, by simp only; omega⟩
 rw [show zA2 ⟨1, o.Txn, 1, 0, o.Reads, o.Writes, false⟩ = zF9 o by simp [zF9, zA2, rng, Bool.and_assoc]] at c1
 refine fg H95 fun E hE hH => ?_; simp only [go_sem, hE, hH, C95]
 repeat' (first | ((with_reducible apply ga) <;> refine gs fun h => ?_) | ((with_reducible apply an); · omega) | ((first | refine zAa ?_ | refine cvA (c1) ?_); refine st ?_) | (with_reducible first | apply jn | apply both | apply an | exact ti) | exact fj | refine st ?_ | exact fm | refine s1 ?_)
 all_goals trace_state
theorem zP6 (l : List Order) (hl : l.length ≤ 2 ^ 20) (hw : ∀ o ∈ l, o.wf ∧ o.Reads.length ≤ 2 ^ 20 ∧ o.Writes.length ≤ 2 ^ 20) : ACall p_ 46 [.sl false 3 (l.map (Order.row false))] (fun r _ => r = bl (zDW l)) := by
 have hmx := zAh
 refine fg H46 fun E hE hH => ?_; simp only [go_sem, hE, hH, C46]
 repeat' (first | ((with_reducible first | refine zAe ?_ ?_ | refine zAf ?_ ?_) <;> (intro h; have hb := h; (try simp only [nf] at h); simp (disch := omega) only [go_sem, hE, hH, hb]; (try clear hb))) | ((with_reducible refine And.intro ?_ ?_); · omega) | (with_reducible first | apply jn | apply both | refine And.intro ?_ ?_) | ((with_reducible apply zAz); (try (simp (disch := omega) only [go_sem, hE, hH])); first | done | rfl) | (simp (disch := omega) only [go_sem, hE, hH]) | ((first | apply zAj | apply zAC) <;> (simp only [go_sem, hE, hH]; done)) | (simp only [go_sem, hE, hH]) | fail)
 refine zAG l.length (fun j (_ : Unit) => ⟨[(0, .sl false 3 (l.map (Order.row false))), (7, .sl false 3 (l.map (Order.row false))), (8, i64 l.length), (9, i64 j)], []⟩) (fun j _ => zAD (zDD l) j = true) () rfl rfl ?_
 intro j _ hj hI
 try simp only [go_sem, hE, hH, zUh]
 first | refine zAe (fun h => ?_) (fun h => ?_) | refine zAf (fun h => ?_) (fun h => ?_)
 ·have hb := h
  simp only [nf] at h
  have hlt := h; clear h
  obtain ⟨q1, q2, q3⟩ := hw _ (zAc hlt)
  have c1 := zQG _ q1 q2 q3
  have ht : ((l.map (Order.row false)).take j) = (l.take j).map (Order.row false) := by rw [List.map_take]
  have hnt : (l.take j).length = j := by rw [List.length_take]; omega
  try simp (disch := omega) only [go_sem, hE, hH, ht, hnt, hb]
  repeat' (first | ((with_reducible first | refine zAe ?_ ?_ | refine zAf ?_ ?_) <;> (intro h; have hb := h; (try simp only [nf] at h); simp (disch := omega) only [go_sem, hE, hH, ht, hnt, hb]; (try clear hb))) | ((with_reducible refine And.intro ?_ ?_); · omega) | ((first | refine zAa ?_ | refine cvA (c1) ?_); simp (disch := omega) only [go_sem, hE, hH, ht, hnt]) | (with_reducible first | apply jn | apply both | refine And.intro ?_ ?_) | ((with_reducible apply zAz); (try (simp (disch := omega) only [go_sem, hE, hH, ht, hnt])); first | done | rfl) | (simp (disch := omega) only [go_sem, hE, hH, ht, hnt]) | ((first | apply zAj | apply zAC) <;> (simp only [go_sem, hE, hH, ht, hnt]; done)) | (simp only [go_sem, hE, hH, ht, hnt]) | fail)
  ·rw [zDW, zBh hlt (by first | (simp_all [zDD]; done) | (simp_all [zDD]; omega))]; rfl
  ·rename_i hok
   refine zAG j (fun i (_ : Unit) => ⟨[(0, .sl false 3 (l.map (Order.row false))), (4, .ptr 5000000 0 0), (7, .sl false 3 (l.map (Order.row false))), (8, i64 l.length), (9, i64 j), (19, .sl false 3 ((l.take j).map (Order.row false))), (20, i64 j), (21, i64 i)], [(5000000, ⟨3, [Order.row false (nth l j)]⟩)]⟩) (fun i _ => zAD (fun k => !decide ((nth l k).Txn = (nth l j).Txn)) i = true) () rfl rfl ?_
   intro i _ hi hI2
   try simp only [go_sem, hE, hH, zUg]
   first | refine zAe (fun h2 => ?_) (fun h2 => ?_) | refine zAf (fun h2 => ?_) (fun h2 => ?_)
   ·have hb2 := h2
    simp only [nf] at h2
    have hlt2 := h2; clear h2
    have hnn : nth (l.take j) i = nth l i := by simp [nth, List.getD, List.getElem?_take, hlt2]
    have hmm : nth l i ∈ l.take j := by rw [← hnn]; exact zAc (by rw [hnt]; exact hlt2)
    try simp (disch := omega) only [go_sem, hE, hH, hnn, hnt, hb2]
    repeat' (first | ((with_reducible first | refine zAe ?_ ?_ | refine zAf ?_ ?_) <;> (intro h; have hb := h; (try simp only [nf] at h); simp (disch := omega) only [go_sem, hE, hH, hnn, hnt, hb]; (try clear hb))) | ((with_reducible refine And.intro ?_ ?_); · omega) | (with_reducible first | apply jn | apply both | refine And.intro ?_ ?_) | ((with_reducible apply zAz); (try (simp (disch := omega) only [go_sem, hE, hH, hnn, hnt])); first | done | rfl) | (simp (disch := omega) only [go_sem, hE, hH, hnn, hnt]) | ((first | apply zAj | apply zAC) <;> (simp only [go_sem, hE, hH, hnn, hnt]; done)) | (simp only [go_sem, hE, hH, hnn, hnt]) | fail)
    all_goals first | (rw [zDW, zBh hlt (by rw [zDD, Bool.and_eq_false_iff, Bool.not_eq_false', List.any_eq_true]; exact .inr ⟨_, hmm, by simp_all⟩)]; rfl) | exact ⟨(), rfl, zAl hI2 (by simp only [Bool.not_eq_true', decide_eq_false_iff_not]; omega)⟩
   ·try simp (disch := omega) only [go_sem, hE, hH, h2]
    simp only [nf] at h2
    rw [show i = j by omega] at hI2
    repeat' (first | ((with_reducible first | refine zAe ?_ ?_ | refine zAf ?_ ?_) <;> (intro h; have hb := h; (try simp only [nf] at h); simp (disch := omega) only [go_sem, hE, hH, hb]; (try clear hb))) | ((with_reducible refine And.intro ?_ ?_); · omega) | (with_reducible first | apply jn | apply both | refine And.intro ?_ ?_) | ((with_reducible apply zAz); (try (simp (disch := omega) only [go_sem, hE, hH])); first | done | rfl) | (simp (disch := omega) only [go_sem, hE, hH]) | ((first | apply zAj | apply zAC) <;> (simp only [go_sem, hE, hH]; done)) | (simp only [go_sem, hE, hH]) | fail)
    refine ⟨(), rfl, zAl hI ?_⟩
    rw [zDD, Bool.and_eq_true, Bool.not_eq_true', List.any_eq_false]
    refine ⟨by first | assumption | simp_all, fun p hp => ?_⟩
    obtain ⟨k, hk, rfl⟩ := List.mem_take_iff_getElem.1 hp
    have := zAv.1 hI2 k (by omega)
    rw [zAM (by omega)] at this
    simpa using this
 ·try simp (disch := omega) only [go_sem, hE, hH, h]
  simp only [nf] at h
  rw [show j = l.length by omega] at hI
  repeat' (first | ((with_reducible first | refine zAe ?_ ?_ | refine zAf ?_ ?_) <;> (intro h; have hb := h; (try simp only [nf] at h); simp (disch := omega) only [go_sem, hE, hH, hb]; (try clear hb))) | ((with_reducible refine And.intro ?_ ?_); · omega) | (with_reducible first | apply jn | apply both | refine And.intro ?_ ?_) | ((with_reducible apply zAz); (try (simp (disch := omega) only [go_sem, hE, hH])); first | done | rfl) | (simp (disch := omega) only [go_sem, hE, hH]) | ((first | apply zAj | apply zAC) <;> (simp only [go_sem, hE, hH]; done)) | (simp only [go_sem, hE, hH]) | fail)
  all_goals first | (rw [zDW, hI]; simp; done)
theorem zS7 (l : List Order) (hl : l.length ≤ 2 ^ 20) (hw : ∀ o ∈ l, o.Reads.length ≤ 2 ^ 20 ∧ o.Writes.length ≤ 2 ^ 20) : ACall p_ 48 [.sl false 3 (l.map (Order.row false))] (fun r _ => r = .sl true 3 (l.map (Order.row true))) := by
 have hmx := zAh
 refine fg H48 fun E hE hH => ?_; simp only [go_sem, hE, hH, C48]
 repeat' (first | ((with_reducible apply ga) <;> refine gs fun h => ?_) | ((with_reducible apply an); · omega) | (with_reducible first | apply jn | apply both | apply an | exact ti) | exact fj | refine st ?_ | exact fm | refine s1 ?_)
 refine zAK l.length (fun j (x : List Order) => ⟨[(3, .ref 4000000 0 x.length), (6, .sl false 3 (l.map (Order.row false))), (7, i64 l.length), (8, i64 j)], [(4000000, ⟨3, x.map (Order.row true)⟩)]⟩) (fun j x => x = l.take j) [] rfl ?_
 intro j x hj hx
 have hlen : x.length = j := by rw [hx]; simp; omega
 try simp only [go_sem, hE, hH, zUi]
 first | refine zAe (fun h => ?_) (fun h => ?_) | refine zAf (fun h => ?_) (fun h => ?_)
 ·have hb := h
  simp only [nf] at h
  have hlt := h; clear h
  obtain ⟨q1, q2⟩ := hw _ (zAc hlt)
  try refine sb ?_; try exact ⟨⟩
  repeat' (first | ((with_reducible apply ga) <;> refine gs fun h => ?_) | ((with_reducible apply an); · omega) | ((first | refine zAa ?_ | refine cvA (zDp _ q1) ?_); refine st ?_) | (with_reducible first | apply jn | apply both | apply an | exact ti) | exact fj | refine st ?_ | exact fm | refine s1 ?_)
  all_goals first | omega | (rw [zAp hlt, ← hx, List.length_append, List.map_append]; rfl)
 ·try simp (disch := omega) only [go_sem, hE, hH, h]
  simp only [nf] at h
  rw [show j = l.length by omega, List.take_length] at hx
  rw [hx]
  repeat' (first | ((with_reducible apply ga) <;> refine gs fun h => ?_) | ((with_reducible apply an); · omega) | (with_reducible first | apply jn | apply both | apply an | exact ti) | exact fj | refine st ?_ | exact fm | refine s1 ?_)
  all_goals trace_state
structure dealB (d : Deal) : Prop where
 cl : d.Cuts.length ≤ 2 ^ 20
 sl : d.States.length ≤ 2 ^ 20
 s0 : 0 < d.States.length
 sb : ∀ s ∈ d.States, stB s
 ol : d.Orders.length ≤ 2 ^ 20
 ob : ∀ o ∈ d.Orders, o.Reads.length ≤ 2 ^ 20 ∧ o.Writes.length ≤ 2 ^ 20
def cpD (d : Deal) : Nat → St
 | 0 => ⟨[(1, .ptr 2000000 0 0), (2, .ptr 3000000 0 0), (3, .ptr 4000000 0 0), (13, .sl false 4 (d.States.map (State.row false))), (14, i64 d.States.length), (15, i64 0)], [(2000000, ⟨3, [Deal.row false d]⟩), (3000000, ⟨3, [[zAy, zAy, zAy]]⟩), (4000000, ⟨3, [[.ref 4000001 0 d.Cuts.length, zAy, zAy]]⟩), (4000001, ⟨1, strs d.Cuts⟩)]⟩
 | j + 1 => ⟨[(1, .ptr 2000000 0 0), (2, .ptr 3000000 0 0), (3, .ptr 4000000 0 0), (13, .sl false 4 (d.States.map (State.row false))), (14, i64 d.States.length), (15, i64 (j + 1 : Nat))], [(2000000, ⟨3, [Deal.row false d]⟩), (3000000, ⟨3, [[zAy, zAy, zAy]]⟩), (4000000, ⟨3, [[.ref 4000001 0 d.Cuts.length, .ref 4000002 0 (j + 1), zAy]]⟩), (4000001, ⟨1, strs d.Cuts⟩), (4000002, ⟨4, (d.States.take (j + 1)).map (State.row true)⟩)]⟩
def cpE (d : Deal) : Nat → St
 | 0 => ⟨[(2, .ptr 3000000 0 0), (3, .ptr 4000000 0 0), (28, .sl false 3 (d.Orders.map (Order.row false))), (29, i64 d.Orders.length), (30, i64 0)], [(3000000, ⟨3, [[zAy, zAy, zAy]]⟩), (4000000, ⟨3, [[.ref 4000001 0 d.Cuts.length, .ref 4000002 0 d.States.length, zAy]]⟩), (4000001, ⟨1, strs d.Cuts⟩), (4000002, ⟨4, d.States.map (State.row true)⟩)]⟩
 | j + 1 => ⟨[(2, .ptr 3000000 0 0), (3, .ptr 4000000 0 0), (28, .sl false 3 (d.Orders.map (Order.row false))), (29, i64 d.Orders.length), (30, i64 (j + 1 : Nat))], [(3000000, ⟨3, [[zAy, zAy, zAy]]⟩), (4000000, ⟨3, [[.ref 4000001 0 d.Cuts.length, .ref 4000002 0 d.States.length, .ref 4000003 0 (j + 1)]]⟩), (4000001, ⟨1, strs d.Cuts⟩), (4000002, ⟨4, d.States.map (State.row true)⟩), (4000003, ⟨3, (d.Orders.take (j + 1)).map (Order.row true)⟩)]⟩
theorem zKB (d : Deal) (h : dealB d) : ACall p_ 24 [.agg (Deal.row false d)] (fun x _ => x = .agg (Deal.row true d)) := by
 have hmx := zAh
 obtain ⟨h1, h2, h3, h4, h5, h6⟩ := h
 refine fg H24 fun E hE hH => ?_; simp only [go_sem, hE, hH, C24]
 repeat' (first | ((with_reducible apply ga) <;> refine gs fun h => ?_) | ((with_reducible apply an); · omega) | ((first | refine zAa ?_ | refine cvA (zDf _ h1) ?_); refine st ?_) | (with_reducible first | apply jn | apply both | apply an | exact ti) | exact fj | refine st ?_ | exact fm | refine s1 ?_)
 refine zAG d.States.length (fun j (_ : Unit) => cpD d j) (fun _ _ => True) () rfl trivial ?_
 intro j _ hj _
 cases j with
 | zero =>
  try simp only [go_sem, hE, hH, zPq, cpD]
  first | refine zAe (fun h => ?_) (fun h => ?_) | refine zAf (fun h => ?_) (fun h => ?_)
  ·have hb := h
   simp only [nf] at h
   have hlt : 0 < d.States.length := by omega
   have ht : d.States.take 1 = [nth d.States 0] := by rw [zAp hlt]; rfl
   try refine sb ?_; try exact ⟨⟩
   repeat' (first | ((with_reducible apply ga) <;> refine gs fun h => ?_) | ((with_reducible apply an); · omega) | ((first | refine zAa ?_ | refine cvA (zBA _ (h4 _ (zAc hlt))) ?_); refine st ?_) | (with_reducible first | apply jn | apply both | apply an | exact ti) | exact fj | refine st ?_ | exact fm | refine s1 ?_)
   all_goals first | omega | (refine ⟨(), ?_⟩; rw [ht]; rfl)
  ·exfalso
   simp only [nf] at h
   omega
 | succ j =>
  try simp only [go_sem, hE, hH, zPq, cpD]
  first | refine zAe (fun h => ?_) (fun h => ?_) | refine zAf (fun h => ?_) (fun h => ?_)
  ·have hb := h
   simp only [nf] at h
   have hlt : j + 1 < d.States.length := by omega
   have hn : (d.States.take (j + 1)).length = j + 1 := by simp; omega
   have ht : (d.States.take (j + 1)).take (j + 1) = d.States.take (j + 1) := by rw [List.take_take, Nat.min_self]
   try simp (disch := omega) only [go_sem, hE, hH, hn, hb]
   all_goals (have y1_ := hn; repeat' (first | ((with_reducible apply ga) <;> refine zBC fun h => ?_) | ((with_reducible apply an); · omega) | ((first | refine zAa ?_ | refine cvA (zBA _ (h4 _ (zAc hlt))) ?_); refine zAu ?_) | (with_reducible first | apply jn | apply both | apply an | exact ti) | exact zED | refine zAu ?_ | exact zBE | refine zBD ?_))
   all_goals try simp only [ht, hn]
   all_goals try first | omega | exact Nat.le_trans (Nat.mul_le_mul_right _ (show j + 1 + 1 ≤ 2 ^ 20 + 1 by omega)) (by decide)
   all_goals first | (refine ⟨(), ?_⟩; rw [zAp hlt, List.map_append]; rfl)
  ·try simp (disch := omega) only [go_sem, hE, hH, h]
   simp only [nf] at h
   rw [show j + 1 = d.States.length by omega, List.take_length]
   repeat' (first | ((with_reducible apply ga) <;> refine gs fun h => ?_) | ((with_reducible apply an); · omega) | (with_reducible first | apply jn | apply both | apply an | exact ti) | exact fj | refine st ?_ | exact fm | refine s1 ?_)
   refine zAG d.Orders.length (fun i (_ : Unit) => cpE d i) (fun _ _ => True) () rfl trivial ?_
   intro i _ hi _
   cases i with
   | zero =>
    try simp only [go_sem, hE, hH, zPr, cpE]
    first | refine zAe (fun k => ?_) (fun k => ?_) | refine zAf (fun k => ?_) (fun k => ?_)
    ·have hbk := k
     simp only [nf] at k
     have hlt : 0 < d.Orders.length := by omega
     obtain ⟨q1, q2⟩ := h6 _ (zAc hlt)
     have ht : d.Orders.take 1 = [nth d.Orders 0] := by rw [zAp hlt]; rfl
     try simp (disch := omega) only [go_sem, hE, hH, hbk]
     repeat' (first | ((with_reducible apply ga) <;> refine gs fun h => ?_) | ((with_reducible apply an); · omega) | ((first | refine zAa ?_ | refine cvA (zJB _ q1 q2) ?_); refine st ?_) | (with_reducible first | apply jn | apply both | apply an | exact ti) | exact fj | refine st ?_ | exact fm | refine s1 ?_)
     all_goals first | omega | (refine ⟨(), ?_⟩; rw [ht]; rfl)
    ·try simp (disch := omega) only [go_sem, hE, hH, k]
     simp only [nf] at k
     have e : d.Orders = [] := List.length_eq_zero_iff.1 (by omega)
     repeat' (first | ((with_reducible apply ga) <;> refine gs fun h => ?_) | ((with_reducible apply an); · omega) | (with_reducible first | apply jn | apply both | apply an | exact ti) | exact fj | refine st ?_ | exact fm | refine s1 ?_)
     rw [e]
     all_goals first | rfl
   | succ i =>
    try simp only [go_sem, hE, hH, zPr, cpE]
    first | refine zAe (fun k => ?_) (fun k => ?_) | refine zAf (fun k => ?_) (fun k => ?_)
    ·have hbk := k
     simp only [nf] at k
     have hlt : i + 1 < d.Orders.length := by omega
     obtain ⟨q1, q2⟩ := h6 _ (zAc hlt)
     have hn : (d.Orders.take (i + 1)).length = i + 1 := by simp; omega
     have ht : (d.Orders.take (i + 1)).take (i + 1) = d.Orders.take (i + 1) := by rw [List.take_take, Nat.min_self]
     try simp (disch := omega) only [go_sem, hE, hH, hn, hbk]
     all_goals (have y1_ := hn; repeat' (first | ((with_reducible apply ga) <;> refine zBC fun h => ?_) | ((with_reducible apply an); · omega) | ((first | refine zAa ?_ | refine cvA (zJB _ q1 q2) ?_); refine zAu ?_) | (with_reducible first | apply jn | apply both | apply an | exact ti) | exact zED | refine zAu ?_ | exact zBE | refine zBD ?_))
     all_goals try simp only [ht, hn]
     all_goals try first | omega | exact Nat.le_trans (Nat.mul_le_mul_right _ (show i + 1 + 1 ≤ 2 ^ 20 + 1 by omega)) (by decide)
     all_goals first | (refine ⟨(), ?_⟩; rw [zAp hlt, List.map_append]; rfl)
    ·try simp (disch := omega) only [go_sem, hE, hH, k]
     simp only [nf] at k
     rw [show i + 1 = d.Orders.length by omega, List.take_length]
     repeat' (first | ((with_reducible apply ga) <;> refine gs fun h => ?_) | ((with_reducible apply an); · omega) | (with_reducible first | apply jn | apply both | apply an | exact ti) | exact fj | refine st ?_ | exact fm | refine s1 ?_)
     all_goals first | exact ⟨rfl, rfl⟩ | rfl
def cpF (d : Deal) : Nat → St
 | 0 => ⟨[(2, .ptr 3000000 0 0), (3, .ptr 4000000 0 0), (14, .sl false 4 (d.States.map (State.row false))), (15, i64 d.States.length), (16, i64 0)], [(3000000, ⟨3, [[zAy, zAy, zAy]]⟩), (4000000, ⟨3, [[.ref 4000001 0 d.Cuts.length, zAy, .ref 4000003 0 d.Orders.length]]⟩), (4000001, ⟨1, strs d.Cuts⟩), (4000003, ⟨3, d.Orders.map (Order.row true)⟩)]⟩
 | j + 1 => ⟨[(2, .ptr 3000000 0 0), (3, .ptr 4000000 0 0), (14, .sl false 4 (d.States.map (State.row false))), (15, i64 d.States.length), (16, i64 (j + 1 : Nat))], [(3000000, ⟨3, [[zAy, zAy, zAy]]⟩), (4000000, ⟨3, [[.ref 4000001 0 d.Cuts.length, .ref 4000002 0 (j + 1), .ref 4000003 0 d.Orders.length]]⟩), (4000001, ⟨1, strs d.Cuts⟩), (4000002, ⟨4, (d.States.take (j + 1)).map (State.row true)⟩), (4000003, ⟨3, d.Orders.map (Order.row true)⟩)]⟩
theorem zJC (d : Deal) (h : dealB d) : ACall p_ 15 [.agg (Deal.row false d)] (fun x _ => x = .agg (Deal.row true d)) := by
 have hmx := zAh
 obtain ⟨h1, h2, h3, h4, h5, h6⟩ := h
 refine fg H15 fun E hE hH => ?_; simp only [go_sem, hE, hH, C15]
 repeat' (first | ((with_reducible apply ga) <;> refine gs fun h => ?_) | ((with_reducible apply an); · omega) | ((first | refine zAa ?_ | refine cvA (zDp _ h1) ?_ | refine cvA (zS7 _ h5 h6) ?_); refine st ?_) | (with_reducible first | apply jn | apply both | apply an | exact ti) | exact fj | refine st ?_ | exact fm | refine s1 ?_)
 refine zAG d.States.length (fun j (_ : Unit) => cpF d j) (fun _ _ => True) () rfl trivial ?_
 intro j _ hj _
 cases j with
 | zero =>
  try simp only [go_sem, hE, hH, zPp, cpF]
  first | refine zAe (fun h => ?_) (fun h => ?_) | refine zAf (fun h => ?_) (fun h => ?_)
  ·have hb := h
   simp only [nf] at h
   have hlt : 0 < d.States.length := by omega
   have ht : d.States.take 1 = [nth d.States 0] := by rw [zAp hlt]; rfl
   try refine sb ?_; try exact ⟨⟩
   repeat' (first | ((with_reducible apply ga) <;> refine gs fun h => ?_) | ((with_reducible apply an); · omega) | ((first | refine zAa ?_ | refine cvA (zJx _ (h4 _ (zAc hlt))) ?_); refine st ?_) | (with_reducible first | apply jn | apply both | apply an | exact ti) | exact fj | refine st ?_ | exact fm | refine s1 ?_)
   all_goals first | omega | (refine ⟨(), ?_⟩; rw [ht]; rfl)
  ·exfalso
   simp only [nf] at h
   omega
 | succ j =>
  try simp only [go_sem, hE, hH, zPp, cpF]
  first | refine zAe (fun h => ?_) (fun h => ?_) | refine zAf (fun h => ?_) (fun h => ?_)
  ·have hb := h
   simp only [nf] at h
   have hlt : j + 1 < d.States.length := by omega
   have hn : (d.States.take (j + 1)).length = j + 1 := by simp; omega
   have ht : (d.States.take (j + 1)).take (j + 1) = d.States.take (j + 1) := by rw [List.take_take, Nat.min_self]
   try simp (disch := omega) only [go_sem, hE, hH, hn, hb]
   all_goals (have y1_ := hn; repeat' (first | ((with_reducible apply ga) <;> refine zBC fun h => ?_) | ((with_reducible apply an); · omega) | ((first | refine zAa ?_ | refine cvA (zJx _ (h4 _ (zAc hlt))) ?_); refine zAu ?_) | (with_reducible first | apply jn | apply both | apply an | exact ti) | exact zED | refine zAu ?_ | exact zBE | refine zBD ?_))
   all_goals try simp only [ht, hn]
   all_goals try first | omega | exact Nat.le_trans (Nat.mul_le_mul_right _ (show j + 1 + 1 ≤ 2 ^ 20 + 1 by omega)) (by decide)
   all_goals first | (refine ⟨(), ?_⟩; rw [zAp hlt, List.map_append]; rfl)
  ·try simp (disch := omega) only [go_sem, hE, hH, h]
   simp only [nf] at h
   rw [show j + 1 = d.States.length by omega, List.take_length]
   repeat' (first | ((with_reducible apply ga) <;> refine gs fun h => ?_) | ((with_reducible apply an); · omega) | (with_reducible first | apply jn | apply both | apply an | exact ti) | exact fj | refine st ?_ | exact fm | refine s1 ?_)
   all_goals first | exact ⟨rfl, rfl⟩ | rfl
theorem zS8 (d : Deal) (hw : dealW d) : ACall p_ 14 [.agg (Deal.row false d)] (fun r _ => r = bl (zA3 d)) := by
 have hmx := zAh
 have c0 := hw.cl; have c9 := hw.sl; have c8 := hw.ol
 have c1 := zSJ _ hw.cuts
 have c2 := zP6 d.Orders c8 hw.ords
 refine fg H14 fun E hE hH => ?_; simp only [go_sem, hE, hH, C14]
 repeat' (first | ((with_reducible apply ga) <;> refine gs fun h => ?_) | ((with_reducible apply an); · omega) | (with_reducible first | apply jn | apply both | apply an | exact ti) | exact fj | refine st ?_ | exact fm | refine s1 ?_)
 refine zAG d.States.length (fun j (_ : Unit) => ⟨[(1, .ptr 2000000 0 0), (6, .sl false 4 (d.States.map (State.row false))), (7, i64 d.States.length), (8, i64 j)], [(2000000, ⟨3, [Deal.row false d]⟩)]⟩) (fun j _ => zAD (fun i => zA6 (nth d.States i)) j = true) () rfl rfl ?_
 intro j _ hj hI
 try simp only [go_sem, hE, hH, zT0]
 first | refine zAe (fun h => ?_) (fun h => ?_) | refine zAf (fun h => ?_) (fun h => ?_)
 ·have hb := h
  simp only [nf] at h
  have hlt : j < d.States.length := by omega
  obtain ⟨q1, q2, q3, q4⟩ := hw.sts _ (zAc hlt)
  have hno : zA6 (nth d.States j) = false → zA3 d = false := fun e => by
   have : d.States.all zA6 = false := by rw [List.all_eq_false]; exact ⟨_, zAc hlt, by rw [e]; simp⟩
   rw [zA3, this]; simp
  try refine sb ?_; try exact ⟨⟩
  repeat' (first | ((with_reducible apply ga) <;> refine gs fun h => ?_) | ((with_reducible apply an); · omega) | ((first | refine zAa ?_ | refine cvA (zMi _ q1 q2 q3 q4) ?_); refine st ?_) | (with_reducible first | apply jn | apply both | apply an | exact ti) | exact fj | refine st ?_ | exact fm | refine s1 ?_)
  all_goals first | (rw [hno (by first | assumption | simp_all)]; done) | (exact ⟨(), rfl, zAl hI (by first | assumption | simp_all)⟩)
 ·try simp (disch := omega) only [go_sem, hE, hH, h]
  simp only [nf] at h
  rw [show j = d.States.length by omega] at hI
  have hall : d.States.all zA6 = true := by
   rw [List.all_eq_true]
   intro x hx
   obtain ⟨i, hi, rfl⟩ := List.getElem_of_mem hx
   have := zAv.1 hI i hi
   rwa [zAM hi] at this
  repeat' (first | ((with_reducible apply ga) <;> refine gs fun h => ?_) | ((with_reducible apply an); · omega) | ((first | refine zAa ?_ | refine cvA (c1) ?_ | refine cvA (c2) ?_); refine st ?_) | (with_reducible first | apply jn | apply both | apply an | exact ti) | exact fj | refine st ?_ | exact fm | refine s1 ?_)
  all_goals first | (rw [zA3, hall]; simp_all; done) | (simp_all [zA3]; done) | (simp_all [zA3]; omega)
structure ordG (o : Order) : Prop where
 t1 : 1 ≤ o.Txn
 t2 : o.Txn ≤ 60
 r8 : o.Reads.length ≤ 8
 w8 : o.Writes.length ≤ 8
 pos : 0 < o.Reads.length + o.Writes.length
structure dealG (d : Deal) : Prop where
 b : dealB d
 g : zDs d.States
 len : d.States.length = d.Cuts.length + 1
 ris : zBO d.Cuts = true
 c4 : d.Cuts.length < 4
 ords : ∀ o ∈ d.Orders, ordG o
 dist : ∀ i j, i < j → j < d.Orders.length → (nth d.Orders i).Txn ≠ (nth d.Orders j).Txn
theorem zXL {o : Order} (h : zF9 o = true) : ordG o := by
 simp only [zF9, zA2, if_true, Bool.and_eq_true, zBW, decide_eq_true_eq] at h
 obtain ⟨h1, ⟨⟨⟨h2, h3⟩, h4⟩, h5⟩, h6⟩ := h
 have hr : o.Reads.length ≤ 8 := by
  have h7 := h2.2
  first | omega | (have h8 := h7.2; omega)
 exact ⟨h1.1, h1.2, hr, by omega, h5⟩
theorem sG.b {s : State} (h : sG s) : stB s := (zB6 (zB1 h)).b (by decide)
theorem zLk {d : Deal} (h : zA3 d = true) : dealG d := by
 simp only [zA3, zDU, zDW, Bool.and_eq_true, decide_eq_true_eq, List.all_eq_true] at h
 obtain ⟨⟨⟨⟨h1, h2⟩, h3⟩, h4⟩, h5, h6⟩ := h
 have hat := zAv.1 h5
 have ho : ∀ o ∈ d.Orders, ordG o := fun o q => by
  obtain ⟨i, hi, rfl⟩ := List.getElem_of_mem q
  have := hat i hi
  simp only [zDD, Bool.and_eq_true, zAM hi] at this
  exact zXL this.1
 refine ⟨⟨by omega, by omega, by omega, fun s q => (zNL (h4 s q)).b, by omega, fun o q => ?_⟩, fun s q => zNL (h4 s q), by omega, h2, by omega, ho, fun i j hij hj => ?_⟩
 ·have := ho o q
  exact ⟨by have := this.r8; omega, by have := this.w8; omega⟩
 ·have := hat j hj
  simp only [zDD, Bool.and_eq_true, Bool.not_eq_true', List.any_eq_false] at this
  have h7 := this.2 (nth d.Orders i) (by rw [zAM (show i < d.Orders.length by omega), List.mem_take_iff_getElem]; exact ⟨i, by omega, rfl⟩)
  simpa using h7
theorem dealG.upd {d : Deal} (h : dealG d) {L : List State} (hL : zDs L) (hl : L.length = d.States.length) : dealG ⟨d.Cuts, L, d.Orders⟩ := by
 have hb := h.b
 exact ⟨⟨hb.cl, by simp only; rw [hl]; exact hb.sl, by simp only; rw [hl]; exact hb.s0, fun s q => (hL s q).b, hb.ol, hb.ob⟩, hL, by simp only; rw [hl]; exact h.len, h.ris, h.c4, h.ords, h.dist⟩
def psO (d : Deal) (o : Order) : List Int := zCU d.Cuts o.Reads o.Writes
theorem zFI {d : Deal} (h : dealG d) {o : Order} : ∀ p ∈ psO d o, 0 ≤ p ∧ p.toNat < d.States.length := fun p hp => by
 have := zNP hp
 have := h.len
 omega
theorem zFb {d : Deal} (h : dealG d) {o : Order} : (psO d o).length ≤ 4 := by
 have := zS3 (cuts := d.Cuts) (reads := o.Reads) (ws := o.Writes)
 have := h.c4
 unfold psO; omega
theorem zCy {d : Deal} (h : dealG d) {o : Order} (ho : ordG o) : 0 < (psO d o).length ∧ 0 ≤ nth (psO d o) 0 ∧ (nth (psO d o) 0).toNat < d.States.length := by
 have h1 : 0 < (psO d o).length := zS4 ho.pos
 exact ⟨h1, zFI h _ (zAc h1)⟩
def d0 : Deal := ⟨[], [], []⟩
def zBl (d : Deal) (p : Int) (r : Rec) : Option Deal := (zA7 (nth d.States p.toNat) r).map fun s => ⟨d.Cuts, d.States.set p.toNat s, d.Orders⟩
def zIi : Option Deal → T
 | none => .tup [.agg (Deal.row true d0), bl false]
 | some d => .tup [.agg (Deal.row true d), bl true]
theorem zVc {d : Deal} {p : Int} {r : Rec} : (zBl d p r).getD d = ⟨d.Cuts, zFa d.States p r, d.Orders⟩ := by
 unfold zBl zFa
 cases zA7 (nth d.States p.toNat) r <;> rfl
theorem zJD (hS : zB5) (d : Deal) (o : Order) (hd : dealG d) (ho : ordG o) : ACall p_ 26 [.agg (Deal.row false d), .agg (Order.row false o)] (fun r _ => r = .sl true 1 (ints (psO d o))) := by
 have h1 := hd.c4
 have h2 := ho.r8
 have h3 := ho.w8
 have c1 := zS5 hS d.Cuts o.Reads o.Writes (by omega) (by omega) (by omega)
 rw [show zCU d.Cuts o.Reads o.Writes = psO d o from rfl] at c1
 refine fg H26 fun E hE hH => ?_; simp only [go_sem, hE, hH, C26]
 repeat' (first | ((with_reducible apply ga) <;> refine gs fun h => ?_) | ((with_reducible apply an); · omega) | ((first | refine zAa ?_ | refine cvA (c1) ?_); refine st ?_) | (with_reducible first | apply jn | apply both | apply an | exact ti) | exact fj | refine st ?_ | exact fm | refine s1 ?_)
 all_goals trace_state
theorem zKC (hS : zB5) (d : Deal) (p : Int) (r : Rec) (hd : dealG d) (h0 : 0 ≤ p) (hp : p.toNat < d.States.length) (hr : zA2 r = true) : ACall p_ 72 [.agg (Deal.row false d), i64 p, .agg (Rec.row false r)] (fun x _ => x = zIi (zBl d p r)) := by
 have hmx := zAh
 have z1 : d0.Cuts = [] := rfl
 have z2 : d0.States = [] := rfl
 have z3 : d0.Orders = [] := rfl
 have y1 : st0.Cells = [] := rfl
 have y2 : st0.Held = [] := rfl
 have y3 : st0.Told = [] := rfl
 have y4 : st0.Floor = 0 := rfl
 have cA := zSU hS (nth d.States p.toNat) r (zB6 (zB1 (hd.g _ (zAc hp)))) (by decide) hr
 have cC := zKB d hd.b
 cases hA : zA7 (nth d.States p.toNat) r with
 | none =>
  rw [hA, zCS] at cA
  rw [show zBl d p r = none by rw [zBl, hA]; rfl, zIi]
  refine fg H72 fun E hE hH => ?_; simp only [go_sem, hE, hH, C72]
  repeat' (first | ((with_reducible first | refine zAe ?_ ?_ | refine zAf ?_ ?_) <;> (intro h; have hb := h; (try simp only [nf] at h); simp (disch := omega) only [go_sem, hE, hH, z1, z2, z3, y1, y2, y3, y4, hb]; (try clear hb))) | ((with_reducible refine And.intro ?_ ?_); · omega) | ((first | refine zAa ?_ | refine cvA (cA) ?_); simp (disch := omega) only [go_sem, hE, hH, z1, z2, z3, y1, y2, y3, y4]) | (with_reducible first | apply jn | apply both | refine And.intro ?_ ?_) | ((with_reducible apply zAz); (try (simp (disch := omega) only [go_sem, hE, hH, z1, z2, z3, y1, y2, y3, y4])); first | done | rfl) | (simp (disch := omega) only [go_sem, hE, hH, z1, z2, z3, y1, y2, y3, y4]) | ((first | apply zAj | apply zAC) <;> (simp only [go_sem, hE, hH, z1, z2, z3, y1, y2, y3, y4]; done)) | (simp only [go_sem, hE, hH, z1, z2, z3, y1, y2, y3, y4]) | fail)
  all_goals first | omega | rfl
 | some s =>
  rw [hA, zCS] at cA
  rw [show zBl d p r = some ⟨d.Cuts, d.States.set p.toNat s, d.Orders⟩ by rw [zBl, hA]; rfl, zIi]
  refine fg H72 fun E hE hH => ?_; simp only [go_sem, hE, hH, C72]
  repeat' (first | ((with_reducible apply ga) <;> refine gs fun h => ?_) | ((with_reducible apply an); · omega) | ((first | refine zAa ?_ | refine cvA (cA) ?_ | refine cvA (cC) ?_); refine st ?_) | (with_reducible first | apply jn | apply both | apply an | exact ti) | exact fj | refine st ?_ | exact fm | refine s1 ?_)
  all_goals first | omega | (rw [List.map_set]; rfl) | rfl
theorem zDt (o : Option Deal) : zIi o = .tup [.agg (Deal.row true (o.getD d0)), bl o.isSome] := by cases o <;> rfl
theorem zS9 (hS : zB5) (d : Deal) (o : Order) (hd : dealG d) (ho : ordG o) : ACall p_ 31 [.agg (Deal.row false d), .agg (Order.row false o)] (fun x _ => x = zIi (zBl d (nth (psO d o) 0) (noR o.Txn))) := by
 have hmx := zAh
 obtain ⟨l1, l2, l3⟩ := zCy hd ho
 have l4 := zFb hd (o := o)
 have cP := zJD hS d o hd ho
 have cA := zKC hS d (nth (psO d o) 0) (noR o.Txn) hd l2 l3 (zMl ho.t1 ho.t2)
 rw [zDt] at cA
 rw [zDt]
 generalize (zBl d (nth (psO d o) 0) (noR o.Txn)).getD d0 = q at *
 generalize (zBl d (nth (psO d o) 0) (noR o.Txn)).isSome = b at *
 generalize psO d o = ps at *
 simp only [noR] at cA
 refine fg H31 fun E hE hH => ?_; simp only [go_sem, hE, hH, C31]
 repeat' (first | ((with_reducible apply ga) <;> refine gs fun h => ?_) | ((with_reducible apply an); · omega) | ((first | refine zAa ?_ | refine cvA (cP) ?_ | refine zK3 (cA) ?_); refine st ?_) | (with_reducible first | apply jn | apply both | apply an | exact ti) | exact fj | refine st ?_ | exact fm | refine s1 ?_)
 all_goals first | omega | rfl
theorem zHh (hS : zB5) (d : Deal) (o : Order) (p : Int) (hd : dealG d) (ho : ordG o) (hp : p ∈ (psO d o).drop 1) : ACall p_ 32 [.agg (Deal.row false d), .agg (Order.row false o), i64 p] (fun x _ => x = zIi (if tF (nth d.States (nth (psO d o) 0).toNat).Told o.Txn = true then zBl d p (doR o.Txn (zB4 (nth d.States (nth (psO d o) 0).toNat).Told o.Txn)) else none)) := by
 have hmx := zAh
 have z1 : d0.Cuts = [] := rfl
 have z2 : d0.States = [] := rfl
 have z3 : d0.Orders = [] := rfl
 obtain ⟨l1, l2, l3⟩ := zCy hd ho
 have l4 := zFb hd (o := o)
 obtain ⟨k1, k2⟩ := zFI hd p (List.mem_of_mem_drop hp)
 have cP := zJD hS d o hd ho
 have hg := hd.g _ (zAc l3)
 have hT := (zB6 (zB1 hg)).tlen
 have cFT := zDV (nth d.States (nth (psO d o) 0).toNat) o.Txn (by omega) hg.tsrt
 have hany : ((psO d o).drop 1).any (fun x => decide (p = x)) = true := by rw [List.any_eq_true]; exact ⟨p, hp, by simp⟩
 have cC := zL1 ((psO d o).drop 1) p (by rw [List.length_drop]; omega)
 rw [hany] at cC
 cases hf : tF (nth d.States (nth (psO d o) 0).toNat).Told o.Txn with
 | false =>
  rw [hf] at cFT
  rw [if_neg (by simp), zIi]
  generalize psO d o = ps at *
  refine fg H32 fun E hE hH => ?_; simp only [go_sem, hE, hH, C32]
  all_goals (have y1_ := z1; have y2_ := z2; have y3_ := z3; repeat' (first | ((with_reducible apply ga) <;> refine zFQ fun h => ?_) | ((with_reducible apply an); · omega) | ((first | refine zAa ?_ | refine cvA (cP) ?_ | refine cvA (cFT) ?_); refine zBY ?_) | (with_reducible first | apply jn | apply both | apply an | exact ti) | exact zGF | refine zBY ?_ | exact zFS | refine zFR ?_))
  all_goals first | omega | rfl
 | true =>
  rw [hf] at cFT
  obtain ⟨n1, n2⟩ := zCZ zBK hg.tsrt hf
  have e1 : zB4 (nth d.States (nth (psO d o) 0).toNat).Told o.Txn = nth (nth d.States (nth (psO d o) 0).toNat).Told (tI (nth d.States (nth (psO d o) 0).toNat).Told o.Txn) := by rw [zB4, if_pos hf]
  have cA := zKC hS d p _ hd k1 k2 (zP4 hg hf)
  rw [if_pos rfl]
  rw [zDt] at cA
  rw [zDt]
  rw [e1] at cA ⊢
  generalize (zBl d p (doR o.Txn (nth (nth d.States (nth (psO d o) 0).toNat).Told (tI (nth d.States (nth (psO d o) 0).toNat).Told o.Txn)))).getD d0 = q at *
  generalize (zBl d p (doR o.Txn (nth (nth d.States (nth (psO d o) 0).toNat).Told (tI (nth d.States (nth (psO d o) 0).toNat).Told o.Txn)))).isSome = b at *
  simp only [doR] at cA
  have n3 : tI (nth d.States (nth (psO d o) 0).toNat).Told o.Txn < (nth d.States (nth (psO d o) 0).toNat).Told.length := n1
  generalize psO d o = ps at *
  have d1 : (ps.drop 1).take (ps.length - 1) = ps.drop 1 := List.take_of_length_le (by simp)
  refine fg H32 fun E hE hH => ?_; simp only [go_sem, hE, hH, C32]
  all_goals (have y1_ := d1; repeat' (first | ((with_reducible apply ga) <;> refine zBC fun h => ?_) | ((with_reducible apply an); · omega) | ((first | refine zAa ?_ | refine cvA (cP) ?_ | refine cvA (cFT) ?_ | refine cvA (cC) ?_ | refine zK3 (cA) ?_); refine zAu ?_) | (with_reducible first | apply jn | apply both | apply an | exact ti) | exact zED | refine zAu ?_ | exact zBE | refine zBD ?_))
  all_goals first | omega | rfl
theorem zJ7 (nx cur : Deal) (b : Bool) : ACall p_ 25 [.agg (Deal.row true nx), bl b, .bx true (Deal.row true cur)] (fun r a => r = .tup [] ∧ a = [.any, bl b, .bx true (Deal.row true (if b = true then nx else cur))]) := by
 cases b with
 | false =>
  rw [if_neg (by simp)]
  refine zGr [true] (hqA H25) (hqB H25) ⟨by simp only [go_sem], fun E hE hH => ?_⟩; simp only [go_sem] at hE hH; simp only [go_sem, hE, hH, C25]
  repeat' (first | ((with_reducible apply ga) <;> refine gs fun h => ?_) | ((with_reducible apply an); · omega) | (with_reducible first | apply jn | apply both | apply an | exact ti) | exact fj | refine st ?_ | exact fm | refine s1 ?_)
  all_goals trace_state
 | true =>
  rw [if_pos rfl]
  refine zGr [true] (hqA H25) (hqB H25) ⟨by simp only [go_sem], fun E hE hH => ?_⟩; simp only [go_sem] at hE hH; simp only [go_sem, hE, hH, C25]
  repeat' (first | ((with_reducible apply ga) <;> refine gs fun h => ?_) | ((with_reducible apply an); · omega) | (with_reducible first | apply jn | apply both | apply an | exact ti) | exact fj | refine st ?_ | exact fm | refine s1 ?_)
  all_goals trace_state
theorem zXM (p : Int) (d : Deal) (o : Order) (h0 : 0 ≤ p) (hp : p.toNat < d.States.length) (hg : sG (nth d.States p.toNat)) : ACall p_ 29 ([i64 p] ++ [.bx false (Deal.row false d), .bx false (Order.row false o)]) (fun r _ => r = bl (hF (nth d.States p.toNat).Held o.Txn)) := by
 have hl := hg.hlen
 have c1 := zFn (nth d.States p.toNat) o.Txn (by omega) hg.hsrt
 refine fg H29 fun E hE hH => ?_; simp only [go_sem, hE, hH, C29]
 repeat' (first | ((with_reducible apply ga) <;> refine gs fun h => ?_) | ((with_reducible apply an); · omega) | ((first | refine zAa ?_ | refine cvA (c1) ?_); refine st ?_) | (with_reducible first | apply jn | apply both | apply an | exact ti) | exact fj | refine st ?_ | exact fm | refine s1 ?_)
 all_goals trace_state
end Go.Proofs.Wb

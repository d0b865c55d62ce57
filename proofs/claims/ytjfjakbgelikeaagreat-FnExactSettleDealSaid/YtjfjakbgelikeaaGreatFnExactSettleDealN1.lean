import Derived.Test.YtjfjakbgelikeaaGreatFnExactSettleDealG0
import Derived.Laws.Externs
set_option linter.all false
set_option maxHeartbeats 4000000
namespace Go.Proofs.Wb
open Tryz renaming prog → p_
open Go Go.Am
def ddL : List ByteArray → List ByteArray
 | [] => []
 | x :: t => if t.any fun y => decide (y = x) then ddL t else x :: ddL t
theorem zRA {x : ByteArray} {t : List ByteArray} : (t.any fun y => decide (y = x)) = true ↔ x ∈ t := by
 rw [List.any_eq_true]
 constructor
 ·rintro ⟨y, h1, h2⟩; rw [decide_eq_true_iff] at h2; exact h2 ▸ h1
 ·exact fun h => ⟨x, h, by simp⟩
theorem zEe {x : ByteArray} : ∀ {l : List ByteArray}, x ∈ ddL l ↔ x ∈ l
 | [] => Iff.rfl
 | y :: t => by
  unfold ddL
  split
  ·rename_i h
   rw [zRA] at h
   rw [zEe, List.mem_cons]
   exact ⟨.inr, fun e => e.elim (fun e => e ▸ h) id⟩
  ·rw [List.mem_cons, List.mem_cons, zEe]
theorem zEf : ∀ {l : List ByteArray}, (ddL l).Nodup
 | [] => List.nodup_nil
 | y :: t => by
  unfold ddL
  split
  ·exact zEf
  ·rename_i h
   exact List.nodup_cons.2 ⟨fun e => h (zRA.2 (zEe.1 e)), zEf⟩
def dnN (l : List ByteArray) : Nat := (ddL l).length
theorem zOp {c l : List ByteArray} (hn : c.Nodup) (hm : ∀ x, x ∈ c ↔ x ∈ l) : c.length = dnN l :=
 ((List.perm_ext_iff_of_nodup hn zEf).2 fun x => (hm x).trans zEe.symm).length_eq
theorem zWf {a b : List ByteArray} (h : ∀ x, x ∈ a ↔ x ∈ b) : dnN a = dnN b :=
 zOp zEf fun x => zEe.trans (h x)
def zBs : List ByteArray → List ByteArray
 | [] => []
 | [x] => [x]
 | x :: y :: t => if x = y then zBs (y :: t) else x :: zBs (y :: t)
theorem zD7 {x : ByteArray} : ∀ {l : List ByteArray}, x ∈ zBs l ↔ x ∈ l
 | [] => Iff.rfl
 | [y] => Iff.rfl
 | y :: z :: t => by
  unfold zBs
  split
  ·rename_i h
   rw [zD7, List.mem_cons (a := x) (b := y), h]
   exact ⟨.inr, fun e => e.elim (fun e => e ▸ List.mem_cons_self) id⟩
  ·rw [List.mem_cons, List.mem_cons (b := y), zD7]
def wkL (l : List ByteArray) : Prop := l.Pairwise fun a b => zAg b a = false
theorem zIf : ∀ {l : List ByteArray}, wkL l → (zBs l).Nodup
 | [], _ => List.nodup_nil
 | [y], _ => by simp [zBs]
 | y :: z :: t, h => by
  unfold zBs
  have ht : wkL (z :: t) := (List.pairwise_cons.1 h).2
  split
  ·exact zIf ht
  ·rename_i e
   refine List.nodup_cons.2 ⟨fun hm => ?_, zIf ht⟩
   rw [zD7, List.mem_cons] at hm
   rcases hm with hm | hm
   ·exact e hm
   ·have h1 := (List.pairwise_cons.1 h).1 z List.mem_cons_self
    have h2 := (List.pairwise_cons.1 ht).1 y hm
    rcases zBZ y z with q | q | q
    ·rw [h2] at q; cases q
    ·exact e q
    ·rw [h1] at q; cases q
theorem zZ4 {c l : List ByteArray} (hw : wkL c) (hm : ∀ x, x ∈ c ↔ x ∈ l) : (zBs c).length = dnN l :=
 zOp (zIf hw) fun x => zD7.trans (hm x)
theorem zCg : Ord zAg zEw := ⟨fun a b => zLf, fun a b => zNB, zBM, fun a b c => zBI, zBZ⟩
theorem zBK : Ord ltI zIe := ⟨fun a b => by unfold zIe ltI; split <;> (try split) <;> simp_all, fun a b => by unfold zIe; split <;> (try split) <;> omega, fun a => by simp [ltI], fun a b c => by simp only [ltI, decide_eq_true_eq]; omega, fun a b => by simp only [ltI, decide_eq_true_eq]; omega⟩
def zBP (l : List ByteArray) (k : ByteArray) : List ByteArray := if fxF id l k then l else putAt l (fxI zAg id l k) k
theorem zWg {l : List ByteArray} {k x : ByteArray} : x ∈ zBP l k ↔ x = k ∨ x ∈ l := by
 unfold zBP
 split
 ·rename_i h
  obtain ⟨i, hi, e⟩ := zB8.1 h
  constructor
  ·exact .inr
  ·rintro (h | h)
   ·rw [h, ← e]; exact zAc hi
   ·exact h
 ·exact zDn
theorem zPJ {l : List ByteArray} {k : ByteArray} (h : zAN zAg id l) : zAN zAg id (zBP l k) := by
 unfold zBP
 split
 ·exact h
 ·rename_i e
  exact zFD (f := id) zCg h (x := k) (by simpa using e)
theorem zPK {l : List ByteArray} {k : ByteArray} : (zBP l k).length ≤ l.length + 1 := by
 unfold zBP
 split
 ·omega
 ·rw [zB3 zDT]; exact Nat.le_refl _
theorem zSK {l : List ByteArray} (h : zAN zAg id l) : l.Nodup := by
 rw [List.nodup_iff_pairwise_ne, List.pairwise_iff_getElem]
 intro i j hi hj hij
 have := h i j hij hj
 simp only [id, zAM hi, zAM hj] at this
 exact zH6 this
theorem zNE {ws : List ByteArray} : ∀ {l : List ByteArray} {x : ByteArray}, x ∈ ws.foldl zBP l ↔ x ∈ ws ∨ x ∈ l := by
 induction ws with
 | nil => intro l x; simp
 | cons w t ih =>
  intro l x
  rw [List.foldl_cons, ih, zWg, List.mem_cons]
  constructor
  ·rintro (h | h | h) <;> simp [h]
  ·rintro ((h | h) | h) <;> simp [h]
theorem zFF {ws : List ByteArray} : ∀ {l : List ByteArray}, zAN zAg id l → zAN zAg id (ws.foldl zBP l) := by
 induction ws with
 | nil => exact fun h => h
 | cons w t ih => exact fun h => ih (zPJ h)
theorem zGS {ws : List ByteArray} : ∀ {l : List ByteArray}, (ws.foldl zBP l).length ≤ l.length + ws.length := by
 induction ws with
 | nil => intro l; simp
 | cons w t ih =>
  intro l
  have := ih (l := zBP l w)
  have := zPK (l := l) (k := w)
  simp only [List.foldl_cons, List.length_cons]; omega
theorem zWh {ws : List ByteArray} : (ws.foldl zBP []).length = dnN ws :=
 zOp (zSK (zFF fun i j _ h => absurd h (by simp))) fun x => by rw [zNE]; simp
def zDB (c : Cell) (i : Nat) : Bool := rng (nth c.Vers i).Time 1 100000 && stored (nth c.Vers i).Val (nth c.Vers i).Gone && (decide (i = 0) || decide ((nth c.Vers (i - 1)).Time < (nth c.Vers i).Time))
def zD0 (c : Cell) : Bool := zAD (zDB c) c.Vers.length && rng (c.Vers.length : Int) 1 16
def zCw (l : List Cell) (i : Nat) : Bool := zD0 (nth l i) && zBm (nth l i).Key && (decide (i = 0) || zAg (nth l (i - 1)).Key (nth l i).Key)
def zA1 (l : List Cell) : Bool := zAD (zCw l) l.length && decide ((l.length : Int) ≤ 24)
structure cellI (n : Nat) (l : List Cell) : Prop where
 len : l.length ≤ 24 + n
 srt : zAN zAg Cell.Key l
 one : ∀ c ∈ l, 1 ≤ c.Vers.length ∧ c.Vers.length ≤ 16 + n
 wf : ∀ c ∈ l, c.Key.size ≤ 100 ∧ ∀ v ∈ c.Vers, v.Val.size ≤ 100
theorem zFl {v : ByteArray} {g : Bool} (h : stored v g = true) : v.size ≤ 24 := by
 simp only [stored, zEd, Bool.and_eq_true, zBW, decide_eq_true_eq] at h
 omega
theorem zCQ {k : ByteArray} (h : zBm k = true) : k.size ≤ 12 := by
 simp only [zBm, Bool.and_eq_true, zBW] at h
 omega
theorem zD1 {l : List Cell} : zA1 l = true ↔ l.length ≤ 24 ∧ zAN zAg Cell.Key l ∧ ∀ c ∈ l, zD0 c = true ∧ zBm c.Key = true := by
 simp only [zA1, Bool.and_eq_true, decide_eq_true_eq, zAv]
 constructor
 ·rintro ⟨h1, h2⟩
  refine ⟨by omega, ?_, ?_⟩
  ·have key : ∀ d i, i + d + 1 < l.length → zAg (nth l i).Key (nth l (i + d + 1)).Key = true := by
    intro d
    induction d with
    | zero =>
     intro i hi
     have := h1 (i + 1) (by omega)
     simp only [zCw, Bool.and_eq_true, Bool.or_eq_true, decide_eq_true_eq] at this
     exact this.2.resolve_left (by omega)
    | succ d ih =>
     intro i hi
     have h3 := ih i (by omega)
     have := h1 (i + d + 2) (by omega)
     simp only [zCw, Bool.and_eq_true, Bool.or_eq_true, decide_eq_true_eq] at this
     exact zBI h3 (this.2.resolve_left (by omega))
   intro i j h3 h4
   have := key (j - i - 1) i (by omega)
   rwa [show i + (j - i - 1) + 1 = j by omega] at this
  ·intro c hc
   obtain ⟨i, hi, rfl⟩ := List.getElem_of_mem hc
   have := h1 i hi
   simp only [zCw, Bool.and_eq_true, zAM hi] at this
   exact this.1
 ·rintro ⟨h1, h2, h3⟩
  refine ⟨fun i hi => ?_, by omega⟩
  simp only [zCw, Bool.and_eq_true, Bool.or_eq_true, decide_eq_true_eq]
  refine ⟨h3 _ (zAc hi), ?_⟩
  by_cases e : i = 0
  ·exact .inl e
  ·exact .inr (h2 _ _ (by omega) hi)
theorem zBy {l : List Cell} (h : zA1 l = true) : cellI 0 l := by
 obtain ⟨h1, h2, h3⟩ := zD1.1 h
 refine ⟨by omega, h2, fun c hc => ?_, fun c hc => ⟨?_, fun v hv => ?_⟩⟩
 ·have := (h3 c hc).1
  simp only [zD0, Bool.and_eq_true, zBW] at this
  omega
 ·have := zCQ (h3 c hc).2; omega
 ·obtain ⟨i, hi, rfl⟩ := List.getElem_of_mem hv
  have := (h3 c hc).1
  simp only [zD0, Bool.and_eq_true] at this
  have := zAv.1 this.1 i hi
  simp only [zDB, Bool.and_eq_true, zAM hi] at this
  have := zFl this.1.2
  omega
def zEy (c : Cell) : Int := (nth c.Vers (c.Vers.length - 1)).Time
def cI (l : List Cell) (k : ByteArray) : Nat := fxI zAg Cell.Key l k
def cF (l : List Cell) (k : ByteArray) : Bool := fxF Cell.Key l k
def zA8 (l : List Cell) (k : ByteArray) : Int := if cF l k then zEy (nth l (cI l k)) else 0
theorem zJ6 {l : List Cell} {k : ByteArray} : cI l k ≤ l.length := zDT
theorem zDC {l : List Cell} {k : ByteArray} (hs : zAN zAg Cell.Key l) (h : cF l k = true) : cI l k < l.length ∧ (nth l (cI l k)).Key = k := zCZ zCg hs h
def zCR (t : Int) (l : List Cell) (x : Write) : Option (List Cell) :=
 if cF l x.Key then
  if t ≤ zEy (nth l (cI l x.Key)) then none
  else some (l.set (cI l x.Key) ⟨(nth l (cI l x.Key)).Key, (nth l (cI l x.Key)).Vers ++ [⟨t, x.Val, x.Gone⟩]⟩)
 else some (putAt l (cI l x.Key) ⟨x.Key, [⟨t, x.Val, x.Gone⟩]⟩)
def zC0 (t : Int) (ws : List Write) (o : Option (List Cell)) : Option (List Cell) := ws.foldl (fun o x => o.bind fun l => zCR t l x) o
def zHd (t : Int) (l : List Cell) (ws : List Write) : Option (List Cell) := (zC0 t ws (some l)).bind fun c => if zA1 c then some c else none
theorem zIg {t : Int} : ∀ {ws : List Write}, zC0 t ws none = none
 | [] => rfl
 | _ :: ws => zIg (ws := ws)
theorem zRB {l : List Cell} {i : Nat} {c : Cell} (hs : zAN zAg Cell.Key l) (hc : c.Key = (nth l i).Key) (hi : i < l.length) : zAN zAg Cell.Key (l.set i c) := by
 have hn : ∀ j, (nth (l.set i c) j).Key = (nth l j).Key := by
  intro j
  by_cases e : i = j
  ·subst e; simp [nth, List.getD, List.getElem?_set, hi, hc]
  ·simp [nth, List.getD, List.getElem?_set, e]
 intro a b h1 h2
 rw [List.length_set] at h2
 rw [hn, hn]; exact hs a b h1 h2
theorem zL8 {n : Nat} {t : Int} {l l' : List Cell} {x : Write} (h : cellI n l) (hk : x.Key.size ≤ 100) (hv : x.Val.size ≤ 100) (e : zCR t l x = some l') : cellI (n + 1) l' := by
 unfold zCR at e
 cases hf : cF l x.Key with
 | true =>
  rw [hf, if_pos rfl] at e
  obtain ⟨a, b⟩ := zDC h.srt hf
  split at e
  ·cases e
  ·injection e with e
   subst e
   have hm := zAc a
   have ho := h.one _ hm
   have hw := h.wf _ hm
   refine ⟨?_, zRB h.srt rfl a, fun c hc => ?_, fun c hc => ?_⟩
   ·rw [List.length_set]; have := h.len; omega
   ·rcases List.mem_or_eq_of_mem_set hc with hc | rfl
    ·have := h.one c hc; omega
    ·simp only [List.length_append, List.length_cons, List.length_nil]; omega
   ·rcases List.mem_or_eq_of_mem_set hc with hc | rfl
    ·exact h.wf c hc
    ·refine ⟨hw.1, fun v hv' => ?_⟩
     rcases List.mem_append.1 hv' with h1 | h1
     ·exact hw.2 v h1
     ·rw [List.mem_singleton] at h1; subst h1; exact hv
 | false =>
  rw [hf, if_neg (by simp)] at e
  injection e with e
  subst e
  refine ⟨?_, zFD (x := (⟨x.Key, [⟨t, x.Val, x.Gone⟩]⟩ : Cell)) zCg h.srt hf, fun c hc => ?_, fun c hc => ?_⟩
  ·rw [zB3 zJ6]; have := h.len; omega
  ·rcases zDn.1 hc with rfl | hc
   ·refine ⟨by simp, ?_⟩
    simp only [List.length_cons, List.length_nil]; omega
   ·have := h.one c hc; omega
  ·rcases zDn.1 hc with rfl | hc
   ·exact ⟨hk, fun v hv' => by rw [List.mem_singleton] at hv'; subst hv'; exact hv⟩
   ·exact h.wf c hc
def zDd (h : Held) : Rec := ⟨1, h.Txn, h.Time, h.Lead, h.Reads, h.Writes, false⟩
def hOf (r : Rec) : Held := ⟨r.Txn, r.Time, r.Lead, r.Reads, r.Writes⟩
def zBz (h k : Held) : Bool := zGA h.Writes k.Reads k.Writes || zGA k.Writes h.Reads h.Writes
def zD2 (h : Held) : Prop := zA2 (zDd h) = true
theorem zAV {h : Held} (k : zD2 h) : h.Reads.length ≤ 8 ∧ h.Writes.length ≤ 8 ∧ zBq h.Writes = true ∧ zBO h.Reads = true ∧ 1 ≤ h.Txn ∧ h.Txn ≤ 60 ∧ 1 ≤ h.Time ∧ h.Time ≤ 100000 ∧ 0 ≤ h.Lead ∧ h.Lead ≤ 3 := by
 simp only [zD2, zA2, zDd, if_true, Bool.and_eq_true, zBW, decide_eq_true_eq] at k
 obtain ⟨⟨⟨⟨⟨⟨⟨h1, h2⟩, h3⟩, h4, h5⟩, h6⟩, h7⟩, h8⟩, h9⟩ := k
 have h5 := of_decide_eq_true h5; have h6 := of_decide_eq_true h6
 exact ⟨by omega, by omega, h7, h4, by omega, by omega, by omega, by omega, by omega, by omega⟩
def hI (l : List Held) (t : Int) : Nat := fxI ltI Held.Txn l t
def hF (l : List Held) (t : Int) : Bool := fxF Held.Txn l t
def zAY (l : List Held) : List Write := l.flatMap (·.Writes)
def zB0 (cs : List Cell) (k : ByteArray) : Bool := cF cs k && decide (16 ≤ (nth cs (cI cs k)).Vers.length)
def zB9 (cs : List Cell) (ws : List Write) : Bool := !(ws.any fun w => zB0 cs w.Key) && decide (dnN (cs.map (·.Key) ++ ws.map (·.Key)) ≤ 24)
theorem zSL {α : Type} {p : α → Bool} {a b : List α} (h : ∀ x, x ∈ a ↔ x ∈ b) : a.any p = b.any p := by
 rw [Bool.eq_iff_iff, List.any_eq_true, List.any_eq_true]
 exact ⟨fun ⟨x, h1, h2⟩ => ⟨x, (h x).1 h1, h2⟩, fun ⟨x, h1, h2⟩ => ⟨x, (h x).2 h1, h2⟩⟩
theorem zQx {cs : List Cell} {a b : List Write} (h : ∀ x, x ∈ a ↔ x ∈ b) : zB9 cs a = zB9 cs b := by
 unfold zB9
 rw [zSL h]
 congr 2
 rw [zWf (fun x => ?_)]
 simp only [List.mem_append, List.mem_map, h]
def tI (l : List Told) (t : Int) : Nat := fxI ltI Told.Txn l t
def tF (l : List Told) (t : Int) : Bool := fxF Told.Txn l t
def zD3 (s : State) (reads : List ByteArray) (writes : List Write) : Bool := !(s.Held.any fun k => zBz ⟨0, 0, 0, reads, writes⟩ k) && (decide ((s.Held.length : Int) + 1 ≤ 12) && zB9 s.Cells (zAY s.Held ++ writes))
def zBX (s : State) (r : Rec) : List Told := putAt s.Told (tI s.Told r.Txn) ⟨r.Txn, r.Yes, r.Time⟩
def zAQ (s : State) (r : Rec) : List Held := if hF s.Held r.Txn then cutAt s.Held (hI s.Held r.Txn) else s.Held
def zBQ (s : State) (r : Rec) : Option State :=
 if r.Yes then
  if !hF s.Held r.Txn || decide (r.Time < (nth s.Held (hI s.Held r.Txn)).Time) then none
  else (zHd r.Time s.Cells (nth s.Held (hI s.Held r.Txn)).Writes).map fun c => ⟨max s.Floor r.Time, c, zAQ s r, zBX s r⟩
 else some ⟨s.Floor, s.Cells, zAQ s r, zBX s r⟩
def zA7 (s : State) (r : Rec) : Option State :=
 if r.Kind = 4 then if r.Time ≤ s.Floor then none else some ⟨r.Time, s.Cells, s.Held, s.Told⟩
 else if tF s.Told r.Txn then none
 else if r.Kind ≠ 1 then zBQ s r
 else if hF s.Held r.Txn || decide (r.Time ≤ s.Floor) || !zD3 s r.Reads r.Writes then none
 else some ⟨r.Time, s.Cells, putAt s.Held (hI s.Held r.Txn) (hOf r), s.Told⟩
structure stI (n : Nat) (s : State) : Prop where
 cells : zA1 s.Cells = true
 hlen : s.Held.length ≤ 12
 hsrt : zAN ltI Held.Txn s.Held
 hok : ∀ h ∈ s.Held, zD2 h
 tlen : s.Told.length ≤ n
 tsrt : zAN ltI Told.Txn s.Told
def st0 : State := ⟨0, [], [], []⟩
theorem zJt {n : Nat} {s : State} (h : stI n s) (r : Rec) : (zAQ s r).length ≤ 12 ∧ zAN ltI Held.Txn (zAQ s r) ∧ ∀ x ∈ zAQ s r, zD2 x := by
 unfold zAQ
 split
 ·rename_i e
  have hi := (zCZ zBK h.hsrt e).1
  have := zNA hi
  have := h.hlen
  exact ⟨by unfold hI; omega, zUS h.hsrt hi, fun x hx => h.hok x (zUT hx)⟩
 ·exact ⟨h.hlen, h.hsrt, h.hok⟩
theorem zUY {n : Nat} {s : State} (h : stI n s) {r : Rec} (e : tF s.Told r.Txn = false) : (zBX s r).length ≤ n + 1 ∧ zAN ltI Told.Txn (zBX s r) := by
 refine ⟨?_, zFD (x := (⟨r.Txn, r.Yes, r.Time⟩ : Told)) zBK h.tsrt e⟩
 unfold zBX
 rw [zB3 (show tI s.Told r.Txn ≤ s.Told.length from zDT)]
 have := h.tlen; omega
theorem zL9 {r : Rec} (h : zA2 r = true) (e : r.Kind = 1) : zD2 (hOf r) := by
 have : zDd (hOf r) = r := by
  have h2 := h
  simp only [zA2, e, if_true, Bool.and_eq_true, Bool.not_eq_true'] at h2
  rcases r with ⟨a1, a2, a3, a4, a5, a6, a7⟩
  simp only at e h2
  subst e
  rw [h2.2]; rfl
 unfold zD2
 rw [this]; exact h
theorem zPL : ∀ a b : List UInt8, Op.bytesLess a b = decide (a < b)
 | [], [] => by simp [Op.bytesLess]
 | [], _ :: _ => by simp [Op.bytesLess]
 | _ :: _, [] => by simp [Op.bytesLess]
 | x :: a, y :: b => by
  rw [Bool.eq_iff_iff, zF3, zPL a b, decide_eq_true_iff, decide_eq_true_iff, List.cons_lt_cons_iff]
def zBR (l : List ByteArray) : List ByteArray := ((l.map (·.data.toList)).mergeSort fun x y => decide (x ≤ y)).map fun x => ⟨x.toArray⟩
theorem zUZ (x : ByteArray) : (⟨x.data.toList.toArray⟩ : ByteArray) = x := by simp
theorem zNF {x : ByteArray} {l : List ByteArray} : x ∈ zBR l ↔ x ∈ l := by
 unfold zBR
 simp only [List.mem_map, List.mem_mergeSort]
 constructor
 ·rintro ⟨a, ⟨y, hy, rfl⟩, rfl⟩; rw [zUZ]; exact hy
 ·exact fun h => ⟨_, ⟨x, h, rfl⟩, zUZ x⟩
theorem zFG {l : List ByteArray} : (zBR l).length = l.length := by simp [zBR]
theorem zPM (l : List ByteArray) : wkL (zBR l) := by
 unfold wkL zBR
 rw [List.pairwise_map]
 have h := List.pairwise_mergeSort (le := fun x y : List UInt8 => decide (x ≤ y)) (fun a b c h1 h2 => by
  simp only [decide_eq_true_eq] at *; exact Std.le_trans h1 h2) (fun a b => by
  simp only [Bool.or_eq_true, decide_eq_true_eq]; exact Std.le_total) (l.map (·.data.toList))
 refine h.imp fun {a b} h => ?_
 simp only [decide_eq_true_eq] at h
 unfold zAg
 rw [zPL]
 simpa using h
theorem zSM (l : List ByteArray) : (l.map (·.data.toList)).mergeSort (fun x y => decide (x ≤ y)) = (zBR l).map (·.data.toList) := by
 unfold zBR
 rw [List.map_map]
 conv => lhs; rw [← List.map_id (List.mergeSort _ _)]
 exact List.map_congr_left fun x _ => by simp
def zWi (c : Cell) : Prop := c.Key.size ≤ maxLen ∧ c.Vers.length ≤ maxLen ∧ ∀ v ∈ c.Vers, v.Val.size ≤ maxLen
def zGT (l : List Cell) : Prop := l.length ≤ maxLen ∧ ∀ c ∈ l, zWi c
theorem cellI.w {n : Nat} {l : List Cell} (h : cellI n l) (hn : n ≤ 2 ^ 20) : zGT l := by
 have hmx := zAh
 refine ⟨by have := h.len; omega, fun c hc => ⟨?_, ?_, fun v hv => ?_⟩⟩
 ·have := (h.wf c hc).1; omega
 ·have := (h.one c hc).2; omega
 ·have := (h.wf c hc).2 v hv; omega
theorem zPN (l : List Cell) : zA1 l = (zAD (fun i => zD0 (nth l i)) l.length && (decide ((l.length : Int) ≤ 24) && zBO (l.map (·.Key)))) := by
 have h2 : zBO (l.map (·.Key)) = zAD (fun i => zBm (nth l i).Key && (decide (i = 0) || zAg (nth l (i - 1)).Key (nth l i).Key)) l.length := by
  unfold zBO
  rw [List.length_map]
  refine zLR fun i hi => ?_
  rw [zJ5 hi, zJ5 (by omega)]
 rw [h2, zA1, Bool.eq_iff_iff]
 simp only [Bool.and_eq_true, zAv, zCw]
 constructor
 ·rintro ⟨h, h3⟩
  exact ⟨fun i hi => (h i hi).1.1, h3, fun i hi => ⟨(h i hi).1.2, (h i hi).2⟩⟩
 ·rintro ⟨h, h3, h4⟩
  exact ⟨fun i hi => ⟨⟨h i hi, (h4 i hi).1⟩, (h4 i hi).2⟩, h3⟩
theorem zPO {c : Cell} {i : Nat} (hi : i < c.Vers.length) (h : zDB c i = false) : zD0 c = false := by rw [zD0, zBh hi h]; rfl
open Go.Proofs.Wb renaming H198 → z0_, zJf → z1_, zFT → z2_ in
theorem zN3 (c : Cell) (key : ByteArray) : ACall p_ 198 ([.agg (Cell.row false c), str key] ++ []) (fun r _ => r = i64 (zEw c.Key key)) := zQb
theorem zFm (l : List Cell) (key : ByteArray) (hl : l.length ≤ 2 ^ 60) (hs : zAN zAg Cell.Key l) : ACall p_ 163 [.sl false 2 (l.map (Cell.row false)), str key] (fun r _ => r = .tup [i64 (cI l key), bl (cF l key)]) := by
 obtain ⟨e1, e2⟩ := zSF zCg hs key
 refine fg H163 fun E hE hH => ?_; simp only [go_sem, hE, hH, zZg]
 repeat' (first | ((with_reducible apply ga) <;> refine gs fun h => ?_) | ((with_reducible apply an); · omega) | ((first | refine zAa ?_ | refine cvA (zGx l key _ [] (fun c => zEw c.Key key) (by kernel_rfl) rfl hl (zMS zCg hs) (fun c _ => zN3 c key)) ?_); refine st ?_) | refine jn _ ?_ ?_ | (with_reducible first | apply both | apply an | exact ti) | exact fe | refine st ?_ | exact fm | refine s1 ?_)
 all_goals simp only [e1, e2]
 all_goals rfl
theorem zHe (l : List Cell) (key : ByteArray) (hl : l.length ≤ 2 ^ 60) (hs : zAN zAg Cell.Key l) (h1 : ∀ c ∈ l, 1 ≤ c.Vers.length ∧ c.Vers.length ≤ 2 ^ 60) : ACall p_ 113 [.sl false 2 (l.map (Cell.row false)), str key] (fun r _ => r = i64 (zA8 l key)) := by
 have hmx := zAh
 cases hf : cF l key with
 | false =>
  refine fg zYL fun E hE hH => ?_; simp only [go_sem, hE, hH, zV7]
  have hc := zFm l key hl hs
  rw [hf] at hc
  repeat' (first | ((with_reducible apply ga) <;> refine gs fun h => ?_) | ((with_reducible apply an); · omega) | ((first | refine zAa ?_ | refine cvA (hc) ?_); refine st ?_) | refine jn _ ?_ ?_ | (with_reducible first | apply both | apply an | exact ti) | exact fe | refine st ?_ | exact fm | refine s1 ?_)
  all_goals simp only [zA8, hf]
  all_goals rfl
 | true =>
  obtain ⟨k1, k2⟩ := zDC hs hf
  obtain ⟨o1, o2⟩ := h1 _ (zAc k1)
  have hi := zJ6 (l := l) (k := key)
  have ez : ((nth l (cI l key)).Vers.length - 1 : Int).toNat = (nth l (cI l key)).Vers.length - 1 := by omega
  refine fg zYL fun E hE hH => ?_; simp only [go_sem, hE, hH, zV7]
  have hc := zFm l key hl hs
  rw [hf] at hc
  all_goals (have y1_ := ez; repeat' (first | ((with_reducible apply ga) <;> refine zBC fun h => ?_) | ((with_reducible apply an); · omega) | ((first | refine zAa ?_ | refine cvA (hc) ?_); refine zAu ?_) | refine jn _ ?_ ?_ | (with_reducible first | apply both | apply an | exact ti) | exact zDu | refine zAu ?_ | exact zBE | refine zBD ?_))
  all_goals first | omega | (simp only [zA8, hf, zEy]; done) | (simp only [zA8, hf, zEy]; rfl)
theorem zU0 (c : Cell) (hc : zWi c) : ACall p_ 154 [.agg (Cell.row false c)] (fun r _ => r = bl (zD0 c)) := by
 have hmx := zAh
 obtain ⟨-, hl, hv⟩ := hc
 refine fg H154 fun E hE hH => ?_; simp only [go_sem, hE, hH, zZa]
 refine zAK c.Vers.length (fun j (_ : Unit) => ⟨[(1, .ptr 2000000 0 0), (6, .sl false 3 (c.Vers.map (Ver.row false))), (7, i64 c.Vers.length), (8, i64 j)], [(2000000, ⟨2, [Cell.row false c]⟩)]⟩) (fun j _ => zAD (zDB c) j = true) () rfl ?_
 intro j _ hj hI
 try simp only [go_sem, hE, hH, zRh]
 first | refine zAe (fun h => ?_) (fun h => ?_) | refine zAf (fun h => ?_) (fun h => ?_)
 ·have hb := h
  simp only [nf] at h
  have hlt := h; clear h
  have hs := hv _ (zAc hlt)
  try refine sb ?_; try exact ⟨⟩
  repeat' (first | ((with_reducible apply ga) <;> refine gs fun h => ?_) | ((with_reducible apply an); · omega) | ((first | refine zAa ?_ | refine cvA (zNC _) ?_ | refine cvA (zKt _ _ hs) ?_); refine st ?_) | (with_reducible first | apply jn | apply both | apply an | exact ti) | exact fj | refine st ?_ | exact fm | refine s1 ?_)
  all_goals first | (rw [zPO hlt (by first | (simp_all [zDB]; done) | (simp_all [zDB]; omega))]; done) | (exact ⟨(), rfl, zAl hI (by first | (simp_all [zDB]; done) | (simp_all [zDB]; omega))⟩)
 ·try simp (disch := omega) only [go_sem, hE, hH, h]
  simp only [nf] at h
  rw [show j = c.Vers.length by omega] at hI
  repeat' (first | ((with_reducible apply ga) <;> refine gs fun h => ?_) | ((with_reducible apply an); · omega) | ((first | refine zAa ?_ | refine cvA (zDo _ _ _) ?_); refine st ?_) | refine jn _ ?_ ?_ | (with_reducible first | apply both | apply an | exact ti) | exact fe | refine st ?_ | exact fm | refine s1 ?_)
  all_goals (rw [zD0, hI]; simp)
theorem zJu (l : List Cell) (hw : zGT l) (hl : l.length ≤ 2 ^ 20) : ACall p_ 111 [.sl false 2 (l.map (Cell.row false))] (fun r _ => r = bl (zA1 l)) := by
 have hmx := zAh
 obtain ⟨-, hx⟩ := hw
 have hr : zBN (fun s : ByteArray => s.size ≤ maxLen) (l.map (·.Key)) := ⟨by simp; omega, fun s hs => by obtain ⟨w, hw, rfl⟩ := List.mem_map.1 hs; exact (hx w hw).1⟩
 rw [zPN]
 refine fg H111 fun E hE hH => ?_; simp only [go_sem, hE, hH, zYJ]
 refine zAK l.length (fun j (x : List ByteArray) => ⟨[(0, .sl false 2 (l.map (Cell.row false))), (3, .ref 4000000 0 x.length), (7, .sl false 2 (l.map (Cell.row false))), (8, i64 l.length), (9, i64 j)], [(4000000, ⟨1, strs x⟩)]⟩) (fun j x => x = (l.take j).map (·.Key) ∧ zAD (fun i => zD0 (nth l i)) j = true) [] ⟨by simp, rfl⟩ ?_
 rintro j x hj ⟨hx2, hI⟩
 have hlen : x.length = j := by rw [hx2]; simp; omega
 try simp only [go_sem, hE, hH, zQ0]
 first | refine zAe (fun h => ?_) (fun h => ?_) | refine zAf (fun h => ?_) (fun h => ?_)
 ·have hb := h
  simp only [nf] at h
  have hlt := h; clear h
  try refine sb ?_; try exact ⟨⟩
  repeat' (first | ((with_reducible apply ga) <;> refine gs fun h => ?_) | ((with_reducible apply an); · omega) | ((first | refine zAa ?_ | refine cvA (zU0 _ (hx _ (zAc hlt))) ?_); refine st ?_) | refine jn _ ?_ ?_ | (with_reducible first | apply both | apply an | exact ti) | exact fe | refine st ?_ | exact fm | refine s1 ?_)
  all_goals try omega
  ·rw [zBh hlt h]; rfl
  ·exact ⟨x ++ [(nth l j).Key], by simp [hlen], by rw [zAp hlt, List.map_append, ← hx2]; rfl, zAl hI h⟩
 ·try simp (disch := omega) only [go_sem, hE, hH, h]
  simp only [nf] at h
  rw [show j = l.length by omega] at hI hx2
  rw [List.take_length] at hx2
  subst hx2
  repeat' (first | ((with_reducible apply ga) <;> refine gs fun h => ?_) | ((with_reducible apply an); · omega) | ((first | refine zAa ?_ | refine cvA (zEv _ hr) ?_); refine st ?_) | refine jn _ ?_ ?_ | (with_reducible first | apply both | apply an | exact ti) | exact fe | refine st ?_ | exact fm | refine s1 ?_)
  all_goals (rw [hI]; simp_all)
theorem zJv (l : List Cell) (hl : l.length ≤ 2 ^ 20) (hv : ∀ c ∈ l, c.Vers.length ≤ 2 ^ 20) : ACall p_ 118 [.sl false 2 (l.map (Cell.row false))] (fun r _ => r = .sl true 2 (l.map (Cell.row true))) := by
 have hmx := zAh
 refine fg H118 fun E hE hH => ?_; simp only [go_sem, hE, hH, zYP]
 repeat' (first | ((with_reducible apply ga) <;> refine gs fun h => ?_) | ((with_reducible apply an); · omega) | ((first | refine zAa ?_ | refine cvA (zNZ _ hl) ?_); refine st ?_) | refine jn _ ?_ ?_ | (with_reducible first | apply both | apply an | exact ti) | exact fe | refine st ?_ | exact fm | refine s1 ?_)
 refine zAG l.length (fun j (_ : Unit) => ⟨[(3, .ref 4000000 0 l.length), (8, i64 l.length), (9, i64 j)], [(4000000, ⟨2, cp2 (Cell.row true) (Cell.row false) l j⟩)]⟩) (fun _ _ => True) () (by rw [zV1]; rfl) trivial ?_
 intro j _ hj _
 try simp only [go_sem, hE, hH, zQ2]
 first | refine zAe (fun h => ?_) (fun h => ?_) | refine zAf (fun h => ?_) (fun h => ?_)
 ·have hb := h
  simp only [nf] at h
  have hlt := h; clear h
  have hg := zXy (f := Cell.row true) (g := Cell.row false) hlt
  have hn := zQX (f := Cell.row true) (g := Cell.row false) (l := l) (j := j)
  have hy := hv _ (zAc hlt)
  have hs := fun r => zYB (f := Cell.row true) (g := Cell.row false) (k := j) hlt (r := r)
  simp only [Cell.row_eq] at hg
  try simp (disch := omega) only [go_sem, hE, hH, hg, hn, hs, hb]
  all_goals (have y1_ := hg; have y2_ := hn; have y3_ := hs; repeat' (first | ((with_reducible apply ga) <;> refine zFQ fun h => ?_) | ((with_reducible apply an); · omega) | ((first | refine zAa ?_ | refine cvA (zPB _ hy) ?_); refine zBY ?_) | refine jn _ ?_ ?_ | (with_reducible first | apply both | apply an | exact ti) | exact fe5_ | refine zBY ?_ | exact zFS | refine zFR ?_))
  repeat' (first | (refine both ?_ ?_) | omega | ((first | apply zAj | apply zAC) <;> (simp only [go_sem, hE, hH, hg, hn, hs]; done)) | fail)
  all_goals try exact zXA (fun x => by simp only [go_sem]) (fun x => by simp only [go_sem])
  all_goals try omega
  refine ⟨(), ?_⟩
  rw [← zXz (f := Cell.row true) (g := Cell.row false) hlt rfl]
  rfl
 ·try simp (disch := omega) only [go_sem, hE, hH, h]
  simp only [nf] at h
  rw [zXx (show j = l.length by omega)]
  try refine st ?_; try exact ⟨⟩
theorem zU1 (c : Cell) (hc : zWi c) : ACall p_ 137 [.agg (Cell.row false c)] (fun r _ => r = bl (zD0 c && zBm c.Key)) := by
 have hmx := zAh
 obtain ⟨hk, hl, hv⟩ := hc
 refine fg H137 fun E hE hH => ?_; simp only [go_sem, hE, hH, zY0]
 refine zAK c.Vers.length (fun j (_ : Unit) => ⟨[(1, .ptr 2000000 0 0), (6, .sl false 3 (c.Vers.map (Ver.row false))), (7, i64 c.Vers.length), (8, i64 j)], [(2000000, ⟨2, [Cell.row false c]⟩)]⟩) (fun j _ => zAD (zDB c) j = true) () rfl ?_
 intro j _ hj hI
 try simp only [go_sem, hE, hH, zQ8]
 first | refine zAe (fun h => ?_) (fun h => ?_) | refine zAf (fun h => ?_) (fun h => ?_)
 ·have hb := h
  simp only [nf] at h
  have hlt := h; clear h
  have hs := hv _ (zAc hlt)
  try refine sb ?_; try exact ⟨⟩
  repeat' (first | ((with_reducible apply ga) <;> refine gs fun h => ?_) | ((with_reducible apply an); · omega) | ((first | refine zAa ?_ | refine cvA (zJr _) ?_ | refine cvA (zL3 _ _ _ hk hs) ?_); refine st ?_) | (with_reducible first | apply jn | apply both | apply an | exact ti) | exact fj | refine st ?_ | exact fm | refine s1 ?_)
  all_goals (cases hgk : zBm c.Key)
  all_goals first | (rw [zPO hlt (by first | (simp_all [zDB]; done) | (simp_all [zDB]; omega))]; rfl) | (simp; done) | (exact ⟨(), rfl, zAl hI (by first | (simp_all [zDB]; done) | (simp_all [zDB]; omega))⟩) | (exfalso; simp_all; done)
 ·try simp (disch := omega) only [go_sem, hE, hH, h]
  simp only [nf] at h
  rw [show j = c.Vers.length by omega] at hI
  repeat' (first | ((with_reducible apply ga) <;> refine gs fun h => ?_) | ((with_reducible apply an); · omega) | ((first | refine zAa ?_ | refine cvA (zId _ hk) ?_ | refine cvA (zE7 _ _ _) ?_); refine st ?_) | refine jn _ ?_ ?_ | (with_reducible first | apply both | apply an | exact ti) | exact fe | refine st ?_ | exact fm | refine s1 ?_)
  all_goals (rw [zD0, hI]; simp_all)
theorem zNG (l : List Cell) (hw : zGT l) : ACall p_ 90 [.sl false 2 (l.map (Cell.row false))] (fun r _ => r = bl (zA1 l)) := by
 have hmx := zAh
 obtain ⟨hl, hx⟩ := hw
 refine fg H90 fun E hE hH => ?_; simp only [go_sem, hE, hH, C90]
 refine zAK l.length (fun j (_ : Unit) => ⟨[(0, .sl false 2 (l.map (Cell.row false))), (5, .sl false 2 (l.map (Cell.row false))), (6, i64 l.length), (7, i64 j)], []⟩) (fun j _ => zAD (zCw l) j = true) () rfl ?_
 intro j _ hj hI
 try simp only [go_sem, hE, hH, zUz]
 first | refine zAe (fun h => ?_) (fun h => ?_) | refine zAf (fun h => ?_) (fun h => ?_)
 ·have hb := h
  simp only [nf] at h
  have hlt := h; clear h
  try refine sb ?_; try exact ⟨⟩
  repeat' (first | ((with_reducible apply ga) <;> refine gs fun h => ?_) | ((with_reducible apply an); · omega) | ((first | refine zAa ?_ | refine cvA (zU1 _ (hx _ (zAc hlt))) ?_); refine st ?_) | (with_reducible first | apply jn | apply both | apply an | exact ti) | exact fj | refine st ?_ | exact fm | refine s1 ?_)
  all_goals first | (rw [zA1, zBh hlt (by first | (simp_all [zCw]; done) | (simp_all [zCw]; omega))]; rfl) | (exact ⟨(), rfl, zAl hI (by first | (simp_all [zCw]; done) | (simp_all [zCw]; omega))⟩)
 ·try simp (disch := omega) only [go_sem, hE, hH, h]
  simp only [nf] at h
  rw [show j = l.length by omega] at hI
  rw [zA1, hI]
  simp
theorem zPP (l : List Cell) (hl : l.length ≤ 2 ^ 20) (hv : ∀ c ∈ l, c.Vers.length ≤ 2 ^ 20) : ACall p_ 96 [.sl false 2 (l.map (Cell.row false))] (fun r _ => r = .sl true 2 (l.map (Cell.row true))) := by
 have hmx := zAh
 refine fg H96 fun E hE hH => ?_; simp only [go_sem, hE, hH, C96]
 refine zAG l.length (fun j (_ : Unit) => ⟨[(3, .ref 4000000 0 j), (6, .sl false 2 (l.map (Cell.row false))), (7, i64 l.length), (8, i64 j)], [(4000000, ⟨2, (l.take j).map (Cell.row true)⟩)]⟩) (fun _ _ => True) () rfl trivial ?_
 intro j _ hj _
 try simp only [go_sem, hE, hH, zUD]
 first | refine zAe (fun h => ?_) (fun h => ?_) | refine zAf (fun h => ?_) (fun h => ?_)
 ·have hb := h
  simp only [nf] at h
  have hlt := h; clear h
  have hy := hv _ (zAc hlt)
  have hn : (l.take j).length = j := by simp; omega
  have ht : (l.take j).take j = l.take j := by rw [List.take_take, Nat.min_self]
  try simp (disch := omega) only [go_sem, hE, hH, hn, hb]
  all_goals (have y1_ := hn; repeat' (first | ((with_reducible apply ga) <;> refine zBC fun h => ?_) | ((with_reducible apply an); · omega) | refine jn _ ?_ ?_ | (with_reducible first | apply both | apply an | exact ti) | exact zDu | refine zAu ?_ | exact zBE | refine zBD ?_))
  repeat' (first | (refine both ?_ ?_) | omega | ((first | apply zAj | apply zAC) <;> (simp only [go_sem, hE, hH, hn]; done)) | fail)
  all_goals try simp only [ht, hn]
  all_goals try first | omega | exact Nat.le_trans (Nat.mul_le_mul_right _ (show j + 1 ≤ 2 ^ 20 + 1 by omega)) (by decide)
  all_goals (
   refine ⟨(), ?_⟩
   rw [zAp hlt, List.map_append]
   rfl)
 ·try simp (disch := omega) only [go_sem, hE, hH, h]
  simp only [nf] at h
  rw [show j = l.length by omega, List.take_length]
  try refine st ?_; try exact ⟨⟩
theorem zRC (l : List Cell) (key : ByteArray) (hl : l.length ≤ maxLen) (hs : zAN zAg Cell.Key l) : ACall p_ 142 [.sl false 2 (l.map (Cell.row false)), str key] (fun r _ => r = i64 (if cF l key then (cI l key : Int) else -1)) := by
 have hmx := zAh
 refine fg H142 fun E hE hH => ?_; simp only [go_sem, hE, hH, zY4]
 refine zAK l.length (fun j (_ : Unit) => ⟨[(1, str key), (7, .sl false 2 (l.map (Cell.row false))), (8, i64 l.length), (9, i64 j)], []⟩) (fun j _ => zAD (fun i => !decide ((nth l i).Key = key)) j = true) () rfl ?_
 intro j _ hj hI
 try simp only [go_sem, hE, hH, zRe]
 first | refine zAe (fun h => ?_) (fun h => ?_) | refine zAf (fun h => ?_) (fun h => ?_)
 ·have hb := h
  simp only [nf] at h
  have hlt := h; clear h
  try refine sb ?_; try exact ⟨⟩
  repeat' (first | ((with_reducible apply ga) <;> refine gs fun h => ?_) | ((with_reducible apply an); · omega) | refine jn _ ?_ ?_ | (with_reducible first | apply both | apply an | exact ti) | exact fe | refine st ?_ | exact fm | refine s1 ?_)
  ·have e : cF l key = true := zB8.2 ⟨j, hlt, h⟩
   have e2 : cI l key = j := zJh zCg hs hlt h
   rw [e, e2]; rfl
  ·exact ⟨(), rfl, zAl hI (by simp [h])⟩
 ·try simp (disch := omega) only [go_sem, hE, hH, h]
  simp only [nf] at h
  rw [show j = l.length by omega, zBJ (p := fun c : Cell => !decide (c.Key = key))] at hI
  have e : cF l key = false := by
   rw [cF, fxF, List.any_eq_false]; intro x hx; simpa using List.all_eq_true.1 hI x hx
  rw [e]; rfl
theorem zJw (l : List Cell) (key : ByteArray) (hl : l.length ≤ maxLen) (hs : zAN zAg Cell.Key l) (h1 : ∀ c ∈ l, 1 ≤ c.Vers.length ∧ c.Vers.length ≤ 2 ^ 60) : ACall p_ 92 [.sl false 2 (l.map (Cell.row false)), str key] (fun r _ => r = i64 (zA8 l key)) := by
 have hmx := zAh
 have hc := zRC l key hl hs
 cases hf : cF l key with
 | false =>
  rw [hf] at hc
  simp only [Bool.false_eq_true, if_false] at hc
  refine fg H92 fun E hE hH => ?_; simp only [go_sem, hE, hH, C92]
  repeat' (first | ((with_reducible apply ga) <;> refine gs fun h => ?_) | ((with_reducible apply an); · omega) | ((first | refine zAa ?_ | refine cvA (hc) ?_); refine st ?_) | refine jn _ ?_ ?_ | (with_reducible first | apply both | apply an | exact ti) | exact fe | refine st ?_ | exact fm | refine s1 ?_)
  all_goals first | omega | (simp only [zA8, hf]; rfl)
 | true =>
  obtain ⟨k1, k2⟩ := zDC hs hf
  obtain ⟨o1, o2⟩ := h1 _ (zAc k1)
  have hi := zJ6 (l := l) (k := key)
  rw [hf, if_pos rfl] at hc
  have ez : ((nth l (cI l key)).Vers.length - 1 : Int).toNat = (nth l (cI l key)).Vers.length - 1 := by omega
  refine fg H92 fun E hE hH => ?_; simp only [go_sem, hE, hH, C92]
  all_goals (have y1_ := ez; repeat' (first | ((with_reducible apply ga) <;> refine zBC fun h => ?_) | ((with_reducible apply an); · omega) | ((first | refine zAa ?_ | refine cvA (hc) ?_); refine zAu ?_) | refine jn _ ?_ ?_ | (with_reducible first | apply both | apply an | exact ti) | exact zDu | refine zAu ?_ | exact zBE | refine zBD ?_))
  all_goals first | omega | (simp only [zA8, hf, zEy]; done) | (simp only [zA8, hf, zEy]; rfl)
theorem zEz {t : Int} {ws : List Write} {l x : List Cell} {j : Nat} (hj : j < ws.length) (h : zC0 t (ws.take j) (some l) = some x) : zC0 t (ws.take (j + 1)) (some l) = zCR t x (nth ws j) := by
 unfold zC0 at h ⊢
 rw [zAp hj, List.foldl_append, h]
 rfl
theorem zMa {t : Int} {ws : List Write} {l x : List Cell} {j : Nat} (hj : j < ws.length) (h : zC0 t (ws.take j) (some l) = some x) (h2 : zCR t x (nth ws j) = none) : zC0 t ws (some l) = none := by
 have h3 := zEz hj h
 rw [h2] at h3
 have e : ws = ws.take (j + 1) ++ ws.drop (j + 1) := (List.take_append_drop _ _).symm
 unfold zC0 at h3 ⊢
 rw [e, List.foldl_append, h3]
 exact zIg
def zWj : Option (List Cell) → T
 | none => .tup [zAy, bl false]
 | some c => .tup [.sl true 2 (c.map (Cell.row true)), bl true]
theorem zU2 {t : Int} {ws : List Write} {l x : List Cell} {j : Nat} (hj : j < ws.length) (h : zC0 t (ws.take j) (some l) = some x) (h2 : zCR t x (nth ws j) = none) : zHd t l ws = none := by
 unfold zHd
 rw [zMa hj h h2]; rfl
theorem zSN {α : Type} [Inhabited α] {l : List α} {i : Nat} {x y : α} (hi : i ≤ l.length) : (putAt l i x).set i y = putAt l i y := by
 unfold putAt
 have e : (l.take i).length = i := by rw [List.length_take]; omega
 rw [List.set_append_right _ _ (by omega), e, Nat.sub_self, List.set_cons_zero]
theorem zMb {α : Type} {l : List α} (h : 0 < l.length) : (l.all fun _ => false) = false := by
 cases l with
 | nil => simp at h
 | cons x t => rfl
theorem zWk {α : Type} [Inhabited α] {l : List α} {i : Nat} {x : α} (hi : i ≤ l.length) : nth (putAt l i x) i = x := by
 rw [zJi hi, if_neg (by omega), if_pos rfl]
theorem zQy (l : List Cell) (ws : List Write) (t : Int) (h0 : cellI 0 l) (hw : ∀ x ∈ ws, x.Key.size ≤ 100 ∧ x.Val.size ≤ 100) (hws : ws.length ≤ 1000) (ht : 1 ≤ t) : ACall p_ 202 [.sl false 2 (l.map (Cell.row false)), .sl false 3 (ws.map (Write.row false)), i64 t] (fun r _ => r = zWj (zHd t l ws)) := by
 have hmx := zAh
 have hlen0 := h0.len
 refine fg H202 fun E hE hH => ?_; simp only [go_sem, hE, hH, zZK]
 repeat' (first | ((with_reducible apply ga) <;> refine gs fun h => ?_) | ((with_reducible apply an); · omega) | ((first | refine zAa ?_ | refine cvA (zJv l (by omega) (fun c hc => by have := (h0.one c hc).2; omega)) ?_); refine st ?_) | refine jn _ ?_ ?_ | (with_reducible first | apply both | apply an | exact ti) | exact fe | refine st ?_ | exact fm | refine s1 ?_)
 refine zAK ws.length (fun j (x : List Cell) => ⟨[(2, i64 t), (8, .ref 9000000 0 x.length), (15, .sl false 3 (ws.map (Write.row false))), (16, i64 ws.length), (17, i64 j)], [(9000000, ⟨2, x.map (Cell.row true)⟩)]⟩) (fun j x => zC0 t (ws.take j) (some l) = some x ∧ cellI j x) l ⟨rfl, h0⟩ ?_
 rintro j x hj ⟨hP, hI⟩
 have hxl := hI.len
 have hone : ∀ c ∈ x, 1 ≤ c.Vers.length ∧ c.Vers.length ≤ 2 ^ 60 := fun c hc => by have := hI.one c hc; omega
 have cG := zJu x (hI.w (by omega)) (by omega)
 try simp only [go_sem, hE, hH, zRx]
 first | refine zAe (fun h => ?_) (fun h => ?_) | refine zAf (fun h => ?_) (fun h => ?_)
 ·have hb := h
  simp only [nf] at h
  have hlt := h; clear h
  obtain ⟨hk1, hk2⟩ := hw _ (zAc hlt)
  have cL := zHe x (nth ws j).Key (by omega) hI.srt hone
  have cF1 := zFm x (nth ws j).Key (by omega) hI.srt
  have hci := zJ6 (l := x) (k := (nth ws j).Key)
  cases hf : cF x (nth ws j).Key with
  | true =>
   rw [hf] at cF1
   simp only [zA8, hf, if_true] at cL
   obtain ⟨k1, k2⟩ := zDC hI.srt hf
   have hs := fun r => zEt (f := Cell.row true) (r := r) k1
   have hon := hI.one _ (zAc k1)
   try simp (disch := omega) only [go_sem, hE, hH, hs, hb]
   all_goals (have y1_ := hs; repeat' (first | ((with_reducible apply ga) <;> refine zBC fun h => ?_) | ((with_reducible apply an); · omega) | ((first | refine zAa ?_ | refine cvA (cL) ?_ | refine cvA (cF1) ?_); refine zAu ?_) | (with_reducible first | apply jn | apply both | apply an | exact ti) | exact zED | refine zAu ?_ | exact zBE | refine zBD ?_))
   ·rw [zU2 hlt hP (by rw [zCR, hf, if_pos rfl, if_pos h])]; exact zFA _
   ·have hV : zCR t x (nth ws j) = some (x.set (cI x (nth ws j).Key) ⟨(nth x (cI x (nth ws j).Key)).Key, (nth x (cI x (nth ws j).Key)).Vers ++ [⟨t, (nth ws j).Val, (nth ws j).Gone⟩]⟩) := by rw [zCR, hf, if_pos rfl, if_neg (by omega)]
    refine ⟨_, ?_, (zEz hlt hP).trans hV, zL8 hI hk1 hk2 hV⟩
    simp only [List.length_set, List.map_set, Cell.row_eq, List.map_append]
    rfl
  | false =>
   rw [hf] at cF1
   simp only [zA8, hf, Bool.false_eq_true, if_false] at cL
   have hs := fun r => zEt (f := Cell.row true) (r := r) (show cI x (nth ws j).Key < (putAt x (cI x (nth ws j).Key) (⟨(nth ws j).Key, []⟩ : Cell)).length by rw [zB3 hci]; omega)
   have hn := zB3 (x := (⟨(nth ws j).Key, []⟩ : Cell)) hci
   have ha := zWk (x := (⟨(nth ws j).Key, []⟩ : Cell)) hci
   try simp (disch := omega) only [go_sem, hE, hH, hs, hn, ha, hb]
   all_goals (have y1_ := hs; have y2_ := hn; have y3_ := ha; repeat' (first | ((with_reducible apply ga) <;> refine zFQ fun h => ?_) | ((with_reducible apply an); · omega) | (refine zAI [true, false, true] ?_; refine zBY ?_; refine cmA ((zMU x ⟨(nth ws j).Key, []⟩ (cI x (nth ws j).Key) (by omega) (by omega) (by omega)).slArg3 (rows := [[str (nth ws j).Key, zAy]]) ⟨⟨by simp [zAX], by simp [zAX], trivial⟩, trivial⟩) ?_; refine zBY ?_) | ((first | refine zAa ?_ | refine cvA (cL) ?_ | refine cvA (cF1) ?_); refine zBY ?_) | (with_reducible first | apply jn | apply both | apply an | exact ti) | exact zGF | refine zBY ?_ | exact zFS | refine zFR ?_))
   all_goals try omega
   have hV : zCR t x (nth ws j) = some (putAt x (cI x (nth ws j).Key) ⟨(nth ws j).Key, [⟨t, (nth ws j).Val, (nth ws j).Gone⟩]⟩) := by rw [zCR, hf]; rfl
   refine ⟨_, ?_, (zEz hlt hP).trans hV, zL8 hI hk1 hk2 hV⟩
   rw [← zSN (x := (⟨(nth ws j).Key, []⟩ : Cell)) (y := (⟨(nth ws j).Key, [⟨t, (nth ws j).Val, (nth ws j).Gone⟩]⟩ : Cell)) hci, List.length_set, hn, List.map_set]
   rfl
 ·try simp (disch := omega) only [go_sem, hE, hH, h]
  simp only [nf] at h
  rw [show j = ws.length by omega, List.take_length] at hP
  repeat' (first | ((with_reducible apply ga) <;> refine gs fun h => ?_) | ((with_reducible apply an); · omega) | ((first | refine zAa ?_ | refine cvA (cG) ?_); refine st ?_) | refine jn _ ?_ ?_ | (with_reducible first | apply both | apply an | exact ti) | exact fe | refine st ?_ | exact fm | refine s1 ?_)
  all_goals (simp only [zHd, hP, Option.bind_some, h, if_true, Bool.false_eq_true, if_false]; exact zFA _)
theorem zU3 {l : List Cell} {k : ByteArray} (hs : zAN zAg Cell.Key l) (h : cF l k = true) : dnI (fun y : Cell => zAg k y.Key) l l.length = cI l k + 1 := by
 obtain ⟨h1, h2⟩ := zDC hs h
 refine zFE (by omega) (fun i a b => ?_) (.inr ?_)
 ·have := hs _ _ (show cI l k < i by omega) b
  rwa [h2] at this
 ·simp only [Nat.add_sub_cancel, h2, zBM]
def zSO (o : Option (List Cell)) : T := match o with
 | none => .tup [zAy, bl false]
 | some c => .tup [.sl true 2 (c.map (Cell.row true)), bl (zA1 c)]
theorem zWl (l : List Cell) (ws : List Write) (t : Int) (h0 : cellI 0 l) (hw : ∀ x ∈ ws, x.Key.size ≤ 100 ∧ x.Val.size ≤ 100) (hws : ws.length ≤ 1000) (ht : 1 ≤ t) : ACall p_ 186 [.sl false 2 (l.map (Cell.row false)), .sl false 3 (ws.map (Write.row false)), i64 t] (fun r _ => r = zSO (zC0 t ws (some l))) := by
 have hmx := zAh
 have hlen0 := h0.len
 refine fg H186 fun E hE hH => ?_; simp only [go_sem, hE, hH, zZz]
 repeat' (first | ((with_reducible apply ga) <;> refine gs fun h => ?_) | ((with_reducible apply an); · omega) | ((first | refine zAa ?_ | refine cvA (zPP l (by omega) (fun c hc => by have := (h0.one c hc).2; omega)) ?_); refine st ?_) | refine jn _ ?_ ?_ | (with_reducible first | apply both | apply an | exact ti) | exact fe | refine st ?_ | exact fm | refine s1 ?_)
 refine zAK ws.length (fun j (x : List Cell) => ⟨[(2, i64 t), (8, .ref 9000000 0 x.length), (16, .sl false 3 (ws.map (Write.row false))), (17, i64 ws.length), (18, i64 j)], [(9000000, ⟨2, x.map (Cell.row true)⟩)]⟩) (fun j x => zC0 t (ws.take j) (some l) = some x ∧ cellI j x) l ⟨rfl, h0⟩ ?_
 rintro j x hj ⟨hP, hI⟩
 have hxl := hI.len
 have hone : ∀ c ∈ x, 1 ≤ c.Vers.length ∧ c.Vers.length ≤ 2 ^ 60 := fun c hc => by have := hI.one c hc; omega
 have cG := zNG x (hI.w (by omega))
 try simp only [go_sem, hE, hH, zRs]
 first | refine zAe (fun h => ?_) (fun h => ?_) | refine zAf (fun h => ?_) (fun h => ?_)
 ·have hb := h
  simp only [nf] at h
  have hlt := h; clear h
  obtain ⟨hk1, hk2⟩ := hw _ (zAc hlt)
  have cL := zJw x (nth ws j).Key (by omega) hI.srt hone
  have hci := zJ6 (l := x) (k := (nth ws j).Key)
  try refine sb ?_; try exact ⟨⟩
  repeat' (first | ((with_reducible apply ga) <;> refine gs fun h => ?_) | ((with_reducible apply an); · omega) | (with_reducible first | apply jn | apply both | apply an | exact ti) | exact fj | refine st ?_ | exact fm | refine s1 ?_)
  refine zGO (fun (k : Nat) => ⟨[(2, i64 t), (8, .ref 9000000 0 x.length), (10, .ptr 11000000 0 0), (11, .ptr 12000000 0 0), (12, i64 k), (16, .sl false 3 (ws.map (Write.row false))), (17, i64 ws.length), (18, i64 j)], [(9000000, ⟨2, x.map (Cell.row true)⟩), (11000000, ⟨3, [[str (nth ws j).Key, str (nth ws j).Val, bl (nth ws j).Gone]]⟩), (12000000, ⟨3, [[i64 t, str (nth ws j).Val, bl (nth ws j).Gone]]⟩)]⟩) (fun k => k ≤ x.length ∧ ∀ i, k ≤ i → i < x.length → zAg (nth ws j).Key (nth x i).Key = true) (fun k => k) x.length ⟨Nat.le_refl _, fun i a b => absurd b (by omega)⟩ ?_
  rintro k ⟨hk, hK⟩
  by_cases hgo : k ≠ 0 ∧ zAg (nth ws j).Key (nth x (k - 1)).Key = true
  ·obtain ⟨hk0, hq⟩ := hgo
   have hlast : k - 1 < x.length := by omega
   have e1 : ((k : Int) - 1).toNat = k - 1 := by omega
   have e2 : decide ((0 : Int) < (k : Int)) = true := decide_eq_true (by omega)
   try simp only [go_sem, hE, hH, e1, e2, hq, zEV]
   all_goals (have y1_ := e1; have y2_ := e2; have y3_ := hq; repeat' (first | ((with_reducible apply ga) <;> refine zFQ fun h => ?_) | ((with_reducible apply an); · omega) | (with_reducible first | apply jn | apply both | apply an | exact ti) | exact zGF | refine zBY ?_ | exact zFS | refine zFR ?_))
   all_goals first | omega | (refine ⟨k - 1, ?_, ⟨by omega, fun i a b => ?_⟩, by omega⟩)
   ·rw [show ((k - 1 : Nat) : Int) = (k : Int) - 1 by omega]
   ·by_cases e : i = k - 1
    ·rw [e]; exact hq
    ·exact hK i (by omega) b
  have hd : dnI (fun y : Cell => zAg (nth ws j).Key y.Key) x x.length = k := zFE hk hK (by
   by_cases e : k = 0
   ·exact .inl e
   ·right
    cases q : zAg (nth ws j).Key (nth x (k - 1)).Key with
    | false => rfl
    | true => exact absurd ⟨e, q⟩ hgo)
  cases hf : cF x (nth ws j).Key with
  | true =>
   have hc0 := zU3 hI.srt hf
   obtain ⟨k1, k2⟩ := zDC hI.srt hf
   have hck : k - 1 = cI x (nth ws j).Key := by omega
   have hk0 : k ≠ 0 := by omega
   have e1 : ((k : Int) - 1).toNat = cI x (nth ws j).Key := by omega
   have hq : zAg (nth ws j).Key (nth x (cI x (nth ws j).Key)).Key = false := by rw [k2, zBM]
   have hs := fun r => zEt (f := Cell.row true) (r := r) k1
   have hon := hI.one _ (zAc k1)
   simp only [zA8, hf, if_true] at cL
   have e2 : decide ((0 : Int) < (k : Int)) = true := decide_eq_true (by omega)
   try simp only [go_sem, hE, hH, e1, e2, hq, k2, hs, zEV]
   all_goals (have y1_ := e1; have y2_ := e2; have y3_ := hq; have y4_ := k2; have y5_ := hs; repeat' (first | ((with_reducible apply ga) <;> refine zJF fun h => ?_) | ((with_reducible apply an); · omega) | ((first | refine zAa ?_ | refine cvA (cL) ?_); refine zDv ?_) | (with_reducible first | apply jn | apply both | apply an | exact ti) | exact zJH | refine zDv ?_ | exact zJI | refine zJG ?_))
   all_goals try omega
   ·rw [zMa hlt hP (by rw [zCR, hf, if_pos rfl, if_pos (by omega)])]; exact zFA _
   ·have hV : zCR t x (nth ws j) = some (x.set (cI x (nth ws j).Key) ⟨(nth x (cI x (nth ws j).Key)).Key, (nth x (cI x (nth ws j).Key)).Vers ++ [⟨t, (nth ws j).Val, (nth ws j).Gone⟩]⟩) := by rw [zCR, hf, if_pos rfl, if_neg (by omega)]
    refine ⟨_, ?_, (zEz hlt hP).trans hV, zL8 hI hk1 hk2 hV⟩
    simp only [List.length_set, List.map_set, Cell.row_eq, List.map_append, k2]
    rfl
  | false =>
   have hc0 : k = cI x (nth ws j).Key := by
    rw [← hd]; exact zLZ (f := Cell.Key) (x := (⟨(nth ws j).Key, []⟩ : Cell)) zCg hI.srt hf
   have hV : zCR t x (nth ws j) = some (putAt x k ⟨(nth ws j).Key, [⟨t, (nth ws j).Val, (nth ws j).Gone⟩]⟩) := by rw [zCR, hf, hc0]; rfl
   have hVI := zL8 hI hk1 hk2 hV
   have hVs := (zEz hlt hP).trans hV
   have d1 : (x.drop k).take (x.length - k) = x.drop k := List.take_of_length_le (by simp)
   have r1 : ∀ q, (zAm (x.map (Cell.row true)) k (List.replicate (x.length - k) q)).take k = (x.take k).map (Cell.row true) := fun q => by
    rw [zAm, List.append_assoc, List.take_append_of_le_length (by simp; omega), List.take_take, Nat.min_self, List.map_take]
   have r2 : ∀ q, (zAm (x.map (Cell.row true)) k (List.replicate (x.length - k) q)).length = x.length := fun q => by
    rw [zBb (by simp; omega), List.length_map]
   have e3 : k + (x.length - k) = x.length := by omega
   have hdx : (x.drop k).length = x.length - k := by simp
   have lt1 : (x.take k).length = k := by rw [List.length_take]; omega
   have e1 : ((k : Int) - 1).toNat = k - 1 := by omega
   have lt2 : (x.take k).take k = x.take k := by rw [List.take_take, Nat.min_self]
   have lt3 : ∀ q, ((x.take k).map (Cell.row true) ++ [q]).take (k + 1) = (x.take k).map (Cell.row true) ++ [q] := fun q => List.take_of_length_le (by simp; omega)
   have ea : ((x.take k).map (Cell.row true)).length = k := by rw [List.length_map, lt1]
   have g1 : ∀ q, ((x.take k).map (Cell.row true) ++ [q]).getD k [] = q := fun q => by rw [List.getD_eq_getElem?_getD, List.getElem?_append_right (by omega), ea, Nat.sub_self]; rfl
   have g2 : ∀ q q', ((x.take k).map (Cell.row true) ++ [q]).set k q' = (x.take k).map (Cell.row true) ++ [q'] := fun q q' => by rw [List.set_append_right _ _ (by omega), ea, Nat.sub_self]; rfl
   have g3 : ∀ q, ((x.take k).map (Cell.row true) ++ [q] ++ (x.drop k).map (Cell.row true)).getD k [] = q := fun q => by rw [List.append_assoc, List.getD_eq_getElem?_getD, List.getElem?_append_right (by omega), ea, Nat.sub_self]; rfl
   have g4 : ∀ q q', ((x.take k).map (Cell.row true) ++ [q] ++ (x.drop k).map (Cell.row true)).set k q' = (x.take k).map (Cell.row true) ++ [q'] ++ (x.drop k).map (Cell.row true) := fun q q' => by rw [List.append_assoc, List.set_append_right _ _ (by omega), ea, Nat.sub_self, List.append_assoc]; rfl
   by_cases hk0 : k = 0
   ·subst hk0
    have fB : x.take 0 = [] := rfl
    have fC : decide ((0 : Int) < ((0 : Nat) : Int)) = false := rfl
    have fD : decide ((0 : Int) < (0 : Int)) = false := rfl
    have fE := fC
    have fF := fC
    by_cases hkn : 0 = x.length
    ·have fA : x = [] := List.length_eq_zero_iff.1 hkn.symm
     have fA2 := fA
     try simp only [go_sem, hE, hH, fA, fA2, fB, fC, fD, fE, fF, d1, r1, r2, e1, e3, hdx, lt1, lt2, lt3, g1, g2, g3, g4, zEV]
     all_goals (have y1_ := fA; have y2_ := fA2; have y3_ := fB; have y4_ := fC; have y5_ := fD; have y6_ := fE; have y7_ := fF; have y8_ := d1; have y9_ := r1; have y10_ := r2; have y11_ := e1; have y12_ := e3; have y13_ := hdx; have y14_ := lt1; have y15_ := lt2; have y16_ := lt3; have y17_ := g1; have y18_ := g2; have y19_ := g3; have y20_ := g4; repeat' (first | ((with_reducible apply ga) <;> refine zTm fun h => ?_) | ((with_reducible apply an); · omega) | (with_reducible first | apply jn | apply both | apply an | exact ti) | exact zTo | refine zTl ?_ | exact zTp | refine zTn ?_))
     all_goals try omega
     refine ⟨_, ?_, hVs, hVI⟩
     rw [zB3 hk]
     simp only [putAt, List.map_append, List.map_cons, fA, fB, List.map_nil, List.nil_append, List.append_nil, List.append_assoc, List.cons_append, List.take_zero, List.drop_zero, List.length_nil, Cell.row_eq]
     first | rfl | (rw [show k + 1 + (x.length - k) = x.length + 1 by omega]; rfl) | (rw [show k + 1 = x.length + 1 by omega]; rfl) | (rw [Nat.add_comm 1 x.length]; rfl)
    ·have fA : ((x.drop 0).all fun _ => false) = false := zMb (by simp; omega)
     have fA2 : (x.all fun _ => false) = false := zMb (by omega)
     try simp only [go_sem, hE, hH, fA, fA2, fB, fC, fD, fE, fF, d1, r1, r2, e1, e3, hdx, lt1, lt2, lt3, g1, g2, g3, g4, zEV]
     all_goals (have y1_ := fA; have y2_ := fA2; have y3_ := fB; have y4_ := fC; have y5_ := fD; have y6_ := fE; have y7_ := fF; have y8_ := d1; have y9_ := r1; have y10_ := r2; have y11_ := e1; have y12_ := e3; have y13_ := hdx; have y14_ := lt1; have y15_ := lt2; have y16_ := lt3; have y17_ := g1; have y18_ := g2; have y19_ := g3; have y20_ := g4; repeat' (first | ((with_reducible apply ga) <;> refine zTm fun h => ?_) | ((with_reducible apply an); · omega) | (with_reducible first | apply jn | apply both | apply an | exact ti) | exact zTo | refine zTl ?_ | exact zTp | refine zTn ?_))
     all_goals try omega
     refine ⟨_, ?_, hVs, hVI⟩
     rw [zB3 hk]
     simp only [putAt, List.map_append, List.map_cons, fA, fB, List.map_nil, List.nil_append, List.append_nil, List.append_assoc, List.cons_append, List.take_zero, List.drop_zero, List.length_nil, Cell.row_eq]
     first | rfl | (rw [show k + 1 + (x.length - k) = x.length + 1 by omega]; rfl) | (rw [show k + 1 = x.length + 1 by omega]; rfl) | (rw [Nat.add_comm 1 x.length]; rfl)
   ·have fB : ((x.take k).all fun _ => false) = false := zMb (by simp; omega)
    have fC : decide ((0 : Int) < (k : Int)) = true := decide_eq_true (by omega)
    have fD : zAg (nth ws j).Key (nth x (k - 1)).Key = false := by
     cases q : zAg (nth ws j).Key (nth x (k - 1)).Key with
     | false => rfl
     | true => exact absurd ⟨hk0, q⟩ hgo
    have fE : decide ((nth x (k - 1)).Key = (nth ws j).Key) = false := decide_eq_false fun e => by
     have : cF x (nth ws j).Key = true := zB8.2 ⟨k - 1, by omega, e⟩
     rw [hf] at this; cases this
    have fF : zAg (nth x (k - 1)).Key (nth ws j).Key = true := by
     rcases zBZ (nth x (k - 1)).Key (nth ws j).Key with q | q | q
     ·exact q
     ·exact absurd q (of_decide_eq_false fE)
     ·rw [fD] at q; cases q
    by_cases hkn : k = x.length
    ·have fA : x.drop k = [] := List.drop_of_length_le (by omega)
     have fA2 := fA
     try simp only [go_sem, hE, hH, fA, fA2, fB, fC, fD, fE, fF, d1, r1, r2, e1, e3, hdx, lt1, lt2, lt3, g1, g2, g3, g4, zEV]
     all_goals (have y1_ := fA; have y2_ := fA2; have y3_ := fB; have y4_ := fC; have y5_ := fD; have y6_ := fE; have y7_ := fF; have y8_ := d1; have y9_ := r1; have y10_ := r2; have y11_ := e1; have y12_ := e3; have y13_ := hdx; have y14_ := lt1; have y15_ := lt2; have y16_ := lt3; have y17_ := g1; have y18_ := g2; have y19_ := g3; have y20_ := g4; repeat' (first | ((with_reducible apply ga) <;> refine zTm fun h => ?_) | ((with_reducible apply an); · omega) | (with_reducible first | apply jn | apply both | apply an | exact ti) | exact zTo | refine zTl ?_ | exact zTp | refine zTn ?_))
     all_goals try omega
     refine ⟨_, ?_, hVs, hVI⟩
     rw [zB3 hk]
     simp only [putAt, List.map_append, List.map_cons, fA, fB, List.map_nil, List.nil_append, List.append_nil, List.append_assoc, List.cons_append, List.take_zero, List.drop_zero, List.length_nil, Cell.row_eq]
     first | rfl | (rw [show k + 1 + (x.length - k) = x.length + 1 by omega]; rfl) | (rw [show k + 1 = x.length + 1 by omega]; rfl) | (rw [Nat.add_comm 1 x.length]; rfl)
    ·have fA : ((x.drop k).all fun _ => false) = false := zMb (by simp; omega)
     have fA2 := fA
     try simp only [go_sem, hE, hH, fA, fA2, fB, fC, fD, fE, fF, d1, r1, r2, e1, e3, hdx, lt1, lt2, lt3, g1, g2, g3, g4, zEV]
     all_goals (have y1_ := fA; have y2_ := fA2; have y3_ := fB; have y4_ := fC; have y5_ := fD; have y6_ := fE; have y7_ := fF; have y8_ := d1; have y9_ := r1; have y10_ := r2; have y11_ := e1; have y12_ := e3; have y13_ := hdx; have y14_ := lt1; have y15_ := lt2; have y16_ := lt3; have y17_ := g1; have y18_ := g2; have y19_ := g3; have y20_ := g4; repeat' (first | ((with_reducible apply ga) <;> refine zTm fun h => ?_) | ((with_reducible apply an); · omega) | (with_reducible first | apply jn | apply both | apply an | exact ti) | exact zTo | refine zTl ?_ | exact zTp | refine zTn ?_))
     all_goals try omega
     refine ⟨_, ?_, hVs, hVI⟩
     rw [zB3 hk]
     simp only [putAt, List.map_append, List.map_cons, fA, fB, List.map_nil, List.nil_append, List.append_nil, List.append_assoc, List.cons_append, List.take_zero, List.drop_zero, List.length_nil, Cell.row_eq]
     first | rfl | (rw [show k + 1 + (x.length - k) = x.length + 1 by omega]; rfl) | (rw [show k + 1 = x.length + 1 by omega]; rfl) | (rw [Nat.add_comm 1 x.length]; rfl)
 ·try simp (disch := omega) only [go_sem, hE, hH, h]
  simp only [nf] at h
  rw [show j = ws.length by omega, List.take_length] at hP
  repeat' (first | ((with_reducible apply ga) <;> refine gs fun h => ?_) | ((with_reducible apply an); · omega) | ((first | refine zAa ?_ | refine cvA (cG) ?_); refine st ?_) | refine jn _ ?_ ?_ | (with_reducible first | apply both | apply an | exact ti) | exact fe | refine st ?_ | exact fm | refine s1 ?_)
  all_goals (rw [hP]; exact zFA _)
theorem zKw (h : Held) : ACall p_ 156 [.agg (Held.row false h)] (fun r _ => r = .agg (Rec.row false (zDd h))) := by
 refine fg H156 fun E hE hH => ?_; simp only [go_sem, hE, hH, zOk]
 repeat' (first | ((with_reducible apply ga) <;> refine gs fun h => ?_) | ((with_reducible apply an); · omega) | refine jn _ ?_ ?_ | (with_reducible first | apply both | apply an | exact ti) | exact fe | refine st ?_ | exact fm | refine s1 ?_)
 all_goals rfl
theorem zN4 (h : Held) : ACall p_ 139 [.agg (Held.row false h)] (fun r _ => r = .agg (Rec.row false (zDd h))) := by
 refine fg H139 fun E hE hH => ?_; simp only [go_sem, hE, hH, zOk]
 repeat' (first | ((with_reducible apply ga) <;> refine gs fun h => ?_) | ((with_reducible apply an); · omega) | refine jn _ ?_ ?_ | (with_reducible first | apply both | apply an | exact ti) | exact fe | refine st ?_ | exact fm | refine s1 ?_)
 all_goals rfl
theorem zNH (r : Rec) (h1 : r.Reads.length ≤ 2 ^ 20) (h2 : r.Writes.length ≤ 2 ^ 20) : ACall p_ 166 [.agg (Rec.row false r)] (fun x _ => x = .agg (Held.row true (hOf r))) := by
 refine fg H166 fun E hE hH => ?_; simp only [go_sem, hE, hH, zZh]
 repeat' (first | ((with_reducible apply ga) <;> refine gs fun h => ?_) | ((with_reducible apply an); · omega) | ((first | refine zAa ?_ | refine cvA (zDf _ h1) ?_ | refine cvA (zHC _ h2) ?_); refine st ?_) | refine jn _ ?_ ?_ | (with_reducible first | apply both | apply an | exact ti) | exact fe | refine st ?_ | exact fm | refine s1 ?_)
 all_goals rfl
theorem zKx (h : Held) (h1 : h.Reads.length ≤ 2 ^ 20) (h2 : h.Writes.length ≤ 2 ^ 20) : ACall p_ 120 [.agg (Held.row false h)] (fun x _ => x = .agg (Held.row true h)) := by
 refine fg H120 fun E hE hH => ?_; simp only [go_sem, hE, hH, zYQ]
 repeat' (first | ((with_reducible apply ga) <;> refine gs fun h => ?_) | ((with_reducible apply an); · omega) | ((first | refine zAa ?_ | refine cvA (zKw h) ?_ | refine cvA (zNH (zDd h) h1 h2) ?_); refine st ?_) | refine jn _ ?_ ?_ | (with_reducible first | apply both | apply an | exact ti) | exact fe | refine st ?_ | exact fm | refine s1 ?_)
 all_goals rfl
theorem zDp (l : List ByteArray) (hl : l.length ≤ 2 ^ 20) : ACall p_ 47 [.sl false 1 (strs l)] (fun r _ => r = .sl true 1 (strs l)) := by
 refine fg H47 fun E hE hH => ?_; simp only [go_sem, hE, hH, C47]
 repeat' (first | ((with_reducible apply ga) <;> refine gs fun h => ?_) | ((with_reducible apply an); · omega) | refine jn _ ?_ ?_ | (with_reducible first | apply both | apply an | exact ti) | exact fe | refine st ?_ | exact fm | refine s1 ?_)
 all_goals omega
theorem zIw (h : Held) (h1 : h.Reads.length ≤ 2 ^ 20) (h2 : h.Writes.length ≤ 2 ^ 20) : ACall p_ 97 [.agg (Held.row false h)] (fun x _ => x = .agg (Held.row true h)) := by
 refine fg H97 fun E hE hH => ?_; simp only [go_sem, hE, hH, C97]
 repeat' (first | ((with_reducible apply ga) <;> refine gs fun h => ?_) | ((with_reducible apply an); · omega) | ((first | refine zAa ?_ | refine cvA (zDp _ h1) ?_); refine st ?_) | refine jn _ ?_ ?_ | (with_reducible first | apply both | apply an | exact ti) | exact fe | refine st ?_ | exact fm | refine s1 ?_)
 all_goals first | omega | rfl
structure stB (s : State) : Prop where
 cl : s.Cells.length ≤ 2 ^ 20
 cv : ∀ c ∈ s.Cells, c.Vers.length ≤ 2 ^ 20
 hl : s.Held.length ≤ 2 ^ 20
 hx : ∀ h ∈ s.Held, h.Reads.length ≤ 2 ^ 20 ∧ h.Writes.length ≤ 2 ^ 20
 tl : s.Told.length ≤ 2 ^ 20
theorem stI.b {n : Nat} {s : State} (h : stI n s) (hn : n ≤ 2 ^ 20) : stB s := by
 have hc := zBy h.cells
 refine ⟨by have := hc.len; omega, fun c q => by have := (hc.one c q).2; omega, by have := h.hlen; omega, fun x q => ?_, by have := h.tlen; omega⟩
 have := zAV (h.hok x q)
 omega
def cpS (a : Nat) (s : State) : Nat → St
 | 0 => ⟨[(2, .ptr 3000000 0 0), (3, .ptr 4000000 0 0), (a, .sl false 5 (s.Held.map (Held.row false))), (a + 1, i64 s.Held.length), (a + 2, i64 0)], [(3000000, ⟨4, [[i64 0, zAy, zAy, zAy]]⟩), (4000000, ⟨4, [[i64 s.Floor, .ref 4000002 0 s.Cells.length, zAy, .ref 4000004 0 s.Told.length]]⟩), (4000002, ⟨2, s.Cells.map (Cell.row true)⟩), (4000004, ⟨3, s.Told.map (Told.row true)⟩)]⟩
 | j + 1 => ⟨[(2, .ptr 3000000 0 0), (3, .ptr 4000000 0 0), (a, .sl false 5 (s.Held.map (Held.row false))), (a + 1, i64 s.Held.length), (a + 2, i64 (j + 1 : Nat))], [(3000000, ⟨4, [[i64 0, zAy, zAy, zAy]]⟩), (4000000, ⟨4, [[i64 s.Floor, .ref 4000002 0 s.Cells.length, .ref 4000003 0 (j + 1), .ref 4000004 0 s.Told.length]]⟩), (4000002, ⟨2, s.Cells.map (Cell.row true)⟩), (4000003, ⟨5, (s.Held.take (j + 1)).map (Held.row true)⟩), (4000004, ⟨3, s.Told.map (Told.row true)⟩)]⟩
theorem zBA (s : State) (hs : stB s) : ACall p_ 63 [.agg (State.row false s)] (fun x _ => x = .agg (State.row true s)) := by
 have hmx := zAh
 obtain ⟨h1, h2, h3, h4, h5⟩ := hs
 refine fg H63 fun E hE hH => ?_; simp only [go_sem, hE, hH, C63]
 repeat' (first | ((with_reducible apply ga) <;> refine gs fun h => ?_) | ((with_reducible apply an); · omega) | ((first | refine zAa ?_ | refine cvA (zJv _ h1 h2) ?_ | refine cvA (zN1 _ h5) ?_); refine st ?_) | (with_reducible first | apply jn | apply both | apply an | exact ti) | exact fj | refine st ?_ | exact fm | refine s1 ?_)
 refine zAG s.Held.length (fun j (_ : Unit) => cpS 16 s j) (fun _ _ => True) () rfl trivial ?_
 intro j _ hj _
 cases j with
 | zero =>
  try simp only [go_sem, hE, hH, zPt, cpS]
  first | refine zAe (fun h => ?_) (fun h => ?_) | refine zAf (fun h => ?_) (fun h => ?_)
  ·have hb := h
   simp only [nf] at h
   have hlt : 0 < s.Held.length := by omega
   obtain ⟨q1, q2⟩ := h4 _ (zAc hlt)
   have ht : s.Held.take 1 = [nth s.Held 0] := by rw [zAp hlt]; rfl
   try refine sb ?_; try exact ⟨⟩
   repeat' (first | ((with_reducible apply ga) <;> refine gs fun h => ?_) | ((with_reducible apply an); · omega) | ((first | refine zAa ?_ | refine cvA (zKx _ q1 q2) ?_); refine st ?_) | refine jn _ ?_ ?_ | (with_reducible first | apply both | apply an | exact ti) | exact fe | refine st ?_ | exact fm | refine s1 ?_)
   repeat' (first | (refine both ?_ ?_) | omega | ((first | apply zAj | apply zAC) <;> (simp only [go_sem, hE, hH]; done)) | fail)
   refine ⟨(), ?_⟩
   rw [ht]
   rfl
  ·try simp (disch := omega) only [go_sem, hE, hH, h]
   simp only [nf] at h
   have e : s.Held = [] := List.length_eq_zero_iff.1 (by omega)
   rw [e]; rfl
 | succ j =>
  try simp only [go_sem, hE, hH, zPt, cpS]
  first | refine zAe (fun h => ?_) (fun h => ?_) | refine zAf (fun h => ?_) (fun h => ?_)
  ·have hb := h
   simp only [nf] at h
   have hlt : j + 1 < s.Held.length := by omega
   obtain ⟨q1, q2⟩ := h4 _ (zAc hlt)
   have hn : (s.Held.take (j + 1)).length = j + 1 := by simp; omega
   have ht : (s.Held.take (j + 1)).take (j + 1) = s.Held.take (j + 1) := by rw [List.take_take, Nat.min_self]
   try simp (disch := omega) only [go_sem, hE, hH, hn, hb]
   all_goals (have y1_ := hn; repeat' (first | ((with_reducible apply ga) <;> refine zBC fun h => ?_) | ((with_reducible apply an); · omega) | ((first | refine zAa ?_ | refine cvA (zKx _ q1 q2) ?_); refine zAu ?_) | refine jn _ ?_ ?_ | (with_reducible first | apply both | apply an | exact ti) | exact zDu | refine zAu ?_ | exact zBE | refine zBD ?_))
   repeat' (first | (refine both ?_ ?_) | omega | ((first | apply zAj | apply zAC) <;> (simp only [go_sem, hE, hH, hn]; done)) | fail)
   all_goals try simp only [ht, hn]
   all_goals try first | omega | exact Nat.le_trans (Nat.mul_le_mul_right _ (show j + 1 + 1 ≤ 2 ^ 20 + 1 by omega)) (by decide)
   all_goals (
    refine ⟨(), ?_⟩
    rw [zAp hlt, List.map_append]
    rfl)
  ·try simp (disch := omega) only [go_sem, hE, hH, h]
   simp only [nf] at h
   rw [show j + 1 = s.Held.length by omega, List.take_length]
   exact ⟨rfl, rfl⟩
theorem zJx (s : State) (hs : stB s) : ACall p_ 49 [.agg (State.row false s)] (fun x _ => x = .agg (State.row true s)) := by
 have hmx := zAh
 obtain ⟨h1, h2, h3, h4, h5⟩ := hs
 refine fg H49 fun E hE hH => ?_; simp only [go_sem, hE, hH, C49]
 repeat' (first | ((with_reducible apply ga) <;> refine gs fun h => ?_) | ((with_reducible apply an); · omega) | ((first | refine zAa ?_ | refine cvA (zPP _ h1 h2) ?_); refine st ?_) | (with_reducible first | apply jn | apply both | apply an | exact ti) | exact fj | refine st ?_ | exact fm | refine s1 ?_)
 all_goals try omega
 refine zAG s.Held.length (fun j (_ : Unit) => cpS 17 s j) (fun _ _ => True) () rfl trivial ?_
 intro j _ hj _
 cases j with
 | zero =>
  try simp only [go_sem, hE, hH, zPs, cpS]
  first | refine zAe (fun h => ?_) (fun h => ?_) | refine zAf (fun h => ?_) (fun h => ?_)
  ·have hb := h
   simp only [nf] at h
   have hlt : 0 < s.Held.length := by omega
   obtain ⟨q1, q2⟩ := h4 _ (zAc hlt)
   have ht : s.Held.take 1 = [nth s.Held 0] := by rw [zAp hlt]; rfl
   try refine sb ?_; try exact ⟨⟩
   repeat' (first | ((with_reducible apply ga) <;> refine gs fun h => ?_) | ((with_reducible apply an); · omega) | ((first | refine zAa ?_ | refine cvA (zIw _ q1 q2) ?_); refine st ?_) | refine jn _ ?_ ?_ | (with_reducible first | apply both | apply an | exact ti) | exact fe | refine st ?_ | exact fm | refine s1 ?_)
   repeat' (first | (refine both ?_ ?_) | omega | ((first | apply zAj | apply zAC) <;> (simp only [go_sem, hE, hH]; done)) | fail)
   refine ⟨(), ?_⟩
   rw [ht]
   rfl
  ·try simp (disch := omega) only [go_sem, hE, hH, h]
   simp only [nf] at h
   have e : s.Held = [] := List.length_eq_zero_iff.1 (by omega)
   rw [e]; rfl
 | succ j =>
  try simp only [go_sem, hE, hH, zPs, cpS]
  first | refine zAe (fun h => ?_) (fun h => ?_) | refine zAf (fun h => ?_) (fun h => ?_)
  ·have hb := h
   simp only [nf] at h
   have hlt : j + 1 < s.Held.length := by omega
   obtain ⟨q1, q2⟩ := h4 _ (zAc hlt)
   have hn : (s.Held.take (j + 1)).length = j + 1 := by simp; omega
   have ht : (s.Held.take (j + 1)).take (j + 1) = s.Held.take (j + 1) := by rw [List.take_take, Nat.min_self]
   try simp (disch := omega) only [go_sem, hE, hH, hn, hb]
   all_goals (have y1_ := hn; repeat' (first | ((with_reducible apply ga) <;> refine zBC fun h => ?_) | ((with_reducible apply an); · omega) | ((first | refine zAa ?_ | refine cvA (zIw _ q1 q2) ?_); refine zAu ?_) | refine jn _ ?_ ?_ | (with_reducible first | apply both | apply an | exact ti) | exact zDu | refine zAu ?_ | exact zBE | refine zBD ?_))
   repeat' (first | (refine both ?_ ?_) | omega | ((first | apply zAj | apply zAC) <;> (simp only [go_sem, hE, hH, hn]; done)) | fail)
   all_goals try simp only [ht, hn]
   all_goals try first | omega | exact Nat.le_trans (Nat.mul_le_mul_right _ (show j + 1 + 1 ≤ 2 ^ 20 + 1 by omega)) (by decide)
   all_goals (
    refine ⟨(), ?_⟩
    rw [zAp hlt, List.map_append]
    rfl)
  ·try simp (disch := omega) only [go_sem, hE, hH, h]
   simp only [nf] at h
   rw [show j + 1 = s.Held.length by omega, List.take_length]
   exact ⟨rfl, rfl⟩
open Go.Proofs.Wb renaming H71 → z0_, zJf → z1_, zHF → z2_ in
theorem zN5 (h : Held) (t : Int) : ACall p_ 71 ([.agg (Held.row false h), i64 t] ++ []) (fun r _ => r = i64 (zIe h.Txn t)) := zQb
open Go.Proofs.Wb renaming H67 → z0_, zJf → z1_, zHF → z2_ in
theorem zN6 (h : Told) (t : Int) : ACall p_ 67 ([.agg (Told.row false h), i64 t] ++ []) (fun r _ => r = i64 (zIe h.Txn t)) := zQb
theorem zFn (s : State) (t : Int) (hl : s.Held.length ≤ 2 ^ 60) (hs : zAN ltI Held.Txn s.Held) : ACall p_ 30 [.agg (State.row false s), i64 t] (fun r _ => r = .tup [i64 (hI s.Held t), bl (hF s.Held t)]) := by
 obtain ⟨e1, e2⟩ := zSF zBK hs t
 refine fg H30 fun E hE hH => ?_; simp only [go_sem, hE, hH, C30]
 repeat' (first | ((with_reducible apply ga) <;> refine gs fun h => ?_) | ((with_reducible apply an); · omega) | ((first | refine zAa ?_ | refine cvA (zGy s.Held t _ [] (fun c => zIe c.Txn t) (by kernel_rfl) rfl hl (zMS zBK hs) (fun c _ => zN5 c t)) ?_); refine st ?_) | refine jn _ ?_ ?_ | (with_reducible first | apply both | apply an | exact ti) | exact fe | refine st ?_ | exact fm | refine s1 ?_)
 all_goals simp only [e1, e2]
 all_goals rfl
theorem zDV (s : State) (t : Int) (hl : s.Told.length ≤ 2 ^ 60) (hs : zAN ltI Told.Txn s.Told) : ACall p_ 27 [.agg (State.row false s), i64 t] (fun r _ => r = .tup [i64 (tI s.Told t), bl (tF s.Told t)]) := by
 obtain ⟨e1, e2⟩ := zSF zBK hs t
 refine fg H27 fun E hE hH => ?_; simp only [go_sem, hE, hH, C27]
 repeat' (first | ((with_reducible apply ga) <;> refine gs fun h => ?_) | ((with_reducible apply an); · omega) | ((first | refine zAa ?_ | refine cvA (zGz s.Told t _ [] (fun c => zIe c.Txn t) (by kernel_rfl) rfl hl (zMS zBK hs) (fun c _ => zN6 c t)) ?_); refine st ?_) | refine jn _ ?_ ?_ | (with_reducible first | apply both | apply an | exact ti) | exact fe | refine st ?_ | exact fm | refine s1 ?_)
 all_goals simp only [e1, e2]
 all_goals rfl
def zMY (l : List Held) (t : Int) : Held := if hF l t then nth l (hI l t) else ⟨0, 0, 0, [], []⟩
theorem zGB (s : State) (t : Int) (hl : s.Held.length ≤ maxLen) (hs : zAN ltI Held.Txn s.Held) : ACall p_ 17 [.agg (State.row false s), i64 t] (fun r _ => r = .tup [.agg (Held.row false (zMY s.Held t)), bl (hF s.Held t)]) := by
 have hmx := zAh
 refine fg H17 fun E hE hH => ?_; simp only [go_sem, hE, hH, C17]
 refine zAK s.Held.length (fun j (_ : Unit) => ⟨[(1, i64 t), (4, .ptr 5000000 0 0), (9, .sl false 5 (s.Held.map (Held.row false))), (10, i64 s.Held.length), (11, i64 j)], [(5000000, ⟨5, [[i64 0, i64 0, i64 0, zAy, zAy]]⟩)]⟩) (fun j _ => zAD (fun i => !decide ((nth s.Held i).Txn = t)) j = true) () rfl ?_
 intro j _ hj hIn
 try simp only [go_sem, hE, hH, zT1]
 first | refine zAe (fun h => ?_) (fun h => ?_) | refine zAf (fun h => ?_) (fun h => ?_)
 ·have hb := h
  simp only [nf] at h
  have hlt := h; clear h
  try refine sb ?_; try exact ⟨⟩
  repeat' (first | ((with_reducible apply ga) <;> refine gs fun h => ?_) | ((with_reducible apply an); · omega) | refine jn _ ?_ ?_ | (with_reducible first | apply both | apply an | exact ti) | exact fe | refine st ?_ | exact fm | refine s1 ?_)
  all_goals try (exact ⟨(), rfl, zAl hIn (by simp [h])⟩)
  all_goals (
   have e : hF s.Held t = true := zB8.2 ⟨j, hlt, h⟩
   have e2 : zMY s.Held t = nth s.Held j := by rw [zMY, e, if_pos rfl, show hI s.Held t = j from zJh zBK hs hlt h]
   first | rfl | (rw [e2]; done) | (rw [e2]; rfl) | (rw [e]; done))
 ·try simp (disch := omega) only [go_sem, hE, hH, h]
  simp only [nf] at h
  rw [show j = s.Held.length by omega, zBJ (p := fun c : Held => !decide (c.Txn = t))] at hIn
  have e : hF s.Held t = false := by
   rw [hF, fxF, List.any_eq_false]; intro x hx; simpa using List.all_eq_true.1 hIn x hx
  simp [zMY, e, strs]
def zB4 (l : List Told) (t : Int) : Told := if tF l t then nth l (tI l t) else ⟨0, false, 0⟩
theorem zEA (s : State) (t : Int) (hl : s.Told.length ≤ maxLen) (hs : zAN ltI Told.Txn s.Told) : ACall p_ 18 [.agg (State.row false s), i64 t] (fun r _ => r = .tup [.agg (Told.row false (zB4 s.Told t)), bl (tF s.Told t)]) := by
 have hmx := zAh
 refine fg H18 fun E hE hH => ?_; simp only [go_sem, hE, hH, C18]
 refine zAK s.Told.length (fun j (_ : Unit) => ⟨[(1, i64 t), (4, .ptr 5000000 0 0), (9, .sl false 3 (s.Told.map (Told.row false))), (10, i64 s.Told.length), (11, i64 j)], [(5000000, ⟨3, [[i64 0, bl false, i64 0]]⟩)]⟩) (fun j _ => zAD (fun i => !decide ((nth s.Told i).Txn = t)) j = true) () rfl ?_
 intro j _ hj hIn
 try simp only [go_sem, hE, hH, zT2]
 first | refine zAe (fun h => ?_) (fun h => ?_) | refine zAf (fun h => ?_) (fun h => ?_)
 ·have hb := h
  simp only [nf] at h
  have hlt := h; clear h
  try refine sb ?_; try exact ⟨⟩
  repeat' (first | ((with_reducible apply ga) <;> refine gs fun h => ?_) | ((with_reducible apply an); · omega) | refine jn _ ?_ ?_ | (with_reducible first | apply both | apply an | exact ti) | exact fe | refine st ?_ | exact fm | refine s1 ?_)
  all_goals try (exact ⟨(), rfl, zAl hIn (by simp [h])⟩)
  all_goals (
   have e : tF s.Told t = true := zB8.2 ⟨j, hlt, h⟩
   have e2 : zB4 s.Told t = nth s.Told j := by rw [zB4, e, if_pos rfl, show tI s.Told t = j from zJh zBK hs hlt h]
   first | rfl | (rw [e2]; done) | (rw [e2]; rfl) | (rw [e]; done))
 ·try simp (disch := omega) only [go_sem, hE, hH, h]
  simp only [nf] at h
  rw [show j = s.Told.length by omega, zBJ (p := fun c : Told => !decide (c.Txn = t))] at hIn
  have e : tF s.Told t = false := by
   rw [tF, fxF, List.any_eq_false]; intro x hx; simpa using List.all_eq_true.1 hIn x hx
  simp [zB4, e]
theorem zPQ (a b : Held) (h1 : a.Writes.length ≤ 2 ^ 20) (h2 : b.Writes.length ≤ 2 ^ 20) (h3 : a.Reads.length ≤ 2 ^ 20) (h4 : b.Reads.length ≤ 2 ^ 20) (s1 : zFO a.Writes) (s2 : zFO b.Writes) : ACall p_ 159 [.agg (Held.row false a), .agg (Held.row false b)] (fun r _ => r = bl (zBz a b)) := by
 have hmx := zAh
 refine fg H159 fun E hE hH => ?_; simp only [go_sem, hE, hH, zZd]
 repeat' (first | ((with_reducible apply ga) <;> refine gs fun h => ?_) | ((with_reducible apply an); · omega) | ((first | refine zAa ?_ | refine cvA (zL6 a.Writes b.Reads b.Writes (by omega) (by omega) (by omega) s2) ?_ | refine cvA (zL6 b.Writes a.Reads a.Writes (by omega) (by omega) (by omega) s1) ?_); refine st ?_) | (with_reducible first | apply jn | apply both | apply an | exact ti) | exact fj | refine st ?_ | exact fm | refine s1 ?_)
 all_goals simp_all [zBz]
theorem zU4 (l : List ByteArray) (k : ByteArray) (hl : l.length ≤ maxLen) : ACall p_ 183 [.sl false 1 (strs l), str k] (fun r _ => r = bl (l.any fun x => decide (k = x))) := by
 have hmx := zAh
 refine fg H183 fun E hE hH => ?_; simp only [go_sem, hE, hH, zOl]
 refine zAK l.length (fun j (_ : Unit) => ⟨[(1, str k), (7, .sl false 1 (strs l)), (8, i64 l.length), (9, i64 j)], []⟩) (fun j _ => zAD (fun i => !decide (k = nth l i)) j = true) () rfl ?_
 intro j _ hj hI
 try simp only [go_sem, hE, hH, zLa]
 first | refine zAe (fun h => ?_) (fun h => ?_) | refine zAf (fun h => ?_) (fun h => ?_)
 ·have hb := h
  simp only [nf] at h
  have hlt := h; clear h
  try refine sb ?_; try exact ⟨⟩
  repeat' (first | ((with_reducible apply ga) <;> refine gs fun h => ?_) | ((with_reducible apply an); · omega) | refine jn _ ?_ ?_ | (with_reducible first | apply both | apply an | exact ti) | exact fe | refine st ?_ | exact fm | refine s1 ?_)
  ·rw [List.any_eq_true.2 ⟨_, zAc hlt, by simp [h]⟩]
  ·exact ⟨(), rfl, zAl hI (by simp [Ne.symm h])⟩
 ·try simp (disch := omega) only [go_sem, hE, hH, h]
  simp only [nf] at h
  rw [show j = l.length by omega, zBJ (p := fun x => !decide (k = x))] at hI
  rw [show (l.any fun x => decide (k = x)) = false by rw [List.any_eq_false]; intro x hx; simpa using List.all_eq_true.1 hI x hx]
theorem zNI {x : ByteArray} : ∀ {p : List ByteArray}, 0 < p.length → zBs (p ++ [x]) = if nth p (p.length - 1) = x then zBs p else zBs p ++ [x]
 | [], h => by simp at h
 | [y], _ => by
  simp only [List.cons_append, List.nil_append, zBs, List.length_cons, List.length_nil, Nat.zero_add, Nat.sub_self, nth, List.getD_cons_zero]
  split
  ·rename_i h; rw [h]
  ·rfl
 | y :: z :: t, _ => by
  have ih := zNI (x := x) (p := z :: t) (by simp)
  have e : nth (y :: z :: t) ((y :: z :: t).length - 1) = nth (z :: t) ((z :: t).length - 1) := by
   simp [nth, List.getD]
  rw [e, List.cons_append, List.cons_append, zBs, ← List.cons_append, ih]
  by_cases h1 : y = z
  ·rw [if_pos h1]
   by_cases h2 : nth (z :: t) ((z :: t).length - 1) = x
   ·rw [if_pos h2, if_pos h2, zBs, if_pos h1]
   ·rw [if_neg h2, if_neg h2, zBs, if_pos h1]
  ·rw [if_neg h1]
   by_cases h2 : nth (z :: t) ((z :: t).length - 1) = x
   ·rw [if_pos h2, if_pos h2, zBs, if_neg h1]
   ·rw [if_neg h2, if_neg h2, zBs, if_neg h1]; rfl
theorem zNJ {l : List ByteArray} {m : Nat} (h0 : 0 < m) (hm : m < l.length) : zBs (l.take (m + 1)) = if nth l (m - 1) = nth l m then zBs (l.take m) else zBs (l.take m) ++ [nth l m] := by
 have e : (l.take m).length = m := by rw [List.length_take]; omega
 have e2 : nth (l.take m) (m - 1) = nth l (m - 1) := by simp [nth, List.getD, List.getElem?_take, show m - 1 < m by omega]
 rw [zAp hm, zNI (by omega), e, e2]
theorem zIx {α : Type} {R : List α} {k : Nat} {y : α} (h : k < R.length) : (R.set k y).take (k + 1) = R.take k ++ [y] := by
 rw [List.take_add_one, List.getElem?_set_self h, List.take_set_of_le (Nat.le_refl _)]; rfl
theorem zMc {α : Type} [Inhabited α] {R : List α} {k q : Nat} {y : α} (h : k ≠ q) : nth (R.set k y) q = nth R q := by
 simp [nth, List.getD, List.getElem?_set_ne h]
theorem zWm {l : List ByteArray} (h : 0 < l.length) : 0 < (zBs l).length := by
 cases l with
 | nil => simp at h
 | cons x t =>
  have : x ∈ zBs (x :: t) := zD7.2 List.mem_cons_self
  exact List.length_pos_of_mem this
set_option maxRecDepth 100000 in
theorem zSP : ACall p_ 231 [.v (.int .u64 0)] (fun r _ => r = i64 0) := by
 have z1 : decide ((4294967296 : Int) ≤ 0) = false := rfl
 have z2 : decide ((65536 : Int) ≤ 0) = false := rfl
 have z3 : decide ((256 : Int) ≤ 0) = false := rfl
 have z4 : IntKind.u8.wrap 0 = 0 := rfl
 refine fg H231 fun E hE hH => ?_; simp only [go_sem, hE, hH, zZ0]
 all_goals (have y1_ := z1; have y2_ := z2; have y3_ := z3; have y4_ := z4; repeat' (first | ((with_reducible apply ga) <;> refine zJJ fun h => ?_) | ((with_reducible apply an); · omega) | (with_reducible first | apply jn | apply both | apply an | exact ti) | exact zJL | refine zCV ?_ | exact zJM | refine zJK ?_))
 all_goals first | rfl | decide | (exfalso; omega)
theorem zWn : ACall p_ 201 [.v (.int .u64 0)] (fun r _ => r = i64 0) := by
 refine fg H201 fun E hE hH => ?_; simp only [go_sem, hE, hH, zZJ]
 repeat' (first | ((with_reducible apply ga) <;> refine gs fun h => ?_) | ((with_reducible apply an); · omega) | ((first | refine zAa ?_ | refine cvA (zSP) ?_); refine st ?_) | (with_reducible first | apply jn | apply both | apply an | exact ti) | exact fj | refine st ?_ | exact fm | refine s1 ?_)
 all_goals first | rfl
theorem zQz : ACall p_ 221 [.sl true 1 [], i64 0, i64 0] (fun r a => r = .tup [] ∧ a = [.sl true 1 [], i64 0, i64 0]) := by
 refine fg H221 fun E hE hH => ?_; simp only [go_sem, hE, hH, zZZ]
 try refine st ?_; try exact ⟨⟩
 refine zAK 0 (fun j (_ : Unit) => ⟨[(0, .ref 0 0 0), (1, i64 0), (2, i64 0), (6, i64 1)], [(0, ⟨1, []⟩)]⟩) (fun _ _ => True) () trivial ?_
 intro j _ hj _
 have z1 : decide ((1 : Int) < 0) = false := rfl
 try simp only [go_sem, hE, hH, z1, zRy]
 all_goals (have y1_ := z1; repeat' (first | ((with_reducible apply ga) <;> refine zBC fun h => ?_) | ((with_reducible apply an); · omega) | (with_reducible first | apply jn | apply both | apply an | exact ti) | exact zED | refine zAu ?_ | exact zBE | refine zBD ?_))
 all_goals trace_state
theorem zXF : ACall p_ 200 [.sl true 1 [], i64 0, i64 0, i64 0] (fun r a => r = .tup [] ∧ a = [.sl true 1 [], i64 0, i64 0, i64 0]) := by
 refine fg H200 fun E hE hH => ?_; simp only [go_sem, hE, hH, zZI]
 try refine st ?_; try exact ⟨⟩
 refine zAK 0 (fun j (_ : Unit) => ⟨[(0, .ref 0 0 0), (1, i64 0), (2, i64 0), (3, i64 0), (8, bl true), (9, bl true)], [(0, ⟨1, []⟩)]⟩) (fun _ _ => True) () trivial ?_
 intro j _ hj _
 have z1 : decide ((0 : Int) - 0 ≤ 12) = true := rfl
 have z2 : decide ((0 : Int) ≤ 12) = true := rfl
 have z3 : IntKind.i64.wrap 0 = 0 := rfl
 try simp only [go_sem, hE, hH, z1, z2, z3, Int.sub_self, zRw]
 repeat' (first | ((with_reducible first | refine zAe ?_ ?_ | refine zAf ?_ ?_) <;> (intro h; have hb := h; (try simp only [nf] at h); simp (disch := omega) only [go_sem, hE, hH, z1, z2, z3, Int.sub_self, hb]; (try clear hb))) | ((with_reducible refine And.intro ?_ ?_); · omega) | (refine zAI [true, false, false] ?_; simp (disch := omega) only [go_sem, hE, hH, z1, z2, z3, Int.sub_self]; refine cmA (zQz) ?_; simp (disch := omega) only [go_sem, hE, hH, z1, z2, z3, Int.sub_self]) | (with_reducible first | apply jn | apply both | refine And.intro ?_ ?_) | ((with_reducible apply zAz); (try (simp (disch := omega) only [go_sem, hE, hH, z1, z2, z3, Int.sub_self])); first | done | rfl) | (simp (disch := omega) only [go_sem, hE, hH, z1, z2, z3, Int.sub_self]) | ((first | apply zAj | apply zAC) <;> (simp only [go_sem, hE, hH, z1, z2, z3, Int.sub_self]; done)) | (simp only [go_sem, hE, hH, z1, z2, z3, Int.sub_self]) | fail)
 all_goals first | (exfalso; omega) | (exfalso; simp_all; done)
theorem zWo : ACall p_ 168 [.sl true 1 []] (fun r a => r = .tup [] ∧ a = [.sl true 1 []]) := by
 refine fg H168 fun E hE hH => ?_; simp only [go_sem, hE, hH, zZj]
 have z1 : IntKind.u64.wrap 0 = 0 := rfl
 all_goals (have y1_ := z1; repeat' (first | ((with_reducible apply ga) <;> refine zBC fun h => ?_) | ((with_reducible apply an); · omega) | (refine zAI [true, false, false, false] ?_; refine zAu ?_; refine cmA (zXF) ?_; refine zAu ?_) | ((first | refine zAa ?_ | refine cvA (zWn) ?_); refine zAu ?_) | (with_reducible first | apply jn | apply both | apply an | exact ti) | exact zED | refine zAu ?_ | exact zBE | refine zBD ?_))
 all_goals trace_state
def zB5 : Prop := ∀ l : List ByteArray, l ≠ [] → l.length ≤ 2 ^ 20 → ACall p_ 168 [.sl true 1 (strs l)] (fun r a => r = .tup [] ∧ a = [.sl true 1 (strs (zBR l))])
theorem zRD (hS : zB5) (l : List ByteArray) (hl : l.length ≤ 2 ^ 20) : ACall p_ 168 [.sl true 1 (strs l)] (fun r a => r = .tup [] ∧ a = [.sl true 1 (strs (zBR l))]) := by
 by_cases e : l = []
 ·subst e
  have : zBR [] = [] := List.length_eq_zero_iff.1 (by rw [zFG]; rfl)
  rw [this]
  exact zWo
 ·exact hS l e hl
theorem zFU (l : List ByteArray) (hl : l.length ≤ 2 ^ 20) : ACall p_ 169 [.sl true 1 (strs l)] (fun r a => r = .sl true 1 (strs (zBs l)) ∧ a = [.any]) := by
 have hmx := zAh
 refine zGr [true] (hqA zZl) (hqB zZl) ⟨by simp only [go_sem], fun E hE hH => ?_⟩; simp only [go_sem] at hE hH; simp only [go_sem, hE, hH, zZk]
 repeat' (first | ((with_reducible apply ga) <;> refine gs fun h => ?_) | ((with_reducible apply an); · omega) | (with_reducible first | apply jn | apply both | apply an | exact ti) | exact fj | refine st ?_ | exact fm | refine s1 ?_)
 ·have : zBs l = l := by
   rcases l with _ | ⟨a, _ | ⟨b, t⟩⟩
   ·rfl
   ·rfl
   ·exfalso; simp only [List.length_cons] at h; try omega
  rw [this]; try rfl
 have h2 : 2 ≤ l.length := by omega
 have t1 : zBs (l.take 1) = l.take 1 := by
  match l, h2 with
  | _ :: _ :: _, _ => rfl
 refine zAG (l.length - 1) (fun j (_ : Unit) => ⟨[(0, .ref 0 0 l.length), (3, i64 (j + 1 : Nat))], [(0, ⟨1, strs l⟩)]⟩) (fun j _ => zBs (l.take (j + 1)) = l.take (j + 1)) () rfl t1 ?_
 intro j _ hj hI
 have e1 : (((j + 1 : Nat) : Int) - 1).toNat = j := by omega
 have e2 : ((j + 1 : Nat) : Int).toNat = j + 1 := by omega
 try simp only [go_sem, hE, hH, zRn]
 first | refine zAe (fun hh => ?_) (fun hh => ?_) | refine zAf (fun hh => ?_) (fun hh => ?_)
 ·have hb := hh
  simp only [nf] at hh
  have hlt : j + 1 < l.length := by omega
  have hct := zNJ (l := l) (Nat.succ_pos j) hlt
  rw [show j.succ - 1 = j from rfl, show j.succ = j + 1 from rfl] at hct
  try simp (disch := omega) only [go_sem, hE, hH, e1, e2, hb]
  all_goals (have y1_ := e1; have y2_ := e2; repeat' (first | ((with_reducible apply ga) <;> refine zHi fun h => ?_) | ((with_reducible apply an); · omega) | (with_reducible first | apply jn | apply both | apply an | exact ti) | exact zHk | refine zCA ?_ | exact zHl | refine zHj ?_))
  all_goals try omega
  ·rw [if_pos (by first | exact h.symm | exact h), hI] at hct
   refine zAG (l.length - (j + 1) - 1) (fun m (x : List ByteArray × Nat) => ⟨[(0, .ref 0 0 l.length), (3, i64 x.2), (4, .ref 0 (j + 1) (l.length - (j + 1))), (5, i64 (m + 1 : Nat))], [(0, ⟨1, strs x.1⟩)]⟩) (fun m x => x.1.length = l.length ∧ x.1.take x.2 = zBs (l.take (j + 1 + (m + 1))) ∧ x.2 = (zBs (l.take (j + 1 + (m + 1)))).length ∧ (∀ q, j + 1 + m ≤ q → q < l.length → nth x.1 q = nth l q) ∧ x.2 ≤ j + 1 + m) (l, j + 1) rfl ⟨rfl, hct.symm, by rw [hct, List.length_take]; omega, fun _ _ _ => rfl, Nat.le_refl _⟩ ?_
   rintro m ⟨R, k⟩ hm ⟨i1, i2, i3, i4, i5⟩
   simp only at i1 i2 i3 i4 i5
   have hkp : 0 < k := by rw [i3]; exact zWm (by rw [List.length_take]; omega)
   have f1 : (((m + 1 : Nat) : Int) - 1).toNat = m := by omega
   have f2 : ((m + 1 : Nat) : Int).toNat = m + 1 := by omega
   try simp only [go_sem, hE, hH, zRm]
   first | refine zAe (fun hq => ?_) (fun hq => ?_) | refine zAf (fun hq => ?_) (fun hq => ?_)
   ·have hbq := hq
    simp only [nf] at hq
    have hlt2 : j + 1 + (m + 1) < l.length := by omega
    have hct2 := zNJ (l := l) (show 0 < j + 1 + (m + 1) by omega) hlt2
    have g1 := i4 (j + 1 + m) (by omega) (by omega)
    have g2 := i4 (j + 1 + (m + 1)) (by omega) (by omega)
    rw [show j + 1 + (m + 1) - 1 = j + 1 + m by omega] at hct2
    try simp (disch := omega) only [go_sem, hE, hH, f1, f2, i1, g1, g2, hbq]
    all_goals (have y1_ := f1; have y2_ := f2; have y3_ := i1; have y4_ := g1; have y5_ := g2; repeat' (first | ((with_reducible apply ga) <;> refine zJF fun h => ?_) | ((with_reducible apply an); · omega) | (with_reducible first | apply jn | apply both | apply an | exact ti) | exact zJH | refine zDv ?_ | exact zJI | refine zJG ?_))
    all_goals try omega
    ·rw [if_neg (by first | exact h | exact fun e => h e.symm)] at hct2
     refine ⟨(R.set k (nth l (j + 1 + (m + 1))), k + 1), by simp [strs, List.map_set], by simp [i1], ?_, ?_, ?_, by simp only; omega⟩
     ·simp only
      rw [zIx (by omega), i2, show j + 1 + (m + 1 + 1) = j + 1 + (m + 1) + 1 by omega, hct2]
     ·simp only
      rw [show j + 1 + (m + 1 + 1) = j + 1 + (m + 1) + 1 by omega, hct2, List.length_append, ← i3]; rfl
     ·intro q a b
      simp only
      rw [zMc (by omega)]; exact i4 q (by omega) b
    ·rw [if_pos (by first | exact h.symm | exact h)] at hct2
     refine ⟨(R, k), rfl, i1, ?_, ?_, fun q a b => i4 q (by omega) b, by simp only; omega⟩
     ·simp only
      rw [i2, show j + 1 + (m + 1 + 1) = j + 1 + (m + 1) + 1 by omega, hct2]
     ·simp only
      rw [show j + 1 + (m + 1 + 1) = j + 1 + (m + 1) + 1 by omega, hct2, ← i3]
   ·have hkl : k < l.length := by omega
    simp only [nf] at hq
    rw [show j + 1 + (m + 1) = l.length by omega, List.take_length] at i2 i3
    have r1 : ∀ z, (zAm (strs R) k (List.replicate (l.length - k) z)).take k = strs (R.take k) := fun z => by
     rw [zAm, List.append_assoc, List.take_append_of_le_length (by simp [strs]; omega), List.take_take, Nat.min_self, strs, strs, List.map_take]
    have r2 : ∀ z, (zAm (strs R) k (List.replicate (l.length - k) z)).length = l.length := fun z => by
     rw [zBb (by simp [strs]; omega)]; simp [strs, i1]
    have hqf : decide (((m + 1 : Nat) : Int) < ((l.length - (j + 1) : Nat) : Int)) = false := decide_eq_false (by omega)
    have e4 : ((k : Nat) : Int).toNat = k := rfl
    try simp (disch := omega) only [go_sem, hE, hH, i1, r1, r2, hqf, e4]
    all_goals (have y1_ := i1; have y2_ := r1; have y3_ := r2; have y4_ := hqf; have y5_ := e4; repeat' (first | ((with_reducible apply ga) <;> refine zJF fun h => ?_) | ((with_reducible apply an); · omega) | (with_reducible first | apply jn | apply both | apply an | exact ti) | exact zJH | refine zDv ?_ | exact zJI | refine zJG ?_))
    ·rw [List.length_take]; omega
    ·rw [i2]
  ·rw [if_neg (by first | exact h | exact fun e => h e.symm), hI] at hct
   exact ⟨(), rfl, by rw [hct, zAp hlt]⟩
 ·try simp (disch := omega) only [go_sem, hE, hH, hh]
  simp only [nf] at hh
  rw [show j + 1 = l.length by omega, List.take_length] at hI
  rw [hI]
end Go.Proofs.Wb

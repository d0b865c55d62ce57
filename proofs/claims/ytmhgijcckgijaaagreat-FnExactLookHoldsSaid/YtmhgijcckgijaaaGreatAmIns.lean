import Derived.Test.YtmhgijcckgijaaaGreatAmNest
import Derived.Laws.Externs
set_option linter.unusedSimpArgs false
set_option linter.unusedVariables false
set_option linter.unusedSectionVars false
namespace Go.Am
open Go Go.RowKit
section
variable {P : Program} {E : Env} {s : St} {a : Act} {w : World} {S : Nat → Prop} {ρ : Nat → Option Hd} {foot : Nat → List Nat} {o : Oper}
def zAo (rows : List (List T)) (p : Nat) (ry : List (List T)) : List (List T) := rows.take p ++ ry ++ rows.drop (p + ry.length)
theorem zBe {rows : List (List T)} {p : Nat} {ry : List (List T)} (h : p + ry.length ≤ rows.length) : (zAo rows p ry).length = rows.length := by
 simp [zAo]; omega
theorem zFu {k : Nat} : ∀ {rows : List (List T)} {p : Nat}, (∀ r ∈ rows, r.length = k) → (rows.take p).flatten = rows.flatten.take (p * k) ∧ (rows.drop p).flatten = rows.flatten.drop (p * k)
 | [], p, _ => by simp
 | r :: rs, 0, _ => by simp
 | r :: rs, p + 1, h => by
  obtain ⟨h1, h2⟩ := zFu (rows := rs) (p := p) (fun x hx => h x (List.mem_cons_of_mem _ hx))
  have hr := h r (List.mem_cons_self ..)
  rw [List.take_succ_cons, List.drop_succ_cons, List.flatten_cons, h1, h2, List.flatten_cons, Nat.succ_mul, Nat.add_comm, ← hr, List.take_length_add_append, List.drop_length_add_append]
  exact ⟨rfl, rfl⟩
theorem zJO (h : SimX E s a w S ρ foot) {id p : Nat} {ob : Ob} {hd : Hd} {b off : Nat} (ho : lk id s.objs = some ob) (e1 : ρ id = some hd) (e2 : hd.a = some (b, off)) (hpos : p < ob.rows.length) {ry : List (List T)} {new : Array Value} (hry : zAd S w ρ (fun i => new[i]?) 0 ob.k ry []) (hns : new.size = ry.length * ob.k)
  (hone : ∀ v ∈ new.toList, v.oneCell' = true) (hle : p + ry.length ≤ ob.rows.length) :
  ∃ w' foot', (storeCells ⟨b, off + p * ob.k, none⟩ new.toList 0).run P w = .ok () w' ∧ SimX E (s.upd id ⟨ob.k, zAo ob.rows p ry⟩) a w' S ρ foot' := by
 obtain ⟨hd'', e4, e5, e6⟩ := h.objs id ob ho
 rw [e1] at e4; simp at e4; subst e4
 rcases e6 with ⟨_, e6, _⟩ | ⟨b', off', arr, el, fr, Fs, f1, f2, f3, f4, f5, f6, f7⟩
 ·rw [e6] at hpos; simp at hpos
 ·rw [e2] at f1; simp at f1; obtain ⟨rfl, rfl⟩ := f1
  obtain ⟨g1, g2⟩ := (zAk _ _ _).1 f6
  obtain ⟨y1, y2⟩ := (zAk _ _ _).1 hry
  have hfl := zAV g1
  have hyl := zAV y1
  have hjk : p * ob.k + ry.length * ob.k ≤ ob.rows.length * ob.k := by
   rw [← Nat.add_mul]; exact Nat.mul_le_mul_right ob.k hle
  have hck : ob.rows.length * ob.k ≤ hd.cap * ob.k := Nat.mul_le_mul_right _ f3
  obtain ⟨arr', r1, r2, r3⟩ := zDe (P := P) (off := off + p * ob.k) new.toList 0 arr w f2 f5 (by simp [hns]; omega) hone
  have hlt : b < w.heap.size := (Array.getElem?_eq_some_iff.1 f2).1
  obtain ⟨F1, F2, F3, q1, q2⟩ := zHI (cell' := fun i => arr'[i]?) (off := p * ob.k) g2 y2 (by omega) (fun i' hi' => by
   rw [r3]
   simp only [Nat.add_zero, Array.length_toList, hns, ← hyl]
   rw [if_pos (by omega)]
   simp [show off + p * ob.k + i' - (off + p * ob.k) = i' from by omega]) (fun i' hi' ho' => by
   rw [r3]
   simp only [Nat.add_zero, Array.length_toList, hns, ← hyl]
   rw [if_neg (by omega)])
  have hF2 : ∀ c, c ∈ F1 ++ [] ++ F3 ∨ S c → ({ w with heap := w.heap.setIfInBounds b (.cells arr' el fr) } : World).heap[c]? = w.heap[c]? := by
   intro c hcc
   simp only [Array.getElem?_setIfInBounds]
   rw [if_neg]
   intro e
   subst e
   rcases hcc with hcc | hcc
   ·have := h.nodup id ob ho
    rw [f7, q1] at this
    have := (List.nodup_cons.1 this).1
    apply this
    simp at hcc ⊢
    rcases hcc with hcc | hcc <;> simp [hcc]
   ·exact (h.mine id ob ho b (by simp [f7])).1 hcc
  refine ⟨_, _, r1, h.upd ho e1 (b := b) (by simp [f7]) (h.kept.setBlock f2 r2 (h.mine id ob ho b (by simp [f7])).2.2) (F' := b :: (F1 ++ [] ++ F3)) (by rw [f7, q1]; exact zJk) ⟨e5, .inr ⟨b, off, arr', el, fr, F1 ++ [] ++ F3, e2, by simp [hlt], by rw [zBe hle]; exact f3, by rw [r2]; exact f4, by intro i' hi'; exact f5 i' (by rw [← r2]; exact hi'), ?_, rfl⟩⟩⟩
  rw [zAk]
  constructor
  ·intro r hr
   simp only [zAo, List.mem_append] at hr
   rcases hr with (hr | hr) | hr
   ·exact g1 r (List.mem_of_mem_take hr)
   ·exact y1 r hr
   ·exact g1 r (List.mem_of_mem_drop hr)
  ·have e : (zAo ob.rows p ry).flatten = ob.rows.flatten.take (p * ob.k) ++ ry.flatten ++ ob.rows.flatten.drop (p * ob.k + ry.flatten.length) := by
    simp only [zAo, List.flatten_append]
    rw [(zFu g1).1, (zFu g1).2, hyl, Nat.add_mul]
   rw [e]
   exact zBj _ q2 hF2
theorem zKu (h : SimX E s a w S ρ foot) {x : Operand} {id lo n : Nat} (hx : s.eval x = some (.ref id lo n)) {ob : Ob} (ho : lk id s.objs = some ob) (hlo : lo < ob.rows.length) :
  ∃ hd b off c, ρ id = some hd ∧ hd.a = some (b, off) ∧ lo + c = hd.cap ∧ ob.rows.length ≤ hd.cap ∧ hd.k = ob.k ∧ a.eval x = .slice (some ⟨b, off + lo * ob.k, none⟩) n c := by
 have hr := h.eval hx
 simp only [Rep] at hr
 obtain ⟨_, hd, a0, c, e1, e2, e3, e4, e5⟩ := hr
 obtain ⟨hd', e6, e7, e8⟩ := h.objs id ob ho
 rw [e1] at e6; simp at e6; subst e6
 rcases e8 with ⟨_, e8, _⟩ | ⟨b, off, arr, el, fr, Fs, f1, f2, f3, f4, f5, f6, f7⟩
 ·rw [e8] at hlo; simp at hlo
 ·rcases e5 with e5 | ⟨b', off', e5, rfl⟩
  ·omega
  ·rw [f1] at e5; simp at e5; obtain ⟨rfl, rfl⟩ := e5
   exact ⟨hd, b, off, c, e1, f1, e3, f3, e7, by rw [e2, e7]⟩
theorem zVH (h : SimX E s a w S ρ foot) {d id lo n : Nat} {hd : Hd} {b off c : Nat} (g3 : d < E.nt) (e1 : ρ id = some hd) (e2 : hd.a = some (b, off)) (e3 : lo + c = hd.cap) (hn : n ≤ c) {k : Nat} (hk : hd.k = k) : SimX E (s.set d (.ref id lo n)) (a.put (some d) (.slice (some ⟨b, off + lo * k, none⟩) n c)) w S ρ foot := by
 refine h.set g3 ?_
 simp only [Rep]
 exact ⟨trivial, hd, _, c, e1, rfl, e3, hn, .inr ⟨b, off, e2, by rw [hk]⟩⟩
theorem zIj {z : Value} {k : Nat} (hk : z.cells.size = k) (hz : (zAB z).length = k) (n : Nat) :
  zAd S w ρ (fun i => (Builtin.zeroCells z.cells n)[i]?) 0 k (List.replicate n (zAB z)) [] ∧ (Builtin.zeroCells z.cells n).size = n * k := by
 obtain ⟨z1, z2⟩ := zEx (S := S) (w := w) (ρ := ρ) z
 have hs : (Builtin.zeroCells z.cells n).size = n * k := by simp [Builtin.zeroCells, hk]
 refine ⟨?_, hs⟩
 have hcell : ∀ j, j < n * k → (Builtin.zeroCells z.cells n)[j]? = some (z.cells[j % k]!) := fun j hj => by simp [Builtin.zeroCells, hk, hj]
 have hrep : ∀ m b, m + b ≤ n → zAd S w ρ (fun i => (Builtin.zeroCells z.cells n)[i]?) (b * k) k (List.replicate m (zAB z)) [] := by
  intro m
  induction m with
  | zero => intro b _; simp [zAd]
  | succ m ih =>
   intro b hb
   rw [List.replicate_succ]
   simp only [zAd]
   refine ⟨[], [], hz, ?_, ?_, rfl⟩
   ·refine zAM _ z2 fun i hi => ?_
    rw [hz] at hi
    have hm : (b + 1) * k ≤ n * k := Nat.mul_le_mul_right _ (by omega)
    rw [Nat.succ_mul] at hm
    rw [hcell _ (by omega)]
    have : (b * k + i) % k = i := by
     rw [Nat.add_comm, Nat.add_mul_mod_self_right, Nat.mod_eq_of_lt hi]
    rw [this, Nat.zero_add]
    have hi' : i < z.cells.size := by omega
    simp [hi']
   ·have := ih (b + 1) (by omega)
    rwa [Nat.succ_mul] at this
 simpa using hrep n 0 (by omega)
theorem zMr {ts : Array TypeId} {e : TypeId} (h : (ts[0]?).bind (zA4 P) = some e) : ∃ t, ts[0]? = some t ∧ P.underlying t = some (.slice e) := by
 cases ht : ts[0]? with
 | none => rw [ht] at h; cases h
 | some t =>
  rw [ht] at h
  refine ⟨t, rfl, ?_⟩
  simp only [Option.bind_some] at h
  unfold zA4 at h; split at h <;> simp at h; subst h; assumption
theorem zWP {K : St → Prop} {g : Option (Nat × Bool)} {k : Nat} {z : Value} {x : Operand} {id lo n : Nat} {ob : Ob} (hx : s.eval x = some (.ref id lo n)) (ho : lk id s.objs = some ob) (hk : ob.k = k) (hz : (zAB z).length = k) (hzs : (zAB z).all T.storable = true) (hpos : lo < ob.rows.length) (hn : 0 < n) (hle : lo + n ≤ ob.rows.length)
  (hK : K (s.upd id ⟨k, zAo ob.rows lo (List.replicate n (zAB z))⟩)) : zAt P E ⟨none, g, .clr k z x⟩ K s := by
 intro o g1 g2 g3 a w ⟨S, ρ, foot, hsx⟩ Q
 simp only at g1 g2 g3
 unfold zBx at g1
 split at g1 <;> try (simp at g1; done)
 case h_23 cl hop =>
  split at g1 <;> try (first | (simp at g1; done) | (repeat' split at g1) <;> simp at g1; done)
  rename_i hcal
  split at g1
  ·rename_i x' e hargs htys
   split at g1
   ·rename_i inf z' hinf hz'
    split at g1
    ·rename_i hzs'
     simp only [Option.some.injEq, I.clr.injEq] at g1
     obtain ⟨rfl, rfl, rfl⟩ := g1
     obtain ⟨hd, b, off, c, e1, e2, e3, e4, e5, e6⟩ := zKu hsx hx ho hpos
     obtain ⟨r1, r2⟩ := zIj (S := S) (w := w) (ρ := ρ) (z := z') hzs' hz n
     obtain ⟨t, ht, hu⟩ := zMr htys
     have ha' : cl.args = #[x'] := by rw [← Array.toList_inj]; simpa using hargs
     obtain ⟨w', foot', q1, q2⟩ := zJO (P := P) hsx ho e1 e2 hpos (ry := List.replicate n (zAB z')) (new := Builtin.zeroCells z'.cells n) (by rw [hk]; exact r1) (by rw [r2, hk]; simp) (zKk r1 (by simp [hzs]) (by rw [r2]; simp)).2 (by simpa using hle)
     obtain ⟨cs, hcs⟩ := zBk (a := a) hop hcal
     rw [hk] at q1 q2 e6
     have hrun : (Builtin.clear_ cl.argTypes o.type #[a.eval x']).run P w = .ok (.tuple #[]) w' := by
      obtain ⟨n', rfl⟩ : ∃ n', n = n' + 1 := ⟨n - 1, by omega⟩
      simp [Builtin.clear_, ht, e6, underlying, hu, zFq hz', q1]
     have : (execOp a.eval o).run P w = .ok (.value (.tuple #[])) w' := by
      rw [hcs, ha']
      simp [builtin, hrun]
     rw [this, Oper.upon_value, g2]
     exact ⟨_, hK, S, ρ, foot', q2⟩
    ·cases g1
   ·cases g1
  ·cases g1
 all_goals (repeat' split at g1) <;> simp at g1
theorem zVI {K : St → Prop} {g : Option (Nat × Bool)} {d k bytes : Nat} {z : Value} {x y : Operand} {id lo n lo2 n2 : Nat} {ob : Ob} (hx : s.eval x = some (.ref id lo n)) (hy : s.eval y = some (.ref id lo2 n2)) (ho : lk id s.objs = some ob) (hk : ob.k = k) (hpos : lo + n < ob.rows.length) (hle : lo + n + n2 ≤ ob.rows.length) (hle2 : lo2 + n2 ≤ ob.rows.length)
  (hs : ((ob.rows.drop lo2).take n2).all (fun r => r.all T.storable) = true) (hK : K ((s.upd id ⟨k, zAo ob.rows (lo + n) ((ob.rows.drop lo2).take n2)⟩).set d (.ref id lo (n + n2)))) : zAt P E ⟨some d, g, .app k bytes z x y⟩ K s := by
 intro o g1 g2 g3 a w ⟨S, ρ, foot, hsx⟩ Q
 simp only at g1 g2 g3
 unfold zBx at g1
 split at g1 <;> try (simp at g1; done)
 case h_23 cl hop =>
  split at g1 <;> try (first | (simp at g1; done) | (repeat' split at g1) <;> simp at g1; done)
  rename_i hcal
  split at g1
  ·rename_i x' y' sT yT hargs htys
   split at g1
   ·rename_i e hes hyt
    split at g1
    ·rename_i inf z' hinf hz'
     split at g1
     ·rename_i hzs
      simp only [Option.some.injEq, I.app.injEq] at g1
      obtain ⟨rfl, rfl, rfl, rfl, rfl⟩ := g1
      have hel : P.underlying sT = some (.slice e) := by
       unfold zA4 at hes; split at hes <;> simp at hes; subst hes; assumption
      have hyT : (∃ e2, P.underlying yT = some (.slice e2)) ∨ P.underlying yT = some .string := by
       split at hyt
       ·rename_i e2 h2; exact .inl ⟨e2, h2⟩
       ·rename_i h2; exact .inr h2
       ·cases hyt
      obtain ⟨hd, b, off, c, e1, e2, e3, e4, e5, e6⟩ := zKu hsx hx ho (by omega)
      obtain ⟨new, r1, r2, r3, r4⟩ := src_ok (P := P) hsx hy (k := ob.k) (c := ob.k = ob.k ∧ lo2 + n2 ≤ ob.rows.length) (ry := (ob.rows.drop lo2).take n2) (by simp [zDD, ho]) ⟨rfl, hle2⟩ hs
      have hlen : ((ob.rows.drop lo2).take n2).length = n2 := by rw [List.length_take, List.length_drop]; omega
      rw [hlen] at r1 r3
      obtain ⟨w', foot', q1, q2⟩ := zJO (P := P) hsx ho e1 e2 (p := lo + n) hpos r2 (by rw [hlen]; exact r3) r4 (by rw [hlen]; exact hle)
      have ha' : cl.args = #[x', y'] := by rw [← Array.toList_inj]; simpa using hargs
      have ht' : cl.argTypes = #[sT, yT] := by rw [← Array.toList_inj]; simpa using htys
      obtain ⟨cs, hcs⟩ := zBk (a := a) hop hcal
      have hrun := zGL (P := P) (w := w) (b := b) (off := off + lo * ob.k) (n := n) (c := c) o.type hel hinf hk.symm hyT (r1.1 w) (r1.2 w.drawn) (by omega) (w' := w') (by rw [Nat.add_assoc, ← Nat.add_mul]; exact q1)
      have : (execOp a.eval o).run P w = .ok (.value (.slice (some ⟨b, off + lo * ob.k, none⟩) (n + n2) c)) w' := by
       rw [hcs, ha', ht']
       simp only [builtin, List.map_toArray, List.map_cons, List.map_nil, e6]
       simp [hrun]
      rw [this, Oper.upon_value, g2]
      rw [hk] at q2
      exact ⟨_, hK, S, ρ, foot', zVH q2 (g3 d rfl) e1 e2 e3 (by omega) e5⟩
     ·cases g1
    ·cases g1
   all_goals ((repeat' split at g1) <;> simp at g1)
  ·cases g1
 all_goals (repeat' split at g1) <;> simp at g1
def zJP (n : Nat) : T → T
 | .ref id lo m => .ref id lo (min n m)
 | .sl false k rows => .sl false k (rows.take n)
 | t => t
def zJQ : T → Prop
 | .ref _ _ _ => True
 | .sl false _ _ => True
 | _ => False
def zFv : T → Nat
 | .ref _ _ m => m
 | .sl _ _ rows => rows.length
 | _ => 0
theorem zQ8 {t : T} {a0 : Option Addr} {m c : Nat} (hr : Rep S w ρ t (.slice a0 m c) []) (ht : zJQ t) : zFv t = m := by
 unfold zJQ at ht
 split at ht
 ·simp only [Rep] at hr
  obtain ⟨_, hd, a1, c1, e1, e2, _⟩ := hr
  simp only [Value.slice.injEq] at e2
  simp [zFv, e2.2.1]
 ·simp only [Rep] at hr
  obtain ⟨a1, c1, e2, _⟩ := hr
  simp only [Value.slice.injEq] at e2
  simp [zFv, e2.2.1]
 ·exact ht.elim
theorem zPg {cell : Nat → Option Value} {k : Nat} {l : List (List T)} {b n : Nat} {F : List Nat} (h : zAd S w ρ cell b k l F) : ∃ G, zAd S w ρ cell b k (l.take n) G ∧ ∀ c, c ∈ G → c ∈ F := by
 have := zCC (n := n) h 0 (Nat.zero_le _)
 simpa using this
theorem zVJ {t : T} {v : Value} (hr : Rep S w ρ t v []) (ht : zJQ t) (n : Nat) : ∃ a0 m c, v = .slice a0 m c ∧ Rep S w ρ (zJP n t) (.slice a0 (min n m) c) [] ∧ (∀ w', (Builtin.lenOf v).run P w' = .ok m w') := by
 unfold zJQ at ht
 split at ht
 ·rename_i id lo m
  simp only [Rep] at hr
  obtain ⟨_, hd, a0, c, e1, rfl, e3, e4, e5⟩ := hr
  refine ⟨a0, m, c, rfl, ?_, fun w' => by simp [Builtin.lenOf]⟩
  simp only [zJP, Rep]
  exact ⟨trivial, hd, a0, c, e1, rfl, e3, by omega, e5⟩
 ·rename_i k rows
  simp only [Rep] at hr
  obtain ⟨a0, c, rfl, e⟩ := hr
  refine ⟨a0, rows.length, c, rfl, ?_, fun w' => by simp [Builtin.lenOf]⟩
  simp only [zJP, Rep]
  refine ⟨a0, c, by simp, ?_⟩
  rcases e with ⟨h1, h2, h3⟩ | ⟨b, off, arr, el, fr, Fs, h1, h2, h3, h4, h5, h6⟩
  ·exact .inl ⟨h1, by simp [h2], trivial⟩
  ·obtain ⟨G, g1, g2⟩ := zPg (n := n) h5
   exact .inr ⟨b, off, arr, el, fr, G, h1, h2, by simp; omega, h4, g1, h6.1, h6.2.1, fun q hq => h6.2.2 q (g2 q hq)⟩
 ·exact ht.elim
theorem zWQ {K : St → Prop} {g : Option (Nat × Bool)} {d : Option Nat} {k : Nat} {x y : Operand} {id lo n : Nat} {ob : Ob} {ty : T} {c2 : Prop} {ry : List (List T)} (hx : s.eval x = some (.ref id lo n)) (hy : s.eval y = some ty) (ho : lk id s.objs = some ob) (hsr : zDD s k (zJP n ty) = some (c2, ry)) (hc2 : c2) (hS : zJQ ty) (hk : ob.k = k)
  (hpos : lo < ob.rows.length) (hle : lo + ry.length ≤ ob.rows.length) (hs : ry.all (fun r => r.all T.storable) = true) (hn : ry.length = min n (zFv ty))
  (hK : K ((s.upd id ⟨k, zAo ob.rows lo ry⟩).put d (.v (.int .i64 ry.length)))) : zAt P E ⟨d, g, .cpy k x y⟩ K s := by
 intro o g1 g2 g3 a w ⟨S, ρ, foot, hsx⟩ Q
 simp only at g1 g2 g3
 unfold zBx at g1
 split at g1 <;> try (simp at g1; done)
 case h_23 cl hop =>
  split at g1 <;> try (first | (simp at g1; done) | (repeat' split at g1) <;> simp at g1; done)
  rename_i hcal
  split at g1
  ·rename_i x' y' e hargs htys
   simp only [Option.map_eq_some_iff, I.cpy.injEq] at g1
   obtain ⟨k', hw, rfl, rfl, rfl⟩ := g1
   obtain ⟨hd, b, off, c, e1, e2, e3, e4, e5, e6⟩ := zKu hsx hx ho hpos
   obtain ⟨a0, m, c0, v1, v2, v3⟩ := zVJ (P := P) (hsx.eval hy) hS n
   obtain ⟨new, r1, r2, r3, r4⟩ := zPS (P := P) hsx v2 hsr hc2 hs
   have hm : zFv ty = m := by
    have := hsx.eval hy
    rw [v1] at this
    exact zQ8 this hS
   rw [hm] at hn
   obtain ⟨t, ht, hu⟩ := zMr htys
   have ha' : cl.args = #[x', y'] := by rw [← Array.toList_inj]; simpa using hargs
   rw [← hk] at r2 r3
   obtain ⟨w', foot', q1, q2⟩ := zJO (P := P) hsx ho e1 e2 hpos r2 r3 r4 hle
   obtain ⟨cs, hcs⟩ := zBk (a := a) hop hcal
   have hfc : (Builtin.firstCells k' (min m n) (a.eval y')).run P w = .ok new w := by
    have := r1.2 w.drawn
    rw [hn, Nat.min_comm] at this
    rw [v1]
    cases a0 <;> simpa [Builtin.firstCells] using this
   have hrun : (Builtin.copy_ cl.argTypes o.type #[a.eval x', a.eval y']).run P w = .ok (goInt ry.length) w' := by
    have hmn : Nat.min m n = ry.length := by rw [hn]; exact Nat.min_comm _ _
    have hmn' : min m n = ry.length := hmn
    rw [hmn'] at hfc
    simp only [Builtin.copy_, ht, e6]
    simp [underlying, hu, v3, zBf hw, hmn, hfc, q1]
   have : (execOp a.eval o).run P w = .ok (.value (goInt ry.length)) w' := by
    rw [hcs, ha']
    simp [builtin, hrun]
   rw [this, Oper.upon_value, g2]
   rw [hk] at q2
   exact ⟨_, hK, S, ρ, foot', q2.put g3 (by simp only [Rep]; exact ⟨rfl, trivial⟩)⟩
  ·cases g1
 all_goals (repeat' split at g1) <;> simp at g1
def Env.FullAt (E : Env) (id L : Nat) : Prop := ∃ lo n a c, (T.ref id lo n, Value.slice a n c) ∈ E.pins ∧ lo + c = L
theorem zIk (h : SimX E s a w S ρ foot) {id L : Nat} (hF : E.FullAt id L) {hd : Hd} (e1 : ρ id = some hd) : hd.cap = L := by
 obtain ⟨lo, n, a0, c, hp, rfl⟩ := hF
 have := h.pins _ hp
 simp only [Rep] at this
 obtain ⟨_, hd', a1, c1, q1, q2, q3, _⟩ := this
 rw [e1] at q1
 simp only [Option.some.injEq] at q1; subst q1
 simp only [Value.slice.injEq] at q2
 rw [q2.2.2]; exact q3.symm
theorem zVK {K : St → Prop} {g : Option (Nat × Bool)} {d : Option Nat} {x : Operand} {id lo n L : Nat} (hx : s.eval x = some (.ref id lo n)) (hF : E.FullAt id L)
  (hK : lo + n ≤ L → K (s.put d (.v (.int .i64 ((L - lo : Nat) : Int))))) : zAt P E ⟨d, g, .capo x⟩ K s := by
 intro o g1 g2 g3 a w ⟨S, ρ, foot, hsx⟩ Q
 simp only at g1 g2 g3
 unfold zBx at g1
 split at g1 <;> try (simp at g1; done)
 case h_23 cl hop =>
  split at g1 <;> try (first | (simp at g1; done) | (repeat' split at g1) <;> simp at g1; done)
  rename_i hcal
  split at g1
  ·rename_i x' e hargs htys
   simp only [Option.some.injEq, I.capo.injEq] at g1
   obtain rfl := g1
   have hr := hsx.eval hx
   simp only [Rep] at hr
   obtain ⟨_, hd, a0, c, e1, e2, e3, e4, e5⟩ := hr
   have hL := zIk hsx hF e1
   obtain ⟨t, ht, hu⟩ : ∃ t, cl.argTypes[0]? = some t ∧ P.underlying t = some (.slice e) := by
    cases ht : cl.argTypes[0]? with
    | none => rw [ht] at htys; cases htys
    | some t => rw [ht] at htys; exact ⟨t, rfl, by simpa using htys⟩
   have ha' : cl.args = #[x'] := by rw [← Array.toList_inj]; simpa using hargs
   obtain ⟨cs, hcs⟩ := zBk (a := a) hop hcal
   have hrun : (Builtin.cap_ cl.argTypes o.type #[a.eval x']).run P w = .ok (goInt c) w := by
    simp only [Builtin.cap_, ht, e2]
    simp [underlying, hu]
   have : (execOp a.eval o).run P w = .ok (.value (goInt c)) w := by
    rw [hcs, ha']
    simp [builtin, hrun]
   rw [this, Oper.upon_value, g2]
   refine ⟨_, hK (by omega), S, ρ, foot, hsx.put g3 ?_⟩
   simp only [Rep]
   exact ⟨by rw [show L - lo = c by omega]; rfl, trivial⟩
  ·cases g1
 all_goals (repeat' split at g1) <;> simp at g1
theorem zKv {k m : Nat} {sT yT e : TypeId} {inf : TypeInfo} {z : Value} {ky kk : IntKind} (ty : TypeId) (h1 : P.underlying sT = some (.slice e)) (h2 : P.info? e = some inf) (h3 : inf.zero = some z) (hk : inf.size = k) (hz : z.cells.size = k) (hyT : P.underlying yT = some (.int kk))
  {a0 : Option Addr} {n c : Nat} {old : Array Value} (ho : (Builtin.firstCells k n (.slice a0 n c)).run P w.drew = .ok old w.drew) (hc : ¬ n + m ≤ c)
  (hb1 : (n + m) * inf.bytes ≤ 140737488355328) (hb2 : n + m ≤ 9223372036854775807) :
  ∃ cap, n + m ≤ cap ∧ (Builtin.append_ #[sT, yT] ty #[.slice a0 n c, .int ky m]).run P w = .ok (.slice (some ⟨w.heap.size, 0, none⟩) (n + m) cap) { w with heap := w.heap.push (.cells (old ++ Builtin.zeroCells z.cells m ++ Builtin.zeroCells z.cells (cap - (n + m))) e), drawn := w.drawn + 1 } := by
 have hsz : ∀ w', (sizeOf e).run P w' = .ok k w' := fun w' => by simp [sizeOf, typeInfo, h2, hk]
 have h48 : ¬ (281474976710656 < Builtin.nextslicecap (n + m) c * inf.bytes) := by
  have := growslice_fits (need := n + m) (old := c) (bytes := inf.bytes) (by omega) hb1
  omega
 have h63 : ¬ (9223372036854775807 < (n : Int) + (m : Int)) := by omega
 have hw : IntKind.i64.wrap (m : Int) = m := by unfold IntKind.wrap; simp [IntKind.bits, IntKind.signed]; omega
 have hmb : m * inf.bytes ≤ 140737488355328 := Nat.le_trans (Nat.mul_le_mul_right _ (by omega)) hb1
 have h47 : ¬ (281474976710656 < (m : Int) * (inf.bytes : Int)) := by
  have : ((m * inf.bytes : Nat) : Int) = (m : Int) * (inf.bytes : Int) := by simp
  omega
 have hm0 : ¬ ((m : Int) < 0) := by omega
 refine ⟨grownCap w (n + m) c e, by simp [grownCap, Question.cut], ?_⟩
 by_cases h0 : m * k = 0
 ·have hzc : Builtin.zeroCells z.cells m = #[] := by
   apply Array.size_eq_zero_iff.1
   simp [Builtin.zeroCells, hz, h0]
  simp [Builtin.append_, underlying, h1, hyT, hsz, asInt, asIntOf, hw, hm0, h47, hc, h48, h63, typeInfo, h2, Question.forced, zeroValue, h3, newRow, grownCap, h0, hzc]
  rw [ho]
  simp only [Result.andThen_ok]
  rfl
 ·simp [Builtin.append_, underlying, h1, hyT, hsz, asInt, asIntOf, hw, hm0, h47, hc, h48, h63, typeInfo, h2, Question.forced, zeroValue, h3, newRow, grownCap]
  rw [ho]
  simp only [Result.andThen_ok]
  rw [if_neg h0]
  rfl
theorem zWR {K : St → Prop} {g : Option (Nat × Bool)} {d k bytes : Nat} {z : Value} {x y : Operand} {id lo n L : Nat} {ky : IntKind} {m : Int} {ob : Ob} (hx : s.eval x = some (.ref id lo n)) (hy : s.eval y = some (.v (.int ky m))) (ho : lk id s.objs = some ob) (hk : ob.k = k) (hF : E.FullAt id L) (hle : lo + n ≤ ob.rows.length) (hm0 : 0 ≤ m) (hgr : L < lo + n + m.toNat)
  (hs : ((ob.rows.drop lo).take n).all (fun r => r.all T.storable) = true) (hz : (zAB z).length = k) (hb1 : (n + m.toNat) * bytes ≤ 140737488355328) (hb2 : n + m.toNat ≤ 9223372036854775807) (hpi : E.okd d) (hno : zAn d s.objs) (hself : zAA d ((ob.rows.drop lo).take n))
  (hK : K ((s.new d ⟨k, (ob.rows.drop lo).take n ++ List.replicate m.toNat (zAB z)⟩).set d (.ref d 0 (n + m.toNat)))) : zAt P E ⟨some d, g, .apz k bytes z x y⟩ K s := by
 intro o g1 g2 g3 a w ⟨S, ρ, foot, hsx⟩ Q
 simp only at g1 g2 g3
 unfold zBx at g1
 split at g1 <;> try (simp at g1; done)
 case h_23 cl hop =>
  split at g1 <;> try (first | (simp at g1; done) | (repeat' split at g1) <;> simp at g1; done)
  rename_i hcal
  split at g1
  ·rename_i x' y' sT yT hargs htys
   split at g1
   ·(repeat' split at g1) <;> simp at g1
   ·rename_i e hes hyt
    split at g1
    ·rename_i inf z' hyT hinf hz'
     split at g1
     ·rename_i hzs
      simp only [Option.some.injEq, I.apz.injEq] at g1
      obtain ⟨rfl, rfl, rfl, rfl, rfl⟩ := g1
      have hel : P.underlying sT = some (.slice e) := by
       unfold zA4 at hes; split at hes <;> simp at hes; subst hes; assumption
      obtain ⟨kk, hyT⟩ : ∃ kk, P.underlying yT = some (.int kk) := by
       unfold isInt at hyT; split at hyT
       ·exact ⟨_, by assumption⟩
       ·cases hyT
      have hz3 : inf.zero = some z' := by simpa [zeroOf, hinf] using hz'
      have hrx := hsx.eval hx
      simp only [Rep] at hrx
      obtain ⟨_, hd, a0, c, e1, e2, e3, e4, e5⟩ := hrx
      have hL := zIk hsx hF e1
      have hry := hsx.eval hy
      simp only [Rep] at hry
      have hlen : ((ob.rows.drop lo).take n).length = n := by rw [List.length_take, List.length_drop]; omega
      obtain ⟨new, r1, r2, r3, r4⟩ := src_ok (P := P) hsx hx (k := inf.size) (c := ob.k = inf.size ∧ lo + n ≤ ob.rows.length) (ry := (ob.rows.drop lo).take n) (by simp [zDD, ho]) ⟨hk, hle⟩ hs
      rw [hlen] at r1 r3
      have ho' := r1.2 (w.drawn + 1)
      rw [e2] at ho'
      obtain ⟨cap, c1, hrun⟩ := zKv (P := P) (w := w) (m := m.toNat) (ky := ky) o.type hel hinf hz3 rfl hzs hyT (a0 := a0) (n := n) (c := c) ho' (by omega) hb1 hb2
      rw [Int.toNat_of_nonneg hm0] at hrun
      have ha' : cl.args = #[x', y'] := by rw [← Array.toList_inj]; simpa using hargs
      have ht' : cl.argTypes = #[sT, yT] := by rw [← Array.toList_inj]; simpa using htys
      obtain ⟨cs, hcs⟩ := zBk (a := a) hop hcal
      have hex : (execOp a.eval o).run P w = .ok (.value (.slice (some ⟨w.heap.size, 0, none⟩) (n + m.toNat) cap)) { w with heap := w.heap.push (.cells (new ++ Builtin.zeroCells z'.cells m.toNat ++ Builtin.zeroCells z'.cells (cap - (n + m.toNat))) e), drawn := w.drawn + 1 } := by
       rw [hcs, ha', ht']
       simp only [builtin, List.map_toArray, List.map_cons, List.map_nil, e2, hry.1]
       simp [hrun]
      rw [hex, Oper.upon_value, g2]
      obtain ⟨t1, t2⟩ := zIj (S := S) (w := w) (ρ := ρ) (z := z') hzs hz m.toNat
      have t3 : (Builtin.zeroCells z'.cells (cap - (n + m.toNat))).size = (cap - (n + m.toNat)) * inf.size := by simp [Builtin.zeroCells, hzs]
      have rows1 : zAd S w ρ (fun i => (new ++ Builtin.zeroCells z'.cells m.toNat ++ Builtin.zeroCells z'.cells (cap - (n + m.toNat)))[i]?) 0 inf.size ((ob.rows.drop lo).take n) [] :=
       zCz _ r2 fun i hi => by
        rw [hlen] at hi
        simp only [Nat.zero_add]
        rw [Array.append_assoc, Array.getElem?_append_left (by omega)]
      have rows2 : zAd S w ρ (fun i => (new ++ Builtin.zeroCells z'.cells m.toNat ++ Builtin.zeroCells z'.cells (cap - (n + m.toNat)))[i]?) (0 + ((ob.rows.drop lo).take n).length * inf.size) inf.size (List.replicate m.toNat (zAB z')) [] :=
       zCz _ t1 fun i hi => by
        rw [List.length_replicate] at hi
        rw [hlen]
        simp only [Nat.zero_add]
        rw [Array.getElem?_append_left (by simp; omega), Array.getElem?_append_right (by omega)]
        congr 1; omega
      have nm : zAA d (List.replicate m.toNat (zAB z')) := by
       intro r hr
       rw [List.eq_of_mem_replicate hr]
       exact zGk d z'
      have := zEy hsx (g3 d rfl) (k := inf.size) (rows := (ob.rows.drop lo).take n ++ List.replicate m.toNat (zAB z')) (arr := new ++ Builtin.zeroCells z'.cells m.toNat ++ Builtin.zeroCells z'.cells (cap - (n + m.toNat))) e (fr := (0, 0)) (cap := cap) (w.drawn + 1) (Fs := []) hpi hno (zFs hself nm) (by simp only [List.length_append, hlen, List.length_replicate]; exact c1) (by
        simp only [Array.size_append, t3, r3, t2, ← Nat.add_mul]
        exact Nat.mul_le_mul_right _ (by omega)) (by intro i _; simp) (zEz rows1 rows2) (by simp) (by simp) (by simp)
      rw [List.length_append, hlen, List.length_replicate] at this
      exact ⟨_, hK, this⟩
     ·cases g1
    ·cases g1
   ·cases g1
  ·cases g1
 all_goals (repeat' split at g1) <;> simp at g1
theorem zUa {M : Type} {a b : Option Addr} {la ca lb cb : Nat} {h1 : Option Addr → Nat → Nat → Option Addr → Nat → Nat → M} {h2 : Array Value → M} : Extern.SlicesOverlaps.overlaps.match_4 (motive := fun _ => M) #[.slice a la ca, .slice b lb cb] h1 h2 = h1 a la ca b lb cb := rfl
theorem zN4 {tS tR e : TypeId} {k : Nat} (hu : P.underlying tS = some (.slice e)) (hw : width P e = some k) {ab bb ao bo la ca lb cb : Nat} {arrA arrB : Array Value} {eA eB : TypeId} {frA frB : Nat × Nat} (hne : ab ≠ bb) (hA : w.heap[ab]? = some (.cells arrA eA frA)) (hB : w.heap[bb]? = some (.cells arrB eB frB))
  (htB : zGH arrB frB) (hbo : bo ≤ arrB.size) (hsA : arrA.size ≠ 0) :
  (Extern.SlicesOverlaps.overlaps #[tS, tS] #[tR] #[.slice (some ⟨ab, ao, none⟩) la ca, .slice (some ⟨bb, bo, none⟩) lb cb]).run P w = .ok (.bool false) w := by
 have hnb : (ab != bb) = true := by simpa using hne
 have hnb' : (ab == bb) = false := by simpa using hne
 have hfb : w.frozen? ⟨bb, bo, none⟩ = false := by
  simp only [World.frozen?, hB]
  have := htB bo hbo
  simp; omega
 have hfe : w.frozen? ⟨bb, arrB.size, none⟩ = false := by
  simp only [World.frozen?, hB]
  have := htB arrB.size (Nat.le_refl _)
  simp; omega
 have hshA : w.shape? ab = some (eA, arrA.size) := by simp [World.shape?, hA]
 have hshB : w.shape? bb = some (eB, arrB.size) := by simp [World.shape?, hB]
 obtain ⟨n, hn⟩ : ∃ n, arrA.size = n + 1 := ⟨arrA.size - 1, by omega⟩
 rw [hn] at hshA
 have hz : ∀ w', (sizeOf e).run P w' = .ok k w' := fun w' => zBf hw w'
 delta Extern.SlicesOverlaps.overlaps
 dsimp only
 rw [zUa]
 by_cases h0 : la = 0 ∨ lb = 0 ∨ k = 0
 ·simp [underlying, hu, hz, h0]
 ·cases hfA : w.frozen? ⟨ab, ao, none⟩ <;> cases hfA2 : w.frozen? ⟨ab, n + 1, none⟩ <;>
   simp [underlying, hu, hz, h0, hnb, hnb', frozen, noView, viewAt, mayBeOne, stringish, shape, Sem.run, hshA, hshB, hfb, hfe, hfA, hfA2]
theorem zN5 {K : St → Prop} {g : Option (Nat × Bool)} {d : Option Nat} {f : Nat} {x y : Operand} {k id lo n : Nat} {rows : List (List T)} {ob : Ob} {tS tR e : TypeId} (hx : s.eval x = some (.sl false k rows)) (hy : s.eval y = some (.ref id lo n)) (ho : lk id s.objs = some ob) (hu : P.underlying tS = some (.slice e)) (hw : width P e = some k)
  (hX : ∀ (vs : Array Value) (w : World), (callFunc f vs).run P w = ((Extern.SlicesOverlaps.overlaps #[tS, tS] #[tR] vs).run P w).andThen fun v w' => .ok (.value v) w') (hk : 0 < k) (hr : 0 < rows.length) (hpos : lo < ob.rows.length)
  (hK : K (s.put d (.v (.bool false)))) : zAt P E ⟨d, g, .xcall f [x, y]⟩ K s := by
 intro o g1 g2 g3 a w ⟨S, ρ, foot, hsx⟩ Q
 simp only at g1 g2 g3
 unfold zBx at g1
 split at g1 <;> try (simp at g1; done)
 case h_23 cl hop =>
  split at g1 <;> try (first | (simp at g1; done) | (repeat' split at g1) <;> simp at g1; done)
  rename_i f' hcal
  split at g1
  ·split at g1
   ·simp at g1
   ·simp only [Option.some.injEq, I.xcall.injEq] at g1
    obtain ⟨rfl, hargs⟩ := g1
    have ha' : cl.args = #[x, y] := by rw [← Array.toList_inj]; simpa using hargs
    obtain ⟨hd, b, off, c, e1, e2, e3, e4, e5, e6⟩ := zKu hsx hy ho hpos
    obtain ⟨hd', q1, q2, q3⟩ := hsx.objs id ob ho
    rw [e1] at q1; simp only [Option.some.injEq] at q1; subst q1
    rcases q3 with ⟨_, q3, _⟩ | ⟨b', off', arr, el, fr, Fs, f1, f2, f3, f4, f5, f6, f7⟩
    ·rw [q3] at hpos; simp at hpos
    rw [e2] at f1; simp at f1; obtain ⟨rfl, rfl⟩ := f1
    have hrx := hsx.eval hx
    simp only [Rep] at hrx
    obtain ⟨a0, cap, x1, x2⟩ := hrx
    rcases x2 with ⟨_, x2, _⟩ | ⟨ab, ao, arrA, eA, frA, FA, rfl, x3, x4, x5, x6, x7⟩
    ·rw [x2] at hr; simp at hr
    have hne : ab ≠ b := fun e => (hsx.mine id ob ho b (by simp [f7])).1 (e ▸ x7.2.1)
    have hck : lo * ob.k ≤ hd.cap * ob.k := Nat.mul_le_mul_right _ (by omega)
    have hsA : arrA.size ≠ 0 := by
     have : 1 * 1 ≤ cap * k := Nat.mul_le_mul (by omega) hk
     omega
    have hrun := zN4 (P := P) (w := w) (tR := tR) (ao := ao) (bo := off + lo * ob.k) (la := rows.length) (ca := cap) (lb := n) (cb := c) hu hw hne x3 f2 f5 (by omega) hsA
    have ex : (execOp a.eval o).run P w = (callFunc f' (cl.args.map a.eval)).run P w := by
     simp [execOp, hop, resolve, hcal, Act.eval, Deferred.ofValue, invoke]
    have hv : cl.args.map a.eval = #[.slice (some ⟨ab, ao, none⟩) rows.length cap, .slice (some ⟨b, off + lo * ob.k, none⟩) n c] := by
     rw [ha']; simp [x1, e6]
    rw [ex, hv, hX, hrun, Result.andThen_ok, Oper.upon_value, g2]
    exact ⟨_, hK, S, ρ, foot, hsx.put g3 (by simp [Rep])⟩
  ·cases g1
 all_goals (repeat' split at g1) <;> simp at g1
def zBs (k : Nat) : List T := List.replicate k .any
theorem zFw {cell : Nat → Option Value} {k : Nat} : ∀ (n b : Nat), (∀ i, i < n * k → (cell (b + i)).isSome = true) → zAd S w ρ cell b k (List.replicate n (zBs k)) []
 | 0, _, _ => by simp [zAd]
 | n + 1, b, h => by
  rw [List.replicate_succ]
  simp only [zAd]
  refine ⟨[], [], by simp [zBs], zGj k b fun i hi => h i (by rw [Nat.succ_mul]; omega), zFw n (b + k) fun i hi => ?_, rfl⟩
  have := h (k + i) (by rw [Nat.succ_mul]; omega)
  rwa [Nat.add_assoc]
theorem zUb {id c : Nat} {ob : Ob} (ho : lk id s.objs = some ob) (hF : E.FullAt id c) : Ent E s (s.re id ⟨ob.k, ob.rows ++ List.replicate (c - ob.rows.length) (zBs ob.k)⟩) := by
 rintro a w ⟨S, ρ, foot, h⟩
 obtain ⟨hd, e1, e2, e3⟩ := h.objs id ob ho
 have hL := zIk h hF e1
 rcases e3 with ⟨q1, q2, q3⟩ | ⟨b, off, arr, el, fr, Fs, f1, f2, f3, f4, f5, f6, f7⟩
 ·refine ⟨S, ρ, _, h.re (F' := foot id) ho e1 (List.Sublist.refl _) ⟨e2, .inl ⟨q1, ?_, q3⟩⟩⟩
  simp [q2]; omega
 ·refine ⟨S, ρ, _, h.re (F' := foot id) ho e1 (List.Sublist.refl _) ⟨e2, .inr ⟨b, off, arr, el, fr, Fs ++ [], f1, f2, by simp; omega, f4, f5, zEz f6 (zFw _ _ fun i hi => ?_), by simpa using f7⟩⟩⟩
  have h1 : ob.rows.length * ob.k + (c - ob.rows.length) * ob.k = c * ob.k := by rw [← Nat.add_mul]; congr 1; omega
  rw [← hL] at h1
  have hi : i < (c - ob.rows.length) * ob.k := hi
  have : off + ob.rows.length * ob.k + i < arr.size := by rw [hL] at f4; rw [hL] at h1; omega
  simp [this]
def zWS (id n : Nat) (r : Prop × St) : Option Ob → Prop × St
 | some ob => ((r.1 ∧ n ≤ ob.rows.length), r.2.re id ⟨ob.k, ob.rows.take n⟩)
 | none => r
def zN6 (r : Prop × St) : Option T → Prop × St
 | some (.ref id lo n) => zWS id (lo + n) r (lk id r.2.objs)
 | _ => r
theorem zUc {id n : Nat} {ob : Ob} (ho : lk id s.objs = some ob) : Ent E s (s.re id ⟨ob.k, ob.rows.take n⟩) := by
 rintro a w ⟨S, ρ, foot, h⟩
 obtain ⟨hd, e1, e2, e3⟩ := h.objs id ob ho
 rcases e3 with ⟨q1, q2, q3⟩ | ⟨b, off, arr, el, fr, Fs, f1, f2, f3, f4, f5, f6, f7⟩
 ·exact ⟨S, ρ, _, h.re (F' := foot id) ho e1 (List.Sublist.refl _) ⟨e2, .inl ⟨q1, by simp [q2], q3⟩⟩⟩
 ·obtain ⟨G, g1, g2⟩ := zHJ (n := n) f6 0 (Nat.zero_le _)
  refine ⟨S, ρ, _, h.re (F' := b :: G) ho e1 (by rw [f7]; exact List.Sublist.cons_cons b g2) ⟨e2, .inr ⟨b, off, arr, el, fr, G, f1, f2, by simp; omega, f4, f5, by simpa using g1, rfl⟩⟩⟩
theorem zN7 {o : Option T} {s0 : St} {r : Prop × St} (h : r.1 → Ent E s0 r.2) (hc : (zN6 r o).1) : r.1 ∧ Ent E s0 (zN6 r o).2 := by
 unfold zN6 at hc ⊢
 split
 ·rename_i id lo n
  simp only at hc
  cases ho : lk id r.2.objs with
  | none => rw [ho] at hc; exact ⟨hc, h hc⟩
  | some ob => rw [ho] at hc; exact ⟨hc.1, (h hc.1).trans (zUc ho)⟩
 ·rename_i h1
  split at hc
  ·exact absurd rfl (h1 _ _ _)
  ·exact ⟨hc, h hc⟩
def zUd (s : St) (id lo n : Nat) : Option Ob → St
 | some ob => s.re id ⟨ob.k, zAo ob.rows lo (List.replicate n (zBs ob.k))⟩
 | none => s
def mvP (s : St) : T → St
 | .ref id lo n => zUd s id lo n (lk id s.objs)
 | _ => s
theorem zLv {cell : Nat → Option Value} {k : Nat} {l : List (List T)} {b n lo : Nat} {F : List Nat} (h : zAd S w ρ cell b k l F) (hi : lo + n ≤ l.length) :
  ∃ F1 G F2, F = F1 ++ G ++ F2 ∧ zAd S w ρ cell (b + lo * k) k ((l.drop lo).take n) G ∧ ∀ m : List (List T), m.length = n → zAd S w ρ cell (b + lo * k) k m [] → zAd S w ρ cell b k (zAo l lo m) (F1 ++ F2) := by
 rw [zAk] at h
 obtain ⟨h1, h2⟩ := h
 have e : l = l.take lo ++ ((l.drop lo).take n ++ (l.drop lo).drop n) := by rw [List.take_append_drop, List.take_append_drop]
 rw [e, List.flatten_append, List.flatten_append] at h2
 obtain ⟨F1, F2, f1, f2, rfl⟩ := (zAr _ _ _ _).1 h2
 obtain ⟨G1, G2, g1, g2, rfl⟩ := (zAr _ _ _ _).1 f2
 have l1 : (l.take lo).flatten.length = lo * k := by rw [zAV (fun r hr => h1 r (List.mem_of_mem_take hr)), List.length_take, Nat.min_eq_left (by omega)]
 have l2 : ((l.drop lo).take n).flatten.length = n * k := by rw [zAV (fun r hr => h1 r (List.mem_of_mem_drop (List.mem_of_mem_take hr))), List.length_take, List.length_drop, Nat.min_eq_left (by omega)]
 rw [l1] at g1 g2
 refine ⟨F1, G1, G2, by simp, zAk _ _ _ |>.2 ⟨fun r hr => h1 r (List.mem_of_mem_drop (List.mem_of_mem_take hr)), g1⟩, fun m hm hr => ?_⟩
 obtain ⟨q1, q2⟩ := (zAk _ _ _).1 hr
 refine (zAk _ _ _).2 ⟨fun r hr => ?_, ?_⟩
 ·unfold zAo at hr
  rcases List.mem_append.1 hr with hr | hr
  ·rcases List.mem_append.1 hr with hr | hr
   ·exact h1 r (List.mem_of_mem_take hr)
   ·exact q1 r hr
  ·exact h1 r (List.mem_of_mem_drop hr)
 ·unfold zAo
  rw [List.flatten_append, List.flatten_append, List.append_assoc]
  refine (zAr _ _ _ _).2 ⟨F1, G2, f1, (zAr _ _ _ _).2 ⟨[], G2, by rw [l1]; exact q2, ?_, rfl⟩, rfl⟩
  rw [l1, zAV q1, hm]
  rw [l2] at g2
  rwa [← List.drop_drop] 
theorem zUe (h : SimX E s a w S ρ foot) {y : Operand} {s0 : St} (h0 : SimX E s0 a w S ρ foot) (hsub : ∀ id2 ob2, lk id2 s0.objs = some ob2 → lk id2 s.objs = some ob2) {k : Nat} {t : T} (hy : s.eval y = some t) {c : Prop} {ry : List (List T)} (hb : zDD s k t = some (c, ry)) (hc : c) (hs : ry.all (fun r => r.all T.mov) = true) (hm : zLi s0 t) :
  ∃ foot', SimX E (mvP s0 t) a w S ρ foot' ∧ ∃ id ob, lk id s0.objs = some ob ∧ (∀ id2 ob2, lk id2 (mvP s0 t).objs = some ob2 → id2 = id ∨ (id2 ≠ id ∧ lk id2 s0.objs = some ob2)) ∧ (∀ i, i ≠ id → foot' i = foot i) ∧ (foot' id).Sublist (foot id) ∧
   ∃ (new : Array Value) (G : List Nat), G.Sublist (foot id) ∧ (∀ b, b ∈ G → b ∉ foot' id) ∧ Src P w k ry.length (a.eval y) new ∧ zAd S w ρ (fun i => new[i]?) 0 k ry G ∧ new.size = ry.length * k ∧ ∀ v ∈ new.toList, v.oneCell' = true := by
 have hr := h.eval hy
 obtain ⟨id, lo, n, rfl⟩ : ∃ id lo n, t = .ref id lo n := by
  unfold zLi at hm
  split at hm
  ·exact ⟨_, _, _, rfl⟩
  ·exact hm.elim
 simp only [zLi] at hm
 obtain ⟨ob, ho0⟩ := Option.isSome_iff_exists.1 hm
 have ho := hsub id ob ho0
 simp only [zDD, ho, Option.some.injEq, Prod.mk.injEq] at hb
 obtain ⟨rfl, rfl⟩ := hb
 obtain ⟨rfl, hle⟩ := hc
 simp only [Rep] at hr
 obtain ⟨_, hd, a0, c, e1, e2, e3, e4, e5⟩ := hr
 obtain ⟨hd', e6, e7, e8⟩ := h.objs id ob ho
 rw [e1] at e6; simp at e6; subst e6
 have hlen : ((ob.rows.drop lo).take n).length = n := by rw [List.length_take, List.length_drop]; omega
 rw [hlen]
 have fin : ∀ (F' : List Nat) (new : Array Value) (G : List Nat), F'.Sublist (foot id) → zEH S w ρ ⟨ob.k, zAo ob.rows lo (List.replicate n (zBs ob.k))⟩ hd F' → G.Sublist (foot id) → (∀ b, b ∈ G → b ∉ F') → Src P w ob.k n (a.eval y) new → zAd S w ρ (fun i => new[i]?) 0 ob.k ((ob.rows.drop lo).take n) G → new.size = n * ob.k →
   ∃ foot', SimX E (mvP s0 (.ref id lo n)) a w S ρ foot' ∧ ∃ id1 ob1, lk id1 s0.objs = some ob1 ∧ (∀ id2 ob2, lk id2 (mvP s0 (.ref id lo n)).objs = some ob2 → id2 = id1 ∨ (id2 ≠ id1 ∧ lk id2 s0.objs = some ob2)) ∧ (∀ i, i ≠ id1 → foot' i = foot i) ∧ (foot' id1).Sublist (foot id1) ∧
   ∃ (new : Array Value) (G : List Nat), G.Sublist (foot id1) ∧ (∀ b, b ∈ G → b ∉ foot' id1) ∧ Src P w ob.k n (a.eval y) new ∧ zAd S w ρ (fun i => new[i]?) 0 ob.k ((ob.rows.drop lo).take n) G ∧ new.size = n * ob.k ∧ ∀ v ∈ new.toList, v.oneCell' = true := by
  intro F' new G k1 k2 k3 k4 k5 k6 k7
  have e : mvP s0 (.ref id lo n) = s0.re id ⟨ob.k, zAo ob.rows lo (List.replicate n (zBs ob.k))⟩ := by simp only [mvP, ho0, zUd]
  refine ⟨_, by rw [e]; exact h0.re ho0 e1 k1 k2, id, ob, ho0, fun id2 ob2 hl => ?_, fun i hi => by simp [hi], by simpa using k1, new, G, k3, by simpa using k4, k5, k6, k7, fun v hv => ?_⟩
  ·rw [e] at hl
   rcases zFV hl with ⟨q, _⟩ | q
   ·exact .inl q
   ·exact .inr q
  ·obtain ⟨g1, g2⟩ := (zAk _ _ _).1 k6
   obtain ⟨i, hi⟩ := List.getElem?_of_mem hv
   have hlt := (List.getElem?_eq_some_iff.1 hi).1
   exact zNO (zGl hs) g2 i v (by rw [zAV g1, hlen]; simp at hlt; omega) (by simpa using hi)
 by_cases hn0 : n = 0
 ·have hrows : zAo ob.rows lo (List.replicate n (zBs ob.k)) = ob.rows := by subst hn0; simp [zAo]
  refine fin (foot id) #[] [] (List.Sublist.refl _) ?_ (List.nil_sublist _) (by simp) ?_ (by subst hn0; simp [zAd]) (by subst hn0; simp)
  ·rw [hrows]; exact ⟨e7, e8⟩
  ·subst hn0; rw [e2]; exact zFr
 rcases e8 with ⟨e8, e9, _⟩ | ⟨b, off, arr, el, fr, Fs, f1, f2, f3, f4, f5, f6, f7⟩
 ·exfalso; rw [e9] at hle; simp at hle; omega
 ·rcases e5 with e5 | ⟨b', off', e5, rfl⟩
  ·exfalso; omega
  ·rw [f1] at e5; simp at e5; obtain ⟨rfl, rfl⟩ := e5
   obtain ⟨F1, G, F2, rfl, g1, g2⟩ := zLv (n := n) (lo := lo) f6 hle
   have hcc : (lo + n) * ob.k ≤ hd.cap * ob.k := Nat.mul_le_mul_right _ (by omega)
   rw [Nat.add_mul] at hcc
   have hsz : (arr.extract (off + lo * ob.k) (off + lo * ob.k + n * ob.k)).size = n * ob.k := by simp; omega
   have hnd := h.nodup id ob ho
   rw [f7] at hnd
   have hput := g2 (List.replicate n (zBs ob.k)) (by simp) (zFw n _ fun i hi => by
    have : off + lo * ob.k + i < arr.size := by omega
    simp [this])
   have hpl : (zAo ob.rows lo (List.replicate n (zBs ob.k))).length = ob.rows.length := zBe (by simpa using hle)
   refine fin (b :: (F1 ++ F2)) (arr.extract (off + lo * ob.k) (off + lo * ob.k + n * ob.k)) G ?_ ⟨e7, .inr ⟨b, off, arr, el, fr, F1 ++ F2, f1, f2, by simp only [hpl]; exact f3, f4, f5, hput, rfl⟩⟩ ?_ ?_ ?_ ?_ hsz
   ·rw [f7]
    refine List.Sublist.cons_cons b ?_
    rw [List.append_assoc]
    exact List.Sublist.append (List.Sublist.refl _) (List.sublist_append_right _ _)
   ·rw [f7]
    exact List.Sublist.cons b ((List.sublist_append_right _ _).trans (List.sublist_append_left _ _))
   ·intro c hc hc2
    rw [List.nodup_cons, List.nodup_append, List.nodup_append] at hnd
    obtain ⟨n1, ⟨_, _, n2⟩, _, n3⟩ := hnd
    rcases List.mem_cons.1 hc2 with rfl | hc2
    ·exact n1 (by simp [hc])
    ·rcases List.mem_append.1 hc2 with hc2 | hc2
     ·exact n2 c hc2 c hc rfl
     ·exact n3 c (by simp [hc]) c hc2 rfl
   ·rw [e2, e7]
    exact zH3 f2 (by omega)
   ·obtain ⟨q1, q2⟩ := (zAk _ _ _).1 g1
    exact (zAk _ _ _).2 ⟨q1, (zCb q2 (by rw [zAV q1, hlen])).2⟩
theorem zVL {i : IN} {K : St → Prop} {k bytes d : Nat} {z : Value} {x y : Operand} {tx tyy : T} {c1 c2 : Prop} {rb ry : List (List T)} {s0 : St} (hi : i.i = .app k bytes z x y) (hd : i.dst = some d) (hx : s.eval x = some tx) (hy : s.eval y = some tyy)
  (hb : zHc s k tx = some (c1, rb, s0)) (hc1 : c1) (hsr : zDD s k tyy = some (c2, ry)) (hc2 : c2) (hs : ry.all (fun r => r.all T.mov) = true) (hmv : zLi s0 tyy)
  (hb1 : (rb.length + ry.length) * bytes ≤ 140737488355328) (hb2 : rb.length + ry.length ≤ 9223372036854775807)
  (hpi : E.okd d) (hno : zAn d (mvP s0 tyy).objs) (hself : zAA d rb) (hself2 : zAA d ry) (hK : K (((mvP s0 tyy).new d ⟨k, rb ++ ry⟩).set d (.ref d 0 (rb.length + ry.length)))) : zAt P E i K s := by
 intro o g1 g2 g3 a w ⟨S, ρ, foot, hsx⟩ Q
 rw [hi] at g1
 unfold zBx at g1
 split at g1 <;> try (simp at g1; done)
 case h_23 cl hop =>
  split at g1 <;> try (first | (simp at g1; done) | (repeat' split at g1) <;> simp at g1; done)
  rename_i hcal
  split at g1
  ·rename_i x' y' sT yT hargs htys
   split at g1
   ·rename_i e hes hyt
    split at g1
    ·rename_i inf z' hinf hz'
     split at g1
     ·rename_i hzs
      simp only [Option.some.injEq, I.app.injEq] at g1
      obtain ⟨rfl, rfl, rfl, rfl, rfl⟩ := g1
      have hel : P.underlying sT = some (.slice e) := by
       unfold zA4 at hes; split at hes <;> simp at hes; subst hes; assumption
      have hyT : (∃ e2, P.underlying yT = some (.slice e2)) ∨ P.underlying yT = some .string := by
       split at hyt
       ·rename_i e2 h2; exact .inl ⟨e2, h2⟩
       ·rename_i h2; exact .inr h2
       ·cases hyt
      have hz3 : inf.zero = some z' := by simpa [zeroOf, hinf] using hz'
      obtain ⟨q1, F, q2, q3, q4, q5, q6⟩ := zPR hsx hx hb hc1
      obtain ⟨foot', m1, id, obm, m2, m3, m5, m6, new, G, m4, m7, r1, r2, r3, r4⟩ := zUe (P := P) hsx q1 q6 hy hsr hc2 hs hmv
      have hsm := q6 id obm m2
      obtain ⟨v, w', hrun, hsim⟩ := zNN (P := P) m1 (g3 d hd) (rb := rb) (ry := ry) o.type hel hinf hz3 hzs rfl hyT q2 r1 rfl r2 r3 r4 hb1 hb2 hpi hno (zFs hself hself2)
       (List.nodup_append.2 ⟨q3, m4.nodup (hsx.nodup id obm hsm), fun c hc d hd e => q5 id obm m2 c hc (e ▸ m4.subset hd)⟩)
       (fun c hc => (List.mem_append.1 hc).elim (q4 c) fun hc => hsx.mine id obm hsm c (m4.subset hc))
       (fun d' ob' hl' c hc => by
        rcases m3 d' ob' hl' with n1 | ⟨n1, n2⟩
        ·subst n1
         rcases List.mem_append.1 hc with hc | hc
         ·exact fun hc2 => q5 _ obm m2 c hc (m6.subset hc2)
         ·exact m7 c hc
        ·rw [m5 d' n1]
         rcases List.mem_append.1 hc with hc | hc
         ·exact q5 d' ob' n2 c hc
         ·exact hsx.apart id obm d' ob' hsm (q6 d' ob' n2) (Ne.symm n1) c (m4.subset hc))
      have ha' : cl.args = #[x', y'] := by rw [← Array.toList_inj]; simpa using hargs
      have ht' : cl.argTypes = #[sT, yT] := by rw [← Array.toList_inj]; simpa using htys
      obtain ⟨cs, hcs⟩ := zBk (a := a) hop hcal
      have : (execOp a.eval o).run P w = .ok (.value v) w' := by
       rw [hcs, ha', ht']
       simp [builtin, hrun]
      rw [this, Oper.upon_value, g2, hd]
      exact ⟨_, hK, hsim⟩
     ·cases g1
    ·cases g1
   all_goals ((repeat' split at g1) <;> simp at g1)
  ·cases g1
 all_goals (repeat' split at g1) <;> simp at g1
def zWT : Option T → Option T → Option T
 | some (.ref id lo _), some (.v (.int _ z)) => some (.ptr id (lo + z.toNat) 0)
 | _, _ => none
def zEd : List (Nat × Nat × List (Nat × Nat)) → Prop × St → Prop × St
 | [], r => r
 | (n, _, []) :: ms, r => zEd ms (zN6 r (lk n r.2.slots))
 | (n, 0, c :: cs) :: ms, r => zEd ms (zLu 1 cs r (zWT (lk n r.2.slots) (lk c.1 r.2.slots)))
 | (n, m + 1, c :: cs) :: ms, r => zEd ms (zLu (m + 1) (c :: cs) r (lk n r.2.slots))
theorem zFx : ∀ {ms : List (Nat × Nat × List (Nat × Nat))} {r : Prop × St}, (r.1 → Ent E s r.2) → (zEd ms r).1 → r.1 ∧ Ent E s (zEd ms r).2
 | [], r, h, hc => by simp only [zEd] at hc ⊢; exact ⟨hc, h hc⟩
 | (n, m, []) :: ms, r, h, hc => by
  simp only [zEd] at hc ⊢
  have := zFx (fun hq => (zN7 h hq).2) hc
  exact ⟨(zN7 h this.1).1, this.2⟩
 | (n, 0, c :: cs) :: ms, r, h, hc => by
  simp only [zEd] at hc ⊢
  have := zFx (fun hq => (zHl h hq).2) hc
  exact ⟨(zHl h this.1).1, this.2⟩
 | (n, m + 1, c :: cs) :: ms, r, h, hc => by
  simp only [zEd] at hc ⊢
  have := zFx (fun hq => (zHl h hq).2) hc
  exact ⟨(zHl h this.1).1, this.2⟩
end
theorem zUf {α : Type} {L Z : List α} {p : Nat} (h : p ≤ L.length) (r : List α) : (L.take p ++ Z ++ r).take p = L.take p := by
 rw [List.append_assoc, List.take_append_of_le_length (by rw [List.length_take]; omega), List.take_take, Nat.min_self]
theorem zUg {R Z : List (List T)} {p : Nat} (h : p ≤ R.length) : (zAo R p Z).take p = R.take p := zUf h _
theorem zIl {R M : List (List T)} {i q : Nat} (hi : i ≤ R.length) (hq : q = i + M.length) : (zAo R i M).take q = R.take i ++ M := by
 subst hq
 have e : (R.take i ++ M).length = i + M.length := by simp; omega
 rw [zAo, ← e, List.take_left']
 rfl
theorem zDE {α : Type} {f : α → List T} {l : List α} {G : List (List T)} {i : Nat} (h : i ≤ l.length) : (l.map f ++ G).take i = (l.take i).map f := by
 rw [List.take_append_of_le_length (by simpa using h), List.map_take]
theorem zLw {α : Type} {f : α → List T} {l : List α} {G : List (List T)} {i : Nat} (h : i ≤ l.length) : ((l.map f ++ G).drop i).take (l.length - i) = (l.drop i).map f := by
 rw [List.drop_append_of_le_length (by simpa using h), List.take_append_of_le_length (by simp), List.take_of_length_le (by simp), List.map_drop]
theorem zEe {α : Type} {f g : α → List T} {l v : List α} {i : Nat} {z : List T} (h : i ≤ l.length) : (zAo ((l.take i).map f ++ List.replicate (l.length + v.length - i) z) i (v.map g)).length = l.length + v.length := by
 rw [zBe (by simp; omega)]; simp; omega
theorem zJR {α : Type} {f g : α → List T} {l v : List α} {i : Nat} {z : List T} (h : i ≤ l.length) : (zAo (zAo ((l.take i).map f ++ List.replicate (l.length + v.length - i) z) i (v.map g)) (i + v.length) ((l.drop i).map f)).length = l.length + v.length := by
 rw [zBe (by rw [zEe h]; simp; omega), zEe h]
theorem zIm {α : Type} {f : α → List T} {l v : List α} {i : Nat} {z : List T} (h : i ≤ l.length) : (zAo (zAo ((l.take i).map f ++ List.replicate (l.length + v.length - i) z) i (v.map fun x => f x)) (i + v.length) ((l.drop i).map f)).take (l.length + v.length) = (l.take i ++ v ++ l.drop i).map f := by
 have e : ((l.take i).map f).length = i := by simp; omega
 rw [zIl (by rw [zEe h]; omega) (by simp; omega), zIl (by simp; omega) (by simp), List.map_append, List.map_append]
 rw [List.take_append_of_le_length (by omega), List.take_of_length_le (by omega)]
theorem zFy {α : Type} {f : α → List T} {l : List α} {m i c : Nat} {z : List T} (h : i ≤ l.length) (hc : l.length + m ≤ c) : (zAo (l.map f ++ List.replicate (c - l.length) z) (i + m) ((l.drop i).map f)).length = c := by
 rw [zBe (by simp; omega)]; simp; omega
theorem zJS {α : Type} {f g : α → List T} {l v : List α} {i c : Nat} {z : List T} (h : i ≤ l.length) (hc : l.length + v.length ≤ c) : (zAo (zAo (l.map f ++ List.replicate (c - l.length) z) (i + v.length) ((l.drop i).map f)) i (v.map g)).length = c := by
 rw [zBe (by rw [zFy h hc]; simp; omega), zFy h hc]
theorem zJT {α : Type} {f : α → List T} {l v : List α} {i c : Nat} {z : List T} (h : i ≤ l.length) (hc : l.length + v.length ≤ c) : (zAo (zAo (l.map f ++ List.replicate (c - l.length) z) (i + v.length) ((l.drop i).map f)) i (v.map fun x => f x)).take (l.length + v.length) = (l.take i ++ v ++ l.drop i).map f := by
 have e1 : (zAo (l.map f ++ List.replicate (c - l.length) z) (i + v.length) ((l.drop i).map f)).take i = (l.take i).map f := by
  rw [zAo, List.append_assoc, List.take_append_of_le_length (by simp; omega), List.take_take, Nat.min_eq_left (by omega), zDE h]
 have e2 : ((zAo (l.map f ++ List.replicate (c - l.length) z) (i + v.length) ((l.drop i).map f)).drop (i + v.length)).take (l.length - i) = (l.drop i).map f := by
  have : ((l.map f ++ List.replicate (c - l.length) z).take (i + v.length)).length = i + v.length := by simp; omega
  rw [zAo, List.append_assoc, List.drop_append_of_le_length (by omega), List.drop_eq_nil_of_le (by omega), List.nil_append, List.take_append_of_le_length (by simp), List.take_of_length_le (by simp)]
 have e3 : (zAo (zAo (l.map f ++ List.replicate (c - l.length) z) (i + v.length) ((l.drop i).map f)) i (v.map fun x => f x)) = (l.take i).map f ++ v.map f ++ (zAo (l.map f ++ List.replicate (c - l.length) z) (i + v.length) ((l.drop i).map f)).drop (i + v.length) := by
  conv => lhs; unfold zAo
  have : (v.map fun x => f x).length = v.length := by simp
  rw [this]
  congr 2
 have l1 : ((l.take i).map f ++ v.map f).length = i + v.length := by simp; omega
 rw [e3, show l.length + v.length = ((l.take i).map f ++ v.map f).length + (l.length - i) by omega, List.take_length_add_append, e2, List.map_append, List.map_append]
theorem zLx {α : Type} {f : α → List T} {l v : List α} : (l.map f ++ v.map fun x => f x).take (l.length + v.length) = l.map f ++ v.map fun x => f x := List.take_of_length_le (by simp)
theorem zHm {α : Type} {f : α → List T} {l : List α} {i j : Nat} (hij : i ≤ j) (hj : j ≤ l.length) : (zAo (l.map f) i (((l.drop j).take (l.length - j)).map f)).length = l.length := by
 rw [zBe (by simp; omega)]; simp
theorem zUh {α : Type} {f : α → List T} {l : List α} {i j : Nat} {z : List T} (hij : i ≤ j) (hj : j ≤ l.length) : (zAo (zAo (l.map f) i (((l.drop j).take (l.length - j)).map f)) (i + (l.length - j)) (List.replicate (l.length - (i + (l.length - j))) z)).length = l.length := by
 rw [zBe (by rw [zHm hij hj]; simp; omega), zHm hij hj]
theorem zUi {α : Type} {f : α → List T} {l : List α} {i j : Nat} {Z : List (List T)} (hij : i ≤ j) (hj : j ≤ l.length) : (zAo (zAo (l.map f) i (((l.drop j).take (l.length - j)).map f)) (i + (l.length - j)) Z).take (i + (l.length - j)) = (l.take i ++ l.drop j).map f := by
 have e : (l.drop j).take (l.length - j) = l.drop j := List.take_of_length_le (by simp)
 rw [zUg (by rw [zHm hij hj]; omega), e, zIl (by simp; omega) (by simp), List.map_append, List.map_take]
end Go.Am

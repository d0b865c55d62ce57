import Derived.Test.YtbomnfkdccemmaaGreatAmTac
import Derived.Test.YtbomnfkdccemmaaGreatAmCallv
import Derived.Test.YtbomnfkdccemmaaGreatAmRop
import Derived.Test.YtbomnfkdccemmaaGreatAmNest
import Derived.Test.YtbomnfkdccemmaaGreatAmIns
set_option linter.all false
namespace Go.Am
open Go Go.RowKit
def mvC (s : St) (t : T) (ry : List (List T)) : Bool → Prop
 | true => True
 | false => ry.all (fun r => r.all T.mov) = true ∧ zMu s t
def mvS (s : St) (t : T) : Bool → St
 | true => s
 | false => mvP s t
def zLH : T → T → Bool
 | .ref id _ _, .ref id' _ _ => Nat.beq id id'
 | _, _ => false
def lkT (s : St) : T → Option Ob
 | .ref id _ _ => lk id s.objs
 | _ => none
def zAZ (s : St) (d k : Nat) : Option Ob → T → T → Option (Prop × St)
 | some ob, .ref id lo n, .ref _ lo2 n2 => some (ob.k = k ∧ lo + n < ob.rows.length ∧ lo + n + n2 ≤ ob.rows.length ∧ lo2 + n2 ≤ ob.rows.length ∧ ((ob.rows.drop lo2).take n2).all (fun r => r.all T.storable) = true,
   (s.upd id ⟨k, zAl ob.rows (lo + n) ((ob.rows.drop lo2).take n2)⟩).set d (.ref id lo (n + n2)))
 | _, _, _ => none
def appG (E : Env) (s : St) (d k bytes : Nat) (ty : T) : Option (Prop × List (List T) × St) → Option (Prop × List (List T)) → Option (Prop × St)
 | some (c1, rb, s0), some (c2, ry) =>
  some (c1 ∧ c2 ∧ mvC s0 ty ry (ry.all (fun r => r.all T.storable)) ∧ ((rb.length + ry.length) * bytes ≤ 140737488355328 ∧ rb.length + ry.length ≤ 9223372036854775807) ∧ E.okd d ∧ zAk d (mvS s0 ty (ry.all (fun r => r.all T.storable))).objs ∧ zAv d rb ∧ zAv d ry, ((mvS s0 ty (ry.all (fun r => r.all T.storable))).new d ⟨k, rb ++ ry⟩).set d (.ref d 0 (rb.length + ry.length)))
 | _, _ => none
def zSA (s : St) (k : Nat) (z : Value) (id lo n : Nat) : Option Ob → Option (Prop × St)
 | some ob => some (ob.k = k ∧ (zAw z).length = k ∧ (zAw z).all T.storable = true ∧ lo < ob.rows.length ∧ 0 < n ∧ lo + n ≤ ob.rows.length, s.upd id ⟨k, zAl ob.rows lo (List.replicate n (zAw z))⟩)
 | none => none
def zSB (E : Env) (s : St) (d : Option Nat) (id lo n : Nat) : Option Ob → Option (Prop × St)
 | some ob => some (E.FullAt id ob.rows.length, s.put d (.v (.int .i64 ((ob.rows.length - lo : Nat) : Int))))
 | none => none
def zSC (s : St) (d : Option Nat) (k id lo n : Nat) (ty : T) : Option Ob → Option (Prop × List (List T)) → Option (Prop × St)
 | some ob, some (c2, ry) => some (c2 ∧ zKX ty ∧ ob.k = k ∧ lo < ob.rows.length ∧ lo + ry.length ≤ ob.rows.length ∧ ry.all (fun r => r.all T.storable) = true ∧ ry.length = min n (zGf ty), (s.upd id ⟨k, zAl ob.rows lo ry⟩).put d (.v (.int .i64 ry.length)))
 | _, _ => none
def zSD (E : Env) (s : St) (d k bytes : Nat) (z : Value) (id lo n : Nat) (m : Int) : Option Ob → Option (Prop × St)
 | some ob => some (ob.k = k ∧ E.FullAt id ob.rows.length ∧ lo + n ≤ ob.rows.length ∧ 0 ≤ m ∧ ob.rows.length < lo + n + m.toNat ∧ ((ob.rows.drop lo).take n).all (fun r => r.all T.storable) = true ∧ (zAw z).length = k ∧ ((n + m.toNat) * bytes ≤ 140737488355328 ∧ n + m.toNat ≤ 9223372036854775807) ∧ E.okd d ∧ zAk d s.objs ∧ zAv d ((ob.rows.drop lo).take n),
   (s.new d ⟨k, (ob.rows.drop lo).take n ++ List.replicate m.toNat (zAw z)⟩).set d (.ref d 0 (n + m.toNat)))
 | none => none
def zCr (E : Env) (s : St) : Option Nat → I → Option (Prop × St)
 | some d, .alloc z => some (E.okd d ∧ zAk d s.objs, (s.new d ⟨(zAw z).length, [zAw z]⟩).set d (.ptr d 0 0))
 | some d, .box x =>
  match s.eval x with
  | some t =>
   match t.cells with
   | some row => some (t.plainV = true ∧ E.okd d ∧ zAk d s.objs ∧ zAH d row, (s.new d ⟨row.length, [row]⟩).set d (.ptr d 0 0))
   | none => none
  | none => none
 | none, .store n x v =>
  match s.eval x, s.eval v with
  | some (.ptr id j q), some t =>
   match lk id s.objs, t.cells with
   | some ob, some cs => some (cs.length = n ∧ t.plainV = true ∧ cs.all T.storable = true ∧ j < ob.rows.length ∧ q + n ≤ ob.k, s.upd id ⟨ob.k, zCR ob.rows j q cs⟩)
   | _, _ => none
  | _, _ => none
 | some d, .bsl k z n parts =>
  match zDc s k parts with
  | some l =>
   match zDW (List.replicate (n * k) .any) l with
   | some flat => some (l.all (fun q => q.2.2.plainV) = true ∧ flat.length = n * k ∧ E.okd d ∧ zAk d s.objs ∧ zAv d (chunks k n flat), (s.new d ⟨k, chunks k n flat⟩).set d (.ref d 0 n))
   | none => none
  | none => none
 | some d, .mks k bytes z x y =>
  match s.eval x, s.eval y with
  | some (.v (.int _ l)), some (.v (.int _ c)) => some ((0 ≤ l ∧ l ≤ c ∧ c ≤ 9223372036854775807 ∧ bytes * c ≤ 281474976710656) ∧ (zAw z).length = k ∧ E.okd d ∧ zAk d s.objs, (s.new d ⟨k, List.replicate l.toNat (zAw z)⟩).set d (.ref d 0 l.toNat))
  | _, _ => none
 | some d, .app k bytes z x y =>
  match s.eval x, s.eval y with
  | some tx, some ty => bif zLH tx ty then zAZ s d k (lkT s tx) tx ty else appG E s d k bytes ty (zH0 s k tx) (zD0 s k ty)
  | _, _ => none
 | some d, .apz k bytes z x y =>
  match s.eval x, s.eval y with
  | some (.ref id lo n), some (.v (.int _ m)) => zSD E s d k bytes z id lo n m (lk id s.objs)
  | _, _ => none
 | none, .clr k z x =>
  match s.eval x with
  | some (.ref id lo n) => zSA s k z id lo n (lk id s.objs)
  | _ => none
 | d, .capo x =>
  match s.eval x with
  | some (.ref id lo n) => zSB E s d id lo n (lk id s.objs)
  | _ => none
 | d, .cpy k x y =>
  match s.eval x, s.eval y with
  | some (.ref id lo n), some ty => zSC s d k id lo n ty (lk id s.objs) (zD0 s k (zKW n ty))
  | _, _ => none
 | some d, .load m x =>
  match s.eval x with
  | some (.ptr id i o) =>
   match lk id s.objs with
   | some ob => ldE E s d m id i o (i < ob.rows.length) (zAT m ((ob.rows.getD i []).drop o))
   | none => none
  | _ => none
 | _, _ => none
section
variable {P : Program} {E : Env} {s : St}
theorem zXR {d : Option Nat} {g : Option (Nat × Bool)} {i : I} {K : St → Prop} {p : Prop} {s' : St} (h : zCr E s d i = some (p, s')) (hp : p) (hK : K s') : zAp P E ⟨d, g, i⟩ K s := by
 unfold zCr at h
 split at h
 ·simp only [Option.some.injEq, Prod.mk.injEq] at h; obtain ⟨rfl, rfl⟩ := h
  exact zUb hp.1 hp.2 hK
 ·split at h
  ·rename_i hx
   split at h
   ·rename_i hc
    simp only [Option.some.injEq, Prod.mk.injEq] at h; obtain ⟨rfl, rfl⟩ := h
    exact zXI hx hc hp.1 hp.2.1 hp.2.2.1 hp.2.2.2 hK
   ·cases h
  ·cases h
 ·split at h
  ·rename_i hx hv
   split at h
   ·rename_i ho hc
    simp only [Option.some.injEq, Prod.mk.injEq] at h; obtain ⟨rfl, rfl⟩ := h
    exact zUc hx ho hv hc hp.1 hp.2.1 hp.2.2.1 hp.2.2.2.1 hp.2.2.2.2 hK
   ·cases h
  ·cases h
 ·split at h
  ·rename_i hl
   split at h
   ·rename_i hf
    simp only [Option.some.injEq, Prod.mk.injEq] at h; obtain ⟨rfl, rfl⟩ := h
    exact zXJ hl hp.1 hf hp.2.1 hp.2.2.1 hp.2.2.2.1 hp.2.2.2.2 hK
   ·cases h
  ·cases h
 ·split at h
  ·rename_i hx hy
   simp only [Option.some.injEq, Prod.mk.injEq] at h; obtain ⟨rfl, rfl⟩ := h
   exact zYN rfl rfl hx hy hp.1.1 hp.1.2.1 hp.1.2.2.1 hp.1.2.2.2 hp.2.1 hp.2.2.1 hp.2.2.2 hK
  ·cases h
 ·split at h
  ·rename_i hx hy
   rename_i tx ty
   cases hsm : zLH tx ty with
   | true =>
    rw [hsm, cond_true] at h
    unfold zAZ at h
    split at h
    ·rename_i ob id lo n id2 lo2 n2 ho
     simp only [Option.some.injEq, Prod.mk.injEq] at h; obtain ⟨rfl, rfl⟩ := h
     simp only [zLH] at hsm
     have := Nat.eq_of_beq_eq_true hsm
     subst this
     obtain ⟨p1, p2, p3, p4, p5⟩ := hp
     exact zXN hx hy ho p1 p2 p3 p4 p5 hK
    ·cases h
   | false =>
    rw [hsm, cond_false] at h
    unfold appG at h
    split at h
    ·rename_i c1 rb s0 c2 ry hb hsr
     simp only [Option.some.injEq, Prod.mk.injEq] at h; obtain ⟨rfl, rfl⟩ := h
     obtain ⟨p1, p2, p3, ⟨p4, p5⟩, p6, p7, p8, p9⟩ := hp
     cases hst : (ry.all fun r => r.all T.storable) with
     | true =>
      rw [hst] at p7 hK
      exact zYO rfl rfl hx hy hb p1 hsr p2 hst p4 p5 p6 p7 p8 p9 hK
     | false =>
      rw [hst] at p3 p7 hK
      exact zXQ rfl rfl hx hy hb p1 hsr p2 p3.1 p3.2 p4 p5 p6 p7 p8 p9 hK
    ·cases h
  ·cases h
 ·split at h
  ·rename_i hx hy
   unfold zSD at h
   split at h
   ·rename_i ho
    simp only [Option.some.injEq, Prod.mk.injEq] at h; obtain ⟨rfl, rfl⟩ := h
    obtain ⟨p1, p2, p3, p4, p5, p6, p7, ⟨p8, p9⟩, p10, p11, p12⟩ := hp
    exact zYX hx hy ho p1 p2 p3 p4 p5 p6 p7 p8 p9 p10 p11 p12 hK
   ·cases h
  ·cases h
 ·split at h
  ·rename_i hx
   unfold zSA at h
   split at h
   ·rename_i ho
    simp only [Option.some.injEq, Prod.mk.injEq] at h; obtain ⟨rfl, rfl⟩ := h
    obtain ⟨p1, p2, p3, p4, p5, p6⟩ := hp
    exact zYV hx ho p1 p2 p3 p4 p5 p6 hK
   ·cases h
  ·cases h
 ·split at h
  ·rename_i hx
   unfold zSB at h
   split at h
   ·rename_i ho
    simp only [Option.some.injEq, Prod.mk.injEq] at h; obtain ⟨rfl, rfl⟩ := h
    exact zXP hx hp fun _ => hK
   ·cases h
  ·cases h
 ·split at h
  ·rename_i hx hy
   unfold zSC at h
   split at h
   ·rename_i ho hsr
    simp only [Option.some.injEq, Prod.mk.injEq] at h; obtain ⟨rfl, rfl⟩ := h
    obtain ⟨p1, p2, p3, p4, p5, p6, p7⟩ := hp
    exact zYW hx hy ho hsr p1 p2 p3 p4 p5 p6 p7 hK
   ·cases h
  ·cases h
 ·split at h
  ·rename_i hx
   split at h
   ·rename_i ho
    exact zYT hx ho h hp hK
   ·cases h
  ·cases h
 ·cases h
end
def zHe (d d' id : Nat) : Nat := bif Nat.beq id d then d' else id
mutual
def T.ren (d d' : Nat) : T → T
 | .ref id lo n => .ref (zHe d d' id) lo n
 | .ptr id i o => .ptr (zHe d d' id) i o
 | .agg row => .agg (zCT d d' row)
 | .tup l => .tup (zCT d d' l)
 | .fn f caps => .fn f (zCT d d' caps)
 | .any => .any
 | .v x => .v x
 | .sl o k rows => .sl o k rows
 | .bx o row => .bx o row
def zCT (d d' : Nat) : List T → List T
 | [] => []
 | t :: ts => t.ren d d' :: zCT d d' ts
end
theorem zDP (d d' : Nat) : ∀ l : List T, (zCT d d' l).length = l.length
 | [] => rfl
 | t :: ts => by simp [zCT, zDP d d' ts]
section
variable {S : Nat → Prop} {w : World} {ρ : Nat → Option Hd}
def zK1 (ρ : Nat → Option Hd) (d d' : Nat) : Nat → Option Hd := fun i => if i = d' then ρ d else ρ i
theorem zJk {d d' id : Nat} (h : id ≠ d') : zK1 ρ d d' (zHe d d' id) = ρ id := by
 unfold zHe zK1
 cases hb : Nat.beq id d with
 | true => rw [cond_true, if_pos rfl, Nat.eq_of_beq_eq_true hb]
 | false => rw [cond_false, if_neg h]
mutual
theorem zRj (d d' : Nat) : ∀ (t : T) {y : Value} {F : List Nat}, t.noM d' → Rep S w ρ t y F → Rep S w (zK1 ρ d d') (t.ren d d') y F
 | .any, _, _, _, h => h
 | .v _, _, _, _, h => h
 | .agg row, _, _, hn, h => by
  simp only [Rep, T.ren, T.noM] at h hn ⊢
  obtain ⟨cs, h1, h2, h3⟩ := h
  exact ⟨cs, h1, by rw [zDP]; exact h2, zEf d d' row hn h3⟩
 | .tup l, _, _, hn, h => by
  simp only [Rep, T.ren, T.noM] at h hn ⊢
  obtain ⟨cs, h1, h2, h3⟩ := h
  exact ⟨cs, h1, by rw [zDP]; exact h2, zEf d d' l hn h3⟩
 | .sl _ _ _, _, _, _, h => by simp only [T.ren]; exact h
 | .bx _ _, _, _, _, h => by simp only [T.ren]; exact h
 | .ref id lo n, _, _, hn, h => by
  simp only [Rep, T.ren, T.noM] at h hn ⊢
  rw [zJk hn]; exact h
 | .ptr id i o, _, _, hn, h => by
  simp only [Rep, T.ren, T.noM] at h hn ⊢
  rw [zJk hn]; exact h
 | .fn _ caps, _, _, hn, h => by
  simp only [Rep, T.ren, T.noM] at h hn ⊢
  obtain ⟨cs, h1, h2, h3⟩ := h
  exact ⟨cs, h1, by rw [zDP]; exact h2, zEf d d' caps hn h3⟩
theorem zEf (d d' : Nat) : ∀ {cell : Nat → Option Value} {o : Nat} (l : List T) {F : List Nat}, zAH d' l → RepRow S w ρ cell o l F → RepRow S w (zK1 ρ d d') cell o (zCT d d' l) F
 | _, _, [], _, _, h => by simp only [zCT]; exact h
 | _, _, t :: ts, _, hn, h => by
  simp only [RepRow, zCT, zAH] at h hn ⊢
  obtain ⟨y, F1, F2, h1, h2, h3, rfl⟩ := h
  exact ⟨y, F1, F2, h1, zRj d d' t hn.1 h2, zEf d d' ts hn.2 h3, rfl⟩
end
def zBh (d d' : Nat) (rows : List (List T)) : List (List T) := rows.map (zCT d d')
theorem zKt (d d' : Nat) : ∀ {cell : Nat → Option Value} {o k : Nat} (l : List (List T)) {F : List Nat}, zAv d' l → zAb S w ρ cell o k l F → zAb S w (zK1 ρ d d') cell o k (zBh d d' l) F
 | _, _, _, [], _, _, h => by simp only [zAb, zBh, List.map_nil] at h ⊢; exact h
 | _, _, _, r :: rs, _, hn, h => by
  simp only [zAb, zBh, List.map_cons] at h ⊢
  obtain ⟨F1, F2, h0, h1, h2, rfl⟩ := h
  exact ⟨F1, F2, by rw [zDP]; exact h0, zEf d d' r (hn r (List.mem_cons_self ..)) h1, zKt d d' rs (fun x hx => hn x (List.mem_cons_of_mem _ hx)) h2, rfl⟩
end
mutual
theorem zSE (d d' : Nat) : ∀ {t : T}, t.packed → t.ren d d' = t
 | .any, _ => by simp only [T.ren]
 | .v _, _ => by simp only [T.ren]
 | .sl _ _ _, _ => by simp only [T.ren]
 | .bx _ _, _ => by simp only [T.ren]
 | .agg row, h => by simp only [T.ren, T.packed] at h ⊢; rw [zDQ d d' h]
 | .tup row, h => by simp only [T.ren, T.packed] at h ⊢; rw [zDQ d d' h]
 | .fn _ row, h => by simp only [T.ren, T.packed] at h ⊢; rw [zDQ d d' h]
 | .ref _ _ _, h => by simp only [T.packed] at h
 | .ptr _ _ _, h => by simp only [T.packed] at h
theorem zDQ (d d' : Nat) : ∀ {l : List T}, zAy l → zCT d d' l = l
 | [], _ => rfl
 | t :: ts, h => by simp only [zCT, zAy] at h ⊢; rw [zSE d d' h.1, zDQ d d' h.2]
end
theorem zPq (d d' : Nat) {l : List (List T)} (h : zAr l) : zBh d d' l = l := by
 unfold zBh
 conv => rhs; rw [← List.map_id l]
 exact List.map_congr_left fun r hr => zDQ d d' (h r hr)
def zJ3 (d d' : Nat) : List (Nat × T) → List (Nat × T)
 | [] => []
 | (n, t) :: r => (n, t.ren d d') :: zJ3 d d' r
def zJ4 (d d' : Nat) : List (Nat × Ob) → List (Nat × Ob)
 | [] => []
 | (m, ob) :: r => (zHe d d' m, ⟨ob.k, zBh d d' ob.rows⟩) :: zJ4 d d' r
def zIb (d : Nat) : List (Nat × Ob) → Prop
 | [] => True
 | (m, ob) :: r => m ≠ d ∧ zAv d ob.rows ∧ zIb d r
def St.ren (s : St) (d d' : Nat) : St := ⟨zJ3 d d' (kill d' s.slots), zJ4 d d' (Am.del d' s.objs)⟩
theorem zPr (d d' n : Nat) (t : T) : ∀ l : List (Nat × T), lk n (zJ3 d d' l) = some t → ∃ u, lk n l = some u ∧ t = u.ren d d'
 | [], h => by simp [zJ3, lk] at h
 | (m, u) :: r, h => by
  simp only [zJ3, lk] at h ⊢
  split at h
  ·rename_i e; simp only [Option.some.injEq] at h; exact ⟨u, by rw [if_pos e], h.symm⟩
  ·rename_i e; rw [if_neg e]; exact zPr d d' n t r h
theorem zEM {d d' : Nat} : ∀ {l : List (Nat × Ob)}, zIb d' l → ∀ {n : Nat} {ob : Ob}, lk n (zJ4 d d' l) = some ob → ∃ m ob0, lk m l = some ob0 ∧ n = zHe d d' m ∧ m ≠ d' ∧ zAv d' ob0.rows ∧ ob = ⟨ob0.k, zBh d d' ob0.rows⟩
 | [], _, n, ob, h => by simp [zJ4, lk] at h
 | (m, ob0) :: r, hf, n, ob, h => by
  simp only [zJ4, lk, zIb] at h hf ⊢
  split at h
  ·rename_i e
   simp only [Option.some.injEq] at h
   exact ⟨m, ob0, by rw [if_pos rfl], e.symm, hf.1, hf.2.1, h.symm⟩
  ·rename_i e
   obtain ⟨m', ob1, h1, h2, h3, h4, h5⟩ := zEM hf.2.2 h
   refine ⟨m', ob1, ?_, h2, h3, h4, h5⟩
   rw [if_neg (fun e2 => e (by rw [e2, h2]))]
   exact h1
theorem zGj {d : Nat} : ∀ {l : List (Nat × Ob)}, zAk d l → zIb d (del d l)
 | [], _ => trivial
 | (m, ob) :: r, h => by
  simp only [zAk, del] at h ⊢
  split
  ·exact zGj h.2
  ·rename_i e; exact ⟨e, h.1.resolve_left e, zGj h.2⟩
section
variable {P : Program} {E : Env} {s : St}
theorem zXS {d d' : Nat} (hp : E.okd d') (hno : zAk d' s.objs) : Ent E s (s.ren d d') := by
 have hfree := zGj hno
 rintro a w ⟨S, ρ, foot, h⟩
 refine ⟨S, zK1 ρ d d', fun i => if i = d' then foot d else foot i, ?_⟩
 have hlk : ∀ m ob, lk m (del d' s.objs) = some ob → lk m s.objs = some ob := fun m ob hm => ((zBP d' m ob s.objs).1 hm).2
 have hfoot : ∀ m, m ≠ d' → (if zHe d d' m = d' then foot d else foot (zHe d d' m)) = foot m := by
  intro m hm
  unfold zHe
  cases hb : Nat.beq m d with
  | true => rw [cond_true, if_pos rfl, Nat.eq_of_beq_eq_true hb]
  | false => rw [cond_false, if_neg hm]
 exact {
  nt := h.nt, defers := h.defers
  slots := fun n t hn => by
   obtain ⟨u, h1, rfl⟩ := zPr d d' n t _ hn
   rcases zMp d' n u _ h1 with rfl | ⟨h2, h3⟩
   ·simp [Rep, T.ren]
   ·exact zRj d d' u h3 (h.slots n u h2)
  objs := fun n ob hl => by
   obtain ⟨m, ob0, h1, rfl, h3, h4, rfl⟩ := zEM hfree hl
   obtain ⟨hd, e1, e2, e3⟩ := h.objs m ob0 (hlk m ob0 h1)
   refine ⟨hd, by rw [zJk h3]; exact e1, e2, ?_⟩
   simp only [hfoot m h3]
   rcases e3 with ⟨e3, e4, e5⟩ | ⟨b, off, arr, el, fr, Fs, f1, f2, f3, f4, f5, f6, f7⟩
   ·exact .inl ⟨e3, by simp [zBh, e4], e5⟩
   ·exact .inr ⟨b, off, arr, el, fr, Fs, f1, f2, by simpa [zBh] using f3, f4, f5, zKt d d' _ h4 f6, f7⟩
  nodup := fun n ob hl => by
   obtain ⟨m, ob0, h1, rfl, h3, h4, rfl⟩ := zEM hfree hl
   simp only [hfoot m h3]
   exact h.nodup m ob0 (hlk m ob0 h1)
  apart := fun n ob n' ob' hl hl' hne => by
   obtain ⟨m, ob0, h1, rfl, h3, h4, rfl⟩ := zEM hfree hl
   obtain ⟨m', ob0', h1', rfl, h3', h4', rfl⟩ := zEM hfree hl'
   simp only [hfoot m h3, hfoot m' h3']
   exact h.apart m ob0 m' ob0' (hlk m ob0 h1) (hlk m' ob0' h1') (fun e => hne (by rw [e]))
  mine := fun n ob hl => by
   obtain ⟨m, ob0, h1, rfl, h3, h4, rfl⟩ := zEM hfree hl
   simp only [hfoot m h3]
   exact h.mine m ob0 (hlk m ob0 h1)
  shared := h.shared, S0 := h.S0, kept := h.kept
  pins := fun p hpp => zJW d' (fun i hi => by simp [zK1, hi]) p.1 (hp p hpp) (h.pins p hpp) }
def St.nilS (s : St) (n d k : Nat) : St := (s.new d ⟨k, []⟩).set n (.ref d 0 0)
theorem zWe {n d k : Nat} (hn : lk n s.slots = some (.v (.slice none 0 0))) (hp : E.okd d) (hno : zAk d s.objs) : Ent E s (s.nilS n d k) := by
 rintro a w ⟨S, ρ, foot, h⟩
 have hr := h.slots n _ hn
 simp only [Rep] at hr
 have hy := hr.1
 have h2 := h.new (d := d) (ob := ⟨k, []⟩) (hd := ⟨none, 0, k⟩) (F := []) hp hno (by intro r hr; cases hr) ⟨rfl, .inl ⟨rfl, rfl, rfl⟩⟩ List.nodup_nil (by simp) (by simp)
 refine ⟨S, fun i => if i = d then some ⟨none, 0, k⟩ else ρ i, fun i => if i = d then [] else foot i, ?_⟩
 exact {
  nt := h2.nt, defers := h2.defers
  slots := fun m t hm => by
   simp only [St.nilS, St.set, lk] at hm
   split at hm
   ·rename_i e
    subst e
    simp only [Option.some.injEq] at hm
    subst hm
    simp only [Rep]
    exact ⟨trivial, ⟨none, 0, k⟩, none, 0, by simp, by simpa using hy, rfl, Nat.le_refl _, .inl rfl⟩
   ·exact h2.slots m t hm
  objs := h2.objs, nodup := h2.nodup, apart := h2.apart, mine := h2.mine, shared := h2.shared, S0 := h2.S0, kept := h2.kept, pins := h2.pins }
def zPs (na id : Nat) : Bool := Nat.blt id na || (Nat.ble 1000 id && Nat.blt id (1000 * (na + 1))) || Nat.ble 1000000 id
def zK2 (E : Env) (na c id : Nat) (r : Prop × St) : Prop × St :=
 bif zPs na id then r else ((r.1 ∧ E.okd c) ∧ zAk c r.2.objs, r.2.ren id c)
def zDR (E : Env) (na c : Nat) : List T → Prop × St → Prop × St
 | [], r => r
 | .ref id _ _ :: ts, r => zDR E na (c + 1) ts (zK2 E na c id r)
 | _ :: ts, r => zDR E na (c + 1) ts r
def zPt (E : Env) (n k : Nat) (r : Prop × St) : Prop × St :=
 bif Nat.beq k 0 then r else bif Nat.ble 1000 k then (r.1, r.2.set n (.sl false (k - 1000) []))
 else ((r.1 ∧ E.okd (1000000 * (n + 1))) ∧ zAk (1000000 * (n + 1)) r.2.objs, r.2.nilS n (1000000 * (n + 1)) k)
def zPu (E : Env) (na n k : Nat) (r : Prop × St) : Option T → Prop × St
 | some (.ref id _ _) => zK2 E na (1000000 * (n + 1)) id r
 | some (.ptr id _ _) => zK2 E na (1000000 * (n + 1)) id r
 | some (.v (.slice none 0 0)) => zPt E n k r
 | some (.agg row) => zDR E na (1000000 * (n + 1) + 1) row r
 | _ => r
def zLI (E : Env) (na n : Nat) (r : Prop × St) : Option Ob → Prop × St
 | some ⟨_, [row]⟩ => zDR E na (1000000 * (n + 1) + 1) row r
 | _ => r
def zPv (E : Env) (na n : Nat) (r : Prop × St) : Option T → Prop × St
 | some (.ptr id _ _) => zLI E na n r (lk id r.2.objs)
 | _ => r
def zK3 (E : Env) (na : Nat) : List (Nat × Nat) → Prop × St → Prop × St
 | [], r => r
 | (n, k) :: ns, r => zK3 E na ns ((fun q : Prop × St => zPv E na n q (lk n q.2.slots)) (zPu E na n k r (lk n r.2.slots)))
def zHC (l : List (Nat × T)) : List (Nat × Nat) → List (Nat × T)
 | [] => []
 | (n, _) :: r => (n, match lk n l with | some t => t | none => .any) :: zHC l r
def zIc : List T → List Nat
 | [] => []
 | .ref id _ _ :: ts => id :: zIc ts
 | .ptr id _ _ :: ts => id :: zIc ts
 | _ :: ts => zIc ts
def zY0 : Option Ob → List Nat
 | some ⟨_, [row]⟩ => zIc row
 | _ => []
def zY1 (l : List (Nat × Ob)) : T → List Nat
 | .ref id _ _ => [id]
 | .ptr id _ _ => id :: zY0 (lk id l)
 | .agg row => zIc row
 | .fn _ caps => zIc caps
 | _ => []
def zWf (l : List (Nat × Ob)) : List (Nat × T) → List Nat
 | [] => []
 | (_, t) :: r => zY1 l t ++ zWf l r
def zSF : List Nat → List Nat
 | [] => []
 | x :: r => x :: (zSF r).filter (fun y => !(Nat.beq x y))
def St.fin (s : St) (L : List (Nat × Nat)) : St := (fun sl => ⟨sl, zH6 s.objs (zSF (zWf s.objs sl))⟩) (zHC s.slots L)
def canon (E : Env) (na : Nat) (L : List (Nat × Nat)) (s : St) : Prop × St := (fun r : Prop × St => (r.1, r.2.fin L)) (zK3 E na L (True, s.fin L))
def St.fin0 (s : St) (L : List Nat) : St := ⟨zJ1 s.slots L, s.objs⟩
theorem zId {na c id : Nat} {r : Prop × St} (h : r.1 → Ent E s r.2) (hc : (zK2 E na c id r).1) : r.1 ∧ Ent E s (zK2 E na c id r).2 := by
 unfold zK2 at hc ⊢
 cases hk : zPs na id with
 | true => rw [hk] at hc; exact ⟨hc, h hc⟩
 | false => rw [hk] at hc; exact ⟨hc.1.1, (h hc.1.1).trans (zXS hc.1.2 hc.2)⟩
theorem zFO {na : Nat} : ∀ {row : List T} {c : Nat} {r : Prop × St}, (r.1 → Ent E s r.2) → (zDR E na c row r).1 → r.1 ∧ Ent E s (zDR E na c row r).2
 | [], c, r, h, hc => by simp only [zDR] at hc ⊢; exact ⟨hc, h hc⟩
 | t :: ts, c, r, h, hc => by
  cases t with
  | ref id lo n =>
   simp only [zDR] at hc ⊢
   have := zFO (fun hq => (zId h hq).2) hc
   exact ⟨(zId h this.1).1, this.2⟩
  | _ => simp only [zDR] at hc ⊢; exact zFO h hc
theorem zUf {n k : Nat} (hn : lk n s.slots = some (.v (.slice none 0 0))) : Ent E s (s.set n (.sl false k [])) := by
 rintro a w ⟨S, ρ, foot, h⟩
 have hr := h.slots n _ hn
 simp only [Rep] at hr
 refine ⟨S, ρ, foot, { nt := h.nt, defers := h.defers, objs := h.objs, nodup := h.nodup, apart := h.apart, mine := h.mine, shared := h.shared, S0 := h.S0, kept := h.kept, pins := h.pins, slots := fun m t hm => ?_ }⟩
 simp only [St.set, lk] at hm
 split at hm
 ·rename_i e
  subst e
  simp only [Option.some.injEq] at hm
  subst hm
  simp only [Rep]
  exact ⟨none, 0, by simpa using hr.1, .inl ⟨rfl, trivial, trivial⟩⟩
 ·exact h.slots m t hm
theorem zWg {n k : Nat} {r : Prop × St} (h : r.1 → Ent E s r.2) (hn : lk n r.2.slots = some (.v (.slice none 0 0))) (hc : (zPt E n k r).1) : r.1 ∧ Ent E s (zPt E n k r).2 := by
 unfold zPt at hc ⊢
 cases h1 : Nat.beq k 0 with
 | true => simp only [h1, cond_true] at hc ⊢; exact ⟨hc, h hc⟩
 | false =>
  cases h2 : Nat.ble 1000 k with
  | true => simp only [h1, h2, cond_true, cond_false] at hc ⊢; exact ⟨hc, (h hc).trans (zUf hn)⟩
  | false => simp only [h1, h2, cond_false] at hc ⊢; exact ⟨hc.1.1, (h hc.1.1).trans (zWe hn hc.1.2 hc.2)⟩
theorem zK4 {na n k : Nat} {r : Prop × St} (h : r.1 → Ent E s r.2) (hc : (zPu E na n k r (lk n r.2.slots)).1) : r.1 ∧ Ent E s (zPu E na n k r (lk n r.2.slots)).2 := by
 generalize ho : lk n r.2.slots = o at hc ⊢
 unfold zPu at hc ⊢
 split
 ·exact zId h hc
 ·exact zId h hc
 ·exact zWg h ho hc
 ·exact zFO h hc
 ·rename_i h1 h2 h3 h4
  split at hc
  ·exact absurd rfl (h1 _ _ _)
  ·exact absurd rfl (h2 _ _ _)
  ·exact absurd rfl h3
  ·exact absurd rfl (h4 _)
  ·exact ⟨hc, h hc⟩
theorem zPw {na n : Nat} {r : Prop × St} {o : Option T} (h : r.1 → Ent E s r.2) (hc : (zPv E na n r o).1) : r.1 ∧ Ent E s (zPv E na n r o).2 := by
 have key : ∀ o, (zLI E na n r o).1 → r.1 ∧ Ent E s (zLI E na n r o).2 := by
  intro o hc
  unfold zLI at hc ⊢
  split
  ·exact zFO h hc
  ·rename_i h1
   split at hc
   ·exact absurd rfl (h1 _ _)
   ·exact ⟨hc, h hc⟩
 unfold zPv at hc ⊢
 split
 ·exact key _ hc
 ·rename_i h1
  split at hc
  ·exact absurd rfl (h1 _ _ _)
  ·exact ⟨hc, h hc⟩
theorem zPx {na : Nat} : ∀ {L : List (Nat × Nat)} {r : Prop × St}, (r.1 → Ent E s r.2) → (zK3 E na L r).1 → r.1 ∧ Ent E s (zK3 E na L r).2
 | [], r, h, hc => by simp only [zK3] at hc ⊢; exact ⟨hc, h hc⟩
 | (n, k) :: ns, r, h, hc => by
  simp only [zK3] at hc ⊢
  have := zPx (fun hq => (zPw (fun hp => (zK4 h hp).2) hq).2) hc
  have h2 := zPw (fun hp => (zK4 h hp).2) this.1
  exact ⟨(zK4 h h2.1).1, this.2⟩
theorem zNG {l : List (Nat × T)} : ∀ {ns : List (Nat × Nat)} {n : Nat} {t : T}, lk n (zHC l ns) = some t → t = .any ∨ lk n l = some t
 | [], n, t, h => by simp [zHC, lk] at h
 | (m, k) :: r, n, t, h => by
  simp only [zHC, lk] at h
  split at h
  ·rename_i e
   subst e
   simp only [Option.some.injEq] at h
   split at h
   ·rename_i t' ht; subst h; exact .inr ht
   ·exact .inl h.symm
  ·exact zNG h
theorem zMJ (L : List (Nat × Nat)) : Ent E s (s.fin L) := zMx (fun _ _ h => zNG h) (fun _ _ h => zKP h)
theorem zWh (L : List Nat) : Ent E s (s.fin0 L) := zMx (fun _ _ h => zPh h) (fun _ _ h => h)
theorem zJl {na : Nat} {L : List (Nat × Nat)} (h : (canon E na L s).1) : Ent E s (canon E na L s).2 :=
 ((zPx (r := (True, s.fin L)) (fun _ => zMJ L) h).2).trans (zMJ L)
end
inductive AS where
 | skip
 | ops (l : List IN)
 | dops (l : List IN)
 | rops (l : List (Option (List IN) × IN))
 | tops (L : List (Nat × Nat)) (t : RT)
 | seq (a b : AS)
 | cond (x : Operand) (a b : AS)
 | loop (na : Nat) (L : List (Nat × Nat)) (b : AS)
 | block (id : Nat) (b : AS)
 | exit (id : Nat)
 | ret
 | kept (L : List Nat) (b : AS)
 | post (ms : List (Nat × Nat × List (Nat × Nat))) (a : AS)
 | pre (l : List IN) (x new : Nat) (a : AS)
def AS.strip : AS → Stmt
 | .skip => .skip
 | .ops l => .ops l
 | .dops l => .dops l
 | .rops l => .rops l
 | .tops _ t => .tops t
 | .seq a b => .seq a.strip b.strip
 | .cond x a b => .cond x a.strip b.strip
 | .loop _ _ b => .loop b.strip
 | .block id b => .block id b.strip
 | .exit id => .exit id
 | .ret => .ret
 | .kept _ b => b.strip
 | .post _ a => a.strip
 | .pre _ _ _ a => a.strip
def zMK (K : St → Prop) (r : Prop × St) : Prop := r.1 ∧ K r.2
def zLJ (ms : List (Nat × Nat × List (Nat × Nat))) (Q : Exit → St → Prop) : Exit → St → Prop
 | .normal, s => zMK (Q .normal) (zEK ms (True, s))
 | e, s => Q e s
def zWi (E : Env) (s : St) (id i o new : Nat) : Option Ob → Prop × St
 | some ob => zDE E id i o new (((ob.rows.getD i []).drop o).take 1) (i < ob.rows.length, s)
 | none => (True, s)
def preO (E : Env) (s : St) (new : Nat) : Option T → Prop × St
 | some (.ptr id i o) => zWi E s id i o new (lk id s.objs)
 | _ => (True, s)
def zY2 (d : Option Nat) (s : St) : Option (Prop × T) → St
 | some (_, t) => s.put d t
 | none => s
def zSG (s : St) : List IN → St
 | [] => s
 | i :: l => zSG (zY2 i.dst s (zAe s i.i)) l
def zML (E : Env) (s : St) (l : List IN) (x new : Nat) : Prop × St := preO E s new (lk x (zSG s l).slots)
theorem zWj {E : Env} {s : St} {l : List IN} {x new : Nat} (h : (zML E s l x new).1) : Ent E s (zML E s l x new).2 := by
 unfold zML at h ⊢
 generalize lk x (zSG s l).slots = t at h ⊢
 unfold preO at h ⊢
 split
 ·rename_i id i o
  simp only at h
  cases ho : lk id s.objs with
  | none => exact Ent.refl s
  | some ob =>
   rw [ho] at h
   simp only [zWi] at h ⊢
   refine (zJ2 (s := s) (len := (ob.rows.getD i []).length) (r := (i < ob.rows.length, s)) (fun hq => ⟨Ent.refl s, ⟨ob, ho, hq, rfl, fun n u hn => ?_⟩, fun _ _ h _ => h⟩) h).2.1
   rw [List.getElem?_take] at hn
   split at hn
   ·rwa [List.getElem?_drop] at hn
   ·cases hn
 ·exact Ent.refl s
def zPy (P : Program) (E : Env) (d : Option Nat) (g : Option (Nat × Bool)) (i : I) (K : St → Prop) (s : St) : Option (Prop × St) → Prop
 | some (p, s') => p ∧ K s'
 | none => zAp P E ⟨d, g, i⟩ K s
def zEg (P : Program) (E : Env) (d : Option Nat) (g : Option (Nat × Bool)) (i : I) (K : St → Prop) (s : St) : Option (Prop × T) → Prop
 | some (p, t) => p ∧ K (s.put d t)
 | none => zPy P E d g i K s (zCr E s d i)
def ws1 (P : Program) (E : Env) (d : Option Nat) (g : Option (Nat × Bool)) (i : I) (K : St → Prop) (s : St) : Prop := zEg P E d g i K s (zAe s i)
def wsO (P : Program) (E : Env) : List IN → (St → Prop) → St → Prop
 | [], K, s => K s
 | ⟨d, none, i⟩ :: r, K, s => zEg P E d none i (wsO P E r K) s (zAe s i)
 | ⟨d, some (t, b), i⟩ :: r, K, s => grd (lk t s.slots) b (ws1 P E d (some (t, b)) i (wsO P E r K)) (skO (wsO P E r) d K) s
def zLK (P : Program) (E : Env) (na : Nat) (L : List (Nat × Nat)) (b : AS) (Q : Exit → St → Prop) (s : St) : Prop := zC6 P E b.strip Q s
def zWk (P : Program) (E : Env) (na : Nat) (L : List (Nat × Nat)) (b : AS) (Q : Exit → St → Prop) (r : Prop × St) : Prop := r.1 ∧ zLK P E na L b Q r.2
def zK5 (d : Option Nat) (K : St → Prop) (s : St) : Option (Prop × T) → Prop
 | some (p, t) => p ∧ K (s.put d t)
 | none => False
def zJm (P : Program) (E : Env) (b : Option (List IN)) (d : Option Nat) (g : Option (Nat × Bool)) (i : I) (K : St → Prop) (s : St) : Prop :=
 match b with
 | none => zK5 d K s (zAe s i)
 | some l => zEg P E d g i (rrK l K) s (zAe s i)
def zWl (P : Program) (E : Env) (b : Option (List IN)) (d : Option Nat) (g : Option (Nat × Bool)) (i : I) (K : St → Prop) (s : St) : Prop := zJm P E b d g i K s
def skR (b : Option (List IN)) (f : (St → Prop) → St → Prop) (d : Option Nat) (K : St → Prop) (s : St) : Prop := zOJ b (f K) (s.put d (.tup []))
def wsR (P : Program) (E : Env) : List (Option (List IN) × IN) → (St → Prop) → St → Prop
 | [], K, s => K s
 | (b, ⟨d, none, i⟩) :: r, K, s => zJm P E b d none i (wsR P E r K) s
 | (b, ⟨d, some (t, g), i⟩) :: r, K, s => grd (lk t s.slots) g (zWl P E b d (some (t, g)) i (wsR P E r K)) (skR b (wsR P E r) d K) s
def Both (A B : Prop) : Prop := A ∧ B
theorem both {A B : Prop} (h1 : A) (h2 : B) : Both A B := ⟨h1, h2⟩
def Jn (A : (St → Prop) → Prop) (B : St → Prop) : Prop := ∃ I, A I ∧ ∀ S, I S → B S
theorem jn {A : (St → Prop) → Prop} {B : St → Prop} (S : St) (h1 : A (fun x => x = S)) (h2 : B S) : Jn A B := ⟨_, h1, fun _ e => e ▸ h2⟩
def zGL (L : List (Nat × Nat)) (I : St → Prop) (s : St) : Prop := I (s.fin L)
theorem zBb {L : List (Nat × Nat)} {S s : St} (h : s.fin L = S) : zGL L (fun x => x = S) s := h
def zMM (P : Program) (E : Env) (l : List IN) (d : Option Nat) (g : Option (Nat × Bool)) (i : I) (K : St → Prop) (s : St) : Prop := zEg P E d g i (rrK l K) s (zAe s i)
def skT (l : List IN) (f : (St → Prop) → St → Prop) (d : Option Nat) (K : St → Prop) (s : St) : Prop := rrK l (f K) (s.put d (.tup []))
def zSH (d : Option Nat) (i : I) (K : St → Prop) (s : St) : Prop := zK5 d K s (zAe s i)
def wsT (P : Program) (E : Env) : RT → (St → Prop) → St → Prop
 | .done, K, s => K s
 | .none, _, _ => True
 | .rd ⟨d, none, i⟩ r, K, s => zSH d i (wsT P E r K) s
 | .rd ⟨d, some (t, g), i⟩ r, K, s => grd (lk t s.slots) g (zSH d i (wsT P E r K)) (skO (wsT P E r) d K) s
 | .alt l ⟨d, none, i⟩ r o, K, s => Both (zMM P E l d none i (wsT P E r K) s) (wsT P E o K s)
 | .alt l ⟨d, some (t, g), i⟩ r o, K, s => Both (grd (lk t s.slots) g (zMM P E l d (some (t, g)) i (wsT P E r K)) (skT l (wsT P E r) d K) s) (wsT P E o K s)
def wsS (P : Program) (E : Env) : AS → (Exit → St → Prop) → St → Prop
 | .skip, Q, s => Q .normal s
 | .ops l, Q, s => wsO P E l (Q .normal) s
 | .dops l, Q, s => wpQ P l (Q .normal) s
 | .rops l, Q, s => wsR P E l (Q .normal) s
 | .tops L t, Q, s => Jn (fun I => wsT P E t (zGL L I) s) (Q .normal)
 | .seq a b, Q, s => wsS P E a (zKQ (wsS P E b) Q) s
 | .cond x a b, Q, s => grc (s.eval x) (wsS P E a Q) (wsS P E b Q) s
 | .loop na L b, Q, s => zWk P E na L b Q (canon E na L s)
 | .block id b, Q, s => wsS P E b (zEc id Q) s
 | .exit id, Q, s => Q (.exit id) s
 | .ret, Q, s => Q .ret s
 | .kept L b, Q, s => wsS P E b Q (s.fin0 L)
 | .post ms a, Q, s => wsS P E a (zLJ ms Q) s
 | .pre l x new a, Q, s => zMK (wsS P E a Q) (zML E s l x new)
section
variable {P : Program} {E : Env} {s : St}
theorem zHD {d : Option Nat} {g : Option (Nat × Bool)} {i : I} {K K' : St → Prop} (hK : ∀ s, K s → K' s) (h : zEg P E d g i K s (zAe s i)) : zAp P E ⟨d, g, i⟩ K' s := by
 unfold zEg at h
 split at h
 ·rename_i p t hp
  exact zRb (i := ⟨d, g, i⟩) hp h.1 (hK _ h.2)
 ·unfold zPy at h
  split at h
  ·rename_i p s' he
   exact zXR he h.1 (hK _ h.2)
  ·exact zOV hK h
theorem zFs : ∀ {l : List IN} {K : St → Prop} {s : St}, wsO P E l K s → zEb P E l K s
 | [], K, s, h => h
 | ⟨d, none, i⟩ :: r, K, s, h => by
  simp only [wsO] at h
  simp only [zEb]
  exact zHD (fun _ h => zFs h) h
 | ⟨d, some (t, b), i⟩ :: r, K, s, h => by
  simp only [wsO] at h
  simp only [zEb]
  unfold grd at h
  split at h
  ·rename_i c hl
   refine .inl ⟨c, hl, fun e => zHD (fun _ h => zFs h) (h.1 e), fun e => zFs (h.2 ?_)⟩
   cases c <;> cases b <;> simp at e ⊢
  ·rename_i hl
   exact .inr ⟨hl, zFs h⟩
  ·exact h.elim
theorem zJ5 {b : Option (List IN)} {d : Option Nat} {g : Option (Nat × Bool)} {i : I} {K K' : St → Prop} (hK : ∀ s, K s → K' s) (h : zJm P E b d g i K s) : zLB P E b ⟨d, g, i⟩ K' s := by
 cases b with
 | none =>
  simp only [zJm] at h
  unfold zK5 at h
  split at h
  ·rename_i p t hp
   exact ⟨p, t, hp, h.1, hK _ h.2⟩
  ·exact h.elim
 | some l => exact zHD (fun s h => ⟨h.1, hK _ h.2⟩) h
theorem zUg {b : Option (List IN)} {d : Option Nat} {f : (St → Prop) → St → Prop} {K : St → Prop} {K' : St → Prop} (hK : ∀ s, f K s → K' s) (h : skR b f d K s) : zOJ b K' (s.put d (.tup [])) := by
 cases b with
 | none => exact hK _ h
 | some l => exact ⟨h.1, hK _ h.2⟩
theorem zFt : ∀ {l : List (Option (List IN) × IN)} {K : St → Prop} {s : St}, wsR P E l K s → OkR P E l K s
 | [], K, s, h => h
 | (b, ⟨d, none, i⟩) :: r, K, s, h => by
  simp only [wsR] at h
  simp only [OkR]
  exact zJ5 (fun _ h => zFt h) h
 | (b, ⟨d, some (t, g), i⟩) :: r, K, s, h => by
  simp only [wsR] at h
  simp only [OkR]
  unfold grd at h
  split at h
  ·rename_i c hl
   refine .inl ⟨c, hl, fun e => zJ5 (fun _ h => zFt h) (h.1 e), fun e => zUg (fun _ h => zFt h) (h.2 ?_)⟩
   cases c <;> cases g <;> simp at e ⊢
  ·rename_i hl
   exact .inr ⟨hl, zUg (fun _ h => zFt h) h⟩
  ·exact h.elim
theorem zBZ : ∀ {t : RT} {K : St → Prop} {s : St}, wsT P E t K s → OkT P E t K s
 | .done, K, s, h => h
 | .none, K, s, h => trivial
 | .rd ⟨d, none, i⟩ r, K, s, h => by
  simp only [wsT] at h
  simp only [OkT]
  exact zJ5 (b := none) (fun _ h => zBZ h) h
 | .rd ⟨d, some (t, g), i⟩ r, K, s, h => by
  simp only [wsT] at h
  simp only [OkT]
  unfold grd at h
  split at h
  ·rename_i c hl
   refine .inl ⟨c, hl, fun e => zJ5 (b := none) (fun _ h => zBZ h) (h.1 e), fun e => zBZ (h.2 ?_)⟩
   cases c <;> cases g <;> simp at e ⊢
  ·rename_i hl
   exact .inr ⟨hl, zBZ h⟩
  ·exact h.elim
 | .alt l ⟨d, none, i⟩ r o, K, s, h => by
  simp only [wsT] at h
  simp only [OkT]
  exact ⟨zHD (fun s h => ⟨h.1, zBZ h.2⟩) h.1, zBZ h.2⟩
 | .alt l ⟨d, some (t, g), i⟩ r o, K, s, h => by
  simp only [wsT] at h
  simp only [OkT]
  refine ⟨?_, zBZ h.2⟩
  have h := h.1
  unfold grd at h
  split at h
  ·rename_i c hl
   refine .inl ⟨c, hl, fun e => zHD (fun s h => ⟨h.1, zBZ h.2⟩) (h.1 e), fun e => ?_⟩
   have := h.2 (by cases c <;> cases g <;> simp at e ⊢)
   exact ⟨this.1, zBZ this.2⟩
  ·rename_i hl
   exact .inr ⟨hl, h.1, zBZ h.2⟩
  ·exact h.elim
theorem zRk {st : Am.Stmt} {Q Q' : Exit → St → Prop} (hQ : ∀ e s, Q' e s → ∃ s', Ent E s s' ∧ Q e s') (h : Ok P E st Q' s) : Ok P E st Q s :=
 fun c hc a w hs => wp_mono (h c hc a w hs) fun e a' w' ⟨s', hq, hs'⟩ => let ⟨s2, he, hq2⟩ := hQ e s' hq; ⟨s2, hq2, he a' w' hs'⟩
theorem zBA : ∀ {st : AS} {Q : Exit → St → Prop} {s : St}, wsS P E st Q s → Ok P E st.strip Q s
 | .skip, Q, s, h => zXx h
 | .ops l, Q, s, h => zYz (zFs h)
 | .dops l, Q, s, h => zXH (zFq h)
 | .rops l, Q, s, h => zXK (zFt h)
 | .tops L t, Q, s, ⟨I, h1, h2⟩ => by
  refine zRk (Q' := fun e s' => e = .normal ∧ zGL L I s') (fun e s' hq => ?_) (zXL (Q := fun e s' => e = .normal ∧ zGL L I s') (zBZ (K := fun s' => Exit.normal = .normal ∧ zGL L I s') ?_))
  ·obtain ⟨rfl, hq⟩ := hq
   exact ⟨s'.fin L, zMJ L, h2 _ hq⟩
  ·have e : (fun s' => Exit.normal = .normal ∧ zGL L I s') = zGL L I := by funext s'; simp
   rw [e]; exact h1
 | .seq a b, Q, s, h => by
  refine zYy (zFW (fun e s' hq => ?_) (zBA h))
  cases e <;> first | exact zBA hq | exact hq
 | .cond x a b, Q, s, h => by
  simp only [wsS] at h
  unfold grc at h
  split at h
  ·rename_i t hx
   exact zXz hx (fun e => zBA (h.1 e)) (fun e => zBA (h.2 (by rw [e]; rfl)))
  ·exact h.elim
 | .loop na L b, Q, s, h => zXA (zHU (zJl h.1) h.2)
 | .block id b, Q, s, h => zVO (zBA h)
 | .exit id, Q, s, h => zXy h
 | .ret, Q, s, h => zYx h
 | .kept L b, Q, s, h => zT0 (zWh L) (zBA (st := b) h)
 | .post ms a, Q, s, h => zRk (fun e s' hq => by
   cases e with
   | normal => exact ⟨_, (zGh (r := (True, s')) (fun _ => Ent.refl s') hq.1).2, hq.2⟩
   | _ => exact ⟨s', Ent.refl s', hq⟩) (zBA (st := a) h)
 | .pre l x new a, Q, s, h => zT0 (zWj h.1) (zBA (st := a) h.2)
def zSI {σ : Type} (n : Nat) (F : Nat → σ → St) (I : Nat → σ → Prop) (j : Nat) (r : Prop × St) : Prop := r.1 ∧ j < n ∧ ∃ x, r.2 = F (j + 1) x ∧ I (j + 1) x
def zLL {σ : Type} (E : Env) (na : Nat) (L : List (Nat × Nat)) (n : Nat) (F : Nat → σ → St) (I : Nat → σ → Prop) (j : Nat) (Q : Exit → St → Prop) : Exit → St → Prop
 | .normal, s => zSI n F I j (canon E na L s)
 | e, s => Q e s
theorem zAu {σ : Type} {b : AS} {Q : Exit → St → Prop} {na : Nat} {L : List (Nat × Nat)} (n : Nat) (F : Nat → σ → St) (I : Nat → σ → Prop) (x0 : σ) (h0 : I 0 x0)
  (h : ∀ (j : Nat) (x : σ), j ≤ n → I j x → wsS P E b (zLL E na L n F I j Q) (F j x)) : zLK P E na L b Q (F 0 x0) := by
 have key : ∀ (k j : Nat) (x : σ), n - j = k → j ≤ n → I j x → zC6 P E b.strip Q (F j x) := by
  intro k
  induction k using Nat.strongRecOn with
  | _ k ih =>
   intro j x hk hj hI
   refine zKk (zFW (fun e s' hq => ?_) (zBA (h j x hj hI)))
   cases e with
   | normal =>
    obtain ⟨h1, h2, x', h3, h4⟩ := hq
    refine zHU (zJl (na := na) (L := L) h1) ?_
    rw [h3]
    exact ih (n - (j + 1)) (by omega) (j + 1) x' rfl (by omega) h4
   | _ => exact hq
 exact key n 0 x0 (by omega) (by omega) h0
theorem zAR {σ : Type} {b : AS} {Q : Exit → St → Prop} {na : Nat} {L : List (Nat × Nat)} {s : St} (n : Nat) (F : Nat → σ → St) (I : Nat → σ → Prop) (x0 : σ) (hs : s = F 0 x0) (h0 : I 0 x0)
  (h : ∀ (j : Nat) (x : σ), j ≤ n → I j x → wsS P E b (zLL E na L n F I j Q) (F j x)) : zLK P E na L b Q s := by
 subst hs
 exact zAu n F I x0 h0 h
def zSJ {σ : Type} (F : σ → St) (I : σ → Prop) (m : σ → Nat) (x : σ) (r : Prop × St) : Prop := r.1 ∧ ∃ y, r.2 = F y ∧ I y ∧ m y < m x
def zLM {σ : Type} (E : Env) (na : Nat) (L : List (Nat × Nat)) (F : σ → St) (I : σ → Prop) (m : σ → Nat) (x : σ) (Q : Exit → St → Prop) : Exit → St → Prop
 | .normal, s => zSJ F I m x (canon E na L s)
 | e, s => Q e s
theorem zIe {σ : Type} {b : AS} {Q : Exit → St → Prop} {na : Nat} {L : List (Nat × Nat)} (F : σ → St) (I : σ → Prop) (m : σ → Nat) (x0 : σ) (h0 : I x0)
  (h : ∀ (x : σ), I x → wsS P E b (zLM E na L F I m x Q) (F x)) : zLK P E na L b Q (F x0) := by
 have key : ∀ (k : Nat) (x : σ), m x = k → I x → zC6 P E b.strip Q (F x) := by
  intro k
  induction k using Nat.strongRecOn with
  | _ k ih =>
   intro x hk hI
   refine zKk (zFW (fun e s' hq => ?_) (zBA (h x hI)))
   cases e with
   | normal =>
    obtain ⟨h1, x', h3, h4, h5⟩ := hq
    refine zHU (zJl (na := na) (L := L) h1) ?_
    rw [h3]
    exact ih (m x') (by omega) x' rfl h4
   | _ => exact hq
 exact key (m x0) x0 rfl h0
end
mutual
def zAX : T → T → Prop
 | .v (.slice none 0 0), .sl o k rows => rows = []
 | .agg r, .agg r' => zBn r r'
 | .tup r, .tup r' => zBn r r'
 | t, t' => t = t'
def zBn : List T → List T → Prop
 | [], [] => True
 | t :: ts, u :: us => zAX t u ∧ zBn ts us
 | _, _ => False
end
section
variable {S : Nat → Prop} {w : World} {ρ : Nat → Option Hd}
theorem zC8 : ∀ {l m : List T}, zBn l m → m.length = l.length
 | [], [], _ => rfl
 | t :: ts, u :: us, h => by simp only [zBn] at h; simp [zC8 h.2]
 | [], u :: us, h => by simp [zBn] at h
 | t :: ts, [], h => by simp [zBn] at h
mutual
theorem zNH : ∀ (t u : T) {y : Value} {F : List Nat}, zAX t u → Rep S w ρ t y F → Rep S w ρ u y F := by
 intro t u y F hle h
 unfold zAX at hle
 split at hle
 ·subst hle
  simp only [Rep] at h ⊢
  exact ⟨none, 0, by simpa using h.1, .inl ⟨rfl, trivial, h.2⟩⟩
 ·simp only [Rep] at h ⊢
  obtain ⟨cs, h1, h2, h3⟩ := h
  exact ⟨cs, h1, by rw [zC8 hle]; exact h2, zDn _ _ hle h3⟩
 ·simp only [Rep] at h ⊢
  obtain ⟨cs, h1, h2, h3⟩ := h
  exact ⟨cs, h1, by rw [zC8 hle]; exact h2, zDn _ _ hle h3⟩
 ·subst hle; exact h
theorem zDn : ∀ (l m : List T) {cell : Nat → Option Value} {b : Nat} {F : List Nat}, zBn l m → RepRow S w ρ cell b l F → RepRow S w ρ cell b m F
 | [], [], _, _, _, _, h => h
 | t :: ts, u :: us, _, _, _, hle, h => by
  simp only [zBn, RepRow] at hle h ⊢
  obtain ⟨y, F1, F2, h1, h2, h3, rfl⟩ := h
  exact ⟨y, F1, F2, h1, zNH t u hle.1 h2, zDn ts us hle.2 h3, rfl⟩
 | [], u :: us, _, _, _, hle, _ => by simp [zBn] at hle
 | t :: ts, [], _, _, _, hle, _ => by simp [zBn] at hle
end
end
mutual
def T.lt (B : Nat) : T → Prop
 | .ref id _ _ => id < B ∨ B + 1000 ≤ id
 | .ptr id _ _ => id < B ∨ B + 1000 ≤ id
 | .agg row => ltL B row
 | .tup l => ltL B l
 | .fn _ caps => ltL B caps
 | .any => True
 | .v _ => True
 | .sl _ _ _ => True
 | .bx _ _ => True
def ltL (B : Nat) : List T → Prop
 | [] => True
 | t :: ts => t.lt B ∧ ltL B ts
end
mutual
theorem T.lt_iff (B : Nat) : ∀ t : T, t.lt B ↔ ∀ i, B ≤ i → i < B + 1000 → t.noM i
 | .ref id _ _ => by
  simp only [T.lt, T.noM]
  exact ⟨fun h i hi hi2 => by omega, fun h => by
   by_cases h1 : id < B
   ·exact .inl h1
   ·by_cases h2 : id < B + 1000
    ·exact absurd rfl (h id (by omega) h2)
    ·exact .inr (by omega)⟩
 | .ptr id _ _ => by
  simp only [T.lt, T.noM]
  exact ⟨fun h i hi hi2 => by omega, fun h => by
   by_cases h1 : id < B
   ·exact .inl h1
   ·by_cases h2 : id < B + 1000
    ·exact absurd rfl (h id (by omega) h2)
    ·exact .inr (by omega)⟩
 | .agg row => by simp only [T.lt, T.noM]; exact zD3 B row
 | .tup row => by simp only [T.lt, T.noM]; exact zD3 B row
 | .fn _ row => by simp only [T.lt, T.noM]; exact zD3 B row
 | .any => by simp [T.lt, T.noM]
 | .v _ => by simp [T.lt, T.noM]
 | .sl _ _ _ => by simp [T.lt, T.noM]
 | .bx _ _ => by simp [T.lt, T.noM]
theorem zD3 (B : Nat) : ∀ l : List T, ltL B l ↔ ∀ i, B ≤ i → i < B + 1000 → zAH i l
 | [] => by simp [ltL, zAH]
 | t :: ts => by
  simp only [ltL, zAH, T.lt_iff B t, zD3 B ts]
  exact ⟨fun h i hi hi2 => ⟨h.1 i hi hi2, h.2 i hi hi2⟩, fun h => ⟨fun i hi hi2 => (h i hi hi2).1, fun i hi hi2 => (h i hi hi2).2⟩⟩
end
def zCU (B : Nat) (rows : List (List T)) : Prop := ∀ r ∈ rows, ltL B r
theorem zQC {B : Nat} {rows : List (List T)} (h : zAr rows) : zCU B rows := fun r hr => (zD3 B r).2 fun i _ _ => zBR i (h r hr)
def zHE (B : Nat) : List (Nat × Ob) → Prop
 | [] => True
 | (_, ob) :: r => zCU B ob.rows ∧ zHE B r
theorem zIf {B : Nat} : ∀ {l : List (Nat × Ob)}, zHE B l → ∀ i, B ≤ i → i < B + 1000 → zAk i l
 | [], _, _, _, _ => trivial
 | (m, ob) :: r, h, i, hi, hi2 => by
  simp only [zHE, zAk] at h ⊢
  exact ⟨.inr fun x hx => (zD3 B x).1 (h.1 x hx) i hi hi2, zIf h.2 i hi hi2⟩
def zJn (s : St) (d : Nat) : T → Prop
 | .tup l => l.all T.okT = true ∧ zMv l ≤ 1000 ∧ zHE (1000 * (d + 1)) s.objs
 | .agg row => row.all T.okLeaf = true ∧ row.length ≤ 1000 ∧ zHE (1000 * (d + 1)) s.objs
 | .sl true _ _ => zAk d s.objs
 | .bx true _ => zAk d s.objs
 | t => t.bare = true
theorem zNI {s : St} {d : Nat} {t : T} (h : zJn s d t) : zH1 s d t := by
 unfold zJn at h
 split at h
 ·exact ⟨h.1, h.2.1, zIf h.2.2⟩
 ·exact ⟨h.1, h.2.1, zIf h.2.2⟩
 ·exact h
 ·exact h
 ·rename_i h1 h2 h3 h4
  unfold zH1
  split
  ·exact absurd rfl (h1 _)
  ·exact absurd rfl (h2 _)
  ·exact absurd rfl (h3 _ _)
  ·exact absurd rfl (h4 _)
  ·exact h
def zFX (s : St) : Option Nat → T → Prop
 | some d, r => zJn s d r
 | none, _ => True
theorem zIg {s : St} {d : Option Nat} {t : T} (h : zFX s d t) : zFp s d t := by
 cases d with
 | none => trivial
 | some d => exact zNI h
def zFu (s : St) (j : Nat) : List T → Prop
 | [] => True
 | t :: ts => zJn s j t ∧ zFu (s.unp j t) (j + 1) ts
theorem zGM : ∀ {l : List T} {s : St} {j : Nat}, zFu s j l → zB6 s j l
 | [], _, _, _ => trivial
 | t :: ts, s, j, h => ⟨zNI h.1, zGM h.2⟩
structure Names (E : Env) (us : List T) : Prop where
 d : ∀ d, E.okd d ↔ zAH d us
def Env.okHi (E : Env) (B : Nat) : Prop := ∀ i, B ≤ i → i < B + 1000 → E.okd i
def zGN (E : Env) : Option Nat → Prop
 | some d => E.okd d ∧ E.okHi (1000 * (d + 1))
 | none => True
section
variable {P : Program} {E : Env} {s : St}
theorem zK6 {d : Option Nat} (h : zGN E d) : E.okdO d := by
 cases d with
 | none => trivial
 | some d => exact h
theorem zHF {us : List T} (h : E.pins.map (·.1) = us) (d : Nat) : E.okd d ↔ zAH d us := by
 refine ⟨fun hd => ?_, fun hd => zYS h hd⟩
 have key : ∀ l : List (T × Value), (∀ p, p ∈ l → p.1.noM d) → zAH d (l.map (·.1)) := by
  intro l
  induction l with
  | nil => intro _; trivial
  | cons p l ih => intro hl; exact ⟨hl p (List.mem_cons_self ..), ih fun q hq => hl q (List.mem_cons_of_mem _ hq)⟩
 rw [← h]
 exact key _ hd
theorem zK7 {us : List T} (h : E.pins.map (·.1) = us) (B : Nat) : E.okHi B ↔ ltL B us := by
 rw [zD3]
 exact ⟨fun hd i hi hi2 => (zHF h i).1 (hd i hi hi2), fun hd i hi hi2 => (zHF h i).2 (hd i hi hi2)⟩
def zEN (R : T → List T → Prop) (r : T) (l : List T) : Prop := ∃ r', zAX r r' ∧ R r' l
theorem ACall.nil {f : Nat} {args : List T} {R : T → List T → Prop} (h : ACall P f args (zEN R)) : ACall P f args R := by
 intro w S0 F vs h1 h2 h3 h4 h5
 refine (h w S0 F vs h1 h2 h3 h4 h5).mono ?_
 rintro e w' ⟨rv, r, l, S', Fr, Fa, q1, ⟨r', q2, q3⟩, q4, q5⟩
 exact ⟨rv, r', l, S', Fr, Fa, q1, q3, q4, { res := zNH _ _ q2 q5.res, args := q5.args, nodup := q5.nodup, mine := q5.mine, shared := q5.shared, S0 := q5.S0, kept := q5.kept }⟩
theorem ACall.nilArgs {f : Nat} {args us : List T} {R : T → List T → Prop} (h : ACall P f us R) (hle : zBn args us) : ACall P f args R := by
 intro w S0 F vs h1 h2 h3 h4 h5
 have hl := zC8 hle
 refine (h w S0 F vs (by rw [hl]; exact h1) (zDn _ _ hle h2) h3 h4 h5).mono ?_
 rintro e w' ⟨rv, r, l, S', Fr, Fa, q1, q2, q4, q5⟩
 exact ⟨rv, r, l, S', Fr, Fa, q1, q2, by rw [q4, hl], q5⟩
theorem zLN {f : Nat} {st : AS} {rvs : List ResultVar} {nt : Nat} {args : List T} {R : T → List T → Prop} (hst : (P.funcs[f]?).bind (fun fn => fn.body.bind (comp P fn.ntmps)) = some st.strip) (hrs : (P.funcs[f]?).map (fun fn => (fn.results.toList, fn.ntmps)) = some (rvs, nt))
  (H : (args.length ≤ nt ∧ zFu ⟨[], []⟩ 0 args) ∧ ∀ E : Env, (∀ d, E.okd d ↔ zAH d (zAP (st0 args) 0 args)) → (∀ B, E.okHi B ↔ ltL B (zAP (st0 args) 0 args)) → wsS P E st (zKR P rvs (zAP (st0 args) 0 args) (zEN R)) (st0 args)) : ACall P f args R := by
 have e : zCf args = zAP (st0 args) 0 args := by rw [zFf]; simp [zCf]
 refine ACall.nil ?_
 cases hf : P.funcs[f]? with
 | none => rw [hf] at hst; simp at hst
 | some fn =>
  rw [hf] at hst hrs
  simp only [Option.bind_some, Option.map_some, Option.some.injEq, Prod.mk.injEq] at hst hrs
  obtain ⟨rfl, rfl⟩ := hrs
  cases hb : fn.body with
  | none => rw [hb] at hst; simp at hst
  | some c =>
   rw [hb] at hst
   simp only [Option.bind_some] at hst
   refine zQy hf hb hst H.1.1 (zGM H.1.2) fun E h1 h2 => ?_
   rw [e] at h2
   have h3 := zBA (H.2 E (zHF h2) (zK7 h2))
   rw [← e] at h3
   refine zFW (fun e s hq => ?_) h3
   cases e <;> first | exact ⟨.inl rfl, zGd.ok hq⟩ | exact ⟨.inr rfl, zGd.ok hq⟩ | exact hq.elim
def zCB : List Bool → List T → List T
 | true :: bs, _ :: ts => .any :: zCB bs ts
 | false :: bs, t :: ts => t :: zCB bs ts
 | _, ts => ts
theorem zEh : ∀ (bs : List Bool) (ts : List T), (zCB bs ts).length = ts.length
 | [], ts => by cases ts <;> rfl
 | b :: bs, [] => by cases b <;> rfl
 | true :: bs, t :: ts => by simp [zCB, zEh bs ts]
 | false :: bs, t :: ts => by simp [zCB, zEh bs ts]
theorem zGO : ∀ (bs : List Bool) (ts : List T) (i : Nat), i < ts.length → (zCB bs ts)[i]? = some .any ∨ (zCB bs ts)[i]? = ts[i]?
 | [], ts, i, _ => .inr (by cases ts <;> rfl)
 | b :: bs, [], i, h => by simp at h
 | true :: bs, t :: ts, 0, _ => .inl (by simp [zCB])
 | false :: bs, t :: ts, 0, _ => .inr (by simp [zCB])
 | true :: bs, t :: ts, i + 1, h => by simpa [zCB] using zGO bs ts i (by simpa using h)
 | false :: bs, t :: ts, i + 1, h => by simpa [zCB] using zGO bs ts i (by simpa using h)
theorem zJo (ds : List Bool) {f : Nat} {st : AS} {rvs : List ResultVar} {nt : Nat} {args : List T} {R : T → List T → Prop} (hst : (P.funcs[f]?).bind (fun fn => fn.body.bind (comp P fn.ntmps)) = some st.strip) (hrs : (P.funcs[f]?).map (fun fn => (fn.results.toList, fn.ntmps)) = some (rvs, nt))
  (H : (args.length ≤ nt ∧ zFu ⟨[], []⟩ 0 args) ∧ ∀ E : Env, (∀ d, E.okd d ↔ zAH d (zAP (st0 args) 0 args)) → (∀ B, E.okHi B ↔ ltL B (zAP (st0 args) 0 args)) → wsS P E st (zKR P rvs (zCB ds (zAP (st0 args) 0 args)) (zEN R)) (st0 args)) : ACall P f args R := by
 have e : zCf args = zAP (st0 args) 0 args := by rw [zFf]; simp [zCf]
 refine ACall.nil ?_
 cases hf : P.funcs[f]? with
 | none => rw [hf] at hst; simp at hst
 | some fn =>
  rw [hf] at hst hrs
  simp only [Option.bind_some, Option.map_some, Option.some.injEq, Prod.mk.injEq] at hst hrs
  obtain ⟨rfl, rfl⟩ := hrs
  cases hb : fn.body with
  | none => rw [hb] at hst; simp at hst
  | some c =>
   rw [hb] at hst
   simp only [Option.bind_some] at hst
   have hl : (zAP (st0 args) 0 args).length = args.length := by rw [← e]; simp [zCf]
   refine zEI (us := zCB ds (zAP (st0 args) 0 args)) (by rw [zEh, hl]) (fun i hi => ?_) hf hb hst H.1.1 (zGM H.1.2) fun E h1 h2 => ?_
   ·refine (zGO ds _ i (by rw [hl]; exact hi)).imp id fun h => ?_
    rw [h, ← e]
    simp [zCf, hi]
   ·rw [e] at h2
    have h3 := zBA (H.2 E (zHF h2) (zK7 h2))
    refine zFW (fun e s hq => ?_) h3
    cases e <;> first | exact ⟨.inl rfl, zGd.ok hq⟩ | exact ⟨.inr rfl, zGd.ok hq⟩ | exact hq.elim
theorem zPz (ds : List Bool) (id k : Nat) (rows : List (List T)) {f : Nat} {st : AS} {rvs : List ResultVar} {nt : Nat} {args : List T} {R : T → List T → Prop} (hst : (P.funcs[f]?).bind (fun fn => fn.body.bind (comp P fn.ntmps)) = some st.strip) (hrs : (P.funcs[f]?).map (fun fn => (fn.results.toList, fn.ntmps)) = some (rvs, nt))
  (hp : (T.ref id 0 rows.length) ∈ zAP (st0 args) 0 args) (ho : lk id (st0 args).objs = some ⟨k, rows⟩)
  (H : (args.length ≤ nt ∧ zFu ⟨[], []⟩ 0 args) ∧ ∀ E : Env, (∀ d, E.okd d ↔ zAH d (zAP (st0 args) 0 args)) → (∀ B, E.okHi B ↔ ltL B (zAP (st0 args) 0 args)) → ∀ c, rows.length ≤ c → E.FullAt id c → wsS P E st (zKR P rvs (zCB ds (zAP (st0 args) 0 args)) (zEN R)) ((st0 args).re id ⟨k, rows ++ List.replicate (c - rows.length) (zBx k)⟩)) : ACall P f args R := by
 have e : zCf args = zAP (st0 args) 0 args := by rw [zFf]; simp [zCf]
 refine ACall.nil ?_
 cases hf : P.funcs[f]? with
 | none => rw [hf] at hst; simp at hst
 | some fn =>
  rw [hf] at hst hrs
  simp only [Option.bind_some, Option.map_some, Option.some.injEq, Prod.mk.injEq] at hst hrs
  obtain ⟨rfl, rfl⟩ := hrs
  cases hb : fn.body with
  | none => rw [hb] at hst; simp at hst
  | some c =>
   rw [hb] at hst
   simp only [Option.bind_some] at hst
   have hl : (zAP (st0 args) 0 args).length = args.length := by rw [← e]; simp [zCf]
   refine zEI (us := zCB ds (zAP (st0 args) 0 args)) (by rw [zEh, hl]) (fun i hi => ?_) hf hb hst H.1.1 (zGM H.1.2) fun E h1 h2 => ?_
   ·refine (zGO ds _ i (by rw [hl]; exact hi)).imp (fun h => h) fun h => ?_
    rw [h, ← e]
    simp [zCf, hi]
   ·rw [e] at h2
    intro c0 hc0 a w hsim
    obtain ⟨S, ρ, foot, hsx⟩ := hsim
    rw [← h2] at hp
    obtain ⟨⟨t, v⟩, hp1, hp2⟩ := List.mem_map.1 hp
    simp only at hp2
    subst hp2
    have hr := hsx.pins _ hp1
    simp only [Rep] at hr
    obtain ⟨_, hd, a0, cc, q1, q2, q3, q4, _⟩ := hr
    have hF : E.FullAt id cc := ⟨0, rows.length, a0, cc, by rw [← q2]; exact hp1, by omega⟩
    have h3 := zBA (H.2 E (zHF h2) (zK7 h2) cc q4 hF)
    have h4 : Ok P E st.strip (fun e s => (e = .normal ∨ e = .ret) ∧ zOH P fn.results.toList (zCB ds (zAP (st0 args) 0 args)) (zEN R) s) ((st0 args).re id ⟨k, rows ++ List.replicate (cc - rows.length) (zBx k)⟩) := by
     refine zFW (fun e s hq => ?_) h3
     cases e <;> first | exact ⟨.inl rfl, zGd.ok hq⟩ | exact ⟨.inr rfl, zGd.ok hq⟩ | exact hq.elim
    exact h4 c0 hc0 a w (zV6 ho hF a w ⟨S, ρ, foot, hsx⟩)
def zPA : List Nat → T → Prop
 | [], _ => True
 | _ :: _, r => r.noSh
theorem zRl {vw : List Nat} {r : T} (h : zPA vw r) : vw = [] ∨ r.noSh := by
 cases vw with
 | nil => exact .inl rfl
 | cons a l => exact .inr h
def zJp (R : T → List T → Prop) (vw : List Nat) (d : Option Nat) (K : St → Prop) (s : St) : Prop := ∀ r l, R r l → (zPA vw r ∧ zFX s d r) ∧ K (s.unpO d r)
theorem zAK {R : T → List T → Prop} {vw : List Nat} {d : Option Nat} {K : St → Prop} {s : St} (h : ∀ r l, R r l → (zPA vw r ∧ zFX s d r) ∧ K (s.unpO d r)) : zJp R vw d K s := h
theorem zXT {X : T} {vw : List Nat} {d : Option Nat} {K : St → Prop} {s : St} : zJp (fun r _ => r = X) vw d K s ↔ (zPA vw X ∧ zFX s d X) ∧ K (s.unpO d X) :=
 ⟨fun h => h X [] rfl, fun h r l e => by subst e; exact h⟩
theorem zXr {d : Option Nat} {g : Option (Nat × Bool)} {K : St → Prop} {f : Nat} {xs : List Operand} {ts us : List T} {vw : List Nat} {c : Prop} {R : T → List T → Prop} (hev : zBs s xs = some ts) (hp : zBE s (zDh ts) = some (us, [], vw, c)) (hC : ACall P f us R)
  (hK : (c ∧ zGN E d) ∧ zJp R vw d K s) : zAp P E ⟨d, g, .call f xs⟩ K s :=
 zVW hev hp hK.1.1 hC (zK6 hK.1.2) fun r l hR => ⟨zRl (hK.2 r l hR).1.1, zIg (hK.2 r l hR).1.2, (hK.2 r l hR).2⟩
def zOK : List Nat → List Bool → T → List T → Prop
 | [], _, _, _ => True
 | _ :: _, ms, r, l => r.noSh ∧ zBS ms l
theorem zWm {vw : List Nat} {ms : List Bool} {r : T} {l : List T} (h : zOK vw ms r l) : vw = [] ∨ (r.noSh ∧ zBS ms l) := by
 cases vw with
 | nil => exact .inl rfl
 | cons a v => exact .inr h
def zWn (K : St → Prop) (d : Option Nat) (r : T) (q : St × Prop) : Prop := (q.2 ∧ zFX q.1 d r) ∧ K (q.1.unpO d r)
def zSK (R : T → List T → Prop) (vw : List Nat) (modes : List Bool) (d : Option Nat) (K : St → Prop) (F : List T → St × Prop) : Prop := ∀ r l, R r l → zOK vw modes r l ∧ zWn K d r (F l)
theorem zXU {X : T} {Y : List T} {vw : List Nat} {modes : List Bool} {d : Option Nat} {K : St → Prop} {F : List T → St × Prop} : zSK (fun r l => r = X ∧ l = Y) vw modes d K F ↔ zOK vw modes X Y ∧ zWn K d X (F Y) :=
 ⟨fun h => h X Y ⟨rfl, rfl⟩, fun h r l e => by obtain ⟨rfl, rfl⟩ := e; exact h⟩
theorem zAci (modes : List Bool) {d : Option Nat} {g : Option (Nat × Bool)} {K : St → Prop} {f : Nat} {xs : List Operand} {ts us : List T} {ow vw : List Nat} {c : Prop} {R : T → List T → Prop} (hev : zBs s xs = some ts) (hp : zBE s (zCQ modes ts) = some (us, ow, vw, c)) (hC : ACall P f us R)
  (hK : (c ∧ zGN E d ∧ Nat.beq modes.length ts.length = true ∧ nodupB ow = true ∧ zKS ow vw = true) ∧ zSK R vw modes d K (bkL s (delL s ow) (zCQ modes ts))) : zAp P E ⟨d, g, .call f xs⟩ K s :=
 zVX modes hev hp hK.1.2.2.1 hK.1.2.2.2.1 hK.1.2.2.2.2 hK.1.1 (zK6 hK.1.2.1) hC fun r l hR => by
  obtain ⟨h1, h2⟩ := hK.2 r l hR
  exact ⟨zWm h1, h2.1.1, zIg h2.1.2, h2.2⟩
def T.cap : T → Bool
 | .bx false _ => true
 | .v _ => true
 | .sl false _ _ => true
 | _ => false
theorem zNJ : ∀ caps : List T, caps.all T.cap = true → ∃ c, zBE s (zDh caps) = some (caps, [], [], c) ∧ c
 | [], _ => ⟨True, rfl, trivial⟩
 | t :: ts, h => by
  simp only [List.all_cons, Bool.and_eq_true] at h
  obtain ⟨c, h1, h2⟩ := zNJ ts h.2
  have ht : vwT s t = some (t, [], t.packed ∧ t.bare = true) ∧ t.packed ∧ t.bare = true := by
   have := h.1
   unfold T.cap at this
   split at this
   ·exact ⟨rfl, by simp [T.packed], rfl⟩
   ·exact ⟨rfl, by simp [T.packed], rfl⟩
   ·exact ⟨rfl, by simp [T.packed], rfl⟩
   ·cases this
  refine ⟨(t.packed ∧ t.bare = true) ∧ c, ?_, ht.2, h2⟩
  simp only [zDh, zBE, Bool.false_eq_true, if_false, ht.1, h1, List.nil_append]
theorem zKu {caps : List T} (hcap : caps.all T.cap = true) : ∀ {ts us : List T} {vw : List Nat} {c : Prop}, zBE s (zDh ts) = some (us, [], vw, c) → c → ∃ c', zBE s (zDh (ts ++ caps)) = some (us ++ caps, [], vw, c') ∧ c'
 | [], us, vw, c, h, hc => by
  simp only [zDh, zBE, Option.some.injEq, Prod.mk.injEq] at h
  obtain ⟨rfl, _, rfl, _⟩ := h
  exact zNJ caps hcap
 | t :: ts, us, vw, c, h, hc => by
  simp only [zDh, zBE, Bool.false_eq_true, if_false, List.cons_append] at h ⊢
  split at h
  ·rename_i u i c1 us0 o v c2 h1 h2
   simp only [Option.some.injEq, Prod.mk.injEq] at h
   obtain ⟨rfl, rfl, rfl, rfl⟩ := h
   obtain ⟨c', h3, h4⟩ := zKu hcap h2 hc.2
   exact ⟨c1 ∧ c', by simp only [h1, h3, List.cons_append], hc.1, h4⟩
  ·cases h
theorem zJq : ∀ ts : List T, zDh ts = zCQ (ts.map fun _ => false) ts
 | [] => rfl
 | t :: ts => by simp [zDh, zCQ, zJq ts]
theorem zLO {d : Option Nat} {g : Option (Nat × Bool)} {K : St → Prop} {f : Nat} {x : Operand} {xs : List Operand} {caps ts us : List T} {vw : List Nat} {c : Prop} {R : T → List T → Prop} (hx : s.eval x = some (.fn f caps)) (hev : zBs s xs = some ts) (hp : zBE s (zDh ts) = some (us, [], vw, c)) (hf : zBT P f = true) (hcap : caps.all T.cap = true) (hC : ACall P f (us ++ caps) R)
  (hK : (c ∧ zGN E d) ∧ zJp R vw d K s) : zAp P E ⟨d, g, .callv x xs⟩ K s := by
 obtain ⟨c', h1, h2⟩ := zKu hcap hp hK.1.1
 rw [zJq] at h1
 refine zV1 ((ts ++ caps).map fun _ => false) hx hev hf h1 (by rw [List.length_map]; exact Nat.beq_refl _) rfl rfl h2 (zK6 hK.1.2) hC fun r l hR => ?_
 obtain ⟨h3, h4⟩ := hK.2 r l hR
 have hb := zLA (s0 := s) (s := delL s []) (ts ++ caps) l
 rw [← zMz, zJq] at hb
 refine ⟨(zRl h3.1).imp id (fun h => ⟨h, zFE _ _⟩), hb.2, ?_, ?_⟩
 ·rw [hb.1]; exact zIg h3.2
 ·rw [hb.1]; exact h4
def CV (P : Program) (f : Nat) (us : List T) (vw : List Nat) (d : Option Nat) (K : St → Prop) (s : St) : Prop := ∃ R, ACall P f us R ∧ zJp R vw d K s
def cv2 (P : Program) (E : Env) (f : Nat) (d : Option Nat) (K : St → Prop) (s : St) : Option (List T × List Nat × List Nat × Prop) → Prop
 | some (us, [], vw, c) => (c ∧ zGN E d) ∧ CV P f us vw d K s
 | _ => False
def cv1 (P : Program) (E : Env) (f : Nat) (d : Option Nat) (K : St → Prop) (s : St) : Option (List T) → Prop
 | some ts => cv2 P E f d K s (zBE s (zDh ts))
 | none => False
theorem zWo {f : Nat} {d : Option Nat} {K : St → Prop} {xs : List Operand} (h : cv1 P E f d K s (zBs s xs)) : ∃ ts us vw c R, zBs s xs = some ts ∧ zBE s (zDh ts) = some (us, [], vw, c) ∧ ACall P f us R ∧ (c ∧ zGN E d) ∧ zJp R vw d K s := by
 unfold cv1 at h
 split at h
 ·rename_i ts hts
  unfold cv2 at h
  split at h
  ·rename_i us vw c ha
   obtain ⟨h1, R, h2, h3⟩ := h
   exact ⟨ts, us, vw, c, R, hts, ha, h2, h1, h3⟩
  ·exact h.elim
 ·exact h.elim
theorem zAa {d : Option Nat} {g : Option (Nat × Bool)} {K : St → Prop} {f : Nat} {xs : List Operand} (h : cv1 P E f d K s (zBs s xs)) : zAp P E ⟨d, g, .call f xs⟩ K s := by
 obtain ⟨ts, us, vw, c, R, h1, h2, h3, h4, h5⟩ := zWo h
 exact zXr h1 h2 h3 ⟨h4, h5⟩
theorem cvA {f : Nat} {us : List T} {vw : List Nat} {d : Option Nat} {K : St → Prop} {R : T → List T → Prop} (hC : ACall P f us R) (h : zJp R vw d K s) : CV P f us vw d K s := ⟨R, hC, h⟩
theorem zSL {f : Nat} {us us' : List T} {vw : List Nat} {d : Option Nat} {K : St → Prop} {R : T → List T → Prop} (hC : ACall P f us' R) (h : zBn us us' ∧ zJp R vw d K s) : CV P f us vw d K s := ⟨R, hC.nilArgs h.1, h.2⟩
def CMd (P : Program) (f : Nat) (us : List T) (vw : List Nat) (modes : List Bool) (d : Option Nat) (K : St → Prop) (F : List T → St × Prop) : Prop := ∃ R, ACall P f us R ∧ zSK R vw modes d K F
def cm2 (P : Program) (E : Env) (f : Nat) (d : Option Nat) (modes : List Bool) (K : St → Prop) (s : St) (ts : List T) : Option (List T × List Nat × List Nat × Prop) → Prop
 | some (us, ow, vw, c) => (c ∧ zGN E d ∧ Nat.beq modes.length ts.length = true ∧ nodupB ow = true ∧ zKS ow vw = true) ∧ CMd P f us vw modes d K (bkL s (delL s ow) (zCQ modes ts))
 | none => False
def cm1 (P : Program) (E : Env) (f : Nat) (d : Option Nat) (modes : List Bool) (K : St → Prop) (s : St) : Option (List T) → Prop
 | some ts => cm2 P E f d modes K s ts (zBE s (zCQ modes ts))
 | none => False
theorem zAD (modes : List Bool) {d : Option Nat} {g : Option (Nat × Bool)} {K : St → Prop} {f : Nat} {xs : List Operand} (h : cm1 P E f d modes K s (zBs s xs)) : zAp P E ⟨d, g, .call f xs⟩ K s := by
 unfold cm1 at h
 split at h
 ·rename_i ts hts
  unfold cm2 at h
  split at h
  ·rename_i us ow vw c ha
   obtain ⟨h1, R, h2, h3⟩ := h
   exact zAci modes hts ha h2 ⟨h1, h3⟩
  ·exact h.elim
 ·exact h.elim
theorem cmA {f : Nat} {us : List T} {vw : List Nat} {modes : List Bool} {d : Option Nat} {K : St → Prop} {F : List T → St × Prop} {R : T → List T → Prop} (hC : ACall P f us R) (h : zSK R vw modes d K F) : CMd P f us vw modes d K F := ⟨R, hC, h⟩
end
end Go.Am

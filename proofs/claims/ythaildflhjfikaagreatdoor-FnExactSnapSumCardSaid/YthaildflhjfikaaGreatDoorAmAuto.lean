import Derived.Test.YthaildflhjfikaaGreatDoorAmTac
import Derived.Test.YthaildflhjfikaaGreatDoorAmCallv
import Derived.Test.YthaildflhjfikaaGreatDoorAmRop
import Derived.Test.YthaildflhjfikaaGreatDoorAmNest
import Derived.Test.YthaildflhjfikaaGreatDoorAmIns
set_option linter.all false
namespace Go.Am
open Go Go.RowKit
def mvC (s : St) (t : T) (ry : List (List T)) : Bool → Prop
 | true => True
 | false => ry.all (fun r => r.all T.mov) = true ∧ zMk s t
def mvS (s : St) (t : T) : Bool → St
 | true => s
 | false => mvP s t
def zLv : T → T → Bool
 | .ref id _ _, .ref id' _ _ => Nat.beq id id'
 | _, _ => false
def lkT (s : St) : T → Option Ob
 | .ref id _ _ => lk id s.objs
 | _ => none
def zAU (s : St) (d k : Nat) : Option Ob → T → T → Option (Prop × St)
 | some ob, .ref id lo n, .ref _ lo2 n2 => some (ob.k = k ∧ lo + n < ob.rows.length ∧ lo + n + n2 ≤ ob.rows.length ∧ lo2 + n2 ≤ ob.rows.length ∧ ((ob.rows.drop lo2).take n2).all (fun r => r.all T.storable) = true,
   (s.upd id ⟨k, zAl ob.rows (lo + n) ((ob.rows.drop lo2).take n2)⟩).set d (.ref id lo (n + n2)))
 | _, _, _ => none
def appG (E : Env) (s : St) (d k bytes : Nat) (ty : T) : Option (Prop × List (List T) × St) → Option (Prop × List (List T)) → Option (Prop × St)
 | some (c1, rb, s0), some (c2, ry) =>
  some (c1 ∧ c2 ∧ mvC s0 ty ry (ry.all (fun r => r.all T.storable)) ∧ ((rb.length + ry.length) * bytes ≤ 140737488355328 ∧ rb.length + ry.length ≤ 9223372036854775807) ∧ E.okd d ∧ zAk d (mvS s0 ty (ry.all (fun r => r.all T.storable))).objs ∧ zAt d rb ∧ zAt d ry, ((mvS s0 ty (ry.all (fun r => r.all T.storable))).new d ⟨k, rb ++ ry⟩).set d (.ref d 0 (rb.length + ry.length)))
 | _, _ => none
def zSi (s : St) (k : Nat) (z : Value) (id lo n : Nat) : Option Ob → Option (Prop × St)
 | some ob => some (ob.k = k ∧ (zAu z).length = k ∧ (zAu z).all T.storable = true ∧ lo < ob.rows.length ∧ 0 < n ∧ lo + n ≤ ob.rows.length, s.upd id ⟨k, zAl ob.rows lo (List.replicate n (zAu z))⟩)
 | none => none
def zSj (E : Env) (s : St) (d : Option Nat) (id lo n : Nat) : Option Ob → Option (Prop × St)
 | some ob => some (E.FullAt id ob.rows.length, s.put d (.v (.int .i64 ((ob.rows.length - lo : Nat) : Int))))
 | none => none
def zSk (s : St) (d : Option Nat) (k id lo n : Nat) (ty : T) : Option Ob → Option (Prop × List (List T)) → Option (Prop × St)
 | some ob, some (c2, ry) => some (c2 ∧ zKK ty ∧ ob.k = k ∧ lo < ob.rows.length ∧ lo + ry.length ≤ ob.rows.length ∧ ry.all (fun r => r.all T.storable) = true ∧ ry.length = min n (zF0 ty), (s.upd id ⟨k, zAl ob.rows lo ry⟩).put d (.v (.int .i64 ry.length)))
 | _, _ => none
def zSl (E : Env) (s : St) (d k bytes : Nat) (z : Value) (id lo n : Nat) (m : Int) : Option Ob → Option (Prop × St)
 | some ob => some (ob.k = k ∧ E.FullAt id ob.rows.length ∧ lo + n ≤ ob.rows.length ∧ 0 ≤ m ∧ ob.rows.length < lo + n + m.toNat ∧ ((ob.rows.drop lo).take n).all (fun r => r.all T.storable) = true ∧ (zAu z).length = k ∧ ((n + m.toNat) * bytes ≤ 140737488355328 ∧ n + m.toNat ≤ 9223372036854775807) ∧ E.okd d ∧ zAk d s.objs ∧ zAt d ((ob.rows.drop lo).take n),
   (s.new d ⟨k, (ob.rows.drop lo).take n ++ List.replicate m.toNat (zAu z)⟩).set d (.ref d 0 (n + m.toNat)))
 | none => none
def zCb (E : Env) (s : St) : Option Nat → I → Option (Prop × St)
 | some d, .alloc z => some (E.okd d ∧ zAk d s.objs, (s.new d ⟨(zAu z).length, [zAu z]⟩).set d (.ptr d 0 0))
 | some d, .box x =>
  match s.eval x with
  | some t =>
   match t.cells with
   | some row => some (t.plainV = true ∧ E.okd d ∧ zAk d s.objs ∧ zAB d row, (s.new d ⟨row.length, [row]⟩).set d (.ptr d 0 0))
   | none => none
  | none => none
 | none, .store n x v =>
  match s.eval x, s.eval v with
  | some (.ptr id j q), some t =>
   match lk id s.objs, t.cells with
   | some ob, some cs => some (cs.length = n ∧ t.plainV = true ∧ cs.all T.storable = true ∧ j < ob.rows.length ∧ q + n ≤ ob.k, s.upd id ⟨ob.k, zCP ob.rows j q cs⟩)
   | _, _ => none
  | _, _ => none
 | some d, .bsl k z n parts =>
  match zC5 s k parts with
  | some l =>
   match zDK (List.replicate (n * k) .any) l with
   | some flat => some (l.all (fun q => q.2.2.plainV) = true ∧ flat.length = n * k ∧ E.okd d ∧ zAk d s.objs ∧ zAt d (chunks k n flat), (s.new d ⟨k, chunks k n flat⟩).set d (.ref d 0 n))
   | none => none
  | none => none
 | some d, .mks k bytes z x y =>
  match s.eval x, s.eval y with
  | some (.v (.int _ l)), some (.v (.int _ c)) => some ((0 ≤ l ∧ l ≤ c ∧ c ≤ 9223372036854775807 ∧ bytes * c ≤ 281474976710656) ∧ (zAu z).length = k ∧ E.okd d ∧ zAk d s.objs, (s.new d ⟨k, List.replicate l.toNat (zAu z)⟩).set d (.ref d 0 l.toNat))
  | _, _ => none
 | some d, .app k bytes z x y =>
  match s.eval x, s.eval y with
  | some tx, some ty => bif zLv tx ty then zAU s d k (lkT s tx) tx ty else appG E s d k bytes ty (zHO s k tx) (zDO s k ty)
  | _, _ => none
 | some d, .apz k bytes z x y =>
  match s.eval x, s.eval y with
  | some (.ref id lo n), some (.v (.int _ m)) => zSl E s d k bytes z id lo n m (lk id s.objs)
  | _, _ => none
 | none, .clr k z x =>
  match s.eval x with
  | some (.ref id lo n) => zSi s k z id lo n (lk id s.objs)
  | _ => none
 | d, .capo x =>
  match s.eval x with
  | some (.ref id lo n) => zSj E s d id lo n (lk id s.objs)
  | _ => none
 | d, .cpy k x y =>
  match s.eval x, s.eval y with
  | some (.ref id lo n), some ty => zSk s d k id lo n ty (lk id s.objs) (zDO s k (zKJ n ty))
  | _, _ => none
 | some d, .load m x =>
  match s.eval x with
  | some (.ptr id i o) =>
   match lk id s.objs with
   | some ob => ldE E s d m id i o (i < ob.rows.length) (zAM m ((ob.rows.getD i []).drop o))
   | none => none
  | _ => none
 | _, _ => none
section
variable {P : Program} {E : Env} {s : St}
theorem zXm {d : Option Nat} {g : Option (Nat × Bool)} {i : I} {K : St → Prop} {p : Prop} {s' : St} (h : zCb E s d i = some (p, s')) (hp : p) (hK : K s') : zAp P E ⟨d, g, i⟩ K s := by
 unfold zCb at h
 split at h
 ·simp only [Option.some.injEq, Prod.mk.injEq] at h; obtain ⟨rfl, rfl⟩ := h
  exact zTS hp.1 hp.2 hK
 ·split at h
  ·rename_i hx
   split at h
   ·rename_i hc
    simp only [Option.some.injEq, Prod.mk.injEq] at h; obtain ⟨rfl, rfl⟩ := h
    exact zXd hx hc hp.1 hp.2.1 hp.2.2.1 hp.2.2.2 hK
   ·cases h
  ·cases h
 ·split at h
  ·rename_i hx hv
   split at h
   ·rename_i ho hc
    simp only [Option.some.injEq, Prod.mk.injEq] at h; obtain ⟨rfl, rfl⟩ := h
    exact zTT hx ho hv hc hp.1 hp.2.1 hp.2.2.1 hp.2.2.2.1 hp.2.2.2.2 hK
   ·cases h
  ·cases h
 ·split at h
  ·rename_i hl
   split at h
   ·rename_i hf
    simp only [Option.some.injEq, Prod.mk.injEq] at h; obtain ⟨rfl, rfl⟩ := h
    exact zXe hl hp.1 hf hp.2.1 hp.2.2.1 hp.2.2.2.1 hp.2.2.2.2 hK
   ·cases h
  ·cases h
 ·split at h
  ·rename_i hx hy
   simp only [Option.some.injEq, Prod.mk.injEq] at h; obtain ⟨rfl, rfl⟩ := h
   exact zYl rfl rfl hx hy hp.1.1 hp.1.2.1 hp.1.2.2.1 hp.1.2.2.2 hp.2.1 hp.2.2.1 hp.2.2.2 hK
  ·cases h
 ·split at h
  ·rename_i hx hy
   rename_i tx ty
   cases hsm : zLv tx ty with
   | true =>
    rw [hsm, cond_true] at h
    unfold zAU at h
    split at h
    ·rename_i ob id lo n id2 lo2 n2 ho
     simp only [Option.some.injEq, Prod.mk.injEq] at h; obtain ⟨rfl, rfl⟩ := h
     simp only [zLv] at hsm
     have := Nat.eq_of_beq_eq_true hsm
     subst this
     obtain ⟨p1, p2, p3, p4, p5⟩ := hp
     exact zXi hx hy ho p1 p2 p3 p4 p5 hK
    ·cases h
   | false =>
    rw [hsm, cond_false] at h
    unfold appG at h
    split at h
    ·rename_i c1 rb s0 c2 ry hb hsr
     simp only [Option.some.injEq, Prod.mk.injEq] at h; obtain ⟨rfl, rfl⟩ := h
     obtain ⟨p1, p2, p3, ⟨p4, p5⟩, p6, p7, p8, p9⟩ := hp
     cases hst : (ry.all fun r => r.all T.storable) with
     | true =>
      rw [hst] at p7 hK
      exact zYm rfl rfl hx hy hb p1 hsr p2 hst p4 p5 p6 p7 p8 p9 hK
     | false =>
      rw [hst] at p3 p7 hK
      exact zXl rfl rfl hx hy hb p1 hsr p2 p3.1 p3.2 p4 p5 p6 p7 p8 p9 hK
    ·cases h
  ·cases h
 ·split at h
  ·rename_i hx hy
   unfold zSl at h
   split at h
   ·rename_i ho
    simp only [Option.some.injEq, Prod.mk.injEq] at h; obtain ⟨rfl, rfl⟩ := h
    obtain ⟨p1, p2, p3, p4, p5, p6, p7, ⟨p8, p9⟩, p10, p11, p12⟩ := hp
    exact zYv hx hy ho p1 p2 p3 p4 p5 p6 p7 p8 p9 p10 p11 p12 hK
   ·cases h
  ·cases h
 ·split at h
  ·rename_i hx
   unfold zSi at h
   split at h
   ·rename_i ho
    simp only [Option.some.injEq, Prod.mk.injEq] at h; obtain ⟨rfl, rfl⟩ := h
    obtain ⟨p1, p2, p3, p4, p5, p6⟩ := hp
    exact zYt hx ho p1 p2 p3 p4 p5 p6 hK
   ·cases h
  ·cases h
 ·split at h
  ·rename_i hx
   unfold zSj at h
   split at h
   ·rename_i ho
    simp only [Option.some.injEq, Prod.mk.injEq] at h; obtain ⟨rfl, rfl⟩ := h
    exact zXk hx hp fun _ => hK
   ·cases h
  ·cases h
 ·split at h
  ·rename_i hx hy
   unfold zSk at h
   split at h
   ·rename_i ho hsr
    simp only [Option.some.injEq, Prod.mk.injEq] at h; obtain ⟨rfl, rfl⟩ := h
    obtain ⟨p1, p2, p3, p4, p5, p6, p7⟩ := hp
    exact zYu hx hy ho hsr p1 p2 p3 p4 p5 p6 p7 hK
   ·cases h
  ·cases h
 ·split at h
  ·rename_i hx
   split at h
   ·rename_i ho
    exact zYr hx ho h hp hK
   ·cases h
  ·cases h
 ·cases h
end
def zG1 (d d' id : Nat) : Nat := bif Nat.beq id d then d' else id
mutual
def T.ren (d d' : Nat) : T → T
 | .ref id lo n => .ref (zG1 d d' id) lo n
 | .ptr id i o => .ptr (zG1 d d' id) i o
 | .agg row => .agg (zCR d d' row)
 | .tup l => .tup (zCR d d' l)
 | .fn f caps => .fn f (zCR d d' caps)
 | .any => .any
 | .v x => .v x
 | .sl o k rows => .sl o k rows
 | .bo o row q => .bo o row q
def zCR (d d' : Nat) : List T → List T
 | [] => []
 | t :: ts => t.ren d d' :: zCR d d' ts
end
theorem zDD (d d' : Nat) : ∀ l : List T, (zCR d d' l).length = l.length
 | [] => rfl
 | t :: ts => by simp [zCR, zDD d d' ts]
section
variable {S : Nat → Prop} {w : World} {ρ : Nat → Option Hd}
def zKO (ρ : Nat → Option Hd) (d d' : Nat) : Nat → Option Hd := fun i => if i = d' then ρ d else ρ i
theorem zI4 {d d' id : Nat} (h : id ≠ d') : zKO ρ d d' (zG1 d d' id) = ρ id := by
 unfold zG1 zKO
 cases hb : Nat.beq id d with
 | true => rw [cond_true, if_pos rfl, Nat.eq_of_beq_eq_true hb]
 | false => rw [cond_false, if_neg h]
mutual
theorem zQ2 (d d' : Nat) : ∀ (t : T) {y : Value} {F : List Nat}, t.noM d' → Rep S w ρ t y F → Rep S w (zKO ρ d d') (t.ren d d') y F
 | .any, _, _, _, h => h
 | .v _, _, _, _, h => h
 | .agg row, _, _, hn, h => by
  simp only [Rep, T.ren, T.noM] at h hn ⊢
  obtain ⟨cs, h1, h2, h3⟩ := h
  exact ⟨cs, h1, by rw [zDD]; exact h2, zD7 d d' row hn h3⟩
 | .tup l, _, _, hn, h => by
  simp only [Rep, T.ren, T.noM] at h hn ⊢
  obtain ⟨cs, h1, h2, h3⟩ := h
  exact ⟨cs, h1, by rw [zDD]; exact h2, zD7 d d' l hn h3⟩
 | .sl _ _ _, _, _, _, h => by simp only [T.ren]; exact h
 | .bo _ _ _, _, _, _, h => by simp only [T.ren]; exact h
 | .ref id lo n, _, _, hn, h => by
  simp only [Rep, T.ren, T.noM] at h hn ⊢
  rw [zI4 hn]; exact h
 | .ptr id i o, _, _, hn, h => by
  simp only [Rep, T.ren, T.noM] at h hn ⊢
  rw [zI4 hn]; exact h
 | .fn _ caps, _, _, hn, h => by
  simp only [Rep, T.ren, T.noM] at h hn ⊢
  obtain ⟨cs, h1, h2, h3⟩ := h
  exact ⟨cs, h1, by rw [zDD]; exact h2, zD7 d d' caps hn h3⟩
theorem zD7 (d d' : Nat) : ∀ {cell : Nat → Option Value} {o : Nat} (l : List T) {F : List Nat}, zAB d' l → RepRow S w ρ cell o l F → RepRow S w (zKO ρ d d') cell o (zCR d d' l) F
 | _, _, [], _, _, h => by simp only [zCR]; exact h
 | _, _, t :: ts, _, hn, h => by
  simp only [RepRow, zCR, zAB] at h hn ⊢
  obtain ⟨y, F1, F2, h1, h2, h3, rfl⟩ := h
  exact ⟨y, F1, F2, h1, zQ2 d d' t hn.1 h2, zD7 d d' ts hn.2 h3, rfl⟩
end
def zBc (d d' : Nat) (rows : List (List T)) : List (List T) := rows.map (zCR d d')
theorem zKj (d d' : Nat) : ∀ {cell : Nat → Option Value} {o k : Nat} (l : List (List T)) {F : List Nat}, zAt d' l → zAb S w ρ cell o k l F → zAb S w (zKO ρ d d') cell o k (zBc d d' l) F
 | _, _, _, [], _, _, h => by simp only [zAb, zBc, List.map_nil] at h ⊢; exact h
 | _, _, _, r :: rs, _, hn, h => by
  simp only [zAb, zBc, List.map_cons] at h ⊢
  obtain ⟨F1, F2, h0, h1, h2, rfl⟩ := h
  exact ⟨F1, F2, by rw [zDD]; exact h0, zD7 d d' r (hn r (List.mem_cons_self ..)) h1, zKj d d' rs (fun x hx => hn x (List.mem_cons_of_mem _ hx)) h2, rfl⟩
end
mutual
theorem zSm (d d' : Nat) : ∀ {t : T}, t.packed → t.ren d d' = t
 | .any, _ => by simp only [T.ren]
 | .v _, _ => by simp only [T.ren]
 | .sl _ _ _, _ => by simp only [T.ren]
 | .bo _ _ _, _ => by simp only [T.ren]
 | .agg row, h => by simp only [T.ren, T.packed] at h ⊢; rw [zDE d d' h]
 | .tup row, h => by simp only [T.ren, T.packed] at h ⊢; rw [zDE d d' h]
 | .fn _ row, h => by simp only [T.ren, T.packed] at h ⊢; rw [zDE d d' h]
 | .ref _ _ _, h => by simp only [T.packed] at h
 | .ptr _ _ _, h => by simp only [T.packed] at h
theorem zDE (d d' : Nat) : ∀ {l : List T}, zAw l → zCR d d' l = l
 | [], _ => rfl
 | t :: ts, h => by simp only [zCR, zAw] at h ⊢; rw [zSm d d' h.1, zDE d d' h.2]
end
theorem zPd (d d' : Nat) {l : List (List T)} (h : zAr l) : zBc d d' l = l := by
 unfold zBc
 conv => rhs; rw [← List.map_id l]
 exact List.map_congr_left fun r hr => zDE d d' (h r hr)
def zJR (d d' : Nat) : List (Nat × T) → List (Nat × T)
 | [] => []
 | (n, t) :: r => (n, t.ren d d') :: zJR d d' r
def zJS (d d' : Nat) : List (Nat × Ob) → List (Nat × Ob)
 | [] => []
 | (m, ob) :: r => (zG1 d d' m, ⟨ob.k, zBc d d' ob.rows⟩) :: zJS d d' r
def zHZ (d : Nat) : List (Nat × Ob) → Prop
 | [] => True
 | (m, ob) :: r => m ≠ d ∧ zAt d ob.rows ∧ zHZ d r
def St.ren (s : St) (d d' : Nat) : St := ⟨zJR d d' (kill d' s.slots), zJS d d' (Am.del d' s.objs)⟩
theorem zPe (d d' n : Nat) (t : T) : ∀ l : List (Nat × T), lk n (zJR d d' l) = some t → ∃ u, lk n l = some u ∧ t = u.ren d d'
 | [], h => by simp [zJR, lk] at h
 | (m, u) :: r, h => by
  simp only [zJR, lk] at h ⊢
  split at h
  ·rename_i e; simp only [Option.some.injEq] at h; exact ⟨u, by rw [if_pos e], h.symm⟩
  ·rename_i e; rw [if_neg e]; exact zPe d d' n t r h
theorem zEB {d d' : Nat} : ∀ {l : List (Nat × Ob)}, zHZ d' l → ∀ {n : Nat} {ob : Ob}, lk n (zJS d d' l) = some ob → ∃ m ob0, lk m l = some ob0 ∧ n = zG1 d d' m ∧ m ≠ d' ∧ zAt d' ob0.rows ∧ ob = ⟨ob0.k, zBc d d' ob0.rows⟩
 | [], _, n, ob, h => by simp [zJS, lk] at h
 | (m, ob0) :: r, hf, n, ob, h => by
  simp only [zJS, lk, zHZ] at h hf ⊢
  split at h
  ·rename_i e
   simp only [Option.some.injEq] at h
   exact ⟨m, ob0, by rw [if_pos rfl], e.symm, hf.1, hf.2.1, h.symm⟩
  ·rename_i e
   obtain ⟨m', ob1, h1, h2, h3, h4, h5⟩ := zEB hf.2.2 h
   refine ⟨m', ob1, ?_, h2, h3, h4, h5⟩
   rw [if_neg (fun e2 => e (by rw [e2, h2]))]
   exact h1
theorem zF3 {d : Nat} : ∀ {l : List (Nat × Ob)}, zAk d l → zHZ d (del d l)
 | [], _ => trivial
 | (m, ob) :: r, h => by
  simp only [zAk, del] at h ⊢
  split
  ·exact zF3 h.2
  ·rename_i e; exact ⟨e, h.1.resolve_left e, zF3 h.2⟩
section
variable {P : Program} {E : Env} {s : St}
theorem zXn {d d' : Nat} (hp : E.okd d') (hno : zAk d' s.objs) : Ent E s (s.ren d d') := by
 have hfree := zF3 hno
 rintro a w ⟨S, ρ, foot, h⟩
 refine ⟨S, zKO ρ d d', fun i => if i = d' then foot d else foot i, ?_⟩
 have hlk : ∀ m ob, lk m (del d' s.objs) = some ob → lk m s.objs = some ob := fun m ob hm => ((zBJ d' m ob s.objs).1 hm).2
 have hfoot : ∀ m, m ≠ d' → (if zG1 d d' m = d' then foot d else foot (zG1 d d' m)) = foot m := by
  intro m hm
  unfold zG1
  cases hb : Nat.beq m d with
  | true => rw [cond_true, if_pos rfl, Nat.eq_of_beq_eq_true hb]
  | false => rw [cond_false, if_neg hm]
 exact {
  nt := h.nt, defers := h.defers
  slots := fun n t hn => by
   obtain ⟨u, h1, rfl⟩ := zPe d d' n t _ hn
   rcases zMf d' n u _ h1 with rfl | ⟨h2, h3⟩
   ·simp [Rep, T.ren]
   ·exact zQ2 d d' u h3 (h.slots n u h2)
  objs := fun n ob hl => by
   obtain ⟨m, ob0, h1, rfl, h3, h4, rfl⟩ := zEB hfree hl
   obtain ⟨hd, e1, e2, e3⟩ := h.objs m ob0 (hlk m ob0 h1)
   refine ⟨hd, by rw [zI4 h3]; exact e1, e2, ?_⟩
   simp only [hfoot m h3]
   rcases e3 with ⟨e3, e4, e5⟩ | ⟨b, off, arr, el, fr, Fs, f1, f2, f3, f4, f5, f6, f7⟩
   ·exact .inl ⟨e3, by simp [zBc, e4], e5⟩
   ·exact .inr ⟨b, off, arr, el, fr, Fs, f1, f2, by simpa [zBc] using f3, f4, f5, zKj d d' _ h4 f6, f7⟩
  nodup := fun n ob hl => by
   obtain ⟨m, ob0, h1, rfl, h3, h4, rfl⟩ := zEB hfree hl
   simp only [hfoot m h3]
   exact h.nodup m ob0 (hlk m ob0 h1)
  apart := fun n ob n' ob' hl hl' hne => by
   obtain ⟨m, ob0, h1, rfl, h3, h4, rfl⟩ := zEB hfree hl
   obtain ⟨m', ob0', h1', rfl, h3', h4', rfl⟩ := zEB hfree hl'
   simp only [hfoot m h3, hfoot m' h3']
   exact h.apart m ob0 m' ob0' (hlk m ob0 h1) (hlk m' ob0' h1') (fun e => hne (by rw [e]))
  mine := fun n ob hl => by
   obtain ⟨m, ob0, h1, rfl, h3, h4, rfl⟩ := zEB hfree hl
   simp only [hfoot m h3]
   exact h.mine m ob0 (hlk m ob0 h1)
  shared := h.shared, S0 := h.S0, kept := h.kept
  pins := fun p hpp => zJK d' (fun i hi => by simp [zKO, hi]) p.1 (hp p hpp) (h.pins p hpp) }
def St.nilS (s : St) (n d k : Nat) : St := (s.new d ⟨k, []⟩).set n (.ref d 0 0)
theorem zVK {n d k : Nat} (hn : lk n s.slots = some (.v (.slice none 0 0))) (hp : E.okd d) (hno : zAk d s.objs) : Ent E s (s.nilS n d k) := by
 rintro a w ⟨S, ρ, foot, h⟩
 have hr := h.slots n _ hn
 simp only [Rep] at hr
 have hy := hr.1
 have h2 := h.new (d := d) (ob := ⟨k, []⟩) (hd := ⟨none, 0, k⟩) (F := []) hp hno (by intro r hr; cases hr) ⟨rfl, .inl ⟨rfl, rfl, rfl⟩⟩ List.nodup_nil (by simp) (by simp)
 refine ⟨S, fun i => if i = d then some ⟨none, 0, k⟩ else ρ i, fun i => if i = d then [] else foot i, ?_⟩
 exact {
  nt := h2.nt, defers := h2.defers
  slots := fun m t hm => by
   simp only [St.nilS, St.set, lk] at hm
   split at hm
   ·rename_i e
    subst e
    simp only [Option.some.injEq] at hm
    subst hm
    simp only [Rep]
    exact ⟨trivial, ⟨none, 0, k⟩, none, 0, by simp, by simpa using hy, rfl, Nat.le_refl _, .inl rfl⟩
   ·exact h2.slots m t hm
  objs := h2.objs, nodup := h2.nodup, apart := h2.apart, mine := h2.mine, shared := h2.shared, S0 := h2.S0, kept := h2.kept, pins := h2.pins }
def zPf (na id : Nat) : Bool := Nat.blt id na || (Nat.ble 1000 id && Nat.blt id (1000 * (na + 1))) || Nat.ble 1000000 id
def zKP (E : Env) (na c id : Nat) (r : Prop × St) : Prop × St :=
 bif zPf na id then r else ((r.1 ∧ E.okd c) ∧ zAk c r.2.objs, r.2.ren id c)
def zDF (E : Env) (na c : Nat) : List T → Prop × St → Prop × St
 | [], r => r
 | .ref id _ _ :: ts, r => zDF E na (c + 1) ts (zKP E na c id r)
 | _ :: ts, r => zDF E na (c + 1) ts r
def zPg (E : Env) (n k : Nat) (r : Prop × St) : Prop × St :=
 bif Nat.beq k 0 then r else bif Nat.ble 1000 k then (r.1, r.2.set n (.sl false (k - 1000) []))
 else ((r.1 ∧ E.okd (1000000 * (n + 1))) ∧ zAk (1000000 * (n + 1)) r.2.objs, r.2.nilS n (1000000 * (n + 1)) k)
def zPh (E : Env) (na n k : Nat) (r : Prop × St) : Option T → Prop × St
 | some (.ref id _ _) => zKP E na (1000000 * (n + 1)) id r
 | some (.ptr id _ _) => zKP E na (1000000 * (n + 1)) id r
 | some (.v (.slice none 0 0)) => zPg E n k r
 | some (.agg row) => zDF E na (1000000 * (n + 1) + 1) row r
 | _ => r
def zLw (E : Env) (na n : Nat) (r : Prop × St) : Option Ob → Prop × St
 | some ⟨_, [row]⟩ => zDF E na (1000000 * (n + 1) + 1) row r
 | _ => r
def zPi (E : Env) (na n : Nat) (r : Prop × St) : Option T → Prop × St
 | some (.ptr id _ _) => zLw E na n r (lk id r.2.objs)
 | _ => r
def zKQ (E : Env) (na : Nat) : List (Nat × Nat) → Prop × St → Prop × St
 | [], r => r
 | (n, k) :: ns, r => zKQ E na ns ((fun q : Prop × St => zPi E na n q (lk n q.2.slots)) (zPh E na n k r (lk n r.2.slots)))
def zHr (l : List (Nat × T)) : List (Nat × Nat) → List (Nat × T)
 | [] => []
 | (n, _) :: r => (n, match lk n l with | some t => t | none => .any) :: zHr l r
def zH0 : List T → List Nat
 | [] => []
 | .ref id _ _ :: ts => id :: zH0 ts
 | .ptr id _ _ :: ts => id :: zH0 ts
 | _ :: ts => zH0 ts
def zYy : Option Ob → List Nat
 | some ⟨_, [row]⟩ => zH0 row
 | _ => []
def zYz (l : List (Nat × Ob)) : T → List Nat
 | .ref id _ _ => [id]
 | .ptr id _ _ => id :: zYy (lk id l)
 | .agg row => zH0 row
 | .fn _ caps => zH0 caps
 | _ => []
def zVL (l : List (Nat × Ob)) : List (Nat × T) → List Nat
 | [] => []
 | (_, t) :: r => zYz l t ++ zVL l r
def zSn : List Nat → List Nat
 | [] => []
 | x :: r => x :: (zSn r).filter (fun y => !(Nat.beq x y))
def St.fin (s : St) (L : List (Nat × Nat)) : St := (fun sl => ⟨sl, zHU s.objs (zSn (zVL s.objs sl))⟩) (zHr s.slots L)
def canon (E : Env) (na : Nat) (L : List (Nat × Nat)) (s : St) : Prop × St := (fun r : Prop × St => (r.1, r.2.fin L)) (zKQ E na L (True, s.fin L))
def St.fin0 (s : St) (L : List Nat) : St := ⟨zJP s.slots L, s.objs⟩
theorem zH1 {na c id : Nat} {r : Prop × St} (h : r.1 → Ent E s r.2) (hc : (zKP E na c id r).1) : r.1 ∧ Ent E s (zKP E na c id r).2 := by
 unfold zKP at hc ⊢
 cases hk : zPf na id with
 | true => rw [hk] at hc; exact ⟨hc, h hc⟩
 | false => rw [hk] at hc; exact ⟨hc.1.1, (h hc.1.1).trans (zXn hc.1.2 hc.2)⟩
theorem zFB {na : Nat} : ∀ {row : List T} {c : Nat} {r : Prop × St}, (r.1 → Ent E s r.2) → (zDF E na c row r).1 → r.1 ∧ Ent E s (zDF E na c row r).2
 | [], c, r, h, hc => by simp only [zDF] at hc ⊢; exact ⟨hc, h hc⟩
 | t :: ts, c, r, h, hc => by
  cases t with
  | ref id lo n =>
   simp only [zDF] at hc ⊢
   have := zFB (fun hq => (zH1 h hq).2) hc
   exact ⟨(zH1 h this.1).1, this.2⟩
  | _ => simp only [zDF] at hc ⊢; exact zFB h hc
theorem zTW {n k : Nat} (hn : lk n s.slots = some (.v (.slice none 0 0))) : Ent E s (s.set n (.sl false k [])) := by
 rintro a w ⟨S, ρ, foot, h⟩
 have hr := h.slots n _ hn
 simp only [Rep] at hr
 refine ⟨S, ρ, foot, { nt := h.nt, defers := h.defers, objs := h.objs, nodup := h.nodup, apart := h.apart, mine := h.mine, shared := h.shared, S0 := h.S0, kept := h.kept, pins := h.pins, slots := fun m t hm => ?_ }⟩
 simp only [St.set, lk] at hm
 split at hm
 ·rename_i e
  subst e
  simp only [Option.some.injEq] at hm
  subst hm
  simp only [Rep]
  exact ⟨none, 0, by simpa using hr.1, .inl ⟨rfl, trivial, trivial⟩⟩
 ·exact h.slots m t hm
theorem zVM {n k : Nat} {r : Prop × St} (h : r.1 → Ent E s r.2) (hn : lk n r.2.slots = some (.v (.slice none 0 0))) (hc : (zPg E n k r).1) : r.1 ∧ Ent E s (zPg E n k r).2 := by
 unfold zPg at hc ⊢
 cases h1 : Nat.beq k 0 with
 | true => simp only [h1, cond_true] at hc ⊢; exact ⟨hc, h hc⟩
 | false =>
  cases h2 : Nat.ble 1000 k with
  | true => simp only [h1, h2, cond_true, cond_false] at hc ⊢; exact ⟨hc, (h hc).trans (zTW hn)⟩
  | false => simp only [h1, h2, cond_false] at hc ⊢; exact ⟨hc.1.1, (h hc.1.1).trans (zVK hn hc.1.2 hc.2)⟩
theorem zKR {na n k : Nat} {r : Prop × St} (h : r.1 → Ent E s r.2) (hc : (zPh E na n k r (lk n r.2.slots)).1) : r.1 ∧ Ent E s (zPh E na n k r (lk n r.2.slots)).2 := by
 generalize ho : lk n r.2.slots = o at hc ⊢
 unfold zPh at hc ⊢
 split
 ·exact zH1 h hc
 ·exact zH1 h hc
 ·exact zVM h ho hc
 ·exact zFB h hc
 ·rename_i h1 h2 h3 h4
  split at hc
  ·exact absurd rfl (h1 _ _ _)
  ·exact absurd rfl (h2 _ _ _)
  ·exact absurd rfl h3
  ·exact absurd rfl (h4 _)
  ·exact ⟨hc, h hc⟩
theorem zPj {na n : Nat} {r : Prop × St} {o : Option T} (h : r.1 → Ent E s r.2) (hc : (zPi E na n r o).1) : r.1 ∧ Ent E s (zPi E na n r o).2 := by
 have key : ∀ o, (zLw E na n r o).1 → r.1 ∧ Ent E s (zLw E na n r o).2 := by
  intro o hc
  unfold zLw at hc ⊢
  split
  ·exact zFB h hc
  ·rename_i h1
   split at hc
   ·exact absurd rfl (h1 _ _)
   ·exact ⟨hc, h hc⟩
 unfold zPi at hc ⊢
 split
 ·exact key _ hc
 ·rename_i h1
  split at hc
  ·exact absurd rfl (h1 _ _ _)
  ·exact ⟨hc, h hc⟩
theorem zPk {na : Nat} : ∀ {L : List (Nat × Nat)} {r : Prop × St}, (r.1 → Ent E s r.2) → (zKQ E na L r).1 → r.1 ∧ Ent E s (zKQ E na L r).2
 | [], r, h, hc => by simp only [zKQ] at hc ⊢; exact ⟨hc, h hc⟩
 | (n, k) :: ns, r, h, hc => by
  simp only [zKQ] at hc ⊢
  have := zPk (fun hq => (zPj (fun hp => (zKR h hp).2) hq).2) hc
  have h2 := zPj (fun hp => (zKR h hp).2) this.1
  exact ⟨(zKR h h2.1).1, this.2⟩
theorem zNw {l : List (Nat × T)} : ∀ {ns : List (Nat × Nat)} {n : Nat} {t : T}, lk n (zHr l ns) = some t → t = .any ∨ lk n l = some t
 | [], n, t, h => by simp [zHr, lk] at h
 | (m, k) :: r, n, t, h => by
  simp only [zHr, lk] at h
  split at h
  ·rename_i e
   subst e
   simp only [Option.some.injEq] at h
   split at h
   ·rename_i t' ht; subst h; exact .inr ht
   ·exact .inl h.symm
  ·exact zNw h
theorem zMz (L : List (Nat × Nat)) : Ent E s (s.fin L) := zMn (fun _ _ h => zNw h) (fun _ _ h => zKC h)
theorem zVN (L : List Nat) : Ent E s (s.fin0 L) := zMn (fun _ _ h => zO4 h) (fun _ _ h => h)
theorem zI5 {na : Nat} {L : List (Nat × Nat)} (h : (canon E na L s).1) : Ent E s (canon E na L s).2 :=
 ((zPk (r := (True, s.fin L)) (fun _ => zMz L) h).2).trans (zMz L)
end
inductive AS where
 | skip
 | ops (l : List IN)
 | dops (l : List IN)
 | rops (l : List (Option (List IN) × IN))
 | tops (L : List (Nat × Nat)) (t : RT)
 | seq (a b : AS)
 | cond (x : Operand) (a b : AS)
 | loop (na : Nat) (L : List (Nat × Nat)) (b : AS)
 | block (id : Nat) (b : AS)
 | exit (id : Nat)
 | ret
 | kept (L : List Nat) (b : AS)
 | post (ms : List (Nat × Nat × List (Nat × Nat))) (a : AS)
 | pre (l : List IN) (x new : Nat) (a : AS)
 | lay (ms : List (Nat × Nat × List (Nat × Nat))) (a : AS)
def AS.strip : AS → Stmt
 | .skip => .skip
 | .ops l => .ops l
 | .dops l => .dops l
 | .rops l => .rops l
 | .tops _ t => .tops t
 | .seq a b => .seq a.strip b.strip
 | .cond x a b => .cond x a.strip b.strip
 | .loop _ _ b => .loop b.strip
 | .block id b => .block id b.strip
 | .exit id => .exit id
 | .ret => .ret
 | .kept _ b => b.strip
 | .post _ a => a.strip
 | .pre _ _ _ a => a.strip
 | .lay _ a => a.strip
def zI6 (K : St → Prop) (r : Prop × St) : Prop := r.1 ∧ K r.2
def zLx (ms : List (Nat × Nat × List (Nat × Nat))) (Q : Exit → St → Prop) : Exit → St → Prop
 | .normal, s => zI6 (Q .normal) (zDP ms (True, s))
 | e, s => Q e s
def zVO (E : Env) (s : St) (id i o new : Nat) : Option Ob → Prop × St
 | some ob => zDs E id i o new (((ob.rows.getD i []).drop o).take 1) (i < ob.rows.length, s)
 | none => (True, s)
def preO (E : Env) (s : St) (new : Nat) : Option T → Prop × St
 | some (.ptr id i o) => zVO E s id i o new (lk id s.objs)
 | _ => (True, s)
def zYA (d : Option Nat) (s : St) : Option (Prop × T) → St
 | some (_, t) => s.put d t
 | none => s
def zSo (s : St) : List IN → St
 | [] => s
 | i :: l => zSo (zYA i.dst s (zAe s i.i)) l
def zMA (E : Env) (s : St) (l : List IN) (x new : Nat) : Prop × St := preO E s new (lk x (zSo s l).slots)
theorem zVP {E : Env} {s : St} {l : List IN} {x new : Nat} (h : (zMA E s l x new).1) : Ent E s (zMA E s l x new).2 := by
 unfold zMA at h ⊢
 generalize lk x (zSo s l).slots = t at h ⊢
 unfold preO at h ⊢
 split
 ·rename_i id i o
  simp only at h
  cases ho : lk id s.objs with
  | none => exact Ent.refl s
  | some ob =>
   rw [ho] at h
   simp only [zVO] at h ⊢
   refine (zJQ (s := s) (len := (ob.rows.getD i []).length) (r := (i < ob.rows.length, s)) (fun hq => ⟨Ent.refl s, ⟨ob, ho, hq, rfl, fun n u hn => ?_⟩, fun _ _ h _ => h⟩) h).2.1
   rw [List.getElem?_take] at hn
   split at hn
   ·rwa [List.getElem?_drop] at hn
   ·cases hn
 ·exact Ent.refl s
def zPl (P : Program) (E : Env) (d : Option Nat) (g : Option (Nat × Bool)) (i : I) (K : St → Prop) (s : St) : Option (Prop × St) → Prop
 | some (p, s') => p ∧ K s'
 | none => zAp P E ⟨d, g, i⟩ K s
def zD8 (P : Program) (E : Env) (d : Option Nat) (g : Option (Nat × Bool)) (i : I) (K : St → Prop) (s : St) : Option (Prop × T) → Prop
 | some (p, t) => p ∧ K (s.put d t)
 | none => zPl P E d g i K s (zCb E s d i)
def ws1 (P : Program) (E : Env) (d : Option Nat) (g : Option (Nat × Bool)) (i : I) (K : St → Prop) (s : St) : Prop := zD8 P E d g i K s (zAe s i)
def wsO (P : Program) (E : Env) : List IN → (St → Prop) → St → Prop
 | [], K, s => K s
 | ⟨d, none, i⟩ :: r, K, s => zD8 P E d none i (wsO P E r K) s (zAe s i)
 | ⟨d, some (t, b), i⟩ :: r, K, s => grd (lk t s.slots) b (ws1 P E d (some (t, b)) i (wsO P E r K)) (skO (wsO P E r) d K) s
def zLy (P : Program) (E : Env) (na : Nat) (L : List (Nat × Nat)) (b : AS) (Q : Exit → St → Prop) (s : St) : Prop := zCY P E b.strip Q s
def zVQ (P : Program) (E : Env) (na : Nat) (L : List (Nat × Nat)) (b : AS) (Q : Exit → St → Prop) (r : Prop × St) : Prop := r.1 ∧ zLy P E na L b Q r.2
def zKS (d : Option Nat) (K : St → Prop) (s : St) : Option (Prop × T) → Prop
 | some (p, t) => p ∧ K (s.put d t)
 | none => False
def zI7 (P : Program) (E : Env) (b : Option (List IN)) (d : Option Nat) (g : Option (Nat × Bool)) (i : I) (K : St → Prop) (s : St) : Prop :=
 match b with
 | none => zKS d K s (zAe s i)
 | some l => zD8 P E d g i (rrK l K) s (zAe s i)
def zVR (P : Program) (E : Env) (b : Option (List IN)) (d : Option Nat) (g : Option (Nat × Bool)) (i : I) (K : St → Prop) (s : St) : Prop := zI7 P E b d g i K s
def skR (b : Option (List IN)) (f : (St → Prop) → St → Prop) (d : Option Nat) (K : St → Prop) (s : St) : Prop := zOw b (f K) (s.put d (.tup []))
def wsR (P : Program) (E : Env) : List (Option (List IN) × IN) → (St → Prop) → St → Prop
 | [], K, s => K s
 | (b, ⟨d, none, i⟩) :: r, K, s => zI7 P E b d none i (wsR P E r K) s
 | (b, ⟨d, some (t, g), i⟩) :: r, K, s => grd (lk t s.slots) g (zVR P E b d (some (t, g)) i (wsR P E r K)) (skR b (wsR P E r) d K) s
def Both (A B : Prop) : Prop := A ∧ B
theorem both {A B : Prop} (h1 : A) (h2 : B) : Both A B := ⟨h1, h2⟩
def Jn (A : (St → Prop) → Prop) (B : St → Prop) : Prop := ∃ I, A I ∧ ∀ S, I S → B S
theorem jn {A : (St → Prop) → Prop} {B : St → Prop} (S : St) (h1 : A (fun x => x = S)) (h2 : B S) : Jn A B := ⟨_, h1, fun _ e => e ▸ h2⟩
def zGy (L : List (Nat × Nat)) (I : St → Prop) (s : St) : Prop := I (s.fin L)
theorem zA4 {L : List (Nat × Nat)} {S s : St} (h : s.fin L = S) : zGy L (fun x => x = S) s := h
def zMB (P : Program) (E : Env) (l : List IN) (d : Option Nat) (g : Option (Nat × Bool)) (i : I) (K : St → Prop) (s : St) : Prop := zD8 P E d g i (rrK l K) s (zAe s i)
def skT (l : List IN) (f : (St → Prop) → St → Prop) (d : Option Nat) (K : St → Prop) (s : St) : Prop := rrK l (f K) (s.put d (.tup []))
def zSp (d : Option Nat) (i : I) (K : St → Prop) (s : St) : Prop := zKS d K s (zAe s i)
def wsT (P : Program) (E : Env) : RT → (St → Prop) → St → Prop
 | .done, K, s => K s
 | .none, _, _ => True
 | .rd ⟨d, none, i⟩ r, K, s => zSp d i (wsT P E r K) s
 | .rd ⟨d, some (t, g), i⟩ r, K, s => grd (lk t s.slots) g (zSp d i (wsT P E r K)) (skO (wsT P E r) d K) s
 | .alt l ⟨d, none, i⟩ r o, K, s => Both (zMB P E l d none i (wsT P E r K) s) (wsT P E o K s)
 | .alt l ⟨d, some (t, g), i⟩ r o, K, s => Both (grd (lk t s.slots) g (zMB P E l d (some (t, g)) i (wsT P E r K)) (skT l (wsT P E r) d K) s) (wsT P E o K s)
def wsS (P : Program) (E : Env) : AS → (Exit → St → Prop) → St → Prop
 | .skip, Q, s => Q .normal s
 | .ops l, Q, s => wsO P E l (Q .normal) s
 | .dops l, Q, s => wpQ P l (Q .normal) s
 | .rops l, Q, s => wsR P E l (Q .normal) s
 | .tops L t, Q, s => Jn (fun I => wsT P E t (zGy L I) s) (Q .normal)
 | .seq a b, Q, s => wsS P E a (zKD (wsS P E b) Q) s
 | .cond x a b, Q, s => grc (s.eval x) (wsS P E a Q) (wsS P E b Q) s
 | .loop na L b, Q, s => zVQ P E na L b Q (canon E na L s)
 | .block id b, Q, s => wsS P E b (zD4 id Q) s
 | .exit id, Q, s => Q (.exit id) s
 | .ret, Q, s => Q .ret s
 | .kept L b, Q, s => wsS P E b Q (s.fin0 L)
 | .post ms a, Q, s => wsS P E a (zLx ms Q) s
 | .pre l x new a, Q, s => zI6 (wsS P E a Q) (zMA E s l x new)
 | .lay ms a, Q, s => zI6 (wsS P E a Q) (zDP ms (True, s))
section
variable {P : Program} {E : Env} {s : St}
theorem zHs {d : Option Nat} {g : Option (Nat × Bool)} {i : I} {K K' : St → Prop} (hK : ∀ s, K s → K' s) (h : zD8 P E d g i K s (zAe s i)) : zAp P E ⟨d, g, i⟩ K' s := by
 unfold zD8 at h
 split at h
 ·rename_i p t hp
  exact zQU (i := ⟨d, g, i⟩) hp h.1 (hK _ h.2)
 ·unfold zPl at h
  split at h
  ·rename_i p s' he
   exact zXm he h.1 (hK _ h.2)
  ·exact zOH hK h
theorem zFd : ∀ {l : List IN} {K : St → Prop} {s : St}, wsO P E l K s → zD3 P E l K s
 | [], K, s, h => h
 | ⟨d, none, i⟩ :: r, K, s, h => by
  simp only [wsO] at h
  simp only [zD3]
  exact zHs (fun _ h => zFd h) h
 | ⟨d, some (t, b), i⟩ :: r, K, s, h => by
  simp only [wsO] at h
  simp only [zD3]
  unfold grd at h
  split at h
  ·rename_i c hl
   refine .inl ⟨c, hl, fun e => zHs (fun _ h => zFd h) (h.1 e), fun e => zFd (h.2 ?_)⟩
   cases c <;> cases b <;> simp at e ⊢
  ·rename_i hl
   exact .inr ⟨hl, zFd h⟩
  ·exact h.elim
theorem zJT {b : Option (List IN)} {d : Option Nat} {g : Option (Nat × Bool)} {i : I} {K K' : St → Prop} (hK : ∀ s, K s → K' s) (h : zI7 P E b d g i K s) : zLp P E b ⟨d, g, i⟩ K' s := by
 cases b with
 | none =>
  simp only [zI7] at h
  unfold zKS at h
  split at h
  ·rename_i p t hp
   exact ⟨p, t, hp, h.1, hK _ h.2⟩
  ·exact h.elim
 | some l => exact zHs (fun s h => ⟨h.1, hK _ h.2⟩) h
theorem zTX {b : Option (List IN)} {d : Option Nat} {f : (St → Prop) → St → Prop} {K : St → Prop} {K' : St → Prop} (hK : ∀ s, f K s → K' s) (h : skR b f d K s) : zOw b K' (s.put d (.tup [])) := by
 cases b with
 | none => exact hK _ h
 | some l => exact ⟨h.1, hK _ h.2⟩
theorem zFe : ∀ {l : List (Option (List IN) × IN)} {K : St → Prop} {s : St}, wsR P E l K s → OkR P E l K s
 | [], K, s, h => h
 | (b, ⟨d, none, i⟩) :: r, K, s, h => by
  simp only [wsR] at h
  simp only [OkR]
  exact zJT (fun _ h => zFe h) h
 | (b, ⟨d, some (t, g), i⟩) :: r, K, s, h => by
  simp only [wsR] at h
  simp only [OkR]
  unfold grd at h
  split at h
  ·rename_i c hl
   refine .inl ⟨c, hl, fun e => zJT (fun _ h => zFe h) (h.1 e), fun e => zTX (fun _ h => zFe h) (h.2 ?_)⟩
   cases c <;> cases g <;> simp at e ⊢
  ·rename_i hl
   exact .inr ⟨hl, zTX (fun _ h => zFe h) h⟩
  ·exact h.elim
theorem zBS : ∀ {t : RT} {K : St → Prop} {s : St}, wsT P E t K s → OkT P E t K s
 | .done, K, s, h => h
 | .none, K, s, h => trivial
 | .rd ⟨d, none, i⟩ r, K, s, h => by
  simp only [wsT] at h
  simp only [OkT]
  exact zJT (b := none) (fun _ h => zBS h) h
 | .rd ⟨d, some (t, g), i⟩ r, K, s, h => by
  simp only [wsT] at h
  simp only [OkT]
  unfold grd at h
  split at h
  ·rename_i c hl
   refine .inl ⟨c, hl, fun e => zJT (b := none) (fun _ h => zBS h) (h.1 e), fun e => zBS (h.2 ?_)⟩
   cases c <;> cases g <;> simp at e ⊢
  ·rename_i hl
   exact .inr ⟨hl, zBS h⟩
  ·exact h.elim
 | .alt l ⟨d, none, i⟩ r o, K, s, h => by
  simp only [wsT] at h
  simp only [OkT]
  exact ⟨zHs (fun s h => ⟨h.1, zBS h.2⟩) h.1, zBS h.2⟩
 | .alt l ⟨d, some (t, g), i⟩ r o, K, s, h => by
  simp only [wsT] at h
  simp only [OkT]
  refine ⟨?_, zBS h.2⟩
  have h := h.1
  unfold grd at h
  split at h
  ·rename_i c hl
   refine .inl ⟨c, hl, fun e => zHs (fun s h => ⟨h.1, zBS h.2⟩) (h.1 e), fun e => ?_⟩
   have := h.2 (by cases c <;> cases g <;> simp at e ⊢)
   exact ⟨this.1, zBS this.2⟩
  ·rename_i hl
   exact .inr ⟨hl, h.1, zBS h.2⟩
  ·exact h.elim
theorem zQ3 {st : Am.Stmt} {Q Q' : Exit → St → Prop} (hQ : ∀ e s, Q' e s → ∃ s', Ent E s s' ∧ Q e s') (h : Ok P E st Q' s) : Ok P E st Q s :=
 fun c hc a w hs => wp_mono (h c hc a w hs) fun e a' w' ⟨s', hq, hs'⟩ => let ⟨s2, he, hq2⟩ := hQ e s' hq; ⟨s2, hq2, he a' w' hs'⟩
theorem zBq : ∀ {st : AS} {Q : Exit → St → Prop} {s : St}, wsS P E st Q s → Ok P E st.strip Q s
 | .skip, Q, s, h => zW2 h
 | .ops l, Q, s, h => zX7 (zFd h)
 | .dops l, Q, s, h => zXc (zFb h)
 | .rops l, Q, s, h => zXf (zFe h)
 | .tops L t, Q, s, ⟨I, h1, h2⟩ => by
  refine zQ3 (Q' := fun e s' => e = .normal ∧ zGy L I s') (fun e s' hq => ?_) (zXg (Q := fun e s' => e = .normal ∧ zGy L I s') (zBS (K := fun s' => Exit.normal = .normal ∧ zGy L I s') ?_))
  ·obtain ⟨rfl, hq⟩ := hq
   exact ⟨s'.fin L, zMz L, h2 _ hq⟩
  ·have e : (fun s' => Exit.normal = .normal ∧ zGy L I s') = zGy L I := by funext s'; simp
   rw [e]; exact h1
 | .seq a b, Q, s, h => by
  refine zX6 (zFI (fun e s' hq => ?_) (zBq h))
  cases e <;> first | exact zBq hq | exact hq
 | .cond x a b, Q, s, h => by
  simp only [wsS] at h
  unfold grc at h
  split at h
  ·rename_i t hx
   exact zW4 hx (fun e => zBq (h.1 e)) (fun e => zBq (h.2 (by rw [e]; rfl)))
  ·exact h.elim
 | .loop na L b, Q, s, h => zW5 (zHI (zI5 h.1) h.2)
 | .block id b, Q, s, h => zVk (zBq h)
 | .exit id, Q, s, h => zW3 h
 | .ret, Q, s, h => zX5 h
 | .kept L b, Q, s, h => zOI (zVN L) (zBq (st := b) h)
 | .post ms a, Q, s, h => zQ3 (fun e s' hq => by
   cases e with
   | normal => exact ⟨_, (zEz (r := (True, s')) (fun _ => Ent.refl s') hq.1).2, hq.2⟩
   | _ => exact ⟨s', Ent.refl s', hq⟩) (zBq (st := a) h)
 | .pre l x new a, Q, s, h => zOI (zVP h.1) (zBq (st := a) h.2)
 | .lay ms a, Q, s, h => zOI (zEz (r := (True, s)) (fun _ => Ent.refl s) h.1).2 (zBq (st := a) h.2)
def zSq {σ : Type} (n : Nat) (F : Nat → σ → St) (I : Nat → σ → Prop) (j : Nat) (r : Prop × St) : Prop := r.1 ∧ j < n ∧ ∃ x, r.2 = F (j + 1) x ∧ I (j + 1) x
def zLz {σ : Type} (E : Env) (na : Nat) (L : List (Nat × Nat)) (n : Nat) (F : Nat → σ → St) (I : Nat → σ → Prop) (j : Nat) (Q : Exit → St → Prop) : Exit → St → Prop
 | .normal, s => zSq n F I j (canon E na L s)
 | e, s => Q e s
theorem zAs {σ : Type} {b : AS} {Q : Exit → St → Prop} {na : Nat} {L : List (Nat × Nat)} (n : Nat) (F : Nat → σ → St) (I : Nat → σ → Prop) (x0 : σ) (h0 : I 0 x0)
  (h : ∀ (j : Nat) (x : σ), j ≤ n → I j x → wsS P E b (zLz E na L n F I j Q) (F j x)) : zLy P E na L b Q (F 0 x0) := by
 have key : ∀ (k j : Nat) (x : σ), n - j = k → j ≤ n → I j x → zCY P E b.strip Q (F j x) := by
  intro k
  induction k using Nat.strongRecOn with
  | _ k ih =>
   intro j x hk hj hI
   refine zKa (zFI (fun e s' hq => ?_) (zBq (h j x hj hI)))
   cases e with
   | normal =>
    obtain ⟨h1, h2, x', h3, h4⟩ := hq
    refine zHI (zI5 (na := na) (L := L) h1) ?_
    rw [h3]
    exact ih (n - (j + 1)) (by omega) (j + 1) x' rfl (by omega) h4
   | _ => exact hq
 exact key n 0 x0 (by omega) (by omega) h0
theorem zA0 {σ : Type} {b : AS} {Q : Exit → St → Prop} {na : Nat} {L : List (Nat × Nat)} {s : St} (n : Nat) (F : Nat → σ → St) (I : Nat → σ → Prop) (x0 : σ) (hs : s = F 0 x0) (h0 : I 0 x0)
  (h : ∀ (j : Nat) (x : σ), j ≤ n → I j x → wsS P E b (zLz E na L n F I j Q) (F j x)) : zLy P E na L b Q s := by
 subst hs
 exact zAs n F I x0 h0 h
def zSr {σ : Type} (F : σ → St) (I : σ → Prop) (m : σ → Nat) (x : σ) (r : Prop × St) : Prop := r.1 ∧ ∃ y, r.2 = F y ∧ I y ∧ m y < m x
def zLA {σ : Type} (E : Env) (na : Nat) (L : List (Nat × Nat)) (F : σ → St) (I : σ → Prop) (m : σ → Nat) (x : σ) (Q : Exit → St → Prop) : Exit → St → Prop
 | .normal, s => zSr F I m x (canon E na L s)
 | e, s => Q e s
theorem zJU {σ : Type} {b : AS} {Q : Exit → St → Prop} {na : Nat} {L : List (Nat × Nat)} (F : σ → St) (I : σ → Prop) (m : σ → Nat) (x0 : σ) (h0 : I x0)
  (h : ∀ (x : σ), I x → wsS P E b (zLA E na L F I m x Q) (F x)) : zLy P E na L b Q (F x0) := by
 have key : ∀ (k : Nat) (x : σ), m x = k → I x → zCY P E b.strip Q (F x) := by
  intro k
  induction k using Nat.strongRecOn with
  | _ k ih =>
   intro x hk hI
   refine zKa (zFI (fun e s' hq => ?_) (zBq (h x hI)))
   cases e with
   | normal =>
    obtain ⟨h1, x', h3, h4, h5⟩ := hq
    refine zHI (zI5 (na := na) (L := L) h1) ?_
    rw [h3]
    exact ih (m x') (by omega) x' rfl h4
   | _ => exact hq
 exact key (m x0) x0 rfl h0
end
mutual
def zAS : T → T → Prop
 | .v (.slice none 0 0), .sl o k rows => rows = []
 | .agg r, .agg r' => zBi r r'
 | .tup r, .tup r' => zBi r r'
 | t, t' => t = t'
def zBi : List T → List T → Prop
 | [], [] => True
 | t :: ts, u :: us => zAS t u ∧ zBi ts us
 | _, _ => False
end
section
variable {S : Nat → Prop} {w : World} {ρ : Nat → Option Hd}
theorem zC0 : ∀ {l m : List T}, zBi l m → m.length = l.length
 | [], [], _ => rfl
 | t :: ts, u :: us, h => by simp only [zBi] at h; simp [zC0 h.2]
 | [], u :: us, h => by simp [zBi] at h
 | t :: ts, [], h => by simp [zBi] at h
mutual
theorem zNx : ∀ (t u : T) {y : Value} {F : List Nat}, zAS t u → Rep S w ρ t y F → Rep S w ρ u y F := by
 intro t u y F hle h
 unfold zAS at hle
 split at hle
 ·subst hle
  simp only [Rep] at h ⊢
  exact ⟨none, 0, by simpa using h.1, .inl ⟨rfl, trivial, h.2⟩⟩
 ·simp only [Rep] at h ⊢
  obtain ⟨cs, h1, h2, h3⟩ := h
  exact ⟨cs, h1, by rw [zC0 hle]; exact h2, zDh _ _ hle h3⟩
 ·simp only [Rep] at h ⊢
  obtain ⟨cs, h1, h2, h3⟩ := h
  exact ⟨cs, h1, by rw [zC0 hle]; exact h2, zDh _ _ hle h3⟩
 ·subst hle; exact h
theorem zDh : ∀ (l m : List T) {cell : Nat → Option Value} {b : Nat} {F : List Nat}, zBi l m → RepRow S w ρ cell b l F → RepRow S w ρ cell b m F
 | [], [], _, _, _, _, h => h
 | t :: ts, u :: us, _, _, _, hle, h => by
  simp only [zBi, RepRow] at hle h ⊢
  obtain ⟨y, F1, F2, h1, h2, h3, rfl⟩ := h
  exact ⟨y, F1, F2, h1, zNx t u hle.1 h2, zDh ts us hle.2 h3, rfl⟩
 | [], u :: us, _, _, _, hle, _ => by simp [zBi] at hle
 | t :: ts, [], _, _, _, hle, _ => by simp [zBi] at hle
end
end
mutual
def T.lt (B : Nat) : T → Prop
 | .ref id _ _ => id < B ∨ B + 1000 ≤ id
 | .ptr id _ _ => id < B ∨ B + 1000 ≤ id
 | .agg row => ltL B row
 | .tup l => ltL B l
 | .fn _ caps => ltL B caps
 | .any => True
 | .v _ => True
 | .sl _ _ _ => True
 | .bo _ _ _ => True
def ltL (B : Nat) : List T → Prop
 | [] => True
 | t :: ts => t.lt B ∧ ltL B ts
end
mutual
theorem T.lt_iff (B : Nat) : ∀ t : T, t.lt B ↔ ∀ i, B ≤ i → i < B + 1000 → t.noM i
 | .ref id _ _ => by
  simp only [T.lt, T.noM]
  exact ⟨fun h i hi hi2 => by omega, fun h => by
   by_cases h1 : id < B
   ·exact .inl h1
   ·by_cases h2 : id < B + 1000
    ·exact absurd rfl (h id (by omega) h2)
    ·exact .inr (by omega)⟩
 | .ptr id _ _ => by
  simp only [T.lt, T.noM]
  exact ⟨fun h i hi hi2 => by omega, fun h => by
   by_cases h1 : id < B
   ·exact .inl h1
   ·by_cases h2 : id < B + 1000
    ·exact absurd rfl (h id (by omega) h2)
    ·exact .inr (by omega)⟩
 | .agg row => by simp only [T.lt, T.noM]; exact zDW B row
 | .tup row => by simp only [T.lt, T.noM]; exact zDW B row
 | .fn _ row => by simp only [T.lt, T.noM]; exact zDW B row
 | .any => by simp [T.lt, T.noM]
 | .v _ => by simp [T.lt, T.noM]
 | .sl _ _ _ => by simp [T.lt, T.noM]
 | .bo _ _ _ => by simp [T.lt, T.noM]
theorem zDW (B : Nat) : ∀ l : List T, ltL B l ↔ ∀ i, B ≤ i → i < B + 1000 → zAB i l
 | [] => by simp [ltL, zAB]
 | t :: ts => by
  simp only [ltL, zAB, T.lt_iff B t, zDW B ts]
  exact ⟨fun h i hi hi2 => ⟨h.1 i hi hi2, h.2 i hi hi2⟩, fun h => ⟨fun i hi hi2 => (h i hi hi2).1, fun i hi hi2 => (h i hi hi2).2⟩⟩
end
def zCS (B : Nat) (rows : List (List T)) : Prop := ∀ r ∈ rows, ltL B r
theorem zQi {B : Nat} {rows : List (List T)} (h : zAr rows) : zCS B rows := fun r hr => (zDW B r).2 fun i _ _ => zBL i (h r hr)
def zHt (B : Nat) : List (Nat × Ob) → Prop
 | [] => True
 | (_, ob) :: r => zCS B ob.rows ∧ zHt B r
theorem zH2 {B : Nat} : ∀ {l : List (Nat × Ob)}, zHt B l → ∀ i, B ≤ i → i < B + 1000 → zAk i l
 | [], _, _, _, _ => trivial
 | (m, ob) :: r, h, i, hi, hi2 => by
  simp only [zHt, zAk] at h ⊢
  exact ⟨.inr fun x hx => (zDW B x).1 (h.1 x hx) i hi hi2, zH2 h.2 i hi hi2⟩
def zI8 (s : St) (d : Nat) : T → Prop
 | .tup l => l.all T.okT = true ∧ zMl l ≤ 1000 ∧ zHt (1000 * (d + 1)) s.objs
 | .agg row => row.all T.okLeaf = true ∧ row.length ≤ 1000 ∧ zHt (1000 * (d + 1)) s.objs
 | .sl true _ _ => zAk d s.objs
 | .bo true _ _ => zAk d s.objs
 | t => t.bare = true
theorem zNy {s : St} {d : Nat} {t : T} (h : zI8 s d t) : zHP s d t := by
 unfold zI8 at h
 split at h
 ·exact ⟨h.1, h.2.1, zH2 h.2.2⟩
 ·exact ⟨h.1, h.2.1, zH2 h.2.2⟩
 ·exact h
 ·exact h
 ·rename_i h1 h2 h3 h4
  unfold zHP
  split
  ·exact absurd rfl (h1 _)
  ·exact absurd rfl (h2 _)
  ·exact absurd rfl (h3 _ _)
  ·exact absurd rfl (h4 _ _)
  ·exact h
def zFJ (s : St) : Option Nat → T → Prop
 | some d, r => zI8 s d r
 | none, _ => True
theorem zH3 {s : St} {d : Option Nat} {t : T} (h : zFJ s d t) : zFa s d t := by
 cases d with
 | none => trivial
 | some d => exact zNy h
def zFf (s : St) (j : Nat) : List T → Prop
 | [] => True
 | t :: ts => zI8 s j t ∧ zFf (s.unp j t) (j + 1) ts
theorem zGz : ∀ {l : List T} {s : St} {j : Nat}, zFf s j l → zBZ s j l
 | [], _, _, _ => trivial
 | t :: ts, s, j, h => ⟨zNy h.1, zGz h.2⟩
structure Names (E : Env) (us : List T) : Prop where
 d : ∀ d, E.okd d ↔ zAB d us
def Env.okHi (E : Env) (B : Nat) : Prop := ∀ i, B ≤ i → i < B + 1000 → E.okd i
def zGA (E : Env) : Option Nat → Prop
 | some d => E.okd d ∧ E.okHi (1000 * (d + 1))
 | none => True
section
variable {P : Program} {E : Env} {s : St}
theorem zKT {d : Option Nat} (h : zGA E d) : E.okdO d := by
 cases d with
 | none => trivial
 | some d => exact h
theorem zHu {us : List T} (h : E.pins.map (·.1) = us) (d : Nat) : E.okd d ↔ zAB d us := by
 refine ⟨fun hd => ?_, fun hd => zYq h hd⟩
 have key : ∀ l : List (T × Value), (∀ p, p ∈ l → p.1.noM d) → zAB d (l.map (·.1)) := by
  intro l
  induction l with
  | nil => intro _; trivial
  | cons p l ih => intro hl; exact ⟨hl p (List.mem_cons_self ..), ih fun q hq => hl q (List.mem_cons_of_mem _ hq)⟩
 rw [← h]
 exact key _ hd
theorem zKU {us : List T} (h : E.pins.map (·.1) = us) (B : Nat) : E.okHi B ↔ ltL B us := by
 rw [zDW]
 exact ⟨fun hd i hi hi2 => (zHu h i).1 (hd i hi hi2), fun hd i hi hi2 => (zHu h i).2 (hd i hi hi2)⟩
def zEC (R : T → List T → Prop) (r : T) (l : List T) : Prop := ∃ r', zAS r r' ∧ R r' l
theorem ACall.nil {f : Nat} {args : List T} {R : T → List T → Prop} (h : ACall P f args (zEC R)) : ACall P f args R := by
 intro w S0 F vs h1 h2 h3 h4 h5 h6
 refine (h w S0 F vs h1 h2 h3 h4 h5 h6).mono ?_
 rintro e w' ⟨rv, r, l, S', Fr, Fa, q1, ⟨r', q2, q3⟩, q4, q5⟩
 exact ⟨rv, r', l, S', Fr, Fa, q1, q3, q4, { res := zNx _ _ q2 q5.res, args := q5.args, nodup := q5.nodup, mine := q5.mine, shared := q5.shared, S0 := q5.S0, kept := q5.kept }⟩
theorem ACall.nilArgs {f : Nat} {args us : List T} {R : T → List T → Prop} (h : ACall P f us R) (hle : zBi args us) : ACall P f args R := by
 intro w S0 F vs h1 h2 h3 h4 h5 h6
 have hl := zC0 hle
 refine (h w S0 F vs (by rw [hl]; exact h1) (zDh _ _ hle h2) h3 h4 h5 h6).mono ?_
 rintro e w' ⟨rv, r, l, S', Fr, Fa, q1, q2, q4, q5⟩
 exact ⟨rv, r, l, S', Fr, Fa, q1, q2, by rw [q4, hl], q5⟩
theorem zLB {f : Nat} {st : AS} {rvs : List ResultVar} {nt : Nat} {args : List T} {R : T → List T → Prop} (hst : (P.funcs[f]?).bind (fun fn => fn.body.bind (comp P fn.ntmps)) = some st.strip) (hrs : (P.funcs[f]?).map (fun fn => (fn.results.toList, fn.ntmps)) = some (rvs, nt))
  (H : (args.length ≤ nt ∧ zFf ⟨[], []⟩ 0 args) ∧ ∀ E : Env, (∀ d, E.okd d ↔ zAB d (zAJ (st0 args) 0 args)) → (∀ B, E.okHi B ↔ ltL B (zAJ (st0 args) 0 args)) → wsS P E st (zKE P rvs (zAJ (st0 args) 0 args) (zEC R)) (st0 args)) : ACall P f args R := by
 have e : zB8 args = zAJ (st0 args) 0 args := by rw [zE0]; simp [zB8]
 refine ACall.nil ?_
 cases hf : P.funcs[f]? with
 | none => rw [hf] at hst; simp at hst
 | some fn =>
  rw [hf] at hst hrs
  simp only [Option.bind_some, Option.map_some, Option.some.injEq, Prod.mk.injEq] at hst hrs
  obtain ⟨rfl, rfl⟩ := hrs
  cases hb : fn.body with
  | none => rw [hb] at hst; simp at hst
  | some c =>
   rw [hb] at hst
   simp only [Option.bind_some] at hst
   refine zQe hf hb hst H.1.1 (zGz H.1.2) fun E h1 h2 => ?_
   rw [e] at h2
   have h3 := zBq (H.2 E (zHu h2) (zKU h2))
   rw [← e] at h3
   refine zFI (fun e s hq => ?_) h3
   cases e <;> first | exact ⟨.inl rfl, zFY.ok hq⟩ | exact ⟨.inr rfl, zFY.ok hq⟩ | exact hq.elim
def zCv : List Bool → List T → List T
 | true :: bs, _ :: ts => .any :: zCv bs ts
 | false :: bs, t :: ts => t :: zCv bs ts
 | _, ts => ts
theorem zD9 : ∀ (bs : List Bool) (ts : List T), (zCv bs ts).length = ts.length
 | [], ts => by cases ts <;> rfl
 | b :: bs, [] => by cases b <;> rfl
 | true :: bs, t :: ts => by simp [zCv, zD9 bs ts]
 | false :: bs, t :: ts => by simp [zCv, zD9 bs ts]
theorem zGB : ∀ (bs : List Bool) (ts : List T) (i : Nat), i < ts.length → (zCv bs ts)[i]? = some .any ∨ (zCv bs ts)[i]? = ts[i]?
 | [], ts, i, _ => .inr (by cases ts <;> rfl)
 | b :: bs, [], i, h => by simp at h
 | true :: bs, t :: ts, 0, _ => .inl (by simp [zCv])
 | false :: bs, t :: ts, 0, _ => .inr (by simp [zCv])
 | true :: bs, t :: ts, i + 1, h => by simpa [zCv] using zGB bs ts i (by simpa using h)
 | false :: bs, t :: ts, i + 1, h => by simpa [zCv] using zGB bs ts i (by simpa using h)
theorem zI9 (ds : List Bool) {f : Nat} {st : AS} {rvs : List ResultVar} {nt : Nat} {args : List T} {R : T → List T → Prop} (hst : (P.funcs[f]?).bind (fun fn => fn.body.bind (comp P fn.ntmps)) = some st.strip) (hrs : (P.funcs[f]?).map (fun fn => (fn.results.toList, fn.ntmps)) = some (rvs, nt))
  (H : (args.length ≤ nt ∧ zFf ⟨[], []⟩ 0 args) ∧ ∀ E : Env, (∀ d, E.okd d ↔ zAB d (zAJ (st0 args) 0 args)) → (∀ B, E.okHi B ↔ ltL B (zAJ (st0 args) 0 args)) → wsS P E st (zKE P rvs (zCv ds (zAJ (st0 args) 0 args)) (zEC R)) (st0 args)) : ACall P f args R := by
 have e : zB8 args = zAJ (st0 args) 0 args := by rw [zE0]; simp [zB8]
 refine ACall.nil ?_
 cases hf : P.funcs[f]? with
 | none => rw [hf] at hst; simp at hst
 | some fn =>
  rw [hf] at hst hrs
  simp only [Option.bind_some, Option.map_some, Option.some.injEq, Prod.mk.injEq] at hst hrs
  obtain ⟨rfl, rfl⟩ := hrs
  cases hb : fn.body with
  | none => rw [hb] at hst; simp at hst
  | some c =>
   rw [hb] at hst
   simp only [Option.bind_some] at hst
   have hl : (zAJ (st0 args) 0 args).length = args.length := by rw [← e]; simp [zB8]
   refine zEx (us := zCv ds (zAJ (st0 args) 0 args)) (by rw [zD9, hl]) (fun i hi => ?_) hf hb hst H.1.1 (zGz H.1.2) fun E h1 h2 => ?_
   ·refine (zGB ds _ i (by rw [hl]; exact hi)).imp id fun h => ?_
    rw [h, ← e]
    simp [zB8, hi]
   ·rw [e] at h2
    have h3 := zBq (H.2 E (zHu h2) (zKU h2))
    refine zFI (fun e s hq => ?_) h3
    cases e <;> first | exact ⟨.inl rfl, zFY.ok hq⟩ | exact ⟨.inr rfl, zFY.ok hq⟩ | exact hq.elim
theorem zPm (ds : List Bool) (id k : Nat) (rows : List (List T)) {f : Nat} {st : AS} {rvs : List ResultVar} {nt : Nat} {args : List T} {R : T → List T → Prop} (hst : (P.funcs[f]?).bind (fun fn => fn.body.bind (comp P fn.ntmps)) = some st.strip) (hrs : (P.funcs[f]?).map (fun fn => (fn.results.toList, fn.ntmps)) = some (rvs, nt))
  (hp : (T.ref id 0 rows.length) ∈ zAJ (st0 args) 0 args) (ho : lk id (st0 args).objs = some ⟨k, rows⟩)
  (H : (args.length ≤ nt ∧ zFf ⟨[], []⟩ 0 args) ∧ ∀ E : Env, (∀ d, E.okd d ↔ zAB d (zAJ (st0 args) 0 args)) → (∀ B, E.okHi B ↔ ltL B (zAJ (st0 args) 0 args)) → ∀ c, rows.length ≤ c → E.FullAt id c → wsS P E st (zKE P rvs (zCv ds (zAJ (st0 args) 0 args)) (zEC R)) ((st0 args).re id ⟨k, rows ++ List.replicate (c - rows.length) (zBv k)⟩)) : ACall P f args R := by
 have e : zB8 args = zAJ (st0 args) 0 args := by rw [zE0]; simp [zB8]
 refine ACall.nil ?_
 cases hf : P.funcs[f]? with
 | none => rw [hf] at hst; simp at hst
 | some fn =>
  rw [hf] at hst hrs
  simp only [Option.bind_some, Option.map_some, Option.some.injEq, Prod.mk.injEq] at hst hrs
  obtain ⟨rfl, rfl⟩ := hrs
  cases hb : fn.body with
  | none => rw [hb] at hst; simp at hst
  | some c =>
   rw [hb] at hst
   simp only [Option.bind_some] at hst
   have hl : (zAJ (st0 args) 0 args).length = args.length := by rw [← e]; simp [zB8]
   refine zEx (us := zCv ds (zAJ (st0 args) 0 args)) (by rw [zD9, hl]) (fun i hi => ?_) hf hb hst H.1.1 (zGz H.1.2) fun E h1 h2 => ?_
   ·refine (zGB ds _ i (by rw [hl]; exact hi)).imp (fun h => h) fun h => ?_
    rw [h, ← e]
    simp [zB8, hi]
   ·rw [e] at h2
    intro c0 hc0 a w hsim
    obtain ⟨S, ρ, foot, hsx⟩ := hsim
    rw [← h2] at hp
    obtain ⟨⟨t, v⟩, hp1, hp2⟩ := List.mem_map.1 hp
    simp only at hp2
    subst hp2
    have hr := hsx.pins _ hp1
    simp only [Rep] at hr
    obtain ⟨_, hd, a0, cc, q1, q2, q3, q4, _⟩ := hr
    have hF : E.FullAt id cc := ⟨0, rows.length, a0, cc, by rw [← q2]; exact hp1, by omega⟩
    have h3 := zBq (H.2 E (zHu h2) (zKU h2) cc q4 hF)
    have h4 : Ok P E st.strip (fun e s => (e = .normal ∨ e = .ret) ∧ zOu P fn.results.toList (zCv ds (zAJ (st0 args) 0 args)) (zEC R) s) ((st0 args).re id ⟨k, rows ++ List.replicate (cc - rows.length) (zBv k)⟩) := by
     refine zFI (fun e s hq => ?_) h3
     cases e <;> first | exact ⟨.inl rfl, zFY.ok hq⟩ | exact ⟨.inr rfl, zFY.ok hq⟩ | exact hq.elim
    exact h4 c0 hc0 a w (zVC ho hF a w ⟨S, ρ, foot, hsx⟩)
def zPn : List Nat → T → Prop
 | [], _ => True
 | _ :: _, r => r.noSh
theorem zQ4 {vw : List Nat} {r : T} (h : zPn vw r) : vw = [] ∨ r.noSh := by
 cases vw with
 | nil => exact .inl rfl
 | cons a l => exact .inr h
def zJa (R : T → List T → Prop) (vw : List Nat) (d : Option Nat) (K : St → Prop) (s : St) : Prop := ∀ r l, R r l → (zPn vw r ∧ zFJ s d r) ∧ K (s.unpO d r)
theorem zAF {R : T → List T → Prop} {vw : List Nat} {d : Option Nat} {K : St → Prop} {s : St} (h : ∀ r l, R r l → (zPn vw r ∧ zFJ s d r) ∧ K (s.unpO d r)) : zJa R vw d K s := h
theorem zXo {X : T} {vw : List Nat} {d : Option Nat} {K : St → Prop} {s : St} : zJa (fun r _ => r = X) vw d K s ↔ (zPn vw X ∧ zFJ s d X) ∧ K (s.unpO d X) :=
 ⟨fun h => h X [] rfl, fun h r l e => by subst e; exact h⟩
theorem zWW {d : Option Nat} {g : Option (Nat × Bool)} {K : St → Prop} {f : Nat} {xs : List Operand} {ts us : List T} {vw : List Nat} {c : Prop} {R : T → List T → Prop} (hev : zBo s xs = some ts) (hp : zBB s (zDa ts) = some (us, [], vw, c)) (hC : ACall P f us R)
  (hK : (c ∧ zGA E d) ∧ zJa R vw d K s) : zAp P E ⟨d, g, .call f xs⟩ K s :=
 zVs hev hp hK.1.1 hC (zKT hK.1.2) fun r l hR => ⟨zQ4 (hK.2 r l hR).1.1, zH3 (hK.2 r l hR).1.2, (hK.2 r l hR).2⟩
def zOx : List Nat → List Bool → T → List T → Prop
 | [], _, _, _ => True
 | _ :: _, ms, r, l => r.noSh ∧ zBM ms l
theorem zVS {vw : List Nat} {ms : List Bool} {r : T} {l : List T} (h : zOx vw ms r l) : vw = [] ∨ (r.noSh ∧ zBM ms l) := by
 cases vw with
 | nil => exact .inl rfl
 | cons a v => exact .inr h
def zVT (K : St → Prop) (d : Option Nat) (r : T) (q : St × Prop) : Prop := (q.2 ∧ zFJ q.1 d r) ∧ K (q.1.unpO d r)
def zSs (R : T → List T → Prop) (vw : List Nat) (modes : List Bool) (d : Option Nat) (K : St → Prop) (F : List T → St × Prop) : Prop := ∀ r l, R r l → zOx vw modes r l ∧ zVT K d r (F l)
theorem zXp {X : T} {Y : List T} {vw : List Nat} {modes : List Bool} {d : Option Nat} {K : St → Prop} {F : List T → St × Prop} : zSs (fun r l => r = X ∧ l = Y) vw modes d K F ↔ zOx vw modes X Y ∧ zVT K d X (F Y) :=
 ⟨fun h => h X Y ⟨rfl, rfl⟩, fun h r l e => by obtain ⟨rfl, rfl⟩ := e; exact h⟩
theorem zAbN (modes : List Bool) {d : Option Nat} {g : Option (Nat × Bool)} {K : St → Prop} {f : Nat} {xs : List Operand} {ts us : List T} {ow vw : List Nat} {c : Prop} {R : T → List T → Prop} (hev : zBo s xs = some ts) (hp : zBB s (zCN modes ts) = some (us, ow, vw, c)) (hC : ACall P f us R)
  (hK : (c ∧ zGA E d ∧ Nat.beq modes.length ts.length = true ∧ nodupB ow = true ∧ zKF ow vw = true) ∧ zSs R vw modes d K (bkL s (delL s ow) (zCN modes ts))) : zAp P E ⟨d, g, .call f xs⟩ K s :=
 zVt modes hev hp hK.1.2.2.1 hK.1.2.2.2.1 hK.1.2.2.2.2 hK.1.1 (zKT hK.1.2.1) hC fun r l hR => by
  obtain ⟨h1, h2⟩ := hK.2 r l hR
  exact ⟨zVS h1, h2.1.1, zH3 h2.1.2, h2.2⟩
def T.cap : T → Bool
 | .bo false _ _ => true
 | .v _ => true
 | .sl false _ _ => true
 | _ => false
theorem zNz : ∀ caps : List T, caps.all T.cap = true → ∃ c, zBB s (zDa caps) = some (caps, [], [], c) ∧ c
 | [], _ => ⟨True, rfl, trivial⟩
 | t :: ts, h => by
  simp only [List.all_cons, Bool.and_eq_true] at h
  obtain ⟨c, h1, h2⟩ := zNz ts h.2
  have ht : vwT s t = some (t, [], t.packed ∧ t.bare = true) ∧ t.packed ∧ t.bare = true := by
   have := h.1
   unfold T.cap at this
   split at this
   ·exact ⟨rfl, by simp [T.packed], rfl⟩
   ·exact ⟨rfl, by simp [T.packed], rfl⟩
   ·exact ⟨rfl, by simp [T.packed], rfl⟩
   ·cases this
  refine ⟨(t.packed ∧ t.bare = true) ∧ c, ?_, ht.2, h2⟩
  simp only [zDa, zBB, Bool.false_eq_true, if_false, ht.1, h1, List.nil_append]
theorem zKk {caps : List T} (hcap : caps.all T.cap = true) : ∀ {ts us : List T} {vw : List Nat} {c : Prop}, zBB s (zDa ts) = some (us, [], vw, c) → c → ∃ c', zBB s (zDa (ts ++ caps)) = some (us ++ caps, [], vw, c') ∧ c'
 | [], us, vw, c, h, hc => by
  simp only [zDa, zBB, Option.some.injEq, Prod.mk.injEq] at h
  obtain ⟨rfl, _, rfl, _⟩ := h
  exact zNz caps hcap
 | t :: ts, us, vw, c, h, hc => by
  simp only [zDa, zBB, Bool.false_eq_true, if_false, List.cons_append] at h ⊢
  split at h
  ·rename_i u i c1 us0 o v c2 h1 h2
   simp only [Option.some.injEq, Prod.mk.injEq] at h
   obtain ⟨rfl, rfl, rfl, rfl⟩ := h
   obtain ⟨c', h3, h4⟩ := zKk hcap h2 hc.2
   exact ⟨c1 ∧ c', by simp only [h1, h3, List.cons_append], hc.1, h4⟩
  ·cases h
theorem zJb : ∀ ts : List T, zDa ts = zCN (ts.map fun _ => false) ts
 | [] => rfl
 | t :: ts => by simp [zDa, zCN, zJb ts]
theorem zLC {d : Option Nat} {g : Option (Nat × Bool)} {K : St → Prop} {f : Nat} {x : Operand} {xs : List Operand} {caps ts us : List T} {vw : List Nat} {c : Prop} {R : T → List T → Prop} (hx : s.eval x = some (.fn f caps)) (hev : zBo s xs = some ts) (hp : zBB s (zDa ts) = some (us, [], vw, c)) (hf : zBN P f = true) (hcap : caps.all T.cap = true) (hC : ACall P f (us ++ caps) R)
  (hK : (c ∧ zGA E d) ∧ zJa R vw d K s) : zAp P E ⟨d, g, .callv x xs⟩ K s := by
 obtain ⟨c', h1, h2⟩ := zKk hcap hp hK.1.1
 rw [zJb] at h1
 refine zVx ((ts ++ caps).map fun _ => false) hx hev hf h1 (by rw [List.length_map]; exact Nat.beq_refl _) rfl rfl h2 (zKT hK.1.2) hC fun r l hR => ?_
 obtain ⟨h3, h4⟩ := hK.2 r l hR
 have hb := zLo (s0 := s) (s := delL s []) (ts ++ caps) l
 rw [← zMp, zJb] at hb
 refine ⟨(zQ4 h3.1).imp id (fun h => ⟨h, zFq _ _⟩), hb.2, ?_, ?_⟩
 ·rw [hb.1]; exact zH3 h3.2
 ·rw [hb.1]; exact h4
def CV (P : Program) (f : Nat) (us : List T) (vw : List Nat) (d : Option Nat) (K : St → Prop) (s : St) : Prop := ∃ R, ACall P f us R ∧ zJa R vw d K s
def cv2 (P : Program) (E : Env) (f : Nat) (d : Option Nat) (K : St → Prop) (s : St) : Option (List T × List Nat × List Nat × Prop) → Prop
 | some (us, [], vw, c) => (c ∧ zGA E d) ∧ CV P f us vw d K s
 | _ => False
def cv1 (P : Program) (E : Env) (f : Nat) (d : Option Nat) (K : St → Prop) (s : St) : Option (List T) → Prop
 | some ts => cv2 P E f d K s (zBB s (zDa ts))
 | none => False
theorem zVU {f : Nat} {d : Option Nat} {K : St → Prop} {xs : List Operand} (h : cv1 P E f d K s (zBo s xs)) : ∃ ts us vw c R, zBo s xs = some ts ∧ zBB s (zDa ts) = some (us, [], vw, c) ∧ ACall P f us R ∧ (c ∧ zGA E d) ∧ zJa R vw d K s := by
 unfold cv1 at h
 split at h
 ·rename_i ts hts
  unfold cv2 at h
  split at h
  ·rename_i us vw c ha
   obtain ⟨h1, R, h2, h3⟩ := h
   exact ⟨ts, us, vw, c, R, hts, ha, h2, h1, h3⟩
  ·exact h.elim
 ·exact h.elim
theorem zAa {d : Option Nat} {g : Option (Nat × Bool)} {K : St → Prop} {f : Nat} {xs : List Operand} (h : cv1 P E f d K s (zBo s xs)) : zAp P E ⟨d, g, .call f xs⟩ K s := by
 obtain ⟨ts, us, vw, c, R, h1, h2, h3, h4, h5⟩ := zVU h
 exact zWW h1 h2 h3 ⟨h4, h5⟩
theorem cvA {f : Nat} {us : List T} {vw : List Nat} {d : Option Nat} {K : St → Prop} {R : T → List T → Prop} (hC : ACall P f us R) (h : zJa R vw d K s) : CV P f us vw d K s := ⟨R, hC, h⟩
theorem zSt {f : Nat} {us us' : List T} {vw : List Nat} {d : Option Nat} {K : St → Prop} {R : T → List T → Prop} (hC : ACall P f us' R) (h : zBi us us' ∧ zJa R vw d K s) : CV P f us vw d K s := ⟨R, hC.nilArgs h.1, h.2⟩
def CMd (P : Program) (f : Nat) (us : List T) (vw : List Nat) (modes : List Bool) (d : Option Nat) (K : St → Prop) (F : List T → St × Prop) : Prop := ∃ R, ACall P f us R ∧ zSs R vw modes d K F
def cm2 (P : Program) (E : Env) (f : Nat) (d : Option Nat) (modes : List Bool) (K : St → Prop) (s : St) (ts : List T) : Option (List T × List Nat × List Nat × Prop) → Prop
 | some (us, ow, vw, c) => (c ∧ zGA E d ∧ Nat.beq modes.length ts.length = true ∧ nodupB ow = true ∧ zKF ow vw = true) ∧ CMd P f us vw modes d K (bkL s (delL s ow) (zCN modes ts))
 | none => False
def cm1 (P : Program) (E : Env) (f : Nat) (d : Option Nat) (modes : List Bool) (K : St → Prop) (s : St) : Option (List T) → Prop
 | some ts => cm2 P E f d modes K s ts (zBB s (zCN modes ts))
 | none => False
theorem zBj (modes : List Bool) {d : Option Nat} {g : Option (Nat × Bool)} {K : St → Prop} {f : Nat} {xs : List Operand} (h : cm1 P E f d modes K s (zBo s xs)) : zAp P E ⟨d, g, .call f xs⟩ K s := by
 unfold cm1 at h
 split at h
 ·rename_i ts hts
  unfold cm2 at h
  split at h
  ·rename_i us ow vw c ha
   obtain ⟨h1, R, h2, h3⟩ := h
   exact zAbN modes hts ha h2 ⟨h1, h3⟩
  ·exact h.elim
 ·exact h.elim
theorem cmA {f : Nat} {us : List T} {vw : List Nat} {modes : List Bool} {d : Option Nat} {K : St → Prop} {F : List T → St × Prop} {R : T → List T → Prop} (hC : ACall P f us R) (h : zSs R vw modes d K F) : CMd P f us vw modes d K F := ⟨R, hC, h⟩
end
end Go.Am

import Derived.Test.YtpkhdekgoppcmaaGreatAmTac
import Derived.Test.YtpkhdekgoppcmaaGreatAmCallv
import Derived.Test.YtpkhdekgoppcmaaGreatAmRop
import Derived.Test.YtpkhdekgoppcmaaGreatAmNest
import Derived.Test.YtpkhdekgoppcmaaGreatAmIns
set_option linter.all false
namespace Go.Am
open Go Go.RowKit
def mvC (s : St) (t : T) (ry : List (List T)) : Bool → Prop
 | true => True
 | false => ry.all (fun r => r.all T.mov) = true ∧ mvOk s t
def mvS (s : St) (t : T) : Bool → St
 | true => s
 | false => mvP s t
def sameB : T → T → Bool
 | .ref id _ _, .ref id' _ _ => Nat.beq id id'
 | _, _ => false
def lkT (s : St) : T → Option Ob
 | .ref id _ _ => lk id s.objs
 | _ => none
def appS (s : St) (d k : Nat) : Option Ob → T → T → Option (Prop × St)
 | some ob, .ref id lo n, .ref _ lo2 n2 => some (ob.k = k ∧ lo + n < ob.rows.length ∧ lo + n + n2 ≤ ob.rows.length ∧ lo2 + n2 ≤ ob.rows.length ∧ ((ob.rows.drop lo2).take n2).all (fun r => r.all T.storable) = true,
   (s.upd id ⟨k, putRows ob.rows (lo + n) ((ob.rows.drop lo2).take n2)⟩).set d (.ref id lo (n + n2)))
 | _, _, _ => none
def appG (E : Env) (s : St) (d k bytes : Nat) (ty : T) : Option (Prop × List (List T) × St) → Option (Prop × List (List T)) → Option (Prop × St)
 | some (c1, rb, s0), some (c2, ry) =>
  some (c1 ∧ c2 ∧ mvC s0 ty ry (ry.all (fun r => r.all T.storable)) ∧ ((rb.length + ry.length) * bytes ≤ 140737488355328 ∧ rb.length + ry.length ≤ 9223372036854775807) ∧ E.okd d ∧ objsNoM d (mvS s0 ty (ry.all (fun r => r.all T.storable))).objs ∧ noMLL d rb ∧ noMLL d ry, ((mvS s0 ty (ry.all (fun r => r.all T.storable))).new d ⟨k, rb ++ ry⟩).set d (.ref d 0 (rb.length + ry.length)))
 | _, _ => none
def clrG (s : St) (k : Nat) (z : Value) (id lo n : Nat) : Option Ob → Option (Prop × St)
 | some ob => some (ob.k = k ∧ (zeroRow z).length = k ∧ (zeroRow z).all T.storable = true ∧ lo < ob.rows.length ∧ 0 < n ∧ lo + n ≤ ob.rows.length, s.upd id ⟨k, putRows ob.rows lo (List.replicate n (zeroRow z))⟩)
 | none => none
def capG (E : Env) (s : St) (d : Option Nat) (id lo n : Nat) : Option Ob → Option (Prop × St)
 | some ob => some (E.FullAt id ob.rows.length, s.put d (.v (.int .i64 ((ob.rows.length - lo : Nat) : Int))))
 | none => none
def cpyG (s : St) (d : Option Nat) (k id lo n : Nat) (ty : T) : Option Ob → Option (Prop × List (List T)) → Option (Prop × St)
 | some ob, some (c2, ry) => some (c2 ∧ srcS ty ∧ ob.k = k ∧ lo < ob.rows.length ∧ lo + ry.length ≤ ob.rows.length ∧ ry.all (fun r => r.all T.storable) = true ∧ ry.length = min n (srcLen ty), (s.upd id ⟨k, putRows ob.rows lo ry⟩).put d (.v (.int .i64 ry.length)))
 | _, _ => none
def apzG (E : Env) (s : St) (d k bytes : Nat) (z : Value) (id lo n : Nat) (m : Int) : Option Ob → Option (Prop × St)
 | some ob => some (ob.k = k ∧ E.FullAt id ob.rows.length ∧ lo + n ≤ ob.rows.length ∧ 0 ≤ m ∧ ob.rows.length < lo + n + m.toNat ∧ ((ob.rows.drop lo).take n).all (fun r => r.all T.storable) = true ∧ (zeroRow z).length = k ∧ ((n + m.toNat) * bytes ≤ 140737488355328 ∧ n + m.toNat ≤ 9223372036854775807) ∧ E.okd d ∧ objsNoM d s.objs ∧ noMLL d ((ob.rows.drop lo).take n),
   (s.new d ⟨k, (ob.rows.drop lo).take n ++ List.replicate m.toNat (zeroRow z)⟩).set d (.ref d 0 (n + m.toNat)))
 | none => none
def effI (E : Env) (s : St) : Option Nat → I → Option (Prop × St)
 | some d, .alloc z => some (E.okd d ∧ objsNoM d s.objs, (s.new d ⟨(zeroRow z).length, [zeroRow z]⟩).set d (.ptr d 0 0))
 | some d, .box x =>
  match s.eval x with
  | some t =>
   match t.cells with
   | some row => some (t.plainV = true ∧ E.okd d ∧ objsNoM d s.objs ∧ noML d row, (s.new d ⟨row.length, [row]⟩).set d (.ptr d 0 0))
   | none => none
  | none => none
 | none, .store n x v =>
  match s.eval x, s.eval v with
  | some (.ptr id j q), some t =>
   match lk id s.objs, t.cells with
   | some ob, some cs => some (cs.length = n ∧ t.plainV = true ∧ cs.all T.storable = true ∧ j < ob.rows.length ∧ q + n ≤ ob.k, s.upd id ⟨ob.k, spliceRow ob.rows j q cs⟩)
   | _, _ => none
  | _, _ => none
 | some d, .bsl k z n parts =>
  match evalIdx s k parts with
  | some l =>
   match fillT (List.replicate (n * k) .any) l with
   | some flat => some (l.all (fun q => q.2.2.plainV) = true ∧ flat.length = n * k ∧ E.okd d ∧ objsNoM d s.objs ∧ noMLL d (chunks k n flat), (s.new d ⟨k, chunks k n flat⟩).set d (.ref d 0 n))
   | none => none
  | none => none
 | some d, .mks k bytes z x y =>
  match s.eval x, s.eval y with
  | some (.v (.int _ l)), some (.v (.int _ c)) => some ((0 ≤ l ∧ l ≤ c ∧ c ≤ 9223372036854775807 ∧ bytes * c ≤ 281474976710656) ∧ (zeroRow z).length = k ∧ E.okd d ∧ objsNoM d s.objs, (s.new d ⟨k, List.replicate l.toNat (zeroRow z)⟩).set d (.ref d 0 l.toNat))
  | _, _ => none
 | some d, .app k bytes z x y =>
  match s.eval x, s.eval y with
  | some tx, some ty => bif sameB tx ty then appS s d k (lkT s tx) tx ty else appG E s d k bytes ty (baseT s k tx) (srcT s k ty)
  | _, _ => none
 | some d, .apz k bytes z x y =>
  match s.eval x, s.eval y with
  | some (.ref id lo n), some (.v (.int _ m)) => apzG E s d k bytes z id lo n m (lk id s.objs)
  | _, _ => none
 | none, .clr k z x =>
  match s.eval x with
  | some (.ref id lo n) => clrG s k z id lo n (lk id s.objs)
  | _ => none
 | d, .capo x =>
  match s.eval x with
  | some (.ref id lo n) => capG E s d id lo n (lk id s.objs)
  | _ => none
 | d, .cpy k x y =>
  match s.eval x, s.eval y with
  | some (.ref id lo n), some ty => cpyG s d k id lo n ty (lk id s.objs) (srcT s k (srcN n ty))
  | _, _ => none
 | some d, .load m x =>
  match s.eval x with
  | some (.ptr id i o) =>
   match lk id s.objs with
   | some ob => ldE E s d m id i o (i < ob.rows.length) (takeRow m ((ob.rows.getD i []).drop o))
   | none => none
  | _ => none
 | _, _ => none
section
variable {P : Program} {E : Env} {s : St}
theorem effI_ok {d : Option Nat} {g : Option (Nat × Bool)} {i : I} {K : St → Prop} {p : Prop} {s' : St} (h : effI E s d i = some (p, s')) (hp : p) (hK : K s') : InstrOk P E ⟨d, g, i⟩ K s := by
 unfold effI at h
 split at h
 ·simp only [Option.some.injEq, Prod.mk.injEq] at h; obtain ⟨rfl, rfl⟩ := h
  exact ok_alloc' hp.1 hp.2 hK
 ·split at h
  ·rename_i hx
   split at h
   ·rename_i hc
    simp only [Option.some.injEq, Prod.mk.injEq] at h; obtain ⟨rfl, rfl⟩ := h
    exact ok_box' hx hc hp.1 hp.2.1 hp.2.2.1 hp.2.2.2 hK
   ·cases h
  ·cases h
 ·split at h
  ·rename_i hx hv
   split at h
   ·rename_i ho hc
    simp only [Option.some.injEq, Prod.mk.injEq] at h; obtain ⟨rfl, rfl⟩ := h
    exact ok_store' hx ho hv hc hp.1 hp.2.1 hp.2.2.1 hp.2.2.2.1 hp.2.2.2.2 hK
   ·cases h
  ·cases h
 ·split at h
  ·rename_i hl
   split at h
   ·rename_i hf
    simp only [Option.some.injEq, Prod.mk.injEq] at h; obtain ⟨rfl, rfl⟩ := h
    exact ok_bsl' hl hp.1 hf hp.2.1 hp.2.2.1 hp.2.2.2.1 hp.2.2.2.2 hK
   ·cases h
  ·cases h
 ·split at h
  ·rename_i hx hy
   simp only [Option.some.injEq, Prod.mk.injEq] at h; obtain ⟨rfl, rfl⟩ := h
   exact ok_mks rfl rfl hx hy hp.1.1 hp.1.2.1 hp.1.2.2.1 hp.1.2.2.2 hp.2.1 hp.2.2.1 hp.2.2.2 hK
  ·cases h
 ·split at h
  ·rename_i hx hy
   rename_i tx ty
   cases hsm : sameB tx ty with
   | true =>
    rw [hsm, cond_true] at h
    unfold appS at h
    split at h
    ·rename_i ob id lo n id2 lo2 n2 ho
     simp only [Option.some.injEq, Prod.mk.injEq] at h; obtain ⟨rfl, rfl⟩ := h
     simp only [sameB] at hsm
     have := Nat.eq_of_beq_eq_true hsm
     subst this
     obtain ⟨p1, p2, p3, p4, p5⟩ := hp
     exact ok_appI hx hy ho p1 p2 p3 p4 p5 hK
    ·cases h
   | false =>
    rw [hsm, cond_false] at h
    unfold appG at h
    split at h
    ·rename_i c1 rb s0 c2 ry hb hsr
     simp only [Option.some.injEq, Prod.mk.injEq] at h; obtain ⟨rfl, rfl⟩ := h
     obtain ⟨p1, p2, p3, ⟨p4, p5⟩, p6, p7, p8, p9⟩ := hp
     cases hst : (ry.all fun r => r.all T.storable) with
     | true =>
      rw [hst] at p7 hK
      exact ok_app rfl rfl hx hy hb p1 hsr p2 hst p4 p5 p6 p7 p8 p9 hK
     | false =>
      rw [hst] at p3 p7 hK
      exact ok_appP rfl rfl hx hy hb p1 hsr p2 p3.1 p3.2 p4 p5 p6 p7 p8 p9 hK
    ·cases h
  ·cases h
 ·split at h
  ·rename_i hx hy
   unfold apzG at h
   split at h
   ·rename_i ho
    simp only [Option.some.injEq, Prod.mk.injEq] at h; obtain ⟨rfl, rfl⟩ := h
    obtain ⟨p1, p2, p3, p4, p5, p6, p7, ⟨p8, p9⟩, p10, p11, p12⟩ := hp
    exact ok_apz hx hy ho p1 p2 p3 p4 p5 p6 p7 p8 p9 p10 p11 p12 hK
   ·cases h
  ·cases h
 ·split at h
  ·rename_i hx
   unfold clrG at h
   split at h
   ·rename_i ho
    simp only [Option.some.injEq, Prod.mk.injEq] at h; obtain ⟨rfl, rfl⟩ := h
    obtain ⟨p1, p2, p3, p4, p5, p6⟩ := hp
    exact ok_clr hx ho p1 p2 p3 p4 p5 p6 hK
   ·cases h
  ·cases h
 ·split at h
  ·rename_i hx
   unfold capG at h
   split at h
   ·rename_i ho
    simp only [Option.some.injEq, Prod.mk.injEq] at h; obtain ⟨rfl, rfl⟩ := h
    exact ok_capo hx hp fun _ => hK
   ·cases h
  ·cases h
 ·split at h
  ·rename_i hx hy
   unfold cpyG at h
   split at h
   ·rename_i ho hsr
    simp only [Option.some.injEq, Prod.mk.injEq] at h; obtain ⟨rfl, rfl⟩ := h
    obtain ⟨p1, p2, p3, p4, p5, p6, p7⟩ := hp
    exact ok_cpy hx hy ho hsr p1 p2 p3 p4 p5 p6 p7 hK
   ·cases h
  ·cases h
 ·split at h
  ·rename_i hx
   split at h
   ·rename_i ho
    exact ok_ldE hx ho h hp hK
   ·cases h
  ·cases h
 ·cases h
end
def renI (d d' id : Nat) : Nat := bif Nat.beq id d then d' else id
mutual
def T.ren (d d' : Nat) : T → T
 | .ref id lo n => .ref (renI d d' id) lo n
 | .ptr id i o => .ptr (renI d d' id) i o
 | .agg row => .agg (renL d d' row)
 | .tup l => .tup (renL d d' l)
 | .fn f caps => .fn f (renL d d' caps)
 | .any => .any
 | .v x => .v x
 | .sl o k rows => .sl o k rows
 | .bo o row q => .bo o row q
def renL (d d' : Nat) : List T → List T
 | [] => []
 | t :: ts => t.ren d d' :: renL d d' ts
end
theorem renL_length (d d' : Nat) : ∀ l : List T, (renL d d' l).length = l.length
 | [] => rfl
 | t :: ts => by simp [renL, renL_length d d' ts]
section
variable {S : Nat → Prop} {w : World} {ρ : Nat → Option Hd}
def rhoR (ρ : Nat → Option Hd) (d d' : Nat) : Nat → Option Hd := fun i => if i = d' then ρ d else ρ i
theorem rhoR_renI {d d' id : Nat} (h : id ≠ d') : rhoR ρ d d' (renI d d' id) = ρ id := by
 unfold renI rhoR
 cases hb : Nat.beq id d with
 | true => rw [cond_true, if_pos rfl, Nat.eq_of_beq_eq_true hb]
 | false => rw [cond_false, if_neg h]
mutual
theorem rep_ren (d d' : Nat) : ∀ (t : T) {y : Value} {F : List Nat}, t.noM d' → Rep S w ρ t y F → Rep S w (rhoR ρ d d') (t.ren d d') y F
 | .any, _, _, _, h => h
 | .v _, _, _, _, h => h
 | .agg row, _, _, hn, h => by
  simp only [Rep, T.ren, T.noM] at h hn ⊢
  obtain ⟨cs, h1, h2, h3⟩ := h
  exact ⟨cs, h1, by rw [renL_length]; exact h2, repRow_ren d d' row hn h3⟩
 | .tup l, _, _, hn, h => by
  simp only [Rep, T.ren, T.noM] at h hn ⊢
  obtain ⟨cs, h1, h2, h3⟩ := h
  exact ⟨cs, h1, by rw [renL_length]; exact h2, repRow_ren d d' l hn h3⟩
 | .sl _ _ _, _, _, _, h => by simp only [T.ren]; exact h
 | .bo _ _ _, _, _, _, h => by simp only [T.ren]; exact h
 | .ref id lo n, _, _, hn, h => by
  simp only [Rep, T.ren, T.noM] at h hn ⊢
  rw [rhoR_renI hn]; exact h
 | .ptr id i o, _, _, hn, h => by
  simp only [Rep, T.ren, T.noM] at h hn ⊢
  rw [rhoR_renI hn]; exact h
 | .fn _ caps, _, _, hn, h => by
  simp only [Rep, T.ren, T.noM] at h hn ⊢
  obtain ⟨cs, h1, h2, h3⟩ := h
  exact ⟨cs, h1, by rw [renL_length]; exact h2, repRow_ren d d' caps hn h3⟩
theorem repRow_ren (d d' : Nat) : ∀ {cell : Nat → Option Value} {o : Nat} (l : List T) {F : List Nat}, noML d' l → RepRow S w ρ cell o l F → RepRow S w (rhoR ρ d d') cell o (renL d d' l) F
 | _, _, [], _, _, h => by simp only [renL]; exact h
 | _, _, t :: ts, _, hn, h => by
  simp only [RepRow, renL, noML] at h hn ⊢
  obtain ⟨y, F1, F2, h1, h2, h3, rfl⟩ := h
  exact ⟨y, F1, F2, h1, rep_ren d d' t hn.1 h2, repRow_ren d d' ts hn.2 h3, rfl⟩
end
def renLL (d d' : Nat) (rows : List (List T)) : List (List T) := rows.map (renL d d')
theorem repRows_ren (d d' : Nat) : ∀ {cell : Nat → Option Value} {o k : Nat} (l : List (List T)) {F : List Nat}, noMLL d' l → RepRows S w ρ cell o k l F → RepRows S w (rhoR ρ d d') cell o k (renLL d d' l) F
 | _, _, _, [], _, _, h => by simp only [RepRows, renLL, List.map_nil] at h ⊢; exact h
 | _, _, _, r :: rs, _, hn, h => by
  simp only [RepRows, renLL, List.map_cons] at h ⊢
  obtain ⟨F1, F2, h0, h1, h2, rfl⟩ := h
  exact ⟨F1, F2, by rw [renL_length]; exact h0, repRow_ren d d' r (hn r (List.mem_cons_self ..)) h1, repRows_ren d d' rs (fun x hx => hn x (List.mem_cons_of_mem _ hx)) h2, rfl⟩
end
mutual
theorem ren_packed (d d' : Nat) : ∀ {t : T}, t.packed → t.ren d d' = t
 | .any, _ => by simp only [T.ren]
 | .v _, _ => by simp only [T.ren]
 | .sl _ _ _, _ => by simp only [T.ren]
 | .bo _ _ _, _ => by simp only [T.ren]
 | .agg row, h => by simp only [T.ren, T.packed] at h ⊢; rw [renL_packed d d' h]
 | .tup row, h => by simp only [T.ren, T.packed] at h ⊢; rw [renL_packed d d' h]
 | .fn _ row, h => by simp only [T.ren, T.packed] at h ⊢; rw [renL_packed d d' h]
 | .ref _ _ _, h => by simp only [T.packed] at h
 | .ptr _ _ _, h => by simp only [T.packed] at h
theorem renL_packed (d d' : Nat) : ∀ {l : List T}, packedL l → renL d d' l = l
 | [], _ => rfl
 | t :: ts, h => by simp only [renL, packedL] at h ⊢; rw [ren_packed d d' h.1, renL_packed d d' h.2]
end
theorem renLL_packed (d d' : Nat) {l : List (List T)} (h : packedLL l) : renLL d d' l = l := by
 unfold renLL
 conv => rhs; rw [← List.map_id l]
 exact List.map_congr_left fun r hr => renL_packed d d' (h r hr)
def renSl (d d' : Nat) : List (Nat × T) → List (Nat × T)
 | [] => []
 | (n, t) :: r => (n, t.ren d d') :: renSl d d' r
def renOb (d d' : Nat) : List (Nat × Ob) → List (Nat × Ob)
 | [] => []
 | (m, ob) :: r => (renI d d' m, ⟨ob.k, renLL d d' ob.rows⟩) :: renOb d d' r
def objsFree (d : Nat) : List (Nat × Ob) → Prop
 | [] => True
 | (m, ob) :: r => m ≠ d ∧ noMLL d ob.rows ∧ objsFree d r
def St.ren (s : St) (d d' : Nat) : St := ⟨renSl d d' (kill d' s.slots), renOb d d' (Am.del d' s.objs)⟩
theorem lk_renSl (d d' n : Nat) (t : T) : ∀ l : List (Nat × T), lk n (renSl d d' l) = some t → ∃ u, lk n l = some u ∧ t = u.ren d d'
 | [], h => by simp [renSl, lk] at h
 | (m, u) :: r, h => by
  simp only [renSl, lk] at h ⊢
  split at h
  ·rename_i e; simp only [Option.some.injEq] at h; exact ⟨u, by rw [if_pos e], h.symm⟩
  ·rename_i e; rw [if_neg e]; exact lk_renSl d d' n t r h
theorem lk_renOb {d d' : Nat} : ∀ {l : List (Nat × Ob)}, objsFree d' l → ∀ {n : Nat} {ob : Ob}, lk n (renOb d d' l) = some ob → ∃ m ob0, lk m l = some ob0 ∧ n = renI d d' m ∧ m ≠ d' ∧ noMLL d' ob0.rows ∧ ob = ⟨ob0.k, renLL d d' ob0.rows⟩
 | [], _, n, ob, h => by simp [renOb, lk] at h
 | (m, ob0) :: r, hf, n, ob, h => by
  simp only [renOb, lk, objsFree] at h hf ⊢
  split at h
  ·rename_i e
   simp only [Option.some.injEq] at h
   exact ⟨m, ob0, by rw [if_pos rfl], e.symm, hf.1, hf.2.1, h.symm⟩
  ·rename_i e
   obtain ⟨m', ob1, h1, h2, h3, h4, h5⟩ := lk_renOb hf.2.2 h
   refine ⟨m', ob1, ?_, h2, h3, h4, h5⟩
   rw [if_neg (fun e2 => e (by rw [e2, h2]))]
   exact h1
theorem objsFree_del {d : Nat} : ∀ {l : List (Nat × Ob)}, objsNoM d l → objsFree d (del d l)
 | [], _ => trivial
 | (m, ob) :: r, h => by
  simp only [objsNoM, del] at h ⊢
  split
  ·exact objsFree_del h.2
  ·rename_i e; exact ⟨e, h.1.resolve_left e, objsFree_del h.2⟩
section
variable {P : Program} {E : Env} {s : St}
theorem ent_ren {d d' : Nat} (hp : E.okd d') (hno : objsNoM d' s.objs) : Ent E s (s.ren d d') := by
 have hfree := objsFree_del hno
 rintro a w ⟨S, ρ, foot, h⟩
 refine ⟨S, rhoR ρ d d', fun i => if i = d' then foot d else foot i, ?_⟩
 have hlk : ∀ m ob, lk m (del d' s.objs) = some ob → lk m s.objs = some ob := fun m ob hm => ((lk_del d' m ob s.objs).1 hm).2
 have hfoot : ∀ m, m ≠ d' → (if renI d d' m = d' then foot d else foot (renI d d' m)) = foot m := by
  intro m hm
  unfold renI
  cases hb : Nat.beq m d with
  | true => rw [cond_true, if_pos rfl, Nat.eq_of_beq_eq_true hb]
  | false => rw [cond_false, if_neg hm]
 exact {
  nt := h.nt, defers := h.defers
  slots := fun n t hn => by
   obtain ⟨u, h1, rfl⟩ := lk_renSl d d' n t _ hn
   rcases lk_kill d' n u _ h1 with rfl | ⟨h2, h3⟩
   ·simp [Rep, T.ren]
   ·exact rep_ren d d' u h3 (h.slots n u h2)
  objs := fun n ob hl => by
   obtain ⟨m, ob0, h1, rfl, h3, h4, rfl⟩ := lk_renOb hfree hl
   obtain ⟨hd, e1, e2, e3⟩ := h.objs m ob0 (hlk m ob0 h1)
   refine ⟨hd, by rw [rhoR_renI h3]; exact e1, e2, ?_⟩
   simp only [hfoot m h3]
   rcases e3 with ⟨e3, e4, e5⟩ | ⟨b, off, arr, el, fr, Fs, f1, f2, f3, f4, f5, f6, f7⟩
   ·exact .inl ⟨e3, by simp [renLL, e4], e5⟩
   ·exact .inr ⟨b, off, arr, el, fr, Fs, f1, f2, by simpa [renLL] using f3, f4, f5, repRows_ren d d' _ h4 f6, f7⟩
  nodup := fun n ob hl => by
   obtain ⟨m, ob0, h1, rfl, h3, h4, rfl⟩ := lk_renOb hfree hl
   simp only [hfoot m h3]
   exact h.nodup m ob0 (hlk m ob0 h1)
  apart := fun n ob n' ob' hl hl' hne => by
   obtain ⟨m, ob0, h1, rfl, h3, h4, rfl⟩ := lk_renOb hfree hl
   obtain ⟨m', ob0', h1', rfl, h3', h4', rfl⟩ := lk_renOb hfree hl'
   simp only [hfoot m h3, hfoot m' h3']
   exact h.apart m ob0 m' ob0' (hlk m ob0 h1) (hlk m' ob0' h1') (fun e => hne (by rw [e]))
  mine := fun n ob hl => by
   obtain ⟨m, ob0, h1, rfl, h3, h4, rfl⟩ := lk_renOb hfree hl
   simp only [hfoot m h3]
   exact h.mine m ob0 (hlk m ob0 h1)
  shared := h.shared, S0 := h.S0, kept := h.kept
  pins := fun p hpp => rep_rho d' (fun i hi => by simp [rhoR, hi]) p.1 (hp p hpp) (h.pins p hpp) }
def St.nilS (s : St) (n d k : Nat) : St := (s.new d ⟨k, []⟩).set n (.ref d 0 0)
theorem ent_nilS {n d k : Nat} (hn : lk n s.slots = some (.v (.slice none 0 0))) (hp : E.okd d) (hno : objsNoM d s.objs) : Ent E s (s.nilS n d k) := by
 rintro a w ⟨S, ρ, foot, h⟩
 have hr := h.slots n _ hn
 simp only [Rep] at hr
 have hy := hr.1
 have h2 := h.new (d := d) (ob := ⟨k, []⟩) (hd := ⟨none, 0, k⟩) (F := []) hp hno (by intro r hr; cases hr) ⟨rfl, .inl ⟨rfl, rfl, rfl⟩⟩ List.nodup_nil (by simp) (by simp)
 refine ⟨S, fun i => if i = d then some ⟨none, 0, k⟩ else ρ i, fun i => if i = d then [] else foot i, ?_⟩
 exact {
  nt := h2.nt, defers := h2.defers
  slots := fun m t hm => by
   simp only [St.nilS, St.set, lk] at hm
   split at hm
   ·rename_i e
    subst e
    simp only [Option.some.injEq] at hm
    subst hm
    simp only [Rep]
    exact ⟨trivial, ⟨none, 0, k⟩, none, 0, by simp, by simpa using hy, rfl, Nat.le_refl _, .inl rfl⟩
   ·exact h2.slots m t hm
  objs := h2.objs, nodup := h2.nodup, apart := h2.apart, mine := h2.mine, shared := h2.shared, S0 := h2.S0, kept := h2.kept, pins := h2.pins }
def keepId (na id : Nat) : Bool := Nat.blt id na || (Nat.ble 1000 id && Nat.blt id (1000 * (na + 1))) || Nat.ble 1000000 id
def renC (E : Env) (na c id : Nat) (r : Prop × St) : Prop × St :=
 bif keepId na id then r else ((r.1 ∧ E.okd c) ∧ objsNoM c r.2.objs, r.2.ren id c)
def canRow (E : Env) (na c : Nat) : List T → Prop × St → Prop × St
 | [], r => r
 | .ref id _ _ :: ts, r => canRow E na (c + 1) ts (renC E na c id r)
 | _ :: ts, r => canRow E na (c + 1) ts r
def nilC (E : Env) (n k : Nat) (r : Prop × St) : Prop × St :=
 bif Nat.beq k 0 then r else bif Nat.ble 1000 k then (r.1, r.2.set n (.sl false (k - 1000) []))
 else ((r.1 ∧ E.okd (1000000 * (n + 1))) ∧ objsNoM (1000000 * (n + 1)) r.2.objs, r.2.nilS n (1000000 * (n + 1)) k)
def canT (E : Env) (na n k : Nat) (r : Prop × St) : Option T → Prop × St
 | some (.ref id _ _) => renC E na (1000000 * (n + 1)) id r
 | some (.ptr id _ _) => renC E na (1000000 * (n + 1)) id r
 | some (.v (.slice none 0 0)) => nilC E n k r
 | some (.agg row) => canRow E na (1000000 * (n + 1) + 1) row r
 | _ => r
def canB2 (E : Env) (na n : Nat) (r : Prop × St) : Option Ob → Prop × St
 | some ⟨_, [row]⟩ => canRow E na (1000000 * (n + 1) + 1) row r
 | _ => r
def canB (E : Env) (na n : Nat) (r : Prop × St) : Option T → Prop × St
 | some (.ptr id _ _) => canB2 E na n r (lk id r.2.objs)
 | _ => r
def canL (E : Env) (na : Nat) : List (Nat × Nat) → Prop × St → Prop × St
 | [], r => r
 | (n, k) :: ns, r => canL E na ns ((fun q : Prop × St => canB E na n q (lk n q.2.slots)) (canT E na n k r (lk n r.2.slots)))
def keepS2 (l : List (Nat × T)) : List (Nat × Nat) → List (Nat × T)
 | [] => []
 | (n, _) :: r => (n, match lk n l with | some t => t | none => .any) :: keepS2 l r
def idsL : List T → List Nat
 | [] => []
 | .ref id _ _ :: ts => id :: idsL ts
 | .ptr id _ _ :: ts => id :: idsL ts
 | _ :: ts => idsL ts
def idsB : Option Ob → List Nat
 | some ⟨_, [row]⟩ => idsL row
 | _ => []
def idsT (l : List (Nat × Ob)) : T → List Nat
 | .ref id _ _ => [id]
 | .ptr id _ _ => id :: idsB (lk id l)
 | .agg row => idsL row
 | .fn _ caps => idsL caps
 | _ => []
def idsS (l : List (Nat × Ob)) : List (Nat × T) → List Nat
 | [] => []
 | (_, t) :: r => idsT l t ++ idsS l r
def dedup : List Nat → List Nat
 | [] => []
 | x :: r => x :: (dedup r).filter (fun y => !(Nat.beq x y))
def St.fin (s : St) (L : List (Nat × Nat)) : St := (fun sl => ⟨sl, keepO s.objs (dedup (idsS s.objs sl))⟩) (keepS2 s.slots L)
def canon (E : Env) (na : Nat) (L : List (Nat × Nat)) (s : St) : Prop × St := (fun r : Prop × St => (r.1, r.2.fin L)) (canL E na L (True, s.fin L))
def St.fin0 (s : St) (L : List Nat) : St := ⟨keepS s.slots L, s.objs⟩
theorem renC_ent {na c id : Nat} {r : Prop × St} (h : r.1 → Ent E s r.2) (hc : (renC E na c id r).1) : r.1 ∧ Ent E s (renC E na c id r).2 := by
 unfold renC at hc ⊢
 cases hk : keepId na id with
 | true => rw [hk] at hc; exact ⟨hc, h hc⟩
 | false => rw [hk] at hc; exact ⟨hc.1.1, (h hc.1.1).trans (ent_ren hc.1.2 hc.2)⟩
theorem canRow_ent {na : Nat} : ∀ {row : List T} {c : Nat} {r : Prop × St}, (r.1 → Ent E s r.2) → (canRow E na c row r).1 → r.1 ∧ Ent E s (canRow E na c row r).2
 | [], c, r, h, hc => by simp only [canRow] at hc ⊢; exact ⟨hc, h hc⟩
 | t :: ts, c, r, h, hc => by
  cases t with
  | ref id lo n =>
   simp only [canRow] at hc ⊢
   have := canRow_ent (fun hq => (renC_ent h hq).2) hc
   exact ⟨(renC_ent h this.1).1, this.2⟩
  | _ => simp only [canRow] at hc ⊢; exact canRow_ent h hc
theorem ent_nilSh {n k : Nat} (hn : lk n s.slots = some (.v (.slice none 0 0))) : Ent E s (s.set n (.sl false k [])) := by
 rintro a w ⟨S, ρ, foot, h⟩
 have hr := h.slots n _ hn
 simp only [Rep] at hr
 refine ⟨S, ρ, foot, { nt := h.nt, defers := h.defers, objs := h.objs, nodup := h.nodup, apart := h.apart, mine := h.mine, shared := h.shared, S0 := h.S0, kept := h.kept, pins := h.pins, slots := fun m t hm => ?_ }⟩
 simp only [St.set, lk] at hm
 split at hm
 ·rename_i e
  subst e
  simp only [Option.some.injEq] at hm
  subst hm
  simp only [Rep]
  exact ⟨none, 0, by simpa using hr.1, .inl ⟨rfl, trivial, trivial⟩⟩
 ·exact h.slots m t hm
theorem nilC_ent {n k : Nat} {r : Prop × St} (h : r.1 → Ent E s r.2) (hn : lk n r.2.slots = some (.v (.slice none 0 0))) (hc : (nilC E n k r).1) : r.1 ∧ Ent E s (nilC E n k r).2 := by
 unfold nilC at hc ⊢
 cases h1 : Nat.beq k 0 with
 | true => simp only [h1, cond_true] at hc ⊢; exact ⟨hc, h hc⟩
 | false =>
  cases h2 : Nat.ble 1000 k with
  | true => simp only [h1, h2, cond_true, cond_false] at hc ⊢; exact ⟨hc, (h hc).trans (ent_nilSh hn)⟩
  | false => simp only [h1, h2, cond_false] at hc ⊢; exact ⟨hc.1.1, (h hc.1.1).trans (ent_nilS hn hc.1.2 hc.2)⟩
theorem canT_ent {na n k : Nat} {r : Prop × St} (h : r.1 → Ent E s r.2) (hc : (canT E na n k r (lk n r.2.slots)).1) : r.1 ∧ Ent E s (canT E na n k r (lk n r.2.slots)).2 := by
 generalize ho : lk n r.2.slots = o at hc ⊢
 unfold canT at hc ⊢
 split
 ·exact renC_ent h hc
 ·exact renC_ent h hc
 ·exact nilC_ent h ho hc
 ·exact canRow_ent h hc
 ·rename_i h1 h2 h3 h4
  split at hc
  ·exact absurd rfl (h1 _ _ _)
  ·exact absurd rfl (h2 _ _ _)
  ·exact absurd rfl h3
  ·exact absurd rfl (h4 _)
  ·exact ⟨hc, h hc⟩
theorem canB_ent {na n : Nat} {r : Prop × St} {o : Option T} (h : r.1 → Ent E s r.2) (hc : (canB E na n r o).1) : r.1 ∧ Ent E s (canB E na n r o).2 := by
 have key : ∀ o, (canB2 E na n r o).1 → r.1 ∧ Ent E s (canB2 E na n r o).2 := by
  intro o hc
  unfold canB2 at hc ⊢
  split
  ·exact canRow_ent h hc
  ·rename_i h1
   split at hc
   ·exact absurd rfl (h1 _ _)
   ·exact ⟨hc, h hc⟩
 unfold canB at hc ⊢
 split
 ·exact key _ hc
 ·rename_i h1
  split at hc
  ·exact absurd rfl (h1 _ _ _)
  ·exact ⟨hc, h hc⟩
theorem canL_ent {na : Nat} : ∀ {L : List (Nat × Nat)} {r : Prop × St}, (r.1 → Ent E s r.2) → (canL E na L r).1 → r.1 ∧ Ent E s (canL E na L r).2
 | [], r, h, hc => by simp only [canL] at hc ⊢; exact ⟨hc, h hc⟩
 | (n, k) :: ns, r, h, hc => by
  simp only [canL] at hc ⊢
  have := canL_ent (fun hq => (canB_ent (fun hp => (canT_ent h hp).2) hq).2) hc
  have h2 := canB_ent (fun hp => (canT_ent h hp).2) this.1
  exact ⟨(canT_ent h h2.1).1, this.2⟩
theorem lk_keepS2 {l : List (Nat × T)} : ∀ {ns : List (Nat × Nat)} {n : Nat} {t : T}, lk n (keepS2 l ns) = some t → t = .any ∨ lk n l = some t
 | [], n, t, h => by simp [keepS2, lk] at h
 | (m, k) :: r, n, t, h => by
  simp only [keepS2, lk] at h
  split at h
  ·rename_i e
   subst e
   simp only [Option.some.injEq] at h
   split at h
   ·rename_i t' ht; subst h; exact .inr ht
   ·exact .inl h.symm
  ·exact lk_keepS2 h
theorem ent_fin (L : List (Nat × Nat)) : Ent E s (s.fin L) := ent_sub (fun _ _ h => lk_keepS2 h) (fun _ _ h => lk_keepO h)
theorem ent_fin0 (L : List Nat) : Ent E s (s.fin0 L) := ent_sub (fun _ _ h => lk_keepS h) (fun _ _ h => h)
theorem canon_ent {na : Nat} {L : List (Nat × Nat)} (h : (canon E na L s).1) : Ent E s (canon E na L s).2 :=
 ((canL_ent (r := (True, s.fin L)) (fun _ => ent_fin L) h).2).trans (ent_fin L)
end
inductive AS where
 | skip
 | ops (l : List IN)
 | dops (l : List IN)
 | rops (l : List (Option (List IN) × IN))
 | tops (L : List (Nat × Nat)) (t : RT)
 | seq (a b : AS)
 | cond (x : Operand) (a b : AS)
 | loop (na : Nat) (L : List (Nat × Nat)) (b : AS)
 | block (id : Nat) (b : AS)
 | exit (id : Nat)
 | ret
 | kept (L : List Nat) (b : AS)
 | post (ms : List (Nat × Nat × List (Nat × Nat))) (a : AS)
 | pre (l : List IN) (x new : Nat) (a : AS)
 | lay (ms : List (Nat × Nat × List (Nat × Nat))) (a : AS)
def AS.strip : AS → Stmt
 | .skip => .skip
 | .ops l => .ops l
 | .dops l => .dops l
 | .rops l => .rops l
 | .tops _ t => .tops t
 | .seq a b => .seq a.strip b.strip
 | .cond x a b => .cond x a.strip b.strip
 | .loop _ _ b => .loop b.strip
 | .block id b => .block id b.strip
 | .exit id => .exit id
 | .ret => .ret
 | .kept _ b => b.strip
 | .post _ a => a.strip
 | .pre _ _ _ a => a.strip
 | .lay _ a => a.strip
def clsQ (K : St → Prop) (r : Prop × St) : Prop := r.1 ∧ K r.2
def postQ (ms : List (Nat × Nat × List (Nat × Nat))) (Q : Exit → St → Prop) : Exit → St → Prop
 | .normal, s => clsQ (Q .normal) (clsM ms (True, s))
 | e, s => Q e s
def preC (E : Env) (s : St) (id i o new : Nat) : Option Ob → Prop × St
 | some ob => opnC E id i o new (((ob.rows.getD i []).drop o).take 1) (i < ob.rows.length, s)
 | none => (True, s)
def preO (E : Env) (s : St) (new : Nat) : Option T → Prop × St
 | some (.ptr id i o) => preC E s id i o new (lk id s.objs)
 | _ => (True, s)
def preP (d : Option Nat) (s : St) : Option (Prop × T) → St
 | some (_, t) => s.put d t
 | none => s
def preL (s : St) : List IN → St
 | [] => s
 | i :: l => preL (preP i.dst s (pureI s i.i)) l
def preS (E : Env) (s : St) (l : List IN) (x new : Nat) : Prop × St := preO E s new (lk x (preL s l).slots)
theorem preS_ent {E : Env} {s : St} {l : List IN} {x new : Nat} (h : (preS E s l x new).1) : Ent E s (preS E s l x new).2 := by
 unfold preS at h ⊢
 generalize lk x (preL s l).slots = t at h ⊢
 unfold preO at h ⊢
 split
 ·rename_i id i o
  simp only at h
  cases ho : lk id s.objs with
  | none => exact Ent.refl s
  | some ob =>
   rw [ho] at h
   simp only [preC] at h ⊢
   refine (opnC_ok (s := s) (len := (ob.rows.getD i []).length) (r := (i < ob.rows.length, s)) (fun hq => ⟨Ent.refl s, ⟨ob, ho, hq, rfl, fun n u hn => ?_⟩, fun _ _ h _ => h⟩) h).2.1
   rw [List.getElem?_take] at hn
   split at hn
   ·rwa [List.getElem?_drop] at hn
   ·cases hn
 ·exact Ent.refl s
def aft3 (P : Program) (E : Env) (d : Option Nat) (g : Option (Nat × Bool)) (i : I) (K : St → Prop) (s : St) : Option (Prop × St) → Prop
 | some (p, s') => p ∧ K s'
 | none => InstrOk P E ⟨d, g, i⟩ K s
def aft2 (P : Program) (E : Env) (d : Option Nat) (g : Option (Nat × Bool)) (i : I) (K : St → Prop) (s : St) : Option (Prop × T) → Prop
 | some (p, t) => p ∧ K (s.put d t)
 | none => aft3 P E d g i K s (effI E s d i)
def ws1 (P : Program) (E : Env) (d : Option Nat) (g : Option (Nat × Bool)) (i : I) (K : St → Prop) (s : St) : Prop := aft2 P E d g i K s (pureI s i)
def wsO (P : Program) (E : Env) : List IN → (St → Prop) → St → Prop
 | [], K, s => K s
 | ⟨d, none, i⟩ :: r, K, s => aft2 P E d none i (wsO P E r K) s (pureI s i)
 | ⟨d, some (t, b), i⟩ :: r, K, s => grd (lk t s.slots) b (ws1 P E d (some (t, b)) i (wsO P E r K)) (skO (wsO P E r) d K) s
def LoopA (P : Program) (E : Env) (na : Nat) (L : List (Nat × Nat)) (b : AS) (Q : Exit → St → Prop) (s : St) : Prop := LoopOk P E b.strip Q s
def canQ (P : Program) (E : Env) (na : Nat) (L : List (Nat × Nat)) (b : AS) (Q : Exit → St → Prop) (r : Prop × St) : Prop := r.1 ∧ LoopA P E na L b Q r.2
def aftP (d : Option Nat) (K : St → Prop) (s : St) : Option (Prop × T) → Prop
 | some (p, t) => p ∧ K (s.put d t)
 | none => False
def aftR (P : Program) (E : Env) (b : Option (List IN)) (d : Option Nat) (g : Option (Nat × Bool)) (i : I) (K : St → Prop) (s : St) : Prop :=
 match b with
 | none => aftP d K s (pureI s i)
 | some l => aft2 P E d g i (rrK l K) s (pureI s i)
def wsR1 (P : Program) (E : Env) (b : Option (List IN)) (d : Option Nat) (g : Option (Nat × Bool)) (i : I) (K : St → Prop) (s : St) : Prop := aftR P E b d g i K s
def skR (b : Option (List IN)) (f : (St → Prop) → St → Prop) (d : Option Nat) (K : St → Prop) (s : St) : Prop := skipR b (f K) (s.put d (.tup []))
def wsR (P : Program) (E : Env) : List (Option (List IN) × IN) → (St → Prop) → St → Prop
 | [], K, s => K s
 | (b, ⟨d, none, i⟩) :: r, K, s => aftR P E b d none i (wsR P E r K) s
 | (b, ⟨d, some (t, g), i⟩) :: r, K, s => grd (lk t s.slots) g (wsR1 P E b d (some (t, g)) i (wsR P E r K)) (skR b (wsR P E r) d K) s
def Both (A B : Prop) : Prop := A ∧ B
theorem both {A B : Prop} (h1 : A) (h2 : B) : Both A B := ⟨h1, h2⟩
def Jn (A : (St → Prop) → Prop) (B : St → Prop) : Prop := ∃ I, A I ∧ ∀ S, I S → B S
theorem jn {A : (St → Prop) → Prop} {B : St → Prop} (S : St) (h1 : A (fun x => x = S)) (h2 : B S) : Jn A B := ⟨_, h1, fun _ e => e ▸ h2⟩
def finEq (L : List (Nat × Nat)) (I : St → Prop) (s : St) : Prop := I (s.fin L)
theorem fin_eq {L : List (Nat × Nat)} {S s : St} (h : s.fin L = S) : finEq L (fun x => x = S) s := h
def wsT1 (P : Program) (E : Env) (l : List IN) (d : Option Nat) (g : Option (Nat × Bool)) (i : I) (K : St → Prop) (s : St) : Prop := aft2 P E d g i (rrK l K) s (pureI s i)
def skT (l : List IN) (f : (St → Prop) → St → Prop) (d : Option Nat) (K : St → Prop) (s : St) : Prop := rrK l (f K) (s.put d (.tup []))
def wsP1 (d : Option Nat) (i : I) (K : St → Prop) (s : St) : Prop := aftP d K s (pureI s i)
def wsT (P : Program) (E : Env) : RT → (St → Prop) → St → Prop
 | .done, K, s => K s
 | .none, _, _ => True
 | .rd ⟨d, none, i⟩ r, K, s => wsP1 d i (wsT P E r K) s
 | .rd ⟨d, some (t, g), i⟩ r, K, s => grd (lk t s.slots) g (wsP1 d i (wsT P E r K)) (skO (wsT P E r) d K) s
 | .alt l ⟨d, none, i⟩ r o, K, s => Both (wsT1 P E l d none i (wsT P E r K) s) (wsT P E o K s)
 | .alt l ⟨d, some (t, g), i⟩ r o, K, s => Both (grd (lk t s.slots) g (wsT1 P E l d (some (t, g)) i (wsT P E r K)) (skT l (wsT P E r) d K) s) (wsT P E o K s)
def wsS (P : Program) (E : Env) : AS → (Exit → St → Prop) → St → Prop
 | .skip, Q, s => Q .normal s
 | .ops l, Q, s => wsO P E l (Q .normal) s
 | .dops l, Q, s => wpQ P l (Q .normal) s
 | .rops l, Q, s => wsR P E l (Q .normal) s
 | .tops L t, Q, s => Jn (fun I => wsT P E t (finEq L I) s) (Q .normal)
 | .seq a b, Q, s => wsS P E a (seqQ (wsS P E b) Q) s
 | .cond x a b, Q, s => grc (s.eval x) (wsS P E a Q) (wsS P E b Q) s
 | .loop na L b, Q, s => canQ P E na L b Q (canon E na L s)
 | .block id b, Q, s => wsS P E b (blockQ id Q) s
 | .exit id, Q, s => Q (.exit id) s
 | .ret, Q, s => Q .ret s
 | .kept L b, Q, s => wsS P E b Q (s.fin0 L)
 | .post ms a, Q, s => wsS P E a (postQ ms Q) s
 | .pre l x new a, Q, s => clsQ (wsS P E a Q) (preS E s l x new)
 | .lay ms a, Q, s => clsQ (wsS P E a Q) (clsM ms (True, s))
section
variable {P : Program} {E : Env} {s : St}
theorem aft2_ok {d : Option Nat} {g : Option (Nat × Bool)} {i : I} {K K' : St → Prop} (hK : ∀ s, K s → K' s) (h : aft2 P E d g i K s (pureI s i)) : InstrOk P E ⟨d, g, i⟩ K' s := by
 unfold aft2 at h
 split at h
 ·rename_i p t hp
  exact ok_pure (i := ⟨d, g, i⟩) hp h.1 (hK _ h.2)
 ·unfold aft3 at h
  split at h
  ·rename_i p s' he
   exact effI_ok he h.1 (hK _ h.2)
  ·exact instrOk_mono hK h
theorem wsO_sound : ∀ {l : List IN} {K : St → Prop} {s : St}, wsO P E l K s → OkOps P E l K s
 | [], K, s, h => h
 | ⟨d, none, i⟩ :: r, K, s, h => by
  simp only [wsO] at h
  simp only [OkOps]
  exact aft2_ok (fun _ h => wsO_sound h) h
 | ⟨d, some (t, b), i⟩ :: r, K, s, h => by
  simp only [wsO] at h
  simp only [OkOps]
  unfold grd at h
  split at h
  ·rename_i c hl
   refine .inl ⟨c, hl, fun e => aft2_ok (fun _ h => wsO_sound h) (h.1 e), fun e => wsO_sound (h.2 ?_)⟩
   cases c <;> cases b <;> simp at e ⊢
  ·rename_i hl
   exact .inr ⟨hl, wsO_sound h⟩
  ·exact h.elim
theorem aftR_ok {b : Option (List IN)} {d : Option Nat} {g : Option (Nat × Bool)} {i : I} {K K' : St → Prop} (hK : ∀ s, K s → K' s) (h : aftR P E b d g i K s) : stepR P E b ⟨d, g, i⟩ K' s := by
 cases b with
 | none =>
  simp only [aftR] at h
  unfold aftP at h
  split at h
  ·rename_i p t hp
   exact ⟨p, t, hp, h.1, hK _ h.2⟩
  ·exact h.elim
 | some l => exact aft2_ok (fun s h => ⟨h.1, hK _ h.2⟩) h
theorem skR_ok {b : Option (List IN)} {d : Option Nat} {f : (St → Prop) → St → Prop} {K : St → Prop} {K' : St → Prop} (hK : ∀ s, f K s → K' s) (h : skR b f d K s) : skipR b K' (s.put d (.tup [])) := by
 cases b with
 | none => exact hK _ h
 | some l => exact ⟨h.1, hK _ h.2⟩
theorem wsR_sound : ∀ {l : List (Option (List IN) × IN)} {K : St → Prop} {s : St}, wsR P E l K s → OkR P E l K s
 | [], K, s, h => h
 | (b, ⟨d, none, i⟩) :: r, K, s, h => by
  simp only [wsR] at h
  simp only [OkR]
  exact aftR_ok (fun _ h => wsR_sound h) h
 | (b, ⟨d, some (t, g), i⟩) :: r, K, s, h => by
  simp only [wsR] at h
  simp only [OkR]
  unfold grd at h
  split at h
  ·rename_i c hl
   refine .inl ⟨c, hl, fun e => aftR_ok (fun _ h => wsR_sound h) (h.1 e), fun e => skR_ok (fun _ h => wsR_sound h) (h.2 ?_)⟩
   cases c <;> cases g <;> simp at e ⊢
  ·rename_i hl
   exact .inr ⟨hl, skR_ok (fun _ h => wsR_sound h) h⟩
  ·exact h.elim
theorem wsT_sound : ∀ {t : RT} {K : St → Prop} {s : St}, wsT P E t K s → OkT P E t K s
 | .done, K, s, h => h
 | .none, K, s, h => trivial
 | .rd ⟨d, none, i⟩ r, K, s, h => by
  simp only [wsT] at h
  simp only [OkT]
  exact aftR_ok (b := none) (fun _ h => wsT_sound h) h
 | .rd ⟨d, some (t, g), i⟩ r, K, s, h => by
  simp only [wsT] at h
  simp only [OkT]
  unfold grd at h
  split at h
  ·rename_i c hl
   refine .inl ⟨c, hl, fun e => aftR_ok (b := none) (fun _ h => wsT_sound h) (h.1 e), fun e => wsT_sound (h.2 ?_)⟩
   cases c <;> cases g <;> simp at e ⊢
  ·rename_i hl
   exact .inr ⟨hl, wsT_sound h⟩
  ·exact h.elim
 | .alt l ⟨d, none, i⟩ r o, K, s, h => by
  simp only [wsT] at h
  simp only [OkT]
  exact ⟨aft2_ok (fun s h => ⟨h.1, wsT_sound h.2⟩) h.1, wsT_sound h.2⟩
 | .alt l ⟨d, some (t, g), i⟩ r o, K, s, h => by
  simp only [wsT] at h
  simp only [OkT]
  refine ⟨?_, wsT_sound h.2⟩
  have h := h.1
  unfold grd at h
  split at h
  ·rename_i c hl
   refine .inl ⟨c, hl, fun e => aft2_ok (fun s h => ⟨h.1, wsT_sound h.2⟩) (h.1 e), fun e => ?_⟩
   have := h.2 (by cases c <;> cases g <;> simp at e ⊢)
   exact ⟨this.1, wsT_sound this.2⟩
  ·rename_i hl
   exact .inr ⟨hl, h.1, wsT_sound h.2⟩
  ·exact h.elim
theorem ok_post {st : Am.Stmt} {Q Q' : Exit → St → Prop} (hQ : ∀ e s, Q' e s → ∃ s', Ent E s s' ∧ Q e s') (h : Ok P E st Q' s) : Ok P E st Q s :=
 fun c hc a w hs => wp_mono (h c hc a w hs) fun e a' w' ⟨s', hq, hs'⟩ => let ⟨s2, he, hq2⟩ := hQ e s' hq; ⟨s2, hq2, he a' w' hs'⟩
theorem wsS_sound : ∀ {st : AS} {Q : Exit → St → Prop} {s : St}, wsS P E st Q s → Ok P E st.strip Q s
 | .skip, Q, s, h => ok_skip h
 | .ops l, Q, s, h => ok_ops (wsO_sound h)
 | .dops l, Q, s, h => ok_dops (wpQ_sound h)
 | .rops l, Q, s, h => ok_rops (wsR_sound h)
 | .tops L t, Q, s, ⟨I, h1, h2⟩ => by
  refine ok_post (Q' := fun e s' => e = .normal ∧ finEq L I s') (fun e s' hq => ?_) (ok_tops (Q := fun e s' => e = .normal ∧ finEq L I s') (wsT_sound (K := fun s' => Exit.normal = .normal ∧ finEq L I s') ?_))
  ·obtain ⟨rfl, hq⟩ := hq
   exact ⟨s'.fin L, ent_fin L, h2 _ hq⟩
  ·have e : (fun s' => Exit.normal = .normal ∧ finEq L I s') = finEq L I := by funext s'; simp
   rw [e]; exact h1
 | .seq a b, Q, s, h => by
  refine ok_seq (ok_mono (fun e s' hq => ?_) (wsS_sound h))
  cases e <;> first | exact wsS_sound hq | exact hq
 | .cond x a b, Q, s, h => by
  simp only [wsS] at h
  unfold grc at h
  split at h
  ·rename_i t hx
   exact ok_cond hx (fun e => wsS_sound (h.1 e)) (fun e => wsS_sound (h.2 (by rw [e]; rfl)))
  ·exact h.elim
 | .loop na L b, Q, s, h => ok_loop (loopOk_ent (canon_ent h.1) h.2)
 | .block id b, Q, s, h => ok_block (wsS_sound h)
 | .exit id, Q, s, h => ok_exit h
 | .ret, Q, s, h => ok_ret h
 | .kept L b, Q, s, h => ok_ent (ent_fin0 L) (wsS_sound (st := b) h)
 | .post ms a, Q, s, h => ok_post (fun e s' hq => by
   cases e with
   | normal => exact ⟨_, (clsM_ent (r := (True, s')) (fun _ => Ent.refl s') hq.1).2, hq.2⟩
   | _ => exact ⟨s', Ent.refl s', hq⟩) (wsS_sound (st := a) h)
 | .pre l x new a, Q, s, h => ok_ent (preS_ent h.1) (wsS_sound (st := a) h.2)
 | .lay ms a, Q, s, h => ok_ent (clsM_ent (r := (True, s)) (fun _ => Ent.refl s) h.1).2 (wsS_sound (st := a) h.2)
def nextN {σ : Type} (n : Nat) (F : Nat → σ → St) (I : Nat → σ → Prop) (j : Nat) (r : Prop × St) : Prop := r.1 ∧ j < n ∧ ∃ x, r.2 = F (j + 1) x ∧ I (j + 1) x
def nextQ {σ : Type} (E : Env) (na : Nat) (L : List (Nat × Nat)) (n : Nat) (F : Nat → σ → St) (I : Nat → σ → Prop) (j : Nat) (Q : Exit → St → Prop) : Exit → St → Prop
 | .normal, s => nextN n F I j (canon E na L s)
 | e, s => Q e s
theorem loopN {σ : Type} {b : AS} {Q : Exit → St → Prop} {na : Nat} {L : List (Nat × Nat)} (n : Nat) (F : Nat → σ → St) (I : Nat → σ → Prop) (x0 : σ) (h0 : I 0 x0)
  (h : ∀ (j : Nat) (x : σ), j ≤ n → I j x → wsS P E b (nextQ E na L n F I j Q) (F j x)) : LoopA P E na L b Q (F 0 x0) := by
 have key : ∀ (k j : Nat) (x : σ), n - j = k → j ≤ n → I j x → LoopOk P E b.strip Q (F j x) := by
  intro k
  induction k using Nat.strongRecOn with
  | _ k ih =>
   intro j x hk hj hI
   refine loopOk_step (ok_mono (fun e s' hq => ?_) (wsS_sound (h j x hj hI)))
   cases e with
   | normal =>
    obtain ⟨h1, h2, x', h3, h4⟩ := hq
    refine loopOk_ent (canon_ent (na := na) (L := L) h1) ?_
    rw [h3]
    exact ih (n - (j + 1)) (by omega) (j + 1) x' rfl (by omega) h4
   | _ => exact hq
 exact key n 0 x0 (by omega) (by omega) h0
theorem loopNe {σ : Type} {b : AS} {Q : Exit → St → Prop} {na : Nat} {L : List (Nat × Nat)} {s : St} (n : Nat) (F : Nat → σ → St) (I : Nat → σ → Prop) (x0 : σ) (hs : s = F 0 x0) (h0 : I 0 x0)
  (h : ∀ (j : Nat) (x : σ), j ≤ n → I j x → wsS P E b (nextQ E na L n F I j Q) (F j x)) : LoopA P E na L b Q s := by
 subst hs
 exact loopN n F I x0 h0 h
def nextM {σ : Type} (F : σ → St) (I : σ → Prop) (m : σ → Nat) (x : σ) (r : Prop × St) : Prop := r.1 ∧ ∃ y, r.2 = F y ∧ I y ∧ m y < m x
def nextMQ {σ : Type} (E : Env) (na : Nat) (L : List (Nat × Nat)) (F : σ → St) (I : σ → Prop) (m : σ → Nat) (x : σ) (Q : Exit → St → Prop) : Exit → St → Prop
 | .normal, s => nextM F I m x (canon E na L s)
 | e, s => Q e s
theorem loopM {σ : Type} {b : AS} {Q : Exit → St → Prop} {na : Nat} {L : List (Nat × Nat)} (F : σ → St) (I : σ → Prop) (m : σ → Nat) (x0 : σ) (h0 : I x0)
  (h : ∀ (x : σ), I x → wsS P E b (nextMQ E na L F I m x Q) (F x)) : LoopA P E na L b Q (F x0) := by
 have key : ∀ (k : Nat) (x : σ), m x = k → I x → LoopOk P E b.strip Q (F x) := by
  intro k
  induction k using Nat.strongRecOn with
  | _ k ih =>
   intro x hk hI
   refine loopOk_step (ok_mono (fun e s' hq => ?_) (wsS_sound (h x hI)))
   cases e with
   | normal =>
    obtain ⟨h1, x', h3, h4, h5⟩ := hq
    refine loopOk_ent (canon_ent (na := na) (L := L) h1) ?_
    rw [h3]
    exact ih (m x') (by omega) x' rfl h4
   | _ => exact hq
 exact key (m x0) x0 rfl h0
end
mutual
def nilLe : T → T → Prop
 | .v (.slice none 0 0), .sl o k rows => rows = []
 | .agg r, .agg r' => nilLeL r r'
 | .tup r, .tup r' => nilLeL r r'
 | t, t' => t = t'
def nilLeL : List T → List T → Prop
 | [], [] => True
 | t :: ts, u :: us => nilLe t u ∧ nilLeL ts us
 | _, _ => False
end
section
variable {S : Nat → Prop} {w : World} {ρ : Nat → Option Hd}
theorem nilLeL_length : ∀ {l m : List T}, nilLeL l m → m.length = l.length
 | [], [], _ => rfl
 | t :: ts, u :: us, h => by simp only [nilLeL] at h; simp [nilLeL_length h.2]
 | [], u :: us, h => by simp [nilLeL] at h
 | t :: ts, [], h => by simp [nilLeL] at h
mutual
theorem rep_nilLe : ∀ (t u : T) {y : Value} {F : List Nat}, nilLe t u → Rep S w ρ t y F → Rep S w ρ u y F := by
 intro t u y F hle h
 unfold nilLe at hle
 split at hle
 ·subst hle
  simp only [Rep] at h ⊢
  exact ⟨none, 0, by simpa using h.1, .inl ⟨rfl, trivial, h.2⟩⟩
 ·simp only [Rep] at h ⊢
  obtain ⟨cs, h1, h2, h3⟩ := h
  exact ⟨cs, h1, by rw [nilLeL_length hle]; exact h2, repRow_nilLe _ _ hle h3⟩
 ·simp only [Rep] at h ⊢
  obtain ⟨cs, h1, h2, h3⟩ := h
  exact ⟨cs, h1, by rw [nilLeL_length hle]; exact h2, repRow_nilLe _ _ hle h3⟩
 ·subst hle; exact h
theorem repRow_nilLe : ∀ (l m : List T) {cell : Nat → Option Value} {b : Nat} {F : List Nat}, nilLeL l m → RepRow S w ρ cell b l F → RepRow S w ρ cell b m F
 | [], [], _, _, _, _, h => h
 | t :: ts, u :: us, _, _, _, hle, h => by
  simp only [nilLeL, RepRow] at hle h ⊢
  obtain ⟨y, F1, F2, h1, h2, h3, rfl⟩ := h
  exact ⟨y, F1, F2, h1, rep_nilLe t u hle.1 h2, repRow_nilLe ts us hle.2 h3, rfl⟩
 | [], u :: us, _, _, _, hle, _ => by simp [nilLeL] at hle
 | t :: ts, [], _, _, _, hle, _ => by simp [nilLeL] at hle
end
end
mutual
def T.lt (B : Nat) : T → Prop
 | .ref id _ _ => id < B ∨ B + 1000 ≤ id
 | .ptr id _ _ => id < B ∨ B + 1000 ≤ id
 | .agg row => ltL B row
 | .tup l => ltL B l
 | .fn _ caps => ltL B caps
 | .any => True
 | .v _ => True
 | .sl _ _ _ => True
 | .bo _ _ _ => True
def ltL (B : Nat) : List T → Prop
 | [] => True
 | t :: ts => t.lt B ∧ ltL B ts
end
mutual
theorem T.lt_iff (B : Nat) : ∀ t : T, t.lt B ↔ ∀ i, B ≤ i → i < B + 1000 → t.noM i
 | .ref id _ _ => by
  simp only [T.lt, T.noM]
  exact ⟨fun h i hi hi2 => by omega, fun h => by
   by_cases h1 : id < B
   ·exact .inl h1
   ·by_cases h2 : id < B + 1000
    ·exact absurd rfl (h id (by omega) h2)
    ·exact .inr (by omega)⟩
 | .ptr id _ _ => by
  simp only [T.lt, T.noM]
  exact ⟨fun h i hi hi2 => by omega, fun h => by
   by_cases h1 : id < B
   ·exact .inl h1
   ·by_cases h2 : id < B + 1000
    ·exact absurd rfl (h id (by omega) h2)
    ·exact .inr (by omega)⟩
 | .agg row => by simp only [T.lt, T.noM]; exact ltL_iff B row
 | .tup row => by simp only [T.lt, T.noM]; exact ltL_iff B row
 | .fn _ row => by simp only [T.lt, T.noM]; exact ltL_iff B row
 | .any => by simp [T.lt, T.noM]
 | .v _ => by simp [T.lt, T.noM]
 | .sl _ _ _ => by simp [T.lt, T.noM]
 | .bo _ _ _ => by simp [T.lt, T.noM]
theorem ltL_iff (B : Nat) : ∀ l : List T, ltL B l ↔ ∀ i, B ≤ i → i < B + 1000 → noML i l
 | [] => by simp [ltL, noML]
 | t :: ts => by
  simp only [ltL, noML, T.lt_iff B t, ltL_iff B ts]
  exact ⟨fun h i hi hi2 => ⟨h.1 i hi hi2, h.2 i hi hi2⟩, fun h => ⟨fun i hi hi2 => (h i hi hi2).1, fun i hi hi2 => (h i hi hi2).2⟩⟩
end
def ltLL (B : Nat) (rows : List (List T)) : Prop := ∀ r ∈ rows, ltL B r
theorem ltLL_packed {B : Nat} {rows : List (List T)} (h : packedLL rows) : ltLL B rows := fun r hr => (ltL_iff B r).2 fun i _ _ => noML_of_packed i (h r hr)
def objsLt (B : Nat) : List (Nat × Ob) → Prop
 | [] => True
 | (_, ob) :: r => ltLL B ob.rows ∧ objsLt B r
theorem objsLt_noM {B : Nat} : ∀ {l : List (Nat × Ob)}, objsLt B l → ∀ i, B ≤ i → i < B + 1000 → objsNoM i l
 | [], _, _, _, _ => trivial
 | (m, ob) :: r, h, i, hi, hi2 => by
  simp only [objsLt, objsNoM] at h ⊢
  exact ⟨.inr fun x hx => (ltL_iff B x).1 (h.1 x hx) i hi hi2, objsLt_noM h.2 i hi hi2⟩
def unpOk2 (s : St) (d : Nat) : T → Prop
 | .tup l => l.all T.okT = true ∧ szTL l ≤ 1000 ∧ objsLt (1000 * (d + 1)) s.objs
 | .agg row => row.all T.okLeaf = true ∧ row.length ≤ 1000 ∧ objsLt (1000 * (d + 1)) s.objs
 | .sl true _ _ => objsNoM d s.objs
 | .bo true _ _ => objsNoM d s.objs
 | t => t.bare = true
theorem unpOk2_ok {s : St} {d : Nat} {t : T} (h : unpOk2 s d t) : unpOk s d t := by
 unfold unpOk2 at h
 split at h
 ·exact ⟨h.1, h.2.1, objsLt_noM h.2.2⟩
 ·exact ⟨h.1, h.2.1, objsLt_noM h.2.2⟩
 ·exact h
 ·exact h
 ·rename_i h1 h2 h3 h4
  unfold unpOk
  split
  ·exact absurd rfl (h1 _)
  ·exact absurd rfl (h2 _)
  ·exact absurd rfl (h3 _ _)
  ·exact absurd rfl (h4 _ _)
  ·exact h
def unpOkO2 (s : St) : Option Nat → T → Prop
 | some d, r => unpOk2 s d r
 | none, _ => True
theorem unpOkO2_ok {s : St} {d : Option Nat} {t : T} (h : unpOkO2 s d t) : unpOkO s d t := by
 cases d with
 | none => trivial
 | some d => exact unpOk2_ok h
def entOk2 (s : St) (j : Nat) : List T → Prop
 | [] => True
 | t :: ts => unpOk2 s j t ∧ entOk2 (s.unp j t) (j + 1) ts
theorem entOk2_ok : ∀ {l : List T} {s : St} {j : Nat}, entOk2 s j l → entOk s j l
 | [], _, _, _ => trivial
 | t :: ts, s, j, h => ⟨unpOk2_ok h.1, entOk2_ok h.2⟩
structure Names (E : Env) (us : List T) : Prop where
 d : ∀ d, E.okd d ↔ noML d us
def Env.okHi (E : Env) (B : Nat) : Prop := ∀ i, B ≤ i → i < B + 1000 → E.okd i
def okdO2 (E : Env) : Option Nat → Prop
 | some d => E.okd d ∧ E.okHi (1000 * (d + 1))
 | none => True
section
variable {P : Program} {E : Env} {s : St}
theorem okdO2_ok {d : Option Nat} (h : okdO2 E d) : E.okdO d := by
 cases d with
 | none => trivial
 | some d => exact h
theorem okd_iff {us : List T} (h : E.pins.map (·.1) = us) (d : Nat) : E.okd d ↔ noML d us := by
 refine ⟨fun hd => ?_, fun hd => okd_of h hd⟩
 have key : ∀ l : List (T × Value), (∀ p, p ∈ l → p.1.noM d) → noML d (l.map (·.1)) := by
  intro l
  induction l with
  | nil => intro _; trivial
  | cons p l ih => intro hl; exact ⟨hl p (List.mem_cons_self ..), ih fun q hq => hl q (List.mem_cons_of_mem _ hq)⟩
 rw [← h]
 exact key _ hd
theorem okHi_iff {us : List T} (h : E.pins.map (·.1) = us) (B : Nat) : E.okHi B ↔ ltL B us := by
 rw [ltL_iff]
 exact ⟨fun hd i hi hi2 => (okd_iff h i).1 (hd i hi hi2), fun hd i hi hi2 => (okd_iff h i).2 (hd i hi hi2)⟩
def nilR (R : T → List T → Prop) (r : T) (l : List T) : Prop := ∃ r', nilLe r r' ∧ R r' l
theorem ACall.nil {f : Nat} {args : List T} {R : T → List T → Prop} (h : ACall P f args (nilR R)) : ACall P f args R := by
 intro w S0 F vs h1 h2 h3 h4 h5 h6
 refine (h w S0 F vs h1 h2 h3 h4 h5 h6).mono ?_
 rintro e w' ⟨rv, r, l, S', Fr, Fa, q1, ⟨r', q2, q3⟩, q4, q5⟩
 exact ⟨rv, r', l, S', Fr, Fa, q1, q3, q4, { res := rep_nilLe _ _ q2 q5.res, args := q5.args, nodup := q5.nodup, mine := q5.mine, shared := q5.shared, S0 := q5.S0, kept := q5.kept }⟩
theorem ACall.nilArgs {f : Nat} {args us : List T} {R : T → List T → Prop} (h : ACall P f us R) (hle : nilLeL args us) : ACall P f args R := by
 intro w S0 F vs h1 h2 h3 h4 h5 h6
 have hl := nilLeL_length hle
 refine (h w S0 F vs (by rw [hl]; exact h1) (repRow_nilLe _ _ hle h2) h3 h4 h5 h6).mono ?_
 rintro e w' ⟨rv, r, l, S', Fr, Fa, q1, q2, q4, q5⟩
 exact ⟨rv, r, l, S', Fr, Fa, q1, q2, by rw [q4, hl], q5⟩
theorem fn_in {f : Nat} {st : AS} {rvs : List ResultVar} {nt : Nat} {args : List T} {R : T → List T → Prop} (hst : (P.funcs[f]?).bind (fun fn => fn.body.bind (comp P fn.ntmps)) = some st.strip) (hrs : (P.funcs[f]?).map (fun fn => (fn.results.toList, fn.ntmps)) = some (rvs, nt))
  (H : (args.length ≤ nt ∧ entOk2 ⟨[], []⟩ 0 args) ∧ ∀ E : Env, (∀ d, E.okd d ↔ noML d (pinsFrom (st0 args) 0 args)) → (∀ B, E.okHi B ↔ ltL B (pinsFrom (st0 args) 0 args)) → wsS P E st (retQ P rvs (pinsFrom (st0 args) 0 args) (nilR R)) (st0 args)) : ACall P f args R := by
 have e : pinsOf args = pinsFrom (st0 args) 0 args := by rw [pinsFrom_eq]; simp [pinsOf]
 refine ACall.nil ?_
 cases hf : P.funcs[f]? with
 | none => rw [hf] at hst; simp at hst
 | some fn =>
  rw [hf] at hst hrs
  simp only [Option.bind_some, Option.map_some, Option.some.injEq, Prod.mk.injEq] at hst hrs
  obtain ⟨rfl, rfl⟩ := hrs
  cases hb : fn.body with
  | none => rw [hb] at hst; simp at hst
  | some c =>
   rw [hb] at hst
   simp only [Option.bind_some] at hst
   refine acall_intro hf hb hst H.1.1 (entOk2_ok H.1.2) fun E h1 h2 => ?_
   rw [e] at h2
   have h3 := wsS_sound (H.2 E (okd_iff h2) (okHi_iff h2))
   rw [← e] at h3
   refine ok_mono (fun e s hq => ?_) h3
   cases e <;> first | exact ⟨.inl rfl, RetW.ok hq⟩ | exact ⟨.inr rfl, RetW.ok hq⟩ | exact hq.elim
def dropL : List Bool → List T → List T
 | true :: bs, _ :: ts => .any :: dropL bs ts
 | false :: bs, t :: ts => t :: dropL bs ts
 | _, ts => ts
theorem dropL_length : ∀ (bs : List Bool) (ts : List T), (dropL bs ts).length = ts.length
 | [], ts => by cases ts <;> rfl
 | b :: bs, [] => by cases b <;> rfl
 | true :: bs, t :: ts => by simp [dropL, dropL_length bs ts]
 | false :: bs, t :: ts => by simp [dropL, dropL_length bs ts]
theorem dropL_get : ∀ (bs : List Bool) (ts : List T) (i : Nat), i < ts.length → (dropL bs ts)[i]? = some .any ∨ (dropL bs ts)[i]? = ts[i]?
 | [], ts, i, _ => .inr (by cases ts <;> rfl)
 | b :: bs, [], i, h => by simp at h
 | true :: bs, t :: ts, 0, _ => .inl (by simp [dropL])
 | false :: bs, t :: ts, 0, _ => .inr (by simp [dropL])
 | true :: bs, t :: ts, i + 1, h => by simpa [dropL] using dropL_get bs ts i (by simpa using h)
 | false :: bs, t :: ts, i + 1, h => by simpa [dropL] using dropL_get bs ts i (by simpa using h)
theorem fn_inD (ds : List Bool) {f : Nat} {st : AS} {rvs : List ResultVar} {nt : Nat} {args : List T} {R : T → List T → Prop} (hst : (P.funcs[f]?).bind (fun fn => fn.body.bind (comp P fn.ntmps)) = some st.strip) (hrs : (P.funcs[f]?).map (fun fn => (fn.results.toList, fn.ntmps)) = some (rvs, nt))
  (H : (args.length ≤ nt ∧ entOk2 ⟨[], []⟩ 0 args) ∧ ∀ E : Env, (∀ d, E.okd d ↔ noML d (pinsFrom (st0 args) 0 args)) → (∀ B, E.okHi B ↔ ltL B (pinsFrom (st0 args) 0 args)) → wsS P E st (retQ P rvs (dropL ds (pinsFrom (st0 args) 0 args)) (nilR R)) (st0 args)) : ACall P f args R := by
 have e : pinsOf args = pinsFrom (st0 args) 0 args := by rw [pinsFrom_eq]; simp [pinsOf]
 refine ACall.nil ?_
 cases hf : P.funcs[f]? with
 | none => rw [hf] at hst; simp at hst
 | some fn =>
  rw [hf] at hst hrs
  simp only [Option.bind_some, Option.map_some, Option.some.injEq, Prod.mk.injEq] at hst hrs
  obtain ⟨rfl, rfl⟩ := hrs
  cases hb : fn.body with
  | none => rw [hb] at hst; simp at hst
  | some c =>
   rw [hb] at hst
   simp only [Option.bind_some] at hst
   have hl : (pinsFrom (st0 args) 0 args).length = args.length := by rw [← e]; simp [pinsOf]
   refine acall_intro_us (us := dropL ds (pinsFrom (st0 args) 0 args)) (by rw [dropL_length, hl]) (fun i hi => ?_) hf hb hst H.1.1 (entOk2_ok H.1.2) fun E h1 h2 => ?_
   ·refine (dropL_get ds _ i (by rw [hl]; exact hi)).imp id fun h => ?_
    rw [h, ← e]
    simp [pinsOf, hi]
   ·rw [e] at h2
    have h3 := wsS_sound (H.2 E (okd_iff h2) (okHi_iff h2))
    refine ok_mono (fun e s hq => ?_) h3
    cases e <;> first | exact ⟨.inl rfl, RetW.ok hq⟩ | exact ⟨.inr rfl, RetW.ok hq⟩ | exact hq.elim
def vwOk : List Nat → T → Prop
 | [], _ => True
 | _ :: _, r => r.noSh
theorem vwOk_ok {vw : List Nat} {r : T} (h : vwOk vw r) : vw = [] ∨ r.noSh := by
 cases vw with
 | nil => exact .inl rfl
 | cons a l => exact .inr h
def AftV (R : T → List T → Prop) (vw : List Nat) (d : Option Nat) (K : St → Prop) (s : St) : Prop := ∀ r l, R r l → (vwOk vw r ∧ unpOkO2 s d r) ∧ K (s.unpO d r)
theorem aftV_intro {R : T → List T → Prop} {vw : List Nat} {d : Option Nat} {K : St → Prop} {s : St} (h : ∀ r l, R r l → (vwOk vw r ∧ unpOkO2 s d r) ∧ K (s.unpO d r)) : AftV R vw d K s := h
theorem aftV_eq {X : T} {vw : List Nat} {d : Option Nat} {K : St → Prop} {s : St} : AftV (fun r _ => r = X) vw d K s ↔ (vwOk vw X ∧ unpOkO2 s d X) ∧ K (s.unpO d X) :=
 ⟨fun h => h X [] rfl, fun h r l e => by subst e; exact h⟩
theorem ok_cv {d : Option Nat} {g : Option (Nat × Bool)} {K : St → Prop} {f : Nat} {xs : List Operand} {ts us : List T} {vw : List Nat} {c : Prop} {R : T → List T → Prop} (hev : evals s xs = some ts) (hp : argL s (zipF ts) = some (us, [], vw, c)) (hC : ACall P f us R)
  (hK : (c ∧ okdO2 E d) ∧ AftV R vw d K s) : InstrOk P E ⟨d, g, .call f xs⟩ K s :=
 ok_callV hev hp hK.1.1 hC (okdO2_ok hK.1.2) fun r l hR => ⟨vwOk_ok (hK.2 r l hR).1.1, unpOkO2_ok (hK.2 r l hR).1.2, (hK.2 r l hR).2⟩
def ownOk : List Nat → List Bool → T → List T → Prop
 | [], _, _, _ => True
 | _ :: _, ms, r, l => r.noSh ∧ ownNoSh ms l
theorem ownOk_ok {vw : List Nat} {ms : List Bool} {r : T} {l : List T} (h : ownOk vw ms r l) : vw = [] ∨ (r.noSh ∧ ownNoSh ms l) := by
 cases vw with
 | nil => exact .inl rfl
 | cons a v => exact .inr h
def aftM (K : St → Prop) (d : Option Nat) (r : T) (q : St × Prop) : Prop := (q.2 ∧ unpOkO2 q.1 d r) ∧ K (q.1.unpO d r)
def AftM (R : T → List T → Prop) (vw : List Nat) (modes : List Bool) (d : Option Nat) (K : St → Prop) (F : List T → St × Prop) : Prop := ∀ r l, R r l → ownOk vw modes r l ∧ aftM K d r (F l)
theorem aftM_eq {X : T} {Y : List T} {vw : List Nat} {modes : List Bool} {d : Option Nat} {K : St → Prop} {F : List T → St × Prop} : AftM (fun r l => r = X ∧ l = Y) vw modes d K F ↔ ownOk vw modes X Y ∧ aftM K d X (F Y) :=
 ⟨fun h => h X Y ⟨rfl, rfl⟩, fun h r l e => by obtain ⟨rfl, rfl⟩ := e; exact h⟩
theorem ok_cm (modes : List Bool) {d : Option Nat} {g : Option (Nat × Bool)} {K : St → Prop} {f : Nat} {xs : List Operand} {ts us : List T} {ow vw : List Nat} {c : Prop} {R : T → List T → Prop} (hev : evals s xs = some ts) (hp : argL s (zipM modes ts) = some (us, ow, vw, c)) (hC : ACall P f us R)
  (hK : (c ∧ okdO2 E d ∧ Nat.beq modes.length ts.length = true ∧ nodupB ow = true ∧ disB ow vw = true) ∧ AftM R vw modes d K (bkL s (delL s ow) (zipM modes ts))) : InstrOk P E ⟨d, g, .call f xs⟩ K s :=
 ok_callM modes hev hp hK.1.2.2.1 hK.1.2.2.2.1 hK.1.2.2.2.2 hK.1.1 (okdO2_ok hK.1.2.1) hC fun r l hR => by
  obtain ⟨h1, h2⟩ := hK.2 r l hR
  exact ⟨ownOk_ok h1, h2.1.1, unpOkO2_ok h2.1.2, h2.2⟩
def T.cap : T → Bool
 | .bo false _ _ => true
 | .v _ => true
 | .sl false _ _ => true
 | _ => false
theorem argL_caps : ∀ caps : List T, caps.all T.cap = true → ∃ c, argL s (zipF caps) = some (caps, [], [], c) ∧ c
 | [], _ => ⟨True, rfl, trivial⟩
 | t :: ts, h => by
  simp only [List.all_cons, Bool.and_eq_true] at h
  obtain ⟨c, h1, h2⟩ := argL_caps ts h.2
  have ht : vwT s t = some (t, [], t.packed ∧ t.bare = true) ∧ t.packed ∧ t.bare = true := by
   have := h.1
   unfold T.cap at this
   split at this
   ·exact ⟨rfl, by simp [T.packed], rfl⟩
   ·exact ⟨rfl, by simp [T.packed], rfl⟩
   ·exact ⟨rfl, by simp [T.packed], rfl⟩
   ·cases this
  refine ⟨(t.packed ∧ t.bare = true) ∧ c, ?_, ht.2, h2⟩
  simp only [zipF, argL, Bool.false_eq_true, if_false, ht.1, h1, List.nil_append]
theorem argL_append {caps : List T} (hcap : caps.all T.cap = true) : ∀ {ts us : List T} {vw : List Nat} {c : Prop}, argL s (zipF ts) = some (us, [], vw, c) → c → ∃ c', argL s (zipF (ts ++ caps)) = some (us ++ caps, [], vw, c') ∧ c'
 | [], us, vw, c, h, hc => by
  simp only [zipF, argL, Option.some.injEq, Prod.mk.injEq] at h
  obtain ⟨rfl, _, rfl, _⟩ := h
  exact argL_caps caps hcap
 | t :: ts, us, vw, c, h, hc => by
  simp only [zipF, argL, Bool.false_eq_true, if_false, List.cons_append] at h ⊢
  split at h
  ·rename_i u i c1 us0 o v c2 h1 h2
   simp only [Option.some.injEq, Prod.mk.injEq] at h
   obtain ⟨rfl, rfl, rfl, rfl⟩ := h
   obtain ⟨c', h3, h4⟩ := argL_append hcap h2 hc.2
   exact ⟨c1 ∧ c', by simp only [h1, h3, List.cons_append], hc.1, h4⟩
  ·cases h
theorem zipF_zipM : ∀ ts : List T, zipF ts = zipM (ts.map fun _ => false) ts
 | [] => rfl
 | t :: ts => by simp [zipF, zipM, zipF_zipM ts]
theorem ok_cfv {d : Option Nat} {g : Option (Nat × Bool)} {K : St → Prop} {f : Nat} {x : Operand} {xs : List Operand} {caps ts us : List T} {vw : List Nat} {c : Prop} {R : T → List T → Prop} (hx : s.eval x = some (.fn f caps)) (hev : evals s xs = some ts) (hp : argL s (zipF ts) = some (us, [], vw, c)) (hf : entB P f = true) (hcap : caps.all T.cap = true) (hC : ACall P f (us ++ caps) R)
  (hK : (c ∧ okdO2 E d) ∧ AftV R vw d K s) : InstrOk P E ⟨d, g, .callv x xs⟩ K s := by
 obtain ⟨c', h1, h2⟩ := argL_append hcap hp hK.1.1
 rw [zipF_zipM] at h1
 refine ok_callv ((ts ++ caps).map fun _ => false) hx hev hf h1 (by rw [List.length_map]; exact Nat.beq_refl _) rfl rfl h2 (okdO2_ok hK.1.2) hC fun r l hR => ?_
 obtain ⟨h3, h4⟩ := hK.2 r l hR
 have hb := bkL_views' (s0 := s) (s := delL s []) (ts ++ caps) l
 rw [← zipF_eq, zipF_zipM] at hb
 refine ⟨(vwOk_ok h3.1).imp id (fun h => ⟨h, ownNoSh_views _ _⟩), hb.2, ?_, ?_⟩
 ·rw [hb.1]; exact unpOkO2_ok h3.2
 ·rw [hb.1]; exact h4
def CV (P : Program) (f : Nat) (us : List T) (vw : List Nat) (d : Option Nat) (K : St → Prop) (s : St) : Prop := ∃ R, ACall P f us R ∧ AftV R vw d K s
def cv2 (P : Program) (E : Env) (f : Nat) (d : Option Nat) (K : St → Prop) (s : St) : Option (List T × List Nat × List Nat × Prop) → Prop
 | some (us, [], vw, c) => (c ∧ okdO2 E d) ∧ CV P f us vw d K s
 | _ => False
def cv1 (P : Program) (E : Env) (f : Nat) (d : Option Nat) (K : St → Prop) (s : St) : Option (List T) → Prop
 | some ts => cv2 P E f d K s (argL s (zipF ts))
 | none => False
theorem cv1_spec {f : Nat} {d : Option Nat} {K : St → Prop} {xs : List Operand} (h : cv1 P E f d K s (evals s xs)) : ∃ ts us vw c R, evals s xs = some ts ∧ argL s (zipF ts) = some (us, [], vw, c) ∧ ACall P f us R ∧ (c ∧ okdO2 E d) ∧ AftV R vw d K s := by
 unfold cv1 at h
 split at h
 ·rename_i ts hts
  unfold cv2 at h
  split at h
  ·rename_i us vw c ha
   obtain ⟨h1, R, h2, h3⟩ := h
   exact ⟨ts, us, vw, c, R, hts, ha, h2, h1, h3⟩
  ·exact h.elim
 ·exact h.elim
theorem ok_view {d : Option Nat} {g : Option (Nat × Bool)} {K : St → Prop} {f : Nat} {xs : List Operand} (h : cv1 P E f d K s (evals s xs)) : InstrOk P E ⟨d, g, .call f xs⟩ K s := by
 obtain ⟨ts, us, vw, c, R, h1, h2, h3, h4, h5⟩ := cv1_spec h
 exact ok_cv h1 h2 h3 ⟨h4, h5⟩
theorem cvA {f : Nat} {us : List T} {vw : List Nat} {d : Option Nat} {K : St → Prop} {R : T → List T → Prop} (hC : ACall P f us R) (h : AftV R vw d K s) : CV P f us vw d K s := ⟨R, hC, h⟩
theorem cvAn {f : Nat} {us us' : List T} {vw : List Nat} {d : Option Nat} {K : St → Prop} {R : T → List T → Prop} (hC : ACall P f us' R) (h : nilLeL us us' ∧ AftV R vw d K s) : CV P f us vw d K s := ⟨R, hC.nilArgs h.1, h.2⟩
def CMd (P : Program) (f : Nat) (us : List T) (vw : List Nat) (modes : List Bool) (d : Option Nat) (K : St → Prop) (F : List T → St × Prop) : Prop := ∃ R, ACall P f us R ∧ AftM R vw modes d K F
def cm2 (P : Program) (E : Env) (f : Nat) (d : Option Nat) (modes : List Bool) (K : St → Prop) (s : St) (ts : List T) : Option (List T × List Nat × List Nat × Prop) → Prop
 | some (us, ow, vw, c) => (c ∧ okdO2 E d ∧ Nat.beq modes.length ts.length = true ∧ nodupB ow = true ∧ disB ow vw = true) ∧ CMd P f us vw modes d K (bkL s (delL s ow) (zipM modes ts))
 | none => False
def cm1 (P : Program) (E : Env) (f : Nat) (d : Option Nat) (modes : List Bool) (K : St → Prop) (s : St) : Option (List T) → Prop
 | some ts => cm2 P E f d modes K s ts (argL s (zipM modes ts))
 | none => False
theorem ok_lend (modes : List Bool) {d : Option Nat} {g : Option (Nat × Bool)} {K : St → Prop} {f : Nat} {xs : List Operand} (h : cm1 P E f d modes K s (evals s xs)) : InstrOk P E ⟨d, g, .call f xs⟩ K s := by
 unfold cm1 at h
 split at h
 ·rename_i ts hts
  unfold cm2 at h
  split at h
  ·rename_i us ow vw c ha
   obtain ⟨h1, R, h2, h3⟩ := h
   exact ok_cm modes hts ha h2 ⟨h1, h3⟩
  ·exact h.elim
 ·exact h.elim
theorem cmA {f : Nat} {us : List T} {vw : List Nat} {modes : List Bool} {d : Option Nat} {K : St → Prop} {F : List T → St × Prop} {R : T → List T → Prop} (hC : ACall P f us R) (h : AftM R vw modes d K F) : CMd P f us vw modes d K F := ⟨R, hC, h⟩
end
end Go.Am

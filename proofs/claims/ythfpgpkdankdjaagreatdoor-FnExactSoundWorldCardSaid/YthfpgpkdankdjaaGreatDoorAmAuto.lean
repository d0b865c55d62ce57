import Derived.Test.YthfpgpkdankdjaaGreatDoorAmTac
import Derived.Test.YthfpgpkdankdjaaGreatDoorAmCallv
import Derived.Test.YthfpgpkdankdjaaGreatDoorAmRop
import Derived.Test.YthfpgpkdankdjaaGreatDoorAmNest
import Derived.Test.YthfpgpkdankdjaaGreatDoorAmIns
set_option linter.all false
namespace Go.Am
open Go Go.RowKit
def mvC (s:St) (t:T) (ry:List (List T)):Bool→Prop
 |true=>True
 |false=>ry.all (fun r=>r.all T.mov)=true∧zNQ s t
def mvS (s:St) (t:T):Bool→St
 |true=>s
 |false=>mvP s t
def zMK:T→T→Bool
 | .ref id _ _, .ref id' _ _=>Nat.beq id id'
 |_,_=>false
def lkT (s:St):T→Option Ob
 | .ref id _ _=>lk id s.objs
 |_=>none
def zA0 (s:St) (d k:Nat):Option Ob→T→T→Option (Prop×St)
 |some ob, .ref id lo n, .ref _ lo2 n2=>some (ob.k=k∧lo+n<ob.rows.length∧lo+n+n2≤ob.rows.length∧lo2+n2≤ob.rows.length∧((ob.rows.drop lo2).take n2).all (fun r=>r.all T.storable)=true,
   (s.upd id ⟨k,zAl ob.rows (lo+n) ((ob.rows.drop lo2).take n2)⟩).set d (.ref id lo (n+n2)))
 |_,_,_=>none
def appG (E:Env) (s:St) (d k bytes:Nat) (ty:T):Option (Prop×List (List T)×St)→Option (Prop×List (List T))→Option (Prop×St)
 |some (c1,rb,s0),some (c2,ry)=>
  some (c1∧c2∧mvC s0 ty ry (ry.all (fun r=>r.all T.storable))∧((rb.length+ry.length)*bytes≤140737488355328∧rb.length+ry.length≤9223372036854775807)∧E.okd d∧zAk d (mvS s0 ty (ry.all (fun r=>r.all T.storable))).objs∧zAy d rb∧zAy d ry,((mvS s0 ty (ry.all (fun r=>r.all T.storable))).new d ⟨k,rb++ry⟩).set d (.ref d 0 (rb.length+ry.length)))
 |_,_=>none
def zUL (s:St) (k:Nat) (z:Value) (id lo n:Nat):Option Ob→Option (Prop×St)
 |some ob=>some (ob.k=k∧(zAz z).length=k∧(zAz z).all T.storable=true∧lo<ob.rows.length∧0<n∧lo+n≤ob.rows.length,s.upd id ⟨k,zAl ob.rows lo (List.replicate n (zAz z))⟩)
 |none=>none
def zUM (E:Env) (s:St) (d:Option Nat) (id lo n:Nat):Option Ob→Option (Prop×St)
 |some ob=>some (E.FullAt id ob.rows.length,s.put d (.v (.int .i64 ((ob.rows.length-lo:Nat):Int))))
 |none=>none
def zUN (s:St) (d:Option Nat) (k id lo n:Nat) (ty:T):Option Ob→Option (Prop×List (List T))→Option (Prop×St)
 |some ob,some (c2,ry)=>some (c2∧zLY ty∧ob.k=k∧lo<ob.rows.length∧lo+ry.length≤ob.rows.length∧ry.all (fun r=>r.all T.storable)=true∧ry.length=min n (zGY ty),(s.upd id ⟨k,zAl ob.rows lo ry⟩).put d (.v (.int .i64 ry.length)))
 |_,_=>none
def zUO (E:Env) (s:St) (d k bytes:Nat) (z:Value) (id lo n:Nat) (m:Int):Option Ob→Option (Prop×St)
 |some ob=>some (ob.k=k∧E.FullAt id ob.rows.length∧lo+n≤ob.rows.length∧0≤m∧ob.rows.length<lo+n+m.toNat∧((ob.rows.drop lo).take n).all (fun r=>r.all T.storable)=true∧(zAz z).length=k∧((n+m.toNat)*bytes≤140737488355328∧n+m.toNat≤9223372036854775807)∧E.okd d∧zAk d s.objs∧zAy d ((ob.rows.drop lo).take n),
   (s.new d ⟨k,(ob.rows.drop lo).take n++List.replicate m.toNat (zAz z)⟩).set d (.ref d 0 (n+m.toNat)))
 |none=>none
def zCr (E:Env) (s:St):Option Nat→I→Option (Prop×St)
 |some d, .alloc z=>some (E.okd d∧zAk d s.objs,(s.new d ⟨(zAz z).length,[zAz z]⟩).set d (.ptr d 0 0))
 |some d, .box x=>
  match s.eval x with
  |some t=>
   match t.cells with
   |some row=>some (t.plainV=true∧E.okd d∧zAk d s.objs∧zAD d row,(s.new d ⟨row.length,[row]⟩).set d (.ptr d 0 0))
   |none=>none
  |none=>none
 |none, .store n x v=>
  match s.eval x,s.eval v with
  |some (.ptr id j q),some t=>
   match lk id s.objs,t.cells with
   |some ob,some cs=>some (cs.length=n∧t.plainV=true∧cs.all T.storable=true∧j<ob.rows.length∧q+n≤ob.k,s.upd id ⟨ob.k,zDh ob.rows j q cs⟩)
   |_,_=>none
  |_,_=>none
 |some d, .bsl k z n parts=>
  match zDx s k parts with
  |some l=>
   match zEr (List.replicate (n*k) .any) l with
   |some flat=>some (l.all (fun q=>q.2.2.plainV)=true∧flat.length=n*k∧E.okd d∧zAk d s.objs∧zAy d (chunks k n flat),(s.new d ⟨k,chunks k n flat⟩).set d (.ref d 0 n))
   |none=>none
  |none=>none
 |some d, .mks k bytes z x y=>
  match s.eval x,s.eval y with
  |some (.v (.int _ l)),some (.v (.int _ c))=>some ((0≤l∧l≤c∧c≤9223372036854775807∧bytes*c≤281474976710656)∧(zAz z).length=k∧E.okd d∧zAk d s.objs,(s.new d ⟨k,List.replicate l.toNat (zAz z)⟩).set d (.ref d 0 l.toNat))
  |_,_=>none
 |some d, .app k bytes z x y=>
  match s.eval x,s.eval y with
  |some tx,some ty=>bif zMK tx ty then zA0 s d k (lkT s tx) tx ty else appG E s d k bytes ty (zIM s k tx) (zEt s k ty)
  |_,_=>none
 |some d, .apz k bytes z x y=>
  match s.eval x,s.eval y with
  |some (.ref id lo n),some (.v (.int _ m))=>zUO E s d k bytes z id lo n m (lk id s.objs)
  |_,_=>none
 |none, .clr k z x=>
  match s.eval x with
  |some (.ref id lo n)=>zUL s k z id lo n (lk id s.objs)
  |_=>none
 |d, .capo x=>
  match s.eval x with
  |some (.ref id lo n)=>zUM E s d id lo n (lk id s.objs)
  |_=>none
 |d, .cpy k x y=>
  match s.eval x,s.eval y with
  |some (.ref id lo n),some ty=>zUN s d k id lo n ty (lk id s.objs) (zEt s k (zLX n ty))
  |_,_=>none
 |some d, .load m x=>
  match s.eval x with
  |some (.ptr id i o)=>
   match lk id s.objs with
   |some ob=>ldE E s d m id i o (i<ob.rows.length) (zAS m ((ob.rows.getD i []).drop o))
   |none=>none
  |_=>none
 |_,_=>none
section
variable {P:Program} {E:Env} {s:St}
theorem zAaD {d:Option Nat} {g:Option (Nat×Bool)} {i:I} {K:St→Prop} {p:Prop} {s':St} (h:zCr E s d i=some (p,s')) (hp:p) (hK:K s'):zAn P E ⟨d,g,i⟩ K s:=by
 unfold zCr at h
 split at h
 ·simp only [Option.some.injEq,Prod.mk.injEq] at h;obtain ⟨rfl,rfl⟩:=h
  exact zWq hp.1 hp.2 hK
 ·split at h
  ·rename_i hx
   split at h
   ·rename_i hc
    simp only [Option.some.injEq,Prod.mk.injEq] at h;obtain ⟨rfl,rfl⟩:=h
    exact zAau hx hc hp.1 hp.2.1 hp.2.2.1 hp.2.2.2 hK
   ·cases h
  ·cases h
 ·split at h
  ·rename_i hx hv
   split at h
   ·rename_i ho hc
    simp only [Option.some.injEq,Prod.mk.injEq] at h;obtain ⟨rfl,rfl⟩:=h
    exact zWr hx ho hv hc hp.1 hp.2.1 hp.2.2.1 hp.2.2.2.1 hp.2.2.2.2 hK
   ·cases h
  ·cases h
 ·split at h
  ·rename_i hl
   split at h
   ·rename_i hf
    simp only [Option.some.injEq,Prod.mk.injEq] at h;obtain ⟨rfl,rfl⟩:=h
    exact zAav hl hp.1 hf hp.2.1 hp.2.2.1 hp.2.2.2.1 hp.2.2.2.2 hK
   ·cases h
  ·cases h
 ·split at h
  ·rename_i hx hy
   simp only [Option.some.injEq,Prod.mk.injEq] at h;obtain ⟨rfl,rfl⟩:=h
   exact zAbD rfl rfl hx hy hp.1.1 hp.1.2.1 hp.1.2.2.1 hp.1.2.2.2 hp.2.1 hp.2.2.1 hp.2.2.2 hK
  ·cases h
 ·split at h
  ·rename_i hx hy
   rename_i tx ty
   cases hsm:zMK tx ty with
   |true=>
    rw [hsm,cond_true] at h
    unfold zA0 at h
    split at h
    ·rename_i ob id lo n id2 lo2 n2 ho
     simp only [Option.some.injEq,Prod.mk.injEq] at h;obtain ⟨rfl,rfl⟩:=h
     simp only [zMK] at hsm
     have:=Nat.eq_of_beq_eq_true hsm
     subst this
     obtain ⟨p1,p2,p3,p4,p5⟩:=hp
     exact zAaz hx hy ho p1 p2 p3 p4 p5 hK
    ·cases h
   |false=>
    rw [hsm,cond_false] at h
    unfold appG at h
    split at h
    ·rename_i c1 rb s0 c2 ry hb hsr
     simp only [Option.some.injEq,Prod.mk.injEq] at h;obtain ⟨rfl,rfl⟩:=h
     obtain ⟨p1,p2,p3,⟨p4,p5⟩,p6,p7,p8,p9⟩:=hp
     cases hst:(ry.all fun r=>r.all T.storable) with
     |true=>
      rw [hst] at p7 hK
      exact zAbE rfl rfl hx hy hb p1 hsr p2 hst p4 p5 p6 p7 p8 p9 hK
     |false=>
      rw [hst] at p3 p7 hK
      exact zAaC rfl rfl hx hy hb p1 hsr p2 p3.1 p3.2 p4 p5 p6 p7 p8 p9 hK
    ·cases h
  ·cases h
 ·split at h
  ·rename_i hx hy
   unfold zUO at h
   split at h
   ·rename_i ho
    simp only [Option.some.injEq,Prod.mk.injEq] at h;obtain ⟨rfl,rfl⟩:=h
    obtain ⟨p1,p2,p3,p4,p5,p6,p7,⟨p8,p9⟩,p10,p11,p12⟩:=hp
    exact zAbN hx hy ho p1 p2 p3 p4 p5 p6 p7 p8 p9 p10 p11 p12 hK
   ·cases h
  ·cases h
 ·split at h
  ·rename_i hx
   unfold zUL at h
   split at h
   ·rename_i ho
    simp only [Option.some.injEq,Prod.mk.injEq] at h;obtain ⟨rfl,rfl⟩:=h
    obtain ⟨p1,p2,p3,p4,p5,p6⟩:=hp
    exact zAbL hx ho p1 p2 p3 p4 p5 p6 hK
   ·cases h
  ·cases h
 ·split at h
  ·rename_i hx
   unfold zUM at h
   split at h
   ·rename_i ho
    simp only [Option.some.injEq,Prod.mk.injEq] at h;obtain ⟨rfl,rfl⟩:=h
    exact zAaB hx hp fun _=>hK
   ·cases h
  ·cases h
 ·split at h
  ·rename_i hx hy
   unfold zUN at h
   split at h
   ·rename_i ho hsr
    simp only [Option.some.injEq,Prod.mk.injEq] at h;obtain ⟨rfl,rfl⟩:=h
    obtain ⟨p1,p2,p3,p4,p5,p6,p7⟩:=hp
    exact zAbM hx hy ho hsr p1 p2 p3 p4 p5 p6 p7 hK
   ·cases h
  ·cases h
 ·split at h
  ·rename_i hx
   split at h
   ·rename_i ho
    exact zAbJ hx ho h hp hK
   ·cases h
  ·cases h
 ·cases h
end
def zHX (d d' id:Nat):Nat:=bif Nat.beq id d then d' else id
mutual
def T.ren (d d':Nat):T→T
 | .ref id lo n=> .ref (zHX d d' id) lo n
 | .ptr id i o=> .ptr (zHX d d' id) i o
 | .agg row=> .agg (zC9 d d' row)
 | .tup l=> .tup (zC9 d d' l)
 | .fn f caps=> .fn f (zC9 d d' caps)
 | .any=> .any
 | .v x=> .v x
 | .sl o k rows=> .sl o k rows
 | .bo o row q=> .bo o row q
def zC9 (d d':Nat):List T→List T
 |[]=>[]
 |t::ts=>t.ren d d'::zC9 d d' ts
end
theorem zEl (d d':Nat):∀ l:List T,(zC9 d d' l).length=l.length
 |[]=>rfl
 |t::ts=>by simp [zC9,zEl d d' ts]
section
variable {S:Nat→Prop} {w:World} {ρ:Nat→Option Hd}
def zL2 (ρ:Nat→Option Hd) (d d':Nat):Nat→Option Hd:=fun i=>if i=d' then ρ d else ρ i
theorem zKb {d d' id:Nat} (h:id≠d'):zL2 ρ d d' (zHX d d' id)=ρ id:=by
 unfold zHX zL2
 cases hb:Nat.beq id d with
 |true=>rw [cond_true,if_pos rfl,Nat.eq_of_beq_eq_true hb]
 |false=>rw [cond_false,if_neg h]
mutual
theorem zTf (d d':Nat):∀ (t:T) {y:Value} {F:List Nat},t.noM d'→Rep S w ρ t y F→Rep S w (zL2 ρ d d') (t.ren d d') y F
 | .any,_,_,_,h=>h
 | .v _,_,_,_,h=>h
 | .agg row,_,_,hn,h=>by
  simp only [Rep,T.ren,T.noM] at h hn ⊢
  obtain ⟨cs,h1,h2,h3⟩:=h
  exact ⟨cs,h1,by rw [zEl];exact h2,zEP d d' row hn h3⟩
 | .tup l,_,_,hn,h=>by
  simp only [Rep,T.ren,T.noM] at h hn ⊢
  obtain ⟨cs,h1,h2,h3⟩:=h
  exact ⟨cs,h1,by rw [zEl];exact h2,zEP d d' l hn h3⟩
 | .sl _ _ _,_,_,_,h=>by simp only [T.ren];exact h
 | .bo _ _ _,_,_,_,h=>by simp only [T.ren];exact h
 | .ref id lo n,_,_,hn,h=>by
  simp only [Rep,T.ren,T.noM] at h hn ⊢
  rw [zKb hn];exact h
 | .ptr id i o,_,_,hn,h=>by
  simp only [Rep,T.ren,T.noM] at h hn ⊢
  rw [zKb hn];exact h
 | .fn _ caps,_,_,hn,h=>by
  simp only [Rep,T.ren,T.noM] at h hn ⊢
  obtain ⟨cs,h1,h2,h3⟩:=h
  exact ⟨cs,h1,by rw [zEl];exact h2,zEP d d' caps hn h3⟩
theorem zEP (d d':Nat):∀ {cell:Nat→Option Value} {o:Nat} (l:List T) {F:List Nat},zAD d' l→RepRow S w ρ cell o l F→RepRow S w (zL2 ρ d d') cell o (zC9 d d' l) F
 |_,_,[],_,_,h=>by simp only [zC9];exact h
 |_,_,t::ts,_,hn,h=>by
  simp only [RepRow,zC9,zAD] at h hn ⊢
  obtain ⟨y,F1,F2,h1,h2,h3,rfl⟩:=h
  exact ⟨y,F1,F2,h1,zTf d d' t hn.1 h2,zEP d d' ts hn.2 h3,rfl⟩
end
def zBf (d d':Nat) (rows:List (List T)):List (List T):=rows.map (zC9 d d')
theorem zLr (d d':Nat):∀ {cell:Nat→Option Value} {o k:Nat} (l:List (List T)) {F:List Nat},zAy d' l→zAb S w ρ cell o k l F→zAb S w (zL2 ρ d d') cell o k (zBf d d' l) F
 |_,_,_,[],_,_,h=>by simp only [zAb,zBf,List.map_nil] at h ⊢;exact h
 |_,_,_,r::rs,_,hn,h=>by
  simp only [zAb,zBf,List.map_cons] at h ⊢
  obtain ⟨F1,F2,h0,h1,h2,rfl⟩:=h
  exact ⟨F1,F2,by rw [zEl];exact h0,zEP d d' r (hn r (List.mem_cons_self ..)) h1,zLr d d' rs (fun x hx=>hn x (List.mem_cons_of_mem _ hx)) h2,rfl⟩
end
mutual
theorem zUP (d d':Nat):∀ {t:T},t.packed→t.ren d d'=t
 | .any,_=>by simp only [T.ren]
 | .v _,_=>by simp only [T.ren]
 | .sl _ _ _,_=>by simp only [T.ren]
 | .bo _ _ _,_=>by simp only [T.ren]
 | .agg row,h=>by simp only [T.ren,T.packed] at h ⊢;rw [zDy d d' h]
 | .tup row,h=>by simp only [T.ren,T.packed] at h ⊢;rw [zDy d d' h]
 | .fn _ row,h=>by simp only [T.ren,T.packed] at h ⊢;rw [zDy d d' h]
 | .ref _ _ _,h=>by simp only [T.packed] at h
 | .ptr _ _ _,h=>by simp only [T.packed] at h
theorem zDy (d d':Nat):∀ {l:List T},zAA l→zC9 d d' l=l
 |[],_=>rfl
 |t::ts,h=>by simp only [zC9,zAA] at h ⊢;rw [zUP d d' h.1,zDy d d' h.2]
end
theorem zRa (d d':Nat) {l:List (List T)} (h:zAv l):zBf d d' l=l:=by
 unfold zBf
 conv=>rhs;rw [←List.map_id l]
 exact List.map_congr_left fun r hr=>zDy d d' (h r hr)
def zKZ (d d':Nat):List (Nat×T)→List (Nat×T)
 |[]=>[]
 |(n,t)::r=>(n,t.ren d d')::zKZ d d' r
def zK0 (d d':Nat):List (Nat×Ob)→List (Nat×Ob)
 |[]=>[]
 |(m,ob)::r=>(zHX d d' m,⟨ob.k,zBf d d' ob.rows⟩)::zK0 d d' r
def zIX (d:Nat):List (Nat×Ob)→Prop
 |[]=>True
 |(m,ob)::r=>m≠d∧zAy d ob.rows∧zIX d r
def St.ren (s:St) (d d':Nat):St:=⟨zKZ d d' (kill d' s.slots),zK0 d d' (Am.del d' s.objs)⟩
theorem zRb (d d' n:Nat) (t:T):∀ l:List (Nat×T),lk n (zKZ d d' l)=some t→∃ u,lk n l=some u∧t=u.ren d d'
 |[],h=>by simp [zKZ,lk] at h
 |(m,u)::r,h=>by
  simp only [zKZ,lk] at h ⊢
  split at h
  ·rename_i e;simp only [Option.some.injEq] at h;exact ⟨u,by rw [if_pos e],h.symm⟩
  ·rename_i e;rw [if_neg e];exact zRb d d' n t r h
theorem zFr {d d':Nat}:∀ {l:List (Nat×Ob)},zIX d' l→∀ {n:Nat} {ob:Ob},lk n (zK0 d d' l)=some ob→∃ m ob0,lk m l=some ob0∧n=zHX d d' m∧m≠d'∧zAy d' ob0.rows∧ob=⟨ob0.k,zBf d d' ob0.rows⟩
 |[],_,n,ob,h=>by simp [zK0,lk] at h
 |(m,ob0)::r,hf,n,ob,h=>by
  simp only [zK0,lk,zIX] at h hf ⊢
  split at h
  ·rename_i e
   simp only [Option.some.injEq] at h
   exact ⟨m,ob0,by rw [if_pos rfl],e.symm,hf.1,hf.2.1,h.symm⟩
  ·rename_i e
   obtain ⟨m',ob1,h1,h2,h3,h4,h5⟩:=zFr hf.2.2 h
   refine ⟨m',ob1, ?_,h2,h3,h4,h5⟩
   rw [if_neg (fun e2=>e (by rw [e2,h2]))]
   exact h1
theorem zG1 {d:Nat}:∀ {l:List (Nat×Ob)},zAk d l→zIX d (del d l)
 |[],_=>trivial
 |(m,ob)::r,h=>by
  simp only [zAk,del] at h ⊢
  split
  ·exact zG1 h.2
  ·rename_i e;exact ⟨e,h.1.resolve_left e,zG1 h.2⟩
section
variable {P:Program} {E:Env} {s:St}
theorem zAaE {d d':Nat} (hp:E.okd d') (hno:zAk d' s.objs):Ent E s (s.ren d d'):=by
 have hfree:=zG1 hno
 rintro a w ⟨S,ρ,foot,h⟩
 refine ⟨S,zL2 ρ d d',fun i=>if i=d' then foot d else foot i, ?_⟩
 have hlk:∀ m ob,lk m (del d' s.objs)=some ob→lk m s.objs=some ob:=fun m ob hm=>((zB1 d' m ob s.objs).1 hm).2
 have hfoot:∀ m,m≠d'→(if zHX d d' m=d' then foot d else foot (zHX d d' m))=foot m:=by
  intro m hm
  unfold zHX
  cases hb:Nat.beq m d with
  |true=>rw [cond_true,if_pos rfl,Nat.eq_of_beq_eq_true hb]
  |false=>rw [cond_false,if_neg hm]
 exact {
  nt:=h.nt,defers:=h.defers
  slots:=fun n t hn=>by
   obtain ⟨u,h1,rfl⟩:=zRb d d' n t _ hn
   rcases zNL d' n u _ h1 with rfl|⟨h2,h3⟩
   ·simp [Rep,T.ren]
   ·exact zTf d d' u h3 (h.slots n u h2)
  objs:=fun n ob hl=>by
   obtain ⟨m,ob0,h1,rfl,h3,h4,rfl⟩:=zFr hfree hl
   obtain ⟨hd,e1,e2,e3⟩:=h.objs m ob0 (hlk m ob0 h1)
   refine ⟨hd,by rw [zKb h3];exact e1,e2, ?_⟩
   simp only [hfoot m h3]
   rcases e3 with ⟨e3,e4,e5⟩|⟨b,off,arr,el,fr,Fs,f1,f2,f3,f4,f5,f6,f7⟩
   ·exact .inl ⟨e3,by simp [zBf,e4],e5⟩
   ·exact .inr ⟨b,off,arr,el,fr,Fs,f1,f2,by simpa [zBf] using f3,f4,f5,zLr d d' _ h4 f6,f7⟩
  nodup:=fun n ob hl=>by
   obtain ⟨m,ob0,h1,rfl,h3,h4,rfl⟩:=zFr hfree hl
   simp only [hfoot m h3]
   exact h.nodup m ob0 (hlk m ob0 h1)
  apart:=fun n ob n' ob' hl hl' hne=>by
   obtain ⟨m,ob0,h1,rfl,h3,h4,rfl⟩:=zFr hfree hl
   obtain ⟨m',ob0',h1',rfl,h3',h4',rfl⟩:=zFr hfree hl'
   simp only [hfoot m h3,hfoot m' h3']
   exact h.apart m ob0 m' ob0' (hlk m ob0 h1) (hlk m' ob0' h1') (fun e=>hne (by rw [e]))
  mine:=fun n ob hl=>by
   obtain ⟨m,ob0,h1,rfl,h3,h4,rfl⟩:=zFr hfree hl
   simp only [hfoot m h3]
   exact h.mine m ob0 (hlk m ob0 h1)
  shared:=h.shared,S0:=h.S0,kept:=h.kept
  pins:=fun p hpp=>zKS d' (fun i hi=>by simp [zL2,hi]) p.1 (hp p hpp) (h.pins p hpp) }
def St.nilS (s:St) (n d k:Nat):St:=(s.new d ⟨k,[]⟩).set n (.ref d 0 0)
theorem zYy {n d k:Nat} (hn:lk n s.slots=some (.v (.slice none 0 0))) (hp:E.okd d) (hno:zAk d s.objs):Ent E s (s.nilS n d k):=by
 rintro a w ⟨S,ρ,foot,h⟩
 have hr:=h.slots n _ hn
 simp only [Rep] at hr
 have hy:=hr.1
 have h2:=h.new (d:=d) (ob:=⟨k,[]⟩) (hd:=⟨none,0,k⟩) (F:=[]) hp hno (by intro r hr;cases hr) ⟨rfl, .inl ⟨rfl,rfl,rfl⟩⟩ List.nodup_nil (by simp) (by simp)
 refine ⟨S,fun i=>if i=d then some ⟨none,0,k⟩ else ρ i,fun i=>if i=d then [] else foot i, ?_⟩
 exact {
  nt:=h2.nt,defers:=h2.defers
  slots:=fun m t hm=>by
   simp only [St.nilS,St.set,lk] at hm
   split at hm
   ·rename_i e
    subst e
    simp only [Option.some.injEq] at hm
    subst hm
    simp only [Rep]
    exact ⟨trivial,⟨none,0,k⟩,none,0,by simp,by simpa using hy,rfl,Nat.le_refl _, .inl rfl⟩
   ·exact h2.slots m t hm
  objs:=h2.objs,nodup:=h2.nodup,apart:=h2.apart,mine:=h2.mine,shared:=h2.shared,S0:=h2.S0,kept:=h2.kept,pins:=h2.pins }
def zRc (na id:Nat):Bool:=Nat.blt id na||(Nat.ble 1000 id&&Nat.blt id (1000*(na+1)))||Nat.ble 1000000 id
def zL3 (E:Env) (na c id:Nat) (r:Prop×St):Prop×St:=
 bif zRc na id then r else ((r.1∧E.okd c)∧zAk c r.2.objs,r.2.ren id c)
def zEm (E:Env) (na c:Nat):List T→Prop×St→Prop×St
 |[],r=>r
 | .ref id _ _::ts,r=>zEm E na (c+1) ts (zL3 E na c id r)
 |_::ts,r=>zEm E na (c+1) ts r
def zRd (E:Env) (n k:Nat) (r:Prop×St):Prop×St:=
 bif Nat.beq k 0 then r else bif Nat.ble 1000 k then (r.1,r.2.set n (.sl false (k-1000) []))
 else ((r.1∧E.okd (1000000*(n+1)))∧zAk (1000000*(n+1)) r.2.objs,r.2.nilS n (1000000*(n+1)) k)
def zRe (E:Env) (na n k:Nat) (r:Prop×St):Option T→Prop×St
 |some (.ref id _ _)=>zL3 E na (1000000*(n+1)) id r
 |some (.ptr id _ _)=>zL3 E na (1000000*(n+1)) id r
 |some (.v (.slice none 0 0))=>zRd E n k r
 |some (.agg row)=>zEm E na (1000000*(n+1)+1) row r
 |_=>r
def zML (E:Env) (na n:Nat) (r:Prop×St):Option Ob→Prop×St
 |some ⟨_,[row]⟩=>zEm E na (1000000*(n+1)+1) row r
 |_=>r
def zRf (E:Env) (na n:Nat) (r:Prop×St):Option T→Prop×St
 |some (.ptr id _ _)=>zML E na n r (lk id r.2.objs)
 |_=>r
def zL4 (E:Env) (na:Nat):List (Nat×Nat)→Prop×St→Prop×St
 |[],r=>r
 |(n,k)::ns,r=>zL4 E na ns ((fun q:Prop×St=>zRf E na n q (lk n q.2.slots)) (zRe E na n k r (lk n r.2.slots)))
def zIm (l:List (Nat×T)):List (Nat×Nat)→List (Nat×T)
 |[]=>[]
 |(n,_)::r=>(n,match lk n l with|some t=>t|none=> .any)::zIm l r
def zIY:List T→List Nat
 |[]=>[]
 | .ref id _ _::ts=>id::zIY ts
 | .ptr id _ _::ts=>id::zIY ts
 |_::ts=>zIY ts
def idsB:Option Ob→List Nat
 |some ⟨_,[row]⟩=>zIY row
 |_=>[]
def idsT (l:List (Nat×Ob)):T→List Nat
 | .ref id _ _=>[id]
 | .ptr id _ _=>id::idsB (lk id l)
 | .agg row=>zIY row
 | .fn _ caps=>zIY caps
 |_=>[]
def zYz (l:List (Nat×Ob)):List (Nat×T)→List Nat
 |[]=>[]
 |(_,t)::r=>idsT l t++zYz l r
def zUQ:List Nat→List Nat
 |[]=>[]
 |x::r=>x::(zUQ r).filter (fun y=> !(Nat.beq x y))
def St.fin (s:St) (L:List (Nat×Nat)):St:=(fun sl=>⟨sl,zIS s.objs (zUQ (zYz s.objs sl))⟩) (zIm s.slots L)
def canon (E:Env) (na:Nat) (L:List (Nat×Nat)) (s:St):Prop×St:=(fun r:Prop×St=>(r.1,r.2.fin L)) (zL4 E na L (True,s.fin L))
def St.fin0 (s:St) (L:List Nat):St:=⟨zKX s.slots L,s.objs⟩
theorem zIZ {na c id:Nat} {r:Prop×St} (h:r.1→Ent E s r.2) (hc:(zL3 E na c id r).1):r.1∧Ent E s (zL3 E na c id r).2:=by
 unfold zL3 at hc ⊢
 cases hk:zRc na id with
 |true=>rw [hk] at hc;exact ⟨hc,h hc⟩
 |false=>rw [hk] at hc;exact ⟨hc.1.1,(h hc.1.1).trans (zAaE hc.1.2 hc.2)⟩
theorem zGw {na:Nat}:∀ {row:List T} {c:Nat} {r:Prop×St},(r.1→Ent E s r.2)→(zEm E na c row r).1→r.1∧Ent E s (zEm E na c row r).2
 |[],c,r,h,hc=>by simp only [zEm] at hc ⊢;exact ⟨hc,h hc⟩
 |t::ts,c,r,h,hc=>by
  cases t with
  |ref id lo n=>
   simp only [zEm] at hc ⊢
   have:=zGw (fun hq=>(zIZ h hq).2) hc
   exact ⟨(zIZ h this.1).1,this.2⟩
  |_=>simp only [zEm] at hc ⊢;exact zGw h hc
theorem zWu {n k:Nat} (hn:lk n s.slots=some (.v (.slice none 0 0))):Ent E s (s.set n (.sl false k [])):=by
 rintro a w ⟨S,ρ,foot,h⟩
 have hr:=h.slots n _ hn
 simp only [Rep] at hr
 refine ⟨S,ρ,foot,{ nt:=h.nt,defers:=h.defers,objs:=h.objs,nodup:=h.nodup,apart:=h.apart,mine:=h.mine,shared:=h.shared,S0:=h.S0,kept:=h.kept,pins:=h.pins,slots:=fun m t hm=> ?_ }⟩
 simp only [St.set,lk] at hm
 split at hm
 ·rename_i e
  subst e
  simp only [Option.some.injEq] at hm
  subst hm
  simp only [Rep]
  exact ⟨none,0,by simpa using hr.1, .inl ⟨rfl,trivial,trivial⟩⟩
 ·exact h.slots m t hm
theorem zYA {n k:Nat} {r:Prop×St} (h:r.1→Ent E s r.2) (hn:lk n r.2.slots=some (.v (.slice none 0 0))) (hc:(zRd E n k r).1):r.1∧Ent E s (zRd E n k r).2:=by
 unfold zRd at hc ⊢
 cases h1:Nat.beq k 0 with
 |true=>simp only [h1,cond_true] at hc ⊢;exact ⟨hc,h hc⟩
 |false=>
  cases h2:Nat.ble 1000 k with
  |true=>simp only [h1,h2,cond_true,cond_false] at hc ⊢;exact ⟨hc,(h hc).trans (zWu hn)⟩
  |false=>simp only [h1,h2,cond_false] at hc ⊢;exact ⟨hc.1.1,(h hc.1.1).trans (zYy hn hc.1.2 hc.2)⟩
theorem zL5 {na n k:Nat} {r:Prop×St} (h:r.1→Ent E s r.2) (hc:(zRe E na n k r (lk n r.2.slots)).1):r.1∧Ent E s (zRe E na n k r (lk n r.2.slots)).2:=by
 generalize ho:lk n r.2.slots=o at hc ⊢
 unfold zRe at hc ⊢
 split
 ·exact zIZ h hc
 ·exact zIZ h hc
 ·exact zYA h ho hc
 ·exact zGw h hc
 ·rename_i h1 h2 h3 h4
  split at hc
  ·exact absurd rfl (h1 _ _ _)
  ·exact absurd rfl (h2 _ _ _)
  ·exact absurd rfl h3
  ·exact absurd rfl (h4 _)
  ·exact ⟨hc,h hc⟩
theorem zRg {na n:Nat} {r:Prop×St} {o:Option T} (h:r.1→Ent E s r.2) (hc:(zRf E na n r o).1):r.1∧Ent E s (zRf E na n r o).2:=by
 have key:∀ o,(zML E na n r o).1→r.1∧Ent E s (zML E na n r o).2:=by
  intro o hc
  unfold zML at hc ⊢
  split
  ·exact zGw h hc
  ·rename_i h1
   split at hc
   ·exact absurd rfl (h1 _ _)
   ·exact ⟨hc,h hc⟩
 unfold zRf at hc ⊢
 split
 ·exact key _ hc
 ·rename_i h1
  split at hc
  ·exact absurd rfl (h1 _ _ _)
  ·exact ⟨hc,h hc⟩
theorem zRh {na:Nat}:∀ {L:List (Nat×Nat)} {r:Prop×St},(r.1→Ent E s r.2)→(zL4 E na L r).1→r.1∧Ent E s (zL4 E na L r).2
 |[],r,h,hc=>by simp only [zL4] at hc ⊢;exact ⟨hc,h hc⟩
 |(n,k)::ns,r,h,hc=>by
  simp only [zL4] at hc ⊢
  have:=zRh (fun hq=>(zRg (fun hp=>(zL5 h hp).2) hq).2) hc
  have h2:=zRg (fun hp=>(zL5 h hp).2) this.1
  exact ⟨(zL5 h h2.1).1,this.2⟩
theorem zPk {l:List (Nat×T)}:∀ {ns:List (Nat×Nat)} {n:Nat} {t:T},lk n (zIm l ns)=some t→t= .any∨lk n l=some t
 |[],n,t,h=>by simp [zIm,lk] at h
 |(m,k)::r,n,t,h=>by
  simp only [zIm,lk] at h
  split at h
  ·rename_i e
   subst e
   simp only [Option.some.injEq] at h
   split at h
   ·rename_i t' ht;subst h;exact .inr ht
   ·exact .inl h.symm
  ·exact zPk h
theorem zN5 (L:List (Nat×Nat)):Ent E s (s.fin L):=zNT (fun _ _ h=>zPk h) (fun _ _ h=>zLQ h)
theorem zYB (L:List Nat):Ent E s (s.fin0 L):=zNT (fun _ _ h=>zQ1 h) (fun _ _ h=>h)
theorem zKc {na:Nat} {L:List (Nat×Nat)} (h:(canon E na L s).1):Ent E s (canon E na L s).2:=
 ((zRh (r:=(True,s.fin L)) (fun _=>zN5 L) h).2).trans (zN5 L)
end
inductive AS where
 |skip
 |ops (l:List IN)
 |dops (l:List IN)
 |rops (l:List (Option (List IN)×IN))
 |tops (L:List (Nat×Nat)) (t:RT)
 |seq (a b:AS)
 |cond (x:Operand) (a b:AS)
 |loop (na:Nat) (L:List (Nat×Nat)) (b:AS)
 |block (id:Nat) (b:AS)
 |exit (id:Nat)
 |ret
 |kept (L:List Nat) (b:AS)
 |post (ms:List (Nat×Nat×List (Nat×Nat))) (a:AS)
 |pre (l:List IN) (x new:Nat) (a:AS)
 |lay (ms:List (Nat×Nat×List (Nat×Nat))) (a:AS)
def AS.strip:AS→Stmt
 | .skip=> .skip
 | .ops l=> .ops l
 | .dops l=> .dops l
 | .rops l=> .rops l
 | .tops _ t=> .tops t
 | .seq a b=> .seq a.strip b.strip
 | .cond x a b=> .cond x a.strip b.strip
 | .loop _ _ b=> .loop b.strip
 | .block id b=> .block id b.strip
 | .exit id=> .exit id
 | .ret=> .ret
 | .kept _ b=>b.strip
 | .post _ a=>a.strip
 | .pre _ _ _ a=>a.strip
 | .lay _ a=>a.strip
def zKd (K:St→Prop) (r:Prop×St):Prop:=r.1∧K r.2
def zMM (ms:List (Nat×Nat×List (Nat×Nat))) (Q:Exit→St→Prop):Exit→St→Prop
 | .normal,s=>zKd (Q .normal) (zEu ms (True,s))
 |e,s=>Q e s
def zYC (E:Env) (s:St) (id i o new:Nat):Option Ob→Prop×St
 |some ob=>zD9 E id i o new (((ob.rows.getD i []).drop o).take 1) (i<ob.rows.length,s)
 |none=>(True,s)
def preO (E:Env) (s:St) (new:Nat):Option T→Prop×St
 |some (.ptr id i o)=>zYC E s id i o new (lk id s.objs)
 |_=>(True,s)
def preP (d:Option Nat) (s:St):Option (Prop×T)→St
 |some (_,t)=>s.put d t
 |none=>s
def zUR (s:St):List IN→St
 |[]=>s
 |i::l=>zUR (preP i.dst s (zAe s i.i)) l
def zN6 (E:Env) (s:St) (l:List IN) (x new:Nat):Prop×St:=preO E s new (lk x (zUR s l).slots)
theorem zYD {E:Env} {s:St} {l:List IN} {x new:Nat} (h:(zN6 E s l x new).1):Ent E s (zN6 E s l x new).2:=by
 unfold zN6 at h ⊢
 generalize lk x (zUR s l).slots=t at h ⊢
 unfold preO at h ⊢
 split
 ·rename_i id i o
  simp only at h
  cases ho:lk id s.objs with
  |none=>exact Ent.refl s
  |some ob=>
   rw [ho] at h
   simp only [zYC] at h ⊢
   refine (zKY (s:=s) (len:=(ob.rows.getD i []).length) (r:=(i<ob.rows.length,s)) (fun hq=>⟨Ent.refl s,⟨ob,ho,hq,rfl,fun n u hn=> ?_⟩,fun _ _ h _=>h⟩) h).2.1
   rw [List.getElem?_take] at hn
   split at hn
   ·rwa [List.getElem?_drop] at hn
   ·cases hn
 ·exact Ent.refl s
def zRi (P:Program) (E:Env) (d:Option Nat) (g:Option (Nat×Bool)) (i:I) (K:St→Prop) (s:St):Option (Prop×St)→Prop
 |some (p,s')=>p∧K s'
 |none=>zAn P E ⟨d,g,i⟩ K s
def zEQ (P:Program) (E:Env) (d:Option Nat) (g:Option (Nat×Bool)) (i:I) (K:St→Prop) (s:St):Option (Prop×T)→Prop
 |some (p,t)=>p∧K (s.put d t)
 |none=>zRi P E d g i K s (zCr E s d i)
def ws1 (P:Program) (E:Env) (d:Option Nat) (g:Option (Nat×Bool)) (i:I) (K:St→Prop) (s:St):Prop:=zEQ P E d g i K s (zAe s i)
def wsO (P:Program) (E:Env):List IN→(St→Prop)→St→Prop
 |[],K,s=>K s
 |⟨d,none,i⟩::r,K,s=>zEQ P E d none i (wsO P E r K) s (zAe s i)
 |⟨d,some (t,b),i⟩::r,K,s=>grd (lk t s.slots) b (ws1 P E d (some (t,b)) i (wsO P E r K)) (skO (wsO P E r) d K) s
def zMN (P:Program) (E:Env) (na:Nat) (L:List (Nat×Nat)) (b:AS) (Q:Exit→St→Prop) (s:St):Prop:=zDs P E b.strip Q s
def zYE (P:Program) (E:Env) (na:Nat) (L:List (Nat×Nat)) (b:AS) (Q:Exit→St→Prop) (r:Prop×St):Prop:=r.1∧zMN P E na L b Q r.2
def zL6 (d:Option Nat) (K:St→Prop) (s:St):Option (Prop×T)→Prop
 |some (p,t)=>p∧K (s.put d t)
 |none=>False
def zKe (P:Program) (E:Env) (b:Option (List IN)) (d:Option Nat) (g:Option (Nat×Bool)) (i:I) (K:St→Prop) (s:St):Prop:=
 match b with
 |none=>zL6 d K s (zAe s i)
 |some l=>zEQ P E d g i (rrK l K) s (zAe s i)
def zYF (P:Program) (E:Env) (b:Option (List IN)) (d:Option Nat) (g:Option (Nat×Bool)) (i:I) (K:St→Prop) (s:St):Prop:=zKe P E b d g i K s
def skR (b:Option (List IN)) (f:(St→Prop)→St→Prop) (d:Option Nat) (K:St→Prop) (s:St):Prop:=zQp b (f K) (s.put d (.tup []))
def wsR (P:Program) (E:Env):List (Option (List IN)×IN)→(St→Prop)→St→Prop
 |[],K,s=>K s
 |(b,⟨d,none,i⟩)::r,K,s=>zKe P E b d none i (wsR P E r K) s
 |(b,⟨d,some (t,g),i⟩)::r,K,s=>grd (lk t s.slots) g (zYF P E b d (some (t,g)) i (wsR P E r K)) (skR b (wsR P E r) d K) s
def Both (A B:Prop):Prop:=A∧B
theorem both {A B:Prop} (h1:A) (h2:B):Both A B:=⟨h1,h2⟩
def Jn (A:(St→Prop)→Prop) (B:St→Prop):Prop:=∃ I,A I∧∀ S,I S→B S
theorem jn {A:(St→Prop)→Prop} {B:St→Prop} (S:St) (h1:A (fun x=>x=S)) (h2:B S):Jn A B:=⟨_,h1,fun _ e=>e▸h2⟩
def zHy (L:List (Nat×Nat)) (I:St→Prop) (s:St):Prop:=I (s.fin L)
theorem zBH {L:List (Nat×Nat)} {S s:St} (h:s.fin L=S):zHy L (fun x=>x=S) s:=h
def zN7 (P:Program) (E:Env) (l:List IN) (d:Option Nat) (g:Option (Nat×Bool)) (i:I) (K:St→Prop) (s:St):Prop:=zEQ P E d g i (rrK l K) s (zAe s i)
def skT (l:List IN) (f:(St→Prop)→St→Prop) (d:Option Nat) (K:St→Prop) (s:St):Prop:=rrK l (f K) (s.put d (.tup []))
def zUS (d:Option Nat) (i:I) (K:St→Prop) (s:St):Prop:=zL6 d K s (zAe s i)
def wsT (P:Program) (E:Env):RT→(St→Prop)→St→Prop
 | .done,K,s=>K s
 | .none,_,_=>True
 | .rd ⟨d,none,i⟩ r,K,s=>zUS d i (wsT P E r K) s
 | .rd ⟨d,some (t,g),i⟩ r,K,s=>grd (lk t s.slots) g (zUS d i (wsT P E r K)) (skO (wsT P E r) d K) s
 | .alt l ⟨d,none,i⟩ r o,K,s=>Both (zN7 P E l d none i (wsT P E r K) s) (wsT P E o K s)
 | .alt l ⟨d,some (t,g),i⟩ r o,K,s=>Both (grd (lk t s.slots) g (zN7 P E l d (some (t,g)) i (wsT P E r K)) (skT l (wsT P E r) d K) s) (wsT P E o K s)
def wsS (P:Program) (E:Env):AS→(Exit→St→Prop)→St→Prop
 | .skip,Q,s=>Q .normal s
 | .ops l,Q,s=>wsO P E l (Q .normal) s
 | .dops l,Q,s=>wpQ P l (Q .normal) s
 | .rops l,Q,s=>wsR P E l (Q .normal) s
 | .tops L t,Q,s=>Jn (fun I=>wsT P E t (zHy L I) s) (Q .normal)
 | .seq a b,Q,s=>wsS P E a (zLR (wsS P E b) Q) s
 | .cond x a b,Q,s=>grc (s.eval x) (wsS P E a Q) (wsS P E b Q) s
 | .loop na L b,Q,s=>zYE P E na L b Q (canon E na L s)
 | .block id b,Q,s=>wsS P E b (zEM id Q) s
 | .exit id,Q,s=>Q (.exit id) s
 | .ret,Q,s=>Q .ret s
 | .kept L b,Q,s=>wsS P E b Q (s.fin0 L)
 | .post ms a,Q,s=>wsS P E a (zMM ms Q) s
 | .pre l x new a,Q,s=>zKd (wsS P E a Q) (zN6 E s l x new)
 | .lay ms a,Q,s=>zKd (wsS P E a Q) (zEu ms (True,s))
section
variable {P:Program} {E:Env} {s:St}
theorem zIn {d:Option Nat} {g:Option (Nat×Bool)} {i:I} {K K':St→Prop} (hK:∀ s,K s→K' s) (h:zEQ P E d g i K s (zAe s i)):zAn P E ⟨d,g,i⟩ K' s:=by
 unfold zEQ at h
 split at h
 ·rename_i p t hp
  exact zS7 (i:=⟨d,g,i⟩) hp h.1 (hK _ h.2)
 ·unfold zRi at h
  split at h
  ·rename_i p s' he
   exact zAaD he h.1 (hK _ h.2)
  ·exact zQE hK h
theorem zF7:∀ {l:List IN} {K:St→Prop} {s:St},wsO P E l K s→zEL P E l K s
 |[],K,s,h=>h
 |⟨d,none,i⟩::r,K,s,h=>by
  simp only [wsO] at h
  simp only [zEL]
  exact zIn (fun _ h=>zF7 h) h
 |⟨d,some (t,b),i⟩::r,K,s,h=>by
  simp only [wsO] at h
  simp only [zEL]
  unfold grd at h
  split at h
  ·rename_i c hl
   refine .inl ⟨c,hl,fun e=>zIn (fun _ h=>zF7 h) (h.1 e),fun e=>zF7 (h.2 ?_)⟩
   cases c<;>cases b<;>simp at e ⊢
  ·rename_i hl
   exact .inr ⟨hl,zF7 h⟩
  ·exact h.elim
theorem zK1 {b:Option (List IN)} {d:Option Nat} {g:Option (Nat×Bool)} {i:I} {K K':St→Prop} (hK:∀ s,K s→K' s) (h:zKe P E b d g i K s):zME P E b ⟨d,g,i⟩ K' s:=by
 cases b with
 |none=>
  simp only [zKe] at h
  unfold zL6 at h
  split at h
  ·rename_i p t hp
   exact ⟨p,t,hp,h.1,hK _ h.2⟩
  ·exact h.elim
 |some l=>exact zIn (fun s h=>⟨h.1,hK _ h.2⟩) h
theorem zWv {b:Option (List IN)} {d:Option Nat} {f:(St→Prop)→St→Prop} {K:St→Prop} {K':St→Prop} (hK:∀ s,f K s→K' s) (h:skR b f d K s):zQp b K' (s.put d (.tup [])):=by
 cases b with
 |none=>exact hK _ h
 |some l=>exact ⟨h.1,hK _ h.2⟩
theorem zF8:∀ {l:List (Option (List IN)×IN)} {K:St→Prop} {s:St},wsR P E l K s→OkR P E l K s
 |[],K,s,h=>h
 |(b,⟨d,none,i⟩)::r,K,s,h=>by
  simp only [wsR] at h
  simp only [OkR]
  exact zK1 (fun _ h=>zF8 h) h
 |(b,⟨d,some (t,g),i⟩)::r,K,s,h=>by
  simp only [wsR] at h
  simp only [OkR]
  unfold grd at h
  split at h
  ·rename_i c hl
   refine .inl ⟨c,hl,fun e=>zK1 (fun _ h=>zF8 h) (h.1 e),fun e=>zWv (fun _ h=>zF8 h) (h.2 ?_)⟩
   cases c<;>cases g<;>simp at e ⊢
  ·rename_i hl
   exact .inr ⟨hl,zWv (fun _ h=>zF8 h) h⟩
  ·exact h.elim
theorem zB8:∀ {t:RT} {K:St→Prop} {s:St},wsT P E t K s→OkT P E t K s
 | .done,K,s,h=>h
 | .none,K,s,h=>trivial
 | .rd ⟨d,none,i⟩ r,K,s,h=>by
  simp only [wsT] at h
  simp only [OkT]
  exact zK1 (b:=none) (fun _ h=>zB8 h) h
 | .rd ⟨d,some (t,g),i⟩ r,K,s,h=>by
  simp only [wsT] at h
  simp only [OkT]
  unfold grd at h
  split at h
  ·rename_i c hl
   refine .inl ⟨c,hl,fun e=>zK1 (b:=none) (fun _ h=>zB8 h) (h.1 e),fun e=>zB8 (h.2 ?_)⟩
   cases c<;>cases g<;>simp at e ⊢
  ·rename_i hl
   exact .inr ⟨hl,zB8 h⟩
  ·exact h.elim
 | .alt l ⟨d,none,i⟩ r o,K,s,h=>by
  simp only [wsT] at h
  simp only [OkT]
  exact ⟨zIn (fun s h=>⟨h.1,zB8 h.2⟩) h.1,zB8 h.2⟩
 | .alt l ⟨d,some (t,g),i⟩ r o,K,s,h=>by
  simp only [wsT] at h
  simp only [OkT]
  refine ⟨?_,zB8 h.2⟩
  have h:=h.1
  unfold grd at h
  split at h
  ·rename_i c hl
   refine .inl ⟨c,hl,fun e=>zIn (fun s h=>⟨h.1,zB8 h.2⟩) (h.1 e),fun e=> ?_⟩
   have:=h.2 (by cases c<;>cases g<;>simp at e ⊢)
   exact ⟨this.1,zB8 this.2⟩
  ·rename_i hl
   exact .inr ⟨hl,h.1,zB8 h.2⟩
  ·exact h.elim
theorem zTg {st:Am.Stmt} {Q Q':Exit→St→Prop} (hQ:∀ e s,Q' e s→∃ s',Ent E s s'∧Q e s') (h:Ok P E st Q' s):Ok P E st Q s:=
 fun c hc a w hs=>wp_mono (h c hc a w hs) fun e a' w' ⟨s',hq,hs'⟩=>let ⟨s2,he,hq2⟩:=hQ e s' hq;⟨s2,hq2,he a' w' hs'⟩
theorem zBD:∀ {st:AS} {Q:Exit→St→Prop} {s:St},wsS P E st Q s→Ok P E st.strip Q s
 | .skip,Q,s,h=>zAaj h
 | .ops l,Q,s,h=>zAbp (zF7 h)
 | .dops l,Q,s,h=>zAat (zF5 h)
 | .rops l,Q,s,h=>zAaw (zF8 h)
 | .tops L t,Q,s,⟨I,h1,h2⟩=>by
  refine zTg (Q':=fun e s'=>e= .normal∧zHy L I s') (fun e s' hq=> ?_) (zAax (Q:=fun e s'=>e= .normal∧zHy L I s') (zB8 (K:=fun s'=>Exit.normal= .normal∧zHy L I s') ?_))
  ·obtain ⟨rfl,hq⟩:=hq
   exact ⟨s'.fin L,zN5 L,h2 _ hq⟩
  ·have e:(fun s'=>Exit.normal= .normal∧zHy L I s')=zHy L I:=by funext s';simp
   rw [e];exact h1
 | .seq a b,Q,s,h=>by
  refine zAbo (zGG (fun e s' hq=> ?_) (zBD h))
  cases e<;>first|exact zBD hq|exact hq
 | .cond x a b,Q,s,h=>by
  simp only [wsS] at h
  unfold grc at h
  split at h
  ·rename_i t hx
   exact zAal hx (fun e=>zBD (h.1 e)) (fun e=>zBD (h.2 (by rw [e];rfl)))
  ·exact h.elim
 | .loop na L b,Q,s,h=>zAam (zIG (zKc h.1) h.2)
 | .block id b,Q,s,h=>zX8 (zBD h)
 | .exit id,Q,s,h=>zAak h
 | .ret,Q,s,h=>zAbn h
 | .kept L b,Q,s,h=>zQF (zYB L) (zBD (st:=b) h)
 | .post ms a,Q,s,h=>zTg (fun e s' hq=>by
   cases e with
   |normal=>exact ⟨_,(zFp (r:=(True,s')) (fun _=>Ent.refl s') hq.1).2,hq.2⟩
   |_=>exact ⟨s',Ent.refl s',hq⟩) (zBD (st:=a) h)
 | .pre l x new a,Q,s,h=>zQF (zYD h.1) (zBD (st:=a) h.2)
 | .lay ms a,Q,s,h=>zQF (zFp (r:=(True,s)) (fun _=>Ent.refl s) h.1).2 (zBD (st:=a) h.2)
def zUT {σ:Type} (n:Nat) (F:Nat→σ→St) (I:Nat→σ→Prop) (j:Nat) (r:Prop×St):Prop:=r.1∧j<n∧∃ x,r.2=F (j+1) x∧I (j+1) x
def zMO {σ:Type} (E:Env) (na:Nat) (L:List (Nat×Nat)) (n:Nat) (F:Nat→σ→St) (I:Nat→σ→Prop) (j:Nat) (Q:Exit→St→Prop):Exit→St→Prop
 | .normal,s=>zUT n F I j (canon E na L s)
 |e,s=>Q e s
theorem zAi {σ:Type} {b:AS} {Q:Exit→St→Prop} {na:Nat} {L:List (Nat×Nat)} (n:Nat) (F:Nat→σ→St) (I:Nat→σ→Prop) (x0:σ) (h0:I 0 x0)
  (h:∀ (j:Nat) (x:σ),j≤n→I j x→wsS P E b (zMO E na L n F I j Q) (F j x)):zMN P E na L b Q (F 0 x0):=by
 have key:∀ (k j:Nat) (x:σ),n-j=k→j≤n→I j x→zDs P E b.strip Q (F j x):=by
  intro k
  induction k using Nat.strongRecOn with
  |_ k ih=>
   intro j x hk hj hI
   refine zLi (zGG (fun e s' hq=> ?_) (zBD (h j x hj hI)))
   cases e with
   |normal=>
    obtain ⟨h1,h2,x',h3,h4⟩:=hq
    refine zIG (zKc (na:=na) (L:=L) h1) ?_
    rw [h3]
    exact ih (n-(j+1)) (by omega) (j+1) x' rfl (by omega) h4
   |_=>exact hq
 exact key n 0 x0 (by omega) (by omega) h0
theorem zAU {σ:Type} {b:AS} {Q:Exit→St→Prop} {na:Nat} {L:List (Nat×Nat)} {s:St} (n:Nat) (F:Nat→σ→St) (I:Nat→σ→Prop) (x0:σ) (hs:s=F 0 x0) (h0:I 0 x0)
  (h:∀ (j:Nat) (x:σ),j≤n→I j x→wsS P E b (zMO E na L n F I j Q) (F j x)):zMN P E na L b Q s:=by
 subst hs
 exact zAi n F I x0 h0 h
def zUU {σ:Type} (F:σ→St) (I:σ→Prop) (m:σ→Nat) (x:σ) (r:Prop×St):Prop:=r.1∧∃ y,r.2=F y∧I y∧m y<m x
def zMP {σ:Type} (E:Env) (na:Nat) (L:List (Nat×Nat)) (F:σ→St) (I:σ→Prop) (m:σ→Nat) (x:σ) (Q:Exit→St→Prop):Exit→St→Prop
 | .normal,s=>zUU F I m x (canon E na L s)
 |e,s=>Q e s
theorem zHz {σ:Type} {b:AS} {Q:Exit→St→Prop} {na:Nat} {L:List (Nat×Nat)} (F:σ→St) (I:σ→Prop) (m:σ→Nat) (x0:σ) (h0:I x0)
  (h:∀ (x:σ),I x→wsS P E b (zMP E na L F I m x Q) (F x)):zMN P E na L b Q (F x0):=by
 have key:∀ (k:Nat) (x:σ),m x=k→I x→zDs P E b.strip Q (F x):=by
  intro k
  induction k using Nat.strongRecOn with
  |_ k ih=>
   intro x hk hI
   refine zLi (zGG (fun e s' hq=> ?_) (zBD (h x hI)))
   cases e with
   |normal=>
    obtain ⟨h1,x',h3,h4,h5⟩:=hq
    refine zIG (zKc (na:=na) (L:=L) h1) ?_
    rw [h3]
    exact ih (m x') (by omega) x' rfl h4
   |_=>exact hq
 exact key (m x0) x0 rfl h0
end
mutual
def zAX:T→T→Prop
 | .v (.slice none 0 0), .sl o k rows=>rows=[]
 | .agg r, .agg r'=>zBi r r'
 | .tup r, .tup r'=>zBi r r'
 |t,t'=>t=t'
def zBi:List T→List T→Prop
 |[],[]=>True
 |t::ts,u::us=>zAX t u∧zBi ts us
 |_,_=>False
end
section
variable {S:Nat→Prop} {w:World} {ρ:Nat→Option Hd}
theorem zDu:∀ {l m:List T},zBi l m→m.length=l.length
 |[],[],_=>rfl
 |t::ts,u::us,h=>by simp only [zBi] at h;simp [zDu h.2]
 |[],u::us,h=>by simp [zBi] at h
 |t::ts,[],h=>by simp [zBi] at h
mutual
theorem zPl:∀ (t u:T) {y:Value} {F:List Nat},zAX t u→Rep S w ρ t y F→Rep S w ρ u y F:=by
 intro t u y F hle h
 unfold zAX at hle
 split at hle
 ·subst hle
  simp only [Rep] at h ⊢
  exact ⟨none,0,by simpa using h.1, .inl ⟨rfl,trivial,h.2⟩⟩
 ·simp only [Rep] at h ⊢
  obtain ⟨cs,h1,h2,h3⟩:=h
  exact ⟨cs,h1,by rw [zDu hle];exact h2,zDM _ _ hle h3⟩
 ·simp only [Rep] at h ⊢
  obtain ⟨cs,h1,h2,h3⟩:=h
  exact ⟨cs,h1,by rw [zDu hle];exact h2,zDM _ _ hle h3⟩
 ·subst hle;exact h
theorem zDM:∀ (l m:List T) {cell:Nat→Option Value} {b:Nat} {F:List Nat},zBi l m→RepRow S w ρ cell b l F→RepRow S w ρ cell b m F
 |[],[],_,_,_,_,h=>h
 |t::ts,u::us,_,_,_,hle,h=>by
  simp only [zBi,RepRow] at hle h ⊢
  obtain ⟨y,F1,F2,h1,h2,h3,rfl⟩:=h
  exact ⟨y,F1,F2,h1,zPl t u hle.1 h2,zDM ts us hle.2 h3,rfl⟩
 |[],u::us,_,_,_,hle,_=>by simp [zBi] at hle
 |t::ts,[],_,_,_,hle,_=>by simp [zBi] at hle
end
end
mutual
def T.lt (B:Nat):T→Prop
 | .ref id _ _=>id<B∨B+1000≤id
 | .ptr id _ _=>id<B∨B+1000≤id
 | .agg row=>ltL B row
 | .tup l=>ltL B l
 | .fn _ caps=>ltL B caps
 | .any=>True
 | .v _=>True
 | .sl _ _ _=>True
 | .bo _ _ _=>True
def ltL (B:Nat):List T→Prop
 |[]=>True
 |t::ts=>t.lt B∧ltL B ts
end
mutual
theorem T.lt_iff (B:Nat):∀ t:T,t.lt B↔∀ i,B≤i→i<B+1000→t.noM i
 | .ref id _ _=>by
  simp only [T.lt,T.noM]
  exact ⟨fun h i hi hi2=>by omega,fun h=>by
   by_cases h1:id<B
   ·exact .inl h1
   ·by_cases h2:id<B+1000
    ·exact absurd rfl (h id (by omega) h2)
    ·exact .inr (by omega)⟩
 | .ptr id _ _=>by
  simp only [T.lt,T.noM]
  exact ⟨fun h i hi hi2=>by omega,fun h=>by
   by_cases h1:id<B
   ·exact .inl h1
   ·by_cases h2:id<B+1000
    ·exact absurd rfl (h id (by omega) h2)
    ·exact .inr (by omega)⟩
 | .agg row=>by simp only [T.lt,T.noM];exact zEA B row
 | .tup row=>by simp only [T.lt,T.noM];exact zEA B row
 | .fn _ row=>by simp only [T.lt,T.noM];exact zEA B row
 | .any=>by simp [T.lt,T.noM]
 | .v _=>by simp [T.lt,T.noM]
 | .sl _ _ _=>by simp [T.lt,T.noM]
 | .bo _ _ _=>by simp [T.lt,T.noM]
theorem zEA (B:Nat):∀ l:List T,ltL B l↔∀ i,B≤i→i<B+1000→zAD i l
 |[]=>by simp [ltL,zAD]
 |t::ts=>by
  simp only [ltL,zAD,T.lt_iff B t,zEA B ts]
  exact ⟨fun h i hi hi2=>⟨h.1 i hi hi2,h.2 i hi hi2⟩,fun h=>⟨fun i hi hi2=>(h i hi hi2).1,fun i hi hi2=>(h i hi hi2).2⟩⟩
end
def zDj (B:Nat) (rows:List (List T)):Prop:=∀ r∈rows,ltL B r
theorem zSu {B:Nat} {rows:List (List T)} (h:zAv rows):zDj B rows:=fun r hr=>(zEA B r).2 fun i _ _=>zB2 i (h r hr)
def zIo (B:Nat):List (Nat×Ob)→Prop
 |[]=>True
 |(_,ob)::r=>zDj B ob.rows∧zIo B r
theorem zI0 {B:Nat}:∀ {l:List (Nat×Ob)},zIo B l→∀ i,B≤i→i<B+1000→zAk i l
 |[],_,_,_,_=>trivial
 |(m,ob)::r,h,i,hi,hi2=>by
  simp only [zIo,zAk] at h ⊢
  exact ⟨.inr fun x hx=>(zEA B x).1 (h.1 x hx) i hi hi2,zI0 h.2 i hi hi2⟩
def zKf (s:St) (d:Nat):T→Prop
 | .tup l=>l.all T.okT=true∧zNR l≤1000∧zIo (1000*(d+1)) s.objs
 | .agg row=>row.all T.okLeaf=true∧row.length≤1000∧zIo (1000*(d+1)) s.objs
 | .sl true _ _=>zAk d s.objs
 | .bo true _ _=>zAk d s.objs
 |t=>t.bare=true
theorem zPm {s:St} {d:Nat} {t:T} (h:zKf s d t):zIN s d t:=by
 unfold zKf at h
 split at h
 ·exact ⟨h.1,h.2.1,zI0 h.2.2⟩
 ·exact ⟨h.1,h.2.1,zI0 h.2.2⟩
 ·exact h
 ·exact h
 ·rename_i h1 h2 h3 h4
  unfold zIN
  split
  ·exact absurd rfl (h1 _)
  ·exact absurd rfl (h2 _)
  ·exact absurd rfl (h3 _ _)
  ·exact absurd rfl (h4 _ _)
  ·exact h
def zGH (s:St):Option Nat→T→Prop
 |some d,r=>zKf s d r
 |none,_=>True
theorem zI1 {s:St} {d:Option Nat} {t:T} (h:zGH s d t):zF4 s d t:=by
 cases d with
 |none=>trivial
 |some d=>exact zPm h
def zF9 (s:St) (j:Nat):List T→Prop
 |[]=>True
 |t::ts=>zKf s j t∧zF9 (s.unp j t) (j+1) ts
theorem zHA:∀ {l:List T} {s:St} {j:Nat},zF9 s j l→zCf s j l
 |[],_,_,_=>trivial
 |t::ts,s,j,h=>⟨zPm h.1,zHA h.2⟩
structure Names (E:Env) (us:List T):Prop where
 d:∀ d,E.okd d↔zAD d us
def Env.okHi (E:Env) (B:Nat):Prop:=∀ i,B≤i→i<B+1000→E.okd i
def zHB (E:Env):Option Nat→Prop
 |some d=>E.okd d∧E.okHi (1000*(d+1))
 |none=>True
section
variable {P:Program} {E:Env} {s:St}
theorem zL7 {d:Option Nat} (h:zHB E d):E.okdO d:=by
 cases d with
 |none=>trivial
 |some d=>exact h
theorem zIp {us:List T} (h:E.pins.map (·.1)=us) (d:Nat):E.okd d↔zAD d us:=by
 refine ⟨fun hd=> ?_,fun hd=>zAbI h hd⟩
 have key:∀ l:List (T×Value),(∀ p,p∈l→p.1.noM d)→zAD d (l.map (·.1)):=by
  intro l
  induction l with
  |nil=>intro _;trivial
  |cons p l ih=>intro hl;exact ⟨hl p (List.mem_cons_self ..),ih fun q hq=>hl q (List.mem_cons_of_mem _ hq)⟩
 rw [←h]
 exact key _ hd
theorem zL8 {us:List T} (h:E.pins.map (·.1)=us) (B:Nat):E.okHi B↔ltL B us:=by
 rw [zEA]
 exact ⟨fun hd i hi hi2=>(zIp h i).1 (hd i hi hi2),fun hd i hi hi2=>(zIp h i).2 (hd i hi hi2)⟩
def zFs (R:T→List T→Prop) (r:T) (l:List T):Prop:=∃ r',zAX r r'∧R r' l
theorem ACall.nil {f:Nat} {args:List T} {R:T→List T→Prop} (h:ACall P f args (zFs R)):ACall P f args R:=by
 intro w S0 F vs h1 h2 h3 h4 h5 h6
 refine (h w S0 F vs h1 h2 h3 h4 h5 h6).mono ?_
 rintro e w' ⟨rv,r,l,S',Fr,Fa,q1,⟨r',q2,q3⟩,q4,q5⟩
 exact ⟨rv,r',l,S',Fr,Fa,q1,q3,q4,{ res:=zPl _ _ q2 q5.res,args:=q5.args,nodup:=q5.nodup,mine:=q5.mine,shared:=q5.shared,S0:=q5.S0,kept:=q5.kept }⟩
theorem ACall.nilArgs {f:Nat} {args us:List T} {R:T→List T→Prop} (h:ACall P f us R) (hle:zBi args us):ACall P f args R:=by
 intro w S0 F vs h1 h2 h3 h4 h5 h6
 have hl:=zDu hle
 refine (h w S0 F vs (by rw [hl];exact h1) (zDM _ _ hle h2) h3 h4 h5 h6).mono ?_
 rintro e w' ⟨rv,r,l,S',Fr,Fa,q1,q2,q4,q5⟩
 exact ⟨rv,r,l,S',Fr,Fa,q1,q2,by rw [q4,hl],q5⟩
theorem zI2 {f:Nat} {st:AS} {rvs:List ResultVar} {nt:Nat} {args:List T} {R:T→List T→Prop} (hst:(P.funcs[f]?).bind (fun fn=>fn.body.bind (comp P fn.ntmps))=some st.strip) (hrs:(P.funcs[f]?).map (fun fn=>(fn.results.toList,fn.ntmps))=some (rvs,nt))
  (H:(args.length≤nt∧zF9 ⟨[],[]⟩ 0 args)∧∀ E:Env,(∀ d,E.okd d↔zAD d (zAL (st0 args) 0 args))→(∀ B,E.okHi B↔ltL B (zAL (st0 args) 0 args))→wsS P E st (zLS P rvs (zAL (st0 args) 0 args) (zFs R)) (st0 args)):ACall P f args R:=by
 have e:zCo args=zAL (st0 args) 0 args:=by rw [zFS];simp [zCo]
 refine ACall.nil ?_
 cases hf:P.funcs[f]? with
 |none=>rw [hf] at hst;simp at hst
 |some fn=>
  rw [hf] at hst hrs
  simp only [Option.bind_some,Option.map_some,Option.some.injEq,Prod.mk.injEq] at hst hrs
  obtain ⟨rfl,rfl⟩:=hrs
  cases hb:fn.body with
  |none=>rw [hb] at hst;simp at hst
  |some c=>
   rw [hb] at hst
   simp only [Option.bind_some] at hst
   refine zSq hf hb hst H.1.1 (zHA H.1.2) fun E h1 h2=> ?_
   rw [e] at h2
   have h3:=zBD (H.2 E (zIp h2) (zL8 h2))
   rw [←e] at h3
   refine zGG (fun e s hq=> ?_) h3
   cases e<;>first|exact ⟨.inl rfl,zGW.ok hq⟩|exact ⟨.inr rfl,zGW.ok hq⟩|exact hq.elim
def zCT:List Bool→List T→List T
 |true::bs,_::ts=> .any::zCT bs ts
 |false::bs,t::ts=>t::zCT bs ts
 |_,ts=>ts
theorem zER:∀ (bs:List Bool) (ts:List T),(zCT bs ts).length=ts.length
 |[],ts=>by cases ts<;>rfl
 |b::bs,[]=>by cases b<;>rfl
 |true::bs,t::ts=>by simp [zCT,zER bs ts]
 |false::bs,t::ts=>by simp [zCT,zER bs ts]
theorem zHC:∀ (bs:List Bool) (ts:List T) (i:Nat),i<ts.length→(zCT bs ts)[i]? =some .any∨(zCT bs ts)[i]? =ts[i]?
 |[],ts,i,_=> .inr (by cases ts<;>rfl)
 |b::bs,[],i,h=>by simp at h
 |true::bs,t::ts,0,_=> .inl (by simp [zCT])
 |false::bs,t::ts,0,_=> .inr (by simp [zCT])
 |true::bs,t::ts,i+1,h=>by simpa [zCT] using zHC bs ts i (by simpa using h)
 |false::bs,t::ts,i+1,h=>by simpa [zCT] using zHC bs ts i (by simpa using h)
theorem zG2 (ds:List Bool) {f:Nat} {st:AS} {rvs:List ResultVar} {nt:Nat} {args:List T} {R:T→List T→Prop} (hst:(P.funcs[f]?).bind (fun fn=>fn.body.bind (comp P fn.ntmps))=some st.strip) (hrs:(P.funcs[f]?).map (fun fn=>(fn.results.toList,fn.ntmps))=some (rvs,nt))
  (H:(args.length≤nt∧zF9 ⟨[],[]⟩ 0 args)∧∀ E:Env,(∀ d,E.okd d↔zAD d (zAL (st0 args) 0 args))→(∀ B,E.okHi B↔ltL B (zAL (st0 args) 0 args))→wsS P E st (zLS P rvs (zCT ds (zAL (st0 args) 0 args)) (zFs R)) (st0 args)):ACall P f args R:=by
 have e:zCo args=zAL (st0 args) 0 args:=by rw [zFS];simp [zCo]
 refine ACall.nil ?_
 cases hf:P.funcs[f]? with
 |none=>rw [hf] at hst;simp at hst
 |some fn=>
  rw [hf] at hst hrs
  simp only [Option.bind_some,Option.map_some,Option.some.injEq,Prod.mk.injEq] at hst hrs
  obtain ⟨rfl,rfl⟩:=hrs
  cases hb:fn.body with
  |none=>rw [hb] at hst;simp at hst
  |some c=>
   rw [hb] at hst
   simp only [Option.bind_some] at hst
   have hl:(zAL (st0 args) 0 args).length=args.length:=by rw [←e];simp [zCo]
   refine zFn (us:=zCT ds (zAL (st0 args) 0 args)) (by rw [zER,hl]) (fun i hi=> ?_) hf hb hst H.1.1 (zHA H.1.2) fun E h1 h2=> ?_
   ·refine (zHC ds _ i (by rw [hl];exact hi)).imp id fun h=> ?_
    rw [h, ←e]
    simp [zCo,hi]
   ·rw [e] at h2
    have h3:=zBD (H.2 E (zIp h2) (zL8 h2))
    refine zGG (fun e s hq=> ?_) h3
    cases e<;>first|exact ⟨.inl rfl,zGW.ok hq⟩|exact ⟨.inr rfl,zGW.ok hq⟩|exact hq.elim
theorem zRj (ds:List Bool) (id k:Nat) (rows:List (List T)) {f:Nat} {st:AS} {rvs:List ResultVar} {nt:Nat} {args:List T} {R:T→List T→Prop} (hst:(P.funcs[f]?).bind (fun fn=>fn.body.bind (comp P fn.ntmps))=some st.strip) (hrs:(P.funcs[f]?).map (fun fn=>(fn.results.toList,fn.ntmps))=some (rvs,nt))
  (hp:(T.ref id 0 rows.length)∈zAL (st0 args) 0 args) (ho:lk id (st0 args).objs=some ⟨k,rows⟩)
  (H:(args.length≤nt∧zF9 ⟨[],[]⟩ 0 args)∧∀ E:Env,(∀ d,E.okd d↔zAD d (zAL (st0 args) 0 args))→(∀ B,E.okHi B↔ltL B (zAL (st0 args) 0 args))→∀ c,rows.length≤c→E.FullAt id c→wsS P E st (zLS P rvs (zCT ds (zAL (st0 args) 0 args)) (zFs R)) ((st0 args).re id ⟨k,rows++List.replicate (c-rows.length) (zBG k)⟩)):ACall P f args R:=by
 have e:zCo args=zAL (st0 args) 0 args:=by rw [zFS];simp [zCo]
 refine ACall.nil ?_
 cases hf:P.funcs[f]? with
 |none=>rw [hf] at hst;simp at hst
 |some fn=>
  rw [hf] at hst hrs
  simp only [Option.bind_some,Option.map_some,Option.some.injEq,Prod.mk.injEq] at hst hrs
  obtain ⟨rfl,rfl⟩:=hrs
  cases hb:fn.body with
  |none=>rw [hb] at hst;simp at hst
  |some c=>
   rw [hb] at hst
   simp only [Option.bind_some] at hst
   have hl:(zAL (st0 args) 0 args).length=args.length:=by rw [←e];simp [zCo]
   refine zFn (us:=zCT ds (zAL (st0 args) 0 args)) (by rw [zER,hl]) (fun i hi=> ?_) hf hb hst H.1.1 (zHA H.1.2) fun E h1 h2=> ?_
   ·refine (zHC ds _ i (by rw [hl];exact hi)).imp (fun h=>h) fun h=> ?_
    rw [h, ←e]
    simp [zCo,hi]
   ·rw [e] at h2
    intro c0 hc0 a w hsim
    obtain ⟨S,ρ,foot,hsx⟩:=hsim
    rw [←h2] at hp
    obtain ⟨⟨t,v⟩,hp1,hp2⟩:=List.mem_map.1 hp
    simp only at hp2
    subst hp2
    have hr:=hsx.pins _ hp1
    simp only [Rep] at hr
    obtain ⟨_,hd,a0,cc,q1,q2,q3,q4,_⟩:=hr
    have hF:E.FullAt id cc:=⟨0,rows.length,a0,cc,by rw [←q2];exact hp1,by omega⟩
    have h3:=zBD (H.2 E (zIp h2) (zL8 h2) cc q4 hF)
    have h4:Ok P E st.strip (fun e s=>(e= .normal∨e= .ret)∧zQn P fn.results.toList (zCT ds (zAL (st0 args) 0 args)) (zFs R) s) ((st0 args).re id ⟨k,rows++List.replicate (cc-rows.length) (zBG k)⟩):=by
     refine zGG (fun e s hq=> ?_) h3
     cases e<;>first|exact ⟨.inl rfl,zGW.ok hq⟩|exact ⟨.inr rfl,zGW.ok hq⟩|exact hq.elim
    exact h4 c0 hc0 a w (zYq ho hF a w ⟨S,ρ,foot,hsx⟩)
def zRk:List Nat→T→Prop
 |[],_=>True
 |_::_,r=>r.noSh
theorem zTh {vw:List Nat} {r:T} (h:zRk vw r):vw=[]∨r.noSh:=by
 cases vw with
 |nil=>exact .inl rfl
 |cons a l=>exact .inr h
def zEw (R:T→List T→Prop) (vw:List Nat) (d:Option Nat) (K:St→Prop) (s:St):Prop:=∀ r l,R r l→(zRk vw r∧zGH s d r)∧K (s.unpO d r)
theorem zAH {R:T→List T→Prop} {vw:List Nat} {d:Option Nat} {K:St→Prop} {s:St} (h:∀ r l,R r l→(zRk vw r∧zGH s d r)∧K (s.unpO d r)):zEw R vw d K s:=h
theorem zAaF {X:T} {vw:List Nat} {d:Option Nat} {K:St→Prop} {s:St}:zEw (fun r _=>r=X) vw d K s↔(zRk vw X∧zGH s d X)∧K (s.unpO d X):=
 ⟨fun h=>h X [] rfl,fun h r l e=>by subst e;exact h⟩
theorem zZX {d:Option Nat} {g:Option (Nat×Bool)} {K:St→Prop} {f:Nat} {xs:List Operand} {ts us:List T} {vw:List Nat} {c:Prop} {R:T→List T→Prop} (hev:zA6 s xs=some ts) (hp:zBT s (zDD ts)=some (us,[],vw,c)) (hC:ACall P f us R)
  (hK:(c∧zHB E d)∧zEw R vw d K s):zAn P E ⟨d,g, .call f xs⟩ K s:=
 zYg hev hp hK.1.1 hC (zL7 hK.1.2) fun r l hR=>⟨zTh (hK.2 r l hR).1.1,zI1 (hK.2 r l hR).1.2,(hK.2 r l hR).2⟩
def zQq:List Nat→List Bool→T→List T→Prop
 |[],_,_,_=>True
 |_::_,ms,r,l=>r.noSh∧zB3 ms l
theorem zYG {vw:List Nat} {ms:List Bool} {r:T} {l:List T} (h:zQq vw ms r l):vw=[]∨(r.noSh∧zB3 ms l):=by
 cases vw with
 |nil=>exact .inl rfl
 |cons a v=>exact .inr h
def zYH (K:St→Prop) (d:Option Nat) (r:T) (q:St×Prop):Prop:=(q.2∧zGH q.1 d r)∧K (q.1.unpO d r)
def zRl (R:T→List T→Prop) (vw:List Nat) (modes:List Bool) (d:Option Nat) (K:St→Prop) (F:List T→St×Prop):Prop:=∀ r l,R r l→zQq vw modes r l∧zYH K d r (F l)
theorem zAaG {X:T} {Y:List T} {vw:List Nat} {modes:List Bool} {d:Option Nat} {K:St→Prop} {F:List T→St×Prop}:zRl (fun r l=>r=X∧l=Y) vw modes d K F↔zQq vw modes X Y∧zYH K d X (F Y):=
 ⟨fun h=>h X Y ⟨rfl,rfl⟩,fun h r l e=>by obtain ⟨rfl,rfl⟩:=e;exact h⟩
theorem zAfy (modes:List Bool) {d:Option Nat} {g:Option (Nat×Bool)} {K:St→Prop} {f:Nat} {xs:List Operand} {ts us:List T} {ow vw:List Nat} {c:Prop} {R:T→List T→Prop} (hev:zA6 s xs=some ts) (hp:zBT s (zC8 modes ts)=some (us,ow,vw,c)) (hC:ACall P f us R)
  (hK:(c∧zHB E d∧Nat.beq modes.length ts.length=true∧nodupB ow=true∧zLT ow vw=true)∧zRl R vw modes d K (bkL s (delL s ow) (zC8 modes ts))):zAn P E ⟨d,g, .call f xs⟩ K s:=
 zYh modes hev hp hK.1.2.2.1 hK.1.2.2.2.1 hK.1.2.2.2.2 hK.1.1 (zL7 hK.1.2.1) hC fun r l hR=>by
  obtain ⟨h1,h2⟩:=hK.2 r l hR
  exact ⟨zYG h1,h2.1.1,zI1 h2.1.2,h2.2⟩
def T.cap:T→Bool
 | .bo false _ _=>true
 | .v _=>true
 | .sl false _ _=>true
 |_=>false
theorem zPn:∀ caps:List T,caps.all T.cap=true→∃ c,zBT s (zDD caps)=some (caps,[],[],c)∧c
 |[],_=>⟨True,rfl,trivial⟩
 |t::ts,h=>by
  simp only [List.all_cons,Bool.and_eq_true] at h
  obtain ⟨c,h1,h2⟩:=zPn ts h.2
  have ht:vwT s t=some (t,[],t.packed∧t.bare=true)∧t.packed∧t.bare=true:=by
   have:=h.1
   unfold T.cap at this
   split at this
   ·exact ⟨rfl,by simp [T.packed],rfl⟩
   ·exact ⟨rfl,by simp [T.packed],rfl⟩
   ·exact ⟨rfl,by simp [T.packed],rfl⟩
   ·cases this
  refine ⟨(t.packed∧t.bare=true)∧c, ?_,ht.2,h2⟩
  simp only [zDD,zBT,Bool.false_eq_true,if_false,ht.1,h1,List.nil_append]
theorem zLs {caps:List T} (hcap:caps.all T.cap=true):∀ {ts us:List T} {vw:List Nat} {c:Prop},zBT s (zDD ts)=some (us,[],vw,c)→c→∃ c',zBT s (zDD (ts++caps))=some (us++caps,[],vw,c')∧c'
 |[],us,vw,c,h,hc=>by
  simp only [zDD,zBT,Option.some.injEq,Prod.mk.injEq] at h
  obtain ⟨rfl,_,rfl,_⟩:=h
  exact zPn caps hcap
 |t::ts,us,vw,c,h,hc=>by
  simp only [zDD,zBT,Bool.false_eq_true,if_false,List.cons_append] at h ⊢
  split at h
  ·rename_i u i c1 us0 o v c2 h1 h2
   simp only [Option.some.injEq,Prod.mk.injEq] at h
   obtain ⟨rfl,rfl,rfl,rfl⟩:=h
   obtain ⟨c',h3,h4⟩:=zLs hcap h2 hc.2
   exact ⟨c1∧c',by simp only [h1,h3,List.cons_append],hc.1,h4⟩
  ·cases h
theorem zKg:∀ ts:List T,zDD ts=zC8 (ts.map fun _=>false) ts
 |[]=>rfl
 |t::ts=>by simp [zDD,zC8,zKg ts]
theorem zKh {d:Option Nat} {g:Option (Nat×Bool)} {K:St→Prop} {f:Nat} {x:Operand} {xs:List Operand} {caps ts us:List T} {vw:List Nat} {c:Prop} {R:T→List T→Prop} (hx:s.eval x=some (.fn f caps)) (hev:zA6 s xs=some ts) (hp:zBT s (zDD ts)=some (us,[],vw,c)) (hf:zBU P f=true) (hcap:caps.all T.cap=true) (hC:ACall P f (us++caps) R)
  (hK:(c∧zHB E d)∧zEw R vw d K s):zAn P E ⟨d,g, .callv x xs⟩ K s:=by
 obtain ⟨c',h1,h2⟩:=zLs hcap hp hK.1.1
 rw [zKg] at h1
 refine zYl ((ts++caps).map fun _=>false) hx hev hf h1 (by rw [List.length_map];exact Nat.beq_refl _) rfl rfl h2 (zL7 hK.1.2) hC fun r l hR=> ?_
 obtain ⟨h3,h4⟩:=hK.2 r l hR
 have hb:=zMD (s0:=s) (s:=delL s []) (ts++caps) l
 rw [←zNV,zKg] at hb
 refine ⟨(zTh h3.1).imp id (fun h=>⟨h,zGl _ _⟩),hb.2, ?_, ?_⟩
 ·rw [hb.1];exact zI1 h3.2
 ·rw [hb.1];exact h4
def CV (P:Program) (f:Nat) (us:List T) (vw:List Nat) (d:Option Nat) (K:St→Prop) (s:St):Prop:=∃ R,ACall P f us R∧zEw R vw d K s
def cv2 (P:Program) (E:Env) (f:Nat) (d:Option Nat) (K:St→Prop) (s:St):Option (List T×List Nat×List Nat×Prop)→Prop
 |some (us,[],vw,c)=>(c∧zHB E d)∧CV P f us vw d K s
 |_=>False
def cv1 (P:Program) (E:Env) (f:Nat) (d:Option Nat) (K:St→Prop) (s:St):Option (List T)→Prop
 |some ts=>cv2 P E f d K s (zBT s (zDD ts))
 |none=>False
theorem zYI {f:Nat} {d:Option Nat} {K:St→Prop} {xs:List Operand} (h:cv1 P E f d K s (zA6 s xs)):∃ ts us vw c R,zA6 s xs=some ts∧zBT s (zDD ts)=some (us,[],vw,c)∧ACall P f us R∧(c∧zHB E d)∧zEw R vw d K s:=by
 unfold cv1 at h
 split at h
 ·rename_i ts hts
  unfold cv2 at h
  split at h
  ·rename_i us vw c ha
   obtain ⟨h1,R,h2,h3⟩:=h
   exact ⟨ts,us,vw,c,R,hts,ha,h2,h1,h3⟩
  ·exact h.elim
 ·exact h.elim
theorem zAE {d:Option Nat} {g:Option (Nat×Bool)} {K:St→Prop} {f:Nat} {xs:List Operand} (h:cv1 P E f d K s (zA6 s xs)):zAn P E ⟨d,g, .call f xs⟩ K s:=by
 obtain ⟨ts,us,vw,c,R,h1,h2,h3,h4,h5⟩:=zYI h
 exact zZX h1 h2 h3 ⟨h4,h5⟩
theorem cvA {f:Nat} {us:List T} {vw:List Nat} {d:Option Nat} {K:St→Prop} {R:T→List T→Prop} (hC:ACall P f us R) (h:zEw R vw d K s):CV P f us vw d K s:=⟨R,hC,h⟩
theorem zRm {f:Nat} {us us':List T} {vw:List Nat} {d:Option Nat} {K:St→Prop} {R:T→List T→Prop} (hC:ACall P f us' R) (h:zBi us us'∧zEw R vw d K s):CV P f us vw d K s:=⟨R,hC.nilArgs h.1,h.2⟩
def CMd (P:Program) (f:Nat) (us:List T) (vw:List Nat) (modes:List Bool) (d:Option Nat) (K:St→Prop) (F:List T→St×Prop):Prop:=∃ R,ACall P f us R∧zRl R vw modes d K F
def cm2 (P:Program) (E:Env) (f:Nat) (d:Option Nat) (modes:List Bool) (K:St→Prop) (s:St) (ts:List T):Option (List T×List Nat×List Nat×Prop)→Prop
 |some (us,ow,vw,c)=>(c∧zHB E d∧Nat.beq modes.length ts.length=true∧nodupB ow=true∧zLT ow vw=true)∧CMd P f us vw modes d K (bkL s (delL s ow) (zC8 modes ts))
 |none=>False
def cm1 (P:Program) (E:Env) (f:Nat) (d:Option Nat) (modes:List Bool) (K:St→Prop) (s:St):Option (List T)→Prop
 |some ts=>cm2 P E f d modes K s ts (zBT s (zC8 modes ts))
 |none=>False
theorem zAP (modes:List Bool) {d:Option Nat} {g:Option (Nat×Bool)} {K:St→Prop} {f:Nat} {xs:List Operand} (h:cm1 P E f d modes K s (zA6 s xs)):zAn P E ⟨d,g, .call f xs⟩ K s:=by
 unfold cm1 at h
 split at h
 ·rename_i ts hts
  unfold cm2 at h
  split at h
  ·rename_i us ow vw c ha
   obtain ⟨h1,R,h2,h3⟩:=h
   exact zAfy modes hts ha h2 ⟨h1,h3⟩
  ·exact h.elim
 ·exact h.elim
theorem cmA {f:Nat} {us:List T} {vw:List Nat} {modes:List Bool} {d:Option Nat} {K:St→Prop} {F:List T→St×Prop} {R:T→List T→Prop} (hC:ACall P f us R) (h:zRl R vw modes d K F):CMd P f us vw modes d K F:=⟨R,hC,h⟩
theorem cmAn {f:Nat} {us us':List T} {vw:List Nat} {modes:List Bool} {d:Option Nat} {K:St→Prop} {F:List T→St×Prop} {R:T→List T→Prop} (hC:ACall P f us' R) (h:zBi us us'∧zRl R vw modes d K F):CMd P f us vw modes d K F:=⟨R,hC.nilArgs h.1,h.2⟩
end
end Go.Am

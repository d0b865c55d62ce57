import Derived.Test.YthfpgpkdankdjaaGreatDoorAmQuiet
set_option linter.all false
namespace Go.Am
open Go Go.RowKit
def wp1 (P:Program) (E:Env) (i:IN) (K:St→Prop) (s:St):Prop:=
 match zAe s i.i with
 |some (p,t)=>p∧K (s.put i.dst t)
 |none=>zAn P E i K s
def gd (c b:Bool) (A B:St→Prop) (s:St):Prop:=(c=b→A s)∧((!c)=b→B s)
def skO (f:(St→Prop)→St→Prop) (d:Option Nat) (K:St→Prop) (s:St):Prop:=f K (s.put d (.tup []))
def wpO (P:Program) (E:Env):List IN→(St→Prop)→St→Prop
 |[],K,s=>K s
 |i::r,K,s=>
  match i.g with
  |none=>wp1 P E i (wpO P E r K) s
  |some (t,b)=>
   match lk t s.slots with
   |some (.v (.bool c))=>gd c b (wp1 P E i (wpO P E r K)) (skO (wpO P E r) i.dst K) s
   |some (.tup [])=>skO (wpO P E r) i.dst K s
   |_=>False
def zLR (f:(Exit→St→Prop)→St→Prop) (Q:Exit→St→Prop):Exit→St→Prop
 | .normal,s=>f Q s
 |e,s=>Q e s
def zNU (P:Program) (i:IN) (K:St→Prop) (s:St):Prop:=
 match zAe s i.i with
 |some (p,t)=>p∧K (s.put i.dst t)
 |none=>zIR P i K s
def wpQ (P:Program):List IN→(St→Prop)→St→Prop
 |[],K,s=>K s
 |i::r,K,s=>
  match i.g with
  |none=>zNU P i (wpQ P r K) s
  |some (t,b)=>
   match lk t s.slots with
   |some (.v (.bool c))=>gd c b (zNU P i (wpQ P r K)) (skO (wpQ P r) i.dst K) s
   |some (.tup [])=>skO (wpQ P r) i.dst K s
   |_=>False
def wpS (P:Program) (E:Env):Stmt→(Exit→St→Prop)→St→Prop
 | .skip,Q,s=>Q .normal s
 | .ops l,Q,s=>wpO P E l (Q .normal) s
 | .dops l,Q,s=>wpQ P l (Q .normal) s
 | .rops _,_,_=>False
 | .tops _,_,_=>False
 | .seq a b,Q,s=>wpS P E a (zLR (wpS P E b) Q) s
 | .cond x a b,Q,s=>
  match s.eval x with
  |some (.v (.bool t))=>gd t true (wpS P E a Q) (wpS P E b Q) s
  |_=>False
 | .loop b,Q,s=>zDs P E b Q s
 | .block id b,Q,s=>wpS P E b (zEM id Q) s
 | .exit id,Q,s=>Q (.exit id) s
 | .ret,Q,s=>Q .ret s
def zUC (P:Program) (E:Env) (b:Stmt) (Q:Exit→St→Prop):Exit→St→Prop
 | .normal,s=>zDs P E b Q s
 |e,s=>Q e s
def zGW (P:Program) (rvs:List ResultVar) (us:List T) (R:T→List T→Prop) (s:St):Prop:=
 match zIQ P s rvs with
 |some rs=>
  match pkL s (rs++us) with
  |some (l,ids,c)=>c∧ids.Nodup∧R (zGv (l.take rs.length)) (l.drop rs.length)
  |none=>False
 |none=>False
section
variable {P:Program} {E:Env} {s:St}
theorem zMC {i:IN} {K K':St→Prop} (hK:∀ s,K s→K' s) (h:zNU P i K s):zIR P i K' s:=by
 unfold zNU at h
 split at h
 ·rename_i p t hp
  exact .inl ⟨p,t,hp,h.1,hK _ h.2⟩
 ·rcases h with ⟨p,t,h1,h2,h3⟩|⟨f,xs,ts,us,vw,c,x,h1,h2,h3,h4,h5,h6⟩
  ·exact .inl ⟨p,t,h1,h2,hK _ h3⟩
  ·exact .inr ⟨f,xs,ts,us,vw,c,x,h1,h2,h3,h4,h5,hK _ h6⟩
theorem zF5:∀ {l:List IN} {K:St→Prop} {s:St},wpQ P l K s→OkQ P l K s
 |[],K,s,h=>h
 |i::r,K,s,h=>by
  simp only [wpQ] at h
  simp only [OkQ]
  split at h
  ·rename_i hg
   simp only [hg]
   exact zMC (fun _ h=>zF5 h) h
  ·rename_i t b hg
   simp only [hg]
   split at h
   ·rename_i c hl
    refine .inl ⟨c,hl,fun e=>zMC (fun _ h=>zF5 h) (h.1 e),fun e=>zF5 (h.2 ?_)⟩
    cases c<;>cases b<;>simp at e ⊢
   ·rename_i hl
    exact .inr ⟨hl,zF5 h⟩
   ·exact h.elim
theorem zGW.ok {rvs:List ResultVar} {us:List T} {R:T→List T→Prop} (h:zGW P rvs us R s):zQn P rvs us R s:=by
 unfold zGW at h
 split at h
 ·rename_i rs h1
  split at h
  ·rename_i l ids c h2
   exact ⟨rs,l,ids,c,h1,h2,h.1,h.2.1,h.2.2⟩
  ·exact h.elim
 ·exact h.elim
def zLS (P:Program) (rvs:List ResultVar) (us:List T) (R:T→List T→Prop):Exit→St→Prop
 | .normal,s=>zGW P rvs us R s
 | .ret,s=>zGW P rvs us R s
 |_,_=>False
def zAL (s:St) (j:Nat):List T→List T
 |[]=>[]
 |_::ts=>(match lk j s.slots with|some t=>t|none=> .any)::zAL s (j+1) ts
theorem zFS:∀ (args:List T) (s:St) (j:Nat),zAL s j args=(List.range args.length).map fun i=>(lk (j+i) s.slots).getD .any
 |[],s,j=>rfl
 |t::ts,s,j=>by
  simp only [zAL,List.length_cons,List.range_succ_eq_map,List.map_cons,List.map_map,Nat.add_zero]
  rw [zFS ts s (j+1)]
  congr 1
  ·cases lk j s.slots<;>rfl
  ·apply List.map_congr_left
   intro i _
   simp only [Function.comp]
   rw [show j+1+i=j+(i+1) from by omega]
theorem zAfg {A B:St→Prop}:gd true true A B s=A s:=by simp [gd]
theorem zAfh {A B:St→Prop}:gd false true A B s=B s:=by simp [gd]
theorem zAfi {A B:St→Prop}:gd true false A B s=B s:=by simp [gd]
theorem zAfj {A B:St→Prop}:gd false false A B s=A s:=by simp [gd]
theorem zD7 {c:Bool} {A B:St→Prop} (h1:c=true→A s) (h2:c=false→B s):gd c true A B s:=⟨h1,fun e=>h2 (by cases c<;>simp at e ⊢)⟩
theorem zD8 {c:Bool} {A B:St→Prop} (h1:c=true→B s) (h2:c=false→A s):gd c false A B s:=⟨h2,fun e=>h1 (by cases c<;>simp at e ⊢)⟩
attribute [go_sem] zAfg zAfh zAfi zAfj
def aft (P:Program) (E:Env) (i:IN) (K:St→Prop) (s:St):Option (Prop×T)→Prop
 |some (p,t)=>p∧K (s.put i.dst t)
 |none=>zAn P E i K s
def zUD (P:Program) (i:IN) (K:St→Prop) (s:St):Option (Prop×T)→Prop
 |some (p,t)=>p∧K (s.put i.dst t)
 |none=>zIR P i K s
def grd (o:Option T) (b:Bool) (A B:St→Prop) (s:St):Prop:=
 match o with
 |some (.v (.bool c))=>gd c b A B s
 |some (.tup [])=>B s
 |_=>False
def grc (o:Option T) (A B:St→Prop) (s:St):Prop:=
 match o with
 |some (.v (.bool c))=>gd c true A B s
 |_=>False
@[go_sem] theorem e_grc {c:Bool} {A B:St→Prop} {s:St}:grc (some (.v (.bool c))) A B s=gd c true A B s:=rfl
@[go_sem] theorem zAkS {b:Bool} {A B:St→Prop} {s:St}:grd (some (.tup [])) b A B s=B s:=rfl
def zUE (R:T→List T→Prop) (n:Nat):Option (List T×List Nat×Prop)→Prop
 |some (l,ids,c)=>c∧ids.Nodup∧R (zGv (l.take n)) (l.drop n)
 |none=>False
def zUF (us:List T) (R:T→List T→Prop) (s:St):Option (List T)→Prop
 |some rs=>zUE R rs.length (pkL s (rs++us))
 |none=>False
@[go_sem] theorem zAgm {P:Program} {E:Env} {s:St} {K:St→Prop} {Q:Exit→St→Prop}:wpO P E [] K s=K s:=rfl
@[go_sem] theorem zAfk {P:Program} {E:Env} {s:St} {K:St→Prop} {Q:Exit→St→Prop} {d:Option Nat} {i:I} {r:List IN}:wpO P E (⟨d,none,i⟩::r) K s=aft P E ⟨d,none,i⟩ (wpO P E r K) s (zAe s i):=rfl
@[go_sem] theorem zAfl {P:Program} {E:Env} {s:St} {K:St→Prop} {Q:Exit→St→Prop} {d:Option Nat} {i:I} {r:List IN} {t:Nat} {b:Bool}:wpO P E (⟨d,some (t,b),i⟩::r) K s=grd (lk t s.slots) b (wp1 P E ⟨d,some (t,b),i⟩ (wpO P E r K)) (skO (wpO P E r) d K) s:=rfl
@[go_sem] theorem e_wp1 {P:Program} {E:Env} {s:St} {K:St→Prop} {i:IN}:wp1 P E i K s=aft P E i K s (zAe s i.i):=rfl
@[go_sem] theorem zAkT {P:Program} {s:St} {K:St→Prop} {i:IN}:zNU P i K s=zUD P i K s (zAe s i.i):=rfl
@[go_sem] theorem e_skO {f:(St→Prop)→St→Prop} {d:Option Nat} {K:St→Prop} {s:St}:skO f d K s=f K (s.put d (.tup [])):=rfl
@[go_sem] theorem e_grd {c b:Bool} {A B:St→Prop} {s:St}:grd (some (.v (.bool c))) b A B s=gd c b A B s:=rfl
@[go_sem] theorem zAfm {P:Program} {E:Env} {s:St} {K:St→Prop} {Q:Exit→St→Prop} {i:IN} {p:Prop} {t:T}:aft P E i K s (some (p,t))=(p∧K (s.put i.dst t)):=rfl
@[go_sem] theorem zAfn {P:Program} {E:Env} {s:St} {K:St→Prop} {Q:Exit→St→Prop} {i:IN}:aft P E i K s none=zAn P E i K s:=rfl
@[go_sem] theorem zAgn {P:Program} {E:Env} {s:St} {K:St→Prop} {Q:Exit→St→Prop}:wpQ P [] K s=K s:=rfl
@[go_sem] theorem zAfo {P:Program} {E:Env} {s:St} {K:St→Prop} {Q:Exit→St→Prop} {d:Option Nat} {i:I} {r:List IN}:wpQ P (⟨d,none,i⟩::r) K s=zUD P ⟨d,none,i⟩ (wpQ P r K) s (zAe s i):=rfl
@[go_sem] theorem zAfp {P:Program} {E:Env} {s:St} {K:St→Prop} {Q:Exit→St→Prop} {d:Option Nat} {i:I} {r:List IN} {t:Nat} {b:Bool}:wpQ P (⟨d,some (t,b),i⟩::r) K s=grd (lk t s.slots) b (zNU P ⟨d,some (t,b),i⟩ (wpQ P r K)) (skO (wpQ P r) d K) s:=rfl
@[go_sem] theorem zAeZ {P:Program} {E:Env} {s:St} {K:St→Prop} {Q:Exit→St→Prop} {i:IN} {p:Prop} {t:T}:zUD P i K s (some (p,t))=(p∧K (s.put i.dst t)):=rfl
@[go_sem] theorem zAe0 {P:Program} {E:Env} {s:St} {K:St→Prop} {Q:Exit→St→Prop} {i:IN}:zUD P i K s none=zIR P i K s:=rfl
@[go_sem] theorem zAfq {P:Program} {E:Env} {s:St} {K:St→Prop} {Q:Exit→St→Prop}:wpS P E (.skip) Q s=Q .normal s:=rfl
@[go_sem] theorem zAgo {P:Program} {E:Env} {s:St} {K:St→Prop} {Q:Exit→St→Prop} {l:List IN}:wpS P E (.ops l) Q s=wpO P E l (Q .normal) s:=rfl
@[go_sem] theorem zAfr {P:Program} {E:Env} {s:St} {K:St→Prop} {Q:Exit→St→Prop} {l:List IN}:wpS P E (.dops l) Q s=wpQ P l (Q .normal) s:=rfl
@[go_sem] theorem zAgp {P:Program} {E:Env} {s:St} {K:St→Prop} {Q:Exit→St→Prop} {a b:Am.Stmt}:wpS P E (.seq a b) Q s=wpS P E a (zLR (wpS P E b) Q) s:=rfl
@[go_sem] theorem zAfs {P:Program} {E:Env} {s:St} {K:St→Prop} {Q:Exit→St→Prop} {x:Operand} {a b:Am.Stmt}:wpS P E (.cond x a b) Q s=grc (s.eval x) (wpS P E a Q) (wpS P E b Q) s:=rfl
@[go_sem] theorem zAft {P:Program} {E:Env} {s:St} {K:St→Prop} {Q:Exit→St→Prop} {b:Am.Stmt}:wpS P E (.loop b) Q s=zDs P E b Q s:=rfl
@[go_sem] theorem zAe1 {P:Program} {E:Env} {s:St} {K:St→Prop} {Q:Exit→St→Prop} {id:Nat} {b:Am.Stmt}:wpS P E (.block id b) Q s=wpS P E b (zEM id Q) s:=rfl
@[go_sem] theorem zAfu {P:Program} {E:Env} {s:St} {K:St→Prop} {Q:Exit→St→Prop} {id:Nat}:wpS P E (.exit id) Q s=Q (.exit id) s:=rfl
@[go_sem] theorem zAgq {P:Program} {E:Env} {s:St} {K:St→Prop} {Q:Exit→St→Prop}:wpS P E (.ret) Q s=Q .ret s:=rfl
@[go_sem] theorem zAgC {P:Program} {E:Env} {s:St} {K:St→Prop} {Q:Exit→St→Prop} {f:(Exit→St→Prop)→St→Prop}:zLR f Q .normal s=f Q s:=rfl
@[go_sem] theorem zAgD {P:Program} {E:Env} {s:St} {K:St→Prop} {Q:Exit→St→Prop} {f:(Exit→St→Prop)→St→Prop}:zLR f Q .ret s=Q .ret s:=rfl
@[go_sem] theorem zAgE {P:Program} {E:Env} {s:St} {K:St→Prop} {Q:Exit→St→Prop} {f:(Exit→St→Prop)→St→Prop} {id:Nat}:zLR f Q (.exit id) s=Q (.exit id) s:=rfl
@[go_sem] theorem zAgr {P:Program} {E:Env} {s:St} {K:St→Prop} {Q:Exit→St→Prop} {b:Am.Stmt}:zUC P E b Q .normal s=zDs P E b Q s:=rfl
@[go_sem] theorem zAgs {P:Program} {E:Env} {s:St} {K:St→Prop} {Q:Exit→St→Prop} {b:Am.Stmt}:zUC P E b Q .ret s=Q .ret s:=rfl
@[go_sem] theorem zAgt {P:Program} {E:Env} {s:St} {K:St→Prop} {Q:Exit→St→Prop} {b:Am.Stmt} {id:Nat}:zUC P E b Q (.exit id) s=Q (.exit id) s:=rfl
@[go_sem] theorem zAfv {P:Program} {E:Env} {s:St} {K:St→Prop} {Q:Exit→St→Prop} {id:Nat}:zEM id Q .normal s=Q .normal s:=rfl
@[go_sem] theorem zAfw {P:Program} {E:Env} {s:St} {K:St→Prop} {Q:Exit→St→Prop} {id:Nat}:zEM id Q .ret s=Q .ret s:=rfl
@[go_sem] theorem zAfx {P:Program} {E:Env} {s:St} {K:St→Prop} {Q:Exit→St→Prop} {id id':Nat}:zEM id Q (.exit id') s=if id'=id then Q .normal s else Q (.exit id') s:=rfl
@[go_sem] theorem zAgF {P:Program} {E:Env} {s:St} {K:St→Prop} {Q:Exit→St→Prop} {rvs:List ResultVar} {us:List T} {R:T→List T→Prop}:zLS P rvs us R .normal s=zUF us R s (zIQ P s rvs):=rfl
@[go_sem] theorem zAgG {P:Program} {E:Env} {s:St} {K:St→Prop} {Q:Exit→St→Prop} {rvs:List ResultVar} {us:List T} {R:T→List T→Prop}:zLS P rvs us R .ret s=zUF us R s (zIQ P s rvs):=rfl
@[go_sem] theorem zAkh {s:St} {us:List T} {R:T→List T→Prop} {rs:List T}:zUF us R s (some rs)=zUE R rs.length (pkL s (rs++us)):=rfl
@[go_sem] theorem zAki {R:T→List T→Prop} {n:Nat} {l:List T} {ids:List Nat} {c:Prop}:zUE R n (some (l,ids,c))=(c∧ids.Nodup∧R (zGv (l.take n)) (l.drop n)):=rfl
theorem zAbI {us:List T} (h:E.pins.map (·.1)=us) {d:Nat} (hd:zAD d us):E.okd d:=by
 intro p hp
 have:p.1∈us:=by rw [←h];exact List.mem_map.2 ⟨p,hp,rfl⟩
 revert this
 generalize p.1=t
 clear h hp
 induction us with
 |nil=>intro h;cases h
 |cons u us ih=>
  intro ht
  simp only [zAD] at hd
  rcases List.mem_cons.1 ht with rfl|ht
  ·exact hd.1
  ·exact ih hd.2 ht
attribute [go_sem] zAe ldT St.eval St.put St.set lk T.ofV T.ofV1 zQG zIQ zUB pkL pkT zEi zHt zGv T.packed zAA T.bare T.bare0 zA6 zAS zBE bound zIH eqV zCw zEr T.cells T.plainV zAz
def zDD:List T→List (Bool×T)
 |[]=>[]
 |t::ts=>(false,t)::zDD ts
theorem zNV:∀ ts:List T,zDD ts=(ts.map fun _=>false).zip ts
 |[]=>rfl
 |t::ts=>by simp [zDD,zNV ts]
theorem zPh {s0 s:St}:∀ (ts:List T) (l:List T),bkL s0 s ((ts.map fun _=>false).zip ts) l=(s,True∧True)∨bkL s0 s ((ts.map fun _=>false).zip ts) l=(s,True)∨((bkL s0 s ((ts.map fun _=>false).zip ts) l).1=s∧(bkL s0 s ((ts.map fun _=>false).zip ts) l).2)
 |[],l=>by simp [bkL]
 |t::ts,[]=>by simp [bkL]
 |t::ts,u::us=>by
  right;right
  simp only [List.map_cons,List.zip_cons_cons,bkL]
  rcases zPh (s0:=s0) (s:=s) ts us with h|h|h
  ·simp [h]
  ·simp [h]
  ·simp only [Bool.false_eq_true,if_false];exact ⟨h.1,trivial,h.2⟩
theorem zMD {s0 s:St} (ts l:List T):(bkL s0 s ((ts.map fun _=>false).zip ts) l).1=s∧(bkL s0 s ((ts.map fun _=>false).zip ts) l).2:=by
 rcases zPh (s0:=s0) (s:=s) ts l with h|h|h
 ·simp [h]
 ·simp [h]
 ·exact h
theorem zGl:∀ (ts l:List T),zB3 (ts.map fun _=>false) l
 |[],_=>by simp [zB3]
 |t::ts,[]=>by simp [zB3]
 |t::ts,u::us=>by simp only [List.map_cons,zB3];exact zGl ts us
theorem zYg {d:Option Nat} {g:Option (Nat×Bool)} {K:St→Prop} {f:Nat} {xs:List Operand} {ts us:List T} {vw:List Nat} {c:Prop} {R:T→List T→Prop} (hev:zA6 s xs=some ts) (hp:zBT s (zDD ts)=some (us,[],vw,c)) (hc:c) (hC:ACall P f us R) (hokd:E.okdO d)
  (hK:∀ r l,R r l→(vw=[]∨r.noSh)∧zF4 s d r∧K (s.unpO d r)):zAn P E ⟨d,g, .call f xs⟩ K s:=by
 rw [zNV] at hp
 refine zTb (ts.map fun _=>false) rfl hev (by simp) hp hc (by simp) (by simp) hC hokd fun r l hR=> ?_
 obtain ⟨k1,k2,k3⟩:=hK r l hR
 obtain ⟨b1,b2⟩:=zMD (s0:=s) (s:=delL s []) ts l
 refine ⟨k1.imp id (fun h=>⟨h,zGl ts l⟩),b2, ?_, ?_⟩
 ·rw [b1];exact k2
 ·rw [b1];exact k3
theorem zAau {d:Nat} {g:Option (Nat×Bool)} {K:St→Prop} {x:Operand} {t:T} {row:List T} (hx:s.eval x=some t) (hc:t.cells=some row) (hp:t.plainV=true) (hpi:E.okd d) (hno:zAk d s.objs) (hself:zAD d row)
  (hK:K ((s.new d ⟨row.length,[row]⟩).set d (.ptr d 0 0))):zAn P E ⟨some d,g, .box x⟩ K s:=zAbB rfl rfl hx hc hp hpi hno hself hK
theorem zWq {d:Nat} {g:Option (Nat×Bool)} {K:St→Prop} {z:Value} (hpi:E.okd d) (hno:zAk d s.objs)
  (hK:K ((s.new d ⟨(zAz z).length,[zAz z]⟩).set d (.ptr d 0 0))):zAn P E ⟨some d,g, .alloc z⟩ K s:=zYc rfl rfl hpi hno (zHS d z) hK
theorem zWr {g:Option (Nat×Bool)} {K:St→Prop} {n:Nat} {x v:Operand} {id j q:Nat} {ob:Ob} {t:T} {cs:List T} (hx:s.eval x=some (.ptr id j q)) (ho:lk id s.objs=some ob) (hv:s.eval v=some t) (hc:t.cells=some cs)
  (hn:cs.length=n) (hp:t.plainV=true) (hs:cs.all T.storable=true) (hj:j<ob.rows.length) (hq:q+n≤ob.k)
  (hK:K (s.upd id ⟨ob.k,zDh ob.rows j q cs⟩)):zAn P E ⟨none,g, .store n x v⟩ K s:=zYd rfl hx ho hv hc hn hp hs hj hq rfl hK
theorem zAav {g:Option (Nat×Bool)} {K:St→Prop} {k n d:Nat} {z:Value} {parts:List (Nat×Operand)} {l:List (Nat×Nat×T)} {flat:List T} (hl:zDx s k parts=some l) (hv:l.all (fun q=>q.2.2.plainV)=true)
  (hf:zEr (List.replicate (n*k) .any) l=some flat) (hlen:flat.length=n*k) (hpi:E.okd d) (hno:zAk d s.objs) (hself:zAy d (chunks k n flat)) (hK:K ((s.new d ⟨k,chunks k n flat⟩).set d (.ref d 0 n))):zAn P E ⟨some d,g, .bsl k z n parts⟩ K s:=
 zAbC rfl rfl hl hv hf hlen hpi hno hself hK
attribute [go_sem] zDD zBT St.new kill T.noMb zGq zAk St.del Am.del St.upd zDh chunks zDx List.length_set List.getD_cons_zero List.getD_cons_succ List.set_cons_zero List.set_cons_succ bne_self_eq_false vwT zEs zEO vwO zEj T.opn zNS zAD T.noM St.unpO zF4 zIN
attribute [go_sem] zAL st0 zMB St.unp zAt zCC zBd zBh List.map_cons List.map_nil Option.getD_some Option.getD_none
attribute [go_sem] List.all_cons List.all_nil Bool.and_self List.singleton_append T.storable T.leaf T.sh T.okLeaf T.okT
attribute [go_sem] List.take_succ_cons List.take_zero List.drop_succ_cons List.drop_zero List.length_cons List.length_nil List.append_nil List.nil_append List.cons_append List.nodup_nil List.nodup_cons Option.map_some Option.map_none true_and and_true cond_true cond_false Bool.not_true Bool.not_false Bool.true_and Bool.and_true Bool.false_and Bool.and_false Bool.true_or Bool.or_true Bool.false_or Bool.or_false
def zC8:List Bool→List T→List (Bool×T)
 |m::ms,t::ts=>(m,t)::zC8 ms ts
 |_,_=>[]
theorem zIl:∀ (ms:List Bool) (ts:List T),zC8 ms ts=ms.zip ts
 |[],ts=>by simp [zC8]
 |m::ms,[]=>by simp [zC8]
 |m::ms,t::ts=>by simp [zC8,zIl ms ts]
def zLT (ow vw:List Nat):Bool:=ow.all fun i=>vw.all fun j=>i !=j
def nodupB:List Nat→Bool
 |[]=>true
 |i::l=>l.all (fun j=>i !=j)&&nodupB l
theorem zJ0:∀ {l:List Nat},nodupB l=true→l.Nodup
 |[],_=>List.nodup_nil
 |i::l,h=>by
  simp only [nodupB,Bool.and_eq_true,List.all_eq_true,bne_iff_ne] at h
  exact List.nodup_cons.2 ⟨fun hm=>h.1 i hm rfl,zJ0 h.2⟩
theorem zYh (modes:List Bool) {d:Option Nat} {g:Option (Nat×Bool)} {K:St→Prop} {f:Nat} {xs:List Operand} {ts us:List T} {ow vw:List Nat} {c:Prop} {R:T→List T→Prop} (hev:zA6 s xs=some ts) (hp:zBT s (zC8 modes ts)=some (us,ow,vw,c)) (hm:Nat.beq modes.length ts.length=true) (hnd:nodupB ow=true) (hdis:zLT ow vw=true) (hc:c) (hokd:E.okdO d) (hC:ACall P f us R)
  (hK:∀ r l,R r l→(vw=[]∨(r.noSh∧zB3 modes l))∧(bkL s (delL s ow) (zC8 modes ts) l).2∧zF4 (bkL s (delL s ow) (zC8 modes ts) l).1 d r∧K ((bkL s (delL s ow) (zC8 modes ts) l).1.unpO d r)):zAn P E ⟨d,g, .call f xs⟩ K s:=by
 rw [zIl] at hp
 refine zTb modes rfl hev (Nat.eq_of_beq_eq_true hm) hp hc (zJ0 hnd) ?_ hC hokd fun r l hR=> ?_
 ·intro i hi hj
  simp only [zLT,List.all_eq_true,bne_iff_ne] at hdis
  exact hdis i hi i hj rfl
 ·have:=hK r l hR
  rwa [zIl] at this
def zYi (I:St→Prop) (Q:Exit→St→Prop):Exit→St→Prop
 | .normal,s=>I s
 |e,s=>Q e s
@[go_sem] theorem zAgH {I:St→Prop} {Q:Exit→St→Prop}:zYi I Q .normal s=I s:=rfl
@[go_sem] theorem zAgI {I:St→Prop} {Q:Exit→St→Prop}:zYi I Q .ret s=Q .ret s:=rfl
@[go_sem] theorem zAgJ {I:St→Prop} {Q:Exit→St→Prop} {id:Nat}:zYi I Q (.exit id) s=Q (.exit id) s:=rfl
attribute [go_sem] List.not_mem_nil not_false_eq_true true_or List.mem_cons or_self or_false false_or Nat.blt_eq List.getElem?_cons_zero List.getElem?_cons_succ implies_true beq_self_eq_true bne_self_eq_false
attribute [go_sem] zC8 delL bkL bkT zF3 zHu zB3 St.unpO zF4 zIN zAt T.noSh
end
end Go.Am

import Derived.Test.YthfpgpkdankdjaaGreatDoorAmTac
import Derived.Test.YthfpgpkdankdjaaGreatDoorAmOrd
set_option linter.all false
namespace Go.Am
open Go Go.RowKit
def same:Option Nat→T→St→Prop
 |none,_,_=>True
 |some d,t,s=>lk d s.slots=some t
def rr1 (d:Option Nat) (s:St):Option (Prop×T)→Prop
 |some (p,t)=>p∧same d t s
 |none=>False
def rrG (d:Option Nat) (i:I) (s:St):Prop:=rr1 d s (zAe s i)
def RR (s:St) (x:IN):Prop:=match x.g with
 |none=>rr1 x.dst s (zAe s x.i)
 |some (t,g)=>grd (lk t s.slots) g (rrG x.dst x.i) (same x.dst (.tup [])) s
def rrL:List IN→St→Prop
 |[],_=>True
 |x::l,s=>RR s x∧rrL l s
def rrK (l:List IN) (K:St→Prop) (s:St):Prop:=rrL l s∧K s
def zME (P:Program) (E:Env) (k:Option (List IN)) (i:IN) (K:St→Prop) (s:St):Prop:=
 match k with
 |none=>∃ p t,zAe s i.i=some (p,t)∧p∧K (s.put i.dst t)
 |some l=>zAn P E i (rrK l K) s
def zQp (k:Option (List IN)) (K:St→Prop) (s:St):Prop:=
 match k with
 |none=>K s
 |some l=>rrK l K s
def OkR (P:Program) (E:Env):List (Option (List IN)×IN)→(St→Prop)→St→Prop
 |[],K,s=>K s
 |(b,i)::r,K,s=>
  match i.g with
  |none=>zME P E b i (OkR P E r K) s
  |some (t,g)=>(∃ c,lk t s.slots=some (.v (.bool c))∧(c=g→zME P E b i (OkR P E r K) s)∧(c≠g→zQp b (OkR P E r K) (s.put i.dst (.tup []))))∨(lk t s.slots=some (.tup [])∧zQp b (OkR P E r K) (s.put i.dst (.tup [])))
def OkT (P:Program) (E:Env):RT→(St→Prop)→St→Prop
 | .done,K,s=>K s
 | .none,_,_=>True
 | .rd i r,K,s=>
  match i.g with
  |none=>zME P E none i (OkT P E r K) s
  |some (t,g)=>(∃ c,lk t s.slots=some (.v (.bool c))∧(c=g→zME P E none i (OkT P E r K) s)∧(c≠g→OkT P E r K (s.put i.dst (.tup []))))∨(lk t s.slots=some (.tup [])∧OkT P E r K (s.put i.dst (.tup [])))
 | .alt l i r o,K,s=>
  (match i.g with
  |none=>zAn P E i (rrK l (OkT P E r K)) s
  |some (t,g)=>(∃ c,lk t s.slots=some (.v (.bool c))∧(c=g→zAn P E i (rrK l (OkT P E r K)) s)∧(c≠g→rrK l (OkT P E r K) (s.put i.dst (.tup []))))∨(lk t s.slots=some (.tup [])∧rrK l (OkT P E r K) (s.put i.dst (.tup []))))∧OkT P E o K s
theorem zLq {s s':St}:∀ {l:List Operand},(∀ x∈l,s.eval x=s'.eval x)→zA6 s l=zA6 s' l
 |[],_=>rfl
 |x::l,h=>by
  simp only [zA6,h x (List.mem_cons_self ..),zLq fun y hy=>h y (List.mem_cons_of_mem _ hy)]
theorem zHv {s s':St}:∀ {l:List (Nat×Nat×Operand)},(∀ x∈l.map (·.2.2),s.eval x=s'.eval x)→zCw s l=zCw s' l
 |[],_=>rfl
 |(a,b,x)::l,h=>by
  simp only [zCw,h x (List.mem_cons_self ..),zHv fun y hy=>h y (List.mem_cons_of_mem _ hy)]
theorem zEk {s s':St} {d:Int} {o:Option Operand} (h:∀ x∈o.toList,s.eval x=s'.eval x):bound s d o=bound s' d o:=by
 cases o with
 |none=>rfl
 |some x=>simp only [bound,h x (by simp)]
theorem zSr {s s':St} {i:I} (h:∀ x∈i.opnds,s.eval x=s'.eval x) (ho:s.objs=s'.objs):zAe s i=zAe s' i:=by
 cases i with
 |build z parts=>simp only [zAe,zHv (l:=parts) h]
 |mkf f caps=>simp only [zAe,zLq (l:=caps) h]
 |sls k x lo hi mx=>
  have hx:=h x (by simp [I.opnds])
  have h1:∀ d,bound s d lo=bound s' d lo:=fun d=>zEk fun y hy=>h y (by simp [I.opnds] at hy ⊢;simp [hy])
  have h2:∀ d,bound s d hi=bound s' d hi:=fun d=>zEk fun y hy=>h y (by simp [I.opnds] at hy ⊢;simp [hy])
  have h3:∀ m,mx=some m→bound s 0 (some m)=bound s' 0 (some m):=fun m hm=>by
   subst hm;exact zEk fun y hy=>h y (by simp [I.opnds] at hy ⊢;simp [hy])
  simp only [zAe,hx,h1,h2,ho]
  generalize s'.eval x=t
  cases t with
  |none=>rfl
  |some t=>
   cases t with
   |ref id lo0 n=>
    dsimp only
    generalize bound s' 0 lo=b1
    generalize bound s' (↑n) hi=b2
    generalize lk id s'.objs=b3
    cases mx with
    |none=>cases b1<;>cases b2<;>cases b3<;>rfl
    |some m=>cases m<;>cases b1<;>cases b2<;>cases b3<;>first|rfl|(dsimp only;rw [h3 _ rfl])
   |sl own k' rows=>
    cases own with
    |false=>
     dsimp only
     generalize bound s' 0 lo=b1
     generalize bound s' (↑rows.length) hi=b2
     cases mx with
     |none=>cases b1<;>cases b2<;>rfl
     |some m=>cases b1<;>cases b2<;>first|rfl|(dsimp only;rw [h3 m rfl])
    |true=>
     cases rows with
     |cons _ _=>rfl
     |nil=>
      dsimp only
      generalize bound s' 0 lo=b1
      generalize bound s' 0 hi=b2
      cases mx with
      |none=>cases b1<;>cases b2<;>rfl
      |some m=>cases b1<;>cases b2<;>first|rfl|(dsimp only;rw [h3 m rfl])
   |v y=>
    cases y with
    |slice a n c=>
     cases a with
     |some _=>rfl
     |none=>
      cases n with
      |succ _=>rfl
      |zero=>
       cases c with
       |succ _=>rfl
       |zero=>
        generalize bound s' 0 lo=b1
        generalize bound s' 0 hi=b2
        cases mx with
        |none=>cases b1<;>cases b2<;>rfl
        |some m=>cases b1<;>cases b2<;>first|rfl|exact congrArg (Option.map _) (h3 m rfl)
    |_=>rfl
   |_=>rfl
 |slt x lo hi=>
  have hx:=h x (by simp [I.opnds])
  have h1:∀ d,bound s d lo=bound s' d lo:=fun d=>zEk fun y hy=>h y (by simp [I.opnds] at hy ⊢;simp [hy])
  have h2:∀ d,bound s d hi=bound s' d hi:=fun d=>zEk fun y hy=>h y (by simp [I.opnds] at hy ⊢;simp [hy])
  simp only [zAe,hx,h1,h2]
 |bmax args=>
  match args,h with
  |[],_=>rfl
  |[_],_=>rfl
  |[x,y],h=>simp only [zAe,h x (by simp [I.opnds]),h y (by simp [I.opnds])]
  |_::_::_::_,_=>rfl
 |bmin args=>
  match args,h with
  |[],_=>rfl
  |[_],_=>rfl
  |[x,y],h=>simp only [zAe,h x (by simp [I.opnds]),h y (by simp [I.opnds])]
  |_::_::_::_,_=>rfl
 |pick c a b=>simp only [zAe,h c (by simp [I.opnds]),h a (by simp [I.opnds]),h b (by simp [I.opnds])]
 |bin op x y=>simp only [zAe,h x (by simp [I.opnds]),h y (by simp [I.opnds])]
 |eqs n l x y=>simp only [zAe,h x (by simp [I.opnds]),h y (by simp [I.opnds])]
 |eqb n x y=>simp only [zAe,h x (by simp [I.opnds]),h y (by simp [I.opnds])]
 |ia k x y=>simp only [zAe,h x (by simp [I.opnds]),h y (by simp [I.opnds]),ho]
 |ix x y=>simp only [zAe,h x (by simp [I.opnds]),h y (by simp [I.opnds])]
 |load m x=>simp only [zAe,h x (by simp [I.opnds]),ho]
 |cvbs x=>simp only [zAe,h x (by simp [I.opnds]),ho]
 |mv x=>simp only [zAe,h x (by simp [I.opnds])]
 |nc x=>simp only [zAe,h x (by simp [I.opnds])]
 |not x=>simp only [zAe,h x (by simp [I.opnds])]
 |neg x=>simp only [zAe,h x (by simp [I.opnds])]
 |cvi k x=>simp only [zAe,h x (by simp [I.opnds])]
 |cvss x=>simp only [zAe,h x (by simp [I.opnds])]
 |fa o x=>simp only [zAe,h x (by simp [I.opnds])]
 |fld o m x=>simp only [zAe,h x (by simp [I.opnds])]
 |ext n x=>simp only [zAe,h x (by simp [I.opnds])]
 |lens x=>simp only [zAe,h x (by simp [I.opnds])]
 |lent x=>simp only [zAe,h x (by simp [I.opnds])]
 |_=>rfl
def RdT (s:St) (x:IN) (t:T):Prop:=match x.g with
 |none=>∃ p,zAe s x.i=some (p,t)∧p
 |some (g,b)=>(∃ c,lk g s.slots=some (.v (.bool c))∧(c=b→∃ p,zAe s x.i=some (p,t)∧p)∧(c≠b→t= .tup []))∨(lk g s.slots=some (.tup [])∧t= .tup [])
theorem same_iff {d:Option Nat} {t:T} {s:St}:same d t s↔∀ n,d=some n→lk n s.slots=some t:=by
 cases d<;>simp [same]
theorem zNW {d:Option Nat} {s:St} {o:Option (Prop×T)}:rr1 d s o↔∃ p t,o=some (p,t)∧p∧same d t s:=by
 cases o with
 |none=>simp [rr1]
 |some q=>
  obtain ⟨p,t⟩:=q
  constructor
  ·exact fun h=>⟨p,t,rfl,h.1,h.2⟩
  ·rintro ⟨p',t',h1,h2,h3⟩
   simp only [Option.some.injEq] at h1
   cases h1
   exact ⟨h2,h3⟩
theorem zJ1 {s:St} {x:IN}:RR s x↔∃ t,RdT s x t∧same x.dst t s:=by
 unfold RR RdT
 cases x.g with
 |none=>
  simp only [zNW]
  constructor
  ·rintro ⟨p,t,h1,h2,h3⟩;exact ⟨t,⟨p,h1,h2⟩,h3⟩
  ·rintro ⟨t,⟨p,h1,h2⟩,h3⟩;exact ⟨p,t,h1,h2,h3⟩
 |some q=>
  obtain ⟨g,b⟩:=q
  simp only
  constructor
  ·intro h
   unfold grd at h
   split at h
   ·rename_i c hl
    obtain ⟨h1,h2⟩:=h
    by_cases e:c=b
    ·obtain ⟨p,t,k1,k2,k3⟩:=zNW.1 (h1 e)
     exact ⟨t, .inl ⟨c,hl,fun _=>⟨p,k1,k2⟩,fun e'=>absurd e e'⟩,k3⟩
    ·exact ⟨.tup [], .inl ⟨c,hl,fun e'=>absurd e' e,fun _=>rfl⟩,h2 (by cases c<;>cases b<;>simp at e ⊢)⟩
   ·rename_i hl
    exact ⟨.tup [], .inr ⟨hl,rfl⟩,h⟩
   ·exact h.elim
  ·rintro ⟨t,h|⟨h1,rfl⟩,hs⟩
   ·obtain ⟨c,hl,h1,h2⟩:=h
    rw [hl]
    refine ⟨fun e=> ?_,fun e=> ?_⟩
    ·obtain ⟨p,k1,k2⟩:=h1 e
     exact zNW.2 ⟨p,t,k1,k2,hs⟩
    ·have:=h2 (by cases c<;>cases b<;>simp at e ⊢)
     rw [←this];exact hs
   ·rw [h1];exact hs
theorem zUG {s s':St} {x:IN} (h:∀ d,x.uses d=true→lk d s.slots=lk d s'.slots):∀ y∈x.i.opnds,s.eval y=s'.eval y:=by
 intro y hy
 cases y with
 |tmp t=>exact h t (by simp only [IN.uses,Bool.or_eq_true,List.any_eq_true];exact .inl ⟨_,hy,by simp [zZS]⟩)
 |const v=>rfl
 |func f=>rfl
 |global g=>rfl
theorem zPi {s s':St} {x:IN} {t:T} (h:∀ d,x.uses d=true→lk d s.slots=lk d s'.slots) (ho:s.objs=s'.objs) (hr:RdT s x t):RdT s' x t:=by
 have e:=zSr (zUG h) ho
 unfold RdT at*
 split at hr
 ·rw [←e];exact hr
 ·rename_i g b hg
  have hl:lk g s.slots=lk g s'.slots:=h g (by simp [IN.uses,hg])
  rw [←e, ←hl];exact hr
theorem zYj {s s':St} {x:IN} (h:∀ d,x.uses d=true→lk d s.slots=lk d s'.slots) (hd:∀ d,x.dst=some d→lk d s.slots=lk d s'.slots) (ho:s.objs=s'.objs) (hr:RR s x):RR s' x:=by
 obtain ⟨t,h1,h2⟩:=zJ1.1 hr
 refine zJ1.2 ⟨t,zPi h ho h1,same_iff.2 fun n hn=> ?_⟩
 rw [←hd n hn];exact same_iff.1 h2 n hn
theorem zJ2 {s:St} {d:Option Nat} {t:T} {n:Nat} (h:∀ m,d=some m→m≠n):lk n (s.put d t).slots=lk n s.slots:=by
 cases d with
 |none=>rfl
 |some m=>simp [St.put,St.set,lk,h m rfl]
theorem zJ3 {s:St} {d:Option Nat} {t:T} {n:Nat} (h:d=some n):lk n (s.put d t).slots=some t:=by
 subst h;simp [St.put,St.set,lk]
theorem zIT {s:St} {d:Option Nat} {t:T}:(s.put d t).objs=s.objs:=by cases d<;>rfl
theorem zQ2 {x q:IN} (h:okQ x q=true) (d:Nat) (hd:x.dst=some d):(∀ n,q.uses n=true→d≠n)∧(∀ n,q.dst=some n→d≠n):=by
 unfold okQ at h
 rw [hd] at h
 simp only [Bool.and_eq_true,Bool.not_eq_true'] at h
 refine ⟨fun n hn e=> ?_,fun n hn e=> ?_⟩
 ·subst e;rw [hn] at h;cases h.1
 ·subst e;rw [hn] at h;simp at h
theorem zJ4 {s:St} {x q:IN} (h:okQ x q=true) (t:T) (hr:RR s q):RR (s.put x.dst t) q:=
 zYj (fun n hn=>(zJ2 fun m hm=>(zQ2 h m hm).1 n hn).symm) (fun n hn=>(zJ2 fun m hm=>(zQ2 h m hm).2 n hn).symm) zIT.symm hr
theorem zSs {x:IN} (h:zIh x=true) (d:Nat) (hd:x.dst=some d):∀ n,x.uses n=true→d≠n:=by
 unfold zIh at h
 rw [hd] at h
 simp only [Bool.not_eq_true'] at h
 intro n hn e
 subst e;rw [hn] at h;cases h
theorem zNX {s:St} {x:IN} (h:zIh x=true) (u:T) {t:T} (hr:RdT s x t):RdT (s.put x.dst u) x t:=
 zPi (fun n hn=>(zJ2 fun m hm=>zSs h m hm n hn).symm) zIT.symm hr
section
variable {P:Program} {E:Env} {s:St} {a:Act} {w:World} {ops:Array Oper} {md:Region.Mode} {K:Act→World→Prop}
theorem zWs {d:Option Nat} {y:Value} (hd:∀ n,d=some n→n<E.nt) (h:Sim E s (a.put d y) w):Sim E (s.put d .any) a w:=by
 cases d with
 |none=>exact h
 |some d=>
  obtain ⟨S,ρ,foot,h⟩:=h
  have hnt:a.tmps.size=E.nt:=by have:=h.nt;simpa [Act.put] using this
  exact ⟨S,ρ,foot,{
   nt:=hnt
   defers:=by have:=h.defers;simpa [Act.put] using this
   slots:=fun n t hn=>by
    simp only [St.put,St.set,lk] at hn
    split at hn
    ·simp only [Option.some.injEq] at hn;subst hn;simp [Rep]
    ·rename_i e
     have:=h.slots n t hn
     rwa [zQA a d n y (hnt▸hd d rfl),if_neg e] at this
   objs:=h.objs,nodup:=h.nodup,apart:=h.apart,mine:=h.mine,shared:=h.shared,S0:=h.S0,kept:=h.kept,pins:=h.pins }⟩
theorem zTc {x:IN} {t:T} {o:Oper} (hc:zC5 P E.nt ops o=some x) (hr:RdT s x t) (hs:Sim E s a w):∃ y,zIi P ops o y a w∧Sim E (s.put x.dst t) (a.put o.dst y) w:=by
 obtain ⟨e1,e2,e3,e4⟩:=zDw hc
 have go:(∃ p,zAe s x.i=some (p,t)∧p)→Region.wanted o (yielded ops a.tmps)=true→∃ y,zIi P ops o y a w∧Sim E (s.put x.dst t) (a.put o.dst y) w:=by
  rintro ⟨p,h1,h2⟩ hw
  obtain ⟨S,ρ,foot,hx⟩:=hs
  obtain ⟨y,y1,y2⟩:=zIL hx e1 h1 h2
  refine ⟨y, .inl ⟨hw,y2 w fun _ _=>rfl⟩, ?_⟩
  rw [e2]
  exact ⟨S,ρ,foot,hx.put e3 y1⟩
 have skip:t= .tup []→Region.wanted o (yielded ops a.tmps)=false→∃ y,zIi P ops o y a w∧Sim E (s.put x.dst t) (a.put o.dst y) w:=by
  rintro rfl hw
  exact ⟨undef, .inr ⟨hw,rfl⟩,by rw [e2];exact zDt hs e3⟩
 unfold RdT at hr
 split at hr
 ·rename_i hg
  exact go hr (zEe e4 hg)
 ·rename_i g b hg
  rcases hr with ⟨c,hl,h1,h2⟩|⟨hl,ht⟩
  ·have hw:=zEf e4 hg (zGR hs hl)
   by_cases e:c=b
   ·exact go (h1 e) (by rw [hw];simp [e])
   ·exact skip (h2 e) (by rw [hw];simp [e])
  ·exact skip ht (zDK e4 hg (zF2 hs hl))
def zMF (P:Program) (E:Env) (ops:Array Oper) (j:Nat) (K:St→Prop) (s:St):Prop:=
 ∀ a w,Sim E s a w→kOp P ops j (fun a' w'=>∃ s',K s'∧Sim E s' a' w') a w
theorem zUH {j:Nat} {K K':St→Prop} {s:St} (hK:∀ s,K s→K' s) (h:zMF P E ops j K s):zMF P E ops j K' s:=
 fun a w hs=>zLK (fun _ _ ⟨s',h1,h2⟩=>⟨s',hK _ h1,h2⟩) (h a w hs)
def Sub (md:Region.Mode) (ops:Array Oper) (j:Nat) (pend pend':Nat×IN→Prop):Prop:=∀ q,pend q→pend' q∨zZT md ops j q.1
def zCZ (P:Program) (E:Env) (md:Region.Mode) (ops:Array Oper) (K:Act→World→Prop):Nat→(Nat×IN→Prop)→Array Bool→St→Prop
 |0,_,listed,s=>Region.ready md ops listed=[]∧∀ a w,Sim E s a w→K a w
 |f+1,pend,listed,s=>(Region.ready md ops listed=[]→∀ a w,Sim E s a w→K a w)∧
  ∀ j∈Region.ready md ops listed,zMF P E ops j (fun s'=>∃ pend',Sub md ops j pend pend'∧(∀ q,pend' q→pend q)∧(∀ q,pend' q→RR s' q.2)∧zCZ P E md ops K f pend' (listed.setIfInBounds j true) s') s
theorem zF6:∀ {f:Nat} {pend pend':Nat×IN→Prop} {listed:Array Bool} {s:St},(∀ q,pend q→pend' q)→zCZ P E md ops K f pend' listed s→zCZ P E md ops K f pend listed s
 |0,_,_,_,_,_,h=>h
 |f+1,pend,pend',listed,s,hp,h=>⟨h.1,fun j hj=>zUH (fun s' ⟨p2,h1,h2,h3,h4⟩=>
   ⟨fun q=>p2 q∧pend q,fun q hq=>(h1 q (hp q hq)).imp (fun h=>⟨h,hq⟩) id,fun q hq=>hq.2,fun q hq=>h3 q hq.1,zF6 (fun q hq=>hq.1) h4⟩) (h.2 j hj)⟩
theorem zYk {f:Nat} {pend:Nat×IN→Prop} {listed:Array Bool} {s s':St} (he:Ent E s s') (h:zCZ P E md ops K f pend listed s'):zCZ P E md ops K f pend listed s:=by
 cases f with
 |zero=>exact ⟨h.1,fun a w hs=>h.2 a w (he a w hs)⟩
 |succ f=>exact ⟨fun hr a w hs=>h.1 hr a w (he a w hs),fun j hj a w hs=>h.2 j hj a w (he a w hs)⟩
theorem zGm {Q:Exit→Act→World→Prop} (hQ:∀ a w,K a w→Q .normal a w):∀ (f:Nat) (pend:Nat×IN→Prop) (listed:Array Bool) (s:St) (a:Act) (w:World),
  zCZ P E md ops K f pend listed s→Sim E s a w→wpAny P md ops Q f listed a w
 |0,_,_,_,a,w,h,hs=>⟨h.1,hQ _ _ (h.2 a w hs)⟩
 |f+1,_,_,_,a,w,h,hs=>⟨fun hr=>hQ _ _ (h.1 hr a w hs),fun j hj=>zSn (zLK (fun a' w' ⟨s',⟨_,_,_,_,h4⟩,hs'⟩=>zGm hQ f _ _ s' a' w' h4 hs') (h.2 j hj a w hs))⟩
theorem zMG {i:Nat} {oi:Oper} {x:IN} (hi:ops[i]? =some oi) (hx:zC5 P E.nt ops oi=some x) (hself:zIh x=true)
  (hsel:∀ (j:Nat) (o:Oper) cs b,ops[j]? =some o→o.op≠ .select cs b):
  ∀ (fuel:Nat) (pend:Nat×IN→Prop) (listed:Array Bool) (s:St) (t:T),
   (∀ j oj,ops[j]? =some oj→j≠i→listed.getD j true=false→(∀ e∈oj.after,Region.binds md e=true→e.on≠i)→oi.apart ops oj=true)→
   Closed md ops listed→i∈Region.ready md ops listed→(∀ q,pend q→okQ x q.2=true)→(∀ q,pend q→RR s q.2)→RdT s x t→
   zCZ P E md ops K fuel (fun q=>q=(i,x)∨pend q) (listed.setIfInBounds i true) (s.put x.dst t)→zCZ P E md ops K (fuel+1) pend listed s:=by
 obtain ⟨_,e2,e3,_⟩:=zDw hx
 intro fuel
 have own:∀ (fuel:Nat) (pend:Nat×IN→Prop) (listed:Array Bool) (s:St) (t:T),(∀ q,pend q→okQ x q.2=true)→(∀ q,pend q→RR s q.2)→RdT s x t→
   zCZ P E md ops K fuel (fun q=>q=(i,x)∨pend q) (listed.setIfInBounds i true) (s.put x.dst t)→
   zMF P E ops i (fun s'=>∃ pend',Sub md ops i pend pend'∧(∀ q,pend' q→pend q)∧(∀ q,pend' q→RR s' q.2)∧zCZ P E md ops K fuel pend' (listed.setIfInBounds i true) s') s:=by
  intro fuel pend listed s t hq hR hr H a w hs
  obtain ⟨y,y1,y2⟩:=zTc hx hr hs
  exact y1.kOp hi ⟨s.put x.dst t,⟨pend,fun q hq=> .inl hq,fun q hq=>hq,fun q hp=>zJ4 (hq q hp) t (hR q hp),zF6 (fun q hq=> .inr hq) H⟩,y2⟩
 induction fuel with
 |zero=>
  intro pend listed s t _ _ hr hq hR hrd H
  refine ⟨fun h=>(by rw [h] at hr;cases hr),fun j hj=> ?_⟩
  by_cases hji:j=i
  ·subst hji;exact own 0 pend listed s t hq hR hrd H
  ·have:=ready_mono hj hji
   rw [H.1] at this
   cases this
 |succ fuel ih=>
  intro pend listed s t hfree hcl hr hq hR hrd H
  refine ⟨fun h=>(by rw [h] at hr;cases hr),fun j hj=> ?_⟩
  by_cases hji:j=i
  ·subst hji;exact own _ pend listed s t hq hR hrd H
  ·have h1:=H.2 j (ready_mono hj hji)
   obtain ⟨hjun,oj,hoj,hall⟩:=mem_ready.1 hj
   have hiun:listed.getD i false≠true:=fun h1=>by
    have h0:=(mem_ready.1 hr).1
    rcases Nat.lt_or_ge i listed.size with h'|h'
    ·simp [h'] at h0 h1;rw [h0] at h1;cases h1
    ·simp [Array.getElem?_eq_none h'] at h1
   have hnot:∀ e∈oj.after,Region.binds md e=true→e.on≠i:=fun e he hb heq=>by
    have h1:=hall e he hb
    rw [heq] at h1
    exact hiun h1
   have hap:=hfree j oj hoj hji hjun hnot
   have hfree':∀ k ok,ops[k]? =some ok→k≠i→(listed.setIfInBounds j true).getD k true=false→
     (∀ e∈ok.after,Region.binds md e=true→e.on≠i)→oi.apart ops ok=true:=fun k ok hk hki hun hno=>by
    refine hfree k ok hk hki ?_ hno
    by_cases hjk:j=k
    ·subst hjk;exact hjun
    ·rw [getD_set_ne true hjk] at hun;exact hun
   intro a w hs
   obtain ⟨y,y1,y2⟩:=zTc hx hrd hs
   refine zLK ?_ (zWg (i:=i) hoj hap (fun cs b=>hsel j oj cs b hoj) (h1 _ _ y2))
   rintro a' w' ⟨s2,⟨p2,k1,k2,k3,k4⟩,hs2⟩
   have hin:p2 (i,x):=(k1 (i,x) (.inl rfl)).resolve_right fun hn=>hiun (hn listed hcl hj)
   obtain ⟨t',r1,r2⟩:=zJ1.1 (k3 _ hin)
   refine ⟨s2.put x.dst .any,⟨fun q=>p2 q∧pend q, ?_,fun q hq=>hq.2,fun q hp=>zJ4 (hq q hp.2) _ (k3 q hp.1), ?_⟩,zWs e3 (by rw [e2] at hs2;exact hs2)⟩
   ·intro q hp
    exact (k1 q (.inr hp)).imp (fun h=>⟨h,hp⟩) id
   ·refine ih _ _ _ t' hfree' (hcl.step hj) (ready_mono hr (Ne.symm hji)) (fun q hp=>hq q hp.2) (fun q hp=>zJ4 (hq q hp.2) _ (k3 q hp.1)) (zNX hself _ r1) ?_
    rw [Array.setIfInBounds_comm _ _ hji]
    refine zYk (s':=s2) (zNT (fun n u hn=> ?_) (fun n ob hn=> ?_)) (zF6 (fun q hp=> ?_) k4)
    ·right
     by_cases e:x.dst=some n
     ·rw [zJ3 e]
      have:=same_iff.1 r2 n e
      rw [this] at hn;exact hn
     ·rw [zJ2 fun m hm e'=>e (by rw [hm,e']),zJ2 fun m hm e'=>e (by rw [hm,e'])];exact hn
    ·rw [zIT,zIT];exact hn
    ·rcases hp with rfl|hp
     ·exact hin
     ·exact hp.1
theorem zTd {l:List IN} {s:St} (h:rrL l s):∀ q∈l,RR s q:=by
 induction l with
 |nil=>simp
 |cons x l ih=>
  intro q hq
  rcases List.mem_cons.1 hq with rfl|hq
  ·exact h.1
  ·exact ih h.2 q hq
theorem zNY {K:St→Prop} (hs:Region.noSelect ops=true):∀ {π:List (Bool×Nat)} {tab:List (Nat×Nat)} {pend:List (Nat×IN)} {listed:Array Bool} {l:List (Option (List IN)×IN)} {s:St},
  zMs P E.nt md ops π tab pend=some l→zFl md ops π listed=true→Closed md ops listed→zIJ md ops tab→(∀ q∈pend,RR s q.2)→OkR P E l K s→
  zCZ P E md ops (fun a w=>∃ s',K s'∧Sim E s' a w) π.length (fun q=>q∈pend) listed s
 |[],_,_,_,_,s,hc,hB,_,_,_,h=>by
  simp only [zMs,Option.some.injEq] at hc;subst hc
  exact ⟨by simpa [zFl] using hB,fun a w hw=>⟨s,h,hw⟩⟩
 |(b,i)::r,tab,pend,listed,l,s,hc,hB,hcl,htab,hR,h=>by
  simp only [zMs] at hc
  split at hc
  ·rename_i o ho
   split at hc
   ·rename_i x hx
    have htab':=htab.cons ho
    obtain ⟨e1,e2,e3,e4⟩:=zDw hx
    cases b with
    |false=>
     simp only [zFl,Bool.and_eq_true] at hB
     obtain ⟨⟨b1,b2⟩,b3⟩:=hB
     have b1:i∈Region.ready md ops listed:=by simpa using b1
     simp only [zQC] at hc
     split at hc
     ·rename_i hok
      simp only [Bool.and_eq_true,List.all_eq_true] at hok
      simp only [Option.map_eq_some_iff] at hc
      obtain ⟨l',hl',rfl⟩:=hc
      have go:∀ t,RdT s x t→OkR P E l' K (s.put x.dst t)→zCZ P E md ops (fun a w=>∃ s',K s'∧Sim E s' a w) (r.length+1) (fun q=>q∈pend) listed s:=by
       intro t hrd hk
       refine zMG ho hx hok.1 (Region.noSelect_spec hs) _ _ _ _ t (Region.free_spec ho b2) hcl b1 hok.2 hR hrd ?_
       have hR':∀ q∈(i,x)::pend,RR (s.put x.dst t) q.2:=by
        intro q hq
        rcases List.mem_cons.1 hq with rfl|hq
        ·exact zJ1.2 ⟨t,zNX hok.1 t hrd,same_iff.2 fun n hn=>zJ3 hn⟩
        ·exact zJ4 (hok.2 q hq) t (hR q hq)
       have:=zNY hs hl' b3 (hcl.step b1) htab' hR' hk
       exact zF6 (fun q hq=>by simpa using hq) this
      simp only [OkR] at h
      split at h
      ·rename_i hg
       obtain ⟨p,t,h3,h4,h5⟩:=h
       exact go t (by unfold RdT;rw [hg];exact ⟨p,h3,h4⟩) h5
      ·rename_i g gb hg
       rcases h with ⟨c,hl,hy,hn⟩|⟨hl,hn⟩
       ·by_cases e:c=gb
        ·obtain ⟨p,t,h3,h4,h5⟩:=hy e
         exact go t (by unfold RdT;rw [hg];exact .inl ⟨c,hl,fun _=>⟨p,h3,h4⟩,fun e'=>absurd e e'⟩) h5
        ·exact go (.tup []) (by unfold RdT;rw [hg];exact .inl ⟨c,hl,fun e'=>absurd e' e,fun _=>rfl⟩) (hn e)
       ·exact go (.tup []) (by unfold RdT;rw [hg];exact .inr ⟨hl,rfl⟩) hn
     ·cases hc
    |true=>
     simp only [zFl,Bool.and_eq_true,beq_iff_eq] at hB
     have hrd:i∈Region.ready md ops listed:=by rw [hB.1];simp
     simp only [zQC,Option.map_eq_some_iff] at hc
     obtain ⟨l',hl',rfl⟩:=hc
     refine ⟨fun h0=>(by rw [hB.1] at h0;cases h0),fun j hj=> ?_⟩
     rw [hB.1] at hj;simp at hj;subst hj
     have fin:∀ s',rrK ((zCe (zBS md tab o.after.toList) pend).map (·.2)) (OkR P E l' K) s'→∃ pend',Sub md ops j (fun q=>q∈pend) pend'∧(∀ q,pend' q→q∈pend)∧(∀ q,pend' q→RR s' q.2)∧
       zCZ P E md ops (fun a w=>∃ s',K s'∧Sim E s' a w) r.length pend' (listed.setIfInBounds j true) s':=by
      rintro s' ⟨h1,h2⟩
      have hR':∀ q∈zCe (zBS md tab o.after.toList) pend,RR s' q.2:=fun q hq=>zTd h1 q.2 (List.mem_map.2 ⟨q,hq,rfl⟩)
      refine ⟨fun q=>q∈zCe (zBS md tab o.after.toList) pend,fun q hq=> ?_,fun q hq=>(List.mem_filter.1 hq).1,hR',zNY hs hl' hB.2 (hcl.step hrd) htab' hR' h2⟩
      cases hb:(zBS md tab o.after.toList).testBit q.1 with
      |true=>exact .inr (zMu htab ho hb)
      |false=>exact .inl (List.mem_filter.2 ⟨hq,by simp [hb]⟩)
     have go:zAn P E x (rrK ((zCe (zBS md tab o.after.toList) pend).map (·.2)) (OkR P E l' K)) s→∀ a w,Sim E s a w→Region.wanted o (yielded ops a.tmps)=true→
       kOp P ops j (fun a' w'=>∃ s',(∃ pend',Sub md ops j (fun q=>q∈pend) pend'∧(∀ q,pend' q→q∈pend)∧(∀ q,pend' q→RR s' q.2)∧
       zCZ P E md ops (fun a w=>∃ s',K s'∧Sim E s' a w) r.length pend' (listed.setIfInBounds j true) s')∧Sim E s' a' w') a w:=by
      intro hst a w hsim hw
      unfold kOp
      simp only [ho,hw,if_true]
      exact fun Q=>zF1 (fun a' w' ⟨s',q1,q2⟩=>⟨s',fin s' q1,q2⟩) (hst o e1 e2 e3 a w hsim)
     have skip:rrK ((zCe (zBS md tab o.after.toList) pend).map (·.2)) (OkR P E l' K) (s.put x.dst (.tup []))→∀ a w,Sim E s a w→Region.wanted o (yielded ops a.tmps)=false→
       kOp P ops j (fun a' w'=>∃ s',(∃ pend',Sub md ops j (fun q=>q∈pend) pend'∧(∀ q,pend' q→q∈pend)∧(∀ q,pend' q→RR s' q.2)∧
       zCZ P E md ops (fun a w=>∃ s',K s'∧Sim E s' a w) r.length pend' (listed.setIfInBounds j true) s')∧Sim E s' a' w') a w:=by
      intro hst a w hsim hw
      unfold kOp
      simp only [ho,hw,Bool.false_eq_true,if_false]
      exact ⟨_,fin _ hst,by rw [e2];exact zDt hsim e3⟩
     intro a w hsim
     simp only [OkR] at h
     split at h
     ·rename_i hg
      exact go h a w hsim (zEe e4 hg)
     ·rename_i g gb hg
      rcases h with ⟨c,hl,hy,hn⟩|⟨hl,hn⟩
      ·have hw:=zEf e4 hg (zGR hsim hl)
       by_cases e:c=gb
       ·exact go (hy e) a w hsim (by rw [hw];simp [e])
       ·exact skip (hn e) a w hsim (by rw [hw];simp [e])
      ·exact skip hn a w hsim (zDK e4 hg (zF2 hsim hl))
   ·cases hc
  ·cases hc
theorem zAaw {Q:Exit→St→Prop} {s:St} {l:List (Option (List IN)×IN)} (h:OkR P E l (Q .normal) s):Ok P E (.rops l) Q s:=by
 intro c hc a w hs
 cases c<;>simp only [comp] at hc
 case region id ops draw=>
  rcases zAV hc with ⟨l',h',_⟩|⟨l',h',_⟩|⟨l',h',hd',hD⟩|⟨l',h',_⟩
  ·cases h'
  ·cases h'
  ·cases h'
   subst hd'
   unfold zUu at hD
   simp only at hD
   split at hD
   ·rename_i hB
    simp only [Bool.and_eq_true,ordB,beq_iff_eq] at hB
    obtain ⟨⟨⟨h1,h2⟩,h3⟩,hm⟩:=hB
    obtain ⟨S,ρ,foot,hx⟩:=hs
    refine wp_region_any hm ?_
    have hA:=zNY (md:= .any) h1 hD h3 (zLj _) (fun k m hk=>by simp [lk] at hk) (by simp) h
    rw [h2] at hA
    exact zGm (Q:=fun e a' w'=>∃ s',Q e s'∧Sim E s' a' w') (fun a w h=>h) _ _ _ s a _ hA ⟨S,ρ,foot,hx.drawn (w.drawn+1)⟩
   ·cases hD
  ·cases h'
 all_goals (first|(rcases zAV hc with ⟨_,h',_⟩|⟨_,h',_⟩|⟨_,h',_⟩|⟨_,h',_⟩<;>cases h';done)|(split at hc<;>first|cases hc|(split at hc<;>first|cases hc|(split at hc<;>cases hc)))|(cases hc)|(simp at hc))
def zZW (P:Program) (nt:Nat) (md:Region.Mode) (ops:Array Oper) (f:Nat) (listed:Array Bool) (tab:List (Nat×Nat)) (pend:List (Nat×IN)) (i:Nat) (l:List IN) (x:IN) (r:RT):Prop:=
 ∃ o,ops[i]? =some o∧zC5 P nt ops o=some x∧l=(zCe (zBS md tab o.after.toList) pend).map (·.2)∧
  zGr P nt md ops f (listed.setIfInBounds i true) ((i,zBS md tab o.after.toList)::tab) (zCe (zBS md tab o.after.toList) pend)=some r
theorem zTe {K:St→Prop} {f:Nat} {listed:Array Bool} {tab:List (Nat×Nat)} {pend:List (Nat×IN)}:∀ {is:List Nat} {t:RT},
  is.foldr (fun i (acc:Option RT)=>
   match acc,ops[i]? with
   |some others,some o=>
    match zC5 P E.nt ops o with
    |some x=>(zGr P E.nt md ops f (listed.setIfInBounds i true) ((i,zBS md tab o.after.toList)::tab) (zCe (zBS md tab o.after.toList) pend)).map fun r=> .alt ((zCe (zBS md tab o.after.toList) pend).map (·.2)) x r others
    |none=>none
   |_,_=>none) (some .none)=some t→OkT P E t K s→∀ i∈is,∃ l x r o',zZW P E.nt md ops f listed tab pend i l x r∧OkT P E (.alt l x r o') K s
 |[],t,_,_=>by simp
 |i::is,t,h,hk=>by
  simp only [List.foldr_cons] at h
  split at h
  ·rename_i others o hacc ho
   split at h
   ·rename_i x hx
    simp only [Option.map_eq_some_iff] at h
    obtain ⟨r,hr,rfl⟩:=h
    intro j hj
    rcases List.mem_cons.1 hj with rfl|hj
    ·exact ⟨_,x,r,others,⟨o,ho,hx,rfl,hr⟩,hk⟩
    ·exact zTe hacc hk.2 j hj
   ·cases h
  ·cases h
theorem zNZ {K:St→Prop} (hs:Region.noSelect ops=true):∀ {f:Nat} {tab:List (Nat×Nat)} {pend:List (Nat×IN)} {listed:Array Bool} {t:RT} {s:St},
  zGr P E.nt md ops f listed tab pend=some t→Closed md ops listed→zIJ md ops tab→(∀ q∈pend,RR s q.2)→OkT P E t K s→
  zCZ P E md ops (fun a w=>∃ s',K s'∧Sim E s' a w) f (fun q=>q∈pend) listed s
 |0,tab,pend,listed,t,s,hc,_,_,_,h=>by
  simp only [zGr] at hc
  split at hc
  ·rename_i he
   simp only [Option.some.injEq] at hc
   subst hc
   exact ⟨by simpa using he,fun a w hw=>⟨s,h,hw⟩⟩
  ·cases hc
 |f+1,tab,pend,listed,t,s,hc,hcl,htab,hR,h=>by
  have eff:∀ (i:Nat) (l:List IN) (x:IN) (r o':RT),i∈Region.ready md ops listed→zZW P E.nt md ops f listed tab pend i l x r→OkT P E (.alt l x r o') K s→
    zMF P E ops i (fun s'=>∃ pend',Sub md ops i (fun q=>q∈pend) pend'∧(∀ q,pend' q→q∈pend)∧(∀ q,pend' q→RR s' q.2)∧
     zCZ P E md ops (fun a w=>∃ s',K s'∧Sim E s' a w) f pend' (listed.setIfInBounds i true) s') s:=by
   rintro j l x r o' hrd ⟨o,ho,hx,rfl,hl'⟩ hk
   have htab':=htab.cons ho
   obtain ⟨e1,e2,e3,e4⟩:=zDw hx
   have fin:∀ s',rrK ((zCe (zBS md tab o.after.toList) pend).map (·.2)) (OkT P E r K) s'→∃ pend',Sub md ops j (fun q=>q∈pend) pend'∧(∀ q,pend' q→q∈pend)∧(∀ q,pend' q→RR s' q.2)∧
     zCZ P E md ops (fun a w=>∃ s',K s'∧Sim E s' a w) f pend' (listed.setIfInBounds j true) s':=by
    rintro s' ⟨h1,h2⟩
    have hR':∀ q∈zCe (zBS md tab o.after.toList) pend,RR s' q.2:=fun q hq=>zTd h1 q.2 (List.mem_map.2 ⟨q,hq,rfl⟩)
    refine ⟨fun q=>q∈zCe (zBS md tab o.after.toList) pend,fun q hq=> ?_,fun q hq=>(List.mem_filter.1 hq).1,hR',zNZ hs hl' (hcl.step hrd) htab' hR' h2⟩
    cases hb:(zBS md tab o.after.toList).testBit q.1 with
    |true=>exact .inr (zMu htab ho hb)
    |false=>exact .inl (List.mem_filter.2 ⟨hq,by simp [hb]⟩)
   have go:zAn P E x (rrK ((zCe (zBS md tab o.after.toList) pend).map (·.2)) (OkT P E r K)) s→∀ a w,Sim E s a w→Region.wanted o (yielded ops a.tmps)=true→
     kOp P ops j (fun a' w'=>∃ s',(∃ pend',Sub md ops j (fun q=>q∈pend) pend'∧(∀ q,pend' q→q∈pend)∧(∀ q,pend' q→RR s' q.2)∧
     zCZ P E md ops (fun a w=>∃ s',K s'∧Sim E s' a w) f pend' (listed.setIfInBounds j true) s')∧Sim E s' a' w') a w:=by
    intro hst a w hsim hw
    unfold kOp
    simp only [ho,hw,if_true]
    exact fun Q=>zF1 (fun a' w' ⟨s',q1,q2⟩=>⟨s',fin s' q1,q2⟩) (hst o e1 e2 e3 a w hsim)
   have skip:rrK ((zCe (zBS md tab o.after.toList) pend).map (·.2)) (OkT P E r K) (s.put x.dst (.tup []))→∀ a w,Sim E s a w→Region.wanted o (yielded ops a.tmps)=false→
     kOp P ops j (fun a' w'=>∃ s',(∃ pend',Sub md ops j (fun q=>q∈pend) pend'∧(∀ q,pend' q→q∈pend)∧(∀ q,pend' q→RR s' q.2)∧
     zCZ P E md ops (fun a w=>∃ s',K s'∧Sim E s' a w) f pend' (listed.setIfInBounds j true) s')∧Sim E s' a' w') a w:=by
    intro hst a w hsim hw
    unfold kOp
    simp only [ho,hw,Bool.false_eq_true,if_false]
    exact ⟨_,fin _ hst,by rw [e2];exact zDt hsim e3⟩
   intro a w hsim
   have hk:=hk.1
   split at hk
   ·rename_i hg
    exact go hk a w hsim (zEe e4 hg)
   ·rename_i g gb hg
    rcases hk with ⟨c,hl,hy,hn⟩|⟨hl,hn⟩
    ·have hw:=zEf e4 hg (zGR hsim hl)
     by_cases e:c=gb
     ·exact go (hy e) a w hsim (by rw [hw];simp [e])
     ·exact skip (hn e) a w hsim (by rw [hw];simp [e])
    ·exact skip hn a w hsim (zDK e4 hg (zF2 hsim hl))
  simp only [zGr] at hc
  split at hc
  ·rename_i i hi
   have hrdy:=List.mem_of_find?_eq_some hi
   split at hc
   ·rename_i o ho
    split at hc
    ·rename_i x hx
     have htab':=htab.cons ho
     split at hc
     ·rename_i hok
      simp only [Bool.and_eq_true,List.all_eq_true] at hok
      obtain ⟨⟨b2,hself⟩,hq⟩:=hok
      simp only [Option.map_eq_some_iff] at hc
      obtain ⟨r,hr,rfl⟩:=hc
      have go:∀ u,RdT s x u→OkT P E r K (s.put x.dst u)→zCZ P E md ops (fun a w=>∃ s',K s'∧Sim E s' a w) (f+1) (fun q=>q∈pend) listed s:=by
       intro u hrd hk
       refine zMG ho hx hself (Region.noSelect_spec hs) _ _ _ _ u (Region.free_spec ho b2) hcl hrdy hq hR hrd ?_
       have hR':∀ q∈(i,x)::pend,RR (s.put x.dst u) q.2:=by
        intro q hq'
        rcases List.mem_cons.1 hq' with rfl|hq'
        ·exact zJ1.2 ⟨u,zNX hself u hrd,same_iff.2 fun n hn=>zJ3 hn⟩
        ·exact zJ4 (hq q hq') u (hR q hq')
       have:=zNZ hs hr (hcl.step hrdy) htab' hR' hk
       exact zF6 (fun q hq=>by simpa using hq) this
      simp only [OkT] at h
      split at h
      ·rename_i hg
       obtain ⟨p,u,h3,h4,h5⟩:=h
       exact go u (by unfold RdT;rw [hg];exact ⟨p,h3,h4⟩) h5
      ·rename_i g gb hg
       rcases h with ⟨c,hl,hy,hn⟩|⟨hl,hn⟩
       ·by_cases e:c=gb
        ·obtain ⟨p,u,h3,h4,h5⟩:=hy e
         exact go u (by unfold RdT;rw [hg];exact .inl ⟨c,hl,fun _=>⟨p,h3,h4⟩,fun e'=>absurd e e'⟩) h5
        ·exact go (.tup []) (by unfold RdT;rw [hg];exact .inl ⟨c,hl,fun e'=>absurd e' e,fun _=>rfl⟩) (hn e)
       ·exact go (.tup []) (by unfold RdT;rw [hg];exact .inr ⟨hl,rfl⟩) hn
     ·split at hc
      ·rename_i h1
       simp only [Option.map_eq_some_iff] at hc
       obtain ⟨r,hr,rfl⟩:=hc
       have h1:Region.ready md ops listed=[i]:=by simpa using h1
       refine ⟨fun h0=>(by rw [h1] at h0;cases h0),fun j hj=> ?_⟩
       rw [h1] at hj;simp at hj;subst hj
       exact eff j _ x r .none hrdy ⟨o,ho,hx,rfl,hr⟩ h
      ·cases hc
    ·cases hc
   ·cases hc
  ·split at hc
   ·rename_i he
    simp only [Option.some.injEq] at hc
    subst hc
    have he:Region.ready md ops listed=[]:=by simpa using he
    exact ⟨fun _ a w hw=>⟨s,h,hw⟩,fun j hj=>by rw [he] at hj;cases hj⟩
   ·rename_i he
    refine ⟨fun h0=>absurd (by rw [h0];rfl) he,fun j hj=> ?_⟩
    obtain ⟨l,x,r,o',ha,hk⟩:=zTe hc h j hj
    exact eff j l x r o' hj ha hk
theorem zAax {Q:Exit→St→Prop} {s:St} {t:RT} (h:OkT P E t (Q .normal) s):Ok P E (.tops t) Q s:=by
 intro c hc a w hs
 cases c<;>simp only [comp] at hc
 case region id ops draw=>
  rcases zAV hc with ⟨l',h',_⟩|⟨l',h',_⟩|⟨l',h',_⟩|⟨t',h',hd',hD⟩
  ·cases h'
  ·cases h'
  ·cases h'
  ·cases h'
   subst hd'
   unfold zQD at hD
   split at hD
   ·rename_i hB
    simp only [Bool.and_eq_true] at hB
    obtain ⟨h1,hm⟩:=hB
    obtain ⟨S,ρ,foot,hx⟩:=hs
    refine wp_region_any hm ?_
    have hA:=zNZ (md:= .any) h1 hD (zLj _) (fun k m hk=>by simp [lk] at hk) (by simp) h
    exact zGm (Q:=fun e a' w'=>∃ s',Q e s'∧Sim E s' a' w') (fun a w h=>h) _ _ _ s a _ hA ⟨S,ρ,foot,hx.drawn (w.drawn+1)⟩
   ·cases hD
 all_goals (first|(rcases zAV hc with ⟨_,h',_⟩|⟨_,h',_⟩|⟨_,h',_⟩|⟨_,h',_⟩<;>cases h';done)|(split at hc<;>first|cases hc|(split at hc<;>first|cases hc|(split at hc<;>cases hc)))|(cases hc)|(simp at hc))
end
end Go.Am

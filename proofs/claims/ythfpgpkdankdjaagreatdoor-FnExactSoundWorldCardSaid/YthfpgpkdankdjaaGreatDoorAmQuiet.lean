import Derived.Test.YthfpgpkdankdjaaGreatDoorAmUse
set_option linter.all false
namespace Go.Am
open Go Go.RowKit
def zIR (P:Program) (i:IN) (K:St→Prop) (s:St):Prop:=
 (∃ p t,zAe s i.i=some (p,t)∧p∧K (s.put i.dst t))∨
 ∃ f xs ts us vw c x,i.i= .call f xs∧zA6 s xs=some ts∧zBT s ((ts.map fun _=>false).zip ts)=some (us,[],vw,c)∧c∧ACall P f us (fun r _=>r= .v x)∧K (s.put i.dst (.v x))
def OkQ (P:Program):List IN→(St→Prop)→St→Prop
 |[],K,s=>K s
 |i::r,K,s=>
  match i.g with
  |none=>zIR P i (OkQ P r K) s
  |some (t,b)=>(∃ c,lk t s.slots=some (.v (.bool c))∧(c=b→zIR P i (OkQ P r K) s)∧(c≠b→OkQ P r K (s.put i.dst (.tup []))))∨(lk t s.slots=some (.tup [])∧OkQ P r K (s.put i.dst (.tup [])))
section
variable {P:Program} {E:Env} {s:St} {a:Act} {w:World} {S:Nat→Prop} {ρ:Nat→Option Hd} {foot:Nat→List Nat} {o:Oper}
theorem Kept.above {w w':World} (h:Kept [] w w'):zUw w w':=fun b hb=>h.block b hb (by simp)
theorem SimX.later (h:SimX E s a w S ρ foot) {w':World} (hk:Kept [] w w'):SimX E s a w' S ρ foot:=
 h.world (h.kept.trans' hk (by simp)) hk.size (fun b hb _=>hk.block b hb (by simp))
theorem Kept.trans0 {w w' w'':World} (h:Kept [] w w') (h':Kept [] w' w''):Kept [] w w'':=h.trans' h' (by simp)
theorem zAff {c:Call} {f:Nat} {fn:Func} (hsx:SimX E s a w S ρ foot) (hop:o.op= .call c) (hc:c.callee= .value (.func f)) (hf:P.funcs[f]? =some fn) (hb:fn.body.isSome=true) (hn:fn.name≠ "runtime.NumGoroutine")
  {ts us:List T} {vw:List Nat} {cc:Prop} {x:Value} (hev:zA6 s c.args.toList=some ts) (hp:zBT s ((ts.map fun _=>false).zip ts)=some (us,[],vw,cc)) (hcc:cc) (hC:ACall P f us (fun r _=>r= .v x)):
  o.quietAt P a (fun w'=>Kept [] w w') w x:=by
 unfold Oper.quietAt
 rw [zPg hop hc hf hb hn]
 refine ⟨rfl, ?_⟩
 have hl:=zC6 _ _ hev
 have hz:((ts.map fun _=>false).zip ts).map (·.2)=ts:=by rw [List.map_snd_zip];simp
 have hcells:RepRow S w ρ (fun i=>(c.args.map a.eval)[i]?) 0 ts []:=zEz hsx _ _ _ 0 hev fun j y hy=>by
  have:c.args[j]? =some y:=by simpa using hy
  simp [this]
 have hex:=zKW hp
 obtain ⟨F,g1,g2,_,g4⟩:=zKU (S1:=fun b=>S b∨∃ id,id∈vw∧b∈foot id) hsx (fun b hb=> .inl hb) (by rw [hz];exact hcells) hp hcc (fun id hid b hb=> .inr ⟨id,hid,hb⟩)
 have:F=[]:=by simpa using g2
 subst this
 refine (hC w (fun b=>S b∨∃ id,id∈vw∧b∈foot id) [] (c.args.map a.eval) (by rw [g4];simpa using hl.symm) g1 (by simp) (by simp) ?_ (hsx.inv.mono (fun _ h=> .inl h) fun _ _=>rfl)).mono ?_
 ·rintro b (h1|⟨id,h1,h2⟩)
  ·exact (hsx.shared b h1).1
  ·obtain ⟨ob',ho'⟩:=hex id h1
   exact (hsx.mine id ob' ho' b h2).2.1
 ·rintro e w' ⟨rv,r,l,S',Fr,Fa,rfl,rfl,_,hback⟩
  have:=hback.res
  simp only [Rep] at this
  obtain ⟨rfl,_⟩:=this
  exact ⟨rfl,hback.kept⟩
theorem zQ0 {x:Value} {C C':World→Prop} {w:World} (hC:∀ w,C w→C' w) (h:o.quietAt P a C w x):o.quietAt P a C' w x:=by
 unfold Oper.quietAt at*
 generalize (execOp a.eval o).run P w=r at*
 cases r with
 |ok n w'=>
  cases n<;>simp only [Oper.quietUpon] at h ⊢<;>try exact h
  exact ⟨h.1,h.2.mono fun e w'' ⟨h1,h2⟩=>⟨h1,hC _ h2⟩⟩
 |halt x w'=>simp only [Oper.quietUpon] at h
theorem zJZ {ops:Array Oper} {K:St→Prop}:∀ (l:List IN) (os:List Oper) (s:St) (a:Act),zFN P E.nt ops os=some l→SimX E s a w S ρ foot→OkQ P l K s→
  wpQuiet P ops (fun w'=>Kept [] w w') (fun a'=>∀ w',Kept [] w w'→∃ s',K s'∧Sim E s' a' w') os a
 |l,[],s,a,hc,h,hq=>by
  simp only [zFN,Option.some.injEq] at hc;subst hc
  exact fun w' hk=>⟨s,hq,S,ρ,foot,h.later hk⟩
 |l,o::os,s,a,hc,h,hq=>by
  simp only [zFN] at hc
  split at hc
  ·rename_i i l' h1 h2
   simp only [Option.some.injEq] at hc;subst hc
   obtain ⟨e1,e2,e3,e4⟩:=zDw h1
   have step:zIR P i (OkQ P l' K) s→o.quiet P a (fun w'=>Kept [] w w') (wpQuiet P ops (fun w'=>Kept [] w w') (fun a'=>∀ w',Kept [] w w'→∃ s',K s'∧Sim E s' a' w') os):=by
    rintro (⟨p,t,q1,q2,q3⟩|⟨f,xs,ts,us,vw,c,x,q1,q2,q3,q4,q5,q6⟩)
    ·obtain ⟨y,y1,y2⟩:=zIL h e1 q1 q2
     refine ⟨y,fun w' hk=> ?_, ?_⟩
     ·unfold Oper.quietAt
      rw [y2 w' hk.above]
      exact ⟨rfl,rfl⟩
     ·rw [e2]
      exact zJZ l' os _ _ h2 (h.put e3 y1) q3
    ·rw [q1] at e1
     unfold zBR at e1
     split at e1<;>try (simp at e1;done)
     case h_23 cl hop=>
      split at e1<;>try (first|(simp at e1;done)|(repeat' split at e1)<;>simp at e1;done)
      rename_i f' hcal
      split at e1
      ·rename_i fn hfn
       split at e1
       ·rename_i hb
        simp only [Bool.and_eq_true,bne_iff_ne,ne_eq] at hb
        simp only [Option.some.injEq,I.call.injEq] at e1
        obtain ⟨rfl,rfl⟩:=e1
        refine ⟨x,fun w' hk=>zQ0 (fun w'' hk'=>hk.trans0 hk') (zAff (h.later hk) hop hcal hfn hb.1 hb.2 q2 q3 q4 q5), ?_⟩
        rw [e2]
        exact zJZ l' os _ _ h2 (h.put e3 (by simp [Rep])) q6
       ·cases e1
      ·cases e1
     all_goals (repeat' split at e1)<;>simp at e1
   simp only [OkQ] at hq
   simp only [wpQuiet]
   split at hq
   ·rename_i hg
    rw [zEe e4 hg,if_pos rfl]
    exact step hq
   ·rename_i t b hg
    have hu:∀ y:T,y= .tup []→SimX E (s.put i.dst y) (a.put i.dst undef) w S ρ foot:=fun y hy=>by subst hy;exact h.put e3 (by simp only [Rep];exact ⟨#[],rfl,rfl,by simp [RepRow]⟩)
    rcases hq with ⟨c,hl,hy,hn⟩|⟨hl,hn⟩
    ·skip
     have hw:=zEf e4 hg (zGR ⟨S,ρ,foot,h⟩ hl)
     by_cases e:c=b
     ·rw [hw,if_pos (by simp [e])]
      exact step (hy e)
     ·rw [hw,if_neg (by simp [e]),e2]
      exact zJZ l' os _ _ h2 (hu _ rfl) (hn e)
    ·rw [zDK e4 hg (zF2 ⟨S,ρ,foot,h⟩ hl),if_neg (by simp),e2]
     exact zJZ l' os _ _ h2 (hu _ rfl) hn
  ·cases hc
theorem zAat {Q:Exit→St→Prop} {s:St} {l:List IN} (h:OkQ P l (Q .normal) s):Ok P E (.dops l) Q s:=by
 intro c hc a w hs
 cases c<;>simp only [comp] at hc
 case region id ops draw=>
  rcases zAV hc with ⟨l',h',_⟩|⟨l',h',hd',hl,hB1,hB2⟩|⟨l',h',_⟩|⟨l',h',_⟩
  ·cases h'
  ·cases h'
   subst hd'
   obtain ⟨S,ρ,foot,hx⟩:=hs
   have hx1:=hx.drawn (w.drawn+1)
   exact wp_region_quiet hB2 hB1 (Kept.refl _ _) (zJZ l ops.toList s a hl hx1 h)
  ·cases h'
  ·cases h'
 all_goals (first|(rcases zAV hc with ⟨_,h',_⟩|⟨_,h',_⟩|⟨_,h',_⟩|⟨_,h',_⟩<;>cases h';done)|(split at hc<;>first|cases hc|(split at hc<;>first|cases hc|(split at hc<;>cases hc)))|(cases hc)|(simp at hc))
theorem zNT {s':St} (h1:∀ n t,lk n s'.slots=some t→t= .any∨lk n s.slots=some t) (h2:∀ d ob,lk d s'.objs=some ob→lk d s.objs=some ob):Ent E s s':=by
 rintro a w ⟨S,ρ,foot,h⟩
 exact ⟨S,ρ,foot,{
  nt:=h.nt,defers:=h.defers
  slots:=fun n t hn=>by
   rcases h1 n t hn with rfl|h3
   ·simp [Rep]
   ·exact h.slots n t h3
  objs:=fun d ob hl=>h.objs d ob (h2 d ob hl)
  nodup:=fun d ob hl=>h.nodup d ob (h2 d ob hl)
  apart:=fun d ob d' ob' hl hl'=>h.apart d ob d' ob' (h2 d ob hl) (h2 d' ob' hl')
  mine:=fun d ob hl=>h.mine d ob (h2 d ob hl)
  shared:=h.shared,S0:=h.S0,kept:=h.kept,pins:=h.pins }⟩
def zKX (l:List (Nat×T)):List Nat→List (Nat×T)
 |[]=>[]
 |n::r=>(n,match lk n l with|some t=>t|none=> .any)::zKX l r
def zIS (l:List (Nat×Ob)):List Nat→List (Nat×Ob)
 |[]=>[]
 |n::r=>match lk n l with|some ob=>(n,ob)::zIS l r|none=>zIS l r
theorem zQ1 {l:List (Nat×T)}:∀ {ns:List Nat} {n:Nat} {t:T},lk n (zKX l ns)=some t→t= .any∨lk n l=some t
 |[],n,t,h=>by simp [zKX,lk] at h
 |m::r,n,t,h=>by
  simp only [zKX,lk] at h
  split at h
  ·rename_i e
   subst e
   simp only [Option.some.injEq] at h
   split at h
   ·rename_i t' ht;subst h;exact .inr ht
   ·exact .inl h.symm
  ·exact zQ1 h
theorem zLQ {l:List (Nat×Ob)}:∀ {ns:List Nat} {n:Nat} {t:Ob},lk n (zIS l ns)=some t→lk n l=some t
 |[],n,t,h=>by simp [zIS,lk] at h
 |m::r,n,t,h=>by
  simp only [zIS] at h
  split at h
  ·rename_i ob ho
   simp only [lk] at h
   split at h
   ·rename_i e;subst e;rw [ho];exact h
   ·exact zLQ h
  ·exact zLQ h
end
end Go.Am

import Derived.Test.YthfpgpkdankdjaaGreatDoorAmPure4
import Derived.Laws.Cover3
import Derived.Laws.Append
set_option linter.all false
namespace Go.Am
open Go Go.RowKit
section
variable {P:Program} {E:Env} {s:St} {a:Act} {w:World} {S:Nat→Prop} {ρ:Nat→Option Hd} {foot:Nat→List Nat} {o:Oper}
theorem zS7 {i:IN} {K:St→Prop} {p:Prop} {t:T} (hp:zAe s i.i=some (p,t)) (hpp:p) (hK:K (s.put i.dst t)):zAn P E i K s:=by
 intro o h1 h2 h3 a w ⟨S,ρ,foot,hx⟩ Q
 obtain ⟨y,y1,y2⟩:=zIL hx h1 hp hpp
 rw [y2 w (fun _ _=>rfl),Oper.upon_value,h2]
 exact ⟨_,hK,S,ρ,foot,hx.put h3 y1⟩
def zQM (K:Bool→Prop) (neg:Bool):Option T→Prop
 |some (.sl _ _ rows)=>∀ b:Bool,(b= !neg→rows=[])→K b
 |some (.ref _ _ n)=>∀ b:Bool,(b= !neg→n=0)→K b
 |some (.v (.slice none 0 0))=>K (!neg)
 |_=>False
theorem zNP {x:Operand} {a0:Option Addr} {n c:Nat} {t e u:TypeId} {neg:Bool} {o:Oper} (hop:o.op= .binOp (if neg then .neq else .eql) t x (.const (.slice none 0 0)) u) (ht:P.underlying t=some (.slice e)) (hx:a.eval x= .slice a0 n c):
  (execOp a.eval o).run P w= .ok (.value (.bool (if neg then !a0.isNone else a0.isNone))) w:=by
 have key:(do eqGuard (if neg then .neq else .eql) t x (.const (.slice none 0 0)) (.slice a0 n c) (.slice none 0 0);binOp (if neg then .neq else .eql) t (.slice a0 n c) (.slice none 0 0):Sem Value).run P w= .ok (.bool (if neg then !a0.isNone else a0.isNone)) w:=by
  cases neg with
  |true=>simp [eqGuard,binOp,Sem.run_bind,run_equal_slice_nil w t e a0 n c ht]
  |false=>simp [eqGuard,binOp,Sem.run_bind,run_equal_slice_nil w t e a0 n c ht]
 have:=zA1 key
 have hc:a.eval (.const (.slice none 0 0))= .slice none 0 0:=rfl
 simpa [execOp,hop,hx,hc] using this
theorem zAbA {d:Option Nat} {g:Option (Nat×Bool)} {K:St→Prop} {neg:Bool} {x:Operand} (hq:zQM (fun b=>K (s.put d (.v (.bool b)))) neg (s.eval x)):zAn P E ⟨d,g, .isn neg x⟩ K s:=by
 intro o h1 h2 h3 a w ⟨S,ρ,foot,hx⟩ Q
 have fin:∀ (t e u:TypeId),P.underlying t=some (.slice e)→o.op= .binOp (if neg then .neq else .eql) t x (.const (.slice none 0 0)) u→
   o.upon P a (fun a' w'=>∃ s',K s'∧Sim E s' a' w') Q ((execOp a.eval o).run P w):=by
  intro t e u ht hop
  have put:∀ b:Bool,K (s.put d (.v (.bool b)))→∃ s',K s'∧Sim E s' (a.put d (.bool b)) w:=fun b hb=>⟨_,hb,S,ρ,foot,hx.put h3 (by simp [Rep])⟩
  unfold zQM at hq
  split at hq
  ·rename_i own k rows hev
   have hr:=hx.eval hev
   simp only [Rep] at hr
   obtain ⟨a0,c,e1,e2⟩:=hr
   rw [zNP hop ht e1,Oper.upon_value,h2]
   refine put _ (hq _ fun hb=> ?_)
   rcases e2 with ⟨_,e2,_⟩|⟨b,off,_,_,_,_,rfl,_⟩
   ·exact e2
   ·cases neg<;>simp at hb
  ·rename_i id lo n hev
   have hr:=hx.eval hev
   simp only [Rep] at hr
   obtain ⟨_,hd,a0,c,_,e1,_,e3,e4⟩:=hr
   rw [zNP hop ht e1,Oper.upon_value,h2]
   refine put _ (hq _ fun hb=> ?_)
   rcases e4 with rfl|⟨b,off,_,rfl⟩
   ·omega
   ·cases neg<;>simp at hb
  ·rename_i hev
   have hr:=hx.eval hev
   simp only [Rep] at hr
   rw [zNP hop ht hr.1,Oper.upon_value,h2]
   have e:(if neg=true then !(none:Option Addr).isNone else (none:Option Addr).isNone)= !neg:=by cases neg<;>rfl
   rw [e]
   exact put _ hq
  ·exact hq.elim
 unfold zBR at h1
 split at h1<;>try (simp at h1;done)
 case h_11 op t' x' y' u' hop=>
  split at h1
  ·split at h1<;>simp at h1
  ·split at h1
   ·simp at h1
   ·simp at h1
   ·rename_i e ht
    split at h1
    ·rename_i hy
     simp only [Option.some.injEq,I.isn.injEq] at h1
     obtain ⟨rfl,rfl⟩:=h1
     unfold zMr at hy
     split at hy
     ·exact fin _ _ _ ht (by simpa using hop)
     ·cases hy
    ·cases h1
   ·rename_i e ht
    split at h1
    ·rename_i hy
     simp only [Option.some.injEq,I.isn.injEq] at h1
     obtain ⟨rfl,rfl⟩:=h1
     unfold zMr at hy
     split at hy
     ·exact fin _ _ _ ht (by simpa using hop)
     ·cases hy
    ·cases h1
   ·simp at h1
 all_goals (repeat' split at h1)<;>simp at h1
theorem zLm (h:SimX E s a w S ρ foot) {d:Nat} (hd:d<E.nt) {row:List T} {cs:Array Value} (el:TypeId) (hpi:E.okd d) (hno:zAk d s.objs) (hself:zAD d row) (hs:cs.size=row.length) (hr:RepRow S w ρ (fun i=>cs[i]?) 0 row []):
  Sim E ((s.new d ⟨row.length,[row]⟩).set d (.ptr d 0 0)) (a.put (some d) (.pointer (some ⟨w.heap.size,0,none⟩))) { w with heap:=w.heap.push (.cells cs el) }:=by
 have h1:=h.alloc (.cells cs el) w.drawn
 have hb:({ w with heap:=w.heap.push (.cells cs el),drawn:=w.drawn }:World).heap[w.heap.size]? =some (.cells cs el):=by simp
 have hf:∀ b,b∈([]:List Nat)∨S b→({ w with heap:=w.heap.push (.cells cs el),drawn:=w.drawn }:World).heap[b]? =w.heap[b]? :=by
  intro b hb
  rcases hb with hb|hb
  ·cases hb
  ·have:=(h.shared b hb).1
   simp only [Array.getElem?_push]
   rw [if_neg (by omega)]
 have h2:=h1.new (d:=d) (ob:=⟨row.length,[row]⟩) (hd:=⟨some (w.heap.size,0),1,row.length⟩) (F:=[w.heap.size]) hpi hno
  (by intro r hr;simp at hr;subst hr;exact hself)
  ⟨by simp, .inr ⟨w.heap.size,0,cs,el,(0,0),[],rfl,hb,by simp,by simp [hs],by intro i _;omega,by
   simp only [zAb]
   exact ⟨[],[],by simp,zBa row hr hf,by simp,by simp⟩,rfl⟩⟩
  (by simp) (by
   intro b hb;simp at hb;subst hb
   have:=h.kept.size
   exact ⟨fun hS=>by have:=(h.shared _ hS).1;omega,by simp, .inr this⟩)
  (by
   intro d' ob' hl _ b hb hb2
   simp at hb;subst hb
   have:=(h.mine d' ob' hl _ hb2).2.1
   omega)
 refine ⟨S,_,_,h2.set (hd:=hd) ?_⟩
 simp only [Rep]
 exact ⟨trivial,⟨some (w.heap.size,0),1,row.length⟩,w.heap.size,0,by simp,rfl,by simp⟩
theorem zYc {i:IN} {K:St→Prop} {z:Value} {d:Nat} (hi:i.i= .alloc z) (hd:i.dst=some d) (hpi:E.okd d) (hno:zAk d s.objs) (hself:zAD d (zAz z)) (hK:K ((s.new d ⟨(zAz z).length,[zAz z]⟩).set d (.ptr d 0 0))):zAn P E i K s:=by
 intro o h1 h2 h3 a w ⟨S,ρ,foot,hx⟩ Q
 rw [hi] at h1
 unfold zBR at h1
 split at h1<;>try (simp at h1;done)
 case h_5 e hop=>
  simp only [Option.map_eq_some_iff,I.alloc.injEq] at h1
  obtain ⟨z',hz,rfl⟩:=h1
  obtain ⟨z1,z2⟩:=zFO (S:=S) (w:=w) (ρ:=ρ) z'
  have hrun:(execOp a.eval o).run P w= .ok (.value (.pointer (some ⟨w.heap.size,0,none⟩))) { w with heap:=w.heap.push (.cells z'.cells e) }:=by
   have:(Instr.alloc e true (.tuple #[])).run P w= .ok (.pointer (some ⟨w.heap.size,0,none⟩)) { w with heap:=w.heap.push (.cells z'.cells e) }:=by
    simp [Instr.alloc,zGT hz,newVar,newRow]
   have h5:=Sem.run_bind (P:=P) (w:=w) (Instr.alloc e true (.tuple #[])) (fun v=>(pure (Next.value v):Sem Next))
   simp only [execOp,hop]
   rw [h5,this]
   simp
  rw [hrun,Oper.upon_value,h2,hd]
  exact ⟨_,hK,zLm hx (h3 d hd) e hpi hno hself z1 z2⟩
 all_goals (repeat' split at h1)<;>simp at h1
theorem zAbB {i:IN} {K:St→Prop} {x:Operand} {t:T} {row:List T} {d:Nat} (hi:i.i= .box x) (hd:i.dst=some d) (hx:s.eval x=some t) (hc:t.cells=some row) (hp:t.plainV=true) (hpi:E.okd d) (hno:zAk d s.objs) (hself:zAD d row)
  (hK:K ((s.new d ⟨row.length,[row]⟩).set d (.ptr d 0 0))):zAn P E i K s:=by
 intro o h1 h2 h3 a w ⟨S,ρ,foot,hsx⟩ Q
 rw [hi] at h1
 unfold zBR at h1
 split at h1<;>try (simp at h1;done)
 case h_6 e x' hop=>
  simp only [Option.some.injEq,I.box.injEq] at h1
  subst h1
  obtain ⟨z1,z2⟩:=zJO hc hp (hsx.eval hx)
  have hrun:(execOp a.eval o).run P w= .ok (.value (.pointer (some ⟨w.heap.size,0,none⟩))) { w with heap:=w.heap.push (.cells (a.eval x').cells e) }:=by
   have h5:=Sem.run_bind (P:=P) (w:=w) (Instr.box e (a.eval x')) (fun v=>(pure (Next.value v):Sem Next))
   simp only [execOp,hop]
   rw [h5]
   simp [Instr.box,newVar,newRow]
  rw [hrun,Oper.upon_value,h2,hd]
  exact ⟨_,hK,zLm hsx (h3 d hd) e hpi hno hself z1 z2⟩
 all_goals (repeat' split at h1)<;>simp at h1
theorem zQN {w:World} {b off:Nat} {arr:Array Value} {el:TypeId} {fr:Nat×Nat} (hb:w.heap[b]? =some (.cells arr el fr)) (v:Value):
  (w.setCell ⟨b,off,none⟩ v)={ w with heap:=w.heap.setIfInBounds b (.cells (arr.setIfInBounds off v) el fr) }:=by
 have hlt:=(Array.getElem?_eq_some_iff.1 hb).1
 unfold World.setCell
 congr 1
 apply Array.ext_getElem?
 intro i
 simp only [Array.getElem?_modify,Array.getElem?_setIfInBounds]
 split
 ·rename_i e;subst e;rw [hb];simp [hlt]
 ·rfl
theorem zD0 {b off:Nat} {el:TypeId} {fr:Nat×Nat}:∀ (vs:List Value) (i:Nat) (arr:Array Value) (w:World),w.heap[b]? =some (.cells arr el fr)→zIg arr fr→off+i+vs.length≤arr.size→(∀ v∈vs,v.oneCell'=true)→
  ∃ arr',(storeCells ⟨b,off,none⟩ vs i).run P w= .ok () { w with heap:=w.heap.setIfInBounds b (.cells arr' el fr) }∧arr'.size=arr.size∧
   ∀ j,arr'[j]? =if off+i≤j∧j<off+i+vs.length then vs[j-(off+i)]? else arr[j]?
 |[],i,arr,w,hb,ht,hl,hv=>by
  refine ⟨arr, ?_,rfl,fun j=>by simp;intro h1 h2;omega⟩
  have:w.heap.setIfInBounds b (.cells arr el fr)=w.heap:=by
   apply Array.ext_getElem?
   intro j
   rw [Array.getElem?_setIfInBounds]
   split
   ·rename_i e;subst e;rw [hb,if_pos (Array.getElem?_eq_some_iff.1 hb).1]
   ·rfl
  rw [this]
  simp [storeCells]
 |v::vs,i,arr,w,hb,ht,hl,hv=>by
  simp only [List.length_cons] at hl
  have hlt:=(Array.getElem?_eq_some_iff.1 hb).1
  have hc:w.cell? ⟨b,off+i,none⟩=some (arr[off+i]'(by omega)):=by simp [World.cell?,hb]
  have hf:w.frozen? ⟨b,off+i,none⟩=false:=by
   simp only [World.frozen?,hb]
   have:=ht (off+i) (by omega)
   simp;omega
  have hb1:({ w with heap:=w.heap.setIfInBounds b (.cells (arr.setIfInBounds (off+i) v) el fr) }:World).heap[b]? =some (.cells (arr.setIfInBounds (off+i) v) el fr):=by simp [hlt]
  obtain ⟨arr',r1,r2,r3⟩:=zD0 (off:=off) vs (i+1) _ _ hb1 (by intro j hj;exact ht j (by simpa using hj)) (by simp only [Array.size_setIfInBounds];omega) (fun u hu=>hv u (List.mem_cons_of_mem _ hu))
  refine ⟨arr', ?_,by simpa using r2,fun j=> ?_⟩
  ·simp only [storeCells,Sem.run_bind,zCB]
   rw [run_store P w _ v .plain (hv v (List.mem_cons_self ..)),hc]
   simp only [hf,Bool.false_eq_true,if_false,Result.andThen_ok]
   rw [zQN hb v,r1]
   congr 2
   simp
  ·rw [r3 j]
   simp only [List.length_cons]
   by_cases e:j=off+i
   ·subst e
    rw [if_neg (by omega),if_pos (by omega),Array.getElem?_setIfInBounds,if_pos rfl,if_pos (by omega)]
    simp
   ·by_cases h2:off+(i+1)≤j∧j<off+(i+1)+vs.length
    ·rw [if_pos h2,if_pos (by omega),show j-(off+i)=j-(off+(i+1))+1 from by omega]
     simp
    ·rw [if_neg h2,if_neg (by omega),Array.getElem?_setIfInBounds_ne (Ne.symm e)]
theorem zJs {cell cell':Nat→Option Value} {l m:List T} {b off:Nat} {F:List Nat} (h:RepRow S w ρ cell b l F) {new:Nat→Option Value} {nb:Nat} {G:List Nat} (hm:RepRow S w ρ new nb m G) (hle:off+m.length≤l.length)
  (h1:∀ i,i<m.length→cell' (b+off+i)=new (nb+i)) (h2:∀ i,i<l.length→(i<off∨off+m.length≤i)→cell' (b+i)=cell (b+i)):
  ∃ F1 F2 F3,F=F1++F2++F3∧RepRow S w ρ cell' b (l.take off++m++l.drop (off+m.length)) (F1++G++F3):=by
 have e:l=l.take off++((l.drop off).take m.length++l.drop (off+m.length)):=by
  rw [←List.drop_drop,List.take_append_drop,List.take_append_drop]
 rw [e] at h
 obtain ⟨F1,F',f1,f2,rfl⟩:=(zAr _ _ _ _).1 h
 obtain ⟨F2,F3,_,f4,rfl⟩:=(zAr _ _ _ _).1 f2
 refine ⟨F1,F2,F3,by simp, ?_⟩
 have l1:(l.take off).length=off:=by rw [List.length_take,Nat.min_eq_left (by omega)]
 have l2:((l.drop off).take m.length).length=m.length:=by rw [List.length_take,List.length_drop,Nat.min_eq_left (by omega)]
 rw [l1,l2] at f4
 refine (zAr _ _ _ _).2 ⟨F1++G,F3,(zAr _ _ _ _).2 ⟨F1,G, ?_, ?_,rfl⟩, ?_,rfl⟩
 ·exact zAM _ f1 fun i hi=>h2 i (by omega) (.inl (by omega))
 ·rw [l1];exact zAM _ hm fun i hi=>h1 i hi
 ·rw [List.length_append,l1]
  refine zAM _ f4 fun i hi=> ?_
  have:=h2 (off+m.length+i) (by simp at hi;omega) (.inr (by omega))
  simpa [Nat.add_assoc] using this
theorem zAY {k:Nat}:∀ {rows:List (List T)},(∀ r∈rows,r.length=k)→rows.flatten.length=rows.length*k
 |[],_=>by simp
 |r::rs,h=>by
  simp only [List.flatten_cons,List.length_append,List.length_cons,Nat.succ_mul,zAY (fun x hx=>h x (List.mem_cons_of_mem _ hx)),h r (List.mem_cons_self ..)]
  omega
theorem zHQ {k:Nat}:∀ {rows:List (List T)} {i:Nat} {row m:List T} {q:Nat},(∀ r∈rows,r.length=k)→rows[i]? =some row→q+m.length≤k→
  (rows.set i (row.take q++m++row.drop (q+m.length))).flatten=rows.flatten.take (i*k+q)++m++rows.flatten.drop (i*k+q+m.length)
 |[],_,_,_,_,_,h,_=>by simp at h
 |r::rs,i,row,m,q,h,hi,hq=>by
  have hr:=h r (List.mem_cons_self ..)
  cases i with
  |zero=>
   simp at hi;subst hi
   simp only [List.set_cons_zero,List.flatten_cons,Nat.zero_mul,Nat.zero_add]
   rw [List.take_append_of_le_length (by omega),List.drop_append_of_le_length (by omega)]
   simp
  |succ i=>
   have ih:=zHQ (i:=i) (q:=q) (m:=m) (fun x hx=>h x (List.mem_cons_of_mem _ hx)) (by simpa using hi) hq
   simp only [List.set_cons_succ,List.flatten_cons,ih]
   rw [show (i+1)*k+q=r.length+(i*k+q) from by rw [Nat.succ_mul,hr];omega,List.take_length_add_append,Nat.add_assoc (r.length),List.drop_length_add_append]
   simp [Nat.add_assoc]
def T.storable (t:T):Bool:=t.plainV&&t.leaf&&t.bare
theorem zGk {cell:Nat→Option Value}:∀ {l:List T} {b:Nat} {F:List Nat},l.all T.storable=true→RepRow S w ρ cell b l F→∀ i y,i<l.length→cell (b+i)=some y→y.oneCell'=true
 |[],_,_,_,_,_,_,hi,_=>by simp at hi
 |t::ts,b,F,hs,h,i,y,hi,hy=>by
  simp only [List.all_cons,Bool.and_eq_true,T.storable] at hs
  simp only [RepRow] at h
  obtain ⟨y',F1,F2,e1,e2,e3,_⟩:=h
  cases i with
  |zero=>
   simp only [Nat.add_zero] at hy
   rw [e1] at hy;simp at hy;subst hy
   exact (zNO hs.1.1.1 (fun row e=>by subst e;simp [T.leaf] at hs) (fun row e=>by subst e;simp [T.leaf] at hs) e2).2
  |succ i=>
   exact zGk (l:=ts) (b:=b+1) (by simpa [T.storable] using hs.2) e3 i y (by simpa using hi) (by rw [show b+1+i=b+(i+1) from by omega];exact hy)
theorem SimX.upd (h:SimX E s a w S ρ foot) {d:Nat} {ob ob':Ob} {hd:Hd} {b:Nat} {obj':Obj} {F':List Nat} (ho:lk d s.objs=some ob) (hr:ρ d=some hd) (hb:b∈foot d) (hkept:Kept E.F0 E.w0 { w with heap:=w.heap.setIfInBounds b obj' }) (hsub:F'.Sublist (foot d))
  (hrep:zFZ S { w with heap:=w.heap.setIfInBounds b obj' } ρ ob' hd F'):SimX E (s.upd d ob') a { w with heap:=w.heap.setIfInBounds b obj' } S ρ (fun i=>if i=d then F' else foot i):=by
 obtain ⟨m1,m2,m3⟩:=h.mine d ob ho b hb
 have hne:∀ c,c≠b→({ w with heap:=w.heap.setIfInBounds b obj' }:World).heap[c]? =w.heap[c]? :=fun c hc=>by
  simp only [Array.getElem?_setIfInBounds];rw [if_neg (Ne.symm hc)]
 have h1:SimX E (s.del d) a { w with heap:=w.heap.setIfInBounds b obj' } S ρ foot:=by
  refine (h.del d).world hkept (by simp) fun c hc hh=>hne c fun e=> ?_
  subst e
  rcases hh with hh|⟨d2,ob2,hl2,hm2⟩
  ·exact m1 hh
  ·simp only [St.del,zB1] at hl2
   exact h.apart d ob d2 ob2 ho hl2.2 (Ne.symm hl2.1) c hb hm2
 exact {
  nt:=h1.nt,defers:=h1.defers
  slots:=h1.slots
  objs:=fun d2 ob2 hl=>by
   simp only [St.upd,lk] at hl
   split at hl
   ·rename_i e;simp only [Option.some.injEq] at hl;subst hl e
    exact ⟨hd,hr,by simpa using hrep⟩
   ·rename_i e
    simp only [if_neg (Ne.symm e)]
    exact h1.objs d2 ob2 (by simp only [St.del,zB1];exact ⟨Ne.symm e,hl⟩)
  nodup:=fun d2 ob2 hl=>by
   by_cases e:d2=d
   ·simp only [if_pos e];exact hsub.nodup (h.nodup d ob ho)
   ·simp only [if_neg e]
    simp only [St.upd,lk,if_neg (Ne.symm e)] at hl
    exact h.nodup d2 ob2 hl
  apart:=fun d1 ob1 d2 ob2 hl1 hl2 hn c hc=>by
   simp only [St.upd,lk] at hl1 hl2
   by_cases e1:d1=d
   ·rw [if_pos e1] at hc
    have e2:d2≠d:=fun e2=>hn (by rw [e1,e2])
    rw [if_neg (Ne.symm e2)] at hl2
    rw [if_neg e2]
    exact h.apart d ob d2 ob2 ho hl2 (Ne.symm e2) c (hsub.subset hc)
   ·rw [if_neg e1] at hc
    rw [if_neg (Ne.symm e1)] at hl1
    by_cases e2:d2=d
    ·rw [if_pos e2]
     exact fun hc2=>h.apart d1 ob1 d ob hl1 ho e1 c hc (hsub.subset hc2)
    ·rw [if_neg (Ne.symm e2)] at hl2
     rw [if_neg e2]
     exact h.apart d1 ob1 d2 ob2 hl1 hl2 hn c hc
  mine:=fun d2 ob2 hl c hc=>by
   simp only [Array.size_setIfInBounds]
   by_cases e:d2=d
   ·rw [if_pos e] at hc;exact h.mine d ob ho c (hsub.subset hc)
   ·rw [if_neg e] at hc
    simp only [St.upd,lk,if_neg (Ne.symm e)] at hl
    exact h.mine d2 ob2 hl c hc
  shared:=h1.shared
  S0:=h1.S0
  kept:=h1.kept
  pins:=h1.pins }
theorem zLn {F1 F2 F3:List Nat} {b:Nat}:(b::(F1++[]++F3)).Sublist (b::(F1++F2++F3)):=by
 refine List.Sublist.cons_cons b ?_
 rw [List.append_nil,List.append_assoc]
 exact List.Sublist.append (List.Sublist.refl _) (List.sublist_append_right _ _)
def zDh (rows:List (List T)) (i q:Nat) (m:List T):List (List T):=rows.set i ((rows.getD i []).take q++m++(rows.getD i []).drop (q+m.length))
theorem zYd {i:IN} {K:St→Prop} {n:Nat} {x v:Operand} {id j q:Nat} {ob:Ob} {t:T} {cs:List T} (hi:i.i= .store n x v) (hx:s.eval x=some (.ptr id j q)) (ho:lk id s.objs=some ob) (hv:s.eval v=some t) (hc:t.cells=some cs)
  (hn:cs.length=n) (hp:t.plainV=true) (hs:cs.all T.storable=true) (hj:j<ob.rows.length) (hq:q+n≤ob.k) (hd:i.dst=none)
  (hK:K (s.upd id ⟨ob.k,zDh ob.rows j q cs⟩)):zAn P E i K s:=by
 intro o h1 h2 h3 a w ⟨S,ρ,foot,hsx⟩ Q
 rw [hi] at h1
 unfold zBR at h1
 split at h1<;>try (simp at h1;done)
 case h_10 ty x' v' hop=>
  simp only [Option.map_eq_some_iff,I.store.injEq] at h1
  obtain ⟨m,hm,rfl,rfl,rfl⟩:=h1
  obtain ⟨z1,z2⟩:=zJO hc hp (hsx.eval hv)
  have hrx:=hsx.eval hx
  simp only [Rep] at hrx
  obtain ⟨_,hd',b,off,e1,e2,e3⟩:=hrx
  obtain ⟨hd'',e4,e5,e6⟩:=hsx.objs id ob ho
  rw [e1] at e4;simp at e4;subst e4
  rcases e6 with ⟨_,e6,_⟩|⟨b',off',arr,el,fr,Fs,f1,f2,f3,f4,f5,f6,f7⟩
  ·rw [e6] at hj;simp at hj
  ·rw [e2] at f1;simp at f1;obtain ⟨rfl,rfl⟩:=f1
   obtain ⟨g1,g2⟩:=(zAh _ _ _).1 f6
   have hfl:=zAY g1
   have hjk:j*ob.k+ob.k≤ob.rows.length*ob.k:=by
    have:=Nat.mul_le_mul_right ob.k (show j+1≤ob.rows.length by omega)
    rwa [Nat.succ_mul] at this
   have hck:ob.rows.length*ob.k≤hd'.cap*ob.k:=Nat.mul_le_mul_right _ f3
   have hone:∀ y∈(a.eval v').cells.toList,y.oneCell'=true:=by
    intro y hy
    obtain ⟨n',hn'⟩:=List.getElem?_of_mem hy
    have hlt:=(List.getElem?_eq_some_iff.1 hn').1
    exact zGk hs z2 n' y (by simp at hlt;omega) (by simpa using hn')
   obtain ⟨arr',r1,r2,r3⟩:=zD0 (P:=P) (off:=off+j*hd'.k+q) (a.eval v').cells.toList 0 arr w f2 f5 (by rw [e5];simp;omega) hone
   have hrun:(execOp a.eval o).run P w= .ok .skip { w with heap:=w.heap.setIfInBounds b (.cells arr' el fr) }:=by
    have:(Instr.storeAt ty (a.eval x') (a.eval v')).run P w= .ok () { w with heap:=w.heap.setIfInBounds b (.cells arr' el fr) }:=by
     simp only [Instr.storeAt,e3,Instr.sureAddr,Sem.run_bind,Sem.run_pure,Result.andThen_ok,storeVar,zBn hm]
     rw [if_neg (by simp [z1,hn])]
     exact r1
    have h5:=Sem.run_bind (P:=P) (w:=w) (Instr.storeAt ty (a.eval x') (a.eval v')) (fun _=>(pure Next.skip:Sem Next))
    simp only [execOp,hop]
    rw [h5,this]
    simp
   rw [hrun,Oper.upon_skip,h2,hd]
   have hri:ob.rows[j]? =some (ob.rows.getD j []):=by simp [List.getD_eq_getElem?_getD,List.getElem?_eq_getElem hj]
   have hlt:b<w.heap.size:=(Array.getElem?_eq_some_iff.1 f2).1
   obtain ⟨F1,F2,F3,q1,q2⟩:=zJs (cell':=fun i=>arr'[i]?) (off:=j*ob.k+q) g2 z2 (by omega) (fun i' hi'=>by
    rw [r3]
    simp only [Nat.add_zero,e5,Array.length_toList,z1]
    rw [if_pos (by omega)]
    simp [show off+(j*ob.k+q)+i'-(off+j*ob.k+q)=i' from by omega]) (fun i' hi' ho'=>by
    rw [r3]
    simp only [Nat.add_zero,e5,Array.length_toList,z1]
    rw [if_neg (by omega)])
   have hF2:∀ c,c∈F1++[]++F3∨S c→({ w with heap:=w.heap.setIfInBounds b (.cells arr' el fr) }:World).heap[c]? =w.heap[c]? :=by
    intro c hcc
    simp only [Array.getElem?_setIfInBounds]
    rw [if_neg]
    intro e
    subst e
    rcases hcc with hcc|hcc
    ·have:=hsx.nodup id ob ho
     rw [f7,q1] at this
     have:=(List.nodup_cons.1 this).1
     apply this
     simp at hcc ⊢
     rcases hcc with hcc|hcc<;>simp [hcc]
    ·exact (hsx.mine id ob ho b (by simp [f7])).1 hcc
   refine ⟨_,hK,S,ρ,_,hsx.upd ho e1 (b:=b) (by simp [f7]) (hsx.kept.setBlock f2 r2 (hsx.mine id ob ho b (by simp [f7])).2.2) (F':=b::(F1++[]++F3)) (by rw [f7,q1];exact zLn) ⟨e5, .inr ⟨b,off,arr',el,fr,F1++[]++F3,e2,by simp [hlt],by simpa [zDh] using f3,by rw [r2];exact f4,by intro i' hi';exact f5 i' (by rw [←r2];exact hi'), ?_,rfl⟩⟩⟩
   rw [zAh]
   constructor
   ·intro r hr
    simp only [zDh] at hr
    rcases List.mem_or_eq_of_mem_set hr with hr|rfl
    ·exact g1 r hr
    ·have:=g1 _ (List.mem_of_getElem? hri)
     simp only [List.length_append,List.length_take,List.length_drop]
     omega
   ·simp only [zDh]
    rw [zHQ g1 hri (by omega)]
    exact zBa _ q2 hF2
 all_goals (repeat' split at h1)<;>simp at h1
end
end Go.Am

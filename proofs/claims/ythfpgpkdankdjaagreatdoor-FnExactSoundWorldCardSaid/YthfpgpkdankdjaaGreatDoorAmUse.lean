import Derived.Test.YthfpgpkdankdjaaGreatDoorAmFun
set_option linter.all false
namespace Go.Am
open Go Go.RowKit
mutual
def T.opn:T→Bool
 | .ref _ _ _=>true
 | .ptr _ _ _=>true
 | .agg row=>zNS row
 | .tup l=>zNS l
 | .fn _ caps=>zNS caps
 | .any=>false
 | .v _=>false
 | .sl _ _ _=>false
 | .bo _ _ _=>false
def zNS:List T→Bool
 |[]=>false
 |t::ts=>t.opn||zNS ts
end
inductive Fu where
 |z
 |s (f:Fu)
def zEj (f:T→Option (T×List Nat×Prop)):List T→Option (List T×List Nat×Prop)
 |[]=>some ([],[],True)
 |t::ts=>
  match f t,zEj f ts with
  |some (u,i,c),some (us,j,d)=>some (u::us,i++j,c∧d)
  |_,_=>none
def vwO (s:St):Fu→T→Option (T×List Nat×Prop)
 | .z,_=>none
 | .s n,t=>match t with
  | .ref id lo m=>
   match lk id s.objs with
   |some ob=>some (.sl false ob.k (((zBe ob.rows).drop lo).take m),[id],lo+m≤ob.rows.length∧zAv ob.rows)
   |none=>none
  | .ptr id i o=>
   match lk id s.objs with
   |some ob=>
    match zEj (vwO s n) ((ob.rows.getD i []).drop o) with
    |some (us,ids,c)=>some (.bx false us,id::ids,i<ob.rows.length∧o≤ob.k∧c)
    |none=>none
   |none=>none
  | .fn f caps=>
   match zEj (vwO s n) caps with
   |some (us,ids,c)=>some (.fn f us,ids,c)
   |none=>none
  |t=>some (t.dsh,[],t.packed)
def zEO (s:St):T→Option (T×List Nat×Prop)
 | .ref id lo n=>
  match lk id s.objs with
  |some ob=>some (.sl false ob.k (((zBe ob.rows).drop lo).take n),[id],lo+n≤ob.rows.length∧zAv ob.rows)
  |none=>none
 | .ptr id i o=>
  match lk id s.objs with
  |some ob=>
   match zNS ((ob.rows.getD i []).drop o) with
   |false=>some (.bx false (zCA ((ob.rows.getD i []).drop o)),[id],i<ob.rows.length∧o≤ob.k∧zAv ob.rows)
   |true=>vwO s (.s (.s (.s (.s .z)))) (.ptr id i o)
  |none=>none
 |t=>some (t,[],t.packed∧t.bare=true)
def zEs (s:St):List T→Option (List T×List Nat×Prop)
 |[]=>some ([],[],True)
 |t::ts=>
  match zEO s t,zEs s ts with
  |some (u,i,c),some (us,j,d)=>some (u::us,i++j,c∧d)
  |_,_=>none
def vwT (s:St):T→Option (T×List Nat×Prop)
 | .agg row=>
  match zEs s row with
  |some (us,i,c)=>some (.agg us,i,c)
  |none=>none
 | .fn f caps=>
  match zEs s caps with
  |some (us,i,c)=>some (.fn f us,i,c)
  |none=>none
 |t=>zEO s t
def zBT (s:St):List (Bool×T)→Option (List T×List Nat×List Nat×Prop)
 |[]=>some ([],[],[],True)
 |(own,t)::ts=>
  match (if own then pkT s t else vwT s t),zBT s ts with
  |some (u,i,c),some (us,o,v,d)=>some (u::us,if own then i++o else o,if own then v else i++v,c∧d)
  |_,_=>none
section
variable {P:Program} {E:Env} {s:St} {a:Act} {w:World} {S:Nat→Prop} {ρ:Nat→Option Hd} {foot:Nat→List Nat} {o:Oper}
theorem zQS (h:SimX E s a w S ρ foot) {S1:Nat→Prop} (hS:∀ b,S b→S1 b) {id lo n:Nat} {ob:Ob} (ho:lk id s.objs=some ob) {y:Value} {F:List Nat} (hr:Rep S w ρ (.ref id lo n) y F) (hle:lo+n≤ob.rows.length) (hpk:zAv ob.rows)
  (hv:∀ b,b∈foot id→S1 b):Rep S1 w noH (.sl false ob.k (((zBe ob.rows).drop lo).take n)) y []:=by
 simp only [Rep] at hr ⊢
 obtain ⟨_,hd,a0,c,e1,rfl,e3,e4,e5⟩:=hr
 obtain ⟨hd',e6,e7,e8⟩:=h.objs id ob ho
 rw [e1] at e6;simp at e6;subst e6
 have hlen:((ob.rows.drop lo).take n).length=n:=by rw [List.length_take,List.length_drop];omega
 have hds:((zBe ob.rows).drop lo).take n=zBe ((ob.rows.drop lo).take n):=by simp only [zCY,List.map_drop,List.map_take]
 rw [hds]
 refine ⟨a0,c,by rw [zDJ,hlen], ?_⟩
 rcases e8 with ⟨e8,e9,e10⟩|⟨b,off,arr,el,fr,Fs,f1,f2,f3,f4,f5,f6,f7⟩
 ·exact .inl ⟨by omega,by simp [e9,zBe],trivial⟩
 ·rcases e5 with e5|⟨b',off',e5,rfl⟩
  ·refine .inl ⟨e5, ?_,trivial⟩
   have:n=0:=by omega
   simp [this,zBe]
  ·rw [f1] at e5;simp at e5;obtain ⟨rfl,rfl⟩:=e5
   obtain ⟨G,g1,g2⟩:=zC7 (n:=n) f6 lo (by omega)
   have hpk':zAv ((ob.rows.drop lo).take n):=fun r hr=>hpk r (List.mem_of_mem_drop (List.mem_of_mem_take hr))
   have hcc:(lo+c)*ob.k=hd.cap*ob.k:=by rw [e3]
   rw [Nat.add_mul] at hcc
   rw [e7]
   refine .inr ⟨b,off+lo*ob.k,arr,el,fr,[],rfl,f2,by rw [zDJ,hlen];exact e4,by omega,zHM _ (zEq hS _ (zDX _ hpk' g1)) (fun q hq=>hv q (by simp [f7,g2 q hq])),rfl,hv b (by simp [f7]),fun q hq=>by cases hq⟩
theorem zQT (h:SimX E s a w S ρ foot) {S1:Nat→Prop} {id i q:Nat} {ob:Ob} (ho:lk id s.objs=some ob) {y:Value} {F:List Nat} (hr:Rep S w ρ (.ptr id i q) y F) (hi:i<ob.rows.length) (hq:q≤ob.k)
  (hv:∀ b,b∈foot id→S1 b) {us:List T} (hrow:∀ {cell:Nat→Option Value} {b:Nat} {G:List Nat},RepRow S w ρ cell b ((ob.rows.getD i []).drop q) G→(∀ c,c∈G→S1 c)→RepRow S1 w noH cell b us []∧us.length=((ob.rows.getD i []).drop q).length):Rep S1 w noH (.bx false us) y []:=by
 simp only [Rep] at hr ⊢
 obtain ⟨_,hd,b,off,e1,e2,rfl⟩:=hr
 obtain ⟨hd',e6,e7,e8⟩:=h.objs id _ ho
 rw [e1] at e6;simp at e6;subst e6
 rcases e8 with ⟨e8,e9,e10⟩|⟨b',off',arr,el,fr,Fs,f1,f2,f3,f4,f5,f6,f7⟩
 ·rw [e9] at hi;simp at hi
 ·rw [e2] at f1;simp at f1;obtain ⟨rfl,rfl⟩:=f1
  have hri:ob.rows[i]? =some (ob.rows.getD i []):=by simp [List.getD_eq_getElem?_getD,List.getElem?_eq_getElem hi]
  obtain ⟨G,g1,g2,g3⟩:=zEh f6 hri
  obtain ⟨G2,g4,g5⟩:=zCx g1 q (ob.rows.getD i []).length (by omega)
  rw [List.take_of_length_le (by simp)] at g4
  have hjk:i*ob.k+ob.k≤hd.cap*ob.k:=by
   have:=Nat.mul_le_mul_right ob.k (show i+1≤hd.cap by omega)
   rwa [Nat.succ_mul] at this
  rw [e7]
  obtain ⟨r1,r2⟩:=hrow g4 (fun c hc=>hv c (by simp [f7,g2 c (g5 c hc)]))
  exact ⟨b,off+i*ob.k+q,arr,el,fr,[],rfl,f2,by simp only [r2,List.length_drop,g3];omega,r1,rfl,hv b (by simp [f7]),fun c hc=>by cases hc⟩
theorem zJX {foot:Nat→List Nat} {S1:Nat→Prop} {f:T→Option (T×List Nat×Prop)} (hf:∀ {t:T} {y:Value} {F:List Nat} {t':T} {ids:List Nat} {c:Prop},Rep S w ρ t y F→f t=some (t',ids,c)→c→(∀ q,q∈F→S1 q)→(∀ id,id∈ids→∀ b,b∈foot id→S1 b)→Rep S1 w noH t' y []):
  ∀ {row:List T} {cell:Nat→Option Value} {b:Nat} {F:List Nat} {row':List T} {ids:List Nat} {c:Prop},RepRow S w ρ cell b row F→zEj f row=some (row',ids,c)→c→(∀ q,q∈F→S1 q)→(∀ id,id∈ids→∀ b,b∈foot id→S1 b)→RepRow S1 w noH cell b row' []∧row'.length=row.length
 |[],cell,b,F,row',ids,c,hr,hp,hc,_,_=>by
  simp only [zEj,Option.some.injEq,Prod.mk.injEq] at hp
  obtain ⟨rfl,rfl,rfl⟩:=hp
  exact ⟨by simp [RepRow],rfl⟩
 |t::ts,cell,b,F,row',ids,c,hr,hp,hc,hF,hv=>by
  simp only [zEj] at hp
  split at hp
  ·rename_i u i c1 us j c2 h1 h2
   simp only [Option.some.injEq,Prod.mk.injEq] at hp
   obtain ⟨rfl,rfl,rfl⟩:=hp
   simp only [RepRow] at hr
   obtain ⟨y,F1,F2,e0,e1,e2,rfl⟩:=hr
   have g1:=hf e1 h1 hc.1 (fun q hq=>hF q (List.mem_append_left _ hq)) (fun id hid=>hv id (List.mem_append_left _ hid))
   obtain ⟨g2,g3⟩:=zJX hf e2 h2 hc.2 (fun q hq=>hF q (List.mem_append_right _ hq)) (fun id hid=>hv id (List.mem_append_right _ hid))
   refine ⟨?_,by simp [g3]⟩
   simp only [RepRow]
   exact ⟨y,[],[],e0,g1,g2,rfl⟩
  ·cases hp
theorem zQU (h:SimX E s a w S ρ foot) {S1:Nat→Prop} (hS:∀ b,S b→S1 b):∀ (n:Fu) {t:T} {y:Value} {F:List Nat} {t':T} {ids:List Nat} {c:Prop},Rep S w ρ t y F→vwO s n t=some (t',ids,c)→c→(∀ q,q∈F→S1 q)→(∀ id,id∈ids→∀ b,b∈foot id→S1 b)→Rep S1 w noH t' y []
 | .z,t,y,F,t',ids,c,_,hp,_,_,_=>by simp [vwO] at hp
 | .s n,t,y,F,t',ids,c,hr,hp,hc,hF,hv=>by
  simp only [vwO] at hp
  split at hp
  ·rename_i id lo m
   split at hp
   ·rename_i ob ho
    simp only [Option.some.injEq,Prod.mk.injEq] at hp
    obtain ⟨rfl,rfl,rfl⟩:=hp
    exact zQS h hS ho hr hc.1 hc.2 (hv id (by simp))
   ·cases hp
  ·rename_i id i q
   split at hp
   ·rename_i ob ho
    split at hp
    ·rename_i us js c1 h1
     simp only [Option.some.injEq,Prod.mk.injEq] at hp
     obtain ⟨rfl,rfl,rfl⟩:=hp
     exact zQT h ho hr hc.1 hc.2.1 (hv id (by simp)) fun g hg=>zJX (zQU h hS n) g h1 hc.2.2 hg (fun j hj=>hv j (List.mem_cons_of_mem _ hj))
    ·cases hp
   ·cases hp
  ·rename_i f caps
   split at hp
   ·rename_i us js c1 h1
    simp only [Option.some.injEq,Prod.mk.injEq] at hp
    obtain ⟨rfl,rfl,rfl⟩:=hp
    simp only [Rep] at hr ⊢
    obtain ⟨cs,rfl,e1,e2⟩:=hr
    obtain ⟨g1,g2⟩:=zJX (zQU h hS n) e2 h1 hc hF hv
    exact ⟨cs,rfl,by rw [g2];exact e1,g1⟩
   ·cases hp
  ·simp only [Option.some.injEq,Prod.mk.injEq] at hp
   obtain ⟨rfl,rfl,rfl⟩:=hp
   exact zKR _ (zCP hS _ (zEJ _ hc hr)) hF
theorem zQV:∀ (l:List T) (n:Nat),zAA l→zAA (l.drop n):=by
 intro l
 induction l with
 |nil=>intro n _;simp [zAA]
 |cons t ts ih=>
  intro n hl
  simp only [zAA] at hl
  cases n with
  |zero=>simpa [zAA] using hl
  |succ n=>exact ih n hl.2
theorem zPd (h:SimX E s a w S ρ foot) {S1:Nat→Prop} (hS:∀ b,S b→S1 b) {t:T} {y:Value} (hr:Rep S w ρ t y []) {t':T} {ids:List Nat} {c:Prop} (hp:zEO s t=some (t',ids,c)) (hc:c)
  (hv:∀ id,id∈ids→∀ b,b∈foot id→S1 b):Rep S1 w noH t' y []:=by
 unfold zEO at hp
 split at hp
 ·rename_i id lo n
  split at hp
  ·rename_i ob ho
   simp only [Option.some.injEq,Prod.mk.injEq] at hp
   obtain ⟨rfl,rfl,rfl⟩:=hp
   exact zQS h hS ho hr hc.1 hc.2 (hv id (by simp))
  ·cases hp
 ·rename_i id i q
  split at hp
  ·rename_i ob ho
   split at hp
   ·simp only [Option.some.injEq,Prod.mk.injEq] at hp
    obtain ⟨rfl,rfl,rfl⟩:=hp
    refine zQT h ho hr hc.1 hc.2.1 (hv id (by simp)) fun g hg=>⟨zCQ _ (zBF hS _ (zCj _ (zQV _ _ ?_) g)) hg,zCv _⟩
    have hri:ob.rows[i]? =some (ob.rows.getD i []):=by simp [List.getD_eq_getElem?_getD,List.getElem?_eq_getElem hc.1]
    exact hc.2.2 _ (List.mem_of_getElem? hri)
   ·exact zQU h hS _ hr hp hc (fun q hq=>by cases hq) hv
  ·cases hp
 ·rename_i t0 h1 h2
  simp only [Option.some.injEq,Prod.mk.injEq] at hp
  obtain ⟨rfl,rfl,rfl⟩:=hp
  exact zCP hS _ (zEJ _ hc.1 hr)
theorem zLO (h:SimX E s a w S ρ foot) {S1:Nat→Prop} (hS:∀ b,S b→S1 b):∀ {row:List T} {cell:Nat→Option Value} {b:Nat} {row':List T} {ids:List Nat} {c:Prop},RepRow S w ρ cell b row []→zEs s row=some (row',ids,c)→c→
  (∀ id,id∈ids→∀ b,b∈foot id→S1 b)→RepRow S1 w noH cell b row' []∧row'.length=row.length
 |[],cell,b,row',ids,c,hr,hp,hc,_=>by
  simp only [zEs,Option.some.injEq,Prod.mk.injEq] at hp
  obtain ⟨rfl,rfl,rfl⟩:=hp
  exact ⟨by simp [RepRow],rfl⟩
 |t::ts,cell,b,row',ids,c,hr,hp,hc,hv=>by
  simp only [zEs] at hp
  split at hp
  ·rename_i u i c1 us j c2 h1 h2
   simp only [Option.some.injEq,Prod.mk.injEq] at hp
   obtain ⟨rfl,rfl,rfl⟩:=hp
   simp only [RepRow] at hr
   obtain ⟨y,F1,F2,e0,e1,e2,e3⟩:=hr
   obtain ⟨rfl,rfl⟩:=List.append_eq_nil_iff.1 e3.symm
   have g1:=zPd h hS e1 h1 hc.1 (fun id hid=>hv id (List.mem_append_left _ hid))
   obtain ⟨g2,g3⟩:=zLO h hS e2 h2 hc.2 (fun id hid=>hv id (List.mem_append_right _ hid))
   refine ⟨?_,by simp [g3]⟩
   simp only [RepRow]
   exact ⟨y,[],[],e0,g1,g2,rfl⟩
  ·cases hp
theorem zAbF (h:SimX E s a w S ρ foot) {S1:Nat→Prop} (hS:∀ b,S b→S1 b) {t:T} {y:Value} (hr:Rep S w ρ t y []) {t':T} {ids:List Nat} {c:Prop} (hp:vwT s t=some (t',ids,c)) (hc:c)
  (hv:∀ id,id∈ids→∀ b,b∈foot id→S1 b):Rep S1 w noH t' y []:=by
 unfold vwT at hp
 split at hp
 ·split at hp
  ·rename_i us i c1 h1
   simp only [Option.some.injEq,Prod.mk.injEq] at hp
   obtain ⟨rfl,rfl,rfl⟩:=hp
   simp only [Rep] at hr ⊢
   obtain ⟨cs,rfl,e1,e2⟩:=hr
   obtain ⟨g1,g2⟩:=zLO h hS e2 h1 hc hv
   exact ⟨cs,rfl,by rw [g2];exact e1,g1⟩
  ·cases hp
 ·split at hp
  ·rename_i us i c1 h1
   simp only [Option.some.injEq,Prod.mk.injEq] at hp
   obtain ⟨rfl,rfl,rfl⟩:=hp
   simp only [Rep] at hr ⊢
   obtain ⟨cs,rfl,e1,e2⟩:=hr
   obtain ⟨g1,g2⟩:=zLO h hS e2 h1 hc hv
   exact ⟨cs,rfl,by rw [g2];exact e1,g1⟩
  ·cases hp
 ·exact zPd h hS hr hp hc hv
theorem zKU (h:SimX E s a w S ρ foot) {S1:Nat→Prop} (hS:∀ b,S b→S1 b):∀ {ts:List (Bool×T)} {cell:Nat→Option Value} {b:Nat} {us:List T} {ow vw:List Nat} {c:Prop},RepRow S w ρ cell b (ts.map (·.2)) []→zBT s ts=some (us,ow,vw,c)→c→
  (∀ id,id∈vw→∀ b,b∈foot id→S1 b)→∃ F,RepRow S1 w noH cell b us F∧F.Sublist (ow.flatMap foot)∧(∀ id,id∈ow→∃ ob,lk id s.objs=some ob)∧us.length=ts.length
 |[],cell,b,us,ow,vw,c,hr,hp,hc,_=>by
  simp only [zBT,Option.some.injEq,Prod.mk.injEq] at hp
  obtain ⟨rfl,rfl,rfl,rfl⟩:=hp
  exact ⟨[],by simp [RepRow],by simp,by simp,rfl⟩
 |(own,t)::ts,cell,b,us,ow,vw,c,hr,hp,hc,hv=>by
  simp only [zBT] at hp
  split at hp
  ·rename_i u i c1 us' o v c2 h1 h2
   simp only [Option.some.injEq,Prod.mk.injEq] at hp
   obtain ⟨rfl,rfl,rfl,rfl⟩:=hp
   simp only [List.map_cons,RepRow] at hr
   obtain ⟨y,F1,F2,e0,e1,e2,e3⟩:=hr
   obtain ⟨rfl,rfl⟩:=List.append_eq_nil_iff.1 e3.symm
   cases own with
   |true=>
    simp only [if_true] at h1 hv ⊢
    obtain ⟨G1,g1,g2,g3⟩:=zWo h e1 h1 hc.1
    obtain ⟨G2,g4,g5,g6,g7⟩:=zKU h hS e2 h2 hc.2 hv
    refine ⟨G1++G2, ?_,by rw [List.flatMap_append];exact List.Sublist.append g2 g5,fun id hid=>(List.mem_append.1 hid).elim (g3 id) (g6 id),by simp [g7]⟩
    simp only [RepRow]
    exact ⟨y,G1,G2,e0,zCP hS _ g1,g4,rfl⟩
   |false=>
    simp only [Bool.false_eq_true,if_false] at h1 hv ⊢
    have g1:=zAbF h hS e1 h1 hc.1 (fun id hid=>hv id (List.mem_append_left _ hid))
    obtain ⟨G2,g4,g5,g6,g7⟩:=zKU h hS e2 h2 hc.2 (fun id hid=>hv id (List.mem_append_right _ hid))
    refine ⟨G2, ?_,g5,g6,by simp [g7]⟩
    simp only [RepRow]
    exact ⟨y,[],G2,e0,g1,g4,by simp⟩
  ·cases hp
def delL (s:St):List Nat→St
 |[]=>s
 |id::r=>delL (s.del id) r
def zF3 (s0 s:St):T→T→St×Prop
 | .ref id _ _, .sl true k rows=>
  match lk id s0.objs with
  |some ob=>(s.upd id ⟨k,rows⟩,k=ob.k)
  |none=>(s,False)
 | .ptr id _ o, .bo true row o'=>
  match lk id s0.objs with
  |some ob=>(s.upd id ⟨ob.k,[row]⟩,row.length=ob.k∧o'=o)
  |none=>(s,False)
 |_,_=>(s,True)
def zHu (s0 s:St):List T→List T→St×Prop
 |t::ts,u::us=>
  let r:=zF3 s0 s t u
  let q:=zHu s0 r.1 ts us
  (q.1,r.2∧q.2)
 |_,_=>(s,True)
def bkT (s0 s:St):T→T→St×Prop
 | .agg row, .agg row'=>zHu s0 s row row'
 |t,u=>zF3 s0 s t u
def bkL (s0 s:St):List (Bool×T)→List T→St×Prop
 |(own,t)::ts,u::us=>
  let r:=if own then bkT s0 s t u else (s,True)
  let q:=bkL s0 r.1 ts us
  (q.1,r.2∧q.2)
 |_,_=>(s,True)
theorem Kept.trans' {F0 F:List Nat} {w0 w w':World} (h:Kept F0 w0 w) (h':Kept F w w') (hF:∀ b,b∈F→b∈F0∨w0.heap.size≤b):Kept F0 w0 w':=by
 refine ⟨h'.os.trans h.os,h'.tape.trans h.tape,h'.output.trans h.output,Nat.le_trans h.size h'.size,fun b hb hf=> ?_,fun b arr el fr hb=> ?_⟩
 ·rw [h'.block b (by have:=h.size;omega) (fun hbF=>by rcases hF b hbF with h1|h1;exact hf h1;omega)]
  exact h.block b hb hf
 ·obtain ⟨arr1,fr1,e1,e2⟩:=h.sizes b arr el fr hb
  obtain ⟨arr2,fr2,e3,e4⟩:=h'.sizes b arr1 el fr1 e1
  exact ⟨arr2,fr2,e3,by rw [e4,e2]⟩
theorem zKV:∀ {ids:List Nat} {s:St} {d:Nat} {ob:Ob},lk d (delL s ids).objs=some ob↔(d∉ids∧lk d s.objs=some ob)
 |[],s,d,ob=>by simp [delL]
 |id::r,s,d,ob=>by
  simp only [delL]
  rw [zKV]
  simp only [St.del,zB1,List.mem_cons,not_or]
  constructor
  ·rintro ⟨h1,h2,h3⟩;exact ⟨⟨h2,h1⟩,h3⟩
  ·rintro ⟨⟨h1,h2⟩,h3⟩;exact ⟨h2,h1,h3⟩
theorem SimX.delL (h:SimX E s a w S ρ foot):∀ {ids:List Nat},SimX E (Am.delL s ids) a w S ρ foot:=by
 intro ids
 induction ids generalizing s with
 |nil=>exact h
 |cons id r ih=>exact ih (h.del id)
theorem SimX.after (h:SimX E s a w S ρ foot) {ow:List Nat} {F:List Nat} (hF:F.Sublist (ow.flatMap foot)) (hex:∀ id,id∈ow→∃ ob,lk id s.objs=some ob) {w':World} (hk:Kept F w w') {S2:Nat→Prop} (hS:∀ b,S b→S2 b)
  (hS2:∀ b,S2 b→b<w'.heap.size∧(S b∨b∈F∨w.heap.size≤b)):SimX E (Am.delL s ow) a w' S2 ρ foot:=by
 have hm:=fun b hb=>zIP h hex b (hF.subset hb)
 have hblock:∀ b,b<w.heap.size→b∉F→w'.heap[b]? =w.heap[b]? :=hk.block
 have hSb:∀ b,S b→w'.heap[b]? =w.heap[b]? :=fun b hb=>hblock b (h.shared b hb).1 (fun hbF=>(hm b hbF).1 hb)
 have hob:∀ d ob,lk d (Am.delL s ow).objs=some ob→∀ b,b∈foot d→b∉F:=by
  intro d ob hl b hb hbF
  obtain ⟨hd1,hd2⟩:=zKV.1 hl
  obtain ⟨j,hj,hbj⟩:=List.mem_flatMap.1 (hF.subset hbF)
  obtain ⟨ob',ho'⟩:=hex j hj
  exact h.apart j ob' d ob ho' hd2 (fun e=>hd1 (e▸hj)) b hbj hb
 have hd:=h.delL (ids:=ow)
 exact {
  nt:=hd.nt,defers:=hd.defers
  slots:=fun n t hn=>zCP hS t (zFY t (hd.slots n t hn) fun b hb=>by
   rcases hb with hb|hb
   ·cases hb
   ·exact hSb b hb)
  objs:=fun d ob hl=>by
   obtain ⟨hdr,e1,e2,e3⟩:=hd.objs d ob hl
   refine ⟨hdr,e1,e2, ?_⟩
   rcases e3 with e3|⟨b,off,arr,el,fr,Fs,f1,f2,f3,f4,f5,f6,f7⟩
   ·exact .inl e3
   ·have m:∀ c,c∈foot d→w'.heap[c]? =w.heap[c]? :=fun c hc=>hblock c (hd.mine d ob hl c hc).2.1 (hob d ob hl c hc)
    refine .inr ⟨b,off,arr,el,fr,Fs,f1,by rw [m b (by simp [f7])];exact f2,f3,f4,f5,zEq hS _ (zCi _ f6 (fun c hc=> ?_)),f7⟩
    rcases hc with hc|hc
    ·exact m c (by simp [f7,hc])
    ·exact hSb c hc
  nodup:=hd.nodup
  apart:=hd.apart
  mine:=fun d ob hl b hb=>by
   obtain ⟨m1,m2,m3⟩:=hd.mine d ob hl b hb
   refine ⟨fun hb2=> ?_,by have:=hk.size;omega,m3⟩
   rcases (hS2 b hb2).2 with h1|h1|h1
   ·exact m1 h1
   ·exact hob d ob hl b hb h1
   ·omega
  shared:=fun b hb=>by
   obtain ⟨h1,h2⟩:=hS2 b hb
   refine ⟨h1, ?_⟩
   rcases h2 with h2|h2|h2
   ·exact (h.shared b h2).2
   ·exact .inr (hm b h2).2.2
   ·exact .inr (.inr (by have:=h.kept.size;omega))
  S0:=fun b hb=>hS b (h.S0 b hb)
  kept:=h.kept.trans' hk (fun b hb=>(hm b hb).2.2)
  pins:=fun p hp=>zCP hS p.1 (zFY p.1 (h.pins p hp) fun b hb=>by
   rcases hb with hb|hb
   ·cases hb
   ·exact hSb b hb) }
theorem SimX.back (h:SimX E s a w S ρ foot) {id:Nat} {ob':Ob} {hd:Hd} {F':List Nat} (hn:∀ ob,lk id s.objs≠some ob) (hr:ρ id=some hd) (hrep:zFZ S w ρ ob' hd F') (hf:Free E s w S foot F'):
  SimX E (s.upd id ob') a w S ρ (fun i=>if i=id then F' else foot i)∧∀ G,Free E s w S foot (F'++G)→Free E (s.upd id ob') w S (fun i=>if i=id then F' else foot i) G:=by
 constructor
 ·exact {
   nt:=h.nt,defers:=h.defers,slots:=h.slots
   objs:=fun d2 ob2 hl=>by
    simp only [St.upd,lk] at hl
    split at hl
    ·rename_i e;simp only [Option.some.injEq] at hl;subst hl e
     exact ⟨hd,hr,by simpa using hrep⟩
    ·rename_i e
     simp only [if_neg (Ne.symm e)]
     exact h.objs d2 ob2 hl
   nodup:=fun d2 ob2 hl=>by
    by_cases e:d2=id
    ·simp only [if_pos e];exact hf.nodup
    ·simp only [if_neg e]
     simp only [St.upd,lk,if_neg (Ne.symm e)] at hl
     exact h.nodup d2 ob2 hl
   apart:=fun d1 ob1 d2 ob2 hl1 hl2 hne c hc=>by
    simp only [St.upd,lk] at hl1 hl2
    by_cases e1:d1=id
    ·rw [if_pos e1] at hc
     have e2:d2≠id:=fun e2=>hne (by rw [e1,e2])
     rw [if_neg (Ne.symm e2)] at hl2
     rw [if_neg e2]
     exact hf.apart d2 ob2 hl2 c hc
    ·rw [if_neg e1] at hc
     rw [if_neg (Ne.symm e1)] at hl1
     by_cases e2:d2=id
     ·rw [if_pos e2]
      exact fun hc2=>hf.apart d1 ob1 hl1 c hc2 hc
     ·rw [if_neg (Ne.symm e2)] at hl2
      rw [if_neg e2]
      exact h.apart d1 ob1 d2 ob2 hl1 hl2 hne c hc
   mine:=fun d2 ob2 hl c hc=>by
    by_cases e:d2=id
    ·rw [if_pos e] at hc;exact hf.mine c hc
    ·rw [if_neg e] at hc
     simp only [St.upd,lk,if_neg (Ne.symm e)] at hl
     exact h.mine d2 ob2 hl c hc
   shared:=h.shared,S0:=h.S0,kept:=h.kept,pins:=h.pins }
 ·intro G hG
  refine ⟨(List.nodup_append.1 hG.nodup).2.1,fun b hb=>hG.mine b (List.mem_append_right _ hb),fun d ob hl b hb=> ?_⟩
  simp only [St.upd,lk] at hl
  split
  ·exact fun hb2=>(List.nodup_append.1 hG.nodup).2.2 b hb2 b hb rfl
  ·rename_i e
   rw [if_neg (Ne.symm e)] at hl
   exact hG.apart d ob hl b (List.mem_append_right _ hb)
structure BkOut (E:Env) (s s':St) (a:Act) (w:World) (S:Nat→Prop) (ρ:Nat→Option Hd) (foot foot':Nat→List Nat) (ids:List Nat) (F:List Nat):Prop where
 sim:SimX E s' a w S ρ foot'
 free:∀ G,Free E s w S foot (F++G)→Free E s' w S foot' G
 other:∀ d,d∉ids→lk d s'.objs=lk d s.objs
theorem BkOut.drop (h:SimX E s a w S ρ foot) {ids F:List Nat}:BkOut E s s a w S ρ foot foot ids F:=
 ⟨h,fun G hG=>hG.sub (List.sublist_append_right _ _),fun _ _=>rfl⟩
theorem BkOut.trans {s1 s2 s3:St} {f1 f2 f3:Nat→List Nat} {i1 i2 F1 F2:List Nat} (h1:BkOut E s1 s2 a w S ρ f1 f2 i1 F1) (h2:BkOut E s2 s3 a w S ρ f2 f3 i2 F2):BkOut E s1 s3 a w S ρ f1 f3 (i1++i2) (F1++F2):=
 ⟨h2.sim,fun G hG=>h2.free G (h1.free (F2++G) (by simpa using hG)),fun d hd=>by
  rw [h2.other d (fun h=>hd (List.mem_append_right _ h)),h1.other d (fun h=>hd (List.mem_append_left _ h))]⟩
section
variable {s0:St} {w0:World} {S0:Nat→Prop} {foot0:Nat→List Nat} {Fl:List Nat}
theorem zPe (h0:SimX E s0 a w0 S0 ρ foot0) (hk:Kept Fl w0 w) (h:SimX E s a w S ρ foot) {t u:T} {y:Value} (hr:Rep S0 w0 ρ t y []) {u0:T} {ids:List Nat} {c:Prop} (hp:zEi s0 t=some (u0,ids,c)) (hc:c)
  {Fu:List Nat} (hu:Rep S w noH u y Fu) (hf:Free E s w S foot Fu) (hgone:∀ id,id∈ids→∀ ob,lk id s.objs≠some ob) (hb:(zF3 s0 s t u).2):∃ foot',BkOut E s (zF3 s0 s t u).1 a w S ρ foot foot' ids Fu:=by
 unfold zF3 at hb ⊢
 split at hb
 ·rename_i id lo n k rows
  split at hb
  ·rename_i ob ho
   simp only [ho] at hb ⊢
   subst hb
   simp only [zEi,ho,Option.some.injEq,Prod.mk.injEq] at hp
   obtain ⟨rfl,rfl,rfl⟩:=hp
   obtain ⟨rfl,rfl,_⟩:=hc
   simp only [Rep] at hr hu
   obtain ⟨_,hd,a0,c,e1,rfl,e3,e4,e5⟩:=hr
   obtain ⟨hd',e6,e7,e8⟩:=h0.objs id ob ho
   rw [e1] at e6;simp at e6;subst e6
   obtain ⟨a1,cap,g1,g2⟩:=hu
   simp only [Value.slice.injEq] at g1
   obtain ⟨rfl,g1,rfl⟩:=g1
   have hno:=hgone id (by simp)
   have triv:c=0→∃ foot',BkOut E s (s.upd id ⟨ob.k,rows⟩) a w S ρ foot foot' [id] Fu:=by
    intro hc0
    have hr0:rows=[]:=List.length_eq_zero_iff.1 (by omega)
    subst hr0
    obtain ⟨q1,q2⟩:=h.back (ob':=⟨ob.k,[]⟩) (F':=[]) hno e1 ⟨e7, .inl ⟨by omega,rfl,rfl⟩⟩ ⟨by simp,by simp,by simp⟩
    exact ⟨_,q1,fun G hG=>q2 G (hG.sub (List.sublist_append_right _ _)),fun d hd=>by simp only [St.upd,lk];rw [if_neg (fun e=>hd (by simp [e]))]⟩
   rcases g2 with ⟨g2,_,_⟩|⟨b1,off1,arr,el,fr,Fs,g3,g4,g5,g6,g7,g8⟩
   ·exact triv g2
   ·rcases e5 with e5|⟨b,off,e5,e9⟩
    ·exact triv e5
    ·rw [g3] at e9
     simp only [Nat.zero_mul,Nat.add_zero,Option.some.injEq,Addr.mk.injEq] at e9
     obtain ⟨rfl,rfl,_⟩:=e9
     obtain ⟨rfl,g9⟩:=g8
     obtain ⟨q1,q2⟩:=h.back (ob':=⟨ob.k,rows⟩) (F':=b1::Fs) hno e1 ⟨e7, .inr ⟨b1,off1,arr,el,fr,Fs,e5,g4,by rw [←e3,Nat.zero_add];exact g5,by rw [←e3,Nat.zero_add];exact g6,g9,zFR g7,rfl⟩⟩ hf
     exact ⟨_,q1,q2,fun d hd=>by simp only [St.upd,lk];rw [if_neg (fun e=>hd (by simp [e]))]⟩
  ·exact hb.elim
 ·rename_i id i q row q'
  split at hb
  ·rename_i ob ho
   simp only [ho] at hb ⊢
   obtain ⟨hb,rfl⟩:=hb
   simp only [zEi] at hp
   split at hp
   ·rename_i k row0 ho'
    rw [ho] at ho';simp only [Option.some.injEq] at ho';subst ho'
    simp only [Option.some.injEq,Prod.mk.injEq] at hp
    obtain ⟨rfl,rfl,rfl⟩:=hp
    obtain ⟨rfl,_⟩:=hc
    simp only [Rep] at hr hu
    obtain ⟨_,hd,b,off,e1,e2,rfl⟩:=hr
    obtain ⟨hd',e6,e7,e8⟩:=h0.objs id _ ho
    rw [e1] at e6;simp at e6;subst e6
    obtain ⟨b1,off1,arr,el,fr,Fs,g1,g2,g3,g4,g5⟩:=hu
    simp only [Nat.zero_mul,Nat.add_zero,Value.pointer.injEq,Option.some.injEq,Addr.mk.injEq,Nat.add_right_cancel_iff] at g1
    obtain ⟨rfl,rfl,_⟩:=g1
    rcases e8 with ⟨e8,e9,e10⟩|⟨b',off',arr0,el0,fr0,Fs0,f1,f2,f3,f4,f5,f6,f7⟩
    ·cases e9
    ·rw [e2] at f1;simp at f1;obtain ⟨rfl,rfl⟩:=f1
     obtain ⟨arr',fr',z1,z2⟩:=hk.sizes b arr0 el0 fr0 f2
     rw [g2] at z1;simp only [Option.some.injEq,Obj.cells.injEq] at z1
     obtain ⟨rfl,rfl,rfl⟩:=z1
     obtain ⟨rfl,g6⟩:=g5
     have hno:=hgone id (by simp)
     obtain ⟨q1,q2⟩:=h.back (ob':=⟨k,[row]⟩) (F':=b::Fs) hno e1 ⟨e7, .inr ⟨b,off,arr,el,fr,Fs,e2,g2,by simpa using f3,by rw [z2];exact f4,g6,by
      simp only [zAb]
      exact ⟨Fs,[],hb,zDY g4,by simp,by simp⟩,rfl⟩⟩ hf
     exact ⟨_,q1,q2,fun d hd=>by simp only [St.upd,lk];rw [if_neg (fun e=>hd (by simp [e]))]⟩
   ·cases hp
  ·exact hb.elim
 ·exact ⟨foot, .drop h⟩
theorem zQW (h0:SimX E s0 a w0 S0 ρ foot0) (hk:Kept Fl w0 w):∀ {row us:List T} {s:St} {foot:Nat→List Nat} {cell:Nat→Option Value} {b:Nat} {row0:List T} {ids:List Nat} {c:Prop} {Fu:List Nat},SimX E s a w S ρ foot→RepRow S0 w0 ρ cell b row []→zHt s0 row=some (row0,ids,c)→c→
  RepRow S w noH cell b us Fu→Free E s w S foot Fu→ids.Nodup→(∀ id,id∈ids→∀ ob,lk id s.objs≠some ob)→(zHu s0 s row us).2→∃ foot',BkOut E s (zHu s0 s row us).1 a w S ρ foot foot' ids Fu
 |[],us,s,foot,cell,b,row0,ids,c,Fu,h,hr,hp,hc,hu,hf,hnd,hgone,hb=>⟨foot,by simp only [zHu];exact .drop h⟩
 |t::ts,[],s,foot,cell,b,row0,ids,c,Fu,h,hr,hp,hc,hu,hf,hnd,hgone,hb=>⟨foot,by simp only [zHu];exact .drop h⟩
 |t::ts,u::us,s,foot,cell,b,row0,ids,c,Fu,h,hr,hp,hc,hu,hf,hnd,hgone,hb=>by
  simp only [zHt] at hp
  split at hp
  ·rename_i u0 i c1 us0 j c2 h1 h2
   simp only [Option.some.injEq,Prod.mk.injEq] at hp
   obtain ⟨rfl,rfl,rfl⟩:=hp
   simp only [RepRow] at hr hu
   obtain ⟨y,F1,F2,e0,e1,e2,e3⟩:=hr
   obtain ⟨rfl,rfl⟩:=List.append_eq_nil_iff.1 e3.symm
   obtain ⟨y',G1,G2,g0,g1,g2,rfl⟩:=hu
   rw [e0] at g0;simp at g0;subst g0
   simp only [zHu] at hb ⊢
   obtain ⟨foot1,q1⟩:=zPe h0 hk h e1 h1 hc.1 g1 (hf.sub (List.sublist_append_left _ _)) (fun id hid=>hgone id (List.mem_append_left _ hid)) hb.1
   obtain ⟨n1,n2,n3⟩:=List.nodup_append.1 hnd
   obtain ⟨foot2,q2⟩:=zQW h0 hk q1.sim e2 h2 hc.2 g2 (q1.free G2 hf) n2 (fun id hid ob=>by
    rw [q1.other id (fun hi=>n3 id hi id hid rfl)]
    exact hgone id (List.mem_append_right _ hid) ob) hb.2
   exact ⟨foot2,q1.trans q2⟩
  ·cases hp
theorem zAbG (h0:SimX E s0 a w0 S0 ρ foot0) (hk:Kept Fl w0 w) (h:SimX E s a w S ρ foot) {t u:T} {y:Value} (hr:Rep S0 w0 ρ t y []) {u0:T} {ids:List Nat} {c:Prop} (hp:pkT s0 t=some (u0,ids,c)) (hc:c)
  {Fu:List Nat} (hu:Rep S w noH u y Fu) (hf:Free E s w S foot Fu) (hnd:ids.Nodup) (hgone:∀ id,id∈ids→∀ ob,lk id s.objs≠some ob) (hb:(bkT s0 s t u).2):∃ foot',BkOut E s (bkT s0 s t u).1 a w S ρ foot foot' ids Fu:=by
 by_cases ha:(∃ row,t= .agg row)∧∃ row,u= .agg row
 ·obtain ⟨⟨row,rfl⟩,⟨row',rfl⟩⟩:=ha
  simp only [pkT] at hp
  split at hp
  ·rename_i us i c1 h1
   simp only [Option.some.injEq,Prod.mk.injEq] at hp
   obtain ⟨rfl,rfl,rfl⟩:=hp
   simp only [Rep] at hr hu
   obtain ⟨cs,rfl,e1,e2⟩:=hr
   obtain ⟨cs',e3,e4,e5⟩:=hu
   simp only [Value.agg.injEq] at e3;subst e3
   exact zQW h0 hk h e2 h1 hc e5 hf hnd hgone hb
  ·cases hp
 ·have e:bkT s0 s t u=zF3 s0 s t u:=by
   cases t<;>cases u<;>first|rfl|exact absurd ⟨⟨_,rfl⟩,⟨_,rfl⟩⟩ ha
  rw [e] at hb ⊢
  by_cases ht:∃ row,t= .agg row
  ·obtain ⟨row,rfl⟩:=ht
   exact ⟨foot,by simp only [zF3];exact .drop h⟩
  ·have e2:pkT s0 t=zEi s0 t:=by cases t<;>first|rfl|exact absurd ⟨_,rfl⟩ ht
   rw [e2] at hp
   exact zPe h0 hk h hr hp hc hu hf hgone hb
theorem zQX (h0:SimX E s0 a w0 S0 ρ foot0) (hk:Kept Fl w0 w):∀ {ts:List (Bool×T)} {us:List T} {s:St} {foot:Nat→List Nat} {cell:Nat→Option Value} {b:Nat} {row0:List T} {ow vw:List Nat} {c:Prop} {Fu:List Nat},SimX E s a w S ρ foot→RepRow S0 w0 ρ cell b (ts.map (·.2)) []→zBT s0 ts=some (row0,ow,vw,c)→c→
  (∀ j (t:Bool×T) (u:T) v,ts[j]? =some t→us[j]? =some u→t.1=true→cell (b+j)=some v→True)→(∃ Fs:List (List Nat),Fs.flatten.Sublist Fu∧Fs.length=us.length∧∀ (j:Nat) (t:Bool×T) (u:T) (g:List Nat),ts[j]? =some t→us[j]? =some u→Fs[j]? =some g→t.1=true→∃ v,cell (b+j)=some v∧Rep S w noH u v g)→
  Free E s w S foot Fu→ow.Nodup→(∀ id,id∈ow→∀ ob,lk id s.objs≠some ob)→(bkL s0 s ts us).2→∃ foot',BkOut E s (bkL s0 s ts us).1 a w S ρ foot foot' ow Fu
 |[],us,s,foot,cell,b,row0,ow,vw,c,Fu,h,hr,hp,hc,_,hu,hf,hnd,hgone,hb=>⟨foot,by simp only [bkL];exact .drop h⟩
 |t::ts,[],s,foot,cell,b,row0,ow,vw,c,Fu,h,hr,hp,hc,_,hu,hf,hnd,hgone,hb=>⟨foot,by simp only [bkL];exact .drop h⟩
 |(own,t)::ts,u::us,s,foot,cell,b,row0,ow,vw,c,Fu,h,hr,hp,hc,_,hu,hf,hnd,hgone,hb=>by
  simp only [zBT] at hp
  split at hp
  ·rename_i u0 i c1 us0 o v c2 h1 h2
   simp only [Option.some.injEq,Prod.mk.injEq] at hp
   obtain ⟨rfl,rfl,rfl,rfl⟩:=hp
   simp only [List.map_cons,RepRow] at hr
   obtain ⟨y,F1,F2,e0,e1,e2,e3⟩:=hr
   obtain ⟨rfl,rfl⟩:=List.append_eq_nil_iff.1 e3.symm
   obtain ⟨Fs,k1,k2,k3⟩:=hu
   obtain ⟨g,Fs',rfl⟩:∃ g Fs',Fs=g::Fs':=by
    cases Fs with
    |nil=>simp at k2
    |cons g Fs'=>exact ⟨g,Fs',rfl⟩
   simp only [bkL] at hb ⊢
   have rest:∀ (j:Nat) (t:Bool×T) (u:T) (g:List Nat),ts[j]? =some t→us[j]? =some u→Fs'[j]? =some g→t.1=true→∃ v,cell (b+1+j)=some v∧Rep S w noH u v g:=fun j t' u' g' a1 a2 a3 a4=>by
    have:=k3 (j+1) t' u' g' (by simpa using a1) (by simpa using a2) (by simpa using a3) a4
    rwa [show b+(j+1)=b+1+j from by omega] at this
   have hfs:Free E s w S foot (g++Fs'.flatten):=hf.sub (by simpa using k1)
   cases own with
   |true=>
    simp only [if_true] at h1 hb hnd hgone ⊢
    obtain ⟨v',v1,v2⟩:=k3 0 _ _ _ rfl rfl rfl rfl
    rw [Nat.add_zero,e0] at v1;simp at v1;subst v1
    obtain ⟨n1,n2,n3⟩:=List.nodup_append.1 hnd
    obtain ⟨foot1,q1⟩:=zAbG h0 hk h e1 h1 hc.1 v2 (hfs.sub (List.sublist_append_left _ _)) n1 (fun id hid=>hgone id (List.mem_append_left _ hid)) hb.1
    obtain ⟨foot2,q2⟩:=zQX (Fu:=Fs'.flatten) h0 hk q1.sim e2 h2 hc.2 (fun _ _ _ _ _ _ _ _=>trivial) ⟨Fs',List.Sublist.refl _,by simpa using k2,rest⟩ (q1.free _ hfs) n2 (fun id hid ob=>by
     rw [q1.other id (fun hi=>n3 id hi id hid rfl)]
     exact hgone id (List.mem_append_right _ hid) ob) hb.2
    have q3:=q1.trans q2
    exact ⟨foot2,q3.sim,fun G hG=>q3.free G (hG.sub (List.Sublist.append (by simpa using k1) (List.Sublist.refl _))),q3.other⟩
   |false=>
    simp only [Bool.false_eq_true,if_false] at h1 hb hnd hgone ⊢
    obtain ⟨foot2,q2⟩:=zQX (Fu:=Fs'.flatten) h0 hk h e2 h2 hc.2 (fun _ _ _ _ _ _ _ _=>trivial) ⟨Fs',List.Sublist.refl _,by simpa using k2,rest⟩ (hfs.sub (List.sublist_append_right _ _)) hnd hgone hb.2
    refine ⟨foot2,q2.sim,fun G hG=>q2.free G (hG.sub (List.Sublist.append ?_ (List.Sublist.refl _))),q2.other⟩
    exact (List.sublist_append_right g _).trans (by simpa using k1)
  ·cases hp
end
theorem zJY {f:T→Option (T×List Nat×Prop)} (hf:∀ {t u:T} {ids:List Nat} {c:Prop},f t=some (u,ids,c)→∀ id,id∈ids→∃ ob,lk id s.objs=some ob):∀ {row us:List T} {ids:List Nat} {c:Prop},zEj f row=some (us,ids,c)→∀ id,id∈ids→∃ ob,lk id s.objs=some ob
 |[],us,ids,c,h=>by
  simp only [zEj,Option.some.injEq,Prod.mk.injEq] at h
  obtain ⟨rfl,rfl,rfl⟩:=h
  intro id hid;cases hid
 |t::ts,us,ids,c,h=>by
  simp only [zEj] at h
  split at h
  ·rename_i u i c1 us j c2 h1 h2
   simp only [Option.some.injEq,Prod.mk.injEq] at h
   obtain ⟨rfl,rfl,rfl⟩:=h
   intro id hid
   exact (List.mem_append.1 hid).elim (hf h1 id) (zJY hf h2 id)
  ·cases h
theorem zQY:∀ (n:Fu) {t u:T} {ids:List Nat} {c:Prop},vwO s n t=some (u,ids,c)→∀ id,id∈ids→∃ ob,lk id s.objs=some ob
 | .z,t,u,ids,c,h=>by simp [vwO] at h
 | .s n,t,u,ids,c,h=>by
  simp only [vwO] at h
  split at h
  ·split at h
   ·rename_i ob ho
    simp only [Option.some.injEq,Prod.mk.injEq] at h
    obtain ⟨rfl,rfl,rfl⟩:=h
    intro id hid;simp at hid;subst hid;exact ⟨ob,ho⟩
   ·cases h
  ·split at h
   ·rename_i ob ho
    split at h
    ·rename_i us js c1 h1
     simp only [Option.some.injEq,Prod.mk.injEq] at h
     obtain ⟨rfl,rfl,rfl⟩:=h
     intro id hid
     rcases List.mem_cons.1 hid with e|e
     ·subst e;exact ⟨ob,ho⟩
     ·exact zJY (zQY n) h1 id e
    ·cases h
   ·cases h
  ·split at h
   ·rename_i us js c1 h1
    simp only [Option.some.injEq,Prod.mk.injEq] at h
    obtain ⟨rfl,rfl,rfl⟩:=h
    exact zJY (zQY n) h1
   ·cases h
  ·simp only [Option.some.injEq,Prod.mk.injEq] at h
   obtain ⟨rfl,rfl,rfl⟩:=h
   intro id hid;cases hid
theorem zPf {t u:T} {ids:List Nat} {c:Prop} (h:zEO s t=some (u,ids,c)):∀ id,id∈ids→∃ ob,lk id s.objs=some ob:=by
 unfold zEO at h
 split at h
 ·split at h
  ·rename_i ob ho
   simp only [Option.some.injEq,Prod.mk.injEq] at h
   obtain ⟨rfl,rfl,rfl⟩:=h
   intro id hid;simp at hid;subst hid;exact ⟨ob,ho⟩
  ·cases h
 ·split at h
  ·rename_i ob ho
   split at h
   ·simp only [Option.some.injEq,Prod.mk.injEq] at h
    obtain ⟨rfl,rfl,rfl⟩:=h
    intro id hid;simp at hid;subst hid;exact ⟨ob,ho⟩
   ·exact zQY _ h
  ·cases h
 ·simp only [Option.some.injEq,Prod.mk.injEq] at h
  obtain ⟨rfl,rfl,rfl⟩:=h
  intro id hid;cases hid
theorem zLP:∀ {row us:List T} {ids:List Nat} {c:Prop},zEs s row=some (us,ids,c)→∀ id,id∈ids→∃ ob,lk id s.objs=some ob
 |[],us,ids,c,h=>by
  simp only [zEs,Option.some.injEq,Prod.mk.injEq] at h
  obtain ⟨rfl,rfl,rfl⟩:=h
  intro id hid;cases hid
 |t::ts,us,ids,c,h=>by
  simp only [zEs] at h
  split at h
  ·rename_i u i c1 us j c2 h1 h2
   simp only [Option.some.injEq,Prod.mk.injEq] at h
   obtain ⟨rfl,rfl,rfl⟩:=h
   exact fun id hid=>(List.mem_append.1 hid).elim (zPf h1 id) (zLP h2 id)
  ·cases h
theorem zAbH {t u:T} {ids:List Nat} {c:Prop} (h:vwT s t=some (u,ids,c)):∀ id,id∈ids→∃ ob,lk id s.objs=some ob:=by
 unfold vwT at h
 split at h
 ·split at h
  ·rename_i h1
   simp only [Option.some.injEq,Prod.mk.injEq] at h
   obtain ⟨rfl,rfl,rfl⟩:=h
   exact zLP h1
  ·cases h
 ·split at h
  ·rename_i h1
   simp only [Option.some.injEq,Prod.mk.injEq] at h
   obtain ⟨rfl,rfl,rfl⟩:=h
   exact zLP h1
  ·cases h
 ·exact zPf h
theorem zKW:∀ {ts:List (Bool×T)} {us:List T} {ow vw:List Nat} {c:Prop},zBT s ts=some (us,ow,vw,c)→∀ id,id∈vw→∃ ob,lk id s.objs=some ob
 |[],us,ow,vw,c,h=>by
  simp only [zBT,Option.some.injEq,Prod.mk.injEq] at h
  obtain ⟨rfl,rfl,rfl,rfl⟩:=h
  intro id hid;cases hid
 |(own,t)::ts,us,ow,vw,c,h=>by
  simp only [zBT] at h
  split at h
  ·rename_i u i c1 us' o v c2 h1 h2
   simp only [Option.some.injEq,Prod.mk.injEq] at h
   obtain ⟨rfl,rfl,rfl,rfl⟩:=h
   cases own with
   |true=>exact zKW h2
   |false=>exact fun id hid=>(List.mem_append.1 hid).elim (zAbH (by simpa using h1) id) (zKW h2 id)
  ·cases h
def zB3:List Bool→List T→Prop
 |true::ms,t::ts=>t.noSh∧zB3 ms ts
 |false::ms,_::ts=>zB3 ms ts
 |_,_=>True
theorem zLp:∀ {ms:List Bool} {ts:List T},zB3 ms ts→∀ (j:Nat) (t:T),ms[j]? =some true→ts[j]? =some t→t.noSh
 |[],_,_,_,_,h,_=>by simp at h
 |m::ms,[],_,_,_,_,h=>by simp at h
 |m::ms,u::ts,ho,j,t,h1,h2=>by
  cases j with
  |zero=>simp at h1 h2;subst h1 h2;exact ho.1
  |succ j=>
   have:zB3 ms ts:=by cases m<;>first|exact ho.2|exact ho
   exact zLp this j t (by simpa using h1) (by simpa using h2)
def St.unpO (s:St) (d:Option Nat) (r:T):St:=match d with|some d=>s.unp d r|none=>s
def zF4 (s:St) (d:Option Nat) (r:T):Prop:=match d with|some d=>zIN s d r|none=>True
def Env.okdO (E:Env) (d:Option Nat):Prop:=match d with|some d=>E.okd d∧∀ i,1000*(d+1)≤i→i<1000*(d+1)+1000→E.okd i|none=>True
theorem zQZ (hsx:SimX E s a w S ρ foot) {f:Nat} {vs:Array Value} {ts us:List T} {modes:List Bool} {ow vw:List Nat} {c:Prop} {d:Option Nat} {R:T→List T→Prop} {K:St→Prop}
  (hcells:RepRow S w ρ (fun i=>vs[i]?) 0 ts []) (hvs:vs.size=ts.length) (hm:modes.length=ts.length) (hp:zBT s (modes.zip ts)=some (us,ow,vw,c)) (hc:c) (hnd:ow.Nodup) (hdis:∀ id,id∈ow→id∉vw) (hC:ACall P f us R)
  (hdn:∀ n,d=some n→n<E.nt) (hokd:E.okdO d)
  (hK:∀ r l,R r l→(vw=[]∨(r.noSh∧zB3 modes l))∧(bkL s (delL s ow) (modes.zip ts) l).2∧zF4 (bkL s (delL s ow) (modes.zip ts) l).1 d r∧K ((bkL s (delL s ow) (modes.zip ts) l).1.unpO d r)):
  Calls P f vs w fun e w'=>∃ rv,e= .returned rv∧(ow=[]→∀ b,b<w.heap.size→w'.heap[b]? =w.heap[b]?)∧∃ s',K s'∧Sim E s' (a.put d rv) w':=by
 have hz:(modes.zip ts).map (·.2)=ts:=by
  rw [List.map_snd_zip];omega
 have hzl:(modes.zip ts).length=ts.length:=by simp [hm]
 obtain ⟨F,g1,g2,g3,g4⟩:=zKU (S1:=fun b=>S b∨∃ id,id∈vw∧b∈foot id) hsx (fun b hb=> .inl hb) (by rw [hz];exact hcells) hp hc (fun id hid b hb=> .inr ⟨id,hid,hb⟩)
 have hFn:=g2.nodup (zHV hsx hnd g3)
 have hFm:=fun b hb=>zIP hsx g3 b (g2.subset hb)
 have hex:=zKW hp
 have hFS1:∀ b,b∈F→¬ (S b∨∃ id,id∈vw∧b∈foot id):=by
  rintro b hb (h1|⟨id,h1,h2⟩)
  ·exact (hFm b hb).1 h1
  ·obtain ⟨j,hj,hbj⟩:=List.mem_flatMap.1 (g2.subset hb)
   obtain ⟨ob,ho⟩:=g3 j hj
   obtain ⟨ob',ho'⟩:=hex id h1
   exact hsx.apart j ob id ob' ho ho' (fun e=>hdis j hj (e▸h1)) b hbj h2
 refine (hC w (fun b=>S b∨∃ id,id∈vw∧b∈foot id) F vs (by rw [hvs];omega) g1 hFn (fun b hb=>⟨hFS1 b hb,(hFm b hb).2.1⟩) ?_ (hsx.inv.mono (fun _ h=> .inl h) fun _ _=>rfl)).mono ?_
 ·rintro b (h1|⟨id,h1,h2⟩)
  ·exact (hsx.shared b h1).1
  ·obtain ⟨ob',ho'⟩:=hex id h1
   exact (hsx.mine id ob' ho' b h2).2.1
 rintro e w' ⟨rv,r,l,S',Fr,Fa,rfl,hR,hlen,hback⟩
 refine ⟨rv,rfl,fun how b hb=>hback.kept.block b hb (by subst how;intro hbF;simpa using g2.subset hbF), ?_⟩
 obtain ⟨k1,k2,k3,k4⟩:=hK r l hR
 obtain ⟨S2,s1,s2,s3,s4,s5⟩:∃ S2:Nat→Prop,(∀ b,S b→S2 b)∧(∀ b,S2 b→b<w'.heap.size∧(S b∨b∈F∨w.heap.size≤b))∧(∀ b,S2 b→S' b)∧Rep S2 w' noH r rv Fr∧
   ∀ (j:Nat) (t:T) v g,modes[j]? =some true→l[j]? =some t→Rep S' w' noH t v g→Rep S2 w' noH t v g:=by
  rcases k1 with k1|⟨k1,k1'⟩
  ·refine ⟨S',fun b hb=>hback.S0 b (.inl hb),fun b hb=> ?_,fun b hb=>hb,hback.res,fun _ _ _ _ _ _ h=>h⟩
   obtain ⟨q1,q2⟩:=hback.shared b hb
   refine ⟨q1, ?_⟩
   rcases q2 with (q2|⟨id,q2,_⟩)|q2
   ·exact .inl q2
   ·rw [k1] at q2;cases q2
   ·exact .inr q2
  ·refine ⟨S,fun b hb=>hb,fun b hb=>⟨by have:=(hsx.shared b hb).1;have:=hback.kept.size;omega, .inl hb⟩,fun b hb=>hback.S0 b (.inl hb),zLH _ k1 hback.res,fun j t v g h1 h2 h=>zLH _ (zLp k1' j t h1 h2) h⟩
 have hsim:=hsx.after g2 g3 hback.kept s1 s2
 have hfree:Free E (delL s ow) w' S2 foot (Fa++Fr):=by
  refine ⟨List.perm_append_comm.nodup_iff.1 hback.nodup,fun b hb=> ?_,fun d' ob' hl b hb=> ?_⟩
  ·obtain ⟨q1,q2,q3⟩:=hback.mine b (by simp at hb ⊢;exact hb.symm)
   refine ⟨fun h=>q1 (s3 b h),q2, ?_⟩
   rcases q3 with q3|q3
   ·exact (hFm b q3).2.2
   ·exact .inr (by have:=hsx.kept.size;omega)
  ·obtain ⟨q1,q2,q3⟩:=hback.mine b (by simp at hb ⊢;exact hb.symm)
   obtain ⟨hl1,hl2⟩:=zKV.1 hl
   intro hb2
   rcases q3 with q3|q3
   ·obtain ⟨j,hj,hbj⟩:=List.mem_flatMap.1 (g2.subset q3)
    obtain ⟨ob,ho⟩:=g3 j hj
    exact hsx.apart j ob d' ob' ho hl2 (fun e=>hl1 (e▸hj)) b hbj hb2
   ·have:=(hsx.mine d' ob' hl2 b hb2).2.1
    omega
 obtain ⟨fs,f1,f2,f3⟩:=(zCp _ _ _).1 hback.args
 obtain ⟨foot2,hbk⟩:=zQX (Fu:=Fa) hsx hback.kept hsim (by rw [hz];exact hcells) hp hc (fun _ _ _ _ _ _ _ _=>trivial)
  ⟨fs,by rw [f2];exact List.Sublist.refl _,f1,fun j t u g h1 h2 h3 h4=>by
   obtain ⟨v,v1,v2⟩:=f3 j u g h2 h3
   refine ⟨v,v1,s5 j u v g ?_ h2 v2⟩
   rw [List.getElem?_zip_eq_some] at h1
   rw [h1.1,h4]⟩
  (hfree.sub (List.sublist_append_left _ _)) hnd (fun id hid ob hl=>(zKV.1 hl).1 hid) k2
 have hfr:=hbk.free Fr hfree
 cases d with
 |none=>exact ⟨_,k4,S2,ρ,foot2,hbk.sim⟩
 |some d=>
  obtain ⟨ρ3,foot3,id,id',u1,_,_⟩:=zWn hbk.sim (hdn d rfl) s4 hfr hokd k3
  exact ⟨_,k4,S2,ρ3,foot3,u1⟩
theorem zPg {c:Call} {f:Nat} {fn:Func} (hop:o.op= .call c) (hc:c.callee= .value (.func f)) (hf:P.funcs[f]? =some fn) (hb:fn.body.isSome=true) (hn:fn.name≠ "runtime.NumGoroutine"):(execOp a.eval o).run P w= .ok (.enter f (c.args.map a.eval)) w:=by
 have hbn:fn.body.isNone=false:=by cases h:fn.body<;>simp [h] at hb ⊢
 simp [execOp,hop,resolve,hc,Act.eval,Deferred.ofValue,invoke,callFunc,hf,hn]
 intro h
 rw [h] at hbn
 simp at hbn
theorem zTb {i:IN} {K:St→Prop} {f:Nat} {xs:List Operand} {ts us:List T} (modes:List Bool) {ow vw:List Nat} {c:Prop} {R:T→List T→Prop} (hi:i.i= .call f xs) (hev:zA6 s xs=some ts) (hm:modes.length=ts.length)
  (hp:zBT s (modes.zip ts)=some (us,ow,vw,c)) (hc:c) (hnd:ow.Nodup) (hdis:∀ id,id∈ow→id∉vw) (hC:ACall P f us R) (hokd:E.okdO i.dst)
  (hK:∀ r l,R r l→(vw=[]∨(r.noSh∧zB3 modes l))∧(bkL s (delL s ow) (modes.zip ts) l).2∧zF4 (bkL s (delL s ow) (modes.zip ts) l).1 i.dst r∧K ((bkL s (delL s ow) (modes.zip ts) l).1.unpO i.dst r)):zAn P E i K s:=by
 intro o g1 g2 g3 a w ⟨S,ρ,foot,hsx⟩ Q
 rw [hi] at g1
 unfold zBR at g1
 split at g1<;>try (simp at g1;done)
 case h_23 cl hop=>
  split at g1<;>try (first|(simp at g1;done)|(repeat' split at g1)<;>simp at g1;done)
  rename_i f' hcal
  split at g1
  ·rename_i fn hfn
   split at g1
   ·rename_i hb
    simp only [Bool.and_eq_true,bne_iff_ne,ne_eq] at hb
    simp only [Option.some.injEq,I.call.injEq] at g1
    obtain ⟨rfl,rfl⟩:=g1
    rw [zPg hop hcal hfn hb.1 hb.2,Oper.upon_enter,g2]
    have hl:=zC6 _ _ hev
    refine (zQZ (P:=P) hsx (vs:=cl.args.map a.eval) (ts:=ts) (modes:=modes) (d:=i.dst) (K:=K) ?_ (by simpa using hl.symm) hm hp hc hnd hdis hC g3 hokd hK).mono ?_
    ·refine zEz hsx _ _ _ 0 hev fun j x hx=> ?_
     have:cl.args[j]? =some x:=by simpa using hx
     simp [this]
    ·rintro e w' ⟨rv,rfl,_,s',h1,h2⟩
     exact ⟨s',h1,h2⟩
   ·cases g1
  ·cases g1
 all_goals (repeat' split at g1)<;>simp at g1
end
end Go.Am

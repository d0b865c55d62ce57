import Derived.Test.YthfpgpkdankdjaaGreatDoorAmPure3
set_option linter.all false
namespace Go.Am
open Go Go.RowKit
section
variable {P:Program} {E:Env} {s:St} {a:Act} {w:World} {S:Nat→Prop} {ρ:Nat→Option Hd} {foot:Nat→List Nat} {o:Oper}
theorem zNO {t:T} (hp:t.plainV=true) (h1:∀ row,t≠ .agg row) (h2:∀ l,t≠ .tup l) {y:Value} {F:List Nat} (h:Rep S w ρ t y F):y.cells= #[y]∧y.oneCell'=true:=by
 cases t with
 |any=>simp [T.plainV] at hp
 |v x=>simp only [Rep] at h;obtain ⟨rfl,_⟩:=h;cases y<;>first|exact ⟨rfl,rfl⟩|simp [T.plainV] at hp
 |agg row=>exact absurd rfl (h1 row)
 |tup l=>exact absurd rfl (h2 l)
 |sl own k rows=>simp only [Rep] at h;obtain ⟨_,_,rfl,_⟩:=h;exact ⟨rfl,rfl⟩
 |bo own row q=>simp only [Rep] at h;obtain ⟨_,_,_,_,_,_,rfl,_⟩:=h;exact ⟨rfl,rfl⟩
 |ref id lo n=>simp only [Rep] at h;obtain ⟨_,_,_,_,_,rfl,_⟩:=h;exact ⟨rfl,rfl⟩
 |ptr id i q=>simp only [Rep] at h;obtain ⟨_,_,_,_,_,_,rfl⟩:=h;exact ⟨rfl,rfl⟩
 |fn f caps=>simp only [Rep] at h;obtain ⟨_,rfl,_⟩:=h;exact ⟨rfl,rfl⟩
theorem zJO {t:T} {l:List T} (hc:t.cells=some l) (hp:t.plainV=true) {y:Value} {F:List Nat} (h:Rep S w ρ t y F):y.cells.size=l.length∧RepRow S w ρ (fun i=>y.cells[i]?) 0 l F:=by
 by_cases ha:∃ row,t= .agg row
 ·obtain ⟨row,rfl⟩:=ha
  simp only [T.cells,Option.some.injEq] at hc;subst hc
  simp only [Rep] at h
  obtain ⟨cs,rfl,h2,h3⟩:=h
  exact ⟨h2,h3⟩
 ·by_cases hb:∃ row,t= .tup row
  ·obtain ⟨row,rfl⟩:=hb;cases hc
  ·have h1:∀ row,t≠ .agg row:=fun row e=>ha ⟨row,e⟩
   have h2:∀ row,t≠ .tup row:=fun row e=>hb ⟨row,e⟩
   have e:l=[t]:=by
    cases t<;>simp [T.cells] at hc h1 h2<;>exact hc.symm
   subst e
   rw [(zNO hp h1 h2 h).1]
   refine ⟨rfl, ?_⟩
   simp only [RepRow]
   exact ⟨y,F,[],by simp,h,rfl,by simp⟩
theorem zSo {cell:Nat→Option Value} {l m:List T} {b off:Nat} (h:RepRow S w ρ cell b l []) {new:Nat→Option Value} (hm:RepRow S w ρ new 0 m []) (hle:off+m.length≤l.length) {cell':Nat→Option Value}
  (h1:∀ i,i<m.length→cell' (b+off+i)=new i) (h2:∀ i,i<l.length→(i<off∨off+m.length≤i)→cell' (b+i)=cell (b+i)):RepRow S w ρ cell' b (l.take off++m++l.drop (off+m.length)) []:=by
 obtain ⟨G1,g1,g2⟩:=zCx h 0 off (Nat.zero_le _)
 obtain ⟨G3,g3,g4⟩:=zCx h (off+m.length) l.length hle
 have:=zII g2;subst this
 have:=zII g4;subst this
 rw [Nat.add_zero,List.drop_zero] at g1
 rw [List.take_of_length_le (by simp)] at g3
 refine (zAr _ _ _ _).2 ⟨[],[],(zAr _ _ _ _).2 ⟨[],[], ?_, ?_,rfl⟩, ?_,rfl⟩
 ·exact zAM _ g1 fun i hi=>h2 i (by simp at hi;omega) (.inl (by simp at hi;omega))
 ·refine zAM _ hm fun i hi=> ?_
  rw [List.length_take,Nat.min_eq_left (by omega),Nat.zero_add]
  exact h1 i hi
 ·refine zAM _ g3 fun i hi=> ?_
  rw [List.length_append,List.length_take,Nat.min_eq_left (by omega)]
  have:=h2 (off+m.length+i) (by simp at hi;omega) (.inr (by omega))
  rwa [←Nat.add_assoc] at this
theorem zJr (off:Nat):∀ (l:List Value) (k:Nat) (cs:Array Value),off+k+l.length≤cs.size→
  ((l.zipIdx k).foldl (fun cs (x:Value×Nat)=>cs.setIfInBounds (off+x.2) x.1) cs).size=cs.size∧
  ∀ i,((l.zipIdx k).foldl (fun cs (x:Value×Nat)=>cs.setIfInBounds (off+x.2) x.1) cs)[i]? =if off+k≤i∧i<off+k+l.length then l[i-(off+k)]? else cs[i]?
 |[],k,cs,_=>⟨rfl,fun i=>by simp;intro h1 h2;omega⟩
 |x::l,k,cs,h=>by
  simp only [List.zipIdx_cons,List.foldl_cons]
  simp only [List.length_cons] at h
  obtain ⟨e1,e2⟩:=zJr off l (k+1) (cs.setIfInBounds (off+k) x) (by rw [Array.size_setIfInBounds];omega)
  refine ⟨by rw [e1];simp,fun i=> ?_⟩
  rw [e2 i]
  simp only [List.length_cons]
  by_cases hi:i=off+k
  ·subst hi
   rw [if_neg (by omega),if_pos (by omega),Array.getElem?_setIfInBounds,if_pos rfl,if_pos (by omega)]
   simp
  ·by_cases h2:off+(k+1)≤i∧i<off+(k+1)+l.length
   ·rw [if_pos h2,if_pos (by omega)]
    rw [show i-(off+k)=i-(off+(k+1))+1 from by omega]
    simp
   ·rw [if_neg h2,if_neg (by omega)]
    rw [Array.getElem?_setIfInBounds_ne (Ne.symm hi)]
theorem zWm (off:Nat) (v cells:Array Value) (h:off+v.size≤cells.size):
  (v.zipIdx.foldl (fun cs (c,j)=>cs.setIfInBounds (off+j) c) cells).size=cells.size∧
  ∀ i,(v.zipIdx.foldl (fun cs (c,j)=>cs.setIfInBounds (off+j) c) cells)[i]? =if off≤i∧i<off+v.size then v[i-off]? else cells[i]? :=by
 have:=zJr off v.toList 0 cells (by simpa using h)
 simp only [Nat.add_zero] at this
 rw [←Array.foldl_toList,Array.toList_zipIdx]
 simpa using this
theorem zIK {place:Nat→Option (Nat×Nat)}:∀ (parts:List (Nat×Value)) (ts:List (Nat×Nat×T)) (row:List T) (cells:Array Value) (row':List T),cells.size=row.length→RepRow S w ρ (fun i=>cells[i]?) 0 row []→
  parts.length=ts.length→(∀ (j:Nat) (p:Nat×Value) (q:Nat×Nat×T),parts[j]? =some p→ts[j]? =some q→place p.1=some (q.1,q.2.1)∧Rep S w ρ q.2.2 p.2 []∧q.2.2.plainV=true)→zEr row ts=some row'→
  ∃ out,Instr.fill place cells parts=some out∧out.size=row'.length∧RepRow S w ρ (fun i=>out[i]?) 0 row' []
 |[],ts,row,cells,row',h1,h2,h3,_,h5=>by
  cases ts with
  |nil=>simp only [zEr,Option.some.injEq] at h5;subst h5;exact ⟨cells,rfl,h1,h2⟩
  |cons q ts=>simp at h3
 |p::parts,ts,row,cells,row',h1,h2,h3,h4,h5=>by
  cases ts with
  |nil=>simp at h3
  |cons q ts=>
   obtain ⟨off,n,t⟩:=q
   obtain ⟨j,v⟩:=p
   obtain ⟨e1,e2,e3⟩:=h4 0 _ _ rfl rfl
   simp only at e1 e2 e3
   simp only [zEr] at h5
   split at h5
   ·rename_i cs hcs
    split at h5
    ·rename_i hn
     obtain ⟨rfl,hn2⟩:=hn
     obtain ⟨c1,c2⟩:=zJO hcs e3 e2
     have hf:=zWm off v.cells cells (by omega)
     simp only [Instr.fill,e1]
     rw [if_neg (by simp;omega)]
     refine zIK parts ts _ _ row' ?_ ?_ (by simpa using h3) (fun j' p' q' hp hq=>h4 (j'+1) p' q' (by simpa using hp) (by simpa using hq)) h5
     ·rw [hf.1];simp;omega
     ·refine zSo h2 c2 hn2 (fun i hi=> ?_) (fun i hi ho=> ?_)
      ·simp only [Nat.zero_add]
       rw [hf.2,if_pos (by omega)]
       congr 1;omega
      ·simp only [Nat.zero_add]
       rw [hf.2,if_neg (by omega)]
    ·cases h5
   ·cases h5
theorem zIj (h:SimX E s a w S ρ foot):∀ (parts:List (Nat×Nat×Operand)) (l:List (Nat×Nat×T)),zCw s parts=some l→
  parts.length=l.length∧∀ (j:Nat) (p:Nat×Nat×Operand) (q:Nat×Nat×T),parts[j]? =some p→l[j]? =some q→q.1=p.1∧q.2.1=p.2.1∧Rep S w ρ q.2.2 (a.eval p.2.2) []
 |[],l,he=>by simp only [zCw,Option.some.injEq] at he;subst he;simp
 |(off,n,x)::r,l,he=>by
  simp only [zCw] at he
  split at he
  ·rename_i t l' h1 h2
   simp only [Option.some.injEq] at he;subst he
   obtain ⟨e1,e2⟩:=zIj h r l' h2
   refine ⟨by simp [e1],fun j p q hp hq=> ?_⟩
   cases j with
   |zero=>simp at hp hq;subst hp hq;exact ⟨rfl,rfl,h.eval h1⟩
   |succ j=>exact e2 j p q (by simpa using hp) (by simpa using hq)
  ·cases he
theorem zJP {fields:Array Field}:∀ (ps:List (Nat×Operand)) (l:List (Nat×Nat×Operand)),partsOf P fields ps=some l→
  ps.length=l.length∧∀ (j:Nat) (p:Nat×Operand) (q:Nat×Nat×Operand),ps[j]? =some p→l[j]? =some q→q.2.2=p.2∧∃ f,fields[p.1]? =some f∧f.offset=q.1∧width P f.type=some q.2.1
 |[],l,he=>by simp only [partsOf,Option.some.injEq] at he;subst he;simp
 |(i,x)::r,l,he=>by
  simp only [partsOf] at he
  split at he
  ·rename_i f hf
   split at he
   ·rename_i n l' h1 h2
    simp only [Option.some.injEq] at he;subst he
    obtain ⟨e1,e2⟩:=zJP r l' h2
    refine ⟨by simp [e1],fun j p q hp hq=> ?_⟩
    cases j with
    |zero=>simp at hp hq;subst hp hq;exact ⟨rfl,f,hf,rfl,h1⟩
    |succ j=>exact e2 j p q (by simpa using hp) (by simpa using hq)
   ·cases he
  ·cases he
theorem zFO (z:Value):z.cells.size=(zAz z).length∧RepRow S w ρ (fun i=>z.cells[i]?) 0 (zAz z) []:=by
 unfold zAz
 split
 ·rename_i cs
  exact ⟨by simp [Value.cells],zHO _ _ _ (by simp [Value.cells])⟩
 ·rename_i x hx
  have:z.cells= #[z]:=by cases z<;>first|rfl|(rename_i cs;exact absurd rfl (hx cs))
  rw [this]
  refine ⟨rfl, ?_⟩
  simp only [RepRow]
  exact ⟨z,[],[],by simp,zLJ z,rfl,rfl⟩
theorem run_places {fields:Array Field} (hw:∀ f∈fields,∃ n,width P f.type=some n) (w':World):(fields.mapM (m:=Sem) fun f=>do pure (f.offset, ←sizeOf f.type)).run P w'= .ok (fields.map fun f=>(f.offset,(width P f.type).getD 0)) w':=by
 obtain ⟨l⟩:=fields
 simp only [List.mapM_toArray,List.map_toArray]
 have hw':∀ f∈l,∃ n,width P f.type=some n:=fun f hf=>hw f (by simpa using hf)
 have key:(l.mapM (m:=Sem) fun f=>do pure (f.offset, ←sizeOf f.type)).run P w'= .ok (l.map fun f=>(f.offset,(width P f.type).getD 0)) w':=by
  clear hw
  induction l with
  |nil=>simp
  |cons f l ih=>
   obtain ⟨n,hn⟩:=hw' f (by simp)
   simp only [List.mapM_cons,Sem.run_bind,zBn hn,Result.andThen_ok,Sem.run_pure,ih (fun g hg=>hw' g (List.mem_cons_of_mem _ hg)),List.map_cons,hn,Option.getD_some]
 rw [Sem.run_map,key]
 rfl
theorem zGT {t:TypeId} {z:Value} (h:zeroOf P t=some z) (w':World):(zeroValue t).run P w'= .ok z w':=by
 unfold zeroOf at h
 cases hi:P.info? t with
 |none=>simp [hi] at h
 |some i=>simp [hi] at h;simp [zeroValue,typeInfo,hi,h]
theorem zAao (h:SimX E s a w S ρ foot) {t:TypeId} {parts:Array (Nat×Operand)} (hop:o.op= .build t parts) {fields:Array Field} {z:Value} (ht:P.underlying t=some (.struct fields)) (hz:zeroOf P t=some z) (hw:fields.all (fun f=>(width P f.type).isSome)=true)
  {ps:List (Nat×Nat×Operand)} (hp:partsOf P fields parts.toList=some ps) {l:List (Nat×Nat×T)} (hl:zCw s ps=some l) (hv:l.all (fun q=>q.2.2.plainV)=true) {row:List T} (hr:zEr (zAz z) l=some row):zAI P o a w S ρ (.agg row):=by
 obtain ⟨p1,p2⟩:=zJP (P:=P) _ _ hp
 obtain ⟨l1,l2⟩:=zIj h _ _ hl
 obtain ⟨z1,z2⟩:=zFO (S:=S) (w:=w) (ρ:=ρ) z
 have hws:∀ f∈fields,∃ n,width P f.type=some n:=by
  intro f hf
  have:=Array.all_eq_true'.1 hw f hf
  exact Option.isSome_iff_exists.1 this
 obtain ⟨out,o1,o2,o3⟩:=zIK (place:=((fields.map fun f=>(f.offset,(width P f.type).getD 0))[·]?)) (parts.toList.map fun (i,x)=>(i,a.eval x)) l (zAz z) z.cells row z1 z2 (by simp [←l1, ←p1]) (fun j p q hp hq=>by
  simp only [List.getElem?_map,Option.map_eq_some_iff] at hp
  obtain ⟨p0,hp0,rfl⟩:=hp
  have hlt:=(List.getElem?_eq_some_iff.1 hq).1
  have hps:ps[j]? =some ps[j]:=List.getElem?_eq_getElem (by omega)
  obtain ⟨q1,f,f1,f2,f3⟩:=p2 j p0 _ hp0 hps
  obtain ⟨r1,r2,r3⟩:=l2 j _ q hps hq
  refine ⟨?_,by rw [q1] at r3;exact r3,List.all_eq_true.1 hv q (List.mem_of_getElem? hq)⟩
  simp [f1,f2,f3,r1,r2]) hr
 refine ⟨.agg out,by simp only [Rep];exact ⟨out,rfl,o2,o3⟩,fun w' _=> ?_⟩
 have:(Instr.build t (parts.map fun (i,x)=>(i,a.eval x))).run P w'= .ok (.agg out) w':=by
  simp only [Instr.build,Sem.run_bind,zGT hz,Result.andThen_ok,underlying,run_program,ht,run_places hws]
  simp only [Sem.run_pure,Sem.run_bind,Result.andThen_ok,run_places hws]
  have e:(parts.map fun (i,x)=>(i,a.eval x)).toList=parts.toList.map fun (i,x)=>(i,a.eval x):=by simp
  rw [e,o1]
  simp
 have:=zA1 this
 simpa [execOp,hop] using this
theorem zIL (h:SimX E s a w S ρ foot) {i:I} (hc:zBR P o=some i) {p:Prop} {t:T} (hp:zAe s i=some (p,t)) (hpp:p):zAI P o a w S ρ t:=by
 unfold zBR at hc
 split at hc
 case h_1 x hop=>
  simp only [Option.some.injEq] at hc;subst hc
  simp only [zAe,Option.map_eq_some_iff,Prod.mk.injEq] at hp
  obtain ⟨u,hu,_,rfl⟩:=hp
  exact y_mv h (.inl hop) hu
 case h_2 x hop=>
  simp only [Option.some.injEq] at hc;subst hc
  simp only [zAe,Option.map_eq_some_iff,Prod.mk.injEq] at hp
  obtain ⟨u,hu,_,rfl⟩:=hp
  exact y_mv h (.inr hop) hu
 case h_3 x hop=>
  simp only [Option.some.injEq] at hc;subst hc
  simp only [zAe] at hp
  split at hp
  ·rename_i id i q hx
   simp only [Option.some.injEq,Prod.mk.injEq] at hp
   obtain ⟨_,rfl⟩:=hp
   exact y_nc h hop hx (.inl ⟨id,i,q,rfl⟩)
  ·rename_i row hx
   simp only [Option.some.injEq,Prod.mk.injEq] at hp
   obtain ⟨_,rfl⟩:=hp
   exact y_nc h hop hx (.inr ⟨row,rfl⟩)
  ·cases hp
 case h_4 c x y hop=>
  simp only [Option.some.injEq] at hc;subst hc
  simp only [zAe] at hp
  split at hp
  ·rename_i b u v h1 h2 h3
   simp only [Option.some.injEq,Prod.mk.injEq] at hp
   obtain ⟨_,rfl⟩:=hp
   exact zAbt h hop h1 h2 h3
  ·cases hp
 case h_5 e hop=>
  simp only [Option.map_eq_some_iff] at hc
  obtain ⟨z,_,rfl⟩:=hc
  simp [zAe] at hp
 case h_6 e x hop=>
  simp only [Option.some.injEq] at hc;subst hc
  simp [zAe] at hp
 case h_7 t' parts hop=>
  split at hc
  ·rename_i fields z ht hz
   split at hc
   ·rename_i hw
    simp only [Option.map_eq_some_iff] at hc
    obtain ⟨ps,hps,rfl⟩:=hc
    simp only [zAe] at hp
    split at hp
    ·rename_i l hl
     simp only [Option.map_eq_some_iff,Prod.mk.injEq] at hp
     obtain ⟨r,hr,rfl,rfl⟩:=hp
     exact zAao h hop ht hz hw hps hl hpp hr
    ·cases hp
   ·cases hc
  ·cases hc
 case h_8 t' len parts hop=>
  split at hc
  ·split at hc
   ·split at hc
    ·cases hc
    ·simp only [Option.some.injEq] at hc;subst hc
     simp [zAe] at hp
   ·cases hc
  ·cases hc
 case h_9 t' x hop=>
  simp only [Option.map_eq_some_iff] at hc
  obtain ⟨m,hm,rfl⟩:=hc
  simp only [zAe] at hp
  split at hp
  ·rename_i id i' q hx
   split at hp
   ·rename_i ob ho
    unfold ldT at hp
    cases hbare:(zAS m ((ob.rows.getD i' []).drop q)).all T.bare with
    |false=>rw [hbare] at hp;cases hp
    |true=>
     rw [hbare,cond_true] at hp
     simp only [Option.map_eq_some_iff,Prod.mk.injEq] at hp
     obtain ⟨u,hu,rfl,rfl⟩:=hp
     exact zUy h hop hm hx ho hpp hu hbare
   ·cases hp
  ·rename_i row hx
   simp only [Option.map_eq_some_iff,Prod.mk.injEq] at hp
   obtain ⟨u,hu,rfl,rfl⟩:=hp
   exact zWi h hop hm hx hu hpp
  ·cases hp
 case h_10 t' x v hop=>
  simp only [Option.map_eq_some_iff] at hc
  obtain ⟨m,_,rfl⟩:=hc
  simp [zAe] at hp
 case h_11 op t' x y u' hop=>
  split at hc
  ·split at hc
   ·rename_i l hl
    simp only [Option.some.injEq] at hc;subst hc
    simp only [zAe] at hp
    split at hp
    ·rename_i xs ys hx hy
     simp only [Option.map_eq_some_iff,Prod.mk.injEq] at hp
     obtain ⟨b,hb,_,rfl⟩:=hp
     exact zZU (neg:=false) h (by simpa using hop) hl hx hy hb
    ·cases hp
   ·rename_i l hl
    simp only [Option.some.injEq] at hc;subst hc
    simp only [zAe] at hp
    split at hp
    ·rename_i xs ys hx hy
     simp only [Option.map_eq_some_iff,Prod.mk.injEq] at hp
     obtain ⟨b,hb,_,rfl⟩:=hp
     exact zZU (neg:=true) h (by simpa using hop) hl hx hy hb
    ·cases hp
   ·cases hc
  ·split at hc
   ·rename_i hu
    simp only [Option.some.injEq] at hc;subst hc
    simp only [zAe] at hp
    split at hp
    ·rename_i p' q' hx hy
     simp only [Option.some.injEq,Prod.mk.injEq] at hp
     obtain ⟨_,rfl⟩:=hp
     exact zZV (neg:=false) h (by simpa using hop) hu hx hy
    ·cases hp
   ·rename_i hu
    simp only [Option.some.injEq] at hc;subst hc
    simp only [zAe] at hp
    split at hp
    ·rename_i p' q' hx hy
     simp only [Option.some.injEq,Prod.mk.injEq] at hp
     obtain ⟨_,rfl⟩:=hp
     exact zZV (neg:=true) h (by simpa using hop) hu hx hy
    ·cases hp
   ·split at hc
    ·simp only [Option.some.injEq] at hc;subst hc;simp [zAe] at hp
    ·cases hc
   ·split at hc
    ·simp only [Option.some.injEq] at hc;subst hc;simp [zAe] at hp
    ·cases hc
   ·simp only [Option.some.injEq] at hc;subst hc
    simp only [zAe] at hp
    split at hp
    ·rename_i p' q' hx hy
     simp only [Option.map_eq_some_iff,Prod.mk.injEq] at hp
     obtain ⟨⟨c,r⟩,hb,rfl,rfl⟩:=hp
     exact zAfa h hop hx hy hb hpp
    ·cases hp
 case h_12 t' x hop=>
  simp only [Option.some.injEq] at hc;subst hc
  simp only [zAe] at hp
  split at hp
  ·rename_i b hx
   simp only [Option.some.injEq,Prod.mk.injEq] at hp
   obtain ⟨_,rfl⟩:=hp
   exact zAe7 h hop hx
  ·cases hp
 case h_13 t' x hop=>
  simp only [Option.some.injEq] at hc;subst hc
  simp only [zAe] at hp
  split at hp
  ·rename_i k n hx
   simp only [Option.some.injEq,Prod.mk.injEq] at hp
   obtain ⟨_,rfl⟩:=hp
   exact zAe8 h hop hx
  ·cases hp
 case h_14 src dst x hop=>
  split at hc
  ·rename_i k0 k h1 h2
   simp only [Option.some.injEq] at hc;subst hc
   simp only [zAe] at hp
   split at hp
   ·rename_i kk n hx
    simp only [Option.some.injEq,Prod.mk.injEq] at hp
    obtain ⟨_,rfl⟩:=hp
    exact zAe9 h hop h1 h2 hx
   ·cases hp
  ·split at hc
   ·simp only [Option.some.injEq] at hc;subst hc;simp [zAe] at hp
   ·cases hc
  ·rename_i e h1 h2
   split at hc
   ·rename_i h3
    have h3:P.underlying e=some (.int .u8):=by
     unfold zX7 at h3;split at h3<;>simp_all
    simp only [Option.some.injEq] at hc;subst hc
    simp only [zAe] at hp
    split at hp
    ·rename_i id lo n hx
     split at hp
     ·rename_i ob ho
      simp only [Option.some.injEq,Prod.mk.injEq] at hp
      obtain ⟨rfl,rfl⟩:=hp
      exact zUz h hop h1 h3 h2 hx ho hpp.1 hpp.2.1 hpp.2.2
     ·cases hp
    ·rename_i k rows hx
     simp only [Option.some.injEq,Prod.mk.injEq] at hp
     obtain ⟨rfl,rfl⟩:=hp
     obtain ⟨rfl,hb⟩:=hpp
     exact zWk h hop h1 h3 h2 hx hb
    ·rename_i k hx
     simp only [Option.some.injEq,Prod.mk.injEq] at hp
     obtain ⟨_,rfl⟩:=hp
     obtain ⟨a0,e0⟩:=zJM h hx
     exact zGt hop h1 h3 h2 e0
    ·rename_i hx
     simp only [Option.some.injEq,Prod.mk.injEq] at hp
     obtain ⟨_,rfl⟩:=hp
     obtain ⟨a0,e0⟩:=zGS h hx
     exact zGt hop h1 h3 h2 e0
    ·cases hp
   ·cases hc
  ·rename_i h1 h2
   simp only [Option.some.injEq] at hc;subst hc
   simp only [zAe] at hp
   split at hp
   ·rename_i b hx
    simp only [Option.some.injEq,Prod.mk.injEq] at hp
    obtain ⟨_,rfl⟩:=hp
    exact zAbu h hop h1 h2 hx
   ·cases hp
  ·cases hc
 case h_15 f first caps hop=>
  split at hc
  ·rename_i hf
   simp only [Option.some.injEq] at hc;subst hc
   simp only [zAe,Option.map_eq_some_iff,Prod.mk.injEq] at hp
   obtain ⟨l,hl,_,rfl⟩:=hp
   have:first= #[]:=Array.isEmpty_iff.1 hf
   subst this
   exact zAfb h hop hl
  ·cases hc
 case h_16 t' l c hop=>
  split at hc
  ·split at hc
   ·simp only [Option.some.injEq] at hc;subst hc;simp [zAe] at hp
   ·cases hc
  ·cases hc
 case h_17 t' x lo hi mx hop=>
  split at hc
  ·rename_i ht
   split at hc
   ·cases hc
   ·rename_i hmx
    have:mx=none:=by simpa using hmx
    subst this
    simp only [Option.some.injEq] at hc;subst hc
    simp only [zAe] at hp
    split at hp
    ·rename_i b hx
     split at hp
     ·rename_i l hh hl hhh
      simp only [Option.some.injEq,Prod.mk.injEq] at hp
      obtain ⟨rfl,rfl⟩:=hp
      exact zAfe h hop ht hx hl hhh hpp.1 hpp.2.1 hpp.2.2
     ·cases hp
    ·cases hp
  ·rename_i e ht
   simp only [Option.map_eq_some_iff] at hc
   obtain ⟨k,hk,rfl⟩:=hc
   simp only [zAe] at hp
   split at hp
   ·rename_i id lo0 n hx
    split at hp
    ·rename_i l hh ob hl hhh ho
     simp only [Option.some.injEq,Prod.mk.injEq] at hp
     obtain ⟨rfl,rfl⟩:=hp
     exact zWj h hop ht hk hx ho hpp.2.2.2 hl hhh hpp.1 hpp.2.1 hpp.2.2.1
    ·rename_i l hh m hl hhh
     simp only [Option.map_eq_some_iff,Prod.mk.injEq] at hp
     obtain ⟨c,hcm,rfl,rfl⟩:=hp
     exact zWl h hop ht hk hx hl hhh hcm hpp.1 hpp.2.1 hpp.2.2.1 hpp.2.2.2.1 hpp.2.2.2.2
    ·rename_i l hh m hl hhh
     simp only [Option.map_eq_some_iff,Prod.mk.injEq] at hp
     obtain ⟨c,hcm,rfl,rfl⟩:=hp
     obtain ⟨rfl,rfl,rfl,hs⟩:=hpp
     obtain ⟨a0,n1,c1,hv⟩:=zQL h hx
     cases hi with
     |none=>simp at hs
     |some hi=>exact zDZ h hop ht hk (.inl ⟨_,_,_,hv,rfl⟩) hl hhh (fun m' hm'=>by simp only [Option.some.injEq] at hm';subst hm';exact ⟨hcm,rfl⟩)
    ·cases hp
   ·rename_i k' rows hx
    split at hp
    ·rename_i l hh hl hhh
     simp only [Option.some.injEq,Prod.mk.injEq] at hp
     obtain ⟨rfl,rfl⟩:=hp
     obtain ⟨q1,q2,q3,rfl⟩:=hpp
     exact zYb h hop ht hk hx hl hhh q1 q2 q3
    ·rename_i l hh m hl hhh
     simp only [Option.map_eq_some_iff,Prod.mk.injEq] at hp
     obtain ⟨c,hcm,rfl,rfl⟩:=hp
     obtain ⟨rfl,rfl,rfl,rfl,hs⟩:=hpp
     cases hi with
     |none=>simp at hs
     |some hi=>
      obtain ⟨a0,n1,c1,hv⟩:=zLl h hx
      exact zDZ h hop ht hk (.inl ⟨_,_,_,hv,rfl⟩) hl hhh (fun m' hm'=>by simp only [Option.some.injEq] at hm';subst hm';exact ⟨hcm,rfl⟩)
    ·cases hp
   ·rename_i k' hx
    split at hp
    ·rename_i l hh hl hhh
     simp only [Option.some.injEq,Prod.mk.injEq] at hp
     obtain ⟨rfl,rfl⟩:=hp
     obtain ⟨rfl,rfl⟩:=hpp
     obtain ⟨a0,hv⟩:=zJM h hx
     exact zDZ h hop ht hk (.inr ⟨_,hv,rfl,rfl⟩) hl hhh (fun m' hm'=>by cases hm')
    ·rename_i l hh m hl hhh
     simp only [Option.map_eq_some_iff,Prod.mk.injEq] at hp
     obtain ⟨c,hcm,rfl,rfl⟩:=hp
     obtain ⟨rfl,rfl,rfl,hs⟩:=hpp
     cases hi with
     |none=>simp at hs
     |some hi=>
      obtain ⟨a0,n1,c1,hv⟩:=zLl h hx
      exact zDZ h hop ht hk (.inl ⟨_,_,_,hv,rfl⟩) hl hhh (fun m' hm'=>by simp only [Option.some.injEq] at hm';subst hm';exact ⟨hcm,rfl⟩)
    ·cases hp
   ·rename_i hx
    split at hp
    ·rename_i l hh hl hhh
     simp only [Option.some.injEq,Prod.mk.injEq] at hp
     obtain ⟨rfl,rfl⟩:=hp
     obtain ⟨rfl,rfl⟩:=hpp
     obtain ⟨a0,hv⟩:=zGS h hx
     exact zDZ h hop ht hk (.inr ⟨_,hv,rfl,rfl⟩) hl hhh (fun m' hm'=>by cases hm')
    ·rename_i l hh m hl hhh
     simp only [Option.map_eq_some_iff,Prod.mk.injEq] at hp
     obtain ⟨c,hcm,rfl,rfl⟩:=hp
     obtain ⟨rfl,rfl,rfl,hs⟩:=hpp
     cases hi with
     |none=>simp at hs
     |some hi=>
      obtain ⟨a0,hv⟩:=zGS h hx
      exact zDZ h hop ht hk (.inl ⟨_,_,_,hv,rfl⟩) hl hhh (fun m' hm'=>by simp only [Option.some.injEq] at hm';subst hm';exact ⟨hcm,rfl⟩)
    ·cases hp
   ·cases hp
  ·cases hc
 case h_18 t' x f hop=>
  split at hc
  ·rename_i fields ht
   split at hc
   ·rename_i fl hf
    split at hc
    ·rename_i n hn
     split at hc
     ·cases hc
     ·rename_i hn0
      simp only [Option.some.injEq] at hc;subst hc
      simp only [zAe] at hp
      split at hp
      ·rename_i id i' q hx
       simp only [Option.some.injEq,Prod.mk.injEq] at hp
       obtain ⟨_,rfl⟩:=hp
       exact y_fa h hop ht hf hn hn0 (.inl ⟨id,i',q,hx,rfl⟩)
      ·rename_i row hx
       simp only [Option.some.injEq,Prod.mk.injEq] at hp
       obtain ⟨rfl,rfl⟩:=hp
       exact y_fa h hop ht hf hn hn0 (.inr ⟨row,hx,hpp,rfl⟩)
      ·cases hp
    ·cases hc
   ·cases hc
  ·cases hc
 case h_19 t' x f hop=>
  split at hc
  ·rename_i fields ht
   split at hc
   ·rename_i fl hf
    simp only [Option.map_eq_some_iff] at hc
    obtain ⟨m,hm,rfl⟩:=hc
    simp only [zAe] at hp
    split at hp
    ·rename_i row hx
     simp only [Option.map_eq_some_iff,Prod.mk.injEq] at hp
     obtain ⟨u,hu,_,rfl⟩:=hp
     exact zAfc h hop ht hf hm hx hu
    ·cases hp
   ·cases hc
  ·cases hc
 case h_20 t' x i' hop=>
  split at hc
  ·rename_i e he
   simp only [Option.map_eq_some_iff] at hc
   obtain ⟨k,hk,rfl⟩:=hc
   simp only [zAe] at hp
   split at hp
   ·rename_i id lo n kk j hx hi
    split at hp
    ·rename_i ob ho
     simp only [Option.some.injEq,Prod.mk.injEq] at hp
     obtain ⟨rfl,rfl⟩:=hp
     exact zYa h hop he hk hx hi ho hpp.1 hpp.2.1 hpp.2.2
    ·cases hp
   ·rename_i k' rows kk j hx hi
    simp only [Option.some.injEq,Prod.mk.injEq] at hp
    obtain ⟨rfl,rfl⟩:=hp
    obtain ⟨q1,q2,rfl⟩:=hpp
    exact zAan h hop he hk hx hi q1 q2
   ·cases hp
  ·cases hc
 case h_21 t' x i' hop=>
  split at hc
  ·rename_i ht
   simp only [Option.some.injEq] at hc;subst hc
   simp only [zAe] at hp
   split at hp
   ·rename_i b kk j hx hi
    simp only [Option.some.injEq,Prod.mk.injEq] at hp
    obtain ⟨rfl,rfl⟩:=hp
    exact y_ix h hop ht hx hi hpp.1 hpp.2
   ·cases hp
  ·cases hc
 case h_22 x n hop=>
  simp only [Option.some.injEq] at hc;subst hc
  simp only [zAe] at hp
  split at hp
  ·rename_i l hx
   split at hp
   ·rename_i u hu
    simp only [Option.some.injEq,Prod.mk.injEq] at hp
    obtain ⟨_,rfl⟩:=hp
    exact zAfd h hop hx hu
   ·cases hp
  ·cases hp
 case h_23 c hop=>
  split at hc
  ·split at hc
   ·split at hc
    ·simp only [Option.some.injEq] at hc;subst hc;simp [zAe] at hp
    ·simp only [Option.some.injEq] at hc;subst hc;simp [zAe] at hp
   ·cases hc
  ·simp only [Option.some.injEq] at hc;subst hc;simp [zAe] at hp
  ·rename_i hcal
   split at hc
   ·rename_i x hargs hty
    simp only [Option.some.injEq] at hc;subst hc
    simp only [zAe] at hp
    split at hp
    ·rename_i b hx
     simp only [Option.some.injEq,Prod.mk.injEq] at hp
     obtain ⟨_,rfl⟩:=hp
     exact zAbw h hop hcal hargs hty hx
    ·cases hp
   ·rename_i x e hargs hty
    simp only [Option.some.injEq] at hc;subst hc
    simp only [zAe] at hp
    split at hp
    ·rename_i id lo n hx
     simp only [Option.some.injEq,Prod.mk.injEq] at hp
     obtain ⟨_,rfl⟩:=hp
     exact zQH h hop hcal hargs hty (.inl ⟨_,_,hx⟩)
    ·rename_i own k rows hx
     simp only [Option.some.injEq,Prod.mk.injEq] at hp
     obtain ⟨_,rfl⟩:=hp
     exact zQH h hop hcal hargs hty (.inr (.inl ⟨_,_,_,hx,rfl⟩))
    ·rename_i hx
     simp only [Option.some.injEq,Prod.mk.injEq] at hp
     obtain ⟨_,rfl⟩:=hp
     exact zQH h hop hcal hargs hty (.inr (.inr ⟨hx,rfl⟩))
    ·cases hp
   ·cases hc
  ·(repeat' split at hc)<;>first|(simp only [Option.some.injEq] at hc;subst hc;simp [zAe] at hp;done)|(simp at hc;done)
  ·(repeat' split at hc)<;>first|(simp only [Option.some.injEq] at hc;subst hc;simp [zAe] at hp;done)|(simp at hc;done)
  ·(repeat' split at hc)<;>first|(simp only [Option.map_eq_some_iff] at hc;obtain ⟨_,_,rfl⟩:=hc;simp [zAe] at hp;done)|(simp at hc;done)
  ·(repeat' split at hc)<;>first|(simp only [Option.some.injEq] at hc;subst hc;simp [zAe] at hp;done)|(simp at hc;done)
  ·rename_i hcal
   simp only [Option.some.injEq] at hc;subst hc
   rcases hargs:c.args.toList with _|⟨x,_|⟨y,_|⟨z,r⟩⟩⟩<;>rw [hargs] at hp
   ·simp [zAe] at hp
   ·simp [zAe] at hp
   ·simp only [zAe] at hp
    split at hp
    ·rename_i k p' k' q' hx hy
     simp only [Option.some.injEq,Prod.mk.injEq] at hp
     obtain ⟨_,rfl⟩:=hp
     exact zAby h hop hcal hargs hx hy
    ·cases hp
   ·simp [zAe] at hp
  ·rename_i hcal
   simp only [Option.some.injEq] at hc;subst hc
   rcases hargs:c.args.toList with _|⟨x,_|⟨y,_|⟨z,r⟩⟩⟩<;>rw [hargs] at hp
   ·simp [zAe] at hp
   ·simp [zAe] at hp
   ·simp only [zAe] at hp
    split at hp
    ·rename_i k p' k' q' hx hy
     simp only [Option.some.injEq,Prod.mk.injEq] at hp
     obtain ⟨_,rfl⟩:=hp
     exact zAbz h hop hcal hargs hx hy
    ·cases hp
   ·simp [zAe] at hp
  ·cases hc
 case h_24=>simp only [Option.some.injEq] at hc;subst hc;simp [zAe] at hp
 case h_25=>simp only [Option.some.injEq] at hc;subst hc;simp [zAe] at hp
 case h_26=>cases hc
end
end Go.Am

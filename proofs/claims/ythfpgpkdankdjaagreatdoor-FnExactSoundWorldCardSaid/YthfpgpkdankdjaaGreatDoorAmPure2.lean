import Derived.Test.YthfpgpkdankdjaaGreatDoorAmPure
import Derived.Laws.StructEq
import Derived.Lib.PathFns
set_option linter.all false
namespace Go.Am
open Go Go.RowKit
section
variable {P:Program} {E:Env} {s:St} {a:Act} {w:World} {S:Nat→Prop} {ρ:Nat→Option Hd} {foot:Nat→List Nat} {o:Oper}
theorem zWh {t:T} (hb:t.bare0=true) {y:Value} {F:List Nat} (h:Rep S w ρ t y F):F=[]:=by
 unfold T.bare0 at hb
 split at hb
 ·simpa [Rep] using h
 ·simp only [Rep] at h;exact h.2
 ·simp only [Rep] at h
  obtain ⟨_,_,_,h|⟨_,_,_,_,_,_,_,_,_,_,_,h⟩⟩:=h
  ·exact h.2.2
  ·exact h.1
 ·simp only [Rep] at h
  obtain ⟨_,_,_,_,_,_,_,_,_,_,h⟩:=h
  exact h.1
 ·simp only [Rep] at h;exact h.1
 ·simp only [Rep] at h;exact h.1
 ·cases hb
theorem zJK {cell:Nat→Option Value}:∀ {l:List T} {b:Nat} {F:List Nat},l.all T.bare0=true→RepRow S w ρ cell b l F→F=[]
 |[],_,_,_,h=>by simpa [RepRow] using h
 |t::ts,b,F,hb,h=>by
  simp only [List.all_cons,Bool.and_eq_true] at hb
  simp only [RepRow] at h
  obtain ⟨y,F1,F2,_,h1,h2,rfl⟩:=h
  rw [zWh hb.1 h1,zJK hb.2 h2]
  rfl
theorem zQJ {t:T} (hb:t.bare=true) {y:Value} {F:List Nat} (h:Rep S w ρ t y F):F=[]:=by
 unfold T.bare at hb
 split at hb
 ·simpa [Rep] using h
 ·simp only [Rep] at h;exact h.2
 ·simp only [Rep] at h
  obtain ⟨_,_,_,h|⟨_,_,_,_,_,_,_,_,_,_,_,h⟩⟩:=h
  ·exact h.2.2
  ·exact h.1
 ·simp only [Rep] at h
  obtain ⟨_,_,_,_,_,_,_,_,_,_,h⟩:=h
  exact h.1
 ·simp only [Rep] at h;exact h.1
 ·simp only [Rep] at h;exact h.1
 ·simp only [Rep] at h;obtain ⟨_,_,_,h⟩:=h;exact zJK hb h
 ·cases hb
theorem zEg {cell:Nat→Option Value}:∀ {l:List T} {b:Nat} {F:List Nat},l.all T.bare=true→RepRow S w ρ cell b l F→F=[]
 |[],_,_,_,h=>by simpa [RepRow] using h
 |t::ts,b,F,hb,h=>by
  simp only [List.all_cons,Bool.and_eq_true] at hb
  simp only [RepRow] at h
  obtain ⟨y,F1,F2,_,h1,h2,rfl⟩:=h
  rw [zQJ hb.1 h1,zEg hb.2 h2]
  rfl
theorem zAbx {t:T} {y:Value} {F:List Nat} (h:Rep S w ρ t y F) (hF:∀ c,c∈F→S c):∃ G,Rep S w ρ t.sh y G∧∀ c,c∈G→S c:=by
 cases t with
 |sl own k rows=>
  simp only [T.sh,Rep] at h ⊢
  obtain ⟨a,cap,h1,h2⟩:=h
  refine ⟨[],⟨a,cap,h1, ?_⟩,by simp⟩
  rcases h2 with h2|⟨b,off,arr,el,fr,Fs,h3,h4,h5,h6,h7,h8⟩
  ·exact .inl ⟨h2.1,h2.2.1,rfl⟩
  ·refine .inr ⟨b,off,arr,el,fr,Fs,h3,h4,h5,h6,h7, ?_⟩
   have hs:=h8.sub
   have all:∀ c,c=b∨c∈Fs→S c:=fun c hc=>(hs c hc).elim (hF c) id
   exact ⟨rfl,all b (.inl rfl),fun c hc=>all c (.inr hc)⟩
 |bo own row q=>
  simp only [T.sh,Rep] at h ⊢
  obtain ⟨b,off,arr,el,fr,Fs,h3,h4,h5,h7,h8⟩:=h
  refine ⟨[],⟨b,off,arr,el,fr,Fs,h3,h4,h5,h7, ?_⟩,by simp⟩
  have hs:=h8.sub
  have all:∀ c,c=b∨c∈Fs→S c:=fun c hc=>(hs c hc).elim (hF c) id
  exact ⟨rfl,all b (.inl rfl),fun c hc=>all c (.inr hc)⟩
 |_=>exact ⟨F,h,hF⟩
theorem zJL {cell:Nat→Option Value}:∀ {l:List T} {b:Nat} {F:List Nat},RepRow S w ρ cell b l F→(∀ c,c∈F→S c)→∃ G,RepRow S w ρ cell b (l.map T.sh) G∧∀ c,c∈G→S c
 |[],b,F,h,hF=>⟨F,by simpa [RepRow] using h,hF⟩
 |t::ts,b,F,h,hF=>by
  simp only [RepRow] at h
  obtain ⟨y,F1,F2,h0,h1,h2,rfl⟩:=h
  obtain ⟨G1,g1,g2⟩:=zAbx h1 (fun c hc=>hF c (List.mem_append_left _ hc))
  obtain ⟨G2,g3,g4⟩:=zJL h2 (fun c hc=>hF c (List.mem_append_right _ hc))
  refine ⟨G1++G2, ?_,fun c hc=>(List.mem_append.1 hc).elim (g2 c) (g4 c)⟩
  simp only [List.map_cons,RepRow]
  exact ⟨y,G1,G2,h0,g1,g3,rfl⟩
theorem zDY {cell:Nat→Option Value}:∀ {l:List T} {b:Nat} {F:List Nat},RepRow S w noH cell b l F→RepRow S w ρ cell b l F
 |[],b,F,h=>by simpa [RepRow] using h
 |t::ts,b,F,h=>by
  simp only [RepRow] at h ⊢
  obtain ⟨y,F1,F2,h0,h1,h2,rfl⟩:=h
  exact ⟨y,F1,F2,h0,zS5 h1,zDY h2,rfl⟩
theorem zEh {cell:Nat→Option Value} {k:Nat}:∀ {l:List (List T)} {b i:Nat} {F:List Nat} {r:List T},zAb S w ρ cell b k l F→l[i]? =some r→∃ G,RepRow S w ρ cell (b+i*k) r G∧(∀ c,c∈G→c∈F)∧r.length=k
 |[],_,_,_,_,_,hi=>by simp at hi
 |x::xs,b,i,F,r,h,hi=>by
  simp only [zAb] at h
  obtain ⟨F1,F2,h1,h2,h3,rfl⟩:=h
  cases i with
  |zero=>
   simp at hi
   subst hi
   exact ⟨F1,by simpa using h2,fun c hc=>List.mem_append_left _ hc,h1⟩
  |succ i=>
   obtain ⟨G,g1,g2,g3⟩:=zEh h3 (by simpa using hi)
   refine ⟨G, ?_,fun c hc=>List.mem_append_right _ (g2 c hc),g3⟩
   rwa [show b+(i+1)*k=b+k+i*k from by rw [Nat.succ_mul];omega]
theorem zC7 {cell:Nat→Option Value} {k:Nat} {l:List (List T)} {b n:Nat} {F:List Nat} (h:zAb S w ρ cell b k l F) (i:Nat) (hi:i≤l.length):∃ G,zAb S w ρ cell (b+i*k) k ((l.drop i).take n) G∧∀ c,c∈G→c∈F:=by
 rw [zAh] at h
 obtain ⟨h1,h2⟩:=h
 have hlen:∀ m:List (List T),(∀ r∈m,r.length=k)→m.flatten.length=m.length*k:=by
  intro m
  induction m with
  |nil=>simp
  |cons r rs ih=>intro hm;simp [ih (fun x hx=>hm x (List.mem_cons_of_mem _ hx)),hm r (List.mem_cons_self ..),Nat.succ_mul,Nat.add_comm]
 have e:l=l.take i++((l.drop i).take n++(l.drop i).drop n):=by rw [List.take_append_drop,List.take_append_drop]
 rw [e,List.flatten_append,List.flatten_append] at h2
 obtain ⟨F1,F2,_,f2,rfl⟩:=(zAr _ _ _ _).1 h2
 obtain ⟨G1,G2,g1,_,rfl⟩:=(zAr _ _ _ _).1 f2
 rw [hlen _ (fun r hr=>h1 r (List.mem_of_mem_take hr)),List.length_take,Nat.min_eq_left hi] at g1
 exact ⟨G1,zAh _ _ _ |>.2 ⟨fun r hr=>h1 r (List.mem_of_mem_drop (List.mem_of_mem_take hr)),g1⟩,fun c hc=>by simp [hc]⟩
theorem zCB (b off n:Nat):Addr.add ⟨b,off,none⟩ n=⟨b,off+n,none⟩:=by
 unfold Addr.add
 split
 ·rename_i e;rw [e];rfl
 ·rfl
theorem run_loadCellsFrom {b off:Nat} {arr:Array Value} {el:TypeId} {fr:Nat×Nat} {w':World} (hb:w'.heap[b]? =some (.cells arr el fr)):∀ (n i:Nat) (acc:Array Value),off+i+n≤arr.size→
  (loadCellsFrom ⟨b,off,none⟩ i n acc).run P w'= .ok (acc++arr.extract (off+i) (off+i+n)) w'
 |0,i,acc,_=>by simp [loadCellsFrom];exact Nat.min_le_left _ _
 |n+1,i,acc,h=>by
  have hc:w'.cell? (Addr.add ⟨b,off,none⟩ i)=arr[off+i]? :=by
   simp [World.cell?,zCB,hb]
  have hlt:off+i<arr.size:=by omega
  rw [Array.getElem?_eq_getElem hlt] at hc
  simp only [loadCellsFrom,Sem.run_bind,load,Sem.run,hc,Sem.run_pure',Result.andThen_ok]
  have:loadCellsFrom ⟨b,off,none⟩ (i+1) n (acc.push arr[off+i])=loadCellsFrom ⟨b,off,none⟩ (i+1) n (acc.push arr[off+i]):=rfl
  rw [run_loadCellsFrom hb n (i+1) _ (by omega)]
  congr 1
  apply Array.ext'
  simp only [Array.toList_append,Array.toList_push,Array.toList_extract,List.append_assoc,List.extract_eq_take_drop]
  congr 1
  rw [show off+(i+1)+n-(off+(i+1))=n from by omega,show off+i+(n+1)-(off+i)=n+1 from by omega]
  rw [show off+(i+1)=off+i+1 from by omega]
  rw [List.drop_eq_getElem_cons (i:=off+i) (by simpa using hlt)]
  simp
theorem zHP {t:TypeId} {m:Option Nat} (hm:wide P t=some m) {b off:Nat} {arr:Array Value} {el:TypeId} {fr:Nat×Nat} {l:List T} {u:T} (hr:RepRow S w ρ (fun i=>arr[i]?) off l [])
  (hu:zBE m l=some u):∃ y,(∀ w':World,w'.heap[b]? =some (.cells arr el fr)→(loadVar t ⟨b,off,none⟩).run P w'= .ok y w')∧Rep S w ρ u y []:=by
 obtain ⟨n,hn0,hsz,hag,rfl⟩:=zJJ hm
 cases hb:zGP P t with
 |true=>
  simp only [hb,if_true,zBE] at hu
  split at hu
  ·rename_i hln
   simp only [Option.some.injEq] at hu
   subst hu
   obtain ⟨h1,h2⟩:=zCy hr hln
   have hle:off+n≤arr.size:=by
    simp only [Array.size_extract] at h1
    omega
   refine ⟨.agg (arr.extract off (off+n)),fun w' hw'=> ?_, ?_⟩
   ·have:=run_loadCellsFrom (P:=P) hw' n 0 #[] (by omega) (off:=off)
    simp only [Nat.add_zero,Array.empty_append] at this
    simp [loadVar,hag,hsz,hb,loadCells,this]
   ·simp only [Rep]
    exact ⟨_,rfl,h1,h2⟩
  ·cases hu
 |false=>
  simp only [hb,zBE,Bool.false_eq_true,if_false] at hu
  split at hu
  ·rename_i t1
   simp only [Option.some.injEq] at hu
   subst hu
   simp only [RepRow] at hr
   obtain ⟨y,F1,F2,h1,h2,h3,h4⟩:=hr
   have e:=List.append_eq_nil_iff.1 h4.symm
   rw [e.1] at h2
   refine ⟨y,fun w' hw'=> ?_,h2⟩
   have hc:w'.cell? ⟨b,off,none⟩=some y:=by simp [World.cell?,hw',h1]
   simp [loadVar,hag,hb,load,Sem.run,hc]
  ·cases hu
theorem zUy (h:SimX E s a w S ρ foot) {x:Operand} {t:TypeId} (hop:o.op= .load t x) {m:Option Nat} (hm:wide P t=some m) {id i q:Nat} (hx:s.eval x=some (.ptr id i q)) {ob:Ob} (ho:lk id s.objs=some ob)
  (hi:i<ob.rows.length) {u:T} (hu:zBE m (zAS m ((ob.rows.getD i []).drop q))=some u) (hb:(zAS m ((ob.rows.getD i []).drop q)).all T.bare=true):zAI P o a w S ρ u:=by
 have hr:=h.eval hx
 simp only [Rep] at hr
 obtain ⟨_,hd,b,off,e1,e2,e3⟩:=hr
 obtain ⟨hd',e4,e5,e6⟩:=h.objs id ob ho
 rw [e1] at e4;simp at e4;subst e4
 rcases e6 with ⟨_,e6,_⟩|⟨b',off',arr,el,fr,Fs,f1,f2,f3,f4,f5,f6,f7⟩
 ·rw [e6] at hi;simp at hi
 ·rw [e2] at f1;simp at f1;obtain ⟨rfl,rfl⟩:=f1
  have hri:ob.rows[i]? =some (ob.rows.getD i []):=by simp [List.getD_eq_getElem?_getD,List.getElem?_eq_getElem hi]
  obtain ⟨G,g1,g2,g3⟩:=zEh f6 hri
  obtain ⟨G2,g4,g5⟩:=zCx g1 q (m.getD 1) (zNN hm hu)
  have:G2=[]:=zEg hb g4
  subst this
  obtain ⟨y,y1,y2⟩:=zHP (P:=P) (b:=b) (el:=el) (fr:=fr) hm g4 hu
  refine ⟨y,y2,fun w' hw'=> ?_⟩
  have hlt:b<w.heap.size:=(h.mine id ob ho b (by simp [f7])).2.1
  have:=y1 w' (by rw [hw' b hlt];exact f2)
  have:(Instr.loadAt t (a.eval x)).run P w'= .ok y w':=by simp [Instr.loadAt,e3,Instr.sureAddr,e5,this]
  have:=zA1 this
  simpa [execOp,hop] using this
theorem zWi (h:SimX E s a w S ρ foot) {x:Operand} {t:TypeId} (hop:o.op= .load t x) {m:Option Nat} (hm:wide P t=some m) {row:List T} (hx:s.eval x=some (.bx false row))
  {u:T} (hu:zBE m ((zAS m row).map T.sh)=some u) (hb:((zAS m row).map T.sh).all T.bare=true):zAI P o a w S ρ u:=by
 have hr:=h.eval hx
 simp only [Rep] at hr
 obtain ⟨b,off,arr,el,fr,Fs,e1,e2,e3,e4,e5⟩:=hr
 obtain ⟨G,g1,g2⟩:=zCx e4 0 (m.getD 1) (Nat.zero_le _)
 rw [Nat.add_zero,List.drop_zero] at g1
 obtain ⟨G2,g3,g4⟩:=zJL g1 (fun c hc=>e5.2.2 c (g2 c hc))
 have:G2=[]:=zEg hb g3
 subst this
 obtain ⟨y,y1,y2⟩:=zHP (P:=P) (b:=b) (el:=el) (fr:=fr) hm (zDY (ρ:=ρ) g3) hu
 refine ⟨y,y2,fun w' hw'=> ?_⟩
 have hlt:b<w.heap.size:=(h.shared b e5.2.1).1
 have:=y1 w' (by rw [hw' b hlt];exact e2)
 have:(Instr.loadAt t (a.eval x)).run P w'= .ok y w':=by simp [Instr.loadAt,e1,Instr.sureAddr,this]
 have:=zA1 this
 simpa [execOp,hop] using this
theorem zYa (h:SimX E s a w S ρ foot) {x i:Operand} {t e:TypeId} {k:Nat} (hop:o.op= .indexAddr t x i) (ht:zA9 P t=some e) (hw:width P e=some k) {id lo n:Nat} {kk:IntKind} {j:Int} (hx:s.eval x=some (.ref id lo n)) (hi:s.eval i=some (.v (.int kk j)))
  {ob:Ob} (ho:lk id s.objs=some ob) (h0:0≤j) (h1:j<n) (hk:ob.k=k):zAI P o a w S ρ (.ptr id (lo+j.toNat) 0):=by
 have hrx:=h.eval hx;have hri:=h.eval hi
 simp only [Rep] at hrx hri
 obtain ⟨_,hd,a0,c,e1,e2,e3,e4,e5⟩:=hrx
 obtain ⟨hd',e6,e7,_⟩:=h.objs id ob ho
 rw [e1] at e6;simp at e6;subst e6
 rcases e5 with e5|⟨b,off,e5,rfl⟩
 ·omega
 ·refine ⟨.pointer (some ⟨b,off+(lo+j.toNat)*hd.k+0,none⟩), ?_,fun w' _=> ?_⟩
  ·simp only [Rep];exact ⟨trivial,hd,b,off,e1,e5,rfl⟩
  ·have hel:P.underlying t=some (.slice e):=by
    unfold zA9 at ht;split at ht<;>simp at ht;subst ht;assumption
   have:(Instr.indexAt t (a.eval x) (a.eval i)).run P w'= .ok (.pointer (some ⟨b,off+(lo+j.toNat)*hd.k+0,none⟩)) w':=by
    simp [Instr.indexAt,hri.1,asIntOf,underlying,hel,e2,h0,h1,zBn hw,zCB]
    rw [e7,hk,Nat.add_mul,Nat.add_assoc]
   have:=zA1 this
   simpa [execOp,hop] using this
theorem zAan (h:SimX E s a w S ρ foot) {x i:Operand} {t e:TypeId} {k:Nat} (hop:o.op= .indexAddr t x i) (ht:zA9 P t=some e) (hw:width P e=some k) {rows:List (List T)} {kk:IntKind} {j:Int} (hx:s.eval x=some (.sl false k rows)) (hi:s.eval i=some (.v (.int kk j)))
  (h0:0≤j) (h1:j<rows.length):zAI P o a w S ρ (.bx false (rows.getD j.toNat [])):=by
 have hrx:=h.eval hx;have hri:=h.eval hi
 simp only [Rep] at hrx hri
 obtain ⟨a0,cap,e1,e2⟩:=hrx
 rcases e2 with ⟨_,e2,_⟩|⟨b,off,arr,el,fr,Fs,rfl,f2,f3,f4,f5,f6⟩
 ·rw [e2] at h1;simp at h1;omega
 ·have hlt:j.toNat<rows.length:=by omega
  have hri':rows[j.toNat]? =some (rows.getD j.toNat []):=by simp [List.getD_eq_getElem?_getD,List.getElem?_eq_getElem hlt]
  obtain ⟨G,g1,g2,g3⟩:=zEh f5 hri'
  refine ⟨.pointer (some ⟨b,off+j.toNat*k,none⟩), ?_,fun w' _=> ?_⟩
  ·simp only [Rep]
   refine ⟨b,off+j.toNat*k,arr,el,fr,G,rfl,f2, ?_,g1,f6.1,f6.2.1,fun c hc=>f6.2.2 c (g2 c hc)⟩
   rw [g3]
   have:(j.toNat+1)*k≤cap*k:=Nat.mul_le_mul_right _ (by omega)
   rw [Nat.succ_mul] at this
   omega
  ·have hel:P.underlying t=some (.slice e):=by
    unfold zA9 at ht;split at ht<;>simp at ht;subst ht;assumption
   have:(Instr.indexAt t (a.eval x) (a.eval i)).run P w'= .ok (.pointer (some ⟨b,off+j.toNat*k,none⟩)) w':=by
    simp [Instr.indexAt,hri.1,asIntOf,underlying,hel,e1,h0,h1,zBn hw,zCB]
   have:=zA1 this
   simpa [execOp,hop] using this
theorem y_ix (h:SimX E s a w S ρ foot) {x i:Operand} {t:TypeId} (hop:o.op= .index t x i) (ht:isStr P t=true) {b:ByteArray} {kk:IntKind} {j:Int} (hx:s.eval x=some (.v (.string b))) (hi:s.eval i=some (.v (.int kk j)))
  (h0:0≤j) (h1:j<b.size):zAI P o a w S ρ (.v (.int .u8 (b.data.toList.getD j.toNat 0).toNat)):=by
 have hrx:=h.eval hx;have hri:=h.eval hi
 simp only [Rep] at hrx hri
 have hs:P.underlying t=some .string:=by
  unfold isStr at ht;split at ht<;>simp_all
 have hlt:j.toNat<b.size:=by omega
 refine ⟨.int .u8 (b.data.toList.getD j.toNat 0).toNat,by simp [Rep],fun w' _=> ?_⟩
 have:=run_index_string w' t b kk j hs
 rw [dif_pos ⟨h0,h1⟩] at this
 have e:(b.data.toList.getD j.toNat 0)=b[j.toNat]:=by
  have:j.toNat<b.data.toList.length:=by simpa using hlt
  rw [List.getD_eq_getElem?_getD,List.getElem?_eq_getElem this]
  rfl
 rw [e]
 rw [←hrx.1, ←hri.1] at this
 have:=zA1 this
 simpa [execOp,hop] using this
theorem zAby (h:SimX E s a w S ρ foot) {x y:Operand} {c:Call} (hop:o.op= .call c) (hc:c.callee= .builtin .max) (ha:c.args.toList=[x,y]) {k k':IntKind} {p q:Int} (hx:s.eval x=some (.v (.int k p))) (hy:s.eval y=some (.v (.int k' q))):
  zAI P o a w S ρ (.v (.int k (if q>p then q else p))):=by
 have hrx:=h.eval hx;have hry:=h.eval hy
 simp only [Rep] at hrx hry
 refine ⟨.int k (if q>p then q else p),by simp [Rep],fun w' _=> ?_⟩
 have ha':c.args= #[x,y]:=by rw [←Array.toList_inj];simpa using ha
 obtain ⟨cs,hcs⟩:=zBv (a:=a) hop hc
 rw [hcs]
 simp [builtin,Builtin.max_,ha',hrx.1,hry.1,Builtin.max2]
theorem zAbz (h:SimX E s a w S ρ foot) {x y:Operand} {c:Call} (hop:o.op= .call c) (hc:c.callee= .builtin .min) (ha:c.args.toList=[x,y]) {k k':IntKind} {p q:Int} (hx:s.eval x=some (.v (.int k p))) (hy:s.eval y=some (.v (.int k' q))):
  zAI P o a w S ρ (.v (.int k (if q<p then q else p))):=by
 have hrx:=h.eval hx;have hry:=h.eval hy
 simp only [Rep] at hrx hry
 refine ⟨.int k (if q<p then q else p),by simp [Rep],fun w' _=> ?_⟩
 have ha':c.args= #[x,y]:=by rw [←Array.toList_inj];simpa using ha
 obtain ⟨cs,hcs⟩:=zBv (a:=a) hop hc
 rw [hcs]
 simp [builtin,Builtin.min_,ha',hrx.1,hry.1,Builtin.min2]
end
end Go.Am

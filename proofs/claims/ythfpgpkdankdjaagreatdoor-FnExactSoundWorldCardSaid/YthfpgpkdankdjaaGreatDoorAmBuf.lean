import Derived.Test.YthfpgpkdankdjaaGreatDoorAmMem
set_option linter.all false
namespace Go.Am
open Go Go.RowKit
section
variable {P:Program} {E:Env} {s:St} {a:Act} {w:World} {S:Nat→Prop} {ρ:Nat→Option Hd} {foot:Nat→List Nat} {o:Oper}
theorem zFP (h:SimX E s a w S ρ foot) {d:Nat} (hd:d<E.nt) {k:Nat} {rows:List (List T)} {arr:Array Value} (el:TypeId) {fr:Nat×Nat} {cap:Nat} (n':Nat) {Fs:List Nat} (hpi:E.okd d) (hno:zAk d s.objs) (hself:zAy d rows)
  (hcap:rows.length≤cap) (harr:cap*k≤arr.size) (ht:zIg arr fr) (hr:zAb S w ρ (fun i=>arr[i]?) 0 k rows Fs)
  (hn:Fs.Nodup) (hm:∀ b,b∈Fs→¬ S b∧b<w.heap.size∧(b∈E.F0∨E.w0.heap.size≤b)) (hap:∀ d' ob',lk d' s.objs=some ob'→∀ b,b∈Fs→b∉foot d'):
  Sim E ((s.new d ⟨k,rows⟩).set d (.ref d 0 rows.length)) (a.put (some d) (.slice (some ⟨w.heap.size,0,none⟩) rows.length cap)) { w with heap:=w.heap.push (.cells arr el fr),drawn:=n' }:=by
 have h1:=h.alloc (.cells arr el fr) n'
 have hb:({ w with heap:=w.heap.push (.cells arr el fr),drawn:=n' }:World).heap[w.heap.size]? =some (.cells arr el fr):=by simp
 have hf:∀ b,b∈Fs∨S b→({ w with heap:=w.heap.push (.cells arr el fr),drawn:=n' }:World).heap[b]? =w.heap[b]? :=by
  intro b hb
  have:b<w.heap.size:=hb.elim (fun h=>(hm b h).2.1) (fun hb=>(h.shared b hb).1)
  simp only [Array.getElem?_push]
  rw [if_neg (by omega)]
 have h2:=h1.new (d:=d) (ob:=⟨k,rows⟩) (hd:=⟨some (w.heap.size,0),cap,k⟩) (F:=w.heap.size::Fs) hpi hno hself
  ⟨by simp, .inr ⟨w.heap.size,0,arr,el,fr,Fs,rfl,hb,hcap,by simpa using harr,ht,zCi rows hr hf,rfl⟩⟩
  (List.nodup_cons.2 ⟨fun hmem=>by have:=(hm _ hmem).2.1;omega,hn⟩) (by
   intro b hb
   rcases List.mem_cons.1 hb with rfl|hb
   ·have:=h.kept.size
    exact ⟨fun hS=>by have:=(h.shared _ hS).1;omega,by simp, .inr this⟩
   ·obtain ⟨q1,q2,q3⟩:=hm b hb
    exact ⟨q1,by simp;omega,q3⟩)
  (by
   intro d' ob' hl _ b hb hb2
   rcases List.mem_cons.1 hb with rfl|hb
   ·have:=(h.mine d' ob' hl _ hb2).2.1
    omega
   ·exact hap d' ob' hl b hb hb2)
 refine ⟨S,_,_,h2.set (hd:=hd) ?_⟩
 simp only [Rep]
 exact ⟨trivial,⟨some (w.heap.size,0),cap,k⟩,some ⟨w.heap.size,0,none⟩,cap,by simp,rfl,by simp,hcap, .inr ⟨w.heap.size,0,rfl,by simp⟩⟩
def chunks (k:Nat):Nat→List T→List (List T)
 |0,_=>[]
 |n+1,l=>l.take k::chunks k n (l.drop k)
theorem zLo (k:Nat):∀ (n:Nat) (l:List T),l.length=n*k→(chunks k n l).flatten=l∧(∀ r∈chunks k n l,r.length=k)∧(chunks k n l).length=n
 |0,l,h=>by
  have:l=[]:=List.length_eq_zero_iff.1 (by simpa using h)
  subst this
  exact ⟨rfl,by simp [chunks],rfl⟩
 |n+1,l,h=>by
  rw [Nat.succ_mul] at h
  obtain ⟨e1,e2,e3⟩:=zLo k n (l.drop k) (by simp;omega)
  refine ⟨by simp [chunks,e1],fun r hr=> ?_,by simp [chunks,e3]⟩
  simp only [chunks,List.mem_cons] at hr
  rcases hr with rfl|hr
  ·simp;omega
  ·exact e2 r hr
theorem zHR {cell:Nat→Option Value}:∀ (n b:Nat),(∀ i,i<n→(cell (b+i)).isSome=true)→RepRow S w ρ cell b (List.replicate n .any) []
 |0,_,_=>by simp [RepRow]
 |n+1,b,h=>by
  rw [List.replicate_succ]
  simp only [RepRow]
  obtain ⟨y,hy⟩:=Option.isSome_iff_exists.1 (h 0 (by omega))
  exact ⟨y,[],[],by simpa using hy,by simp [Rep],zHR n (b+1) (fun i hi=>by
   have:=h (i+1) (by omega)
   rwa [show b+(i+1)=b+1+i from by omega] at this),rfl⟩
def zDx (s:St) (k:Nat):List (Nat×Operand)→Option (List (Nat×Nat×T))
 |[]=>some []
 |(i,x)::r=>match s.eval x,zDx s k r with
  |some t,some l=>some ((i*k,k,t)::l)
  |_,_=>none
theorem zJQ (h:SimX E s a w S ρ foot) {k:Nat}:∀ (parts:List (Nat×Operand)) (l:List (Nat×Nat×T)),zDx s k parts=some l→
  parts.length=l.length∧∀ (j:Nat) (p:Nat×Operand) (q:Nat×Nat×T),parts[j]? =some p→l[j]? =some q→q.1=p.1*k∧q.2.1=k∧Rep S w ρ q.2.2 (a.eval p.2) []
 |[],l,he=>by simp only [zDx,Option.some.injEq] at he;subst he;simp
 |(i,x)::r,l,he=>by
  simp only [zDx] at he
  split at he
  ·rename_i t l' h1 h2
   simp only [Option.some.injEq] at he;subst he
   obtain ⟨e1,e2⟩:=zJQ h r l' h2
   refine ⟨by simp [e1],fun j p q hp hq=> ?_⟩
   cases j with
   |zero=>simp at hp hq;subst hp hq;exact ⟨rfl,rfl,h.eval h1⟩
   |succ j=>exact e2 j p q (by simpa using hp) (by simpa using hq)
  ·cases he
theorem zAbC {i:IN} {K:St→Prop} {k n d:Nat} {z:Value} {parts:List (Nat×Operand)} {l:List (Nat×Nat×T)} {flat:List T} (hi:i.i= .bsl k z n parts) (hd:i.dst=some d) (hl:zDx s k parts=some l) (hv:l.all (fun q=>q.2.2.plainV)=true)
  (hf:zEr (List.replicate (n*k) .any) l=some flat) (hlen:flat.length=n*k) (hpi:E.okd d) (hno:zAk d s.objs) (hself:zAy d (chunks k n flat)) (hK:K ((s.new d ⟨k,chunks k n flat⟩).set d (.ref d 0 n))):zAn P E i K s:=by
 intro o h1 h2 h3 a w ⟨S,ρ,foot,hx⟩ Q
 rw [hi] at h1
 unfold zBR at h1
 split at h1<;>try (simp at h1;done)
 case h_8 ty len ps hop=>
  split at h1
  ·rename_i e he
   split at h1
   ·rename_i k' z' hk hz
    split at h1
    ·cases h1
    ·rename_i hsz
     simp only [Option.some.injEq,I.bsl.injEq] at h1
     obtain ⟨rfl,rfl,rfl,rfl⟩:=h1
     obtain ⟨l1,l2⟩:=zJQ hx _ _ hl
     have hel:P.underlying ty=some (.slice e):=by
      unfold zA9 at he;split at he<;>simp at he;subst he;assumption
     obtain ⟨z0,hz0⟩:∃ z0:Array Value,z0=if len*k'=0 then #[] else z'.cells:=⟨_,rfl⟩
     obtain ⟨out,o1,o2,o3⟩:=zIK (S:=S) (w:=w) (ρ:=ρ) (place:=fun i=>some (i*k',k')) (ps.toList.map fun (i,x)=>(i,a.eval x)) l (List.replicate (len*k') .any) ((Array.range (len*k')).map (z0[·%z0.size]!)) flat (by simp)
      (zHR _ _ (fun i hi=>by simp [hi])) (by simpa using l1) (fun j p q hp hq=>by
       simp only [List.getElem?_map,Option.map_eq_some_iff] at hp
       obtain ⟨p0,hp0,rfl⟩:=hp
       obtain ⟨r1,r2,r3⟩:=l2 j p0 q hp0 hq
       exact ⟨by simp [r1,r2],r3,List.all_eq_true.1 hv q (List.mem_of_getElem? hq)⟩) hf
     obtain ⟨c1,c2,c3⟩:=zLo k' len flat hlen
     have hrun:(execOp a.eval o).run P w= .ok (.value (.slice (some ⟨w.heap.size,0,none⟩) len len)) { w with heap:=w.heap.push (.cells out e) }:=by
      have:(Instr.buildSlice ty len (ps.map fun (i,x)=>(i,a.eval x))).run P w= .ok (.slice (some ⟨w.heap.size,0,none⟩) len len) { w with heap:=w.heap.push (.cells out e) }:=by
       have e2:(ps.map fun (i,x)=>(i,a.eval x)).toList=ps.toList.map fun (i,x)=>(i,a.eval x):=by simp
       by_cases h0:len*k'=0
       ·rw [if_pos h0] at hz0
        subst hz0
        simp only [Instr.buildSlice,Sem.run_bind,underlying,run_program,Result.andThen_ok,hel,Sem.run_pure,zBn hk,if_neg hsz,if_pos h0]
        rw [e2,o1]
        simp [newRow]
       ·rw [if_neg h0] at hz0
        subst hz0
        simp only [Instr.buildSlice,Sem.run_bind,underlying,run_program,Result.andThen_ok,hel,Sem.run_pure,zBn hk,if_neg hsz,if_neg h0,zGT hz]
        rw [e2,o1]
        simp [newRow]
      have h5:=Sem.run_bind (P:=P) (w:=w) (Instr.buildSlice ty len (ps.map fun (i,x)=>(i,a.eval x))) (fun v=>(pure (Next.value v):Sem Next))
      simp only [execOp,hop]
      rw [h5,this]
      simp
     rw [hrun,Oper.upon_value,h2,hd]
     have:=zFP hx (h3 d hd) (k:=k') (rows:=chunks k' len flat) (arr:=out) e (fr:=(0,0)) (cap:=len) w.drawn (Fs:=[]) hpi hno hself (by omega) (by omega) (by intro i _;simp) ((zAh _ _ _).2 ⟨c2,by rw [c1];exact o3⟩) (by simp) (by simp) (by simp)
     rw [c3] at this
     exact ⟨_,hK,this⟩
   ·cases h1
  ·cases h1
 all_goals (repeat' split at h1)<;>simp at h1
theorem zQO (d:Nat) (x:Value):(T.ofV1 x).noM d:=by
 simp [T.ofV1,T.noM]
theorem zHS (d:Nat) (z:Value):zAD d (zAz z):=by
 have key:∀ l:List Value,zAD d (l.map T.ofV1):=by
  intro l
  induction l with
  |nil=>simp [zAD]
  |cons x l ih=>simp only [List.map_cons,zAD];exact ⟨zQO d x,ih⟩
 unfold zAz
 split
 ·exact key _
 ·simp only [zAD];exact ⟨zQO d _,trivial⟩
theorem zAbD {i:IN} {K:St→Prop} {k bytes d:Nat} {z:Value} {x y:Operand} {kx ky:IntKind} {l c:Int} (hi:i.i= .mks k bytes z x y) (hd:i.dst=some d) (hx:s.eval x=some (.v (.int kx l))) (hy:s.eval y=some (.v (.int ky c)))
  (h0:0≤l) (h1:l≤c) (h2:c≤9223372036854775807) (h4:bytes*c≤281474976710656) (hz:(zAz z).length=k) (hpi:E.okd d) (hno:zAk d s.objs)
  (hK:K ((s.new d ⟨k,List.replicate l.toNat (zAz z)⟩).set d (.ref d 0 l.toNat))):zAn P E i K s:=by
 intro o g1 g2 g3 a w ⟨S,ρ,foot,hsx⟩ Q
 rw [hi] at g1
 unfold zBR at g1
 split at g1<;>try (simp at g1;done)
 case h_16 ty x' y' hop=>
  split at g1
  ·rename_i e he
   split at g1
   ·rename_i inf z' hinf hz'
    simp only [Option.some.injEq,I.mks.injEq] at g1
    obtain ⟨rfl,rfl,rfl,rfl,rfl⟩:=g1
    have hel:P.underlying ty=some (.slice e):=by
     unfold zA9 at he;split at he<;>simp at he;subst he;assumption
    have hrx:=hsx.eval hx;have hry:=hsx.eval hy
    simp only [Rep] at hrx hry
    have wl:IntKind.i64.wrap l=l:=by
     unfold IntKind.wrap;simp [IntKind.bits,IntKind.signed];omega
    have wc:IntKind.i64.wrap c=c:=by
     unfold IntKind.wrap;simp [IntKind.bits,IntKind.signed];omega
    obtain ⟨z1,z2⟩:=zFO (S:=S) (w:=w) (ρ:=ρ) z'
    have hk:width P e=some inf.size:=by simp [width,hinf]
    have ht1:¬ (c<0∨(inf.bytes:Int)*c>2^48):=by omega
    have hrun:∃ arr:Array Value,arr.size=c.toNat*inf.size∧(∀ j,j<c.toNat*inf.size→arr[j]? =some (z'.cells[j%inf.size]!))∧
      (execOp a.eval o).run P w= .ok (.value (.slice (some ⟨w.heap.size,0,none⟩) l.toNat c.toNat)) { w with heap:=w.heap.push (.cells arr e) }:=by
     obtain ⟨z0,hz0⟩:∃ z0:Array Value,z0=if c.toNat*inf.size=0 then #[] else z'.cells:=⟨_,rfl⟩
     refine ⟨(Array.range (c.toNat*inf.size)).map (z0[·%z0.size]!),by simp,fun j hj=> ?_, ?_⟩
     ·have h0:c.toNat*inf.size≠0:=by omega
      rw [if_neg h0] at hz0
      subst hz0
      simp [hj,z1,hz]
     ·have hns:(isz:(sizeOf e).run P w= .ok inf.size w)→True:=fun _=>trivial
      have this:(Instr.makeSlice ty (a.eval x') (a.eval y')).run P w= .ok (.slice (some ⟨w.heap.size,0,none⟩) l.toNat c.toNat) { w with heap:=w.heap.push (.cells ((Array.range (c.toNat*inf.size)).map (z0[·%z0.size]!)) e) }:=by
       have c1:¬ c<0:=by omega
       have c2:¬ (281474976710656<(inf.bytes:Int)*c):=by omega
       have c3:¬ l<0:=by omega
       have c4:¬ c<l:=by omega
       by_cases h0:c.toNat*inf.size=0
       ·rw [if_pos h0] at hz0
        subst hz0
        simp only [Instr.makeSlice,Sem.run_bind,underlying,run_program,Result.andThen_ok,hel,Sem.run_pure,hrx.1,hry.1,asInt,asIntOf,typeInfo,hinf,wl,wc,run_askRoom,zBn hk]
        simp [c1,c2,c3,c4,h0,newRow,zBn hk]
       ·rw [if_neg h0] at hz0
        subst hz0
        simp only [Instr.makeSlice,Sem.run_bind,underlying,run_program,Result.andThen_ok,hel,Sem.run_pure,hrx.1,hry.1,asInt,asIntOf,typeInfo,hinf,wl,wc,run_askRoom,zBn hk]
        simp [c1,c2,c3,c4,h0,newRow,zBn hk,zGT hz']
      have h5:=Sem.run_bind (P:=P) (w:=w) (Instr.makeSlice ty (a.eval x') (a.eval y')) (fun v=>(pure (Next.value v):Sem Next))
      simp only [execOp,hop]
      rw [h5,this]
      simp
    obtain ⟨arr,a1,a2,hrun⟩:=hrun
    rw [hrun,Oper.upon_value,g2,hd]
    have hrep:∀ n b,n+b≤c.toNat→zAb S w ρ (fun i=>arr[i]?) (b*inf.size) inf.size (List.replicate n (zAz z')) []:=by
     intro n
     induction n with
     |zero=>intro b _;simp [zAb]
     |succ n ih=>
      intro b hb
      rw [List.replicate_succ]
      simp only [zAb]
      refine ⟨[],[],hz, ?_, ?_,rfl⟩
      ·refine zAM _ z2 fun i hi=> ?_
       rw [hz] at hi
       have hm:(b+1)*inf.size≤c.toNat*inf.size:=Nat.mul_le_mul_right _ (by omega)
       rw [Nat.succ_mul] at hm
       rw [a2 _ (by omega)]
       have:(b*inf.size+i)%inf.size=i:=by
        rw [Nat.add_comm,Nat.add_mul_mod_self_right,Nat.mod_eq_of_lt hi]
       rw [this,Nat.zero_add]
       have hi':i<z'.cells.size:=by omega
       simp [hi']
      ·have:=ih (b+1) (by omega)
       rwa [Nat.succ_mul] at this
    have nm:zAy d (List.replicate l.toNat (zAz z')):=by
     intro r hr
     rw [List.eq_of_mem_replicate hr]
     exact zHS d z'
    have:=zFP hsx (g3 d hd) (k:=inf.size) (rows:=List.replicate l.toNat (zAz z')) (arr:=arr) e (fr:=(0,0)) (cap:=c.toNat) w.drawn (Fs:=[]) hpi hno nm (by simp;omega) (by omega) (by intro i _;simp) (by simpa using hrep l.toNat 0 (by omega)) (by simp) (by simp) (by simp)
    rw [List.length_replicate] at this
    exact ⟨_,hK,this⟩
   ·cases g1
  ·cases g1
 all_goals (repeat' split at g1)<;>simp at g1
end
end Go.Am

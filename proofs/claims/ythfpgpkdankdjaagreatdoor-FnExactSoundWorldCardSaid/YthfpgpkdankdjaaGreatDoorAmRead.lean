import Derived.Test.YthfpgpkdankdjaaGreatDoorAmWrap
import Derived.ChangeArms
import Derived.WideShapes
set_option linter.all false
namespace Go.Am
open Go Go.RowKit
def has (P:Program):Nat→TypeId→List T→Prop
 |0,_,_=>False
 |n+1,t,row=>
  match P.underlying t with
  |some .bool=>∃ b,row=[.v (.bool b)]
  |some (.int k)=>∃ z,row=[.v (.int k z)]∧(Lit.int k z).wf=true
  |some .string=>∃ s:ByteArray,row=[.v (.string s)]∧s.size≤maxLen
  |some (.slice e)=>∃ rows:List (List T),row=[.sl false (P.cellsOf e) rows]∧rows.length≤maxLen∧∀ r,r∈rows→r.length=P.cellsOf e∧has P n e r
  |some (.struct fs)=>∀ (i:Nat) (f:Field),fs[i]? =some f→has P n f.type ((row.drop f.offset).take (P.cellsOf f.type))
  |_=>False
def zRu (P:Program) (tot:Nat):List Field→Nat→Bool
 |[],off=>off==tot
 |f::r,off=>f.offset==off&&zRu P tot r (off+P.cellsOf f.type)
def zEn (P:Program):Nat→TypeId→Bool
 |0,_=>false
 |n+1,t=>
  match P.underlying t with
  |some .bool=>P.cellsOf t==1
  |some (.int _)=>P.cellsOf t==1
  |some .string=>P.cellsOf t==1
  |some (.slice e)=>P.cellsOf t==1&&Nat.blt 0 (P.cellsOf e)&&zEn P n e
  |some (.struct fs)=>zRu P (P.cellsOf t) fs.toList 0&&fs.toList.all fun f=>zEn P n f.type
  |_=>false
section
variable {H:Type} {enc:TypeId×Value→H} {P:Program} {w:World}
abbrev zH0 (w:World):Nat→Prop:=fun b=>b<w.heap.size
theorem zMU {base:Nat} {spare:Nat→Bool} {held:Bool} {n m tot:Nat} {cs:List Value} (ih:∀ (m:Nat) (t:TypeId) (cs:List Value) (x:DataW H×List MemPlace),DataW.trod enc P w base spare held m t cs=some x→zEn P n t=true→∃ row,has P n t row∧row.length=P.cellsOf t∧cs.length=P.cellsOf t∧RepRow (zH0 w) w noH (fun i=>cs[i]?) 0 row []) (hcs:cs.length=tot):
  ∀ (fs:List Field) (off:Nat),zRu P tot fs off=true→(∀ f,f∈fs→∃ x,DataW.trod enc P w base spare held m f.type ((cs.drop f.offset).take (P.cellsOf f.type))=some x)→(∀ f,f∈fs→zEn P n f.type=true)→
  ∃ row,off+row.length=tot∧RepRow (zH0 w) w noH (fun i=>cs[i]?) off row []∧∀ f,f∈fs→off≤f.offset∧has P n f.type ((row.drop (f.offset-off)).take (P.cellsOf f.type))
 |[],off,hl,_,_=>⟨[],by simpa [zRu] using hl,by simp [RepRow],by simp⟩
 |f::r,off,hl,hx,hp=>by
  simp only [zRu,Bool.and_eq_true,beq_iff_eq] at hl
  obtain ⟨x,hfx⟩:=hx f List.mem_cons_self
  obtain ⟨row1,a1,a2,a3,a4⟩:=ih m f.type _ x hfx (hp f List.mem_cons_self)
  obtain ⟨row2,b1,b2,b3⟩:=zMU ih hcs r (off+P.cellsOf f.type) hl.2 (fun g hg=>hx g (List.mem_cons_of_mem _ hg)) (fun g hg=>hp g (List.mem_cons_of_mem _ hg))
  refine ⟨row1++row2,by simp;omega, ?_, ?_⟩
  ·rw [zAr]
   refine ⟨[],[],zAM row1 a4 fun i hi=> ?_,by rw [a2];exact b2,rfl⟩
   rw [hl.1,List.getElem?_take,Nat.zero_add,if_pos (by omega),List.getElem?_drop]
  ·intro g hg
   rcases List.mem_cons.1 hg with rfl|hg
   ·refine ⟨by omega, ?_⟩
    rw [hl.1,Nat.sub_self,List.drop_zero,List.take_append_of_le_length (by omega),List.take_of_length_le (by omega)]
    exact a1
   ·obtain ⟨c1,c2⟩:=b3 g hg
    refine ⟨by omega, ?_⟩
    rw [List.drop_append,List.drop_eq_nil_of_le (by omega),List.nil_append,show g.offset-off-row1.length=g.offset-(off+P.cellsOf f.type) from by omega]
    exact c2
theorem zRv {arr:Array Value} {k off:Nat} {Q:List T→Prop}:∀ (n j:Nat),(∀ i,i<n→∃ row,Q row∧row.length=k∧RepRow (zH0 w) w noH (fun x=>arr[x]?) (off+(j+i)*k) row [])→
  ∃ rows:List (List T),rows.length=n∧(∀ r,r∈rows→Q r)∧zAb (zH0 w) w noH (fun x=>arr[x]?) (off+j*k) k rows []
 |0,j,_=>⟨[],rfl,by simp,by simp [zAb]⟩
 |n+1,j,h=>by
  obtain ⟨row,a1,a2,a3⟩:=h 0 (by omega)
  obtain ⟨rows,b1,b2,b3⟩:=zRv n (j+1) fun i hi=>by
   have:=h (i+1) (by omega)
   rwa [show j+(i+1)=j+1+i from by omega] at this
  refine ⟨row::rows,by simp [b1], ?_, ?_⟩
  ·intro r hr
   rcases List.mem_cons.1 hr with rfl|hr
   ·exact a1
   ·exact b2 r hr
  ·simp only [zAb]
   refine ⟨[],[],a2,by simpa using a3, ?_,rfl⟩
   rw [show off+j*k+k=off+(j+1)*k from by rw [Nat.succ_mul];omega]
   exact b3
theorem zMb {base:Nat} {held:Bool}:∀ (n m:Nat) (t:TypeId) (cs:List Value) (x:DataW H×List MemPlace),DataW.trod enc P w base (fun _=>true) held m t cs=some x→zEn P n t=true→∃ row,has P n t row∧row.length=P.cellsOf t∧cs.length=P.cellsOf t∧RepRow (zH0 w) w noH (fun i=>cs[i]?) 0 row []
 |0,m,t,cs,x,_,hp=>by simp [zEn] at hp
 |n+1,m,t,cs,x,h,hp=>by
  have one:∀ v:Value,∀ u:T,Rep (zH0 w) w noH u v []→RepRow (zH0 w) w noH (fun i=>[v][i]?) 0 [u] []:=by
   intro v u hu
   simp only [RepRow]
   exact ⟨v,[],[],rfl,hu,rfl,rfl⟩
  unfold zEn at hp
  split at hp
  ·rename_i hu
   obtain ⟨b,rfl,_⟩:=DataW.trod_bool hu h
   have hc:P.cellsOf t=1:=by simpa using hp
   exact ⟨[.v (.bool b)],by simp only [has,hu];exact ⟨b,rfl⟩,hc.symm,hc.symm,one _ _ (by simp [Rep])⟩
  ·rename_i k hu
   obtain ⟨b,rfl,_,hwf⟩:=DataW.trod_int hu h
   have hc:P.cellsOf t=1:=by simpa using hp
   exact ⟨[.v (.int k b)],by simp only [has,hu];exact ⟨b,rfl,hwf⟩,hc.symm,hc.symm,one _ _ (by simp [Rep])⟩
  ·rename_i hu
   obtain ⟨b,rfl,_,hwf⟩:=DataW.trod_string hu h
   have hc:P.cellsOf t=1:=by simpa using hp
   exact ⟨[.v (.string b)],by simp only [has,hu];exact ⟨b,rfl,hwf⟩,hc.symm,hc.symm,one _ _ (by simp [Rep])⟩
  ·rename_i e hu
   simp only [Bool.and_eq_true,beq_iff_eq,Nat.blt_eq] at hp
   obtain ⟨⟨hc,hk⟩,hpe⟩:=hp
   rcases DataW.trod_slice hu h with ⟨rfl,_⟩|⟨a,len,cap,elems,rest,m',rfl,rfl,_,hb,hl,hm,hlen,hel,hsp,_⟩
   ·refine ⟨[.sl false (P.cellsOf e) []],by simp only [has,hu];exact ⟨[],rfl,by simp,by simp⟩,hc.symm,hc.symm,one _ _ ?_⟩
    simp only [Rep]
    exact ⟨none,0,rfl, .inl (by simp)⟩
   ·obtain ⟨hrl,hre⟩:=hsp rfl
    have all:∀ i,i<cap→∃ cs' x',w.cells? base (a.add (i*P.cellsOf e)) (P.cellsOf e)=some cs'∧DataW.trod enc P w base (fun _=>true) held m' e cs'=some x':=by
     intro i hi
     have:∃ x',(w.cells? base (a.add (i*P.cellsOf e)) (P.cellsOf e)).bind (DataW.trod enc P w base (fun _=>true) held m' e)=some x':=by
      by_cases h1:i<len
      ·exact ⟨_,(hel i h1).trans (List.getElem?_eq_getElem (by omega))⟩
      ·have:=hre (i-len) (by omega)
       rw [show len+(i-len)=i from by omega] at this
       exact ⟨_,this.trans (List.getElem?_eq_getElem (by omega))⟩
     obtain ⟨x',hx'⟩:=this
     cases hcs:w.cells? base (a.add (i*P.cellsOf e)) (P.cellsOf e) with
     |none=>rw [hcs] at hx';simp at hx'
     |some cs'=>rw [hcs] at hx';exact ⟨cs',x',rfl,by simpa using hx'⟩
    by_cases h0:cap=0
    ·have hl0:len=0:=by omega
     subst hl0
     refine ⟨[.sl false (P.cellsOf e) []],by simp only [has,hu];exact ⟨[],rfl,by simp,by simp⟩,hc.symm,hc.symm,one _ _ ?_⟩
     simp only [Rep]
     exact ⟨some a,cap,rfl, .inl (by simp [h0])⟩
    ·obtain ⟨b,off,spot⟩:=a
     obtain ⟨cs0,x0,d1,d2⟩:=all 0 (by omega)
     obtain ⟨_,e1,e2⟩:=World.cells?_some d1
     have hc0:=e2 0 hk
     rw [List.getElem?_eq_getElem (by omega)] at hc0
     have hs:spot=none:=by simpa [Addr.add] using World.cell?_spot hc0
     subst hs
     simp only [zCB] at all hc0
     have hblk:∃ arr el fr,w.heap[b]? =some (.cells arr el fr):=by
      cases hb:w.heap[b]? with
      |none=>simp [World.cell?,hb] at hc0
      |some o=>
       cases o with
       |cells arr el fr=>exact ⟨arr,el,fr,rfl⟩
       |_=>simp [World.cell?,hb] at hc0
     obtain ⟨arr,el,fr,hbk⟩:=hblk
     have hcell:∀ j,w.cell? ⟨b,j,none⟩=arr[j]? :=by intro j;simp [World.cell?,hbk]
     have each:∀ i,i<len→∃ row,(row.length=P.cellsOf e∧has P n e row)∧row.length=P.cellsOf e∧RepRow (zH0 w) w noH (fun y=>arr[y]?) (off+(0+i)*P.cellsOf e) row []:=by
      intro i hi
      obtain ⟨cs',x',f1,f2⟩:=all i (by omega)
      obtain ⟨row,r1,r2,r3,r4⟩:=zMb n m' e cs' x' f2 hpe
      obtain ⟨_,g1,g2⟩:=World.cells?_some f1
      refine ⟨row,⟨r2,r1⟩,r2,zAM row r4 fun j hj=> ?_⟩
      have:=g2 j (by omega)
      rw [zCB,hcell] at this
      rw [Nat.zero_add,Nat.zero_add, ←this]
     obtain ⟨rows,s1,s2,s3⟩:=zRv len 0 each
     refine ⟨[.sl false (P.cellsOf e) rows],by simp only [has,hu];exact ⟨rows,rfl,by omega,s2⟩,hc.symm,hc.symm,one _ _ ?_⟩
     simp only [Rep]
     obtain ⟨cs',x',f1,f2⟩:=all (cap-1) (by omega)
     obtain ⟨_,g1,g2⟩:=World.cells?_some f1
     have hlast:=g2 (P.cellsOf e-1) (by omega)
     rw [zCB,hcell,List.getElem?_eq_getElem (by omega)] at hlast
     have hsz:=(Array.getElem?_eq_some_iff.1 hlast).1
     have hmul:cap*P.cellsOf e=(cap-1)*P.cellsOf e+P.cellsOf e:=by rw [←Nat.succ_mul];congr 1;omega
     refine ⟨some ⟨b,off,none⟩,cap,by rw [s1], .inr ⟨b,off,arr,el,fr,[],rfl,hbk,by omega,by omega,by simpa using s3, ?_⟩⟩
     simp only [Held]
     exact ⟨trivial,(Array.getElem?_eq_some_iff.1 hbk).1,by simp⟩
  ·rename_i fs hu
   simp only [Bool.and_eq_true,List.all_eq_true] at hp
   obtain ⟨xs,m',rfl,_,hcl,hxl,hf⟩:=DataW.trod_struct hu h
   obtain ⟨row,a1,a2,a3⟩:=zMU (n:=n) (m:=m') (fun m t cs x=>zMb n m t cs x) hcl fs.toList 0 hp.1 (fun f hfm=>by
    obtain ⟨i,hi,rfl⟩:=List.getElem_of_mem hfm
    have hi':i<fs.size:=by simpa using hi
    have:=hf i (fs[i]'hi') (Array.getElem?_eq_getElem hi')
    rw [List.getElem?_eq_getElem (by omega)] at this
    exact ⟨_,by simpa using this⟩) hp.2
   refine ⟨row, ?_,by omega,hcl,a2⟩
   simp only [has,hu]
   intro i f hfi
   have hfm:f∈fs.toList:=by
    have:=Array.mem_of_getElem? hfi
    simpa using this
   have:=(a3 f hfm).2
   simpa using this
  ·cases hp
def zU2 (P:Program) (n:Nat) (t:TypeId) (tr:T):Prop:=
 match P.underlying t with
 |some (.struct _)=>∃ row,tr= .agg row∧row.length=P.cellsOf t∧has P n t row
 |_=>has P n t [tr]
theorem arg_rep {held:Bool} {t:TypeId} {v:Value} {d:DataW H} {ps:List MemPlace} {r:Reach} {b0 base:Nat} (n:Nat) (hval:Value.okWide P w r b0 t v) (hd:DataW.Trod enc P w base (fun _=>true) held t v d ps) (hp:zEn P n t=true):∃ tr,zU2 P n t tr∧Rep (zH0 w) w noH tr v []:=by
 obtain ⟨fuel,hf⟩:=hd
 obtain ⟨row,a1,a2,a3,a4⟩:=zMb n fuel t _ _ hf hp
 cases n with
 |zero=>simp [zEn] at hp
 |succ n=>
  have one:∀ {x:Value},v=x→x.cells= #[x]→P.cellsOf t=1→∃ tr,row=[tr]∧Rep (zH0 w) w noH tr v []:=by
   rintro x rfl hc h1
   rw [h1] at a2
   match row,a2 with
   |[u],_=>
    simp only [RepRow,hc] at a4
    obtain ⟨y,F1,F2,q1,q2,q3,q4⟩:=a4
    simp at q1
    subst q1
    have:F1=[]:=by
     have:=congrArg List.length q4
     simp at this
     exact List.length_eq_zero_iff.1 (by omega)
    subst this
    exact ⟨u,rfl,q2⟩
  unfold zEn at hp
  unfold zU2
  split at hp
  ·rename_i hu
   simp only [hu]
   obtain ⟨x,hx,_⟩:=DataW.trod_bool hu hf
   have hc:P.cellsOf t=1:=by simpa using hp
   have hv:∃ x,v= .bool x:=by
    simp only [Value.okWide,hu,Cell.okWide] at hval
    cases v<;>simp_all [Cell.ok]
   obtain ⟨x,rfl⟩:=hv
   obtain ⟨tr,rfl,h2⟩:=one rfl rfl hc
   exact ⟨tr,a1,h2⟩
  ·rename_i k hu
   simp only [hu]
   have hc:P.cellsOf t=1:=by simpa using hp
   obtain ⟨x,rfl⟩:=WideShapes.okWide_int hu hval
   obtain ⟨tr,rfl,h2⟩:=one rfl rfl hc
   exact ⟨tr,a1,h2⟩
  ·rename_i hu
   simp only [hu]
   have hc:P.cellsOf t=1:=by simpa using hp
   have hv:∃ x,v= .string x:=by
    simp only [Value.okWide,hu,Cell.okWide] at hval
    cases v<;>simp_all [Cell.ok]
   obtain ⟨x,rfl⟩:=hv
   obtain ⟨tr,rfl,h2⟩:=one rfl rfl hc
   exact ⟨tr,a1,h2⟩
  ·rename_i e hu
   simp only [hu]
   simp only [Bool.and_eq_true,beq_iff_eq] at hp
   obtain ⟨a,len,cap,rfl⟩:=WideShapes.okWide_slice hu hval
   obtain ⟨tr,rfl,h2⟩:=one rfl rfl hp.1.1
   exact ⟨tr,a1,h2⟩
  ·rename_i fs hu
   simp only [hu]
   obtain ⟨cs,rfl,hcs⟩:=WideShapes.okWide_struct hu hval
   refine ⟨.agg row,⟨row,rfl,a2,a1⟩, ?_⟩
   simp only [Rep]
   refine ⟨cs,rfl,by omega, ?_⟩
   simpa [Value.cells] using a4
  ·cases hp
theorem zBc {t:TypeId} {n:Nat} {c:T} (hu:P.underlying t=some (.int .i64)) (h:has P (n+1) t [c]):∃ z:Int,c= .v (.int .i64 z)∧ -9223372036854775808≤z∧z≤9223372036854775807:=by
 simp only [has,hu] at h
 obtain ⟨z,h1,h2⟩:=h
 simp only [List.cons.injEq,and_true] at h1
 refine ⟨z,h1, ?_⟩
 simp [Lit.wf,IntKind.min,IntKind.max,IntKind.signed,IntKind.bits] at h2
 simpa using h2
theorem zDk {t:TypeId} {n:Nat} {c:T} (hu:P.underlying t=some .bool) (h:has P (n+1) t [c]):∃ b:Bool,c= .v (.bool b):=by
 simp only [has,hu] at h
 obtain ⟨z,h1⟩:=h
 simp only [List.cons.injEq,and_true] at h1
 exact ⟨z,h1⟩
theorem zDz {t:TypeId} {n:Nat} {c:T} (hu:P.underlying t=some .string) (h:has P (n+1) t [c]):∃ s:ByteArray,c= .v (.string s)∧s.size≤maxLen:=by
 simp only [has,hu] at h
 obtain ⟨z,h1,h2⟩:=h
 simp only [List.cons.injEq,and_true] at h1
 exact ⟨z,h1,h2⟩
theorem zMV {α:Type} {F:α→List T} {Q:α→Prop}:∀ {rows:List (List T)},(∀ r∈rows,∃ x,r=F x∧Q x)→∃ l:List α,rows=l.map F∧∀ x∈l,Q x
 |[],_=>⟨[],rfl,by simp⟩
 |r::rows,h=>by
  obtain ⟨x,rfl,hx⟩:=h r (List.mem_cons_self ..)
  obtain ⟨l,rfl,hl⟩:=zMV fun r hr=>h r (List.mem_cons_of_mem _ hr)
  refine ⟨x::l,rfl,fun y hy=> ?_⟩
  rcases List.mem_cons.1 hy with rfl|hy
  ·exact hx
  ·exact hl y hy
theorem zB9 {α:Type} {t e:TypeId} {n k:Nat} {c:T} (F:α→List T) (Q:α→Prop) (hu:P.underlying t=some (.slice e)) (hk:P.cellsOf e=k) (hel:∀ r:List T,r.length=k→has P n e r→∃ x,r=F x∧Q x) (h:has P (n+1) t [c]):
  ∃ l:List α,c= .sl false k (l.map F)∧l.length≤maxLen∧∀ x∈l,Q x:=by
 simp only [has,hu] at h
 obtain ⟨rows,h1,h2,h3⟩:=h
 simp only [List.cons.injEq,and_true] at h1
 obtain ⟨l,rfl,hl⟩:=zMV (F:=F) (Q:=Q) (rows:=rows) fun r hr=>hel r (by rw [(h3 r hr).1,hk]) (h3 r hr).2
 exact ⟨l,by rw [h1,hk],by simpa using h2,hl⟩
theorem zGJ {α:Type} {F:α→T} {Q:α→Prop} {r:List T} (hl:r.length=1) (h:∀ c,r=[c]→∃ x,c=F x∧Q x):∃ x,r=[F x]∧Q x:=by
 match r,hl with
 |[c],_=>
  obtain ⟨x,rfl,hx⟩:=h c rfl
  exact ⟨x,rfl,hx⟩
end
end Go.Am

import Derived.Test.YthfpgpkdankdjaaGreatDoorAmBase
set_option linter.all false
namespace Go.Am
open Go Go.RowKit
def lk {α:Type} (n:Nat):List (Nat×α)→Option α
 |[]=>none
 |(m,x)::r=>if m=n then some x else lk n r
structure Ob where
 k:Nat
 rows:List (List T)
 deriving Inhabited
structure St where
 slots:List (Nat×T)
 objs:List (Nat×Ob)
structure Kept (F0:List Nat) (w0 w:World):Prop where
 os:w.os=w0.os
 tape:w.tape=w0.tape
 output:w.output=w0.output
 size:w0.heap.size≤w.heap.size
 block:∀ b,b<w0.heap.size→b∉F0→w.heap[b]? =w0.heap[b]?
 sizes:∀ (b:Nat) (arr:Array Value) (el:TypeId) (fr:Nat×Nat),w0.heap[b]? =some (.cells arr el fr)→∃ arr' fr',w.heap[b]? =some (.cells arr' el fr')∧arr'.size=arr.size
theorem Kept.refl (F:List Nat) (w:World):Kept F w w:=⟨rfl,rfl,rfl,Nat.le_refl _,fun _ _ _=>rfl,fun _ arr _ fr h=>⟨arr,fr,h,rfl⟩⟩
abbrev tabs:List (Nat×(List Value→Prop)):=[(0,fun l=>l=([1,10,100,1000,10000,100000,1000000,10000000,100000000,1000000000,10000000000,100000000000,1000000000000,10000000000000,100000000000000,1000000000000000,10000000000000000,100000000000000000,1000000000000000000,10000000000000000000]:List Int).map fun z=>Value.int .u64 z),(2,fun l=>∃ tp p,l=[.iface tp p]),(3,fun l=>∃ tp p,l=[.iface tp p])]
def Inv (w:World) (S:Nat→Prop):Prop:=∀ t∈tabs,S t.1∧∃ arr el fr,w.heap[t.1]? =some (.cells arr el fr)∧t.2 arr.toList
theorem Inv.mono {w w':World} {S S':Nat→Prop} (h:Inv w S) (hS:∀ b,S b→S' b) (hw:∀ b,S b→w'.heap[b]? =w.heap[b]?):Inv w' S':=fun t ht=>
 let ⟨h1,arr,el,fr,h2⟩:=h t ht
 ⟨hS _ h1,arr,el,fr,by rw [hw _ h1];exact h2⟩
structure Env where
 w0:World
 F0:List Nat
 S0:Nat→Prop
 nt:Nat
 pins:List (T×Value)
 tab:Inv w0 S0
 lent:∀ b,b∈F0→¬ S0 b
 here:∀ b,S0 b→b<w0.heap.size
def Env.okd (E:Env) (d:Nat):Prop:=∀ p,p∈E.pins→p.1.noM d
def zFZ (S:Nat→Prop) (w:World) (ρ:Nat→Option Hd) (ob:Ob) (hd:Hd) (F:List Nat):Prop:=
 hd.k=ob.k∧((hd.cap=0∧ob.rows=[]∧F=[])∨
  ∃ b off arr el fr Fs,hd.a=some (b,off)∧w.heap[b]? =some (.cells arr el fr)∧ob.rows.length≤hd.cap∧off+hd.cap*ob.k≤arr.size∧
   zIg arr fr∧zAb S w ρ (fun i=>arr[i]?) off ob.k ob.rows Fs∧F=b::Fs)
structure SimX (E:Env) (s:St) (a:Act) (w:World) (S:Nat→Prop) (ρ:Nat→Option Hd) (foot:Nat→List Nat):Prop where
 nt:a.tmps.size=E.nt
 defers:a.defers=[]
 slots:∀ n t,lk n s.slots=some t→Rep S w ρ t (a.tmps.getD n undef) []
 objs:∀ d ob,lk d s.objs=some ob→∃ hd,ρ d=some hd∧zFZ S w ρ ob hd (foot d)
 nodup:∀ d ob,lk d s.objs=some ob→(foot d).Nodup
 apart:∀ d ob d' ob',lk d s.objs=some ob→lk d' s.objs=some ob'→d≠d'→∀ b,b∈foot d→b∉foot d'
 mine:∀ d ob,lk d s.objs=some ob→∀ b,b∈foot d→¬ S b∧b<w.heap.size∧(b∈E.F0∨E.w0.heap.size≤b)
 shared:∀ b,S b→b<w.heap.size∧(E.S0 b∨b∈E.F0∨E.w0.heap.size≤b)
 S0:∀ b,E.S0 b→S b
 kept:Kept E.F0 E.w0 w
 pins:∀ p,p∈E.pins→Rep S w ρ p.1 p.2 []
theorem SimX.inv {E:Env} {s:St} {a:Act} {w:World} {S:Nat→Prop} {ρ:Nat→Option Hd} {foot:Nat→List Nat} (h:SimX E s a w S ρ foot):Inv w S:=
 E.tab.mono h.S0 fun b hb=>h.kept.block b (E.here b hb) fun hm=>E.lent b hm hb
def Sim (E:Env) (s:St) (a:Act) (w:World):Prop:=∃ S ρ foot,SimX E s a w S ρ foot
def T.ofV1 (x:Value):T:= .v x
def T.ofV:Value→T
 | .agg cs=> .agg (cs.toList.map T.ofV1)
 |x=>T.ofV1 x
def St.eval (s:St):Operand→Option T
 | .tmp t=>lk t s.slots
 | .const v=>some (T.ofV v)
 | .func f=>some (.fn f [])
 | .global _=>none
section
variable {S:Nat→Prop} {w:World} {ρ:Nat→Option Hd}
theorem zLJ (x:Value):Rep S w ρ (T.ofV1 x) x []:=by
 simp only [T.ofV1,Rep];exact ⟨trivial,trivial⟩
theorem zHO (cell:Nat→Option Value):∀ (l:List Value) (o:Nat),(∀ i x,l[i]? =some x→cell (o+i)=some x)→RepRow S w ρ cell o (l.map T.ofV1) []
 |[],_,_=>by simp [RepRow]
 |x::l,o,h=>by
  simp only [List.map_cons,RepRow]
  refine ⟨x,[],[],by simpa using h 0 x rfl,zLJ x,zHO cell l (o+1) fun i y hy=> ?_,rfl⟩
  have:=h (i+1) y (by simpa using hy)
  rwa [show o+(i+1)=o+1+i from by omega] at this
theorem zAai (x:Value):Rep S w ρ (T.ofV x) x []:=by
 unfold T.ofV
 split
 ·rename_i cs
  simp only [Rep]
  exact ⟨cs,rfl,by simp,zHO _ _ _ (by simp)⟩
 ·exact zLJ x
end
theorem SimX.eval {E:Env} {s:St} {a:Act} {w:World} {S:Nat→Prop} {ρ:Nat→Option Hd} {foot:Nat→List Nat} (h:SimX E s a w S ρ foot) {x:Operand} {t:T} (hx:s.eval x=some t):
  Rep S w ρ t (a.eval x) []:=by
 cases x with
 |tmp n=>exact h.slots n t hx
 |const v=>simp only [St.eval,Option.some.injEq] at hx;subst hx;exact zAai v
 |func f=>simp only [St.eval,Option.some.injEq] at hx;subst hx;simp [Rep,RepRow,Act.eval]
 |global g=>simp [St.eval] at hx
def St.set (s:St) (d:Nat) (t:T):St:={ s with slots:=(d,t)::s.slots }
def St.put (s:St) (d:Option Nat) (t:T):St:=match d with|some d=>s.set d t|none=>s
mutual
def T.noMb (d:Nat):T→Bool
 | .ref id _ _=>id !=d
 | .ptr id _ _=>id !=d
 | .agg row=>zGq d row
 | .tup l=>zGq d l
 | .fn _ caps=>zGq d caps
 | .any=>true
 | .v _=>true
 | .sl _ _ _=>true
 | .bo _ _ _=>true
def zGq (d:Nat):List T→Bool
 |[]=>true
 |t::ts=>t.noMb d&&zGq d ts
end
mutual
theorem T.noMb_iff (d:Nat):∀ t:T,t.noMb d=true↔t.noM d
 | .ref _ _ _=>by simp [T.noMb,T.noM]
 | .ptr _ _ _=>by simp [T.noMb,T.noM]
 | .agg row=>by simp only [T.noMb,T.noM];exact zF0 d row
 | .tup l=>by simp only [T.noMb,T.noM];exact zF0 d l
 | .fn _ caps=>by simp only [T.noMb,T.noM];exact zF0 d caps
 | .any=>by simp [T.noMb,T.noM]
 | .v _=>by simp [T.noMb,T.noM]
 | .sl _ _ _=>by simp [T.noMb,T.noM]
 | .bo _ _ _=>by simp [T.noMb,T.noM]
theorem zF0 (d:Nat):∀ l:List T,zGq d l=true↔zAD d l
 |[]=>by simp [zGq,zAD]
 |t::ts=>by simp only [zGq,zAD,Bool.and_eq_true,T.noMb_iff d t,zF0 d ts]
end
def kill (d:Nat):List (Nat×T)→List (Nat×T)
 |[]=>[]
 |(n,t)::r=>(n,bif t.noMb d then t else .any)::kill d r
theorem zNL (d n:Nat) (t:T):∀ l:List (Nat×T),lk n (kill d l)=some t→t= .any∨(lk n l=some t∧t.noM d)
 |[],h=>by simp [kill,lk] at h
 |(m,u)::r,h=>by
  simp only [kill,lk] at h ⊢
  split at h
  ·rename_i hm
   simp only [Option.some.injEq] at h
   cases hb:u.noMb d with
   |true=>rw [hb,cond_true] at h;subst h;exact .inr ⟨by simp [hm],(T.noMb_iff d u).1 hb⟩
   |false=>rw [hb,cond_false] at h;exact .inl h.symm
  ·rename_i hm
   simp only [hm,if_false]
   exact zNL d n t r h
def zAk (d:Nat):List (Nat×Ob)→Prop
 |[]=>True
 |(m,ob)::r=>(m=d∨zAy d ob.rows)∧zAk d r
theorem zEK {d:Nat}:∀ {l:List (Nat×Ob)},zAk d l→∀ m ob,lk m l=some ob→m≠d→zAy d ob.rows
 |[],_,_,_,h,_=>by simp [lk] at h
 |(m',ob')::r,hn,m,ob,h,hm=>by
  simp only [lk] at h
  simp only [zAk] at hn
  split at h
  ·rename_i e
   simp only [Option.some.injEq] at h
   subst h e
   exact hn.1.resolve_left hm
  ·exact zEK hn.2 m ob h hm
def St.new (s:St) (d:Nat) (ob:Ob):St:={ slots:=kill d s.slots,objs:=(d,ob)::s.objs }
def del (d:Nat):List (Nat×Ob)→List (Nat×Ob)
 |[]=>[]
 |(m,ob)::r=>if m=d then del d r else (m,ob)::del d r
theorem zB1 (d m:Nat) (ob:Ob):∀ l:List (Nat×Ob),lk m (del d l)=some ob↔(m≠d∧lk m l=some ob)
 |[]=>by simp [del,lk]
 |(n,o)::r=>by
  simp only [del]
  split
  ·rename_i e
   subst e
   rw [zB1 n m ob r]
   simp only [lk]
   constructor
   ·rintro ⟨h1,h2⟩;exact ⟨h1,by rw [if_neg (Ne.symm h1)];exact h2⟩
   ·rintro ⟨h1,h2⟩;rw [if_neg (Ne.symm h1)] at h2;exact ⟨h1,h2⟩
  ·rename_i e
   simp only [lk]
   split
   ·rename_i e2
    subst e2
    simp [e]
   ·exact zB1 d m ob r
def St.del (s:St) (d:Nat):St:={ s with objs:=Am.del d s.objs }
def St.upd (s:St) (d:Nat) (ob:Ob):St:={ s with objs:=(d,ob)::s.objs }
section
variable {E:Env} {s:St} {a:Act} {w:World} {S:Nat→Prop} {ρ:Nat→Option Hd} {foot:Nat→List Nat}
theorem zQA (a:Act) (d n:Nat) (y:Value) (hd:d<a.tmps.size):(a.put (some d) y).tmps.getD n undef=if d=n then y else a.tmps.getD n undef:=by
 simp only [Act.put,Array.getD_eq_getD_getElem?,Array.getElem?_setIfInBounds]
 split
 ·rename_i e;subst e;simp
 ·rfl
theorem SimX.set (h:SimX E s a w S ρ foot) {d:Nat} (hd:d<E.nt) {t:T} {y:Value} (hr:Rep S w ρ t y []):SimX E (s.set d t) (a.put (some d) y) w S ρ foot where
 nt:=by simp [Act.put,h.nt]
 defers:=by simp [Act.put,h.defers]
 slots:=fun n u hn=>by
  rw [zQA a d n y (h.nt▸hd)]
  simp only [St.set,lk] at hn
  split at hn
  ·rename_i e;simp only [Option.some.injEq] at hn;subst hn;rw [if_pos e];exact hr
  ·rename_i e;rw [if_neg e];exact h.slots n u hn
 objs:=h.objs
 nodup:=h.nodup
 apart:=h.apart
 mine:=h.mine
 shared:=h.shared
 S0:=h.S0
 kept:=h.kept
 pins:=h.pins
theorem SimX.put (h:SimX E s a w S ρ foot) {d:Option Nat} (hd:∀ n,d=some n→n<E.nt) {t:T} {y:Value} (hr:Rep S w ρ t y []):SimX E (s.put d t) (a.put d y) w S ρ foot:=by
 cases d with
 |none=>exact h
 |some d=>exact h.set (hd d rfl) hr
theorem SimX.world (h:SimX E s a w S ρ foot) {w':World} (hk:Kept E.F0 E.w0 w') (hs:w.heap.size≤w'.heap.size)
  (hb:∀ b,b<w.heap.size→(S b∨∃ d ob,lk d s.objs=some ob∧b∈foot d)→w'.heap[b]? =w.heap[b]?):SimX E s a w' S ρ foot where
 nt:=h.nt
 defers:=h.defers
 slots:=fun n t hn=>zFY t (h.slots n t hn) fun b hbb=>by
  rcases hbb with hbb|hbb
  ·simp at hbb
  ·exact hb b (h.shared b hbb).1 (.inl hbb)
 objs:=fun d ob hd=>by
  obtain ⟨hdr,e1,e2,e3⟩:=h.objs d ob hd
  refine ⟨hdr,e1,e2, ?_⟩
  rcases e3 with e3|⟨b,off,arr,el,fr,Fs,f1,f2,f3,f4,f5,f6,f7⟩
  ·exact .inl e3
  ·have m:∀ c,c∈foot d→w'.heap[c]? =w.heap[c]? :=fun c hc=>hb c (h.mine d ob hd c hc).2.1 (.inr ⟨d,ob,hd,hc⟩)
   refine .inr ⟨b,off,arr,el,fr,Fs,f1,by rw [m b (by simp [f7])];exact f2,f3,f4,f5,zCi _ f6 (fun c hc=> ?_),f7⟩
   rcases hc with hc|hc
   ·exact m c (by simp [f7,hc])
   ·exact hb c (h.shared c hc).1 (.inl hc)
 nodup:=h.nodup
 apart:=h.apart
 mine:=fun d ob hd b hbb=>let ⟨x,y,z⟩:=h.mine d ob hd b hbb;⟨x,by omega,z⟩
 shared:=fun b hbb=>let ⟨y,z⟩:=h.shared b hbb;⟨by omega,z⟩
 S0:=h.S0
 kept:=hk
 pins:=fun p hp=>zFY p.1 (h.pins p hp) fun b hbb=>by
  rcases hbb with hbb|hbb
  ·cases hbb
  ·exact hb b (h.shared b hbb).1 (.inl hbb)
theorem Kept.alloc {F0:List Nat} {w0 w:World} (h:Kept F0 w0 w) (o:Obj) (n:Nat):Kept F0 w0 { w with heap:=w.heap.push o,drawn:=n }:=by
 refine ⟨h.os,h.tape,h.output,by have:=h.size;simp;omega,fun b hb hf=> ?_,fun b arr el fr hb=> ?_⟩
 ·have:=h.size
  simp only [Array.getElem?_push]
  rw [if_neg (by omega)]
  exact h.block b hb hf
 ·obtain ⟨arr',fr',h1,h2⟩:=h.sizes b arr el fr hb
  have:=(Array.getElem?_eq_some_iff.1 h1).1
  refine ⟨arr',fr', ?_,h2⟩
  simp only [Array.getElem?_push]
  rw [if_neg (by omega)]
  exact h1
theorem Kept.drawn {F0:List Nat} {w0 w:World} (h:Kept F0 w0 w) (n:Nat):Kept F0 w0 { w with drawn:=n }:=⟨h.os,h.tape,h.output,h.size,h.block,h.sizes⟩
theorem Kept.setBlock {F0:List Nat} {w0 w:World} (h:Kept F0 w0 w) {b:Nat} {arr arr':Array Value} {el:TypeId} {fr fr':Nat×Nat} (hb:w.heap[b]? =some (.cells arr el fr)) (hs:arr'.size=arr.size) (hm:b∈F0∨w0.heap.size≤b):
  Kept F0 w0 { w with heap:=w.heap.setIfInBounds b (.cells arr' el fr') }:=by
 have hlt:=(Array.getElem?_eq_some_iff.1 hb).1
 have hne:∀ c,c≠b→({ w with heap:=w.heap.setIfInBounds b (.cells arr' el fr') }:World).heap[c]? =w.heap[c]? :=fun c hc=>by
  simp only [Array.getElem?_setIfInBounds];rw [if_neg (Ne.symm hc)]
 refine ⟨h.os,h.tape,h.output,by simpa using h.size,fun c hc hf=> ?_,fun c arr0 el0 fr0 hc=> ?_⟩
 ·rw [hne c (fun e=>by subst e;rcases hm with hm|hm;exact hf hm;omega)]
  exact h.block c hc hf
 ·obtain ⟨arr1,fr1,h1,h2⟩:=h.sizes c arr0 el0 fr0 hc
  by_cases e:c=b
  ·subst e
   rw [hb] at h1;simp only [Option.some.injEq,Obj.cells.injEq] at h1
   obtain ⟨rfl,rfl,rfl⟩:=h1
   exact ⟨arr',fr',by simp [hlt],by rw [hs,h2]⟩
  ·exact ⟨arr1,fr1,by rw [hne c e];exact h1,h2⟩
theorem SimX.drawn (h:SimX E s a w S ρ foot) (n:Nat):SimX E s a { w with drawn:=n } S ρ foot:=h.world (h.kept.drawn n) (Nat.le_refl _) (fun _ _ _=>rfl)
theorem SimX.alloc (h:SimX E s a w S ρ foot) (o:Obj) (n:Nat):SimX E s a { w with heap:=w.heap.push o,drawn:=n } S ρ foot:=
 h.world (h.kept.alloc o n) (by simp) (fun b hb _=>by simp only [Array.getElem?_push];rw [if_neg (by omega)])
theorem SimX.new (h:SimX E s a w S ρ foot) {d:Nat} {ob:Ob} {hd:Hd} {F:List Nat} (hp:E.okd d) (hno:zAk d s.objs)
  (hself:zAy d ob.rows) (hr:zFZ S w ρ ob hd F) (hnd:F.Nodup) (hmine:∀ b,b∈F→¬ S b∧b<w.heap.size∧(b∈E.F0∨E.w0.heap.size≤b))
  (hap:∀ d' ob',lk d' s.objs=some ob'→d'≠d→∀ b,b∈F→b∉foot d'):
  SimX E (s.new d ob) a w S (fun i=>if i=d then some hd else ρ i) (fun i=>if i=d then F else foot i) where
 nt:=h.nt
 defers:=h.defers
 slots:=fun n t hn=>by
  simp only [St.new] at hn
  rcases zNL d n t _ hn with rfl|⟨h1,h2⟩
  ·simp [Rep]
  ·exact zKS d (fun i hi=>by simp [hi]) t h2 (h.slots n t h1)
 objs:=fun d' ob' hl=>by
  simp only [St.new,lk] at hl
  have hrho:∀ ob1 hd1 F1,zAy d ob1.rows→zFZ S w ρ ob1 hd1 F1→zFZ S w (fun i=>if i=d then some hd else ρ i) ob1 hd1 F1:=by
   rintro ob1 hd1 F1 hm ⟨e2,e3⟩
   refine ⟨e2, ?_⟩
   rcases e3 with e3|⟨b,off,arr,el,fr,Fs,f1,f2,f3,f4,f5,f6,f7⟩
   ·exact .inl e3
   ·exact .inr ⟨b,off,arr,el,fr,Fs,f1,f2,f3,f4,f5,zHN d (fun i hi=>by simp [hi]) _ hm f6,f7⟩
  split at hl
  ·rename_i e
   simp only [Option.some.injEq] at hl
   subst hl e
   exact ⟨hd,by simp,by simpa using hrho _ _ _ hself hr⟩
  ·rename_i e
   obtain ⟨hdr,e1,e2⟩:=h.objs d' ob' hl
   refine ⟨hdr,by simp [Ne.symm e,e1], ?_⟩
   have:=hrho _ _ _ (zEK hno d' ob' hl (Ne.symm e)) e2
   simpa [Ne.symm e] using this
 nodup:=fun d' ob' hl=>by
  simp only [St.new,lk] at hl
  by_cases e:d=d'
  ·simp [e.symm,hnd]
  ·rw [if_neg e] at hl;simp only [if_neg (Ne.symm e)];exact h.nodup d' ob' hl
 apart:=fun d1 ob1 d2 ob2 h1 h2 hne b hb=>by
  simp only [St.new,lk] at h1 h2
  by_cases e1:d1=d
  ·rw [if_pos e1] at hb
   have e2:d2≠d:=fun e2=>hne (by rw [e1,e2])
   rw [if_neg (Ne.symm e2)] at h2
   rw [if_neg e2]
   exact hap d2 ob2 h2 e2 b hb
  ·rw [if_neg (Ne.symm e1)] at h1
   rw [if_neg e1] at hb
   by_cases e2:d2=d
   ·rw [if_pos e2]
    exact fun hb2=>hap d1 ob1 h1 e1 b hb2 hb
   ·rw [if_neg (Ne.symm e2)] at h2
    rw [if_neg e2]
    exact h.apart d1 ob1 d2 ob2 h1 h2 hne b hb
 mine:=fun d' ob' hl b hb=>by
  simp only [St.new,lk] at hl
  by_cases e:d'=d
  ·rw [if_pos e] at hb;exact hmine b hb
  ·rw [if_neg (Ne.symm e)] at hl;rw [if_neg e] at hb;exact h.mine d' ob' hl b hb
 shared:=h.shared
 S0:=h.S0
 kept:=h.kept
 pins:=fun p hpp=>zKS d (fun i hi=>by simp [hi]) p.1 (hp p hpp) (h.pins p hpp)
theorem SimX.del (h:SimX E s a w S ρ foot) (d:Nat):SimX E (s.del d) a w S ρ foot where
 nt:=h.nt
 defers:=h.defers
 slots:=h.slots
 objs:=fun d' ob' hl=>h.objs d' ob' ((zB1 _ _ _ _).1 hl).2
 nodup:=fun d' ob' hl=>h.nodup d' ob' ((zB1 _ _ _ _).1 hl).2
 apart:=fun d1 ob1 d2 ob2 h1 h2=>h.apart d1 ob1 d2 ob2 ((zB1 _ _ _ _).1 h1).2 ((zB1 _ _ _ _).1 h2).2
 mine:=fun d' ob' hl=>h.mine d' ob' ((zB1 _ _ _ _).1 hl).2
 shared:=h.shared
 S0:=h.S0
 kept:=h.kept
 pins:=h.pins
end
end Go.Am

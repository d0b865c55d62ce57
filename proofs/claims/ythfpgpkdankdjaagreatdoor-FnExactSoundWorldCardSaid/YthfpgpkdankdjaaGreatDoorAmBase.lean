import Derived.Below
import Derived.Deep.Quiet
import Derived.KernelRfl
set_option linter.all false
namespace Go.Am
open Go Go.RowKit
inductive T where
 |any
 |v (x:Value)
 |agg (row:List T)
 |tup (l:List T)
 |sl (own:Bool) (k:Nat) (rows:List (List T))
 |bo (own:Bool) (row:List T) (o:Nat)
 |ref (id lo n:Nat)
 |ptr (id i o:Nat)
 |fn (f:Nat) (caps:List T)
 deriving Inhabited
abbrev T.bx (own:Bool) (row:List T):T:= .bo own row 0
structure Hd where
 a:Option (Nat×Nat)
 cap:Nat
 k:Nat
def noH:Nat→Option Hd:=fun _=>none
def zIg (arr:Array Value) (fr:Nat×Nat):Prop:=∀ i,i≤arr.size→¬ (fr.1≤i∧i<fr.2)
def Held (S:Nat→Prop) (own:Bool) (b:Nat) (Fs:List Nat) (arr:Array Value) (fr:Nat×Nat) (F:List Nat):Prop:=
 match own with
 |true=>F=b::Fs∧zIg arr fr
 |false=>F=[]∧S b∧∀ c∈Fs,S c
mutual
def Rep (S:Nat→Prop) (w:World) (ρ:Nat→Option Hd):T→Value→List Nat→Prop
 | .any,_,F=>F=[]
 | .v x,y,F=>y=x∧F=[]
 | .agg row,y,F=>∃ cs:Array Value,y= .agg cs∧cs.size=row.length∧RepRow S w ρ (fun i=>cs[i]?) 0 row F
 | .tup l,y,F=>∃ vs:Array Value,y= .tuple vs∧vs.size=l.length∧RepRow S w ρ (fun i=>vs[i]?) 0 l F
 | .sl own k rows,y,F=>∃ a cap,y= .slice a rows.length cap∧
   ((cap=0∧rows=[]∧F=[])∨
    ∃ b off arr el fr Fs,a=some ⟨b,off,none⟩∧w.heap[b]? =some (.cells arr el fr)∧rows.length≤cap∧off+cap*k≤arr.size∧
     zAb S w noH (fun i=>arr[i]?) off k rows Fs∧Held S own b Fs arr fr F)
 | .bo own row o,y,F=>∃ b off arr el fr Fs,y= .pointer (some ⟨b,off+o,none⟩)∧w.heap[b]? =some (.cells arr el fr)∧off+row.length≤arr.size∧
   RepRow S w noH (fun i=>arr[i]?) off row Fs∧Held S own b Fs arr fr F
 | .ref id lo n,y,F=>F=[]∧∃ hd a c,ρ id=some hd∧y= .slice a n c∧lo+c=hd.cap∧n≤c∧
   (c=0∨∃ b off,hd.a=some (b,off)∧a=some ⟨b,off+lo*hd.k,none⟩)
 | .ptr id i o,y,F=>F=[]∧∃ hd b off,ρ id=some hd∧hd.a=some (b,off)∧y= .pointer (some ⟨b,off+i*hd.k+o,none⟩)
 | .fn f caps,y,F=>∃ cv:Array Value,y= .func (.func f) #[] cv∧cv.size=caps.length∧RepRow S w ρ (fun i=>cv[i]?) 0 caps F
def RepRow (S:Nat→Prop) (w:World) (ρ:Nat→Option Hd) (cell:Nat→Option Value) (o:Nat):List T→List Nat→Prop
 |[],F=>F=[]
 |t::ts,F=>∃ y F1 F2,cell o=some y∧Rep S w ρ t y F1∧RepRow S w ρ cell (o+1) ts F2∧F=F1++F2
def zAb (S:Nat→Prop) (w:World) (ρ:Nat→Option Hd) (cell:Nat→Option Value) (o k:Nat):List (List T)→List Nat→Prop
 |[],F=>F=[]
 |r::rs,F=>∃ F1 F2,r.length=k∧RepRow S w ρ cell o r F1∧zAb S w ρ cell (o+k) k rs F2∧F=F1++F2
end
theorem Held.sub {S:Nat→Prop} {own:Bool} {b:Nat} {Fs:List Nat} {arr:Array Value} {fr:Nat×Nat} {F:List Nat} (h:Held S own b Fs arr fr F):
  ∀ c,c=b∨c∈Fs→c∈F∨S c:=by
 intro c hc
 cases own with
 |true=>
  obtain ⟨rfl,_⟩:=h
  rcases hc with rfl|hc
  ·exact .inl (List.mem_cons_self ..)
  ·exact .inl (List.mem_cons_of_mem _ hc)
 |false=>
  obtain ⟨_,h1,h2⟩:=h
  rcases hc with rfl|hc
  ·exact .inr h1
  ·exact .inr (h2 c hc)
section frame
variable {S:Nat→Prop} {w w':World}
mutual
theorem zFY:∀ {ρ:Nat→Option Hd} (t:T) {y:Value} {F:List Nat},Rep S w ρ t y F→(∀ b,b∈F∨S b→w'.heap[b]? =w.heap[b]?)→Rep S w' ρ t y F
 |_, .any,_,_,h,_=>h
 |_, .v _,_,_,h,_=>h
 |_, .agg row,_,_,h,hw=>by
  simp only [Rep] at h ⊢
  obtain ⟨cs,h1,h2,h3⟩:=h
  exact ⟨cs,h1,h2,zBa row h3 hw⟩
 |_, .tup l,_,_,h,hw=>by
  simp only [Rep] at h ⊢
  obtain ⟨cs,h1,h2,h3⟩:=h
  exact ⟨cs,h1,h2,zBa l h3 hw⟩
 |_, .sl own k rows,_,_,h,hw=>by
  simp only [Rep] at h ⊢
  obtain ⟨a,cap,h1,h2⟩:=h
  refine ⟨a,cap,h1, ?_⟩
  rcases h2 with h2|⟨b,off,arr,el,fr,Fs,h3,h4,h5,h6,h7,h8⟩
  ·exact .inl h2
  ·have hs:=h8.sub
   exact .inr ⟨b,off,arr,el,fr,Fs,h3,by rw [hw b (hs b (.inl rfl))];exact h4,h5,h6,
    zCi rows h7 (fun c hc=>hw c (hc.elim (fun h=>hs c (.inr h)) .inr)),h8⟩
 |_, .bo own row _,_,_,h,hw=>by
  simp only [Rep] at h ⊢
  obtain ⟨b,off,arr,el,fr,Fs,h3,h4,h5,h7,h8⟩:=h
  have hs:=h8.sub
  exact ⟨b,off,arr,el,fr,Fs,h3,by rw [hw b (hs b (.inl rfl))];exact h4,h5,
    zBa row h7 (fun c hc=>hw c (hc.elim (fun h=>hs c (.inr h)) .inr)),h8⟩
 |_, .ref _ _ _,_,_,h,_=>h
 |_, .ptr _ _ _,_,_,h,_=>h
 |_, .fn _ caps,_,_,h,hw=>by
  simp only [Rep] at h ⊢
  obtain ⟨cs,h1,h2,h3⟩:=h
  exact ⟨cs,h1,h2,zBa caps h3 hw⟩
theorem zBa:∀ {ρ:Nat→Option Hd} {cell:Nat→Option Value} {o:Nat} (l:List T) {F:List Nat},RepRow S w ρ cell o l F→(∀ b,b∈F∨S b→w'.heap[b]? =w.heap[b]?)→RepRow S w' ρ cell o l F
 |_,_,_,[],_,h,_=>h
 |_,_,_,t::ts,_,h,hw=>by
  simp only [RepRow] at h ⊢
  obtain ⟨y,F1,F2,h1,h2,h3,rfl⟩:=h
  exact ⟨y,F1,F2,h1,zFY t h2 (fun b hb=>hw b (hb.imp (List.mem_append_left _) id)),zBa ts h3 (fun b hb=>hw b (hb.imp (List.mem_append_right _) id)),rfl⟩
theorem zCi:∀ {ρ:Nat→Option Hd} {cell:Nat→Option Value} {o k:Nat} (l:List (List T)) {F:List Nat},zAb S w ρ cell o k l F→(∀ b,b∈F∨S b→w'.heap[b]? =w.heap[b]?)→zAb S w' ρ cell o k l F
 |_,_,_,_,[],_,h,_=>h
 |_,_,_,_,r::rs,_,h,hw=>by
  simp only [zAb] at h ⊢
  obtain ⟨F1,F2,h1,h2,h3,rfl⟩:=h
  exact ⟨F1,F2,h1,zBa r h2 (fun b hb=>hw b (hb.imp (List.mem_append_left _) id)),zCi rs h3 (fun b hb=>hw b (hb.imp (List.mem_append_right _) id)),rfl⟩
end
end frame
theorem Held.monoS {S S':Nat→Prop} {own:Bool} {b:Nat} {Fs:List Nat} {arr:Array Value} {fr:Nat×Nat} {F:List Nat} (h:Held S own b Fs arr fr F) (hS:∀ b,S b→S' b):Held S' own b Fs arr fr F:=by
 cases own with
 |true=>exact h
 |false=>exact ⟨h.1,hS _ h.2.1,fun c hc=>hS _ (h.2.2 c hc)⟩
section monoS
variable {S S':Nat→Prop} {w:World}
mutual
theorem zCP (hS:∀ b,S b→S' b):∀ {ρ:Nat→Option Hd} (t:T) {y:Value} {F:List Nat},Rep S w ρ t y F→Rep S' w ρ t y F
 |_, .any,_,_,h=>h
 |_, .v _,_,_,h=>h
 |_, .agg row,_,_,h=>by
  simp only [Rep] at h ⊢
  obtain ⟨cs,h1,h2,h3⟩:=h
  exact ⟨cs,h1,h2,zBF hS row h3⟩
 |_, .tup l,_,_,h=>by
  simp only [Rep] at h ⊢
  obtain ⟨cs,h1,h2,h3⟩:=h
  exact ⟨cs,h1,h2,zBF hS l h3⟩
 |_, .sl own k rows,_,_,h=>by
  simp only [Rep] at h ⊢
  obtain ⟨a,cap,h1,h2⟩:=h
  refine ⟨a,cap,h1, ?_⟩
  rcases h2 with h2|⟨b,off,arr,el,fr,Fs,h3,h4,h5,h6,h7,h8⟩
  ·exact .inl h2
  ·exact .inr ⟨b,off,arr,el,fr,Fs,h3,h4,h5,h6,zEq hS rows h7,h8.monoS hS⟩
 |_, .bo own row _,_,_,h=>by
  simp only [Rep] at h ⊢
  obtain ⟨b,off,arr,el,fr,Fs,h3,h4,h5,h7,h8⟩:=h
  exact ⟨b,off,arr,el,fr,Fs,h3,h4,h5,zBF hS row h7,h8.monoS hS⟩
 |_, .ref _ _ _,_,_,h=>h
 |_, .ptr _ _ _,_,_,h=>h
 |_, .fn _ caps,_,_,h=>by
  simp only [Rep] at h ⊢
  obtain ⟨cs,h1,h2,h3⟩:=h
  exact ⟨cs,h1,h2,zBF hS caps h3⟩
theorem zBF (hS:∀ b,S b→S' b):∀ {ρ:Nat→Option Hd} {cell:Nat→Option Value} {o:Nat} (l:List T) {F:List Nat},RepRow S w ρ cell o l F→RepRow S' w ρ cell o l F
 |_,_,_,[],_,h=>h
 |_,_,_,t::ts,_,h=>by
  simp only [RepRow] at h ⊢
  obtain ⟨y,F1,F2,h1,h2,h3,rfl⟩:=h
  exact ⟨y,F1,F2,h1,zCP hS t h2,zBF hS ts h3,rfl⟩
theorem zEq (hS:∀ b,S b→S' b):∀ {ρ:Nat→Option Hd} {cell:Nat→Option Value} {o k:Nat} (l:List (List T)) {F:List Nat},zAb S w ρ cell o k l F→zAb S' w ρ cell o k l F
 |_,_,_,_,[],_,h=>h
 |_,_,_,_,r::rs,_,h=>by
  simp only [zAb] at h ⊢
  obtain ⟨F1,F2,h1,h2,h3,rfl⟩:=h
  exact ⟨F1,F2,h1,zBF hS r h2,zEq hS rs h3,rfl⟩
end
end monoS
mutual
def T.dsh:T→T
 | .sl _ k rows=> .sl false k (zBe rows)
 | .bo _ row o=> .bo false (zCA row) o
 | .agg row=> .agg (zCA row)
 | .tup l=> .tup (zCA l)
 | .fn f caps=> .fn f (zCA caps)
 | .any=> .any
 | .v x=> .v x
 | .ref id lo n=> .ref id lo n
 | .ptr id i o=> .ptr id i o
def zCA:List T→List T
 |[]=>[]
 |t::ts=>t.dsh::zCA ts
def zBe:List (List T)→List (List T)
 |[]=>[]
 |r::rs=>zCA r::zBe rs
end
theorem zCv:∀ l:List T,(zCA l).length=l.length
 |[]=>rfl
 |t::ts=>by simp [zCA,zCv ts]
theorem zCY:∀ l:List (List T),zBe l=l.map zCA
 |[]=>rfl
 |t::ts=>by simp [zBe,zCY ts]
theorem zDJ (l:List (List T)):(zBe l).length=l.length:=by simp [zCY]
theorem Held.dsh {S:Nat→Prop} {own:Bool} {b:Nat} {Fs:List Nat} {arr:Array Value} {fr:Nat×Nat} {F:List Nat} (h:Held S own b Fs arr fr F) (hF:∀ c,c∈F→S c):Held S false b [] arr fr []∧∀ c,c∈Fs→S c:=by
 cases own with
 |true=>
  obtain ⟨rfl,_⟩:=h
  exact ⟨⟨rfl,hF b (List.mem_cons_self ..),by simp⟩,fun c hc=>hF c (List.mem_cons_of_mem _ hc)⟩
 |false=>exact ⟨⟨rfl,h.2.1,by simp⟩,h.2.2⟩
section dsh
variable {S:Nat→Prop} {w:World}
mutual
theorem zKR:∀ {ρ:Nat→Option Hd} (t:T) {y:Value} {F:List Nat},Rep S w ρ t y F→(∀ c,c∈F→S c)→Rep S w ρ t.dsh y []
 |_, .any,_,_,_,_=>by simp only [Rep,T.dsh]
 |_, .v _,_,_,h,_=>by simp only [Rep,T.dsh] at h ⊢;exact ⟨h.1,trivial⟩
 |_, .agg row,_,_,h,hF=>by
  simp only [Rep,T.dsh] at h ⊢
  obtain ⟨cs,h1,h2,h3⟩:=h
  exact ⟨cs,h1,by rw [zCv];exact h2,zCQ row h3 hF⟩
 |_, .tup l,_,_,h,hF=>by
  simp only [Rep,T.dsh] at h ⊢
  obtain ⟨cs,h1,h2,h3⟩:=h
  exact ⟨cs,h1,by rw [zCv];exact h2,zCQ l h3 hF⟩
 |_, .sl own k rows,_,_,h,hF=>by
  simp only [Rep,T.dsh] at h ⊢
  obtain ⟨a,cap,h1,h2⟩:=h
  refine ⟨a,cap,by rw [zDJ];exact h1, ?_⟩
  rcases h2 with ⟨h2,h3,h4⟩|⟨b,off,arr,el,fr,Fs,h3,h4,h5,h6,h7,h8⟩
  ·subst h3;exact .inl ⟨h2,rfl,trivial⟩
  ·obtain ⟨e1,e2⟩:=h8.dsh hF
   exact .inr ⟨b,off,arr,el,fr,[],h3,h4,by rw [zDJ];exact h5,h6,zHM rows h7 e2,e1⟩
 |_, .bo own row _,_,_,h,hF=>by
  simp only [Rep,T.dsh] at h ⊢
  obtain ⟨b,off,arr,el,fr,Fs,h3,h4,h5,h7,h8⟩:=h
  obtain ⟨e1,e2⟩:=h8.dsh hF
  exact ⟨b,off,arr,el,fr,[],h3,h4,by rw [zCv];exact h5,zCQ row h7 e2,e1⟩
 |_, .ref _ _ _,_,_,h,_=>by simp only [Rep,T.dsh] at h ⊢;exact ⟨trivial,h.2⟩
 |_, .ptr _ _ _,_,_,h,_=>by simp only [Rep,T.dsh] at h ⊢;exact ⟨trivial,h.2⟩
 |_, .fn _ caps,_,_,h,hF=>by
  simp only [Rep,T.dsh] at h ⊢
  obtain ⟨cs,h1,h2,h3⟩:=h
  exact ⟨cs,h1,by rw [zCv];exact h2,zCQ caps h3 hF⟩
theorem zCQ:∀ {ρ:Nat→Option Hd} {cell:Nat→Option Value} {o:Nat} (l:List T) {F:List Nat},RepRow S w ρ cell o l F→(∀ c,c∈F→S c)→RepRow S w ρ cell o (zCA l) []
 |_,_,_,[],_,_,_=>by simp only [RepRow,zCA]
 |_,_,_,t::ts,_,h,hF=>by
  simp only [RepRow,zCA] at h ⊢
  obtain ⟨y,F1,F2,h1,h2,h3,rfl⟩:=h
  exact ⟨y,[],[],h1,zKR t h2 (fun c hc=>hF c (List.mem_append_left _ hc)),zCQ ts h3 (fun c hc=>hF c (List.mem_append_right _ hc)),rfl⟩
theorem zHM:∀ {ρ:Nat→Option Hd} {cell:Nat→Option Value} {o k:Nat} (l:List (List T)) {F:List Nat},zAb S w ρ cell o k l F→(∀ c,c∈F→S c)→zAb S w ρ cell o k (zBe l) []
 |_,_,_,_,[],_,_,_=>by simp only [zAb,zBe]
 |_,_,_,_,r::rs,_,h,hF=>by
  simp only [zAb,zBe] at h ⊢
  obtain ⟨F1,F2,h0,h1,h2,rfl⟩:=h
  exact ⟨[],[],by rw [zCv];exact h0,zCQ r h1 (fun c hc=>hF c (List.mem_append_left _ hc)),zHM rs h2 (fun c hc=>hF c (List.mem_append_right _ hc)),rfl⟩
end
end dsh
mutual
def T.noSh:T→Prop
 | .any=>True
 | .v _=>True
 | .agg row=>zEH row
 | .tup l=>zEH l
 | .sl own _ rows=>own=true∧zDr rows
 | .bo own row _=>own=true∧zEH row
 | .ref _ _ _=>True
 | .ptr _ _ _=>True
 | .fn _ caps=>zEH caps
def zEH:List T→Prop
 |[]=>True
 |t::ts=>t.noSh∧zEH ts
def zDr:List (List T)→Prop
 |[]=>True
 |t::ts=>zEH t∧zDr ts
end
section noSh
variable {S S':Nat→Prop} {w:World}
mutual
theorem zLH:∀ {ρ:Nat→Option Hd} (t:T) {y:Value} {F:List Nat},t.noSh→Rep S w ρ t y F→Rep S' w ρ t y F
 |_, .any,_,_,_,h=>h
 |_, .v _,_,_,_,h=>h
 |_, .agg row,_,_,hn,h=>by
  simp only [Rep,T.noSh] at h hn ⊢
  obtain ⟨cs,h1,h2,h3⟩:=h
  exact ⟨cs,h1,h2,zDv row hn h3⟩
 |_, .tup l,_,_,hn,h=>by
  simp only [Rep,T.noSh] at h hn ⊢
  obtain ⟨cs,h1,h2,h3⟩:=h
  exact ⟨cs,h1,h2,zDv l hn h3⟩
 |_, .sl own k rows,_,_,hn,h=>by
  simp only [Rep,T.noSh] at h hn ⊢
  obtain ⟨rfl,hn⟩:=hn
  obtain ⟨a,cap,h1,h2⟩:=h
  refine ⟨a,cap,h1, ?_⟩
  rcases h2 with h2|⟨b,off,arr,el,fr,Fs,h3,h4,h5,h6,h7,h8⟩
  ·exact .inl h2
  ·exact .inr ⟨b,off,arr,el,fr,Fs,h3,h4,h5,h6,zJI rows hn h7,h8⟩
 |_, .bo own row _,_,_,hn,h=>by
  simp only [Rep,T.noSh] at h hn ⊢
  obtain ⟨rfl,hn⟩:=hn
  obtain ⟨b,off,arr,el,fr,Fs,h3,h4,h5,h7,h8⟩:=h
  exact ⟨b,off,arr,el,fr,Fs,h3,h4,h5,zDv row hn h7,h8⟩
 |_, .ref _ _ _,_,_,_,h=>h
 |_, .ptr _ _ _,_,_,_,h=>h
 |_, .fn _ caps,_,_,hn,h=>by
  simp only [Rep,T.noSh] at h hn ⊢
  obtain ⟨cs,h1,h2,h3⟩:=h
  exact ⟨cs,h1,h2,zDv caps hn h3⟩
theorem zDv:∀ {ρ:Nat→Option Hd} {cell:Nat→Option Value} {o:Nat} (l:List T) {F:List Nat},zEH l→RepRow S w ρ cell o l F→RepRow S' w ρ cell o l F
 |_,_,_,[],_,_,h=>h
 |_,_,_,t::ts,_,hn,h=>by
  simp only [RepRow,zEH] at h hn ⊢
  obtain ⟨y,F1,F2,h1,h2,h3,rfl⟩:=h
  exact ⟨y,F1,F2,h1,zLH t hn.1 h2,zDv ts hn.2 h3,rfl⟩
theorem zJI:∀ {ρ:Nat→Option Hd} {cell:Nat→Option Value} {o k:Nat} (l:List (List T)) {F:List Nat},zDr l→zAb S w ρ cell o k l F→zAb S' w ρ cell o k l F
 |_,_,_,_,[],_,_,h=>h
 |_,_,_,_,r::rs,_,hn,h=>by
  simp only [zAb,zDr] at h hn ⊢
  obtain ⟨F1,F2,h1,h2,h3,rfl⟩:=h
  exact ⟨F1,F2,h1,zDv r hn.1 h2,zJI rs hn.2 h3,rfl⟩
end
end noSh
mutual
def T.noM (d:Nat):T→Prop
 | .ref id _ _=>id≠d
 | .ptr id _ _=>id≠d
 | .agg row=>zAD d row
 | .tup l=>zAD d l
 | .fn _ caps=>zAD d caps
 | .any=>True
 | .v _=>True
 | .sl _ _ _=>True
 | .bo _ _ _=>True
def zAD (d:Nat):List T→Prop
 |[]=>True
 |t::ts=>t.noM d∧zAD d ts
end
def zAy (d:Nat) (l:List (List T)):Prop:=∀ r∈l,zAD d r
section noM
variable {S:Nat→Prop} {w:World} {ρ ρ':Nat→Option Hd}
mutual
theorem zKS (d:Nat) (hρ:∀ id,id≠d→ρ' id=ρ id):∀ (t:T) {y:Value} {F:List Nat},t.noM d→Rep S w ρ t y F→Rep S w ρ' t y F
 | .any,_,_,_,h=>h
 | .v _,_,_,_,h=>h
 | .agg row,_,_,hn,h=>by
  simp only [Rep,T.noM] at h hn ⊢
  obtain ⟨cs,h1,h2,h3⟩:=h
  exact ⟨cs,h1,h2,zEI d hρ row hn h3⟩
 | .tup l,_,_,hn,h=>by
  simp only [Rep,T.noM] at h hn ⊢
  obtain ⟨cs,h1,h2,h3⟩:=h
  exact ⟨cs,h1,h2,zEI d hρ l hn h3⟩
 | .sl _ _ _,_,_,_,h=>h
 | .bo _ _ _,_,_,_,h=>h
 | .ref id _ _,_,_,hn,h=>by
  simp only [Rep,T.noM] at h hn ⊢
  rw [hρ id hn];exact h
 | .ptr id _ _,_,_,hn,h=>by
  simp only [Rep,T.noM] at h hn ⊢
  rw [hρ id hn];exact h
 | .fn _ caps,_,_,hn,h=>by
  simp only [Rep,T.noM] at h hn ⊢
  obtain ⟨cs,h1,h2,h3⟩:=h
  exact ⟨cs,h1,h2,zEI d hρ caps hn h3⟩
theorem zEI (d:Nat) (hρ:∀ id,id≠d→ρ' id=ρ id):∀ {cell:Nat→Option Value} {o:Nat} (l:List T) {F:List Nat},zAD d l→RepRow S w ρ cell o l F→RepRow S w ρ' cell o l F
 |_,_,[],_,_,h=>h
 |_,_,t::ts,_,hn,h=>by
  simp only [RepRow,zAD] at h hn ⊢
  obtain ⟨y,F1,F2,h1,h2,h3,rfl⟩:=h
  exact ⟨y,F1,F2,h1,zKS d hρ t hn.1 h2,zEI d hρ ts hn.2 h3,rfl⟩
end
theorem zHN (d:Nat) (hρ:∀ id,id≠d→ρ' id=ρ id):∀ {cell:Nat→Option Value} {o k:Nat} (l:List (List T)) {F:List Nat},zAy d l→zAb S w ρ cell o k l F→zAb S w ρ' cell o k l F
 |_,_,_,[],_,_,h=>h
 |_,_,_,r::rs,_,hn,h=>by
  simp only [zAb] at h ⊢
  obtain ⟨F1,F2,h1,h2,h3,rfl⟩:=h
  exact ⟨F1,F2,h1,zEI d hρ r (hn r (List.mem_cons_self ..)) h2,zHN d hρ rs (fun x hx=>hn x (List.mem_cons_of_mem _ hx)) h3,rfl⟩
end noM
section noM2
variable {S:Nat→Prop} {w:World} {ρ ρ':Nat→Option Hd}
mutual
theorem zLI:∀ (t:T) {y:Value} {F:List Nat},(∀ d,¬ t.noM d→ρ' d=ρ d)→Rep S w ρ t y F→Rep S w ρ' t y F
 | .any,_,_,_,h=>h
 | .v _,_,_,_,h=>h
 | .agg row,_,_,hn,h=>by
  simp only [Rep] at h ⊢
  obtain ⟨cs,h1,h2,h3⟩:=h
  exact ⟨cs,h1,h2,zFL row (fun d hd=>hn d (by simpa only [T.noM] using hd)) h3⟩
 | .tup l,_,_,hn,h=>by
  simp only [Rep] at h ⊢
  obtain ⟨cs,h1,h2,h3⟩:=h
  exact ⟨cs,h1,h2,zFL l (fun d hd=>hn d (by simpa only [T.noM] using hd)) h3⟩
 | .sl _ _ _,_,_,_,h=>h
 | .bo _ _ _,_,_,_,h=>h
 | .ref id _ _,_,_,hn,h=>by
  simp only [Rep] at h ⊢
  rw [hn id (by simp [T.noM])];exact h
 | .ptr id _ _,_,_,hn,h=>by
  simp only [Rep] at h ⊢
  rw [hn id (by simp [T.noM])];exact h
 | .fn _ caps,_,_,hn,h=>by
  simp only [Rep] at h ⊢
  obtain ⟨cs,h1,h2,h3⟩:=h
  exact ⟨cs,h1,h2,zFL caps (fun d hd=>hn d (by simpa only [T.noM] using hd)) h3⟩
theorem zFL:∀ {cell:Nat→Option Value} {o:Nat} (l:List T) {F:List Nat},(∀ d,¬ zAD d l→ρ' d=ρ d)→RepRow S w ρ cell o l F→RepRow S w ρ' cell o l F
 |_,_,[],_,_,h=>h
 |_,_,t::ts,_,hn,h=>by
  simp only [RepRow] at h ⊢
  obtain ⟨y,F1,F2,h1,h2,h3,rfl⟩:=h
  exact ⟨y,F1,F2,h1,zLI t (fun d hd=>hn d (fun hm=>hd (by simp only [zAD] at hm;exact hm.1))) h2,zFL ts (fun d hd=>hn d (fun hm=>hd (by simp only [zAD] at hm;exact hm.2))) h3,rfl⟩
end
end noM2
def T.closed (t:T):Prop:=∀ d,t.noM d
mutual
def T.packed:T→Prop
 | .ref _ _ _=>False
 | .ptr _ _ _=>False
 | .agg row=>zAA row
 | .tup l=>zAA l
 | .fn _ caps=>zAA caps
 | .any=>True
 | .v _=>True
 | .sl _ _ _=>True
 | .bo _ _ _=>True
def zAA:List T→Prop
 |[]=>True
 |t::ts=>t.packed∧zAA ts
end
def zAv (l:List (List T)):Prop:=∀ r∈l,zAA r
section packed
variable {S:Nat→Prop} {w:World} {ρ ρ':Nat→Option Hd}
mutual
theorem zEJ:∀ (t:T) {y:Value} {F:List Nat},t.packed→Rep S w ρ t y F→Rep S w ρ' t y F
 | .any,_,_,_,h=>h
 | .v _,_,_,_,h=>h
 | .agg row,_,_,hn,h=>by
  simp only [Rep,T.packed] at h hn ⊢
  obtain ⟨cs,h1,h2,h3⟩:=h
  exact ⟨cs,h1,h2,zCj row hn h3⟩
 | .tup l,_,_,hn,h=>by
  simp only [Rep,T.packed] at h hn ⊢
  obtain ⟨cs,h1,h2,h3⟩:=h
  exact ⟨cs,h1,h2,zCj l hn h3⟩
 | .sl _ _ _,_,_,_,h=>h
 | .bo _ _ _,_,_,_,h=>h
 | .ref id _ _,_,_,hn,h=>by simp only [T.packed] at hn
 | .ptr id _ _,_,_,hn,h=>by simp only [T.packed] at hn
 | .fn _ caps,_,_,hn,h=>by
  simp only [Rep,T.packed] at h hn ⊢
  obtain ⟨cs,h1,h2,h3⟩:=h
  exact ⟨cs,h1,h2,zCj caps hn h3⟩
theorem zCj:∀ {cell:Nat→Option Value} {o:Nat} (l:List T) {F:List Nat},zAA l→RepRow S w ρ cell o l F→RepRow S w ρ' cell o l F
 |_,_,[],_,_,h=>h
 |_,_,t::ts,_,hn,h=>by
  simp only [RepRow,zAA] at h hn ⊢
  obtain ⟨y,F1,F2,h1,h2,h3,rfl⟩:=h
  exact ⟨y,F1,F2,h1,zEJ t hn.1 h2,zCj ts hn.2 h3,rfl⟩
end
theorem zDX:∀ {cell:Nat→Option Value} {o k:Nat} (l:List (List T)) {F:List Nat},zAv l→zAb S w ρ cell o k l F→zAb S w ρ' cell o k l F
 |_,_,_,[],_,_,h=>h
 |_,_,_,r::rs,_,hn,h=>by
  simp only [zAb] at h ⊢
  obtain ⟨F1,F2,h1,h2,h3,rfl⟩:=h
  exact ⟨F1,F2,h1,zCj r (hn r (List.mem_cons_self ..)) h2,zDX rs (fun x hx=>hn x (List.mem_cons_of_mem _ hx)) h3,rfl⟩
theorem zS5 {t:T} {y:Value} {F:List Nat} (h:Rep S w noH t y F):Rep S w ρ t y F:=by
 have key:∀ t:T,∀ y F,Rep S w noH t y F→t.packed:=by
  intro t
  refine T.rec (motive_1:=fun t=>∀ y F,Rep S w noH t y F→t.packed) (motive_2:=fun l=>∀ cell o F,RepRow S w noH cell o l F→zAA l)
   (motive_3:=fun _=>True) ?_ ?_ ?_ ?_ ?_ ?_ ?_ ?_ ?_ ?_ ?_ ?_ ?_ t
  ·intros;simp [T.packed]
  ·intros;simp [T.packed]
  ·intro row ih y F h;simp only [Rep,T.packed] at h ⊢;obtain ⟨cs,_,_,h⟩:=h;exact ih _ _ _ h
  ·intro row ih y F h;simp only [Rep,T.packed] at h ⊢;obtain ⟨cs,_,_,h⟩:=h;exact ih _ _ _ h
  ·intros;simp [T.packed]
  ·intros;simp [T.packed]
  ·intro id lo n y F h;simp [Rep,noH] at h
  ·intro id lo n y F h;simp [Rep,noH] at h
  ·intro f row ih y F h;simp only [Rep,T.packed] at h ⊢;obtain ⟨cs,_,_,h⟩:=h;exact ih _ _ _ h
  ·intros;simp [zAA]
  ·intro t ts ih1 ih2 cell o F h
   simp only [RepRow,zAA] at h ⊢
   obtain ⟨y,F1,F2,_,h1,h2,_⟩:=h
   exact ⟨ih1 _ _ h1,ih2 _ _ _ h2⟩
  ·trivial
  ·intros;trivial
 exact zEJ t (key t y F h) h
end packed
section rows
variable {S:Nat→Prop} {w:World} {ρ:Nat→Option Hd}
theorem zCp {cell:Nat→Option Value}:∀ (l:List T) (o:Nat) (F:List Nat),RepRow S w ρ cell o l F↔
  ∃ fs:List (List Nat),fs.length=l.length∧F=fs.flatten∧∀ i (t:T) (f:List Nat),l[i]? =some t→fs[i]? =some f→∃ y,cell (o+i)=some y∧Rep S w ρ t y f
 |[],o,F=>by
  simp only [RepRow]
  constructor
  ·rintro rfl;exact ⟨[],rfl,rfl,by simp⟩
  ·rintro ⟨fs,h1,rfl,_⟩;simp at h1;subst h1;rfl
 |t::ts,o,F=>by
  simp only [RepRow]
  constructor
  ·rintro ⟨y,F1,F2,h1,h2,h3,rfl⟩
   obtain ⟨fs,e1,rfl,e3⟩:=(zCp ts (o+1) F2).1 h3
   refine ⟨F1::fs,by simp [e1],by simp, ?_⟩
   intro i t' f hi hf
   cases i with
   |zero=>simp at hi hf;subst hi hf;exact ⟨y,h1,h2⟩
   |succ i=>
    simp at hi hf
    have:=e3 i t' f hi hf
    rwa [show o+1+i=o+(i+1) from by omega] at this
  ·rintro ⟨fs,e1,rfl,e3⟩
   cases fs with
   |nil=>simp at e1
   |cons f fs=>
    obtain ⟨y,h1,h2⟩:=e3 0 t f rfl rfl
    refine ⟨y,f,fs.flatten,h1,h2,(zCp ts (o+1) _).2 ⟨fs,by simpa using e1,rfl, ?_⟩,by simp⟩
    intro i t' f' hi hf
    have:=e3 (i+1) t' f' (by simpa using hi) (by simpa using hf)
    rwa [show o+(i+1)=o+1+i from by omega] at this
theorem zAr {cell:Nat→Option Value}:∀ (l m:List T) (o:Nat) (F:List Nat),RepRow S w ρ cell o (l++m) F↔
  ∃ F1 F2,RepRow S w ρ cell o l F1∧RepRow S w ρ cell (o+l.length) m F2∧F=F1++F2
 |[],m,o,F=>by
  simp only [List.nil_append,RepRow,List.length_nil,Nat.add_zero]
  constructor
  ·intro h;exact ⟨[],F,rfl,h,rfl⟩
  ·rintro ⟨F1,F2,rfl,h,rfl⟩;exact h
 |t::ts,m,o,F=>by
  simp only [List.cons_append,RepRow,List.length_cons]
  constructor
  ·rintro ⟨y,F1,F2,h1,h2,h3,rfl⟩
   obtain ⟨G1,G2,e1,e2,rfl⟩:=(zAr ts m (o+1) F2).1 h3
   rw [show o+1+ts.length=o+(ts.length+1) from by omega] at e2
   exact ⟨F1++G1,G2,⟨y,F1,G1,h1,h2,e1,rfl⟩,e2,by simp⟩
  ·rintro ⟨_,G2,⟨y,F1,G1,h1,h2,e1,rfl⟩,e2,rfl⟩
   rw [show o+(ts.length+1)=o+1+ts.length from by omega] at e2
   exact ⟨y,F1,G1++G2,h1,h2,(zAr ts m (o+1) _).2 ⟨G1,G2,e1,e2,rfl⟩,by simp⟩
theorem zAh {cell:Nat→Option Value} {k:Nat}:∀ (l:List (List T)) (o:Nat) (F:List Nat),zAb S w ρ cell o k l F↔
  (∀ r∈l,r.length=k)∧RepRow S w ρ cell o l.flatten F
 |[],o,F=>by simp [zAb,RepRow]
 |r::rs,o,F=>by
  simp only [zAb,List.flatten_cons,zAr,zAh rs]
  constructor
  ·rintro ⟨F1,F2,h1,h2,⟨h3,h4⟩,rfl⟩
   exact ⟨fun x hx=>(List.mem_cons.1 hx).elim (fun e=>e▸h1) (h3 x),F1,F2,h2,by rw [h1];exact h4,rfl⟩
  ·rintro ⟨h,F1,F2,h2,h4,rfl⟩
   have h1:=h r (List.mem_cons_self ..)
   exact ⟨F1,F2,h1,h2,⟨fun x hx=>h x (List.mem_cons_of_mem _ hx),by rw [←h1];exact h4⟩,rfl⟩
theorem zAM {cell cell':Nat→Option Value} {o o':Nat}:∀ (l:List T) {F:List Nat},RepRow S w ρ cell o l F→(∀ i,i<l.length→cell' (o'+i)=cell (o+i))→RepRow S w ρ cell' o' l F:=by
 intro l F h hc
 rw [zCp] at h ⊢
 obtain ⟨fs,e1,rfl,e3⟩:=h
 refine ⟨fs,e1,rfl,fun i t f hi hf=> ?_⟩
 obtain ⟨y,h1,h2⟩:=e3 i t f hi hf
 exact ⟨y,by rw [hc i (by have:=List.getElem?_eq_some_iff.1 hi;exact this.1)];exact h1,h2⟩
theorem zC4 {cell cell':Nat→Option Value} {o o' k:Nat} (l:List (List T)) {F:List Nat} (h:zAb S w ρ cell o k l F) (hc:∀ i,i<l.length*k→cell' (o'+i)=cell (o+i)):zAb S w ρ cell' o' k l F:=by
 rw [zAh] at h ⊢
 refine ⟨h.1,zAM _ h.2 fun i hi=>hc i ?_⟩
 have hl:l.flatten.length=l.length*k:=by
  have:=h.1
  clear h hc hi
  induction l with
  |nil=>simp
  |cons r rs ih=>simp [ih (fun x hx=>this x (List.mem_cons_of_mem _ hx)),this r (List.mem_cons_self ..),Nat.succ_mul,Nat.add_comm]
 omega
end rows
end Go.Am

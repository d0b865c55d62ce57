import Derived.Test.YthfpgpkdankdjaaGreatDoorAmRaw
import Derived.Shelf.Sort.Plain
set_option linter.all false
namespace Go.Am
open Go Go.RowKit Go.Proofs Go.Sort Go.Shelf
variable {P:Program} {w:World} {S:Nat→Prop} {ρ:Nat→Option Hd}
theorem zQl (w:World) (b:Nat) (f:Array Value→Array Value) (j:Nat):(mapBlock w b f).heap[j]? =if j=b then (w.heap[j]?).map (onCells f) else w.heap[j]? :=by
 unfold mapBlock
 simp only [Array.getElem?_modify]
 by_cases h:b=j
 ·subst h;simp
 ·simp [h,Ne.symm h]
theorem zJn {α:Type} {k:Nat} {f:α→Value} {cell:Nat→Option Value}:∀ (l:List α) (o:Nat) (F:List Nat),zAb S w ρ cell o 1 (l.map fun x=>[.v (f x)]) F↔(F=[]∧∀ i (h:i<l.length),cell (o+i)=some (f l[i]))
 |[],o,F=>by simp [zAb]
 |x::l,o,F=>by
  simp only [List.map_cons,zAb,RepRow,Rep]
  have ih:=zJn (k:=k) (f:=f) (cell:=cell) l (o+1)
  constructor
  ·rintro ⟨F1,F2,_,⟨y,G1,G2,h1,⟨rfl,rfl⟩,rfl,rfl⟩,h2,rfl⟩
   obtain ⟨rfl,h3⟩:=(ih _).1 h2
   refine ⟨rfl,fun i hi=> ?_⟩
   cases i with
   |zero=>simpa using h1
   |succ i=>have:=h3 i (by simpa using hi);rw [show o+1+i=o+(i+1) by omega] at this;simpa using this
  ·rintro ⟨rfl,h⟩
   refine ⟨[],[],rfl,⟨f x,[],[],(by have:=h 0 (Nat.succ_pos _);rw [Nat.add_zero] at this;exact this),⟨rfl,rfl⟩,rfl,rfl⟩,(ih []).2 ⟨rfl,fun i hi=> ?_⟩,rfl⟩
   have:=h (i+1) (by simpa using hi)
   rw [show o+1+i=o+(i+1) by omega];simpa using this
def sortL (l:List (List UInt8)):List (List UInt8):=l.mergeSort fun x y=>decide (x≤y)
theorem sort_str {f:Nat} (l:List (List UInt8)) (hne:l≠[])
  (hc:∀ (blk off cap:Nat) (w:World),Holds encStr w blk off l.toArray→blk<w.heap.size→Calls P f #[.slice (some ⟨blk,off,none⟩) l.length cap] w fun e w'=>e= .returned (.tuple #[])∧∃ n os,w'=grow (putRow encStr (Sort.ahead w n) blk off (sortL l).toArray) os):
  ACall P f [.sl true 1 (l.map fun x=>[.v (encStr x)])] (fun r a=>r= .tup []∧a=[.sl true 1 ((sortL l).map fun x=>[.v (encStr x)])]):=by
 intro w S0 F vs hsz hrep hnd hF hS0 hT
 have hlen:(sortL l).length=l.length:=by unfold sortL;simp
 simp only [RepRow,Rep] at hrep
 obtain ⟨y,F1,F2,c1,⟨a,cap,rfl,r1⟩,rfl,rfl⟩:=hrep
 rcases r1 with ⟨_,r1,_⟩|⟨b,off,arr,el,fr,Fs,rfl,hb,hcap,harr,hrows,hown⟩
 ·simp at r1;exact absurd r1 hne
 obtain ⟨rfl,ht⟩:=hown
 obtain ⟨rfl,hcell⟩:=(zJn (k:=1) l off Fs).1 hrows
 simp only [List.append_nil,List.length_map] at hF hcap hnd harr
 have hvs:vs= #[.slice (some ⟨b,off,none⟩) l.length cap]:=by
  have e:vs.size=1:=by simpa using hsz
  apply Array.ext
  ·simpa using e
  ·intro i h1 h2
   have:i=0:=by simp at h2;exact h2
   subst this
   have:=c1
   simp only [List.length_map] at this
   rw [Array.getElem?_eq_getElem (by omega)] at this
   simpa using this
 have hbs:b<w.heap.size:=(hF b (by simp)).2
 have hH:Holds encStr w b off l.toArray:=by
  intro j hj
  have hj':j<l.length:=by simpa using hj
  have h1:=hcell j hj'
  refine ⟨?_, ?_⟩
  ·simp only [World.cell?,hb]
   simp only [Option.isSome_none,Bool.false_eq_true,if_false]
   rw [h1];simp [hj',getElem!_pos]
  ·simp only [World.frozen?,hb]
   have:=ht (off+j) (by omega)
   simp only [Bool.and_eq_false_iff,decide_eq_false_iff_not]
   omega
 rw [hvs]
 refine (hc b off cap w hH hbs).mono ?_
 rintro e w' ⟨rfl,n,os,rfl⟩
 have hsz':(putRow encStr (Sort.ahead w n) b off (sortL l).toArray).heap.size=w.heap.size:=by rw [size_putRow];rfl
 have hget:∀ j,j<w.heap.size→(grow (putRow encStr (Sort.ahead w n) b off (sortL l).toArray) os).heap[j]? =if j=b then (w.heap[j]?).map (onCells (putCells encStr off (sortL l).toArray)) else w.heap[j]? :=by
  intro j hj
  simp only [grow]
  rw [Array.getElem?_append_left (by rw [hsz'];exact hj)]
  exact zQl _ _ _ _
 have hb':(grow (putRow encStr (Sort.ahead w n) b off (sortL l).toArray) os).heap[b]? =some (.cells (putCells encStr off (sortL l).toArray arr) el fr):=by
  rw [hget b hbs,if_pos rfl,hb];rfl
 have hps:(putCells encStr off (sortL l).toArray arr).size=arr.size:=by simp [putCells]
 have hsize:w.heap.size≤(grow (putRow encStr (Sort.ahead w n) b off (sortL l).toArray) os).heap.size:=by
  simp only [grow,Array.size_append,hsz'];omega
 refine ⟨.tuple #[], .tup [],[.sl true 1 ((sortL l).map fun x=>[.v (encStr x)])],S0,[],[b],rfl,⟨rfl,rfl⟩,rfl, ?_, ?_,by simp, ?_, ?_,fun b h=>h, ?_⟩
 ·simp only [Rep];exact ⟨#[],rfl,rfl,by simp only [RepRow]⟩
 ·simp only [RepRow,Rep]
  refine ⟨.slice (some ⟨b,off,none⟩) l.length cap,[b],[],by simp,⟨_,cap,by rw [List.length_map,hlen], .inr ⟨b,off,_,el,fr,[],rfl,hb',by rw [List.length_map,hlen];exact hcap,by rw [hps];exact harr,(zJn (k:=1) _ off []).2 ⟨rfl,fun i hi=> ?_⟩,rfl, ?_⟩⟩,rfl,rfl⟩
  ·have hi':i<l.length:=by omega
   have hlt:off+i<arr.size:=by omega
   simp only [putCells,Array.getElem?_mapIdx]
   rw [Array.getElem?_eq_getElem hlt]
   simp [hi,hlt]
  ·intro i hi;rw [hps] at hi;exact ht i hi
 ·intro c hc'
  simp at hc';subst hc'
  exact ⟨(hF _ (by simp)).1,by omega, .inl (by simp)⟩
 ·intro c hc'
  exact ⟨by have:=hS0 c hc';omega, .inl hc'⟩
 ·refine ⟨rfl,rfl,rfl,hsize, ?_, ?_⟩
  ·intro j hj hn
   rw [hget j hj,if_neg (by intro h;subst h;simp at hn)]
  ·intro j arr' el' fr' hj
   have hjs:j<w.heap.size:=by
    rcases Nat.lt_or_ge j w.heap.size with h|h
    ·exact h
    ·simp [Array.getElem?_eq_none h] at hj
   rw [hget j hjs,hj]
   by_cases e:j=b
   ·rw [if_pos e];exact ⟨_,fr',rfl,by simp [putCells]⟩
   ·rw [if_neg e];exact ⟨_,_,rfl,rfl⟩
end Go.Am

import Derived.Test.YthfpgpkdankdjaaGreatDoorFnExactSoundWorldTy
import Derived.Laws.Externs
set_option linter.all false
set_option maxHeartbeats 4000000
namespace Go.Proofs.Wb
open Tryz renaming prog→p_
open Go Go.Am
section
variable {α:Type} [Inhabited α] {κ:Type} [DecidableEq κ]
theorem zPC {p:Nat→Bool} {n:Nat}:∀ {m:Nat},n≤m→zCs p n≤zCs p m
 |0,h=>by rw [show n=0 by omega];exact Nat.le_refl _
 |m+1,h=>by
  by_cases e:n=m+1
  ·rw [e];exact Nat.le_refl _
  ·have:=zPC (p:=p) (n:=n) (m:=m) (by omega)
   simp only [zCs]
   omega
def fxI (lt:κ→κ→Bool) (f:α→κ) (l:List α) (k:κ):Nat:=zCs (fun i=>lt (f (nth l i)) k) l.length
def fxF (f:α→κ) (l:List α) (k:κ):Bool:=l.any fun x=>decide (f x=k)
def zAO (lt:κ→κ→Bool) (f:α→κ) (l:List α):Prop:=∀ i j,i<j→j<l.length→lt (f (nth l i)) (f (nth l j))=true
structure Ord (lt:κ→κ→Bool) (cmp:κ→κ→Int):Prop where
 neg:∀ a b,cmp a b<0↔lt a b=true
 zero:∀ a b,cmp a b=0↔a=b
 irr:∀ a,lt a a=false
 trans:∀ a b c,lt a b=true→lt b c=true→lt a c=true
 total:∀ a b,lt a b=true∨a=b∨lt b a=true
variable {lt:κ→κ→Bool} {cmp:κ→κ→Int} {f:α→κ} {l:List α} {k:κ}
theorem Ord.asym (O:Ord lt cmp) {a b:κ} (h:lt a b=true):lt b a=false:=by
 cases h2:lt b a
 ·rfl
 ·have:=O.trans _ _ _ h h2;rw [O.irr] at this;cases this
theorem Ord.ge (O:Ord lt cmp) {a b:κ} (h:lt a b=false):a=b∨lt b a=true:=by
 rcases O.total a b with h1|h1|h1
 ·rw [h] at h1;cases h1
 ·exact .inl h1
 ·exact .inr h1
theorem zDN:fxI lt f l k≤l.length:=zGI
theorem zG8 (O:Ord lt cmp) (hs:zAO lt f l) {i:Nat} (hi:i<l.length):i<fxI lt f l k↔lt (f (nth l i)) k=true:=by
 constructor
 ·intro h
  by_cases hb:lt (f (nth l i)) k=true
  ·exact hb
  ·exfalso
   have:fxI lt f l k≤i:=by
    unfold fxI
    rw [zEB (Nat.le_of_lt hi) (fun j a b=> ?_)]
    ·exact zGI
    ·by_cases e:j=i
     ·rw [e];simpa using hb
     ·cases h2:lt (f (nth l j)) k
      ·rfl
      ·exact absurd (O.trans _ _ _ (hs i j (by omega) b) h2) hb
   omega
 ·intro h
  unfold fxI
  have h1:=zFt (p:=fun i=>lt (f (nth l i)) k) (n:=i+1) (zAs.2 fun j hj=>by
   by_cases e:j=i
   ·rw [e];exact h
   ·exact O.trans _ _ _ (hs j i (by omega) hi) h)
  have h2:=zPC (p:=fun i=>lt (f (nth l i)) k) (n:=i+1) (m:=l.length) (by omega)
  omega
theorem zM2 (O:Ord lt cmp) (hs:zAO lt f l) {i:Nat} (hi:i<l.length) (h:f (nth l i)=k):fxI lt f l k=i:=by
 have h1:¬ i<fxI lt f l k:=by rw [zG8 O hs hi,h,O.irr];simp
 by_cases h2:fxI lt f l k<i
 ·have h3:=(zG8 (k:=k) O hs (show fxI lt f l k<l.length by omega)).2 (by have:=hs _ _ h2 hi;rwa [h] at this)
  omega
 ·omega
theorem zDa:fxF f l k=true↔∃ i,i<l.length∧f (nth l i)=k:=by
 unfold fxF
 rw [List.any_eq_true]
 constructor
 ·rintro ⟨x,hx,h1⟩
  obtain ⟨i,hi,rfl⟩:=List.getElem_of_mem hx
  exact ⟨i,hi,by rw [zAN hi];simpa using h1⟩
 ·rintro ⟨i,hi,h1⟩;exact ⟨_,zAc hi,by simpa using h1⟩
theorem zDl (O:Ord lt cmp) (hs:zAO lt f l) (h:fxF f l k=true):fxI lt f l k<l.length∧f (nth l (fxI lt f l k))=k:=by
 obtain ⟨i,hi,h1⟩:=zDa.1 h
 rw [zM2 O hs hi h1];exact ⟨hi,h1⟩
theorem zVq (O:Ord lt cmp) (hs:zAO lt f l) (k:κ):bsI (fun x=>cmp (f x) k) l=fxI lt f l k∧bsF (fun x=>cmp (f x) k) l=fxF f l k:=by
 have e1:bsI (fun x=>cmp (f x) k) l=fxI lt f l k:=by
  unfold bsI fxI
  congr 1;funext i
  rw [Bool.eq_iff_iff,decide_eq_true_iff,O.neg]
 refine ⟨e1, ?_⟩
 rw [Bool.eq_iff_iff]
 unfold bsF
 rw [e1,Bool.and_eq_true,decide_eq_true_iff,decide_eq_true_iff,O.zero]
 constructor
 ·rintro ⟨h1,h2⟩;exact zDa.2 ⟨_,h1,h2⟩
 ·intro h;exact zDl O hs h
theorem zOs (O:Ord lt cmp) (hs:zAO lt f l) (i j:Nat) (h1:i<j) (h2:j<l.length) (h3:0≤cmp (f (nth l i)) k):0≤cmp (f (nth l j)) k:=by
 rw [←Int.not_lt,O.neg] at h3 ⊢
 exact fun h=>h3 (O.trans _ _ _ (hs i j h1 h2) h)
def putAt (l:List α) (i:Nat) (x:α):List α:=l.take i++x::l.drop i
theorem zBZ {i:Nat} {x:α} (hi:i≤l.length):(putAt l i x).length=l.length+1:=by
 simp [putAt];omega
theorem zKl {i j:Nat} {x:α} (hi:i≤l.length):nth (putAt l i x) j=if j<i then nth l j else if j=i then x else nth l (j-1):=by
 unfold putAt nth
 simp only [List.getD,List.getElem?_append,List.length_take,Nat.min_eq_left hi]
 split
 ·rename_i h;rw [List.getElem?_take_of_lt h]
 ·rename_i h
  by_cases e:j=i
  ·subst e;simp
  ·rw [if_neg e,List.getElem?_cons,if_neg (by omega),List.getElem?_drop]
   congr 2;omega
theorem zGb (O:Ord lt cmp) (hs:zAO lt f l) {x:α} (h:fxF f l (f x)=false):zAO lt f (putAt l (fxI lt f l (f x)) x):=by
 intro i j h1 h2
 have hle:=zDN (lt:=lt) (f:=f) (l:=l) (k:=f x)
 rw [zBZ hle] at h2
 rw [zKl hle,zKl hle]
 have lo:∀ i,i<fxI lt f l (f x)→lt (f (nth l i)) (f x)=true:=fun i hi=>(zG8 O hs (by omega)).1 hi
 have hi:∀ i,fxI lt f l (f x)≤i→i<l.length→lt (f x) (f (nth l i))=true:=by
  intro i h3 h4
  have h5:lt (f (nth l i)) (f x)=false:=by
   cases h6:lt (f (nth l i)) (f x)
   ·rfl
   ·have:=(zG8 O hs h4).2 h6;omega
  rcases O.ge h5 with h6|h6
  ·have:fxF f l (f x)=true:=zDa.2 ⟨i,h4,h6⟩
   rw [h] at this;cases this
  ·exact h6
 by_cases a:j<fxI lt f l (f x)
 ·rw [if_pos (by omega),if_pos a];exact hs i j h1 (by omega)
 ·rw [if_neg a]
  by_cases b:j=fxI lt f l (f x)
  ·rw [if_pos b,if_pos (by omega)];exact lo i (by omega)
  ·rw [if_neg b]
   by_cases c:i<fxI lt f l (f x)
   ·rw [if_pos c];exact hs i (j-1) (by omega) (by omega)
   ·rw [if_neg c]
    by_cases d:i=fxI lt f l (f x)
    ·rw [if_pos d];exact hi (j-1) (by omega) (by omega)
    ·rw [if_neg d];exact hs (i-1) (j-1) (by omega) (by omega)
def dnI (p:α→Bool) (l:List α):Nat→Nat
 |0=>0
 |n+1=>if p (nth l n) then dnI p l n else n+1
theorem zGc {p:α→Bool} {j:Nat}:∀ {n:Nat},j≤n→(∀ i,j≤i→i<n→p (nth l i)=true)→(j=0∨p (nth l (j-1))=false)→dnI p l n=j
 |0,h,_,_=>by simp [dnI];omega
 |n+1,h,h1,h2=>by
  unfold dnI
  by_cases e:j=n+1
  ·subst e
   rcases h2 with h2|h2
   ·omega
   ·rw [show n+1-1=n by omega] at h2;rw [h2];rfl
  ·rw [h1 n (by omega) (by omega),if_pos rfl]
   exact zGc (by omega) (fun i a b=>h1 i a (by omega)) h2
theorem zM3 (O:Ord lt cmp) (hs:zAO lt f l) {x:α} (h:fxF f l (f x)=false):dnI (fun y=>lt (f x) (f y)) l l.length=fxI lt f l (f x):=by
 refine zGc zDN (fun i h3 h4=> ?_) ?_
 ·have h5:lt (f (nth l i)) (f x)=false:=by
   cases h6:lt (f (nth l i)) (f x)
   ·rfl
   ·have:=(zG8 O hs h4).2 h6;omega
  rcases O.ge h5 with h6|h6
  ·have:fxF f l (f x)=true:=zDa.2 ⟨i,h4,h6⟩
   rw [h] at this;cases this
  ·exact h6
 ·by_cases e:fxI lt f l (f x)=0
  ·exact .inl e
  ·exact .inr (O.asym ((zG8 O hs (by have:=zDN (lt:=lt) (f:=f) (l:=l) (k:=f x);omega)).1 (by omega)))
def cutAt (l:List α) (i:Nat):List α:=l.take i++l.drop (i+1)
theorem zRD (O:Ord lt cmp) (hs:zAO lt f l) {i:Nat} (hi:i<l.length):cutAt l i=l.filter fun x=> !decide (f x=f (nth l i)):=by
 have e:l=l.take i++nth l i::l.drop (i+1):=by
  rw [zAN hi];simp
 have h1:(l.take i).filter (fun x=> !decide (f x=f (nth l i)))=l.take i:=by
  rw [List.filter_eq_self]
  intro x hx
  obtain ⟨j,hj,rfl⟩:=List.getElem_of_mem hx
  simp only [List.length_take] at hj
  rw [List.getElem_take, ←zAN (by omega)]
  have:=hs j i (by omega) hi
  simp only [Bool.not_eq_true',decide_eq_false_iff_not]
  intro e;rw [e,O.irr] at this;cases this
 have h2:(l.drop (i+1)).filter (fun x=> !decide (f x=f (nth l i)))=l.drop (i+1):=by
  rw [List.filter_eq_self]
  intro x hx
  obtain ⟨j,hj,rfl⟩:=List.getElem_of_mem hx
  simp only [List.length_drop] at hj
  rw [List.getElem_drop, ←zAN (by omega)]
  have:=hs i (i+1+j) (by omega) (by omega)
  simp only [Bool.not_eq_true',decide_eq_false_iff_not]
  intro e;rw [e,O.irr] at this;cases this
 have h3:(l.take i++nth l i::l.drop (i+1)).filter (fun x=> !decide (f x=f (nth l i)))=cutAt l i:=by
  rw [List.filter_append,List.filter_cons,h1,h2]
  simp [cutAt]
 rw [←e] at h3
 exact h3.symm
theorem zPD {i:Nat} (hi:i<l.length):(cutAt l i).length+1=l.length:=by simp [cutAt];omega
theorem zXm (hs:zAO lt f l) {i:Nat} (hi:i<l.length):zAO lt f (cutAt l i):=by
 have hn:∀ j,nth (cutAt l i) j=if j<i then nth l j else nth l (j+1):=by
  intro j
  unfold cutAt nth
  simp only [List.getD,List.getElem?_append,List.length_take,Nat.min_eq_left (Nat.le_of_lt hi)]
  split
  ·rename_i h;rw [List.getElem?_take_of_lt h]
  ·rw [List.getElem?_drop];congr 2;omega
 intro a b h1 h2
 have:=zPD hi
 rw [hn,hn]
 by_cases c:b<i
 ·rw [if_pos (by omega),if_pos c];exact hs a b h1 (by omega)
 ·rw [if_neg c]
  by_cases d:a<i
  ·rw [if_pos d];exact hs a (b+1) (by omega) (by omega)
  ·rw [if_neg d];exact hs (a+1) (b+1) (by omega) (by omega)
theorem zGd {i:Nat} {x y:α}:y∈putAt l i x↔y=x∨y∈l:=by
 unfold putAt
 conv=>rhs;rw [←List.take_append_drop i l]
 simp only [List.mem_append,List.mem_cons]
 constructor
 ·rintro (h|h|h)<;>simp [h]
 ·rintro (h|h|h)<;>simp [h]
theorem zXn {i:Nat} {y:α} (h:y∈cutAt l i):y∈l:=by
 unfold cutAt at h
 rcases List.mem_append.1 h with h|h
 ·exact List.mem_of_mem_take h
 ·exact List.mem_of_mem_drop h
end
def ltI (a b:Int):Bool:=decide (a<b)
open Go.Proofs.Wb renaming H245→z0_,zMW→z1_,Cell.row→z3_,zMc→z5_ in
open Go.Am renaming k2_→z2_,str→z4_ in
theorem zG9 (l:List Cell) (key:ByteArray) (f:Nat) (caps:List T) (c:Cell→Int) (hent:zBU p_ f=true) (hcap:caps.all T.cap=true) (hl:l.length≤2^60) (hm:∀ i j,i<j→j<l.length→0≤c (nth l i)→0≤c (nth l j)) (hp:∀ x,x∈l→ACall p_ f ([.agg (Cell.row false x),str key]++caps) (fun r _=>r=i64 (c x))):
  ACall p_ 245 [.sl false 2 (l.map (Cell.row false)),str key, .fn f caps] (fun r _=>r= .tup [i64 (bsI c l),bl (bsF c l)]):=Q9_
open Go.Proofs.Wb renaming H149→z0_,zMW→z1_,Held.row→z3_,zMc→z5_ in
open Go.Am renaming k5_→z2_,i64→z4_ in
theorem zHa (l:List Held) (key:Int) (f:Nat) (caps:List T) (c:Held→Int) (hent:zBU p_ f=true) (hcap:caps.all T.cap=true) (hl:l.length≤2^60) (hm:∀ i j,i<j→j<l.length→0≤c (nth l i)→0≤c (nth l j)) (hp:∀ x,x∈l→ACall p_ f ([.agg (Held.row false x),i64 key]++caps) (fun r _=>r=i64 (c x))):
  ACall p_ 149 [.sl false 5 (l.map (Held.row false)),i64 key, .fn f caps] (fun r _=>r= .tup [i64 (bsI c l),bl (bsF c l)]):=Q9_
open Go.Proofs.Wb renaming H188→z0_,zMY→z1_,Told.row→z3_,zMd→z5_ in
open Go.Am renaming k3_→z2_,i64→z4_ in
theorem zHb (l:List Told) (key:Int) (f:Nat) (caps:List T) (c:Told→Int) (hent:zBU p_ f=true) (hcap:caps.all T.cap=true) (hl:l.length≤2^60) (hm:∀ i j,i<j→j<l.length→0≤c (nth l i)→0≤c (nth l j)) (hp:∀ x,x∈l→ACall p_ f ([.agg (Told.row false x),i64 key]++caps) (fun r _=>r=i64 (c x))):
  ACall p_ 188 [.sl false 3 (l.map (Told.row false)),i64 key, .fn f caps] (fun r _=>r= .tup [i64 (bsI c l),bl (bsF c l)]):=Q9_
open Go.Proofs.Wb renaming H275→z0_,zMY→z1_,Write.row→z3_,zMd→z5_ in
open Go.Am renaming k3_→z2_,str→z4_ in
theorem zGz (l:List Write) (key:ByteArray) (f:Nat) (caps:List T) (c:Write→Int) (hent:zBU p_ f=true) (hcap:caps.all T.cap=true) (hl:l.length≤2^60) (hm:∀ i j,i<j→j<l.length→0≤c (nth l i)→0≤c (nth l j)) (hp:∀ x,x∈l→ACall p_ f ([.agg (Write.row false x),str key]++caps) (fun r _=>r=i64 (c x))):
  ACall p_ 275 [.sl false 3 (l.map (Write.row false)),str key, .fn f caps] (fun r _=>r= .tup [i64 (bsI c l),bl (bsF c l)]):=Q9_
open Go.Proofs.Wb renaming H323→z0_ in
theorem zP6 (l:List Cell) (hl:l.length≤2^20):ACall p_ 323 [.sl false 2 (l.map (Cell.row false))] (fun r _=>r= .sl true 2 (l.map (Cell.row false))):=zO3
open Go.Proofs.Wb renaming H307→z0_ in
theorem zP7 (l:List Held) (hl:l.length≤2^20):ACall p_ 307 [.sl false 5 (l.map (Held.row false))] (fun r _=>r= .sl true 5 (l.map (Held.row false))):=zO3
open Go.Proofs.Wb renaming H298→z0_ in
theorem zP8 (l:List Told) (hl:l.length≤2^20):ACall p_ 298 [.sl false 3 (l.map (Told.row false))] (fun r _=>r= .sl true 3 (l.map (Told.row false))):=zO3
open Go.Proofs.Wb renaming H324→z0_ in
theorem zRE (l:List Ver) (hl:l.length≤2^20):ACall p_ 324 [.sl false 3 (l.map (Ver.row false))] (fun r _=>r= .sl true 3 (l.map (Ver.row false))):=zO3
open Go.Proofs.Wb renaming H310→z0_ in
theorem zOt (l:List Write) (hl:l.length≤2^20):ACall p_ 310 [.sl false 3 (l.map (Write.row false))] (fun r _=>r= .sl true 3 (l.map (Write.row false))):=zO3
open Go.Proofs.Wb renaming H242→z0_ in
theorem zHE (l:List ByteArray) (hl:l.length≤2^20):ACall p_ 242 [.sl false 1 (strs l)] (fun r _=>r= .sl true 1 (strs l)):=zO3
theorem zKm (l:List (List Value)) (i j:Int) (hi:0≤i) (hij:i≤j) (hj:j≤l.length) (hl:l.length≤maxLen) (hk:∀ r∈l,r.length=5) (ho:∀ r∈l,(zAq r).all T.storable=true):ACall p_ 301 [.sl true 5 (l.map (zAq)),i64 i,i64 j] (fun r a=>r= .sl true 5 ((l.take i.toNat++l.drop j.toNat).map (zAq))∧a=[.any,i64 i,i64 j]):=by
 have hmx:=zAd
 have hij':i.toNat≤j.toNat:=by omega
 have hj':j.toNat≤l.length:=by omega
 have e1:=zIW (f:=zAq) hij' hj'
 have e2:=fun z=>zYw (f:=zAq) (z:=z) hij' hj'
 have e3:=fun Z=>zYx (f:=zAq) (Z:=Z) hij' hj'
 refine zG2 [true,false,false] (hqA H301) (hqB H301) ⟨by simp only [go_sem],fun E hE hH=> ?_⟩;simp only [go_sem] at hE hH;simp only [go_sem,hE,hH,zY2]
 repeat' (first|((with_reducible first|refine zD7 ?_ ?_|refine zD8 ?_ ?_)<;>(intro h;have hb:=h;(try simp only [nf] at h);simp (disch:=omega) only [go_sem,hE,hH,e1,e2,e3,Option.isSome_some,hb];(try clear hb)))|((with_reducible refine And.intro ?_ ?_);· omega)|(refine jn _ ?_ ?_)|(with_reducible refine both ?_ ?_)|(with_reducible refine And.intro ?_ ?_)|(refine zBH ?_;(try (simp (disch:=omega) only [go_sem,hE,hH,e1,e2,e3,Option.isSome_some]));first|done|rfl)|(simp (disch:=omega) only [go_sem,hE,hH,e1,e2,e3,Option.isSome_some])|((first|apply zAJ|apply zBo)<;>(simp only [go_sem,hE,hH,e1,e2,e3,Option.isSome_some];done))|(simp only [go_sem,hE,hH,e1,e2,e3,Option.isSome_some])|fail)
 all_goals try (rw [List.all_eq_true];intro x hx;exact ho x (List.mem_of_mem_drop (List.mem_of_mem_take hx)))
 ·subst h
  rw [List.take_append_drop]
 ·rw [List.length_take,List.length_drop];omega
theorem zOu (l:List Held) (i j:Int) (hi:0≤i) (hij:i≤j) (hj:j≤l.length) (hl:l.length≤maxLen):ACall p_ 301 [.sl true 5 (l.map (Held.row true)),i64 i,i64 j] (fun r a=>r= .sl true 5 ((l.take i.toNat++l.drop j.toNat).map (Held.row true))∧a=[.any,i64 i,i64 j]):=by
 have h:=zYR (P:=p_) (f:=301) (k:=5) (rows:=l.map (Held.row true)) (i:=i) (j:=j) (by rw [List.all_map,List.all_eq_true];intro x _;rfl) (fun raws h1 h2 h3=>zKm raws i j hi hij (by rw [h1,List.length_map];exact hj) (by rw [h1,List.length_map];exact hl) h2 h3) (by omega)
 rw [←List.map_take, ←List.map_drop, ←List.map_append] at h
 exact h
open Go.Proofs.Wb renaming H131→z0_,zD1→z1_,Clock.row→z3_,zEx→z4_ in
open Go.Am renaming k1_→z2_ in
theorem zKn (l:List Clock) (f:Nat) (caps:List T) (p:Clock→Bool) (hent:zBU p_ f=true) (hcap:caps.all T.cap=true) (hl:l.length≤maxLen) (hp:∀ x,x∈l→ACall p_ f ([.agg (Clock.row false x)]++caps) (fun r _=>r=bl (p x))):
  ACall p_ 131 [.sl false 1 (l.map (Clock.row false)), .fn f caps] (fun r _=>r=i64 (ixf p l)):=zIf
open Go.Proofs.Wb renaming H224→z0_,zD1→z1_,Got.row→z3_,zEx→z4_ in
open Go.Am renaming k3_→z2_ in
theorem zMe (l:List Got) (f:Nat) (caps:List T) (p:Got→Bool) (hent:zBU p_ f=true) (hcap:caps.all T.cap=true) (hl:l.length≤maxLen) (hp:∀ x,x∈l→ACall p_ f ([.agg (Got.row false x)]++caps) (fun r _=>r=bl (p x))):
  ACall p_ 224 [.sl false 3 (l.map (Got.row false)), .fn f caps] (fun r _=>r=i64 (ixf p l)):=zIf
open Go.Proofs.Wb renaming H331→z0_,zGy→z1_,Held.row→z3_,zG4→z4_ in
open Go.Am renaming k5_→z2_ in
theorem zLe (l:List Held) (f:Nat) (caps:List T) (p:Held→Bool) (hent:zBU p_ f=true) (hcap:caps.all T.cap=true) (hl:l.length≤maxLen) (hp:∀ x,x∈l→ACall p_ f ([.agg (Held.row false x)]++caps) (fun r _=>r=bl (p x))):
  ACall p_ 331 [.sl false 5 (l.map (Held.row false)), .fn f caps] (fun r _=>r=i64 (ixf p l)):=zIf
open Go.Proofs.Wb renaming H179→z0_,zD1→z1_,Lock.row→z3_,zEx→z4_ in
open Go.Am renaming k3_→z2_ in
theorem zLf (l:List Lock) (f:Nat) (caps:List T) (p:Lock→Bool) (hent:zBU p_ f=true) (hcap:caps.all T.cap=true) (hl:l.length≤maxLen) (hp:∀ x,x∈l→ACall p_ f ([.agg (Lock.row false x)]++caps) (fun r _=>r=bl (p x))):
  ACall p_ 179 [.sl false 3 (l.map (Lock.row false)), .fn f caps] (fun r _=>r=i64 (ixf p l)):=zIf
open Go.Proofs.Wb renaming H265→z0_,zD1→z1_,Op.row→z3_,zEx→z4_ in
open Go.Am renaming k4_→z2_ in
theorem zM4 (l:List Op) (f:Nat) (caps:List T) (p:Op→Bool) (hent:zBU p_ f=true) (hcap:caps.all T.cap=true) (hl:l.length≤maxLen) (hp:∀ x,x∈l→ACall p_ f ([.agg (Op.row false x)]++caps) (fun r _=>r=bl (p x))):
  ACall p_ 265 [.sl false 4 (l.map (Op.row false)), .fn f caps] (fun r _=>r=i64 (ixf p l)):=zIf
open Go.Proofs.Wb renaming H176→z0_,zGy→z1_,Replica.row→z3_,zG4→z4_ in
open Go.Am renaming k3_→z2_ in
theorem zI6 (l:List Replica) (f:Nat) (caps:List T) (p:Replica→Bool) (hent:zBU p_ f=true) (hcap:caps.all T.cap=true) (hl:l.length≤maxLen) (hp:∀ x,x∈l→ACall p_ f ([.agg (Replica.row false x)]++caps) (fun r _=>r=bl (p x))):
  ACall p_ 176 [.sl false 3 (l.map (Replica.row false)), .fn f caps] (fun r _=>r=i64 (ixf p l)):=zIf
open Go.Proofs.Wb renaming H145→z0_,zD1→z1_,Told.row→z3_,zEx→z4_ in
open Go.Am renaming k3_→z2_ in
theorem zLg (l:List Told) (f:Nat) (caps:List T) (p:Told→Bool) (hent:zBU p_ f=true) (hcap:caps.all T.cap=true) (hl:l.length≤maxLen) (hp:∀ x,x∈l→ACall p_ f ([.agg (Told.row false x)]++caps) (fun r _=>r=bl (p x))):
  ACall p_ 145 [.sl false 3 (l.map (Told.row false)), .fn f caps] (fun r _=>r=i64 (ixf p l)):=zIf
open Go.Proofs.Wb renaming H138→z0_,zGy→z1_,WorldLook.row→z3_,zG4→z4_ in
open Go.Am renaming k6_→z2_ in
theorem zH1 (l:List WorldLook) (f:Nat) (caps:List T) (p:WorldLook→Bool) (hent:zBU p_ f=true) (hcap:caps.all T.cap=true) (hl:l.length≤maxLen) (hp:∀ x,x∈l→ACall p_ f ([.agg (WorldLook.row false x)]++caps) (fun r _=>r=bl (p x))):
  ACall p_ 138 [.sl false 6 (l.map (WorldLook.row false)), .fn f caps] (fun r _=>r=i64 (ixf p l)):=zIf
open Go.Proofs.Wb renaming H132→z0_,zGy→z1_,WorldTxn.row→z3_,zG4→z4_ in
open Go.Am renaming zWe→z2_ in
theorem zIv (l:List WorldTxn) (f:Nat) (caps:List T) (p:WorldTxn→Bool) (hent:zBU p_ f=true) (hcap:caps.all T.cap=true) (hl:l.length≤maxLen) (hp:∀ x,x∈l→ACall p_ f ([.agg (WorldTxn.row false x)]++caps) (fun r _=>r=bl (p x))):
  ACall p_ 132 [.sl false 10 (l.map (WorldTxn.row false)), .fn f caps] (fun r _=>r=i64 (ixf p l)):=zIf
open Go.Proofs.Wb renaming H296→z0_,zD1→z1_,Write.row→z3_,zEx→z4_ in
open Go.Am renaming k3_→z2_ in
theorem zKo (l:List Write) (f:Nat) (caps:List T) (p:Write→Bool) (hent:zBU p_ f=true) (hcap:caps.all T.cap=true) (hl:l.length≤maxLen) (hp:∀ x,x∈l→ACall p_ f ([.agg (Write.row false x)]++caps) (fun r _=>r=bl (p x))):
  ACall p_ 296 [.sl false 3 (l.map (Write.row false)), .fn f caps] (fun r _=>r=i64 (ixf p l)):=zIf
theorem zMf (l:List Int) (f:Nat) (caps:List T) (p:Int→Bool) (hent:zBU p_ f=true) (hcap:caps.all T.cap=true) (hl:l.length≤maxLen) (hp:∀ x,x∈l→ACall p_ f ([i64 x]++caps) (fun r _=>r=bl (p x))):
  ACall p_ 184 [.sl false 1 (ints l), .fn f caps] (fun r _=>r=i64 (ixf p l)):=by
 have hmx:=zAd
 refine zI2 (hqA H184) (hqB H184) ⟨by simp only [go_sem,zAj hcap,zAu hcap,zAo hcap,zAx hcap,zAp hcap],fun E hE hH=> ?_⟩;simp only [go_sem,zAj hcap,zAu hcap,zAo hcap,zAx hcap,zAp hcap] at hE hH;simp only [go_sem,hE,hH,zAj hcap,zAu hcap,zAo hcap,zAx hcap,zAp hcap,zYX]
 refine zAi l.length (fun j (_:Unit)=>⟨[(0, .sl false 1 (ints l)),(1, .fn f caps),(7,i64 l.length),(8,i64 j)],[]⟩) (fun j _=>zAg (fun i=> !p (nth l i)) j=true) () rfl ?_
 intro j _ hj hI
 try simp only [go_sem,hE,hH,zAj hcap,zAu hcap,zAo hcap,zAx hcap,zAp hcap,zTJ]
 refine gG (fun h=> ?_) (fun h=> ?_)
 ·have hb:=h
  simp only [nf] at h
  have hlt:=h;clear h
  try simp (disch:=omega) only [go_sem,hE,hH,zAj hcap,zAu hcap,zAo hcap,zAx hcap,zAp hcap,hb]
  refine And.intro (by omega) ?_
  refine zKh rfl rfl rfl (hent) (hcap) (hp _ (zAc hlt)) ?_
  try simp (disch:=omega) only [go_sem,hE,hH,zAj hcap,zAu hcap,zAo hcap,zAx hcap,zAp hcap]
  repeat' (first|(refine zZP ?_ ?_<;>intro h)|refine qy ?_|refine jn _ ?_ ?_|refine qu ?_ ?_|exact zZQ|refine zZR ?_|fail)
  ·rw [zMR hlt hI h]
  ·exact ⟨(),rfl,zAa hI (by simp [h])⟩
 ·try simp (disch:=omega) only [go_sem,hE,hH,zAj hcap,zAu hcap,zAo hcap,zAx hcap,zAp hcap,h]
  simp only [nf] at h
  rw [show j=l.length by omega] at hI
  rw [zMa hI]
theorem zM5 (l:List ByteArray) (v:ByteArray) (hl:l.length≤maxLen):ACall p_ 362 [.sl false 1 (strs l),str v] (fun r _=>r=i64 (ixf (fun x=>decide (v=x)) l)):=by
 have hmx:=zAd
 refine fg H362 fun E hE hH=> ?_;refine st ?_
 refine zAi l.length (fun j (_:Unit)=>⟨[(0, .sl false 1 (strs l)),(1,str v),(7,i64 l.length),(8,i64 j)],[]⟩) (fun j _=>zAg (fun i=> !decide (v=nth l i)) j=true) () rfl ?_
 intro j _ hj hI
 try simp only [go_sem,hE,hH,zUi]
 refine gG (fun h=> ?_) (fun h=> ?_)
 ·have hb:=h
  simp only [nf] at h
  have hlt:=h;clear h
  try refine sb ?_;try exact ⟨⟩
  refine And.intro (by omega) ?_
  repeat' (first|(refine qz ?_ ?_<;>intro h)|refine qy ?_|refine jn _ ?_ ?_|refine qu ?_ ?_|exact qe|refine qw ?_|fail)
  ·rw [zMR (p:=fun x=>decide (v=x)) hlt hI (by simp [h])]
  ·exact ⟨(),rfl,zAa hI (by simp [h])⟩
 ·try simp (disch:=omega) only [go_sem,hE,hH,h]
  simp only [nf] at h
  rw [show j=l.length by omega] at hI
  rw [zMa (p:=fun x=>decide (v=x)) hI]
theorem zKp (l v:List (List Value)) (i:Int) (hi:0≤i) (hin:i≤l.length) (hl:l.length≤2^20) (hk:∀ r∈l,r.length=2) (ho:∀ r∈l,(zAq r).all T.storable=true) (hkv:∀ r∈v,r.length=2) (hov:∀ r∈v,(zAq r).all T.storable=true) (hv:v.length≤2^20):ACall p_ 327 [.sl true 2 (l.map (zAq)),i64 i, .sl false 2 (v.map (zAq))] (fun r a=>r= .sl true 2 ((l.take i.toNat++v++l.drop i.toNat).map (zAq))∧a=[.any,i64 i, .sl false 2 (v.map (zAq))]):=by
 have hmx:=zAd
 refine zRj [true,false,false] 0 2 (l.map (zAq)) (hqA H327) (hqB H327) (by simp only [go_sem,List.mem_cons,true_or,or_true]) (by simp only [go_sem]) ⟨by simp only [go_sem],fun E hE hH c hc hF=> ?_⟩;simp only [go_sem] at hE hH hc hF;simp only [go_sem,hE,hH,zY4]
 have e0:l.length+(c-l.length)=c:=by omega
 have hn:i.toNat≤l.length:=by omega
 have t1:((l.length:Int)+v.length-i).toNat=l.length+v.length-i.toNat:=by omega
 have t2:(i+(v.length:Int)).toNat=i.toNat+v.length:=by omega
 have t3:((l.length:Int)+v.length).toNat=l.length+v.length:=by omega
 have t4:i.toNat+(l.length+v.length-i.toNat)=l.length+v.length:=by omega
 have t5:l.length+v.length-(i.toNat+v.length)=l.length-i.toNat:=by omega
 have t6:min (l.length-i.toNat) (l.length+v.length-i.toNat)=l.length-i.toNat:=by omega
 have t7:i.toNat+(l.length-i.toNat)=l.length:=by omega
 have a1:=zEv (f:=zAq) (l:=l) (G:=List.replicate (c-l.length) (zBG 2)) (Nat.le_refl l.length)
 have a2:=zEv (f:=zAq) (l:=l) (G:=List.replicate (c-l.length) (zBG 2)) hn
 have a3:=zN3 (f:=zAq) (l:=l) (G:=List.replicate (c-l.length) (zBG 2)) hn
 have a4:v.take (l.length+v.length-i.toNat)=v:=List.take_of_length_le (by omega)
 have b1:=fun z=>zFq (f:=zAq) (g:=fun x=>(zAq) x) (v:=v) (z:=z) hn
 have b2:=fun z=>zLZ (f:=zAq) (g:=fun x=>(zAq) x) (v:=v) (z:=z) hn
 have b3:=fun z=>zKa (f:=zAq) (v:=v) (z:=z) hn
 have b4:=zN4 (f:=zAq) (v:=v) (l:=l)
 have d1:=fun z hc=>zG0 (f:=zAq) (m:=v.length) (c:=c) (z:=z) hn hc
 have d2:=fun z hc=>zL0 (f:=zAq) (g:=fun x=>(zAq) x) (v:=v) (c:=c) (z:=z) hn hc
 have d3:=fun z hc=>zL1 (f:=zAq) (v:=v) (c:=c) (z:=z) hn hc
 have t8:min (l.length+v.length-i.toNat) v.length=v.length:=by omega
 have t9:i.toNat+v.length+(l.length-i.toNat)=l.length+v.length:=by omega
 simp only [go_sem] at a1 a2 a3 b1 b2 b3 b4 d1 d2 d3
 have s1:((v.map zAq).all fun r=>r.all T.storable)=true:=by rw [List.all_map,List.all_eq_true];intro x hx;exact hov x hx
 have s2:((l.map zAq).all fun r=>r.all T.storable)=true:=by rw [List.all_map,List.all_eq_true];intro x hx;exact ho x hx
 have s3:(((l.take i.toNat).map zAq).all fun r=>r.all T.storable)=true:=by rw [List.all_map,List.all_eq_true];intro x hx;exact ho x (List.mem_of_mem_take hx)
 have s4:(((l.drop i.toNat).map zAq).all fun r=>r.all T.storable)=true:=by rw [List.all_map,List.all_eq_true];intro x hx;exact ho x (List.mem_of_mem_drop hx)
 simp only [go_sem] at s1 s2 s3 s4
 all_goals (have y1_:=s1;have y2_:=s2;have y3_:=s3;have y4_:=s4;have y5_:=e0;have y6_:=t1;have y7_:=t2;have y8_:=t3;have y9_:=t4;have y10_:=t5;have y11_:=t6;have y12_:=t7;have y13_:=t8;have y14_:=t9;have y15_:=d1;have y16_:=d2;have y17_:=d3;have y18_:=a1;have y19_:=a2;have y20_:=a3;have y21_:=a4;have y22_:=b1;have y23_:=b2;have y24_:=b3;have y25_:=b4;repeat' (first|(refine zV8 ?_ ?_<;>intro h)|refine qy ?_|refine jn _ ?_ ?_|refine qu ?_ ?_|exact zV9|refine zWa ?_|fail))
 all_goals try (refine zQ7 rfl rfl rfl zFD zFk zFC (by decide) (by simp only [List.length_map];omega) (by simp only [go_sem];omega) ?_)
 all_goals (have y1_:=s1;have y2_:=s2;have y3_:=s3;have y4_:=s4;have y5_:=e0;have y6_:=t1;have y7_:=t2;have y8_:=t3;have y9_:=t4;have y10_:=t5;have y11_:=t6;have y12_:=t7;have y13_:=t8;have y14_:=t9;have y15_:=d1;have y16_:=d2;have y17_:=d3;have y18_:=a1;have y19_:=a2;have y20_:=a3;have y21_:=a4;have y22_:=b1;have y23_:=b2;have y24_:=b3;have y25_:=b4;repeat' (first|(refine zV8 ?_ ?_<;>intro h)|refine qy ?_|refine jn _ ?_ ?_|refine qu ?_ ?_|exact zV9|refine zWa ?_|fail))
 all_goals try (rw [List.all_eq_true];intro x hx;first|exact ho x (List.mem_of_mem_drop (List.mem_of_mem_take hx))|exact ho x (List.mem_of_mem_drop hx)|exact ho x (List.mem_of_mem_take hx)|exact ho x hx|exact hov x hx)
 ·have e:v=[]:=List.length_eq_zero_iff.1 (by omega)
  subst e
  rw [List.append_nil,List.take_append_drop]
 ·have e:i.toNat=l.length:=by omega
  rw [e,List.take_length,List.drop_length,List.append_nil,List.map_append]
  try rfl
 all_goals omega
theorem zOv (l:List Cell) (x:Cell) (i:Int) (hi:0≤i) (hin:i≤l.length) (hl:l.length≤2^20):ACall p_ 327 [.sl true 2 (l.map (Cell.row true)),i64 i, .sl true 2 [Cell.row true x]] (fun r a=>r= .sl true 2 ((putAt l i.toNat x).map (Cell.row true))∧a=[.any,i64 i, .any]):=by
 have h:=zRt (P:=p_) (f:=327) (k:=2) (rows:=l.map (Cell.row true)) (row:=Cell.row true x) (i:=i) (by rw [List.length_map];omega) (by rw [List.all_map,List.all_eq_true];intro x _;rfl) rfl (fun raws rv h1 h2 h3 h4 h5=>by have q:=zKp raws [rv] i hi (by rw [h1,List.length_map];exact hin) (by rw [h1,List.length_map];exact hl) h2 h4 (fun r hr=>by rw [List.mem_singleton.1 hr];exact h3) (fun r hr=>by rw [List.mem_singleton.1 hr];exact h5) (by simp);rw [List.append_assoc] at q;exact q)
 rw [←List.map_take, ←List.map_drop] at h
 unfold putAt
 rw [List.map_append,List.map_cons]
 exact h
theorem zKq (l v:List (List Value)) (i:Int) (hi:0≤i) (hin:i≤l.length) (hl:l.length≤2^20) (hk:∀ r∈l,r.length=5) (ho:∀ r∈l,(zAq r).all T.storable=true) (hkv:∀ r∈v,r.length=5) (hov:∀ r∈v,(zAq r).all T.storable=true) (hv:v.length≤2^20):ACall p_ 271 [.sl true 5 (l.map (zAq)),i64 i, .sl false 5 (v.map (zAq))] (fun r a=>r= .sl true 5 ((l.take i.toNat++v++l.drop i.toNat).map (zAq))∧a=[.any,i64 i, .sl false 5 (v.map (zAq))]):=by
 have hmx:=zAd
 refine zRj [true,false,false] 0 5 (l.map (zAq)) (hqA H271) (hqB H271) (by simp only [go_sem,List.mem_cons,true_or,or_true]) (by simp only [go_sem]) ⟨by simp only [go_sem],fun E hE hH c hc hF=> ?_⟩;simp only [go_sem] at hE hH hc hF;simp only [go_sem,hE,hH,zY1]
 have e0:l.length+(c-l.length)=c:=by omega
 have hn:i.toNat≤l.length:=by omega
 have t1:((l.length:Int)+v.length-i).toNat=l.length+v.length-i.toNat:=by omega
 have t2:(i+(v.length:Int)).toNat=i.toNat+v.length:=by omega
 have t3:((l.length:Int)+v.length).toNat=l.length+v.length:=by omega
 have t4:i.toNat+(l.length+v.length-i.toNat)=l.length+v.length:=by omega
 have t5:l.length+v.length-(i.toNat+v.length)=l.length-i.toNat:=by omega
 have t6:min (l.length-i.toNat) (l.length+v.length-i.toNat)=l.length-i.toNat:=by omega
 have t7:i.toNat+(l.length-i.toNat)=l.length:=by omega
 have a1:=zEv (f:=zAq) (l:=l) (G:=List.replicate (c-l.length) (zBG 5)) (Nat.le_refl l.length)
 have a2:=zEv (f:=zAq) (l:=l) (G:=List.replicate (c-l.length) (zBG 5)) hn
 have a3:=zN3 (f:=zAq) (l:=l) (G:=List.replicate (c-l.length) (zBG 5)) hn
 have a4:v.take (l.length+v.length-i.toNat)=v:=List.take_of_length_le (by omega)
 have b1:=fun z=>zFq (f:=zAq) (g:=fun x=>(zAq) x) (v:=v) (z:=z) hn
 have b2:=fun z=>zLZ (f:=zAq) (g:=fun x=>(zAq) x) (v:=v) (z:=z) hn
 have b3:=fun z=>zKa (f:=zAq) (v:=v) (z:=z) hn
 have b4:=zN4 (f:=zAq) (v:=v) (l:=l)
 have d1:=fun z hc=>zG0 (f:=zAq) (m:=v.length) (c:=c) (z:=z) hn hc
 have d2:=fun z hc=>zL0 (f:=zAq) (g:=fun x=>(zAq) x) (v:=v) (c:=c) (z:=z) hn hc
 have d3:=fun z hc=>zL1 (f:=zAq) (v:=v) (c:=c) (z:=z) hn hc
 have t8:min (l.length+v.length-i.toNat) v.length=v.length:=by omega
 have t9:i.toNat+v.length+(l.length-i.toNat)=l.length+v.length:=by omega
 simp only [go_sem] at a1 a2 a3 b1 b2 b3 b4 d1 d2 d3
 have s1:((v.map zAq).all fun r=>r.all T.storable)=true:=by rw [List.all_map,List.all_eq_true];intro x hx;exact hov x hx
 have s2:((l.map zAq).all fun r=>r.all T.storable)=true:=by rw [List.all_map,List.all_eq_true];intro x hx;exact ho x hx
 have s3:(((l.take i.toNat).map zAq).all fun r=>r.all T.storable)=true:=by rw [List.all_map,List.all_eq_true];intro x hx;exact ho x (List.mem_of_mem_take hx)
 have s4:(((l.drop i.toNat).map zAq).all fun r=>r.all T.storable)=true:=by rw [List.all_map,List.all_eq_true];intro x hx;exact ho x (List.mem_of_mem_drop hx)
 simp only [go_sem] at s1 s2 s3 s4
 all_goals (have y1_:=s1;have y2_:=s2;have y3_:=s3;have y4_:=s4;have y5_:=e0;have y6_:=t1;have y7_:=t2;have y8_:=t3;have y9_:=t4;have y10_:=t5;have y11_:=t6;have y12_:=t7;have y13_:=t8;have y14_:=t9;have y15_:=d1;have y16_:=d2;have y17_:=d3;have y18_:=a1;have y19_:=a2;have y20_:=a3;have y21_:=a4;have y22_:=b1;have y23_:=b2;have y24_:=b3;have y25_:=b4;repeat' (first|(refine zV8 ?_ ?_<;>intro h)|refine qy ?_|refine jn _ ?_ ?_|refine qu ?_ ?_|exact zV9|refine zWa ?_|fail))
 all_goals try (refine zQ7 rfl rfl rfl zFx zFi zFw (by decide) (by simp only [List.length_map];omega) (by simp only [go_sem];omega) ?_)
 all_goals (have y1_:=s1;have y2_:=s2;have y3_:=s3;have y4_:=s4;have y5_:=e0;have y6_:=t1;have y7_:=t2;have y8_:=t3;have y9_:=t4;have y10_:=t5;have y11_:=t6;have y12_:=t7;have y13_:=t8;have y14_:=t9;have y15_:=d1;have y16_:=d2;have y17_:=d3;have y18_:=a1;have y19_:=a2;have y20_:=a3;have y21_:=a4;have y22_:=b1;have y23_:=b2;have y24_:=b3;have y25_:=b4;repeat' (first|(refine zV8 ?_ ?_<;>intro h)|refine qy ?_|refine jn _ ?_ ?_|refine qu ?_ ?_|exact zV9|refine zWa ?_|fail))
 all_goals try (rw [List.all_eq_true];intro x hx;first|exact ho x (List.mem_of_mem_drop (List.mem_of_mem_take hx))|exact ho x (List.mem_of_mem_drop hx)|exact ho x (List.mem_of_mem_take hx)|exact ho x hx|exact hov x hx)
 ·have e:v=[]:=List.length_eq_zero_iff.1 (by omega)
  subst e
  rw [List.append_nil,List.take_append_drop]
 ·have e:i.toNat=l.length:=by omega
  rw [e,List.take_length,List.drop_length,List.append_nil,List.map_append]
  try rfl
 all_goals omega
theorem zOw (l:List Held) (x:Held) (i:Int) (hi:0≤i) (hin:i≤l.length) (hl:l.length≤2^20):ACall p_ 271 [.sl true 5 (l.map (Held.row true)),i64 i, .sl true 5 [Held.row true x]] (fun r a=>r= .sl true 5 ((putAt l i.toNat x).map (Held.row true))∧a=[.any,i64 i, .any]):=by
 have h:=zRt (P:=p_) (f:=271) (k:=5) (rows:=l.map (Held.row true)) (row:=Held.row true x) (i:=i) (by rw [List.length_map];omega) (by rw [List.all_map,List.all_eq_true];intro x _;rfl) rfl (fun raws rv h1 h2 h3 h4 h5=>by have q:=zKq raws [rv] i hi (by rw [h1,List.length_map];exact hin) (by rw [h1,List.length_map];exact hl) h2 h4 (fun r hr=>by rw [List.mem_singleton.1 hr];exact h3) (fun r hr=>by rw [List.mem_singleton.1 hr];exact h5) (by simp);rw [List.append_assoc] at q;exact q)
 rw [←List.map_take, ←List.map_drop] at h
 unfold putAt
 rw [List.map_append,List.map_cons]
 exact h
open Go.Proofs.Wb renaming Told.row→z0_,H302→z1_,zY3→z2_,zFA→z3_,zFj→z4_,zFz→z5_ in
theorem zOx (l v:List Told) (i:Int) (hi:0≤i) (hin:i≤l.length) (hl:l.length≤2^20) (hv:v.length≤2^20):ACall p_ 302 [.sl true 3 (l.map (Told.row true)),i64 i, .sl false 3 (v.map (Told.row false))] (fun r a=>r= .sl true 3 ((l.take i.toNat++v++l.drop i.toNat).map (Told.row true))∧a=[.any,i64 i, .sl false 3 (v.map (Told.row false))]):=Q12_
open Go.Proofs.Wb renaming Write.row→z0_,H228→z1_,zYZ→z2_,zFh→z3_,zEU→z4_,zFg→z5_ in
theorem zM6 (l v:List Write) (i:Int) (hi:0≤i) (hin:i≤l.length) (hl:l.length≤2^20) (hv:v.length≤2^20):ACall p_ 228 [.sl true 3 (l.map (Write.row true)),i64 i, .sl false 3 (v.map (Write.row false))] (fun r a=>r= .sl true 3 ((l.take i.toNat++v++l.drop i.toNat).map (Write.row true))∧a=[.any,i64 i, .sl false 3 (v.map (Write.row false))]):=Q12_
open Go.Proofs.Wb renaming H73→z0_,zKn→z1_ in
theorem zIw (l:List Clock) (f:Nat) (caps:List T) (p:Clock→Bool) (hent:zBU p_ f=true) (hcap:caps.all T.cap=true) (hl:l.length≤maxLen) (hp:∀ x,x∈l→ACall p_ f ([.agg (Clock.row false x)]++caps) (fun r _=>r=bl (p x))):
  ACall p_ 73 [.sl false 1 (l.map (Clock.row false)), .fn f caps] (fun r _=>r=bl (l.any p)):=zHr
open Go.Proofs.Wb renaming H182→z0_,zMe→z1_ in
theorem zJG (l:List Got) (f:Nat) (caps:List T) (p:Got→Bool) (hent:zBU p_ f=true) (hcap:caps.all T.cap=true) (hl:l.length≤maxLen) (hp:∀ x,x∈l→ACall p_ f ([.agg (Got.row false x)]++caps) (fun r _=>r=bl (p x))):
  ACall p_ 182 [.sl false 3 (l.map (Got.row false)), .fn f caps] (fun r _=>r=bl (l.any p)):=zHr
open Go.Proofs.Wb renaming H303→z0_,zLe→z1_ in
theorem zI7 (l:List Held) (f:Nat) (caps:List T) (p:Held→Bool) (hent:zBU p_ f=true) (hcap:caps.all T.cap=true) (hl:l.length≤maxLen) (hp:∀ x,x∈l→ACall p_ f ([.agg (Held.row false x)]++caps) (fun r _=>r=bl (p x))):
  ACall p_ 303 [.sl false 5 (l.map (Held.row false)), .fn f caps] (fun r _=>r=bl (l.any p)):=zHr
open Go.Proofs.Wb renaming H128→z0_,zLf→z1_ in
theorem zI8 (l:List Lock) (f:Nat) (caps:List T) (p:Lock→Bool) (hent:zBU p_ f=true) (hcap:caps.all T.cap=true) (hl:l.length≤maxLen) (hp:∀ x,x∈l→ACall p_ f ([.agg (Lock.row false x)]++caps) (fun r _=>r=bl (p x))):
  ACall p_ 128 [.sl false 3 (l.map (Lock.row false)), .fn f caps] (fun r _=>r=bl (l.any p)):=zHr
open Go.Proofs.Wb renaming H220→z0_,zM4→z1_ in
theorem zKr (l:List Op) (f:Nat) (caps:List T) (p:Op→Bool) (hent:zBU p_ f=true) (hcap:caps.all T.cap=true) (hl:l.length≤maxLen) (hp:∀ x,x∈l→ACall p_ f ([.agg (Op.row false x)]++caps) (fun r _=>r=bl (p x))):
  ACall p_ 220 [.sl false 4 (l.map (Op.row false)), .fn f caps] (fun r _=>r=bl (l.any p)):=zHr
open Go.Proofs.Wb renaming H124→z0_,zI6→z1_ in
theorem zHs (l:List Replica) (f:Nat) (caps:List T) (p:Replica→Bool) (hent:zBU p_ f=true) (hcap:caps.all T.cap=true) (hl:l.length≤maxLen) (hp:∀ x,x∈l→ACall p_ f ([.agg (Replica.row false x)]++caps) (fun r _=>r=bl (p x))):
  ACall p_ 124 [.sl false 3 (l.map (Replica.row false)), .fn f caps] (fun r _=>r=bl (l.any p)):=zHr
open Go.Proofs.Wb renaming H86→z0_,zLg→z1_ in
theorem zEV (l:List Told) (f:Nat) (caps:List T) (p:Told→Bool) (hent:zBU p_ f=true) (hcap:caps.all T.cap=true) (hl:l.length≤maxLen) (hp:∀ x,x∈l→ACall p_ f ([.agg (Told.row false x)]++caps) (fun r _=>r=bl (p x))):
  ACall p_ 86 [.sl false 3 (l.map (Told.row false)), .fn f caps] (fun r _=>r=bl (l.any p)):=zHr
open Go.Proofs.Wb renaming H79→z0_,zH1→z1_ in
theorem zGA (l:List WorldLook) (f:Nat) (caps:List T) (p:WorldLook→Bool) (hent:zBU p_ f=true) (hcap:caps.all T.cap=true) (hl:l.length≤maxLen) (hp:∀ x,x∈l→ACall p_ f ([.agg (WorldLook.row false x)]++caps) (fun r _=>r=bl (p x))):
  ACall p_ 79 [.sl false 6 (l.map (WorldLook.row false)), .fn f caps] (fun r _=>r=bl (l.any p)):=zHr
open Go.Proofs.Wb renaming H76→z0_,zIv→z1_ in
theorem zHc (l:List WorldTxn) (f:Nat) (caps:List T) (p:WorldTxn→Bool) (hent:zBU p_ f=true) (hcap:caps.all T.cap=true) (hl:l.length≤maxLen) (hp:∀ x,x∈l→ACall p_ f ([.agg (WorldTxn.row false x)]++caps) (fun r _=>r=bl (p x))):
  ACall p_ 76 [.sl false 10 (l.map (WorldTxn.row false)), .fn f caps] (fun r _=>r=bl (l.any p)):=zHr
open Go.Proofs.Wb renaming H263→z0_,zKo→z1_ in
theorem zEC (l:List Write) (f:Nat) (caps:List T) (p:Write→Bool) (hent:zBU p_ f=true) (hcap:caps.all T.cap=true) (hl:l.length≤maxLen) (hp:∀ x,x∈l→ACall p_ f ([.agg (Write.row false x)]++caps) (fun r _=>r=bl (p x))):
  ACall p_ 263 [.sl false 3 (l.map (Write.row false)), .fn f caps] (fun r _=>r=bl (l.any p)):=zHr
open Go.Proofs.Wb renaming H135→z0_,zMf→z1_ in
theorem zJH (l:List Int) (f:Nat) (caps:List T) (p:Int→Bool) (hent:zBU p_ f=true) (hcap:caps.all T.cap=true) (hl:l.length≤maxLen) (hp:∀ x,x∈l→ACall p_ f ([i64 x]++caps) (fun r _=>r=bl (p x))):
  ACall p_ 135 [.sl false 1 (ints l), .fn f caps] (fun r _=>r=bl (l.any p)):=zHr
theorem zKs (l:List ByteArray) (v:ByteArray) (hl:l.length≤maxLen):ACall p_ 352 [.sl false 1 (strs l),str v] (fun r _=>r=bl (l.any fun x=>decide (v=x))):=by
 refine fg H352 fun E hE hH=> ?_
 repeat' (first|(refine qz ?_ ?_<;>intro h)|refine qy ?_|refine qo ?_|refine cq (zM5 _ _ hl) ?_|refine jn _ ?_ ?_|refine qu ?_ ?_|exact qe|refine qw ?_|fail)
 rw [zK2]
def bys (code:List Int):List (List T):=code.map fun b=>[.v (.int .u8 b)]
@[go_sem] theorem zAln (code:List Int):bys code=code.map fun b=>[.v (.int .u8 b)]:=rfl
def rng (n lo hi:Int):Bool:=decide (lo≤n)&&decide (n≤hi)
theorem zBl {n lo hi:Int}:rng n lo hi=true↔lo≤n∧n≤hi:=by simp [rng]
theorem zHd {n lo hi:Int}:rng n lo hi=false↔¬ (lo≤n∧n≤hi):=by rw [←zBl];simp
theorem zA4 (n lo hi:Int):ACall p_ 72 [i64 n,i64 lo,i64 hi] (fun r _=>r=bl (rng n lo hi)):=by
 refine fg H72 fun E hE hH=> ?_
 repeat' (first|(refine qz ?_ ?_<;>intro h)|refine qy ?_|refine jn _ ?_ ?_|refine qu ?_ ?_|exact qe|refine qw ?_|fail)
 all_goals (simp_all [rng];try omega)
theorem zBs (n lo hi:Int):ACall p_ 53 [i64 n,i64 lo,i64 hi] (fun r _=>r=bl (rng n lo hi)):=by
 refine fg H53 fun E hE hH=> ?_
 repeat' (first|(refine qz ?_ ?_<;>intro h)|refine qy ?_|refine jn _ ?_ ?_|refine qu ?_ ?_|exact qe|refine qw ?_|fail)
 all_goals (simp_all [rng];try omega)
def zMg (b:Int):Bool:=(decide (97≤b)&&decide (b≤122))||(decide (48≤b)&&decide (b≤57))
def hasc (more:ByteArray) (b:Int):Bool:= !zAg (fun i=> !decide (b=byt more i)) more.size
def hasB (s more:ByteArray):Bool:=zAg (fun i=>zMg (byt s i)||hasc more (byt s i)) s.size
def zAW (s:ByteArray):Bool:=rng s.size 1 12&&hasB s ⟨⟨[46,47]⟩⟩
def zCO (s:ByteArray):Bool:=decide ((s.size:Int)≤24)&&hasB s ⟨⟨[46,45,44,95]⟩⟩
theorem zVr (b:Int):ACall p_ 261 [u8 b] (fun r _=>r=bl (zMg b)):=by
 refine fg H261 fun E hE hH=> ?_
 repeat' (first|(refine qz ?_ ?_<;>intro h)|refine qy ?_|refine jn _ ?_ ?_|refine qu ?_ ?_|exact qe|refine qw ?_|fail)
 all_goals (simp_all [zMg]<;>try omega)
theorem zZe (s:ByteArray) (c:UInt8):decide (firstIdx s c<0)=zAg (fun i=> !decide ((c.toNat:Int)=byt s i)) s.size:=by
 rw [Bool.eq_iff_iff,zAs,decide_eq_true_iff]
 have key:∀ i,i<s.size→((s[i]! ==c)=true↔(c.toNat:Int)=byt s i):=by
  intro i hi
  have h1:s[i]! =s.data.toList.getD i 0:=by
   rw [getElem!_pos s i hi]
   simp [ByteArray.getElem_eq_getElem_data,List.getD]
   rw [getElem?_pos _ _ (by simpa using hi)]
   simp
  rw [h1,byt,beq_iff_eq, ←UInt8.toNat_inj]
  omega
 unfold firstIdx
 cases hf:(List.range s.size).find? fun i=>s[i]! ==c with
 |some i=>
  dsimp only
  have h1:=List.find?_some hf
  have h2:i<s.size:=by simpa using List.mem_of_find?_eq_some hf
  constructor
  ·intro h;omega
  ·intro h
   have:=h i h2
   rw [(key i h2).1 h1] at this
   simp at this
 |none=>
  dsimp only
  constructor
  ·intro _ i hi
   have:=List.find?_eq_none.1 hf i (by simpa using hi)
   simp only [Bool.not_eq_true',decide_eq_false_iff_not]
   exact fun e=>this ((key i hi).2 e)
  ·intro _;omega
theorem zAa1 (s:ByteArray) (c:Int) (w:Go.World):(callFunc 322 #[.string s, .int .u8 c]).run p_ w= .ok (.value (.int .i64 (firstIdx s c.toNat.toUInt8))) w:=by
 rw [run_callFunc_extern (e:=Extern.BytealgIndexByte.indexByte) zEa (by kernel_rfl) (by kernel_rfl) (by kernel_rfl) (by kernel_rfl),run_indexByte_string]
 rfl
theorem zRF (s:ByteArray) (c:Int):ACall p_ 295 [str s,u8 c] (fun r _=>r=i64 (firstIdx s c.toNat.toUInt8)):=by
 refine fg H295 fun E hE hH=> ?_;refine st ?_
 refine zYm (vs:=[.string s, .int .u8 c]) rfl (zAa1 s c) ?_
 try simp only [go_sem,hE,hH]
open Go.Proofs.Wb renaming H262→z0_,zRF→z1_ in
theorem zRG (s:ByteArray) (c:Int):ACall p_ 262 [str s,u8 c] (fun r _=>r=i64 (firstIdx s c.toNat.toUInt8)):=zSl
theorem zLw (s more:ByteArray) (hs:s.size≤maxLen):ACall p_ 217 [str s,str more] (fun r _=>r=bl (hasB s more)):=by
 have hm:=zAd
 refine fg H217 fun E hE hH=> ?_;refine st ?_
 refine zAi s.size (fun j (_:Unit)=>⟨[(0,str s),(1,str more),(7,i64 s.size),(8,i64 j)],[]⟩) (fun j _=>zAg (fun i=>zMg (byt s i)||hasc more (byt s i)) j=true) () rfl ?_
 intro j _ hj hI
 try simp only [go_sem,hE,hH,zTT]
 refine gG (fun h=> ?_) (fun h=> ?_)
 ·have hb:=h
  simp only [nf] at h
  have hlt:=h;clear h
  have hf:decide (firstIdx more (byt s j).toNat.toUInt8<0)= !hasc more (byt s j):=by
   rw [zZe,hasc,Bool.not_not]
   congr 1;funext i
   congr 2
   simp [byt]
  try refine sb ?_;try exact ⟨⟩
  repeat' (first|(refine qz ?_ ?_<;>intro h)|refine qy ?_|refine qo ?_|refine cq (zVr _) ?_|refine cq (zRG _ _) ?_|refine jn _ ?_ ?_|refine qu ?_ ?_|exact qe|refine qw ?_|fail)
  ·rw [decide_eq_true h] at hf
   rw [hasB,zAm hlt (by simp_all)]
  ·rw [decide_eq_false (by omega)] at hf
   exact ⟨(),rfl,zAa hI (by simp_all)⟩
  ·exact ⟨(),rfl,zAa hI (by simp_all)⟩
 ·try simp (disch:=omega) only [go_sem,hE,hH,h]
  simp only [nf] at h
  rw [show j=s.size by omega] at hI
  rw [hasB,hI]
theorem zM7 (s more:ByteArray) (hs:s.size≤maxLen) (hm:more.size≤maxLen):ACall p_ 160 [str s,str more] (fun r _=>r=bl (hasB s more)):=by
 have hmx:=zAd
 refine fg H160 fun E hE hH=> ?_;refine st ?_
 refine zAi s.size (fun j (_:Unit)=>⟨[(0,str s),(1,str more),(5,i64 j)],[]⟩) (fun j _=>zAg (fun i=>zMg (byt s i)||hasc more (byt s i)) j=true) () rfl ?_
 intro j _ hj hI
 try simp only [go_sem,hE,hH,zTF]
 refine gG (fun h=> ?_) (fun h=> ?_)
 ·have hb:=h
  simp only [nf] at h
  have hlt:=h;clear h
  try refine sb ?_;try exact ⟨⟩
  repeat' (first|(refine qz ?_ ?_<;>intro h)|refine qy ?_|refine jn _ ?_ ?_|refine qu ?_ ?_|exact qe|refine qw ?_|fail)
  all_goals (
   refine zAU more.size (fun k (_:Unit)=>⟨[(0,str s),(1,str more),(5,i64 j),(6,bl (zMg (byt s j)|| !zAg (fun i=> !decide (byt s j=byt more i)) k)),(7,i64 k)],[]⟩) (fun _ _=>True) () ?_ trivial ?_
   ·simp_all [zMg,zAg]
    try omega
   intro k _ hk _
   try simp only [go_sem,hE,hH,zTE]
   refine gG (fun h=> ?_) (fun h=> ?_)
   ·try simp (disch:=omega) only [go_sem,hE,hH,h]
    simp only [nf] at h
    repeat' (first|(refine qz ?_ ?_<;>intro h)|refine qy ?_|refine jn _ ?_ ?_|refine qu ?_ ?_|exact qe|refine qw ?_|fail)
    ·exact ⟨(),by simp_all [zAg];rcases h with h|h<;>simp [h]⟩
    ·exact ⟨(),by simp_all [zAg]⟩
   ·try simp (disch:=omega) only [go_sem,hE,hH,h]
    simp only [nf] at h
    rw [show k=more.size by omega]
    repeat' (first|(refine qz ?_ ?_<;>intro h)|refine qy ?_|refine jn _ ?_ ?_|refine qu ?_ ?_|exact qe|refine qw ?_|fail)
    ·rw [hasB,zAm hlt (by simp_all [hasc])]
    ·exact ⟨(),rfl,zAa hI (by simp_all [hasc])⟩)
 ·try simp (disch:=omega) only [go_sem,hE,hH,h]
  simp only [nf] at h
  rw [show j=s.size by omega] at hI
  rw [hasB,hI]
theorem zGB (s:ByteArray) (hs:s.size≤maxLen):ACall p_ 175 [str s] (fun r _=>r=bl (zAW s)):=by
 refine fg H175 fun E hE hH=> ?_
 repeat' (first|(refine qz ?_ ?_<;>intro h)|refine qy ?_|refine qo ?_|refine cq (zA4 _ _ _) ?_|refine cq (zLw _ _ hs) ?_|refine jn _ ?_ ?_|refine qu ?_ ?_|exact qe|refine qw ?_|fail)
 all_goals simp_all [zAW]
theorem zDO (s:ByteArray) (hs:s.size≤maxLen):ACall p_ 102 [str s] (fun r _=>r=bl (zAW s)):=by
 refine fg H102 fun E hE hH=> ?_
 repeat' (first|(refine qz ?_ ?_<;>intro h)|refine qy ?_|refine qo ?_|refine cq (zBs _ _ _) ?_|refine cq (zM7 _ _ hs (by decide)) ?_|refine jn _ ?_ ?_|refine qu ?_ ?_|exact qe|refine qw ?_|fail)
 all_goals simp_all [zAW]
def zBw (l:List ByteArray):Bool:=zAg (fun i=>zAW (nth l i)&&(decide (i=0)||zAf (nth l (i-1)) (nth l i))) l.length
theorem zDP (l:List ByteArray) (hl:zA2 (fun s=>s.size≤maxLen) l):ACall p_ 121 [.sl false 1 (strs l)] (fun r _=>r=bl (zBw l)):=by
 obtain ⟨hl,hx⟩:=hl
 have hmx:=zAd
 refine fg H121 fun E hE hH=> ?_;refine st ?_
 refine zAi l.length (fun j (_:Unit)=>⟨[(0, .sl false 1 (strs l)),(5, .sl false 1 (strs l)),(6,i64 l.length),(7,i64 j)],[]⟩) (fun j _=>zAg (fun i=>zAW (nth l i)&&(decide (i=0)||zAf (nth l (i-1)) (nth l i))) j=true) () rfl ?_
 intro j _ hj hI
 try simp only [go_sem,hE,hH,zTx]
 refine gG (fun h=> ?_) (fun h=> ?_)
 ·have hb:=h
  simp only [nf] at h
  have hlt:=h;clear h
  have hs:=hx _ (zAc hlt)
  try refine sb ?_;try exact ⟨⟩
  repeat' (first|(refine qz ?_ ?_<;>intro h)|refine qy ?_|refine qo ?_|refine cq (zGB _ (by assumption)) ?_|refine jn _ ?_ ?_|refine qu ?_ ?_|exact qe|refine qw ?_|fail)
  ·rw [zBw,zAm hlt (by simp_all)]
  ·rw [zBw,zAm hlt (by simp_all<;>omega)]
  ·exact ⟨(),rfl,zAa hI (by simp_all)⟩
  ·exact ⟨(),rfl,zAa hI (by simp_all<;>omega)⟩
 ·try simp (disch:=omega) only [go_sem,hE,hH,h]
  simp only [nf] at h
  rw [show j=l.length by omega] at hI
  rw [zBw,hI]
def zHe (l:List Int) (lo hi:Int):Bool:=zAg (fun i=>rng (nth l i) lo hi) l.length
theorem zRH (l:List Int) (lo hi:Int) (hl:l.length≤maxLen):ACall p_ 46 [.sl false 1 (ints l),i64 lo,i64 hi] (fun r _=>r=bl (zHe l lo hi)):=by
 have hmx:=zAd
 refine fg H46 fun E hE hH=> ?_;refine st ?_
 refine zAi l.length (fun j (_:Unit)=>⟨[(1,i64 lo),(2,i64 hi),(9, .sl false 1 (ints l)),(10,i64 l.length),(11,i64 j)],[]⟩) (fun j _=>zAg (fun i=>rng (nth l i) lo hi) j=true) () rfl ?_
 intro j _ hj hI
 try simp only [go_sem,hE,hH,zW4]
 refine gG (fun h=> ?_) (fun h=> ?_)
 ·have hb:=h
  simp only [nf] at h
  have hlt:=h;clear h
  try refine sb ?_;try exact ⟨⟩
  repeat' (first|(refine qz ?_ ?_<;>intro h)|refine qy ?_|refine qo ?_|refine cq (zBs _ _ _) ?_|refine jn _ ?_ ?_|refine qu ?_ ?_|exact qe|refine qw ?_|fail)
  ·rw [zHe,zAm hlt h]
  ·exact ⟨(),rfl,zAa hI h⟩
 ·try simp (disch:=omega) only [go_sem,hE,hH,h]
  simp only [nf] at h
  rw [show j=l.length by omega] at hI
  rw [zHe,hI]
theorem zZf (l:List Int) (lo hi:Int):(!l.any fun n=> !rng n lo hi)=zHe l lo hi:=by
 rw [zHe,zAQ (p:=fun n=>rng n lo hi)]
 simp [List.any_eq_not_all_not]
theorem zPE (l:List ByteArray) (key:ByteArray) (hl:l.length≤maxLen):ACall p_ 92 [.sl false 1 (strs l),str key] (fun r _=>r=i64 (zCs (fun i=> !zAf key (nth l i)) l.length)):=by
 have hmx:=zAd
 refine fg H92 fun E hE hH=> ?_;refine st ?_
 refine zAi l.length (fun j (c:Nat)=>⟨[(1,str key),(5,i64 c),(8, .sl false 1 (strs l)),(9,i64 l.length),(10,i64 j)],[]⟩) (fun j c=>c=zCs (fun i=> !zAf key (nth l i)) j) 0 rfl ?_
 intro j c hj hI
 have hc:c≤j:=by rw [hI];exact zGI
 try simp only [go_sem,hE,hH,zXi]
 refine gG (fun h=> ?_) (fun h=> ?_)
 ·have hb:=h
  simp only [nf] at h
  have hlt:=h;clear h
  try refine sb ?_;try exact ⟨⟩
  repeat' (first|(refine qz ?_ ?_<;>intro h)|refine qy ?_|refine jn _ ?_ ?_|refine qu ?_ ?_|exact qe|refine qw ?_|fail)
  ·simp [zCs,h,hI]
  ·simp [zCs,h,hI]
 ·try simp (disch:=omega) only [go_sem,hE,hH,h]
  simp only [nf] at h
  rw [show j=l.length by omega] at hI
  rw [hI]
end Go.Proofs.Wb

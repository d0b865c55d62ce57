import Derived.Test.YthfpgpkdankdjaaGreatDoorFnExactSoundWorldN0
import Derived.Laws.Externs
set_option linter.all false
set_option maxHeartbeats 4000000
namespace Go.Proofs.Wb
open Tryz renaming prog→p_
open Go Go.Am
def stored (v:ByteArray) (gone:Bool):Bool:=zCO v&& !(gone&& !decide (v=⟨⟨[]⟩⟩))
theorem zDA {α β:Type} [Inhabited α] [Inhabited β] {f:α→β} {l:List α} {i:Nat} (h:i<l.length):nth (l.map f) i=f (nth l i):=by
 rw [zAN (by simpa using h),zAN h,List.getElem_map]
theorem zM8 (s:ByteArray) (hs:s.size≤maxLen):ACall p_ 223 [str s] (fun r _=>r=bl (zCO s)):=by
 refine fg H223 fun E hE hH=> ?_
 repeat' (first|(refine qz ?_ ?_<;>intro h)|refine qy ?_|refine qo ?_|refine cq (zLw _ _ hs) ?_|refine jn _ ?_ ?_|refine qu ?_ ?_|exact qe|refine qw ?_|fail)
 all_goals (first|(simp_all [zCO];done)|(simp_all [zCO]<;>first|omega|(intros;omega)))
theorem zMh (s:ByteArray) (hs:s.size≤maxLen):ACall p_ 163 [str s] (fun r _=>r=bl (zCO s)):=by
 refine fg H163 fun E hE hH=> ?_
 repeat' (first|(refine qz ?_ ?_<;>intro h)|refine qy ?_|refine qo ?_|refine cq (zM7 _ _ hs (by decide)) ?_|refine jn _ ?_ ?_|refine qu ?_ ?_|exact qe|refine qw ?_|fail)
 all_goals (first|(simp_all [zCO];done)|(simp_all [zCO]<;>first|omega|(intros;omega)))
theorem zH2 (s:ByteArray) (g:Bool) (hs:s.size≤maxLen):ACall p_ 181 [str s,bl g] (fun r _=>r=bl (stored s g)):=by
 refine fg H181 fun E hE hH=> ?_
 repeat' (first|(refine qz ?_ ?_<;>intro h)|refine qy ?_|refine qo ?_|refine cq (zM8 _ hs) ?_|refine jn _ ?_ ?_|refine qu ?_ ?_|exact qe|refine qw ?_|fail)
 all_goals simp_all [stored]
theorem zM9 (k s:ByteArray) (g:Bool) (hk:k.size≤maxLen) (hs:s.size≤maxLen):ACall p_ 290 [str k,str s,bl g] (fun r _=>r=bl (zAW k&&stored s g)):=by
 refine fg H290 fun E hE hH=> ?_
 repeat' (first|(refine qz ?_ ?_<;>intro h)|refine qy ?_|refine qo ?_|refine cq (zDO _ hk) ?_|refine cq (zMh _ hs) ?_|refine jn _ ?_ ?_|refine qu ?_ ?_|exact qe|refine qw ?_|fail)
 all_goals simp_all [stored]
def zBx (l:List Write):Bool:=decide ((l.length:Int)≤24)&&zAg (fun i=>(zAW (nth l i).Key&&stored (nth l i).Val (nth l i).Gone)&&(decide (i=0)||zAf (nth l (i-1)).Key (nth l i).Key)) l.length
theorem zJA (l:List Write):zBx l=(decide ((l.length:Int)≤24)&&zBw (l.map (·.Key))&& !l.any fun w=> !stored w.Val w.Gone):=by
 have h1:(!l.any fun w=> !stored w.Val w.Gone)=zAg (fun i=>stored (nth l i).Val (nth l i).Gone) l.length:=by
  rw [zAQ (p:=fun w:Write=>stored w.Val w.Gone)]
  simp [List.any_eq_not_all_not]
 have h2:zBw (l.map (·.Key))=zAg (fun i=>zAW (nth l i).Key&&(decide (i=0)||zAf (nth l (i-1)).Key (nth l i).Key)) l.length:=by
  unfold zBw
  rw [List.length_map]
  refine zES fun i hi=> ?_
  rw [zDA hi,zDA (by omega)]
 rw [h1,h2,zBx,Bool.and_assoc]
 congr 1
 rw [Bool.eq_iff_iff,Bool.and_eq_true,zAs,zAs,zAs]
 constructor
 ·intro h
  exact ⟨fun i hi=>by have:=h i hi;simp only [Bool.and_eq_true] at this ⊢;exact ⟨this.1.1,this.2⟩,fun i hi=>by have:=h i hi;simp only [Bool.and_eq_true] at this ⊢;exact this.1.2⟩
 ·rintro ⟨ha,hb⟩ i hi
  have ha:=ha i hi;have hb:=hb i hi
  simp only [Bool.and_eq_true] at ha hb ⊢
  exact ⟨⟨ha.1,hb⟩,ha.2⟩
theorem zKt (l:List Write) (hl:l.length≤2^20):ACall p_ 243 [.sl false 3 (l.map (Write.row false))] (fun r _=>r= .sl true 1 (strs (l.map (·.Key)))):=by
 refine fg H243 fun E hE hH=> ?_;refine st ?_
 refine zAU l.length (fun j (x:List ByteArray)=>⟨[(3, .ref 4000000 0 x.length),(7, .sl false 3 (l.map (Write.row false))),(8,i64 l.length),(9,i64 j)],[(4000000,⟨1,strs x⟩)]⟩) (fun j x=>x=(l.take j).map (·.Key)) [] (by simp) (by simp) ?_
 intro j x hj hx
 have hlen:x.length=j:=by rw [hx];simp;omega
 try simp only [go_sem,hE,hH,zTV]
 refine gG (fun h=> ?_) (fun h=> ?_)
 ·have hb:=h
  simp only [nf] at h
  try refine sb ?_;try exact ⟨⟩
  refine ⟨by omega,by omega,by omega, ?_⟩
  rw [zAw h,List.map_append, ←hx]
  simp [hlen];omega
 ·have hb:=h
  simp only [nf] at h
  try refine sb ?_;try exact ⟨⟩
  rw [hx,show j=l.length by omega,List.take_length]
theorem zNa (w:Write) (hw:w.wf):ACall p_ 264 [.agg (Write.row false w)] (fun r _=>r=bl (!stored w.Val w.Gone)):=by
 obtain ⟨w1,w2⟩:=hw
 refine fg H264 fun E hE hH=> ?_
 repeat' (first|(refine qz ?_ ?_<;>intro h)|refine qy ?_|refine qo ?_|refine cq (zH2 _ _ w2) ?_|refine jn _ ?_ ?_|refine qu ?_ ?_|exact qe|refine qw ?_|fail)
theorem zP9 (l:List Write) (hl:wfL Write.wf l):ACall p_ 219 [.sl false 3 (l.map (Write.row false))] (fun r _=>r=bl (zBx l)):=by
 obtain ⟨hl,hx⟩:=hl
 have hmx:=zAd
 have hr:zA2 (fun s:ByteArray=>s.size≤maxLen) (l.map (·.Key)):=⟨by simpa using hl,fun s hs=>by obtain ⟨w,hw,rfl⟩:=List.mem_map.1 hs;exact (hx w hw).1⟩
 rw [zJA]
 refine fg H219 fun E hE hH=> ?_
 repeat' (first|(refine qz ?_ ?_<;>intro h)|refine qy ?_|refine qo ?_|refine cq (zKt l (by omega)) ?_|refine cq (zDP _ hr) ?_|refine cq (zEC l _ [] (fun w=> !stored w.Val w.Gone) (by kernel_rfl) rfl hl (fun w hw=>zNa w (hx w hw))) ?_|refine jn _ ?_ ?_|refine qu ?_ ?_|exact qe|refine qw ?_|fail)
 all_goals (first|(simp_all [];done)|(simp_all []<;>first|omega|(intros;omega)))
theorem zLx (l:List Write) (hl:wfL Write.wf l):ACall p_ 253 [.sl false 3 (l.map (Write.row false))] (fun r _=>r=bl (zBx l)):=by
 obtain ⟨hl,hx⟩:=hl
 have hmx:=zAd
 refine fg H253 fun E hE hH=> ?_;refine st ?_
 refine zAi l.length (fun j (_:Unit)=>⟨[(0, .sl false 3 (l.map (Write.row false))),(5, .sl false 3 (l.map (Write.row false))),(6,i64 l.length),(7,i64 j)],[]⟩) (fun j _=>zAg (fun i=>(zAW (nth l i).Key&&stored (nth l i).Val (nth l i).Gone)&&(decide (i=0)||zAf (nth l (i-1)).Key (nth l i).Key)) j=true) () rfl ?_
 intro j _ hj hI
 try simp only [go_sem,hE,hH,zTZ]
 refine gG (fun h=> ?_) (fun h=> ?_)
 ·have hb:=h
  simp only [nf] at h
  have hlt:=h;clear h
  obtain ⟨w1,w2⟩:=hx _ (zAc hlt)
  try refine sb ?_;try exact ⟨⟩
  repeat' (first|(refine qz ?_ ?_<;>intro h)|refine qy ?_|refine qo ?_|refine cq (zM9 _ _ _ w1 w2) ?_|refine jn _ ?_ ?_|refine qu ?_ ?_|exact qe|refine qw ?_|fail)
  ·rw [zBx,zAm hlt (by simp_all)];simp
  ·rw [zBx,zAm hlt (by simp_all<;>omega)];simp
  ·first|exact ⟨(),rfl,zAa hI (by simp_all<;>omega)⟩|exact ⟨by omega,(),rfl,zAa hI (by simp_all<;>omega)⟩|exact ⟨by omega,by omega,(),rfl,zAa hI (by simp_all<;>omega)⟩
  ·first|exact ⟨(),rfl,zAa hI (by simp_all<;>omega)⟩|exact ⟨by omega,(),rfl,zAa hI (by simp_all<;>omega)⟩|exact ⟨by omega,by omega,(),rfl,zAa hI (by simp_all<;>omega)⟩
 ·try simp (disch:=omega) only [go_sem,hE,hH,h]
  simp only [nf] at h
  rw [show j=l.length by omega] at hI
  rw [zBx,hI]
  simp
def zAK (l:List Got):Bool:=zAg (fun i=>(zAW (nth l i).Key&&stored (nth l i).Val (!(nth l i).There))&& !(l.take i).any fun h=>decide (h.Key=(nth l i).Key)) l.length&&decide ((l.length:Int)≤8)
theorem zSK (h g:Got):ACall p_ 183 ([.agg (Got.row false h)]++[.bx false (Got.row false g)]) (fun r _=>r=bl (decide (h.Key=g.Key))):=by
 refine fg H183 fun E hE hH=> ?_
 try refine st ?_;try exact ⟨⟩
theorem zPF (l:List Got) (hl:wfL Got.wf l):ACall p_ 134 [.sl false 3 (l.map (Got.row false))] (fun r _=>r=bl (zAK l)):=by
 obtain ⟨hl,hx⟩:=hl
 have hmx:=zAd
 refine fg H134 fun E hE hH=> ?_;refine st ?_
 refine zAi l.length (fun j (_:Unit)=>⟨[(0, .sl false 3 (l.map (Got.row false))),(5, .sl false 3 (l.map (Got.row false))),(6,i64 l.length),(7,i64 j)],[]⟩) (fun j _=>zAg (fun i=>(zAW (nth l i).Key&&stored (nth l i).Val (!(nth l i).There))&& !(l.take i).any fun h=>decide (h.Key=(nth l i).Key)) j=true) () rfl ?_
 intro j _ hj hI
 try simp only [go_sem,hE,hH,zTz]
 refine gG (fun h=> ?_) (fun h=> ?_)
 ·have hb:=h
  simp only [nf] at h
  have hlt:=h;clear h
  obtain ⟨w1,w2⟩:=hx _ (zAc hlt)
  have ht:((l.map (Got.row false)).take j)=(l.take j).map (Got.row false):=by rw [List.map_take]
  try simp (disch:=omega) only [go_sem,hE,hH,hb,ht]
  repeat' (first|(refine qz ?_ ?_<;>intro h)|refine qy ?_|refine qo ?_|refine cq (zGB _ w1) ?_|refine cq (zH2 _ _ w2) ?_|refine cq (zJG (l.take j) _ [.bx false (Got.row false (nth l j))] (fun h=>decide (h.Key=(nth l j).Key)) (by kernel_rfl) rfl (by rw [List.length_take];omega) (fun h _=>zSK h _)) ?_|refine jn _ ?_ ?_|refine qu ?_ ?_|exact qe|refine qw ?_|fail)
  ·rw [zAK,zAm hlt (by simp_all)];simp
  ·rw [zAK,zAm hlt (by simp_all)];simp
  ·rw [zAK,zAm hlt (by simp_all)];simp
  ·first|exact ⟨(),rfl,zAa hI (by simp_all)⟩|exact ⟨by omega,(),rfl,zAa hI (by simp_all)⟩|exact ⟨by omega,by omega,(),rfl,zAa hI (by simp_all)⟩
 ·try simp (disch:=omega) only [go_sem,hE,hH,h]
  simp only [nf] at h
  rw [show j=l.length by omega] at hI
  rw [zAK,hI]
  simp
theorem zPG (l:List Got) (hl:wfL Got.wf l):ACall p_ 107 [.sl false 3 (l.map (Got.row false))] (fun r _=>r=bl (zAK l)):=by
 obtain ⟨hl,hx⟩:=hl
 have hmx:=zAd
 refine fg H107 fun E hE hH=> ?_;refine st ?_
 refine zAi l.length (fun j (_:Unit)=>⟨[(0, .sl false 3 (l.map (Got.row false))),(7, .sl false 3 (l.map (Got.row false))),(8,i64 l.length),(9,i64 j)],[]⟩) (fun j _=>zAg (fun i=>(zAW (nth l i).Key&&stored (nth l i).Val (!(nth l i).There))&& !(l.take i).any fun h=>decide (h.Key=(nth l i).Key)) j=true) () rfl ?_
 intro j _ hj hI
 try simp only [go_sem,hE,hH,zTn]
 refine gG (fun h=> ?_) (fun h=> ?_)
 ·have hb:=h
  simp only [nf] at h
  have hlt:=h;clear h
  obtain ⟨w1,w2⟩:=hx _ (zAc hlt)
  try refine sb ?_;try exact ⟨⟩
  repeat' (first|(refine qz ?_ ?_<;>intro h)|refine qy ?_|refine qo ?_|refine cq (zDO _ w1) ?_|refine cq (zMh _ w2) ?_|refine jn _ ?_ ?_|refine qu ?_ ?_|exact qe|refine qw ?_|fail)
  ·rw [zAK,zAm hlt (by simp_all)];simp
  ·rw [zAK,zAm hlt (by simp_all [stored])];simp
  ·rw [zAK,zAm hlt (by simp_all [stored])];simp
  ·have hlj:(l.take j).length=j:=by rw [List.length_take];omega
   refine zAi (l.take j).length (fun k (_:Unit)=>⟨[(0, .sl false 3 (l.map (Got.row false))),(4, .ptr 5000000 0 0),(7, .sl false 3 (l.map (Got.row false))),(8,i64 l.length),(9,i64 j),(36, .sl false 3 ((l.take j).map (Got.row false))),(37,i64 (l.take j).length),(38,i64 k)],[(5000000,⟨3,[Got.row false (nth l j)]⟩)]⟩) (fun k _=>zAg (fun i=> !decide ((nth (l.take j) i).Key=(nth l j).Key)) k=true) () rfl ?_
   intro k _ hk hK
   try simp only [go_sem,hE,hH,zOg]
   refine gG (fun h2=> ?_) (fun h2=> ?_)
   ·have hb2:=h2
    simp only [nf] at h2
    have hlt2:k<(l.take j).length:=by omega
    try simp (disch:=omega) only [go_sem,hE,hH,hb2]
    repeat' (first|(refine qz ?_ ?_<;>intro h)|refine qy ?_|refine jn _ ?_ ?_|refine qu ?_ ?_|exact qe|refine qw ?_|fail)
    ·rw [zAK,zAm hlt (by
      have:((l.take j).any fun h=>decide (h.Key=(nth l j).Key))=true:=List.any_eq_true.2 ⟨_,zAc hlt2,by simp_all⟩
      simp_all)]
     simp
    ·first|exact ⟨(),rfl,zAa hK (by show (!decide _)=true;rw [Bool.not_eq_true',decide_eq_false_iff_not];exact fun e=>h e.symm)⟩|exact ⟨by omega,(),rfl,zAa hK (by show (!decide _)=true;rw [Bool.not_eq_true',decide_eq_false_iff_not];exact fun e=>h e.symm)⟩|exact ⟨by omega,by omega,(),rfl,zAa hK (by show (!decide _)=true;rw [Bool.not_eq_true',decide_eq_false_iff_not];exact fun e=>h e.symm)⟩
   ·try simp (disch:=omega) only [go_sem,hE,hH,h2]
    simp only [nf] at h2
    rw [show k=(l.take j).length by omega] at hK
    have hN:((l.take j).any fun h=>decide (h.Key=(nth l j).Key))=false:=by
     rw [zAQ (p:=fun h:Got=> !decide (h.Key=(nth l j).Key))] at hK
     rw [List.any_eq_false]
     intro x hx'
     have:=List.all_eq_true.1 hK x hx'
     simpa using this
    first|exact ⟨(),rfl,zAa hI (by simp_all [stored])⟩|exact ⟨by omega,(),rfl,zAa hI (by simp_all [stored])⟩|exact ⟨by omega,by omega,(),rfl,zAa hI (by simp_all [stored])⟩
  ·have hlj:(l.take j).length=j:=by rw [List.length_take];omega
   refine zAi (l.take j).length (fun k (_:Unit)=>⟨[(0, .sl false 3 (l.map (Got.row false))),(4, .ptr 5000000 0 0),(7, .sl false 3 (l.map (Got.row false))),(8,i64 l.length),(9,i64 j),(36, .sl false 3 ((l.take j).map (Got.row false))),(37,i64 (l.take j).length),(38,i64 k)],[(5000000,⟨3,[Got.row false (nth l j)]⟩)]⟩) (fun k _=>zAg (fun i=> !decide ((nth (l.take j) i).Key=(nth l j).Key)) k=true) () rfl ?_
   intro k _ hk hK
   try simp only [go_sem,hE,hH,zOg]
   refine gG (fun h2=> ?_) (fun h2=> ?_)
   ·have hb2:=h2
    simp only [nf] at h2
    have hlt2:k<(l.take j).length:=by omega
    try simp (disch:=omega) only [go_sem,hE,hH,hb2]
    repeat' (first|(refine qz ?_ ?_<;>intro h)|refine qy ?_|refine jn _ ?_ ?_|refine qu ?_ ?_|exact qe|refine qw ?_|fail)
    ·rw [zAK,zAm hlt (by
      have:((l.take j).any fun h=>decide (h.Key=(nth l j).Key))=true:=List.any_eq_true.2 ⟨_,zAc hlt2,by simp_all⟩
      simp_all)]
     simp
    ·first|exact ⟨(),rfl,zAa hK (by show (!decide _)=true;rw [Bool.not_eq_true',decide_eq_false_iff_not];exact fun e=>h e.symm)⟩|exact ⟨by omega,(),rfl,zAa hK (by show (!decide _)=true;rw [Bool.not_eq_true',decide_eq_false_iff_not];exact fun e=>h e.symm)⟩|exact ⟨by omega,by omega,(),rfl,zAa hK (by show (!decide _)=true;rw [Bool.not_eq_true',decide_eq_false_iff_not];exact fun e=>h e.symm)⟩
   ·try simp (disch:=omega) only [go_sem,hE,hH,h2]
    simp only [nf] at h2
    rw [show k=(l.take j).length by omega] at hK
    have hN:((l.take j).any fun h=>decide (h.Key=(nth l j).Key))=false:=by
     rw [zAQ (p:=fun h:Got=> !decide (h.Key=(nth l j).Key))] at hK
     rw [List.any_eq_false]
     intro x hx'
     have:=List.all_eq_true.1 hK x hx'
     simpa using this
    first|exact ⟨(),rfl,zAa hI (by simp_all [stored])⟩|exact ⟨by omega,(),rfl,zAa hI (by simp_all [stored])⟩|exact ⟨by omega,by omega,(),rfl,zAa hI (by simp_all [stored])⟩
 ·try simp (disch:=omega) only [go_sem,hE,hH,h]
  simp only [nf] at h
  rw [show j=l.length by omega] at hI
  rw [zAK,hI]
  simp
open Go.Proofs.Wb renaming H178→z0_,zA4→z1_ in
theorem zRI (n:Int):ACall p_ 178 [i64 n] (fun r _=>r=bl (rng n 1 60)):=zO4
open Go.Proofs.Wb renaming H71→z0_,zA4→z1_ in
theorem zHF (n:Int):ACall p_ 71 [i64 n] (fun r _=>r=bl (rng n 0 100000)):=zO4
open Go.Proofs.Wb renaming H52→z0_,zBs→z1_ in
theorem zKu (n:Int):ACall p_ 52 [i64 n] (fun r _=>r=bl (rng n 0 100000)):=zO4
theorem zZg {α:Type} [Inhabited α] {l:List α} {i k:Nat}:nth (l.drop i) k=nth l (i+k):=by
 simp [nth,List.getD,List.getElem?_drop]
theorem zNb (x:ByteArray):ACall p_ 286 [str x] (fun r _=>r=bl false):=by
 refine fg H286 fun E hE hH=> ?_
 try refine st ?_;try exact ⟨⟩
def zEW (a b:ByteArray):Int:=if zAf a b then -1 else if zAf b a then 1 else 0
theorem zGo (a b:ByteArray):ACall p_ 247 [str a,str b] (fun r _=>r=i64 (zEW a b)):=by
 refine fg H247 fun E hE hH=> ?_
 repeat' (first|(refine qz ?_ ?_<;>intro h)|refine qy ?_|refine qo ?_|refine cq (zNb _) ?_|refine jn _ ?_ ?_|refine qu ?_ ?_|exact qe|refine qw ?_|fail)
 all_goals (rcases zBI a b with q|q|q<;>simp_all [zEW,zBm,zC0])
open Go.Proofs.Wb renaming H276→z0_,zGo→z1_ in
theorem zOy (w:Write) (key:ByteArray):ACall p_ 276 ([.agg (Write.row false w),str key]++[]) (fun r _=>r=i64 (zEW w.Key key)):=zSl
def zCm (l:List Write):Prop:=∀ i j,i<j→j<l.length→zAf (nth l i).Key (nth l j).Key=true
theorem zIx {l:List Write} (h:zBx l=true):zCm l:=by
 simp only [zBx,Bool.and_eq_true] at h
 have key:∀ d i,i+d+1<l.length→zAf (nth l i).Key (nth l (i+d+1)).Key=true:=by
  intro d
  induction d with
  |zero=>
   intro i hi
   have:=zAs.1 h.2 (i+1) (by omega)
   simp only [Bool.and_eq_true,Bool.or_eq_true,decide_eq_true_eq] at this
   exact this.2.resolve_left (by omega)
  |succ d ih=>
   intro i hi
   have h1:=ih i (by omega)
   have:=zAs.1 h.2 (i+d+2) (by omega)
   simp only [Bool.and_eq_true,Bool.or_eq_true,decide_eq_true_eq] at this
   exact zBk h1 (this.2.resolve_left (by omega))
 intro i j h1 h2
 have:=key (j-i-1) i (by omega)
 rwa [show i+(j-i-1)+1=j by omega] at this
def fwI (l:List Write) (k:ByteArray):Nat:=zCs (fun i=>zAf (nth l i).Key k) l.length
def fwF (l:List Write) (k:ByteArray):Bool:=l.any fun w=>decide (w.Key=k)
theorem zMi {a b:ByteArray}:zEW a b<0↔zAf a b=true:=by
 unfold zEW
 split
 ·simp_all
 ·split<;>simp_all
theorem zKv {a b:ByteArray}:zEW a b=0↔a=b:=by
 unfold zEW
 rcases zBI a b with h|h|h
 ·rw [if_pos h];simp [zI3 h]
 ·subst h;simp [zBm]
 ·rw [zC0 h,if_neg (by simp),if_pos h];simp [(zI3 h).symm]
theorem zZ6 {l:List Write} (hs:zCm l) (k:ByteArray):bsI (fun w:Write=>zEW w.Key k) l=fwI l k∧bsF (fun w:Write=>zEW w.Key k) l=fwF l k:=by
 have e1:bsI (fun w:Write=>zEW w.Key k) l=fwI l k:=by
  unfold bsI fwI
  congr 1;funext i
  rw [Bool.eq_iff_iff,decide_eq_true_iff,zMi]
 refine ⟨e1, ?_⟩
 rw [Bool.eq_iff_iff]
 unfold bsF fwF
 rw [e1,Bool.and_eq_true,decide_eq_true_iff,decide_eq_true_iff,zKv,List.any_eq_true]
 constructor
 ·rintro ⟨h1,h2⟩;exact ⟨_,zAc h1,by simp [h2]⟩
 ·rintro ⟨w,hw,h1⟩
  obtain ⟨i,hi,rfl⟩:=List.getElem_of_mem hw
  simp only [decide_eq_true_eq] at h1
  rw [←zAN hi] at h1
  have e2:fwI l k=i:=by
   unfold fwI
   rw [zEB (Nat.le_of_lt hi) (fun j a b=> ?_),zFt (zAs.2 fun j hj=> ?_)]
   ·rw [←h1];exact hs j i hj hi
   ·by_cases e:j=i
    ·rw [e,h1];exact zBm _
    ·rw [←h1];exact zC0 (hs i j (by omega) b)
  rw [e2];exact ⟨hi,h1⟩
theorem zEX (l:List Write) (key:ByteArray) (hl:l.length≤2^60) (hs:zCm l):ACall p_ 227 [.sl false 3 (l.map (Write.row false)),str key] (fun r _=>r= .tup [i64 (fwI l key),bl (fwF l key)]):=by
 obtain ⟨e1,e2⟩:=zZ6 hs key
 refine fg H227 fun E hE hH=> ?_
 repeat' (first|(refine qz ?_ ?_<;>intro h)|refine qy ?_|refine qo ?_|refine cq (zGz l key _ [] (fun w=>zEW w.Key key) (by kernel_rfl) rfl hl (fun i j h1 h2 h3=>by have:=hs i j h1 h2;rw [←Int.not_lt,zMi] at h3 ⊢;exact fun h=>h3 (zBk this h)) (fun w _=>zOy w key)) ?_|refine jn _ ?_ ?_|refine qu ?_ ?_|exact qe|refine qw ?_|fail)
 all_goals simp only [e1,e2]
theorem zLy (l:List Write) (key:ByteArray) (hl:l.length≤maxLen):ACall p_ 291 [.sl false 3 (l.map (Write.row false)),str key] (fun r _=>r=bl (fwF l key)):=by
 have hmx:=zAd
 refine fg H291 fun E hE hH=> ?_;refine st ?_
 refine zAi l.length (fun j (_:Unit)=>⟨[(1,str key),(7, .sl false 3 (l.map (Write.row false))),(8,i64 l.length),(9,i64 j)],[]⟩) (fun j _=>zAg (fun i=> !decide ((nth l i).Key=key)) j=true) () rfl ?_
 intro j _ hj hI
 try simp only [go_sem,hE,hH,zT8]
 refine gG (fun h=> ?_) (fun h=> ?_)
 ·have hb:=h
  simp only [nf] at h
  have hlt:=h;clear h
  try refine sb ?_;try exact ⟨⟩
  repeat' (first|(refine qz ?_ ?_<;>intro h)|refine qy ?_|refine jn _ ?_ ?_|refine qu ?_ ?_|exact qe|refine qw ?_|fail)
  ·have:fwF l key=true:=List.any_eq_true.2 ⟨_,zAc hlt,by simp [h]⟩
   rw [this]
  ·first|exact ⟨(),rfl,zAa hI (by simp [h])⟩|exact ⟨by omega,(),rfl,zAa hI (by simp [h])⟩|exact ⟨by omega,by omega,(),rfl,zAa hI (by simp [h])⟩
 ·try simp (disch:=omega) only [go_sem,hE,hH,h]
  simp only [nf] at h
  rw [show j=l.length by omega,zAQ (p:=fun w:Write=> !decide (w.Key=key))] at hI
  have:fwF l key=false:=by
   rw [fwF,List.any_eq_false];intro x hx;simpa using List.all_eq_true.1 hI x hx
  rw [this]
def zI9 (ws:List Write) (reads:List ByteArray) (others:List Write):Bool:=ws.any fun w=>fwF others w.Key||reads.any fun x=>decide (w.Key=x)
theorem zRJ (w:Write) (others:List Write) (reads:List ByteArray) (hl:others.length≤2^60) (hr:reads.length≤maxLen) (hs:zCm others):ACall p_ 351 ([.agg (Write.row false w)]++[.bx false [.sl false 3 (others.map (Write.row false))], .bx false [.sl false 1 (strs reads)]]) (fun r _=>r=bl (fwF others w.Key||reads.any fun x=>decide (w.Key=x))):=by
 refine fg H351 fun E hE hH=> ?_
 repeat' (first|(refine qz ?_ ?_<;>intro h)|refine qy ?_|refine qo ?_|refine cq (zEX others _ hl hs) ?_|refine cq (zKs _ _ hr) ?_|refine jn _ ?_ ?_|refine qu ?_ ?_|exact qe|refine qw ?_|fail)
 all_goals simp_all
theorem zNc (ws:List Write) (reads:List ByteArray) (others:List Write) (hw:ws.length≤maxLen) (hl:others.length≤2^60) (hr:reads.length≤maxLen) (hs:zCm others):ACall p_ 332 [.sl false 3 (ws.map (Write.row false)), .sl false 1 (strs reads), .sl false 3 (others.map (Write.row false))] (fun r _=>r=bl (zI9 ws reads others)):=by
 refine fg H332 fun E hE hH=> ?_
 repeat' (first|(refine qz ?_ ?_<;>intro h)|refine qy ?_|refine qo ?_|refine cq (zEC ws _ [.bx false [.sl false 3 (others.map (Write.row false))], .bx false [.sl false 1 (strs reads)]] (fun w=>fwF others w.Key||reads.any fun x=>decide (w.Key=x)) (by kernel_rfl) rfl hw (fun w _=>zRJ w others reads hl hr hs)) ?_|refine jn _ ?_ ?_|refine qu ?_ ?_|exact qe|refine qw ?_|fail)
 rfl
def zJa (a b:Int):Int:=if a<b then -1 else if b<a then 1 else 0
theorem zRK (x:Int):ACall p_ 199 [i64 x] (fun r _=>r=bl false):=by
 refine fg H199 fun E hE hH=> ?_
 try refine st ?_;try exact ⟨⟩
theorem zIy (a b:Int):ACall p_ 151 [i64 a,i64 b] (fun r _=>r=i64 (zJa a b)):=by
 refine fg H151 fun E hE hH=> ?_
 repeat' (first|(refine qz ?_ ?_<;>intro h)|refine qy ?_|refine qo ?_|refine cq (zRK _) ?_|refine jn _ ?_ ?_|refine qu ?_ ?_|exact qe|refine qw ?_|fail)
 all_goals (unfold zJa)
 ·rw [if_pos h]
 ·rw [if_neg (by omega),if_pos h]
 ·rw [if_neg (by omega),if_neg (by omega)]
theorem zVs (a b:Int):ACall p_ 55 [i64 a,i64 b] (fun r _=>r=i64 (if a<b then a else b)):=by
 refine fg H55 fun E hE hH=> ?_
 repeat' (first|(refine qz ?_ ?_<;>intro h)|refine qy ?_|refine jn _ ?_ ?_|refine qu ?_ ?_|exact qe|refine qw ?_|fail)
 all_goals (first|rw [if_pos (by omega)]|rw [if_neg (by omega)])
theorem zXo (n:Int):ACall p_ 122 [i64 n] (fun r _=>r=bl (decide (n=3)||decide (n=5))):=by
 refine fg H122 fun E hE hH=> ?_
 repeat' (first|(refine qz ?_ ?_<;>intro h)|refine qy ?_|refine jn _ ?_ ?_|refine qu ?_ ?_|exact qe|refine qw ?_|fail)
 all_goals (first|(simp_all [];done)|(simp_all []<;>first|omega|(intros;omega)))
def zQu (a b:Int):Int:=if a>b then a else b
theorem zXp (a b:Int):ACall p_ 211 [i64 a,i64 b] (fun r _=>r=i64 (zQu a b)):=by
 refine fg H211 fun E hE hH=> ?_
 repeat' (first|(refine qz ?_ ?_<;>intro h)|refine qy ?_|refine jn _ ?_ ?_|refine qu ?_ ?_|exact qe|refine qw ?_|fail)
 all_goals (simp only [zQu];first|rw [if_pos (by omega)]|rw [if_neg (by omega)])
open Go.Proofs.Wb renaming H218→z0_,zA4→z1_ in
theorem zPH (n:Int):ACall p_ 218 [i64 n] (fun r _=>r=bl (rng n 1 100000)):=zO4
open Go.Proofs.Wb renaming H251→z0_,zBs→z1_ in
theorem zKw (n:Int):ACall p_ 251 [i64 n] (fun r _=>r=bl (rng n 1 100000)):=zO4
theorem zPI (l:List ByteArray) (hl:zA2 (fun s=>s.size≤maxLen) l):ACall p_ 252 [.sl false 1 (strs l)] (fun r _=>r=bl (zBw l&&decide ((l.length:Int)≤8))):=by
 obtain ⟨hl,hx⟩:=hl
 have hmx:=zAd
 refine fg H252 fun E hE hH=> ?_;refine st ?_
 refine zAi l.length (fun j (_:Unit)=>⟨[(0, .sl false 1 (strs l)),(5, .sl false 1 (strs l)),(6,i64 l.length),(7,i64 j)],[]⟩) (fun j _=>zAg (fun i=>zAW (nth l i)&&(decide (i=0)||zAf (nth l (i-1)) (nth l i))) j=true) () rfl ?_
 intro j _ hj hI
 try simp only [go_sem,hE,hH,zTY]
 refine gG (fun h=> ?_) (fun h=> ?_)
 ·have hb:=h
  simp only [nf] at h
  have hlt:=h;clear h
  have hs:=hx _ (zAc hlt)
  try refine sb ?_;try exact ⟨⟩
  repeat' (first|(refine qz ?_ ?_<;>intro h)|refine qy ?_|refine qo ?_|refine cq (zDO _ (by assumption)) ?_|refine jn _ ?_ ?_|refine qu ?_ ?_|exact qe|refine qw ?_|fail)
  ·rw [zBw,zAm hlt (by simp_all)];rfl
  ·rw [zBw,zAm hlt (by simp_all<;>omega)];rfl
  ·exact ⟨(),rfl,zAa hI (by simp_all)⟩
  ·exact ⟨(),rfl,zAa hI (by simp_all<;>omega)⟩
 ·try simp (disch:=omega) only [go_sem,hE,hH,h]
  simp only [nf] at h
  rw [show j=l.length by omega] at hI
  rw [zBw,hI]
  simp
def zFT (r:Rec):Bool:=decide (r.Lead=0)&&decide (r.Reads.length=0)&&decide (r.Writes.length=0)
def zA7 (r:Rec):Bool:=
 if r.Kind=1 then rng r.Txn 1 60&&rng r.Time 1 100000&&rng r.Lead 0 3&&(zBw r.Reads&&decide ((r.Reads.length:Int)≤8))&&decide ((r.Writes.length:Int)≤8)&&zBx r.Writes&&decide (0<r.Reads.length+r.Writes.length)&& !r.Yes
 else if r.Kind=2∨r.Kind=3 then zFT r&&rng r.Txn 1 60&&((r.Yes&&rng r.Time 1 100000)||(!r.Yes&&decide (r.Time=0)))
 else if r.Kind=4 then zFT r&&decide (r.Txn=0)&&rng r.Time 1 100000&& !r.Yes
 else false
theorem zVt (r:Rec) (hw:r.wf):ACall p_ 177 [.agg (Rec.row false r)] (fun x _=>x=bl (zA7 r)):=by
 have hmx:=zAd
 obtain ⟨w1,w2,w3,w4,w5,w6⟩:=hw
 refine fg H177 fun E hE hH=> ?_
 repeat' (first|(refine qz ?_ ?_<;>intro h)|refine qy ?_|refine qo ?_|refine cq (zRI _) ?_|refine cq (zPH _) ?_|refine cq (zA4 _ _ _) ?_|refine cq (zDP _ w5) ?_|refine cq (zP9 _ w6) ?_|(with_reducible apply jn)|refine qu ?_ ?_|exact qj|refine qw ?_|fail)
 all_goals (first|(simp_all [zA7,zFT];done)|(simp_all [zA7,zFT]<;>first|omega|(intros;omega)))
def zVu (r:Rec):Prop:=r.wf∧r.Reads.length≤2^60∧r.Writes.length≤2^60
theorem zXq (r:Rec) (hw:zVu r):ACall p_ 206 [.agg (Rec.row false r)] (fun x _=>x=bl (zA7 r)):=by
 have hmx:=zAd
 obtain ⟨⟨w1,w2,w3,w4,w5,w6⟩,z1,z2⟩:=hw
 have hrl:rng (r.Writes.length:Int) 0 8=decide ((r.Writes.length:Int)≤8):=by simp [rng]
 by_cases hb:r.Reads.length+r.Writes.length=0
 ·have hR:r.Reads=[]:=List.length_eq_zero_iff.1 (by omega)
  have hW:r.Writes=[]:=List.length_eq_zero_iff.1 (by omega)
  refine fg H206 fun E hE hH=> ?_
  repeat' (first|(refine qz ?_ ?_<;>intro h)|refine qy ?_|refine qo ?_|refine cq (zBs _ _ _) ?_|refine cq (zKw _) ?_|refine cq (zPI _ w5) ?_|refine cq (zLx _ w6) ?_|(with_reducible apply jn)|refine qu ?_ ?_|exact qj|refine qw ?_|fail)
  all_goals (first|(simp_all [zA7,zFT];done)|(simp_all [zA7,zFT];omega))
 ·have hn:zFT r=false:=by
   have:(decide (r.Reads.length=0)&&decide (r.Writes.length=0))=false:=by
    rw [Bool.and_eq_false_iff,decide_eq_false_iff_not,decide_eq_false_iff_not];omega
   rw [zFT,Bool.and_assoc,this,Bool.and_false]
  have hp:0<r.Reads.length+r.Writes.length:=by omega
  have hp2:(0:Int)<(r.Reads.length:Int)+r.Writes.length:=by omega
  refine fg H206 fun E hE hH=> ?_
  repeat' (first|(refine qz ?_ ?_<;>intro h)|refine qy ?_|refine qo ?_|refine cq (zBs _ _ _) ?_|refine cq (zKw _) ?_|refine cq (zPI _ w5) ?_|refine cq (zLx _ w6) ?_|(with_reducible apply jn)|refine qu ?_ ?_|exact qj|refine qw ?_|fail)
  all_goals (clear hb)
  all_goals (first|omega|(simp [zA7, *];done)|(simp_all [zA7];done)|(simp_all [zA7]<;>omega)|trace_state)
theorem zSL (r:Rec) (hw:zVu r):ACall p_ 161 [.agg (Rec.row false r)] (fun x _=>x=bl (zA7 r)):=by
 refine fg H161 fun E hE hH=> ?_
 repeat' (first|(refine qz ?_ ?_<;>intro h)|refine qy ?_|refine qo ?_|refine cq (zXq r hw) ?_|refine jn _ ?_ ?_|refine qu ?_ ?_|exact qe|refine qw ?_|fail)
def zCf (t:Int) (l:List Entry) (i:Nat):Bool:=rng (nth l i).Term 1 t&&zA7 (nth l i).Rec&&(decide (i=0)|| !decide ((nth l i).Term<(nth l (i-1)).Term))
def zHG (t:Int) (l:List Entry):Bool:=zAg (zCf t l) l.length&&decide ((l.length:Int)≤60)
theorem zHf {t:Int} {l:List Entry} {j:Nat} (hlt:j<l.length) (h:zCf t l j=false):zHG t l=false:=by
 rw [zHG,zAm hlt h];rfl
def zNd (l:List Entry) (j:Nat):Int:=if j=0 then 1 else (nth l (j-1)).Term
theorem zZh {t:Int} {l:List Entry} {j:Nat} (h:1≤zNd l j):(rng (nth l j).Term (zNd l j) t&&zA7 (nth l j).Rec)=zCf t l j:=by
 unfold zNd at h ⊢
 unfold zCf
 by_cases hj:j=0
 ·simp [hj]
 ·simp only [hj,if_false] at h ⊢
  rw [Bool.eq_iff_iff]
  simp only [Bool.and_eq_true,zBl,Bool.or_eq_true,decide_eq_true_eq,Bool.not_eq_true',decide_eq_false_iff_not,hj,false_or]
  constructor
  ·rintro ⟨⟨h1,h2⟩,h3⟩;exact ⟨⟨⟨by omega,h2⟩,h3⟩,by omega⟩
  ·rintro ⟨⟨⟨h1,h2⟩,h3⟩,h4⟩;exact ⟨⟨by omega,h2⟩,h3⟩
theorem zZi (l:List Entry) (t:Int) (hl:l.length≤maxLen) (hx:∀ e∈l,zVu e.Rec):ACall p_ 126 [.sl false 8 (l.map (Entry.row false)),i64 t] (fun r _=>r=bl (zHG t l)):=by
 have hmx:=zAd
 refine fg H126 fun E hE hH=> ?_;refine st ?_
 refine zAi l.length (fun j (_:Unit)=>⟨[(0, .sl false 8 (l.map (Entry.row false))),(1,i64 t),(7, .sl false 8 (l.map (Entry.row false))),(8,i64 l.length),(9,i64 j)],[]⟩) (fun j _=>zAg (zCf t l) j=true) () rfl ?_
 intro j _ hj hI
 try simp only [go_sem,hE,hH,zTy]
 refine gG (fun h=> ?_) (fun h=> ?_)
 ·have hb:=h
  simp only [nf] at h
  have hlt:=h;clear h
  have hs:=(hx _ (zAc hlt)).1
  try refine sb ?_;try exact ⟨⟩
  repeat' (first|(refine qz ?_ ?_<;>intro h)|refine qy ?_|refine qo ?_|refine cq (zA4 _ _ _) ?_|refine cq (zVt (nth l j).Rec hs) ?_|(with_reducible apply jn)|refine qu ?_ ?_|exact qj|refine qw ?_|fail)
  ·rw [zHf hlt (by simp [zCf,h])]
  ·rw [zHf hlt (by simp [zCf,h])]
  ·rw [zHf hlt (by first|(simp_all [zCf];done)|(simp_all [zCf];omega))]
  ·exact ⟨(),rfl,zAa hI (by simp_all [zCf])⟩
  ·exact ⟨(),rfl,zAa hI (by first|(simp_all [zCf];done)|(simp_all [zCf];omega))⟩
 ·try simp (disch:=omega) only [go_sem,hE,hH,h]
  simp only [nf] at h
  rw [show j=l.length by omega] at hI
  rw [zHG,hI]
  simp
def zCt (t:Int) (r:Replica):Bool:=zHG t r.Log&&rng r.Sure 0 r.Log.length
def zZj (r:Replica):Prop:=r.Log.length≤maxLen∧∀ e∈r.Log,zVu e.Rec
theorem zKx (x:Replica) (t:Int) (hw:zZj x):ACall p_ 103 [.agg (Replica.row false x),i64 t] (fun r _=>r=bl (zCt t x)):=by
 obtain ⟨hl,hx⟩:=hw
 have hmx:=zAd
 refine fg H103 fun E hE hH=> ?_
 repeat' (first|(refine qz ?_ ?_<;>intro h)|refine qy ?_|refine qo ?_|refine cq (zBs _ _ _) ?_|(with_reducible apply jn)|refine qu ?_ ?_|exact qj|refine qw ?_|fail)
 ·rw [zCt,zHG,decide_eq_false (by omega)];simp
 ·rw [zCt,h];simp
 refine zAi x.Log.length (fun j (v:Int)=>⟨[(1,i64 t),(2, .ptr 3000000 0 0),(5,i64 v),(6,i64 j)],[(3000000,⟨3,[Replica.row false x]⟩)]⟩) (fun j v=>zAg (zCf t x.Log) j=true∧v=zNd x.Log j∧1≤v) 1 ⟨rfl,rfl,by omega⟩ ?_
 rintro j v hj ⟨hI,rfl,h0⟩
 have he:=zZh (t:=t) h0
 try simp only [go_sem,hE,hH,zTl]
 refine gG (fun h1=> ?_) (fun h1=> ?_)
 ·have hb1:=h1
  simp only [nf] at h1
  have hlt:=h1;clear h1
  have hs:=hx _ (zAc hlt)
  try simp (disch:=omega) only [go_sem,hE,hH,hb1]
  repeat' (first|(refine qz ?_ ?_<;>intro h)|refine qy ?_|refine qo ?_|refine cq (zBs _ _ _) ?_|refine cq (zSL (nth x.Log j).Rec hs) ?_|(with_reducible apply jn)|refine qu ?_ ?_|exact qj|refine qw ?_|fail)
  ·rw [zCt,zHf hlt (by rw [←he,h];simp)];rfl
  ·rw [zCt,zHf hlt (by rw [←he,h];simp)];rfl
  ·rename_i hD
   have hD':=zBl.1 hD
   exact ⟨(nth x.Log j).Term,rfl,zAa hI (by rw [←he,hD,h];rfl),by simp [zNd],by omega⟩
 ·try simp (disch:=omega) only [go_sem,hE,hH,h1]
  simp only [nf] at h1
  rw [show j=x.Log.length by omega] at hI
  rw [zCt,zHG,hI]
  have:decide ((x.Log.length:Int)≤60)=true:=decide_eq_true (by omega)
  simp_all
def zOz (g:Group):Prop:=g.Reps.length≤maxLen∧∀ r∈g.Reps,zZj r
theorem zAa2 {g:Group} (hw:g.wf) (hs:g.sz≤2^20):zOz g:=by
 refine ⟨hw.1.1,fun r hr=>⟨(hw.1.2 r hr).1.1,fun e he=> ?_⟩⟩
 have h1:=zCM (f:=Replica.sz) hr
 have h2:=zCM (f:=Entry.sz) he
 have h3:Group.sz g=szL Replica.sz g.Reps:=rfl
 have h4:Replica.sz r=szL Entry.sz r.Log:=rfl
 have h5:Entry.sz e=szL ByteArray.size e.Rec.Reads+szL Write.sz e.Rec.Writes:=rfl
 have h6:=zCz (f:=ByteArray.size) (l:=e.Rec.Reads)
 have h7:=zCz (f:=Write.sz) (l:=e.Rec.Writes)
 exact ⟨((hw.1.2 r hr).1.2 e he).2,by omega,by omega⟩
def zDb (g:Group):Bool:=decide (g.Lead= -1)||(rng g.Lead 0 ((g.Reps.length:Int)-1)&&(nth g.Reps g.Lead.toNat).Up)
def zBy (g:Group):Bool:=(decide ((g.Reps.length:Int)=3)||decide ((g.Reps.length:Int)=5))&&rng g.Term 0 200&&zDb g&&g.Reps.all (zCt g.Term)
theorem zZk (g:Group) (r:Int) (hl:g.Reps.length≤maxLen):ACall p_ 123 [.agg (Group.row false g),i64 r] (fun x _=>x=bl (rng r 0 ((g.Reps.length:Int)-1))):=by
 have hmx:=zAd
 refine fg H123 fun E hE hH=> ?_
 repeat' (first|(refine qz ?_ ?_<;>intro h)|refine qy ?_|refine qo ?_|refine cq (zA4 _ _ _) ?_|refine jn _ ?_ ?_|refine qu ?_ ?_|exact qe|refine qw ?_|fail)
theorem zOA (x:Replica) (g:Group) (hw:zZj x):ACall p_ 125 ([.agg (Replica.row false x)]++[.bx false (Group.row false g)]) (fun r _=>r=bl (!zCt g.Term x)):=by
 obtain ⟨hl,hx⟩:=hw
 have hmx:=zAd
 refine fg H125 fun E hE hH=> ?_
 repeat' (first|(refine qz ?_ ?_<;>intro h)|refine qy ?_|refine qo ?_|refine cq (zZi x.Log g.Term hl hx) ?_|refine cq (zA4 _ _ _) ?_|(with_reducible apply jn)|refine qu ?_ ?_|exact qj|refine qw ?_|fail)
 all_goals (first|(simp_all [zCt];done)|(simp_all [zCt]<;>first|omega|(intros;omega)))
theorem zKy (g:Group) (hw:zOz g):ACall p_ 69 [.agg (Group.row false g)] (fun r _=>r=bl (zBy g)):=by
 have hmx:=zAd
 obtain ⟨hl,hx⟩:=hw
 have hany:(g.Reps.any fun x=> !zCt g.Term x)= !(g.Reps.all (zCt g.Term)):=by
  rw [List.all_eq_not_any_not];simp
 refine fg H69 fun E hE hH=> ?_
 repeat' (first|(refine qz ?_ ?_<;>intro h)|refine qy ?_|refine qo ?_|refine cq (zXo _) ?_|refine cq (zA4 _ _ _) ?_|refine cq (zZk g g.Lead hl) ?_|(with_reducible apply jn)|refine qu ?_ ?_|exact qj|refine qw ?_|fail)
 all_goals try simp only [zBl] at h
 all_goals try omega
 all_goals try (have hk:g.Lead.toNat<g.Reps.length:=by omega)
 repeat' (first|(refine qz ?_ ?_<;>intro h)|refine qy ?_|refine qo ?_|refine cq (zHs g.Reps _ [.bx false (Group.row false g)] (fun x=> !zCt g.Term x) (by kernel_rfl) rfl hl (fun x hx'=>zOA x g (hx x hx'))) ?_|(with_reducible apply jn)|refine qu ?_ ?_|exact qj|refine qw ?_|fail)
 all_goals try simp only [hany,Bool.not_not]
 all_goals clear hany
 all_goals (first|(simp_all [zBy,zDb];done)|(simp_all [zBy,zDb,rng];done)|(simp_all [zBy,zDb,rng]<;>omega)|trace_state)
theorem zJB (g:Group) (hw:zOz g):ACall p_ 47 [.agg (Group.row false g)] (fun r _=>r=bl (zBy g)):=by
 have hmx:=zAd
 obtain ⟨hl,hx⟩:=hw
 refine fg H47 fun E hE hH=> ?_
 repeat' (first|(refine qz ?_ ?_<;>intro h)|refine qy ?_|refine qo ?_|refine cq (zBs _ _ _) ?_|(with_reducible apply jn)|refine qu ?_ ?_|exact qj|refine qw ?_|fail)
 ·simp [zBy, *]
 ·simp [zBy, *]
 ·have:zDb g=false:=by
   rw [zHd] at h
   simp only [zDb,rng,Bool.or_eq_false_iff,Bool.and_eq_false_iff,decide_eq_false_iff_not]
   omega
  simp [zBy,this]
 ·refine zAi g.Reps.length (fun j (_:Unit)=>⟨[(1, .ptr 2000000 0 0),(3,i64 j)],[(2000000,⟨3,[Group.row false g]⟩)]⟩) (fun j _=>zAg (fun i=>zCt g.Term (nth g.Reps i)) j=true) () rfl ?_
  intro j _ hj hI
  try simp only [go_sem,hE,hH,zRx]
  refine gG (fun h1=> ?_) (fun h1=> ?_)
  ·have hb1:=h1
   simp only [nf] at h1
   have hlt:=h1;clear h1
   try simp (disch:=omega) only [go_sem,hE,hH,hb1]
   repeat' (first|(refine qz ?_ ?_<;>intro h)|refine qy ?_|refine qo ?_|refine cq (zKx (nth g.Reps j) g.Term (hx _ (zAc hlt))) ?_|(with_reducible apply jn)|refine qu ?_ ?_|exact qj|refine qw ?_|fail)
   ·have:g.Reps.all (zCt g.Term)=false:=by rw [←zAQ];exact zAm hlt h
    simp [zBy,this]
   ·first|exact ⟨(),rfl,zAa hI (by simp [h])⟩|exact ⟨by omega,(),rfl,zAa hI (by simp [h])⟩|exact ⟨by omega,by omega,(),rfl,zAa hI (by simp [h])⟩
  ·try simp (disch:=omega) only [go_sem,hE,hH,h1]
   simp only [nf] at h1
   rw [show j=g.Reps.length by omega,zAQ] at hI
   repeat' (first|(refine qz ?_ ?_<;>intro h)|refine qy ?_|(with_reducible apply jn)|refine qu ?_ ?_|exact qj|refine qw ?_|fail)
   all_goals try simp only [zBl] at*
   all_goals try omega
   all_goals try (have hk:g.Lead.toNat<g.Reps.length:=by omega)
   repeat' (first|(refine qz ?_ ?_<;>intro h)|refine qy ?_|(with_reducible apply jn)|refine qu ?_ ?_|exact qj|refine qw ?_|fail)
   all_goals (first|(have hL:g.Lead= -1:=by omega)|(have hL:g.Lead≠ -1:=by omega))
   all_goals (first|(simp_all [zBy,zDb,rng];done)|(simp_all [zBy,zDb,rng];omega))
 ·simp [zBy, *]
 ·have:zDb g=false:=by
   rw [zHd] at h
   simp only [zDb,rng,Bool.or_eq_false_iff,Bool.and_eq_false_iff,decide_eq_false_iff_not]
   omega
  simp [zBy,this]
 ·refine zAi g.Reps.length (fun j (_:Unit)=>⟨[(1, .ptr 2000000 0 0),(3,i64 j)],[(2000000,⟨3,[Group.row false g]⟩)]⟩) (fun j _=>zAg (fun i=>zCt g.Term (nth g.Reps i)) j=true) () rfl ?_
  intro j _ hj hI
  try simp only [go_sem,hE,hH,zRx]
  refine gG (fun h1=> ?_) (fun h1=> ?_)
  ·have hb1:=h1
   simp only [nf] at h1
   have hlt:=h1;clear h1
   try simp (disch:=omega) only [go_sem,hE,hH,hb1]
   repeat' (first|(refine qz ?_ ?_<;>intro h)|refine qy ?_|refine qo ?_|refine cq (zKx (nth g.Reps j) g.Term (hx _ (zAc hlt))) ?_|(with_reducible apply jn)|refine qu ?_ ?_|exact qj|refine qw ?_|fail)
   ·have:g.Reps.all (zCt g.Term)=false:=by rw [←zAQ];exact zAm hlt h
    simp [zBy,this]
   ·first|exact ⟨(),rfl,zAa hI (by simp [h])⟩|exact ⟨by omega,(),rfl,zAa hI (by simp [h])⟩|exact ⟨by omega,by omega,(),rfl,zAa hI (by simp [h])⟩
  ·try simp (disch:=omega) only [go_sem,hE,hH,h1]
   simp only [nf] at h1
   rw [show j=g.Reps.length by omega,zAQ] at hI
   repeat' (first|(refine qz ?_ ?_<;>intro h)|refine qy ?_|(with_reducible apply jn)|refine qu ?_ ?_|exact qj|refine qw ?_|fail)
   all_goals try simp only [zBl] at*
   all_goals try omega
   all_goals try (have hk:g.Lead.toNat<g.Reps.length:=by omega)
   repeat' (first|(refine qz ?_ ?_<;>intro h)|refine qy ?_|(with_reducible apply jn)|refine qu ?_ ?_|exact qj|refine qw ?_|fail)
   all_goals (first|(have hL:g.Lead= -1:=by omega)|(have hL:g.Lead≠ -1:=by omega))
   all_goals (first|(simp_all [zBy,zDb,rng];done)|(simp_all [zBy,zDb,rng];omega))
theorem zOB (x:Replica) (h0:0≤x.Sure) (h1:x.Sure≤x.Log.length):ACall p_ 84 [.agg (Replica.row false x)] (fun r _=>r= .sl false 8 ((x.Log.take x.Sure.toNat).map (Entry.row false))):=by
 refine fg H84 fun E hE hH=> ?_
 repeat' (first|(refine qz ?_ ?_<;>intro h)|refine qy ?_|(with_reducible apply jn)|refine qu ?_ ?_|exact qj|refine qw ?_|fail)
 exact h1
def zHH (c:Clock):Bool:=rng c.Off (-5) 5
theorem zRL (c:Clock):ACall p_ 75 [.agg (Clock.row false c)] (fun r _=>r=bl (zHH c)):=by
 refine fg H75 fun E hE hH=> ?_
 repeat' (first|(refine qz ?_ ?_<;>intro h)|refine qy ?_|refine qo ?_|refine cq (zA4 _ _ _) ?_|refine jn _ ?_ ?_|refine qu ?_ ?_|exact qe|refine qw ?_|fail)
 rfl
theorem zUj {α:Type} {p:α→Bool} {l:List α}:(l.any fun x=> !p x)= !(l.all p):=by
 rw [List.all_eq_not_any_not];simp
theorem zVv (c:Clock):ACall p_ 49 [.agg (Clock.row false c)] (fun r _=>r=bl (zHH c)):=by
 refine fg H49 fun E hE hH=> ?_
 repeat' (first|(refine qz ?_ ?_<;>intro h)|refine qy ?_|refine qo ?_|refine cq (zBs _ _ _) ?_|refine jn _ ?_ ?_|refine qu ?_ ?_|exact qe|refine qw ?_|fail)
 rfl
def zDc (l:List Write) (w:Write):List Write:=if fwF l w.Key then l.set (fwI l w.Key) w else l.take (fwI l w.Key)++[w]++l.drop (fwI l w.Key)
theorem zXr {l:List Write} {k:ByteArray}:fwI l k≤l.length:=zGI
theorem zRM {l:List Write} (hs:zCm l) {n:Nat} {k:ByteArray} (hn:n≤l.length) (h1:∀ i,i<n→zAf (nth l i).Key k=true) (h2:∀ i,n≤i→i<l.length→zAf (nth l i).Key k=false):fwI l k=n:=by
 unfold fwI
 rw [zEB hn h2,zFt (zAs.2 h1)]
theorem zPJ {l:List Write} (hs:zCm l) (k:ByteArray):(∀ i,i<fwI l k→zAf (nth l i).Key k=true)∧(∀ i,fwI l k≤i→i<l.length→zAf (nth l i).Key k=false):=by
 have key:∀ n,n≤l.length→(∃ m,m≤n∧(∀ i,i<m→zAf (nth l i).Key k=true)∧∀ i,m≤i→i<n→zAf (nth l i).Key k=false):=by
  intro n
  induction n with
  |zero=>exact fun _=>⟨0,Nat.le_refl _,fun i h=>by omega,fun i _ h=>by omega⟩
  |succ n ih=>
   intro hn
   obtain ⟨m,h1,h2,h3⟩:=ih (by omega)
   cases hk:zAf (nth l n).Key k with
   |true=>
    by_cases e:m=n
    ·subst e
     exact ⟨m+1,Nat.le_refl _,fun i hi=>by
      by_cases e:i=m
      ·rw [e];exact hk
      ·exact h2 i (by omega),fun i _ _=>by omega⟩
    ·have:=h3 m (Nat.le_refl _) (by omega)
     rw [zBk (hs m n (by omega) hn) hk] at this
     cases this
   |false=>
    exact ⟨m,by omega,h2,fun i hi hi2=>by
     by_cases e:i=n
     ·rw [e];exact hk
     ·exact h3 i hi (by omega)⟩
 obtain ⟨m,h1,h2,h3⟩:=key l.length (Nat.le_refl _)
 rw [zRM hs h1 h2 h3]
 exact ⟨h2,h3⟩
theorem zK7 {l:List Write} {k:ByteArray} (hs:zCm l):fwF l k=true↔fwI l k<l.length∧(nth l (fwI l k)).Key=k:=by
 obtain ⟨e1,e2⟩:=zZ6 hs k
 rw [←e2,bsF,e1,Bool.and_eq_true,decide_eq_true_iff,decide_eq_true_iff,zKv]
theorem zAfI {l:List Write} {k:ByteArray} (hs:zCm l) (hf:fwF l k=false) {i:Nat} (h1:fwI l k≤i) (h2:i<l.length):zAf k (nth l i).Key=true:=by
 have a:=(zPJ hs k).2 i h1 h2
 rcases zBI (nth l i).Key k with h|h|h
 ·rw [h] at a;cases a
 ·have:fwF l k=true:=List.any_eq_true.2 ⟨_,zAc h2,by simp [h]⟩
  rw [this] at hf;cases hf
 ·exact h
theorem zMj {l:List Write} {w:Write} (h:fwF l w.Key=true):zDc l w=l.set (fwI l w.Key) w:=by rw [zDc,if_pos h]
theorem zK8 {l:List Write} {w:Write} (h:fwF l w.Key=false):zDc l w=l.take (fwI l w.Key)++[w]++l.drop (fwI l w.Key):=by rw [zDc,h];rfl
theorem zZl (l:List Write) (w:Write):(zDc l w).length≤l.length+1:=by
 unfold zDc
 split
 ·rw [List.length_set];omega
 ·rw [List.length_append,List.length_append,List.length_take,List.length_drop];simp;omega
theorem zUk {α:Type} [Inhabited α] {l:List α} {i j:Nat} {x:α} (h:j<l.length):nth (l.set i x) j=if i=j then x else nth l j:=by
 rw [zAN (by simpa using h),List.getElem_set,zAN h]
theorem zMk {α:Type} [Inhabited α] {a b:List α} {j:Nat} (h:j<a.length):nth (a++b) j=nth a j:=by
 rw [zAN (by rw [List.length_append];omega),List.getElem_append_left h,zAN h]
theorem zRN {α:Type} [Inhabited α] {a b:List α} {j:Nat} (h:a.length≤j):nth (a++b) j=nth b (j-a.length):=by
 rw [nth,nth,List.getD_eq_getElem?_getD,List.getD_eq_getElem?_getD,List.getElem?_append_right h]
theorem zBP {α:Type} [Inhabited α] {l:List α} {i j:Nat} (h:j<i):nth (l.take i) j=nth l j:=by
 rw [nth,nth,List.getD_eq_getElem?_getD,List.getD_eq_getElem?_getD,List.getElem?_take,if_pos h]
theorem zZm {l:List Write} {w:Write} (hs:zCm l):zCm (zDc l w):=by
 cases hf:fwF l w.Key with
 |true=>
  obtain ⟨a,b⟩:=(zK7 hs).1 hf
  rw [zMj hf]
  intro i j h1 h2
  rw [List.length_set] at h2
  rw [zUk (by omega),zUk h2]
  have:=hs i j h1 h2
  split<;>split
  ·omega
  ·rename_i e _;rw [←e,b] at this;exact this
  ·rename_i _ e;rw [←e,b] at this;exact this
  ·exact this
 |false=>
  obtain ⟨q1,q2⟩:=zPJ hs w.Key
  have hle:=zXr (l:=l) (k:=w.Key)
  have hl1:(l.take (fwI l w.Key)).length=fwI l w.Key:=by rw [List.length_take];omega
  have hl2:(l.take (fwI l w.Key)++[w]).length=fwI l w.Key+1:=by rw [List.length_append,hl1];rfl
  have key:∀ i,i<l.length+1→nth (zDc l w) i=if i<fwI l w.Key then nth l i else if i=fwI l w.Key then w else nth l (i-1):=by
   intro i hi
   rw [zK8 hf]
   split
   ·rename_i h;rw [zMk (by omega),zMk (by omega),zBP h]
   ·rename_i h
    split
    ·rename_i e;rw [zMk (by omega),zRN (by omega),hl1,e,Nat.sub_self];rfl
    ·rename_i e
     rw [zRN (by omega),hl2,zZg]
     congr 1;omega
  have hlen:(zDc l w).length=l.length+1:=by
   rw [zK8 hf,List.length_append,hl2,List.length_drop];omega
  intro i j h1 h2
  rw [hlen] at h2
  rw [key i (by omega),key j h2]
  by_cases a1:i<fwI l w.Key<;>by_cases a2:i=fwI l w.Key<;>by_cases b1:j<fwI l w.Key<;>by_cases b2:j=fwI l w.Key<;>
   simp only [a1,a2,b1,b2,↓reduceIte,Nat.lt_irrefl]
  all_goals first
   |omega
   |exact hs _ _ (by omega) (by omega)
   |exact q1 _ (by omega)
   |exact zAfI hs hf (by omega) (by omega)
theorem zRO {l:List Write} {w x:Write} (h:x∈zDc l w):x=w∨x∈l:=by
 unfold zDc at h
 split at h
 ·exact (List.mem_or_eq_of_mem_set h).symm
 ·simp only [List.mem_append,List.mem_singleton] at h
  rcases h with (h|h)|h
  ·exact .inr (List.mem_of_mem_take h)
  ·exact .inl h
  ·exact .inr (List.mem_of_mem_drop h)
theorem zH3 (l:List Write) (w:Write) (hl:l.length≤2^20) (hs:zCm l):ACall p_ 190 [.sl true 3 (l.map (Write.row true)), .agg (Write.row false w)] (fun r a=>r= .sl true 3 ((zDc l w).map (Write.row true))∧a=[.any, .agg (Write.row false w)]):=by
 have hmx:=zAd
 have hle:=zXr (l:=l) (k:=w.Key)
 have e1:(fwI l w.Key:Int).toNat=fwI l w.Key:=by omega
 cases h1:fwF l w.Key with
 |true=>
  obtain ⟨a,b⟩:=(zK7 hs).1 h1
  have i1:=zEX l w.Key (by omega) hs
  rw [h1] at i1
  have e:=zMj h1
  refine zG2 [true,false] (hqA zU8) (hqB zU8) ⟨by simp only [go_sem],fun E hE hH=> ?_⟩;simp only [go_sem] at hE hH;simp only [go_sem,hE,hH,zU7]
  all_goals (have y1_:=e1;repeat' (first|(refine zBC ?_ ?_<;>intro h)|refine qy ?_|refine zBX ?_|refine zAF (i1) ?_|refine jn _ ?_ ?_|refine qu ?_ ?_|exact zKQ|refine zBA ?_|fail))
  all_goals (rw [e,List.map_set];rfl)
 |false=>
  have i1:=zEX l w.Key (by omega) hs
  rw [h1] at i1
  have e:=zK8 h1
  refine zG2 [true,false] (hqA zU8) (hqB zU8) ⟨by simp only [go_sem],fun E hE hH=> ?_⟩;simp only [go_sem] at hE hH;simp only [go_sem,hE,hH,zU7]
  all_goals (have y1_:=e1;repeat' (first|(refine zBC ?_ ?_<;>intro h)|refine qy ?_|(refine zAP [true,false,false] ?_;refine zEd ?_;refine cmA (zM6 l [w] (fwI l w.Key) (by omega) (by omega) (by omega) (by simp)) ?_;refine zEd ?_)|refine zBX ?_|refine zAF (i1) ?_|refine jn _ ?_ ?_|refine qu ?_ ?_|exact zKQ|refine zBA ?_|fail))
  all_goals rw [e]
theorem zNe {α β:Type} [Inhabited α] {f:β→α→β} {b:β} {l:List α} {j:Nat} (h:j<l.length):(l.take (j+1)).foldl f b=f ((l.take j).foldl f b) (nth l j):=by
 simp only [zAw h,List.foldl_append,List.foldl_cons,List.foldl_nil]
theorem zXs {ws:List Write}:∀ {l:List Write},zCm l→zCm (ws.foldl zDc l):=by
 induction ws with
 |nil=>exact fun h=>h
 |cons w t ih=>exact fun h=>ih (zZm h)
theorem zAeB {a b:Got}:(decide (a.Key=b.Key)&&(decide (a.Val=b.Val)&&a.There==b.There))=decide (a=b):=by
 rcases a with ⟨a1,a2,a3⟩
 rcases b with ⟨b1,b2,b3⟩
 rw [Bool.eq_iff_iff]
 simp
theorem zRP {l:List Write} {k:ByteArray} {x:Nat} (hs:zCm l) (hx:x<l.length) (h2:(nth l x).Key=k):fwF l k=true∧fwI l k=x:=by
 refine ⟨List.any_eq_true.2 ⟨_,zAc hx,by simp [h2]⟩,zRM hs (by omega) (fun i hi=>by have:=hs i x hi hx;rwa [h2] at this) fun i h1 h3=> ?_⟩
 by_cases e:i=x
 ·rw [e,h2];exact zBm _
 ·have:=hs x i (by omega) h3
  rw [h2] at this
  exact zC0 this
theorem zAeC {l:List Write} {k:ByteArray} {x:Nat} (hs:zCm l) (hx:x≤l.length) (h1:∀ i,x≤i→i<l.length→zAf k (nth l i).Key=true) (h2:x=0∨zAf (nth l (x-1)).Key k=true):fwF l k=false∧fwI l k=x:=by
 have hlo:∀ i,i<x→zAf (nth l i).Key k=true:=by
  intro i hi
  rcases h2 with h2|h2
  ·omega
  ·by_cases e:i=x-1
   ·rw [e];exact h2
   ·exact zBk (hs i (x-1) (by omega) (by omega)) h2
 refine ⟨?_,zRM hs hx hlo fun i a b=>zC0 (h1 i a b)⟩
 rw [fwF,List.any_eq_false]
 intro w hw
 obtain ⟨i,hi,rfl⟩:=List.getElem_of_mem hw
 rw [←zAN hi,decide_eq_true_iff]
 intro e
 by_cases a:i<x
 ·have:=hlo i a;rw [e,zBm] at this;cases this
 ·have:=h1 i (by omega) hi;rw [e,zBm] at this;cases this
theorem zKz (l:List Write) (w:Write) (hl:l.length≤2^20) (hs:zCm l):ACall p_ 167 [.sl false 3 (l.map (Write.row false)), .agg (Write.row false w)] (fun r _=>r= .sl true 3 ((zDc l w).map (Write.row true))):=by
 have hmx:=zAd
 refine fg H167 fun E hE hH=> ?_;refine st ?_
 try simp only [go_sem,hE,hH]
 refine zHz (fun (x:Nat)=>⟨[(0, .sl false 3 (l.map (Write.row false))),(3, .ptr 4000000 0 0),(5,i64 x)],[(4000000,⟨3,[Write.row false w]⟩)]⟩) (fun x=>x≤l.length∧∀ i,x≤i→i<l.length→zAf w.Key (nth l i).Key=true) (fun x=>x) l.length ⟨Nat.le_refl _,fun i a b=>by omega⟩ ?_
 rintro x ⟨hx,hgt⟩
 have e1:((x:Int)-1).toNat=x-1:=by omega
 have e2:(l.take x).length=x:=by rw [List.length_take];omega
 have e3:(l.drop x).take (l.length-x)=l.drop x:=List.take_of_length_le (by rw [List.length_drop];exact Nat.le_refl _)
 have e4:∀ r:List T,(List.map (fun x:Write=>[str x.Key,str x.Val,bl x.Gone]) (l.take x)++[r]).take (x+1)=List.map (fun x:Write=>[str x.Key,str x.Val,bl x.Gone]) (l.take x)++[r]:=fun r=>List.take_of_length_le (by rw [List.length_append,List.length_map,e2];exact Nat.le_refl _)
 have e5:(l.drop x).length=l.length-x:=List.length_drop
 have e6:(l.take x).take x=l.take x:=by rw [List.take_take,Nat.min_self]
 have e7:∀ r:List T,(List.map (fun x:Write=>[str x.Key,str x.Val,bl x.Gone]) (l.take x)++[r]).length=x+1:=fun r=>by rw [List.length_append,List.length_map,e2];rfl
 have end1:∀ {h0:0<x},(nth l (x-1)).Key=w.Key→(l.map (Write.row true)).set (x-1) (Write.row true w)=(zDc l w).map (Write.row true):=by
  intro h0 h
  obtain ⟨a,b⟩:=zRP hs (x:=x-1) (by omega) h
  rw [zMj a,b,List.map_set]
 have end2:x=0∨zAf (nth l (x-1)).Key w.Key=true→(l.take x).map (Write.row true)++[Write.row true w]++(l.drop x).map (Write.row true)=(zDc l w).map (Write.row true):=by
  intro h
  obtain ⟨a,b⟩:=zAeC hs hx hgt h
  rw [zK8 a,b,List.map_append,List.map_append];rfl
 try simp only [go_sem,hE,hH,zTI]
 repeat' (first|((with_reducible first|refine zD7 ?_ ?_|refine zD8 ?_ ?_)<;>(intro h;have hb:=h;(try simp only [nf] at h);simp (disch:=omega) only [go_sem,hE,hH,e1,e2,e3,e4,e5,e6,e7,hb];(try clear hb)))|((with_reducible refine And.intro ?_ ?_);· omega)|(with_reducible first|apply jn|apply both|refine And.intro ?_ ?_)|((with_reducible apply zBH);(try (simp (disch:=omega) only [go_sem,hE,hH,e1,e2,e3,e4,e5,e6,e7]));first|done|rfl)|(simp (disch:=omega) only [go_sem,hE,hH,e1,e2,e3,e4,e5,e6,e7])|((first|apply zAJ|apply zBo)<;>(simp only [go_sem,hE,hH,e1,e2,e3,e4,e5,e6,e7];done))|(simp only [go_sem,hE,hH,e1,e2,e3,e4,e5,e6,e7])|fail)
 all_goals try omega
 ·refine ⟨x-1,by rw [show ((x:Int)-1)=((x-1:Nat):Int) by omega],⟨by omega,fun i h1 h2=> ?_⟩,by omega⟩
  by_cases e:i=x-1
  ·rw [e];assumption
  ·exact hgt i (by omega) h2
 ·exact congrArg (T.sl true 3) (end1 (h0:=by omega) (by assumption))
 ·exact congrArg (T.sl true 3) (end2 (.inr (by
   rcases zBI (nth l (x-1)).Key w.Key with q|q|q
   ·exact q
   ·contradiction
   ·simp_all)))
 ·exact congrArg (T.sl true 3) (end2 (.inl (by omega)))
def zEY (x:Lock):Bool:=zAW x.Key&&rng x.Txn 1 60
def zHg (x y:Lock):Bool:=decide (x.Key=y.Key)&& !decide (x.Txn=y.Txn)&&(x.Write||y.Write)
def zEZ (x y:Lock):Bool:=zHg x y||(decide (x.Key=y.Key)&&decide (x.Txn=y.Txn))
def zDB (l:List Lock):Bool:=zAg (fun i=>zEY (nth l i)&& !(l.take i).any fun y=>zEZ (nth l i) y) l.length&&decide ((l.length:Int)≤60)
theorem zXt (x:Lock) (hw:x.wf):ACall p_ 127 [.agg (Lock.row false x)] (fun r _=>r=bl (zEY x)):=by
 refine fg H127 fun E hE hH=> ?_
 repeat' (first|(refine qz ?_ ?_<;>intro h)|refine qy ?_|refine qo ?_|refine cq (zGB _ hw.1) ?_|refine cq (zRI _) ?_|(with_reducible apply jn)|refine qu ?_ ?_|exact qj|refine qw ?_|fail)
 all_goals (first|(simp_all [zEY];done)|(simp_all [zEY]<;>first|omega|(intros;omega)))
theorem zVw (x:Lock) (hw:x.wf):ACall p_ 104 [.agg (Lock.row false x)] (fun r _=>r=bl (zEY x)):=by
 refine fg H104 fun E hE hH=> ?_
 repeat' (first|(refine qz ?_ ?_<;>intro h)|refine qy ?_|refine qo ?_|refine cq (zDO _ hw.1) ?_|refine cq (zBs _ _ _) ?_|(with_reducible apply jn)|refine qu ?_ ?_|exact qj|refine qw ?_|fail)
 all_goals (first|(simp_all [zEY];done)|(simp_all [zEY]<;>first|omega|(intros;omega)))
theorem zSM (x y:Lock):ACall p_ 130 [.agg (Lock.row false x), .agg (Lock.row false y)] (fun r _=>r=bl (zHg x y)):=by
 refine fg H130 fun E hE hH=> ?_
 repeat' (first|(refine qz ?_ ?_<;>intro h)|refine qy ?_|(with_reducible apply jn)|refine qu ?_ ?_|exact qj|refine qw ?_|fail)
 all_goals (first|(simp_all [zHg];done)|(simp_all [zHg]<;>first|omega|(intros;omega)))
theorem zSN (x y:Lock):ACall p_ 105 [.agg (Lock.row false x), .agg (Lock.row false y)] (fun r _=>r=bl (zHg x y)):=by
 refine fg H105 fun E hE hH=> ?_
 repeat' (first|(refine qz ?_ ?_<;>intro h)|refine qy ?_|(with_reducible apply jn)|refine qu ?_ ?_|exact qj|refine qw ?_|fail)
 all_goals (first|(simp_all [zHg];done)|(simp_all [zHg]<;>first|omega|(intros;omega)))
theorem zOC (y x:Lock):ACall p_ 129 ([.agg (Lock.row false y)]++[.bx false (Lock.row false x)]) (fun r _=>r=bl (zEZ x y)):=by
 refine fg H129 fun E hE hH=> ?_
 repeat' (first|(refine qz ?_ ?_<;>intro h)|refine qy ?_|refine qo ?_|refine cq (zSM x y) ?_|(with_reducible apply jn)|refine qu ?_ ?_|exact qj|refine qw ?_|fail)
 all_goals (first|(simp_all [zEZ];done)|(simp_all [zEZ]<;>first|omega|(intros;omega)))
theorem zRQ (l:List Lock) (hl:wfL Lock.wf l):ACall p_ 70 [.sl false 3 (l.map (Lock.row false))] (fun r _=>r=bl (zDB l)):=by
 obtain ⟨hl,hx⟩:=hl
 have hmx:=zAd
 refine fg H70 fun E hE hH=> ?_
 repeat' (first|(refine qz ?_ ?_<;>intro h)|refine qy ?_|refine jn _ ?_ ?_|refine qu ?_ ?_|exact qe|refine qw ?_|fail)
 refine zAU l.length (fun j (_:Unit)=>⟨[(0, .sl false 3 (l.map (Lock.row false))),(5, .sl false 3 (l.map (Lock.row false))),(6,i64 l.length),(7,i64 j)],[]⟩) (fun j _=>zAg (fun i=>zEY (nth l i)&& !(l.take i).any fun y=>zEZ (nth l i) y) j=true) () rfl rfl ?_
 intro j _ hj hI
 try simp only [go_sem,hE,hH,zXg]
 refine gG (fun h=> ?_) (fun h=> ?_)
 ·have hb:=h
  simp only [nf] at h
  have hlt:=h;clear h
  have hw:=hx _ (zAc hlt)
  have ht:((l.map (Lock.row false)).take j)=(l.take j).map (Lock.row false):=by rw [List.map_take]
  try simp (disch:=omega) only [go_sem,hE,hH,hb,ht]
  repeat' (first|(refine qz ?_ ?_<;>intro h)|refine qy ?_|refine qo ?_|refine cq (zXt _ hw) ?_|refine cq (zI8 (l.take j) _ [.bx false (Lock.row false (nth l j))] (fun y=>zEZ (nth l j) y) (by kernel_rfl) rfl (by rw [List.length_take];omega) (fun y _=>zOC y _)) ?_|refine jn _ ?_ ?_|refine qu ?_ ?_|exact qe|refine qw ?_|fail)
  all_goals first|(rw [zDB,zAm hlt (by simp_all)];rfl)|(exact ⟨(),rfl,zAa hI (by simp_all)⟩)
 ·try simp (disch:=omega) only [go_sem,hE,hH,h]
  simp only [nf] at h
  rw [show j=l.length by omega] at hI
  repeat' (first|(refine qz ?_ ?_<;>intro h)|refine qy ?_|refine jn _ ?_ ?_|refine qu ?_ ?_|exact qe|refine qw ?_|fail)
  all_goals first|(rw [zDB,hI];simp_all;done)|(simp_all [zDB];done)
theorem zVx (l:List Lock) (hl:wfL Lock.wf l):ACall p_ 48 [.sl false 3 (l.map (Lock.row false))] (fun r _=>r=bl (zDB l)):=by
 obtain ⟨hl,hx⟩:=hl
 have hmx:=zAd
 refine fg H48 fun E hE hH=> ?_
 repeat' (first|(refine qz ?_ ?_<;>intro h)|refine qy ?_|refine jn _ ?_ ?_|refine qu ?_ ?_|exact qe|refine qw ?_|fail)
 refine zAU l.length (fun j (_:Unit)=>⟨[(0, .sl false 3 (l.map (Lock.row false))),(7, .sl false 3 (l.map (Lock.row false))),(8,i64 l.length),(9,i64 j)],[]⟩) (fun j _=>zAg (fun i=>zEY (nth l i)&& !(l.take i).any fun y=>zEZ (nth l i) y) j=true) () rfl rfl ?_
 intro j _ hj hI
 try simp only [go_sem,hE,hH,zW6]
 refine gG (fun h=> ?_) (fun h=> ?_)
 ·have hb:=h
  simp only [nf] at h
  have hlt:=h;clear h
  have hw:=hx _ (zAc hlt)
  try refine sb ?_;try exact ⟨⟩
  repeat' (first|(refine qz ?_ ?_<;>intro h)|refine qy ?_|refine qo ?_|refine cq (zVw _ hw) ?_|refine jn _ ?_ ?_|refine qu ?_ ?_|exact qe|refine qw ?_|fail)
  ·rw [zDB,zAm hlt (by simp_all)];rfl
  have hlj:(l.take j).length=j:=by rw [List.length_take];omega
  refine zAU (l.take j).length (fun k (_:Unit)=>⟨[(0, .sl false 3 (l.map (Lock.row false))),(4, .ptr 5000000 0 0),(7, .sl false 3 (l.map (Lock.row false))),(8,i64 l.length),(9,i64 j),(19, .sl false 3 ((l.take j).map (Lock.row false))),(20,i64 (l.take j).length),(21,i64 k)],[(5000000,⟨3,[Lock.row false (nth l j)]⟩)]⟩) (fun k _=>zAg (fun i=> !zEZ (nth l j) (nth (l.take j) i)) k=true) () (by simp [hlj,Lock.row]) rfl ?_
  intro k _ hk hK
  try simp only [go_sem,hE,hH,zW5]
  refine gG (fun h2=> ?_) (fun h2=> ?_)
  ·have hb2:=h2
   simp only [nf] at h2
   have hlt2:k<(l.take j).length:=by omega
   try simp (disch:=omega) only [go_sem,hE,hH,hb2]
   have hany:zEZ (nth l j) (nth (l.take j) k)=true→((l.take j).any fun y=>zEZ (nth l j) y)=true:=fun h=>List.any_eq_true.2 ⟨_,zAc hlt2,h⟩
   repeat' (first|(refine qz ?_ ?_<;>intro h)|refine qy ?_|refine qo ?_|refine cq (zSN (nth l j) (nth (l.take j) k)) ?_|refine jn _ ?_ ?_|refine qu ?_ ?_|exact qe|refine qw ?_|fail)
   all_goals first|(rw [zDB,zAm hlt (by rw [hany (by simp_all [zEZ])];simp)];rfl)|(exact ⟨(),rfl,zAa hK (by simp_all [zEZ])⟩)
  ·try simp (disch:=omega) only [go_sem,hE,hH,h2]
   simp only [nf] at h2
   rw [show k=(l.take j).length by omega] at hK
   have hN:((l.take j).any fun y=>zEZ (nth l j) y)=false:=by
    rw [zAQ (p:=fun y:Lock=> !zEZ (nth l j) y)] at hK
    rw [List.any_eq_false]
    intro x hx'
    have:=List.all_eq_true.1 hK x hx'
    simpa using this
   repeat' (first|(refine qz ?_ ?_<;>intro h)|refine qy ?_|refine jn _ ?_ ?_|refine qu ?_ ?_|exact qe|refine qw ?_|fail)
   all_goals first|(exact ⟨(),rfl,zAa hI (by simp_all)⟩)
 ·try simp (disch:=omega) only [go_sem,hE,hH,h]
  simp only [nf] at h
  rw [show j=l.length by omega] at hI
  repeat' (first|(refine qz ?_ ?_<;>intro h)|refine qy ?_|refine jn _ ?_ ?_|refine qu ?_ ?_|exact qe|refine qw ?_|fail)
  all_goals first|(rw [zDB,hI];simp_all;done)|(simp_all [zDB];done)
def zE0 (o:Op):Bool:=rng o.Kind 1 7&&zAW o.Key&&zCO o.Val&&((decide (o.Kind=2)||decide (o.Kind=7))||decide (o.Val=⟨⟨[]⟩⟩))&&rng o.By (-9999) 9999&&((decide (o.Kind=4)||decide (o.Kind=5))||decide (o.By=0))
def zCu (l:List Op):Bool:=decide ((l.length:Int)≤8)&&l.all zE0
theorem zSO:zCO ⟨⟨[]⟩⟩=true:=by decide
theorem zXu (k:Int):ACall p_ 266 [i64 k] (fun r _=>r=bl (decide (k=2)||decide (k=7))):=by
 refine fg H266 fun E hE hH=> ?_
 repeat' (first|(refine qz ?_ ?_<;>intro h)|refine qy ?_|(with_reducible apply jn)|refine qu ?_ ?_|exact qj|refine qw ?_|fail)
 all_goals (first|(simp_all [];done)|(simp_all []<;>first|omega|(intros;omega)))
theorem zZn (k:Int):ACall p_ 267 [i64 k] (fun r _=>r=bl (decide (k=4)||decide (k=5))):=by
 refine fg H267 fun E hE hH=> ?_
 repeat' (first|(refine qz ?_ ?_<;>intro h)|refine qy ?_|(with_reducible apply jn)|refine qu ?_ ?_|exact qj|refine qw ?_|fail)
 all_goals (first|(simp_all [];done)|(simp_all []<;>first|omega|(intros;omega)))
theorem zAa3 (o:Op) (hw:o.wf):ACall p_ 222 [.agg (Op.row false o)] (fun r _=>r=bl (zE0 o)):=by
 have hmx:=zAd
 refine fg H222 fun E hE hH=> ?_
 repeat' (first|(refine qz ?_ ?_<;>intro h)|refine qy ?_|refine qo ?_|refine cq (zA4 _ _ _) ?_|refine cq (zGB _ hw.2.1) ?_|refine cq (zM8 _ hw.2.2.1) ?_|refine cq (zXu _) ?_|refine cq (zZn _) ?_|(with_reducible apply jn)|refine qu ?_ ?_|exact qj|refine qw ?_|fail)
 all_goals (first|(simp_all [zE0];done)|(simp_all [zE0]<;>first|omega|(intros;omega)))
theorem zAa4 (o:Op) (hw:o.wf):ACall p_ 162 [.agg (Op.row false o)] (fun r _=>r=bl (zE0 o)):=by
 have hmx:=zAd
 refine fg H162 fun E hE hH=> ?_
 repeat' (first|(refine qz ?_ ?_<;>intro h)|refine qy ?_|refine qo ?_|refine cq (zDO _ hw.2.1) ?_|refine cq (zMh _ hw.2.2.1) ?_|refine cq (zBs _ _ _) ?_|(with_reducible apply jn)|refine qu ?_ ?_|exact qj|refine qw ?_|fail)
 all_goals (first|(simp_all [zE0,zSO,rng];done)|(have hk:rng o.Kind 1 7=false:=(zHd.2 (by omega));rw [zE0,hk];rfl)|trace_state)
theorem zRR (o:Op) (hw:o.wf):ACall p_ 221 ([.agg (Op.row false o)]++[]) (fun r _=>r=bl (!zE0 o)):=by
 refine fg H221 fun E hE hH=> ?_
 repeat' (first|(refine qz ?_ ?_<;>intro h)|refine qy ?_|refine qo ?_|refine cq (zAa3 o hw) ?_|refine jn _ ?_ ?_|refine qu ?_ ?_|exact qe|refine qw ?_|fail)
theorem zVy (l:List Op) (hl:wfL Op.wf l):ACall p_ 180 [.sl false 4 (l.map (Op.row false))] (fun r _=>r=bl (zCu l)):=by
 obtain ⟨hl,hx⟩:=hl
 have hmx:=zAd
 have hn:(l.any fun o=> !zE0 o)= !(l.all zE0):=zUj
 refine fg H180 fun E hE hH=> ?_
 repeat' (first|(refine qz ?_ ?_<;>intro h)|refine qy ?_|refine qo ?_|refine cq (zKr l _ [] (fun o=> !zE0 o) (by kernel_rfl) rfl hl (fun o ho=>zRR o (hx o ho))) ?_|(with_reducible apply jn)|refine qu ?_ ?_|exact qj|refine qw ?_|fail)
 all_goals first|(simp_all [zCu];done)|(have hl8:decide ((l.length:Int)≤8)=false:=decide_eq_false (by omega);rw [zCu,hl8];rfl)
theorem zXv (l:List Op) (hl:wfL Op.wf l):ACall p_ 106 [.sl false 4 (l.map (Op.row false))] (fun r _=>r=bl (zCu l)):=by
 obtain ⟨hl,hx⟩:=hl
 have hmx:=zAd
 refine fg H106 fun E hE hH=> ?_
 repeat' (first|(refine qz ?_ ?_<;>intro h)|refine qy ?_|refine jn _ ?_ ?_|refine qu ?_ ?_|exact qe|refine qw ?_|fail)
 refine zAU l.length (fun j (_:Unit)=>⟨[(0, .sl false 4 (l.map (Op.row false))),(5, .sl false 4 (l.map (Op.row false))),(6,i64 l.length),(7,i64 j)],[]⟩) (fun j _=>zAg (fun i=>zE0 (nth l i)) j=true) () rfl rfl ?_
 intro j _ hj hI
 try simp only [go_sem,hE,hH,zTm]
 refine gG (fun h=> ?_) (fun h=> ?_)
 ·have hb:=h
  simp only [nf] at h
  have hlt:=h;clear h
  have hw:=hx _ (zAc hlt)
  try refine sb ?_;try exact ⟨⟩
  repeat' (first|(refine qz ?_ ?_<;>intro h)|refine qy ?_|refine qo ?_|refine cq (zAa4 _ hw) ?_|refine jn _ ?_ ?_|refine qu ?_ ?_|exact qe|refine qw ?_|fail)
  all_goals first|(have e:l.all zE0=false:=(by rw [←zAQ];exact zAm hlt (by assumption));rw [zCu,e,Bool.and_false];done)|(exact ⟨(),rfl,zAa hI (by assumption)⟩)
 ·try simp (disch:=omega) only [go_sem,hE,hH,h]
  simp only [nf] at h
  rw [show j=l.length by omega,zAQ] at hI
  repeat' (first|(refine qz ?_ ?_<;>intro h)|refine qy ?_|refine jn _ ?_ ?_|refine qu ?_ ?_|exact qe|refine qw ?_|fail)
  all_goals first|(rw [zCu,hI];simp_all;done)|(simp_all [zCu];done)
end Go.Proofs.Wb

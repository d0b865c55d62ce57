import Derived.Test.YthfpgpkdankdjaaGreatDoorFnExactSoundWorldL2
import Derived.Laws.Externs
set_option linter.all false
set_option maxHeartbeats 4000000
namespace Go.Proofs.Wb
open Tryz renaming prog→p_
open Go Go.Am
theorem zXH (s:State) (hs:stB s):ACall p_ 207 [.agg (State.row false s)] (fun x _=>x= .agg (State.row true s)):=by
 have hmx:=zAd
 obtain ⟨h1,h2,h3,h4,h5⟩:=hs
 refine fg H207 fun E hE hH=> ?_
 repeat' (first|(refine qz ?_ ?_<;>intro h)|refine qy ?_|refine qo ?_|refine cq (zR3 _ h1 h2) ?_|(with_reducible apply jn)|refine qu ?_ ?_|exact qj|refine qw ?_|fail)
 all_goals try omega
 refine zAU s.Held.length (fun j (_:Unit)=>cpS 17 s j) (fun _ _=>True) () rfl trivial ?_
 intro j _ hj _
 cases j with
 |zero=>
  try simp only [go_sem,hE,hH,zOj,cpS]
  refine gG (fun h=> ?_) (fun h=> ?_)
  ·have hb:=h
   simp only [nf] at h
   have hlt:0<s.Held.length:=by omega
   obtain ⟨q1,q2⟩:=h4 _ (zAc hlt)
   have ht:s.Held.take 1=[nth s.Held 0]:=by rw [zAw hlt];rfl
   try refine sb ?_;try exact ⟨⟩
   repeat' (first|(refine qz ?_ ?_<;>intro h)|refine qy ?_|refine qo ?_|refine cq (zJC _ q1 q2) ?_|refine jn _ ?_ ?_|refine qu ?_ ?_|exact qe|refine qw ?_|fail)
   repeat' (first|(refine both ?_ ?_)|omega|((first|apply zAJ|apply zBo)<;>(simp only [go_sem,hE,hH];done))|fail)
   refine ⟨(), ?_⟩
   rw [ht]
   rfl
  ·try simp (disch:=omega) only [go_sem,hE,hH,h]
   simp only [nf] at h
   have e:s.Held=[]:=List.length_eq_zero_iff.1 (by omega)
   rw [e];rfl
 |succ j=>
  try simp only [go_sem,hE,hH,zOj,cpS]
  refine gG (fun h=> ?_) (fun h=> ?_)
  ·have hb:=h
   simp only [nf] at h
   have hlt:j+1<s.Held.length:=by omega
   obtain ⟨q1,q2⟩:=h4 _ (zAc hlt)
   have hn:(s.Held.take (j+1)).length=j+1:=by simp;omega
   have ht:(s.Held.take (j+1)).take (j+1)=s.Held.take (j+1):=by rw [List.take_take,Nat.min_self]
   try simp (disch:=omega) only [go_sem,hE,hH,hn,hb]
   all_goals (have y1_:=hn;repeat' (first|(refine zBC ?_ ?_<;>intro h)|refine qy ?_|refine zBX ?_|refine zAF (zJC _ q1 q2) ?_|refine jn _ ?_ ?_|refine qu ?_ ?_|exact zKQ|refine zBA ?_|fail))
   repeat' (first|(refine both ?_ ?_)|omega|((first|apply zAJ|apply zBo)<;>(simp only [go_sem,hE,hH,hn];done))|fail)
   all_goals try simp only [ht,hn]
   all_goals try first|omega|exact Nat.le_trans (Nat.mul_le_mul_right _ (show j+1+1≤2^20+1 by omega)) (by decide)
   all_goals (
    refine ⟨(), ?_⟩
    rw [zAw hlt,List.map_append]
    rfl)
  ·try simp (disch:=omega) only [go_sem,hE,hH,h]
   simp only [nf] at h
   rw [show j+1=s.Held.length by omega,List.take_length]
   exact ⟨rfl,rfl⟩
open Go.Proofs.Wb renaming H150→z0_,zIy→z1_ in
theorem zQd (h:Held) (t:Int):ACall p_ 150 ([.agg (Held.row false h),i64 t]++[]) (fun r _=>r=i64 (zJa h.Txn t)):=zSl
open Go.Proofs.Wb renaming H189→z0_,zIy→z1_ in
theorem zQe (h:Told) (t:Int):ACall p_ 189 ([.agg (Told.row false h),i64 t]++[]) (fun r _=>r=i64 (zJa h.Txn t)):=zSl
theorem zH6 (s:State) (t:Int) (hl:s.Held.length≤2^60) (hs:zAO ltI Held.Txn s.Held):ACall p_ 89 [.agg (State.row false s),i64 t] (fun r _=>r= .tup [i64 (hI s.Held t),bl (hF s.Held t)]):=by
 obtain ⟨e1,e2⟩:=zVq zBK hs t
 refine fg H89 fun E hE hH=> ?_
 repeat' (first|(refine qz ?_ ?_<;>intro h)|refine qy ?_|refine qo ?_|refine cq (zHa s.Held t _ [] (fun c=>zJa c.Txn t) (by kernel_rfl) rfl hl (zOs zBK hs) (fun c _=>zQd c t)) ?_|refine jn _ ?_ ?_|refine qu ?_ ?_|exact qe|refine qw ?_|fail)
 all_goals simp only [e1,e2]
 all_goals rfl
theorem zFU (s:State) (t:Int) (hl:s.Told.length≤2^60) (hs:zAO ltI Told.Txn s.Told):ACall p_ 144 [.agg (State.row false s),i64 t] (fun r _=>r= .tup [i64 (tI s.Told t),bl (tF s.Told t)]):=by
 obtain ⟨e1,e2⟩:=zVq zBK hs t
 refine fg H144 fun E hE hH=> ?_
 repeat' (first|(refine qz ?_ ?_<;>intro h)|refine qy ?_|refine qo ?_|refine cq (zHb s.Told t _ [] (fun c=>zJa c.Txn t) (by kernel_rfl) rfl hl (zOs zBK hs) (fun c _=>zQe c t)) ?_|refine jn _ ?_ ?_|refine qu ?_ ?_|exact qe|refine qw ?_|fail)
 all_goals simp only [e1,e2]
 all_goals rfl
def zMl (l:List Held) (t:Int):Held:=if hF l t then nth l (hI l t) else ⟨0,0,0,[],[]⟩
theorem zKD (s:State) (t:Int) (hl:s.Held.length≤maxLen) (hs:zAO ltI Held.Txn s.Held):ACall p_ 60 [.agg (State.row false s),i64 t] (fun r _=>r= .tup [.agg (Held.row false (zMl s.Held t)),bl (hF s.Held t)]):=by
 have hmx:=zAd
 refine fg H60 fun E hE hH=> ?_;refine st ?_
 refine zAi s.Held.length (fun j (_:Unit)=>⟨[(1,i64 t),(4, .ptr 5000000 0 0),(9, .sl false 5 (s.Held.map (Held.row false))),(10,i64 s.Held.length),(11,i64 j)],[(5000000,⟨5,[[i64 0,i64 0,i64 0,zAB,zAB]]⟩)]⟩) (fun j _=>zAg (fun i=> !decide ((nth s.Held i).Txn=t)) j=true) () rfl ?_
 intro j _ hj hIn
 try simp only [go_sem,hE,hH,zXe]
 refine gG (fun h=> ?_) (fun h=> ?_)
 ·have hb:=h
  simp only [nf] at h
  have hlt:=h;clear h
  try refine sb ?_;try exact ⟨⟩
  repeat' (first|(refine qz ?_ ?_<;>intro h)|refine qy ?_|refine jn _ ?_ ?_|refine qu ?_ ?_|exact qe|refine qw ?_|fail)
  all_goals try (exact ⟨(),rfl,zAa hIn (by simp [h])⟩)
  all_goals (
   have e:hF s.Held t=true:=zDa.2 ⟨j,hlt,h⟩
   have e2:zMl s.Held t=nth s.Held j:=by rw [zMl,e,if_pos rfl,show hI s.Held t=j from zM2 zBK hs hlt h]
   first|rfl|(rw [e2];done)|(rw [e2];rfl)|(rw [e];done))
 ·try simp (disch:=omega) only [go_sem,hE,hH,h]
  simp only [nf] at h
  rw [show j=s.Held.length by omega,zAQ (p:=fun c:Held=> !decide (c.Txn=t))] at hIn
  have e:hF s.Held t=false:=by
   rw [hF,fxF,List.any_eq_false];intro x hx;simpa using List.all_eq_true.1 hIn x hx
  simp [zMl,e,strs]
def zOJ (l:List Told) (t:Int):Told:=if tF l t then nth l (tI l t) else ⟨0,false,0⟩
theorem zE6 (s:State) (t:Int) (hl:s.Told.length≤maxLen) (hs:zAO ltI Told.Txn s.Told):ACall p_ 59 [.agg (State.row false s),i64 t] (fun r _=>r= .tup [.agg (Told.row false (zOJ s.Told t)),bl (tF s.Told t)]):=by
 have hmx:=zAd
 refine fg H59 fun E hE hH=> ?_;refine st ?_
 refine zAi s.Told.length (fun j (_:Unit)=>⟨[(1,i64 t),(4, .ptr 5000000 0 0),(9, .sl false 3 (s.Told.map (Told.row false))),(10,i64 s.Told.length),(11,i64 j)],[(5000000,⟨3,[[i64 0,bl false,i64 0]]⟩)]⟩) (fun j _=>zAg (fun i=> !decide ((nth s.Told i).Txn=t)) j=true) () rfl ?_
 intro j _ hj hIn
 try simp only [go_sem,hE,hH,zXd]
 refine gG (fun h=> ?_) (fun h=> ?_)
 ·have hb:=h
  simp only [nf] at h
  have hlt:=h;clear h
  try refine sb ?_;try exact ⟨⟩
  repeat' (first|(refine qz ?_ ?_<;>intro h)|refine qy ?_|refine jn _ ?_ ?_|refine qu ?_ ?_|exact qe|refine qw ?_|fail)
  all_goals try (exact ⟨(),rfl,zAa hIn (by simp [h])⟩)
  all_goals (
   have e:tF s.Told t=true:=zDa.2 ⟨j,hlt,h⟩
   have e2:zOJ s.Told t=nth s.Told j:=by rw [zOJ,e,if_pos rfl,show tI s.Told t=j from zM2 zBK hs hlt h]
   first|rfl|(rw [e2];done)|(rw [e2];rfl)|(rw [e];done))
 ·try simp (disch:=omega) only [go_sem,hE,hH,h]
  simp only [nf] at h
  rw [show j=s.Told.length by omega,zAQ (p:=fun c:Told=> !decide (c.Txn=t))] at hIn
  have e:tF s.Told t=false:=by
   rw [tF,fxF,List.any_eq_false];intro x hx;simpa using List.all_eq_true.1 hIn x hx
  simp [zOJ,e]
theorem zZv (a b:Held) (h1:a.Writes.length≤2^20) (h2:b.Writes.length≤2^20) (h3:a.Reads.length≤2^20) (h4:b.Reads.length≤2^20) (s1:zCm a.Writes) (s2:zCm b.Writes):ACall p_ 305 [.agg (Held.row false a), .agg (Held.row false b)] (fun r _=>r=bl (zGg a b)):=by
 have hmx:=zAd
 refine fg H305 fun E hE hH=> ?_
 repeat' (first|(refine qz ?_ ?_<;>intro h)|refine qy ?_|refine qo ?_|refine cq (zNc a.Writes b.Reads b.Writes (by omega) (by omega) (by omega) s2) ?_|refine cq (zNc b.Writes a.Reads a.Writes (by omega) (by omega) (by omega) s1) ?_|(with_reducible apply jn)|refine qu ?_ ?_|exact qj|refine qw ?_|fail)
 all_goals simp_all [zGg]
theorem zXI (l:List ByteArray) (k:ByteArray) (hl:l.length≤maxLen):ACall p_ 292 [.sl false 1 (strs l),str k] (fun r _=>r=bl (l.any fun x=>decide (k=x))):=by
 have hmx:=zAd
 refine fg H292 fun E hE hH=> ?_;refine st ?_
 refine zAi l.length (fun j (_:Unit)=>⟨[(1,str k),(7, .sl false 1 (strs l)),(8,i64 l.length),(9,i64 j)],[]⟩) (fun j _=>zAg (fun i=> !decide (k=nth l i)) j=true) () rfl ?_
 intro j _ hj hI
 try simp only [go_sem,hE,hH,zT9]
 refine gG (fun h=> ?_) (fun h=> ?_)
 ·have hb:=h
  simp only [nf] at h
  have hlt:=h;clear h
  try refine sb ?_;try exact ⟨⟩
  repeat' (first|(refine qz ?_ ?_<;>intro h)|refine qy ?_|refine jn _ ?_ ?_|refine qu ?_ ?_|exact qe|refine qw ?_|fail)
  ·rw [List.any_eq_true.2 ⟨_,zAc hlt,by simp [h]⟩]
  ·exact ⟨(),rfl,zAa hI (by simp [Ne.symm h])⟩
 ·try simp (disch:=omega) only [go_sem,hE,hH,h]
  simp only [nf] at h
  rw [show j=l.length by omega,zAQ (p:=fun x=> !decide (k=x))] at hI
  rw [show (l.any fun x=>decide (k=x))=false by rw [List.any_eq_false];intro x hx;simpa using List.all_eq_true.1 hI x hx]
theorem zPL {x:ByteArray}:∀ {p:List ByteArray},0<p.length→zBB (p++[x])=if nth p (p.length-1)=x then zBB p else zBB p++[x]
 |[],h=>by simp at h
 |[y],_=>by
  simp only [List.cons_append,List.nil_append,zBB,List.length_cons,List.length_nil,Nat.zero_add,Nat.sub_self,nth,List.getD_cons_zero]
  split
  ·rename_i h;rw [h]
  ·rfl
 |y::z::t,_=>by
  have ih:=zPL (x:=x) (p:=z::t) (by simp)
  have e:nth (y::z::t) ((y::z::t).length-1)=nth (z::t) ((z::t).length-1):=by
   simp [nth,List.getD]
  rw [e,List.cons_append,List.cons_append,zBB, ←List.cons_append,ih]
  by_cases h1:y=z
  ·rw [if_pos h1]
   by_cases h2:nth (z::t) ((z::t).length-1)=x
   ·rw [if_pos h2,if_pos h2,zBB,if_pos h1]
   ·rw [if_neg h2,if_neg h2,zBB,if_pos h1]
  ·rw [if_neg h1]
   by_cases h2:nth (z::t) ((z::t).length-1)=x
   ·rw [if_pos h2,if_pos h2,zBB,if_neg h1]
   ·rw [if_neg h2,if_neg h2,zBB,if_neg h1];rfl
theorem zPM {l:List ByteArray} {m:Nat} (h0:0<m) (hm:m<l.length):zBB (l.take (m+1))=if nth l (m-1)=nth l m then zBB (l.take m) else zBB (l.take m)++[nth l m]:=by
 have e:(l.take m).length=m:=by rw [List.length_take];omega
 have e2:nth (l.take m) (m-1)=nth l (m-1):=by simp [nth,List.getD,List.getElem?_take,show m-1<m by omega]
 rw [zAw hm,zPL (by omega),e,e2]
theorem zJD {α:Type} {R:List α} {k:Nat} {y:α} (h:k<R.length):(R.set k y).take (k+1)=R.take k++[y]:=by
 rw [List.take_add_one,List.getElem?_set_self h,List.take_set_of_le (Nat.le_refl _)];rfl
theorem zNn {α:Type} [Inhabited α] {R:List α} {k q:Nat} {y:α} (h:k≠q):nth (R.set k y) q=nth R q:=by
 simp [nth,List.getD,List.getElem?_set_ne h]
theorem zZw {l:List ByteArray} (h:0<l.length):0<(zBB l).length:=by
 cases l with
 |nil=>simp at h
 |cons x t=>
  have:x∈zBB (x::t):=zEy.2 List.mem_cons_self
  exact List.length_pos_of_mem this
set_option maxRecDepth 100000 in
theorem zVK:ACall p_ 241 [.v (.int .u64 0)] (fun r _=>r=i64 0):=by
 have z1:decide ((4294967296:Int)≤0)=false:=rfl
 have z2:decide ((65536:Int)≤0)=false:=rfl
 have z3:decide ((256:Int)≤0)=false:=rfl
 have z4:IntKind.u8.wrap 0=0:=rfl
 refine fg H241 fun E hE hH=> ?_
 all_goals (have y1_:=z1;have y2_:=z2;have y3_:=z3;have y4_:=z4;repeat' (first|(refine zIc ?_ ?_<;>intro h)|refine qy ?_|(with_reducible apply jn)|refine qu ?_ ?_|exact zId|refine zIe ?_|fail))
 all_goals first|rfl|decide|(exfalso;omega)
theorem zZx:ACall p_ 196 [.v (.int .u64 0)] (fun r _=>r=i64 0):=by
 refine fg H196 fun E hE hH=> ?_
 repeat' (first|(refine qz ?_ ?_<;>intro h)|refine qy ?_|refine qo ?_|refine cq (zVK) ?_|(with_reducible apply jn)|refine qu ?_ ?_|exact qj|refine qw ?_|fail)
 all_goals first|rfl
theorem zSU:ACall p_ 231 [.sl true 1 [],i64 0,i64 0] (fun r a=>r= .tup []∧a=[.sl true 1 [],i64 0,i64 0]):=by
 refine fg H231 fun E hE hH=> ?_
 try refine st ?_;try exact ⟨⟩
 refine zAi 0 (fun j (_:Unit)=>⟨[(0, .ref 0 0 0),(1,i64 0),(2,i64 0),(6,i64 1)],[(0,⟨1,[]⟩)]⟩) (fun _ _=>True) () trivial ?_
 intro j _ hj _
 have z1:decide ((1:Int)<0)=false:=rfl
 try simp only [go_sem,hE,hH,z1,zTU]
 all_goals (have y1_:=z1;repeat' (first|(refine zBC ?_ ?_<;>intro h)|refine qy ?_|(with_reducible apply jn)|refine qu ?_ ?_|exact zCd|refine zBA ?_|fail))
 all_goals trace_state
theorem zAa7:ACall p_ 195 [.sl true 1 [],i64 0,i64 0,i64 0] (fun r a=>r= .tup []∧a=[.sl true 1 [],i64 0,i64 0,i64 0]):=by
 refine fg H195 fun E hE hH=> ?_
 try refine st ?_;try exact ⟨⟩
 refine zAi 0 (fun j (_:Unit)=>⟨[(0, .ref 0 0 0),(1,i64 0),(2,i64 0),(3,i64 0),(8,bl true),(9,bl true)],[(0,⟨1,[]⟩)]⟩) (fun _ _=>True) () trivial ?_
 intro j _ hj _
 have z1:decide ((0:Int)-0≤12)=true:=rfl
 have z2:decide ((0:Int)≤12)=true:=rfl
 have z3:IntKind.i64.wrap 0=0:=rfl
 try simp only [go_sem,hE,hH,z1,z2,z3,Int.sub_self,zTM]
 repeat' (first|((with_reducible first|refine zD7 ?_ ?_|refine zD8 ?_ ?_)<;>(intro h;have hb:=h;(try simp only [nf] at h);simp (disch:=omega) only [go_sem,hE,hH,z1,z2,z3,Int.sub_self,hb];(try clear hb)))|((with_reducible refine And.intro ?_ ?_);· omega)|(refine zAP [true,false,false] ?_;simp (disch:=omega) only [go_sem,hE,hH,z1,z2,z3,Int.sub_self];refine cmA (zSU) ?_;simp (disch:=omega) only [go_sem,hE,hH,z1,z2,z3,Int.sub_self])|(with_reducible first|apply jn|apply both|refine And.intro ?_ ?_)|((with_reducible apply zBH);(try (simp (disch:=omega) only [go_sem,hE,hH,z1,z2,z3,Int.sub_self]));first|done|rfl)|(simp (disch:=omega) only [go_sem,hE,hH,z1,z2,z3,Int.sub_self])|((first|apply zAJ|apply zBo)<;>(simp only [go_sem,hE,hH,z1,z2,z3,Int.sub_self];done))|(simp only [go_sem,hE,hH,z1,z2,z3,Int.sub_self])|fail)
 all_goals first|(exfalso;omega)|(exfalso;simp_all;done)
theorem zZy:ACall p_ 147 [.sl true 1 []] (fun r a=>r= .tup []∧a=[.sl true 1 []]):=by
 refine fg H147 fun E hE hH=> ?_;refine st ?_
 have z1:IntKind.u64.wrap 0=0:=rfl
 all_goals (have y1_:=z1;repeat' (first|(refine zBC ?_ ?_<;>intro h)|refine qy ?_|(refine zAP [true,false,false,false] ?_;refine zEd ?_;refine cmA (zAa7) ?_;refine zEd ?_)|refine zBX ?_|refine zAF (zZx) ?_|(with_reducible apply jn)|refine qu ?_ ?_|exact zCd|refine zBA ?_|fail))
 all_goals trace_state
def zCD:Prop:=∀ l:List ByteArray,l≠[]→l.length≤2^20→ACall p_ 147 [.sl true 1 (strs l)] (fun r a=>r= .tup []∧a=[.sl true 1 (strs (zBp l))])
theorem zOK (hS:zCD) (l:List ByteArray) (hl:l.length≤2^20):ACall p_ 147 [.sl true 1 (strs l)] (fun r a=>r= .tup []∧a=[.sl true 1 (strs (zBp l))]):=by
 by_cases e:l=[]
 ·subst e
  have:zBp []=[]:=List.length_eq_zero_iff.1 (by rw [zDR];rfl)
  rw [this]
  exact zZy
 ·exact hS l e hl
theorem zGp (l:List ByteArray) (hl:l.length≤2^20):ACall p_ 244 [.sl true 1 (strs l)] (fun r a=>r= .sl true 1 (strs (zBB l))∧a=[.any]):=by
 have hmx:=zAd
 refine zG2 [true] (hqA H244) (hqB H244) ⟨by simp only [go_sem],fun E hE hH=> ?_⟩;simp only [go_sem] at hE hH;simp only [go_sem,hE,hH,zY0]
 repeat' (first|(refine qz ?_ ?_<;>intro h)|refine qy ?_|(with_reducible apply jn)|refine qu ?_ ?_|exact qj|refine qw ?_|fail)
 ·have:zBB l=l:=by
   rcases l with _|⟨a,_|⟨b,t⟩⟩
   ·rfl
   ·rfl
   ·exfalso;simp only [List.length_cons] at h;try omega
  rw [this];try rfl
 have h2:2≤l.length:=by omega
 have t1:zBB (l.take 1)=l.take 1:=by
  match l,h2 with
  |_::_::_,_=>rfl
 refine zAU (l.length-1) (fun j (_:Unit)=>⟨[(0, .ref 0 0 l.length),(3,i64 (j+1:Nat))],[(0,⟨1,strs l⟩)]⟩) (fun j _=>zBB (l.take (j+1))=l.take (j+1)) () rfl t1 ?_
 intro j _ hj hI
 have e1:(((j+1:Nat):Int)-1).toNat=j:=by omega
 have e2:((j+1:Nat):Int).toNat=j+1:=by omega
 try simp only [go_sem,hE,hH,zTX]
 refine gG (fun hh=> ?_) (fun hh=> ?_)
 ·have hb:=hh
  simp only [nf] at hh
  have hlt:j+1<l.length:=by omega
  have hct:=zPM (l:=l) (Nat.succ_pos j) hlt
  rw [show j.succ-1=j from rfl,show j.succ=j+1 from rfl] at hct
  try simp (disch:=omega) only [go_sem,hE,hH,e1,e2,hb]
  all_goals (have y1_:=e1;have y2_:=e2;repeat' (first|(refine zCJ ?_ ?_<;>intro h)|refine qy ?_|(with_reducible apply jn)|refine qu ?_ ?_|exact zCK|refine zCL ?_|fail))
  all_goals try omega
  ·rw [if_pos (by first|exact h.symm|exact h),hI] at hct
   refine zAU (l.length-(j+1)-1) (fun m (x:List ByteArray×Nat)=>⟨[(0, .ref 0 0 l.length),(3,i64 x.2),(4, .ref 0 (j+1) (l.length-(j+1))),(5,i64 (m+1:Nat))],[(0,⟨1,strs x.1⟩)]⟩) (fun m x=>x.1.length=l.length∧x.1.take x.2=zBB (l.take (j+1+(m+1)))∧x.2=(zBB (l.take (j+1+(m+1)))).length∧(∀ q,j+1+m≤q→q<l.length→nth x.1 q=nth l q)∧x.2≤j+1+m) (l,j+1) rfl ⟨rfl,hct.symm,by rw [hct,List.length_take];omega,fun _ _ _=>rfl,Nat.le_refl _⟩ ?_
   rintro m ⟨R,k⟩ hm ⟨i1,i2,i3,i4,i5⟩
   simp only at i1 i2 i3 i4 i5
   have hkp:0<k:=by rw [i3];exact zZw (by rw [List.length_take];omega)
   have f1:(((m+1:Nat):Int)-1).toNat=m:=by omega
   have f2:((m+1:Nat):Int).toNat=m+1:=by omega
   try simp only [go_sem,hE,hH,zTW]
   refine gG (fun hq=> ?_) (fun hq=> ?_)
   ·have hbq:=hq
    simp only [nf] at hq
    have hlt2:j+1+(m+1)<l.length:=by omega
    have hct2:=zPM (l:=l) (show 0<j+1+(m+1) by omega) hlt2
    have g1:=i4 (j+1+m) (by omega) (by omega)
    have g2:=i4 (j+1+(m+1)) (by omega) (by omega)
    rw [show j+1+(m+1)-1=j+1+m by omega] at hct2
    try simp (disch:=omega) only [go_sem,hE,hH,f1,f2,i1,g1,g2,hbq]
    all_goals (have y1_:=f1;have y2_:=f2;have y3_:=i1;have y4_:=g1;have y5_:=g2;repeat' (first|(refine zH9 ?_ ?_<;>intro h)|refine qy ?_|(with_reducible apply jn)|refine qu ?_ ?_|exact zIa|refine zIb ?_|fail))
    all_goals try omega
    ·rw [if_neg (by first|exact h|exact fun e=>h e.symm)] at hct2
     refine ⟨(R.set k (nth l (j+1+(m+1))),k+1),by simp [strs,List.map_set],by simp [i1], ?_, ?_, ?_,by simp only;omega⟩
     ·simp only
      rw [zJD (by omega),i2,show j+1+(m+1+1)=j+1+(m+1)+1 by omega,hct2]
     ·simp only
      rw [show j+1+(m+1+1)=j+1+(m+1)+1 by omega,hct2,List.length_append, ←i3];rfl
     ·intro q a b
      simp only
      rw [zNn (by omega)];exact i4 q (by omega) b
    ·rw [if_pos (by first|exact h.symm|exact h)] at hct2
     refine ⟨(R,k),rfl,i1, ?_, ?_,fun q a b=>i4 q (by omega) b,by simp only;omega⟩
     ·simp only
      rw [i2,show j+1+(m+1+1)=j+1+(m+1)+1 by omega,hct2]
     ·simp only
      rw [show j+1+(m+1+1)=j+1+(m+1)+1 by omega,hct2, ←i3]
   ·have hkl:k<l.length:=by omega
    simp only [nf] at hq
    rw [show j+1+(m+1)=l.length by omega,List.take_length] at i2 i3
    have r1:∀ z,(zAl (strs R) k (List.replicate (l.length-k) z)).take k=strs (R.take k):=fun z=>by
     rw [zAl,List.append_assoc,List.take_append_of_le_length (by simp [strs];omega),List.take_take,Nat.min_self,strs,strs,List.map_take]
    have r2:∀ z,(zAl (strs R) k (List.replicate (l.length-k) z)).length=l.length:=fun z=>by
     rw [zBb (by simp [strs];omega)];simp [strs,i1]
    have hqf:decide (((m+1:Nat):Int)<((l.length-(j+1):Nat):Int))=false:=decide_eq_false (by omega)
    have e4:((k:Nat):Int).toNat=k:=rfl
    try simp (disch:=omega) only [go_sem,hE,hH,i1,r1,r2,hqf,e4]
    all_goals (have y1_:=i1;have y2_:=r1;have y3_:=r2;have y4_:=hqf;have y5_:=e4;repeat' (first|(refine zH9 ?_ ?_<;>intro h)|refine qy ?_|(with_reducible apply jn)|refine qu ?_ ?_|exact zIa|refine zIb ?_|fail))
    ·rw [List.length_take];omega
    ·rw [i2]
  ·rw [if_neg (by first|exact h|exact fun e=>h e.symm),hI] at hct
   exact ⟨(),rfl,by rw [hct,zAw hlt]⟩
 ·try simp (disch:=omega) only [go_sem,hE,hH,hh]
  simp only [nf] at hh
  rw [show j+1=l.length by omega,List.take_length] at hI
  rw [hI]
theorem zGC {l:List Held} {j:Nat} (h:j<l.length):zBg (l.take (j+1))=zBg (l.take j)++(nth l j).Writes:=by
 rw [zAw h,zBg,List.flatMap_append];simp [zBg]
theorem zPN {l:List Held} {m:Nat} (h:∀ x∈l,x.Writes.length≤m):(zBg l).length≤l.length*m:=by
 induction l with
 |nil=>simp [zBg]
 |cons x t ih=>
  have h1:=h x List.mem_cons_self
  have h2:=ih fun y hy=>h y (List.mem_cons_of_mem _ hy)
  simp only [zBg,List.flatMap_cons,List.length_append,List.length_cons,Nat.succ_mul] at h2 ⊢
  omega
theorem zXJ {l:List Held} {j i:Nat} (h:j<l.length) (h2:i<(nth l j).Writes.length):nth (nth l j).Writes i∈zBg l:=
 List.mem_flatMap.2 ⟨_,zAc h,zAc h2⟩
theorem zNo {cs:List Cell} {ws:List Write} {w:Write} (hw:w∈ws) (h:zE4 cs w.Key=true):zDm cs ws=false:=by
 unfold zDm
 rw [List.any_eq_true.2 ⟨w,hw,h⟩];rfl
theorem zAa8 (hS:zCD) (s:State) (held:List Held) (hc:zAZ s.Cells=true) (hl:held.length≤100) (hw:∀ h∈held,h.Writes.length≤100):ACall p_ 306 [.agg (State.row false s), .sl false 5 (held.map (Held.row false))] (fun r _=>r=bl (decide ((held.length:Int)≤12)&&zDm s.Cells (zBg held))):=by
 have hmx:=zAd
 have hI0:=zB5 hc
 have hcl:=hI0.len
 have hone:∀ c∈s.Cells,c.Vers.length≤100:=fun c q=>by have:=(hI0.one c q).2;omega
 have hal:∀ j,(zBg (held.take j)).length≤10000:=fun j=>by
  have h1:=zPN (l:=held.take j) (m:=100) fun x hx=>hw x (List.mem_of_mem_take hx)
  have h2:(held.take j).length≤100:=by rw [List.length_take];omega
  have:=Nat.mul_le_mul_right 100 h2
  omega
 refine fg H306 fun E hE hH=> ?_
 repeat' (first|(refine qz ?_ ?_<;>intro h)|refine qy ?_|(with_reducible apply jn)|refine qu ?_ ?_|exact qj|refine qw ?_|fail)
 refine zAi s.Cells.length (fun j (x:List ByteArray)=>⟨[(1, .sl false 5 (held.map (Held.row false))),(2, .ptr 3000000 0 0),(5, .ref 6000000 0 x.length),(16, .sl false 2 (s.Cells.map (Cell.row false))),(17,i64 s.Cells.length),(18,i64 j)],[(3000000,⟨4,[State.row false s]⟩),(6000000,⟨1,strs x⟩)]⟩) (fun j x=>x=(s.Cells.take j).map (·.Key)) [] rfl ?_
 rintro j x hj hx
 have hlen:x.length=j:=by rw [hx];simp;omega
 try simp only [go_sem,hE,hH,zUd]
 refine gG (fun h1=> ?_) (fun h1=> ?_)
 ·have hb1:=h1
  simp only [nf] at h1
  try simp (disch:=omega) only [go_sem,hE,hH,hb1]
  repeat' (first|(refine qz ?_ ?_<;>intro h)|refine qy ?_|(with_reducible apply jn)|refine qu ?_ ?_|exact qj|refine qw ?_|fail)
  have e:(s.Cells.take (j+1)).map (·.Key)=x++[(nth s.Cells j).Key]:=by rw [zAw h1,List.map_append, ←hx];rfl
  have e2:(s.Cells.take (j+1)).length=x.length+1:=by rw [List.length_take,hlen];omega
  rw [e,e2,strs,List.map_append]
  rfl
 ·try simp (disch:=omega) only [go_sem,hE,hH,h1]
  simp only [nf] at h1
  rw [show j=s.Cells.length by omega,List.take_length] at hx
  subst hx
  clear hlen
  repeat' (first|(refine qz ?_ ?_<;>intro h)|refine qy ?_|(with_reducible apply jn)|refine qu ?_ ?_|exact qj|refine qw ?_|fail)
  refine zAU held.length (fun j (x:List ByteArray)=>⟨[(1, .sl false 5 (held.map (Held.row false))),(2, .ptr 3000000 0 0),(5, .ref 6000000 0 x.length),(28, .sl false 5 (held.map (Held.row false))),(29,i64 held.length),(30,i64 j)],[(3000000,⟨4,[State.row false s]⟩),(6000000,⟨1,strs x⟩)]⟩) (fun j x=>x=s.Cells.map (·.Key)++(zBg (held.take j)).map (·.Key)∧(zBg (held.take j)).any (fun w=>zE4 s.Cells w.Key)=false) (s.Cells.map (·.Key)) (by rw [List.length_map];rfl) ⟨by simp [zBg],by simp [zBg]⟩ ?_
  rintro j x hj ⟨hx,hnf⟩
  try simp only [go_sem,hE,hH,zUf]
  refine gG (fun h2=> ?_) (fun h2=> ?_)
  ·have hb2:=h2
   simp only [nf] at h2
   have hlt2:=h2;clear h2
   try simp (disch:=omega) only [go_sem,hE,hH,hb2]
   repeat' (first|(refine qz ?_ ?_<;>intro h)|refine qy ?_|(with_reducible apply jn)|refine qu ?_ ?_|exact qj|refine qw ?_|fail)
   refine zAi (nth held j).Writes.length (fun i (x:List ByteArray)=>⟨[(1, .sl false 5 (held.map (Held.row false))),(2, .ptr 3000000 0 0),(5, .ref 6000000 0 x.length),(28, .sl false 5 (held.map (Held.row false))),(29,i64 held.length),(30,i64 j),(35, .sl false 3 ((nth held j).Writes.map (Write.row false))),(36,i64 (nth held j).Writes.length),(37,i64 i)],[(3000000,⟨4,[State.row false s]⟩),(6000000,⟨1,strs x⟩)]⟩) (fun i x=>x=s.Cells.map (·.Key)++(zBg (held.take j)++(nth held j).Writes.take i).map (·.Key)∧((nth held j).Writes.take i).any (fun w=>zE4 s.Cells w.Key)=false) x ⟨by simp [hx],rfl⟩ ?_
   rintro i y hi ⟨hy,hfi⟩
   have hwj:=hw _ (zAc hlt2)
   have hyl:y.length≤20000:=by
    have:=hal j
    rw [hy,List.length_append,List.length_map,List.length_map,List.length_append,List.length_take];omega
   try simp only [go_sem,hE,hH,zUe]
   refine gG (fun h3=> ?_) (fun h3=> ?_)
   ·have hb3:=h3
    simp only [nf] at h3
    have hlt3:=h3;clear h3
    have cF1:=zEo s.Cells (nth (nth held j).Writes i).Key (by omega) hI0.srt
    have hci:=zLa (l:=s.Cells) (k:=(nth (nth held j).Writes i).Key)
    cases hf:cF s.Cells (nth (nth held j).Writes i).Key with
    |true=>
     rw [hf] at cF1
     obtain ⟨k1,k2⟩:=zDd hI0.srt hf
     try simp (disch:=omega) only [go_sem,hE,hH,hb3]
     repeat' (first|(refine qz ?_ ?_<;>intro h)|refine qy ?_|refine qo ?_|refine cq (cF1) ?_|(with_reducible apply jn)|refine qu ?_ ?_|exact qj|refine qw ?_|fail)
     ·rw [zNo (zXJ hlt2 hlt3) (by simp only [zE4,hf,Bool.true_and,decide_eq_true_eq];omega),Bool.and_false]
     ·refine ⟨y++[(nth (nth held j).Writes i).Key],by simp [strs], ?_, ?_⟩
      ·rw [zAw hlt3,hy];simp [List.map_append]
      ·rw [zAw hlt3,List.any_append,hfi]
       simp only [List.any_cons,List.any_nil,Bool.or_false,Bool.false_or,zE4,hf,Bool.true_and,decide_eq_false_iff_not]
       omega
    |false=>
     rw [hf] at cF1
     try simp (disch:=omega) only [go_sem,hE,hH,hb3]
     repeat' (first|(refine qz ?_ ?_<;>intro h)|refine qy ?_|refine qo ?_|refine cq (cF1) ?_|(with_reducible apply jn)|refine qu ?_ ?_|exact qj|refine qw ?_|fail)
     all_goals try omega
     refine ⟨y++[(nth (nth held j).Writes i).Key],by simp [strs], ?_, ?_⟩
     ·rw [zAw hlt3,hy];simp [List.map_append]
     ·rw [zAw hlt3,List.any_append,hfi]
      simp only [List.any_cons,List.any_nil,Bool.or_false,Bool.false_or,zE4,hf,Bool.false_and]
   ·try simp (disch:=omega) only [go_sem,hE,hH,h3]
    simp only [nf] at h3
    rw [show i=(nth held j).Writes.length by omega,List.take_length] at hy hfi
    refine ⟨hlt2,y,rfl, ?_, ?_⟩
    ·rw [zGC hlt2,hy]
    ·rw [zGC hlt2,List.any_append,hnf,hfi];rfl
  ·try simp (disch:=omega) only [go_sem,hE,hH,h2]
   simp only [nf] at h2
   rw [show j=held.length by omega,List.take_length] at hx hnf
   have hxl:x.length≤20000:=by
    have:=hal held.length
    rw [List.take_length] at this
    rw [hx,List.length_append,List.length_map,List.length_map];omega
   have hsl:(zBp x).length=x.length:=zDR
   have hst:(zBp x).take x.length=zBp x:=List.take_of_length_le (by omega)
   have hdn:(zBB (zBp x)).length=dnN x:=zAeD (zRZ x) fun y=>zKB
   have hrm:zDm s.Cells (zBg held)=decide (dnN x≤24):=by rw [zDm,hnf, ←hx];rfl
   all_goals (have y1_:=hsl;have y2_:=hst;repeat' (first|(refine zCJ ?_ ?_<;>intro h)|refine qy ?_|(refine zAP [true] ?_;refine zGn ?_;refine cmA (zOK hS x (by omega)) ?_;refine zGn ?_)|(refine zAP [true] ?_;refine zGn ?_;refine cmA (zGp (zBp x) (by rw [zDR];omega)) ?_;refine zGn ?_)|(with_reducible apply jn)|refine qu ?_ ?_|exact zCK|refine zCL ?_|fail))
   all_goals rw [hrm,hdn,show decide (((dnN x:Nat):Int)≤24)=decide (dnN x≤24) by rw [decide_eq_decide];omega]
theorem zVL {l:List ByteArray} {k:ByteArray} (hs:zAO zAf id l) (h:fxF id l k=true):dnI (fun y:ByteArray=>zAf k y) l l.length=fxI zAf id l k+1:=by
 obtain ⟨h1,h2⟩:=zDl zC2 hs h
 simp only [id] at h2
 refine zGc (by omega) (fun i a b=> ?_) (.inr ?_)
 ·have:=hs _ _ (show fxI zAf id l k<i by omega) b
  simp only [id] at this
  rwa [h2] at this
 ·simp only [Nat.add_sub_cancel,h2,zBm]
theorem zEE (l:List ByteArray) (key:ByteArray) (hl:l.length≤2^20) (hs:zAO zAf id l):ACall p_ 112 [.sl true 1 (strs l),str key] (fun r a=>r= .sl true 1 (strs (zA5 l key))∧a=[.any,str key]):=by
 have hmx:=zAd
 refine zG2 [true,false] (hqA H112) (hqB H112) ⟨by simp only [go_sem],fun E hE hH=> ?_⟩;simp only [go_sem] at hE hH;simp only [go_sem,hE,hH,zYV]
 try refine st ?_;try exact ⟨⟩
 refine zHz (fun (k:Nat)=>⟨[(0, .ref 0 0 l.length),(1,str key),(5,i64 k)],[(0,⟨1,strs l⟩)]⟩) (fun k=>k≤l.length∧∀ i,k≤i→i<l.length→zAf key (nth l i)=true) (fun k=>k) l.length ⟨Nat.le_refl _,fun i a b=>absurd b (by omega)⟩ ?_
 rintro k ⟨hk,hK⟩
 have e1:((k:Int)-1).toNat=k-1:=by omega
 by_cases hgo:k≠0∧zAf key (nth l (k-1))=true
 ·obtain ⟨hk0,hq⟩:=hgo
  have e2:decide ((0:Int)<(k:Int))=true:=decide_eq_true (by omega)
  try simp only [go_sem,hE,hH,e1,e2,hq,zIu]
  all_goals (have y1_:=e1;have y2_:=e2;have y3_:=hq;repeat' (first|(refine zFc ?_ ?_<;>intro h)|refine qy ?_|(with_reducible apply jn)|refine qu ?_ ?_|exact zFJ|refine zFd ?_|fail))
  all_goals first|omega|(refine ⟨k-1, ?_,⟨by omega,fun i a b=> ?_⟩,by omega⟩)
  ·rw [show ((k-1:Nat):Int)=(k:Int)-1 by omega]
  ·by_cases e:i=k-1
   ·rw [e];exact hq
   ·exact hK i (by omega) b
 have hd:dnI (fun y:ByteArray=>zAf key y) l l.length=k:=zGc hk hK (by
  by_cases e:k=0
  ·exact .inl e
  ·right
   cases q:zAf key (nth l (k-1)) with
   |false=>rfl
   |true=>exact absurd ⟨e,q⟩ hgo)
 cases hf:fxF id l key with
 |true=>
  have hc0:=zVL hs hf
  obtain ⟨k1,k2⟩:=zDl zC2 hs hf
  have hk0:k≠0:=by omega
  have e2:decide ((0:Int)<(k:Int))=true:=decide_eq_true (by omega)
  have e3:nth l (k-1)=key:=by rw [show k-1=fxI zAf id l key by omega];exact k2
  have hq:zAf key key=false:=zBm _
  try simp only [go_sem,hE,hH,e1,e2,e3,hq,zIu]
  all_goals (have y1_:=e1;have y2_:=e2;have y3_:=e3;have y4_:=hq;repeat' (first|(refine zIc ?_ ?_<;>intro h)|refine qy ?_|(with_reducible apply jn)|refine qu ?_ ?_|exact zId|refine zIe ?_|fail))
  all_goals first|omega|(simp only [zA5,hf,if_true];done)
 |false=>
  have hc0:k=fxI zAf id l key:=by
   rw [←hd];exact zM3 (f:=id) (x:=key) zC2 hs hf
  have hP:zA5 l key=l.take k++key::l.drop k:=by rw [zA5,hf,hc0];rfl
  have lt1:(l.take k).length=k:=by rw [List.length_take];omega
  have hdx:(l.drop k).length=l.length-k:=by simp
  have d1:(l.drop k).take (l.length-k)=l.drop k:=List.take_of_length_le (by simp)
  have d2:(l.take k).take k=l.take k:=by rw [List.take_take,Nat.min_self]
  have d3:∀ q,(strs (l.take k)++[q]).take (k+1)=strs (l.take k)++[q]:=fun q=>List.take_of_length_le (by simp [strs];omega)
  by_cases hk0:k=0
  ·subst hk0
   have fC:decide ((0:Int)<((0:Nat):Int))=false:=rfl
   have fD:decide ((0:Int)<(0:Int))=false:=rfl
   try simp only [go_sem,hE,hH,fC,fD,d1,d2,d3,hdx,zIu]
   all_goals (have y1_:=fC;have y2_:=fD;have y3_:=d1;have y4_:=d2;have y5_:=d3;have y6_:=hdx;repeat' (first|(refine zJo ?_ ?_<;>intro h)|refine qy ?_|refine zAgl ?_|refine zAah (zGh [] (by decide)) ?_|refine zAah (zGh _ (by simp;omega)) ?_|(with_reducible apply jn)|refine qu ?_ ?_|exact zJp|refine zJq ?_|fail))
   all_goals first|omega|(rw [hP];simp [strs];done)
  ·have fC:decide ((0:Int)<(k:Int))=true:=decide_eq_true (by omega)
   have fE:decide (nth l (k-1)=key)=false:=decide_eq_false fun e=>by
    have:fxF id l key=true:=zDa.2 ⟨k-1,by omega,e⟩
    rw [hf] at this;cases this
   have fF:zAf (nth l (k-1)) key=true:=by
    rcases zBI (nth l (k-1)) key with q|q|q
    ·exact q
    ·exact absurd q (of_decide_eq_false fE)
    ·exact absurd ⟨hk0,q⟩ hgo
   try simp only [go_sem,hE,hH,e1,fC,fE,fF,d1,d2,d3,hdx,lt1,zIu]
   repeat' (first|((with_reducible first|refine zD7 ?_ ?_|refine zD8 ?_ ?_)<;>(intro h;have hb:=h;(try simp only [nf] at h);simp (disch:=omega) only [go_sem,hE,hH,e1,fC,fE,fF,d1,d2,d3,hdx,lt1,hb];(try clear hb)))|((with_reducible refine And.intro ?_ ?_);· omega)|((first|refine zAE ?_|refine cvA (zGh _ (by simp;omega)) ?_);simp (disch:=omega) only [go_sem,hE,hH,e1,fC,fE,fF,d1,d2,d3,hdx,lt1])|(with_reducible first|apply jn|apply both|refine And.intro ?_ ?_)|((with_reducible apply zBH);(try (simp (disch:=omega) only [go_sem,hE,hH,e1,fC,fE,fF,d1,d2,d3,hdx,lt1]));first|done|rfl)|(simp (disch:=omega) only [go_sem,hE,hH,e1,fC,fE,fF,d1,d2,d3,hdx,lt1])|((first|apply zAJ|apply zBo)<;>(simp only [go_sem,hE,hH,e1,fC,fE,fF,d1,d2,d3,hdx,lt1];done))|(simp only [go_sem,hE,hH,e1,fC,fE,fF,d1,d2,d3,hdx,lt1])|fail)
   all_goals first|omega|(rw [hP];simp [strs];done)
theorem zVM (s:State) (ws:List Write) (hc:zAZ s.Cells=true) (hws:ws.length≤100) (hl:s.Held.length≤100) (hw:∀ h∈s.Held,h.Writes.length≤100):ACall p_ 257 [.agg (State.row false s), .sl false 3 (ws.map (Write.row false))] (fun r _=>r=bl (zDm s.Cells (ws++zBg s.Held))):=by
 have hmx:=zAd
 have hI0:=zB5 hc
 have hcl:=hI0.len
 have hone:∀ c∈s.Cells,c.Vers.length≤100:=fun c q=>by have:=(hI0.one c q).2;omega
 have hal:∀ j,(zBg (s.Held.take j)).length≤10000:=fun j=>by
  have h1:=zPN (l:=s.Held.take j) (m:=100) fun x hx=>hw x (List.mem_of_mem_take hx)
  have h2:(s.Held.take j).length≤100:=by rw [List.length_take];omega
  have:=Nat.mul_le_mul_right 100 h2
  omega
 have hal2:(ws++zBg s.Held).length≤20000:=by
  have:=hal s.Held.length
  rw [List.take_length] at this
  rw [List.length_append];omega
 refine fg H257 fun E hE hH=> ?_
 repeat' (first|(refine qz ?_ ?_<;>intro h)|refine qy ?_|(with_reducible apply jn)|refine qu ?_ ?_|exact qj|refine qw ?_|fail)
 refine zAi s.Cells.length (fun j (x:List ByteArray)=>⟨[(1, .sl false 3 (ws.map (Write.row false))),(2, .ptr 3000000 0 0),(5, .ref 6000000 0 x.length),(15, .sl false 2 (s.Cells.map (Cell.row false))),(16,i64 s.Cells.length),(17,i64 j)],[(3000000,⟨4,[State.row false s]⟩),(6000000,⟨1,strs x⟩)]⟩) (fun j x=>x=((s.Cells.take j).map (·.Key)).foldl zA5 []∧x.length≤j∧zAO zAf id x) [] ⟨rfl,Nat.le_refl _,fun i j _ h=>absurd h (by simp)⟩ ?_
 rintro j x hj ⟨hx,hxl,hxs⟩
 try simp only [go_sem,hE,hH,zT3]
 refine gG (fun h1=> ?_) (fun h1=> ?_)
 ·have hb1:=h1
  simp only [nf] at h1
  try simp (disch:=omega) only [go_sem,hE,hH,hb1]
  repeat' (first|(refine qz ?_ ?_<;>intro h)|refine qy ?_|(refine zAP [true,false] ?_;refine st ?_;refine cmA (zEE x _ (by omega) hxs) ?_;refine st ?_)|(with_reducible apply jn)|refine qu ?_ ?_|exact qj|refine qw ?_|fail)
  have:=zRV (l:=x) (k:=(nth s.Cells j).Key)
  exact ⟨zA5 x (nth s.Cells j).Key,rfl,by rw [zAw h1,List.map_append,List.foldl_append, ←hx];rfl,by omega,zRU hxs⟩
 ·try simp (disch:=omega) only [go_sem,hE,hH,h1]
  simp only [nf] at h1
  rw [show j=s.Cells.length by omega,List.take_length] at hx
  repeat' (first|(refine qz ?_ ?_<;>intro h)|refine qy ?_|(with_reducible apply jn)|refine qu ?_ ?_|exact qj|refine qw ?_|fail)
  refine zAU s.Held.length (fun j (z:List Write)=>⟨[(2, .ptr 3000000 0 0),(5, .ref 6000000 0 x.length),(8, .ref 9000000 0 z.length),(30, .sl false 5 (s.Held.map (Held.row false))),(31,i64 s.Held.length),(32,i64 j)],[(3000000,⟨4,[State.row false s]⟩),(6000000,⟨1,strs x⟩),(9000000,⟨3,z.map (Write.row true)⟩)]⟩) (fun j z=>z=ws++zBg (s.Held.take j)) ws rfl (by simp [zBg]) ?_
  rintro j z hj hz
  have hzl:z.length≤20000:=by
   have:=hal j
   rw [hz,List.length_append];omega
  try simp only [go_sem,hE,hH,zT4]
  refine gG (fun h2=> ?_) (fun h2=> ?_)
  ·have hb2:=h2
   simp only [nf] at h2
   have hwj:=hw _ (zAc h2)
   try simp (disch:=omega) only [go_sem,hE,hH,hb2]
   repeat' (first|(refine qz ?_ ?_<;>intro h)|refine qy ?_|(with_reducible apply jn)|refine qu ?_ ?_|exact qj|refine qw ?_|fail)
   all_goals try omega
   have el:ws.length+(zBg (s.Held.take (j+1))).length=z.length+(nth s.Held j).Writes.length:=by rw [zGC h2,hz,List.length_append,List.length_append,Nat.add_assoc]
   have er:ws++zBg (s.Held.take (j+1))=z++(nth s.Held j).Writes:=by rw [zGC h2,hz,List.append_assoc]
   rw [el,er,List.map_append]
   rfl
  ·try simp (disch:=omega) only [go_sem,hE,hH,h2]
   simp only [nf] at h2
   rw [show j=s.Held.length by omega,List.take_length] at hz
   rw [←hz] at hal2
   repeat' (first|(refine qz ?_ ?_<;>intro h)|refine qy ?_|(with_reducible apply jn)|refine qu ?_ ?_|exact qj|refine qw ?_|fail)
   refine zAU z.length (fun i (y:List ByteArray)=>⟨[(2, .ptr 3000000 0 0),(5, .ref 6000000 0 y.length),(41, .ref 9000000 0 z.length),(42,i64 z.length),(43,i64 i)],[(3000000,⟨4,[State.row false s]⟩),(6000000,⟨1,strs y⟩),(9000000,⟨3,z.map (Write.row true)⟩)]⟩) (fun i y=>y=((z.take i).map (·.Key)).foldl zA5 x∧(z.take i).any (fun w=>zE4 s.Cells w.Key)=false) x ?_ ⟨by simp,by simp⟩ ?_
   ·rfl
   rintro i y hi ⟨hy,hfi⟩
   have hys:zAO zAf id y:=by rw [hy];exact zED hxs
   have hyl:y.length≤30000:=by
    have:=zDQ (ws:=(z.take i).map (·.Key)) (l:=x)
    rw [←hy,List.length_map,List.length_take] at this
    omega
   try simp only [go_sem,hE,hH,zT5]
   refine gG (fun h3=> ?_) (fun h3=> ?_)
   ·have hb3:=h3
    simp only [nf] at h3
    have hlt3:=h3;clear h3
    have hAt:=zOI s.Cells (nth z i).Key (by omega) hI0.srt
    have hstep:zA5 y (nth z i).Key=((z.take (i+1)).map (·.Key)).foldl zA5 x:=by
     rw [zAw hlt3,List.map_append,List.foldl_append, ←hy];rfl
    cases hf:cF s.Cells (nth z i).Key with
    |true=>
     rw [hf,if_pos rfl] at hAt
     obtain ⟨k1,k2⟩:=zDd hI0.srt hf
     try simp (disch:=omega) only [go_sem,hE,hH,hb3]
     repeat' (first|(refine qz ?_ ?_<;>intro h)|refine qy ?_|(refine zAP [true,false] ?_;refine st ?_;refine cmA (zEE y _ (by omega) hys) ?_;refine st ?_)|refine qo ?_|refine cq (hAt) ?_|(with_reducible apply jn)|refine qu ?_ ?_|exact qj|refine qw ?_|fail)
     all_goals try omega
     ·rw [←hz,zNo (zAc hlt3) (by simp only [zE4,hf,Bool.true_and,decide_eq_true_eq];omega)]
     ·refine ⟨_,rfl,hstep, ?_⟩
      rw [zAw hlt3,List.any_append,hfi]
      simp only [List.any_cons,List.any_nil,Bool.or_false,Bool.false_or,zE4,hf,Bool.true_and,decide_eq_false_iff_not]
      omega
    |false=>
     rw [hf] at hAt
     simp only [Bool.false_eq_true,if_false] at hAt
     try simp (disch:=omega) only [go_sem,hE,hH,hb3]
     repeat' (first|(refine qz ?_ ?_<;>intro h)|refine qy ?_|(refine zAP [true,false] ?_;refine st ?_;refine cmA (zEE y _ (by omega) hys) ?_;refine st ?_)|refine qo ?_|refine cq (hAt) ?_|(with_reducible apply jn)|refine qu ?_ ?_|exact qj|refine qw ?_|fail)
     all_goals try omega
     refine ⟨_,rfl,hstep, ?_⟩
     rw [zAw hlt3,List.any_append,hfi]
     simp only [List.any_cons,List.any_nil,Bool.or_false,Bool.false_or,zE4,hf,Bool.false_and]
   ·try simp (disch:=omega) only [go_sem,hE,hH,h3]
    simp only [nf] at h3
    rw [show i=z.length by omega,List.take_length] at hy hfi
    repeat' (first|(refine qz ?_ ?_<;>intro h)|refine qy ?_|(with_reducible apply jn)|refine qu ?_ ?_|exact qj|refine qw ?_|fail)
    have hy2:y=(s.Cells.map (·.Key)++z.map (·.Key)).foldl zA5 []:=by rw [List.foldl_append, ←hx, ←hy]
    have hrm:zDm s.Cells (ws++zBg s.Held)=decide (y.length≤24):=by rw [←hz,zDm,hfi,hy2,zZq];rfl
    rw [hrm,show decide (((y.length:Nat):Int)≤24)=decide (y.length≤24) by rw [decide_eq_decide];omega]
def zE7 (h:Held) (reads:List ByteArray) (writes:List Write):Bool:= !(reads.any (fun k=>fwF h.Writes k)||writes.any fun w=>fwF h.Writes w.Key||h.Reads.any fun x=>decide (w.Key=x))
theorem zSV (h:Held) (reads:List ByteArray) (writes:List Write):zGg ⟨0,0,0,reads,writes⟩ h= !zE7 h reads writes:=by
 unfold zE7 zGg zI9 fwF
 rw [Bool.not_not,Bool.eq_iff_iff]
 simp only [Bool.or_eq_true,List.any_eq_true,decide_eq_true_eq]
 constructor
 ·rintro (⟨w,h1,h2⟩|⟨w,h1,⟨v,h2,h3⟩|⟨x,h2,h3⟩⟩)
  ·exact .inr ⟨w,h1,h2⟩
  ·exact .inr ⟨v,h2, .inl ⟨w,h1,h3.symm⟩⟩
  ·exact .inl ⟨x,h2,w,h1,h3⟩
 ·rintro (⟨x,h1,w,h2,h3⟩|⟨w,h1,h2⟩)
  ·exact .inr ⟨w,h2, .inr ⟨x,h1,h3⟩⟩
  ·exact .inl ⟨w,h1,h2⟩
theorem zPO (l:List Held) (reads:List ByteArray) (writes:List Write):(l.any fun k=>zGg ⟨0,0,0,reads,writes⟩ k)= !zAg (fun i=>zE7 (nth l i) reads writes) l.length:=by
 rw [zAQ (p:=fun k=>zE7 k reads writes),List.all_eq_not_any_not,Bool.not_not]
 congr 1;funext k;exact zSV k reads writes
theorem zSW (a:Held) (reads:List ByteArray) (writes:List Write) (h1:a.Writes.length≤maxLen) (h2:a.Reads.length≤maxLen) (h3:reads.length≤maxLen) (h4:writes.length≤maxLen):ACall p_ 256 [.agg (Held.row false a), .sl false 1 (strs reads), .sl false 3 (writes.map (Write.row false))] (fun r _=>r=bl (zE7 a reads writes)):=by
 have hmx:=zAd
 refine fg H256 fun E hE hH=> ?_
 repeat' (first|(refine qz ?_ ?_<;>intro h)|refine qy ?_|(with_reducible apply jn)|refine qu ?_ ?_|exact qj|refine qw ?_|fail)
 refine zAi reads.length (fun j (_:Unit)=>⟨[(2, .sl false 3 (writes.map (Write.row false))),(3, .ptr 4000000 0 0),(11, .sl false 1 (strs reads)),(12,i64 reads.length),(13,i64 j)],[(4000000,⟨5,[Held.row false a]⟩)]⟩) (fun j _=>zAg (fun i=> !fwF a.Writes (nth reads i)) j=true) () rfl ?_
 intro j _ hj hIn
 try simp only [go_sem,hE,hH,zT1]
 refine gG (fun hh=> ?_) (fun hh=> ?_)
 ·have hb:=hh
  simp only [nf] at hh
  have hlt:=hh;clear hh
  try refine sb ?_;try exact ⟨⟩
  repeat' (first|(refine qz ?_ ?_<;>intro h)|refine qy ?_|refine qo ?_|refine cq (zLy _ _ h1) ?_|(with_reducible apply jn)|refine qu ?_ ?_|exact qj|refine qw ?_|fail)
  all_goals first|(exact ⟨(),rfl,zAa hIn (by simp_all)⟩)|(have e:(reads.any fun k=>fwF a.Writes k)=true:=List.any_eq_true.2 ⟨_,zAc hlt,by simp_all⟩;rw [zE7,e];rfl)
 ·try simp (disch:=omega) only [go_sem,hE,hH,hh]
  simp only [nf] at hh
  rw [show j=reads.length by omega,zAQ (p:=fun k=> !fwF a.Writes k)] at hIn
  have e1:(reads.any fun k=>fwF a.Writes k)=false:=by
   rw [List.any_eq_false];intro x hx;have:=List.all_eq_true.1 hIn x hx;simpa using this
  clear hIn hh
  repeat' (first|(refine qz ?_ ?_<;>intro h)|refine qy ?_|(with_reducible apply jn)|refine qu ?_ ?_|exact qj|refine qw ?_|fail)
  refine zAi writes.length (fun j (_:Unit)=>⟨[(3, .ptr 4000000 0 0),(22, .sl false 3 (writes.map (Write.row false))),(23,i64 writes.length),(24,i64 j)],[(4000000,⟨5,[Held.row false a]⟩)]⟩) (fun j _=>zAg (fun i=> !(fwF a.Writes (nth writes i).Key||a.Reads.any fun x=>decide ((nth writes i).Key=x))) j=true) () rfl ?_
  intro j _ hj hIn2
  try simp only [go_sem,hE,hH,zT2]
  refine gG (fun hh2=> ?_) (fun hh2=> ?_)
  ·have hb2:=hh2
   simp only [nf] at hh2
   have hlt2:=hh2;clear hh2
   try simp (disch:=omega) only [go_sem,hE,hH,hb2]
   repeat' (first|(refine qz ?_ ?_<;>intro h)|refine qy ?_|refine qo ?_|refine cq (zLy _ _ h1) ?_|refine cq (zXI _ _ h2) ?_|(with_reducible apply jn)|refine qu ?_ ?_|exact qj|refine qw ?_|fail)
   all_goals first|(exact ⟨(),rfl,zAa hIn2 (by simp_all)⟩)|(have e:(writes.any fun w=>fwF a.Writes w.Key||a.Reads.any fun x=>decide (w.Key=x))=true:=List.any_eq_true.2 ⟨_,zAc hlt2,by simp_all⟩;rw [zE7,e];simp;done)
  ·try simp (disch:=omega) only [go_sem,hE,hH,hh2]
   simp only [nf] at hh2
   rw [show j=writes.length by omega,zAQ (p:=fun w:Write=> !(fwF a.Writes w.Key||a.Reads.any fun x=>decide (w.Key=x)))] at hIn2
   have e:(writes.any fun w=>fwF a.Writes w.Key||a.Reads.any fun x=>decide (w.Key=x))=false:=by
    rw [List.any_eq_false];intro x hx;have:=List.all_eq_true.1 hIn2 x hx;simpa only [Bool.not_eq_true',Bool.not_eq_true] using this
   rw [zE7,e1,e]
   rfl
theorem zXK (k a:Held) (h1:a.Writes.length≤2^20) (h2:k.Writes.length≤2^20) (h3:a.Reads.length≤2^20) (h4:k.Reads.length≤2^20) (s1:zCm a.Writes) (s2:zCm k.Writes):ACall p_ 304 ([.agg (Held.row false k)]++[.bx false (Held.row false a)]) (fun r _=>r=bl (zGg a k)):=by
 refine fg H304 fun E hE hH=> ?_
 repeat' (first|(refine qz ?_ ?_<;>intro h)|refine qy ?_|refine qo ?_|refine cq (zZv a k h1 h2 h3 h4 s1 s2) ?_|refine jn _ ?_ ?_|refine qu ?_ ?_|exact qe|refine qw ?_|fail)
theorem zAa9 (hS:zCD) {n:Nat} (s:State) (reads:List ByteArray) (writes:List Write) (hi:stI n s) (h1:reads.length≤100) (h2:writes.length≤100) (hs:zCm writes):ACall p_ 270 [.agg (State.row false s), .sl false 1 (strs reads), .sl false 3 (writes.map (Write.row false))] (fun r _=>r=bl (zDn s reads writes)):=by
 have hmx:=zAd
 have hl:=hi.hlen
 have hw:∀ h∈s.Held,h.Writes.length≤100:=fun x hx=>by have:=zB6 (hi.hok x hx);omega
 have hw2:∀ h∈s.Held++[(⟨0,0,0,reads,writes⟩:Held)],h.Writes.length≤100:=fun x hx=>by
  rcases List.mem_append.1 hx with hx|hx
  ·exact hw x hx
  ·rw [List.mem_singleton.1 hx];exact h2
 have cR:=zAa8 hS s (s.Held++[⟨0,0,0,reads,writes⟩]) hi.cells (by rw [List.length_append];simp;omega) hw2
 have eW:zBg (s.Held++[(⟨0,0,0,reads,writes⟩:Held)])=zBg s.Held++writes:=by simp [zBg]
 rw [List.map_append,eW] at cR
 have cC:=zI7 s.Held 304 [.bx false (Held.row false ⟨0,0,0,reads,writes⟩)] (fun k=>zGg ⟨0,0,0,reads,writes⟩ k) (by kernel_rfl) rfl (by omega) (fun k hk=>by
  have q:=zB6 (hi.hok k hk)
  exact zXK k ⟨0,0,0,reads,writes⟩ (by simp only;omega) (by omega) (by simp only;omega) (by omega) hs (zIx q.2.2.1))
 have et:∀ (f:Held→List T) (q:List T),(s.Held.map f++[q]).take (s.Held.length+1)=s.Held.map f++[q]:=fun f q=>List.take_of_length_le (by simp)
 refine fg H270 fun E hE hH=> ?_
 all_goals (have y1_:=et;repeat' (first|(refine zBC ?_ ?_<;>intro h)|refine qy ?_|refine zBX ?_|refine zAF (cC) ?_|refine zAF (zP7 _ (by omega)) ?_|refine zAF (cR) ?_|(with_reducible apply jn)|refine qu ?_ ?_|exact zCd|refine zBA ?_|fail))
 all_goals first|omega|(rw [zDn,h];rfl)|(rw [zDn,h,List.length_append];simp;done)
theorem zVN {n:Nat} (s:State) (reads:List ByteArray) (writes:List Write) (hi:stI n s) (h1:reads.length≤100) (h2:writes.length≤100):ACall p_ 209 [.agg (State.row false s), .sl false 1 (strs reads), .sl false 3 (writes.map (Write.row false))] (fun r _=>r=bl (zDn s reads writes)):=by
 have hmx:=zAd
 have hl:=hi.hlen
 have hw:∀ h∈s.Held,h.Writes.length≤100∧h.Reads.length≤100:=fun x hx=>by have:=zB6 (hi.hok x hx);omega
 have cR:=zVM s writes hi.cells h2 (by omega) fun h hh=>(hw h hh).1
 have hR:zDm s.Cells (zBg s.Held++writes)=zDm s.Cells (writes++zBg s.Held):=zSQ fun x=>by simp only [List.mem_append];exact Or.comm
 refine fg H209 fun E hE hH=> ?_
 repeat' (first|(refine qz ?_ ?_<;>intro h)|refine qy ?_|(with_reducible apply jn)|refine qu ?_ ?_|exact qj|refine qw ?_|fail)
 refine zAi s.Held.length (fun j (_:Unit)=>⟨[(1, .sl false 1 (strs reads)),(2, .sl false 3 (writes.map (Write.row false))),(3, .ptr 4000000 0 0),(10, .sl false 5 (s.Held.map (Held.row false))),(11,i64 s.Held.length),(12,i64 j)],[(4000000,⟨4,[State.row false s]⟩)]⟩) (fun j _=>zAg (fun i=>zE7 (nth s.Held i) reads writes) j=true) () rfl ?_
 intro j _ hj hIn
 try simp only [go_sem,hE,hH,zTP]
 refine gG (fun hh=> ?_) (fun hh=> ?_)
 ·have hb:=hh
  simp only [nf] at hh
  have hlt:=hh;clear hh
  obtain ⟨q1,q2⟩:=hw _ (zAc hlt)
  try refine sb ?_;try exact ⟨⟩
  repeat' (first|(refine qz ?_ ?_<;>intro h)|refine qy ?_|refine qo ?_|refine cq (zSW _ _ _ (by omega) (by omega) (by omega) (by omega)) ?_|(with_reducible apply jn)|refine qu ?_ ?_|exact qj|refine qw ?_|fail)
  all_goals first|(exact ⟨(),rfl,zAa hIn (by simp_all)⟩)|(rw [zDn,zPO,zAm hlt (by simp_all)];rfl)
 ·try simp (disch:=omega) only [go_sem,hE,hH,hh]
  simp only [nf] at hh
  rw [show j=s.Held.length by omega] at hIn
  have hF:zDn s reads writes=(decide ((s.Held.length:Int)+1≤12)&&zDm s.Cells (writes++zBg s.Held)):=by rw [zDn,zPO,hIn,hR];rfl
  rw [hF]
  repeat' (first|(refine qz ?_ ?_<;>intro h)|refine qy ?_|refine qo ?_|refine cq (cR) ?_|(with_reducible apply jn)|refine qu ?_ ?_|exact qj|refine qw ?_|fail)
  all_goals first|(simp_all;done)|(simp_all;omega)
theorem zHh {l:List Write} (h:zBx l=true) {x:Write} (hx:x∈l):x.Key.size≤100∧x.Val.size≤100:=by
 obtain ⟨i,hi,rfl⟩:=List.getElem_of_mem hx
 simp only [zBx,Bool.and_eq_true] at h
 have:=zAs.1 h.2 i hi
 simp only [Bool.and_eq_true,zAN hi] at this
 have h1:=zE2 this.1.1
 have h2:=zH4 this.1.2
 exact ⟨by omega,by omega⟩
theorem zAba {P:Program} {E:Env} (ms:List (Nat×Nat×List (Nat×Nat))) {i:IN} {K:St→Prop} {s:St} (h:zKd (zAn P E i K) (zEu ms (True,s))):zAn P E i K s:=zLh (zFp (r:=(True,s)) (fun _=>Ent.refl s) h.1).2 h.2
theorem zZ7 {d:Nat} {rows:List (List T)} {i:Nat} {r:List T} (h1:zDj d rows) (h2:ltL d r):zDj d (rows.set i r):=fun x hx=>(List.mem_or_eq_of_mem_set hx).elim (h1 x) fun e=>e▸h2
theorem zZz {α:Type} [Inhabited α] {f:α→List T} {l:List α} {k:Nat} (h:k<l.length):(l.map f).set k (f (nth l k))=l.map f:=by
 rw [←List.map_set,zAN h,List.set_getElem_self]
def zCH:Option State→T
 |none=> .tup [.agg (State.row true st0),bl false]
 |some s=> .tup [.agg (State.row true s),bl true]
theorem zQv {l:List Held} {t:Int} (hs:zAO ltI Held.Txn l) (h:hF l t=true):hI l t<l.length∧(nth l (hI l t)).Txn=t:=zDl zBK hs h
theorem zNp (l:List Held) (i:Nat) (hi:i<l.length) (hl:l.length≤100):ACall p_ 301 [.sl true 5 (l.map (Held.row true)),i64 i,i64 ((i:Int)+1)] (fun r a=>r= .sl true 5 ((cutAt l i).map (Held.row true))∧a=[.any,i64 i,i64 ((i:Int)+1)]):=by
 have hmx:=zAd
 have q:=zOu l i ((i:Int)+1) (by omega) (by omega) (by omega) (by omega)
 rwa [show l.take ((i:Int)).toNat++l.drop ((i:Int)+1).toNat=cutAt l i by unfold cutAt;rfl] at q
theorem zVO (l:List Told) (i:Nat) (x:Told) (hi:i≤l.length) (hl:l.length≤2^20):ACall p_ 302 [.sl true 3 (l.map (Told.row true)),i64 i, .sl false 3 [Told.row false x]] (fun r a=>r= .sl true 3 ((putAt l i x).map (Told.row true))∧a=[.any,i64 i, .sl false 3 [Told.row false x]]):=by
 have q:=zOx l [x] i (by omega) (by omega) hl (by simp)
 rwa [show l.take ((i:Int)).toNat++[x]++l.drop ((i:Int)).toNat=putAt l i x by unfold putAt;simp] at q
theorem zVP {n:Nat} (s:State) (r:Rec) (hi:stI n s) (hn:n≤100) (ht:r.Yes=true→1≤r.Time):ACall p_ 269 [.agg (State.row false s), .agg (Rec.row false r)] (fun x _=>x=zCH (zB0 s r)):=by
 have hmx:=zAd
 have hb:=hi.b (by omega)
 have hHl:=hi.hlen
 have hTl:=hi.tlen
 have cFH:=zH6 s r.Txn (by omega) hi.hsrt
 have hIl:hI s.Held r.Txn≤s.Held.length:=zDN
 have tIl:tI s.Told r.Txn≤s.Told.length:=zDN
 have cIT:=zVO s.Told (tI s.Told r.Txn) ⟨r.Txn,r.Yes,r.Time⟩ tIl (by omega)
 rw [show putAt s.Told (tI s.Told r.Txn) (⟨r.Txn,r.Yes,r.Time⟩:Told)=zCg s r from rfl] at cIT
 have hcl:(zA3 s r).length≤12:=(zKA hi r).1
 have hct:(zCg s r).length=s.Told.length+1:=zBZ tIl
 cases hY:r.Yes with
 |false=>
  rw [hY] at cIT
  have hD:zB0 s r=some ⟨s.Floor,s.Cells,zA3 s r,zCg s r⟩:=by rw [zB0,hY];rfl
  rw [hD,zCH]
  have cFT:=zFU ⟨s.Floor,s.Cells,zA3 s r,s.Told⟩ r.Txn (by simp only;omega) hi.tsrt
  cases hH:hF s.Held r.Txn with
  |false=>
   rw [hH] at cFH
   have hC:zA3 s r=s.Held:=by rw [zA3,hH];rfl
   rw [hC] at cFT ⊢
   refine fg zOl fun E hE hH=> ?_
   all_goals (have y1_:=hY;repeat' (first|(refine zBC ?_ ?_<;>intro h)|refine qy ?_|(refine zAP [true,false,false] ?_;refine zEd ?_;refine cmA (cIT) ?_;refine zEd ?_)|refine zBX ?_|refine zAF (zCc s hb) ?_|refine zAF (cFH) ?_|refine zAF (cFT) ?_|(with_reducible apply jn)|refine qu ?_ ?_|exact zCd|refine zBA ?_|fail))
  |true=>
   rw [hH] at cFH
   obtain ⟨k1,k2⟩:=zQv hi.hsrt hH
   have cD:=zNp s.Held (hI s.Held r.Txn) k1 (by omega)
   rw [show cutAt s.Held (hI s.Held r.Txn)=zA3 s r by rw [zA3,hH];rfl] at cD
   refine fg zOl fun E hE hH=> ?_
   all_goals (have y1_:=hY;repeat' (first|(refine zBC ?_ ?_<;>intro h)|refine qy ?_|(refine zAP [true,false,false] ?_;refine zEd ?_;refine cmA (cD) ?_;refine zEd ?_)|(refine zAP [true,false,false] ?_;refine zEd ?_;refine cmA (cIT) ?_;refine zEd ?_)|refine zBX ?_|refine zAF (zCc s hb) ?_|refine zAF (cFH) ?_|refine zAF (cFT) ?_|(with_reducible apply jn)|refine qu ?_ ?_|exact zCd|refine zBA ?_|fail))
 |true=>
  rw [hY] at cIT
  have ht:=ht hY
  cases hH:hF s.Held r.Txn with
  |false=>
   rw [hH] at cFH
   have hD:zB0 s r=none:=by rw [zB0,hY,hH];rfl
   rw [hD,zCH]
   refine fg zOl fun E hE hH=> ?_
   all_goals (have y1_:=hY;repeat' (first|(refine zBC ?_ ?_<;>intro h)|refine qy ?_|refine zBX ?_|refine zAF (zCc s hb) ?_|refine zAF (cFH) ?_|(with_reducible apply jn)|refine qu ?_ ?_|exact zCd|refine zBA ?_|fail))
   all_goals rfl
  |true=>
   rw [hH] at cFH
   obtain ⟨k1,k2⟩:=zQv hi.hsrt hH
   have hld:=zB6 (hi.hok _ (zAc k1))
   have hI0:=zB5 hi.cells
   have cD:=zNp s.Held (hI s.Held r.Txn) k1 (by omega)
   rw [show cutAt s.Held (hI s.Held r.Txn)=zA3 s r by rw [zA3,hH];rfl] at cD
   have hs:=fun r=>zET (f:=Held.row true) (r:=r) k1
   have hset:=zZz (f:=Held.row true) k1
   simp only [Held.row_eq] at hset
   by_cases hT:r.Time<(nth s.Held (hI s.Held r.Txn)).Time
   ·have hD:zB0 s r=none:=by rw [zB0,hY,hH,decide_eq_true hT];rfl
    rw [hD,zCH]
    have hT2:=decide_eq_true hT
    refine fg zOl fun E hE hH=> ?_
    all_goals (have y1_:=hY;have y2_:=hT2;repeat' (first|(refine zCJ ?_ ?_<;>intro h)|refine qy ?_|refine zFe ?_|refine zBY (zCc s hb) ?_|refine zBY (cFH) ?_|(with_reducible apply jn)|refine qu ?_ ?_|exact zCK|refine zCL ?_|fail))
    all_goals first|rfl
   have hT2:=decide_eq_false hT
   have cP:=zSS s.Cells (nth s.Held (hI s.Held r.Txn)).Writes r.Time hI0 (fun x hx=>zHh hld.2.2.1 hx) (by omega) ht
   cases hP:zH5 r.Time s.Cells (nth s.Held (hI s.Held r.Txn)).Writes with
   |none=>
    rw [hP,zZs] at cP
    have hD:zB0 s r=none:=by rw [zB0,hY,hH,decide_eq_false hT,hP];rfl
    rw [hD,zCH]
    refine fg zOl fun E hE hH=> ?_
    all_goals (have y1_:=hY;have y2_:=hT2;have y3_:=hs;have y4_:=hset;repeat' (first|(refine zIc ?_ ?_<;>intro h)|refine qy ?_|refine zO2 ?_|refine zDW (zCc s hb) ?_|refine zDW (cFH) ?_|refine zDW (cP) ?_|(with_reducible apply jn)|refine qu ?_ ?_|exact zId|refine zIe ?_|fail))
    all_goals try (apply zZ7<;>simp only [go_sem];done)
    all_goals first|rfl
   |some c=>
    rw [hP,zZs] at cP
    have hD:zB0 s r=some ⟨max s.Floor r.Time,c,zA3 s r,zCg s r⟩:=by rw [zB0,hY,hH,decide_eq_false hT,hP];rfl
    rw [hD,zCH]
    have hmax:(if r.Time>s.Floor then r.Time else s.Floor)=max s.Floor r.Time:=by
     rw [Int.max_def];split<;>split<;>omega
    have cFT:=zFU ⟨max s.Floor r.Time,c,zA3 s r,s.Told⟩ r.Txn (by simp only;omega) hi.tsrt
    refine fg zOl fun E hE hH=> ?_
    all_goals (have y1_:=hY;have y2_:=hT2;have y3_:=hs;have y4_:=hset;have y5_:=hmax;repeat' (first|(refine zH9 ?_ ?_<;>intro h)|refine qy ?_|(refine zAP [true,false,false] ?_;refine zO1 ?_;refine cmA (cD) ?_;refine zO1 ?_)|(refine zAP [true,false,false] ?_;refine zO1 ?_;refine cmA (cIT) ?_;refine zO1 ?_)|refine zSk ?_|refine zFK (zCc s hb) ?_|refine zFK (cFH) ?_|refine zFK (cP) ?_|refine zFK (cFT) ?_|(with_reducible apply jn)|refine qu ?_ ?_|exact zIa|refine zIb ?_|fail))
    all_goals try (apply zZ7<;>simp only [go_sem];done)
    all_goals first|rfl
theorem zNq (hS:zCD) {n:Nat} (s:State) (r:Rec) (hi:stI n s) (hn:n≤100) (hr:zA7 r=true):ACall p_ 225 [.agg (State.row false s), .agg (Rec.row false r)] (fun x _=>x=zCH (zA0 s r)):=by
 have hmx:=zAd
 have hb:=hi.b (by omega)
 have hHl:=hi.hlen
 have hTl:=hi.tlen
 have cFH:=zH6 s r.Txn (by omega) hi.hsrt
 have cFT:=zFU s r.Txn (by omega) hi.tsrt
 have hIl:hI s.Held r.Txn≤s.Held.length:=zDN
 by_cases h4:r.Kind=4
 ·have z1:decide (r.Kind=4)=true:=decide_eq_true h4
  by_cases hT:r.Time≤s.Floor
  ·have z2:=decide_eq_true hT
   have hD:zA0 s r=none:=by rw [zA0,if_pos h4,if_pos hT]
   rw [hD,zCH]
   refine fg zI5 fun E hE hH=> ?_;refine st ?_
   try simp (disch:=omega) only [go_sem,hE,hH,z1,z2]
   all_goals (have y1_:=z1;have y2_:=z2;repeat' (first|(refine zCJ ?_ ?_<;>intro h)|refine qy ?_|(with_reducible apply jn)|refine qu ?_ ?_|exact zCK|refine zCL ?_|fail))
   all_goals first|rfl
  ·have z2:=decide_eq_false hT
   have hD:zA0 s r=some ⟨r.Time,s.Cells,s.Held,s.Told⟩:=by rw [zA0,if_pos h4,if_neg hT]
   rw [hD,zCH]
   refine fg zI5 fun E hE hH=> ?_;refine st ?_
   try simp (disch:=omega) only [go_sem,hE,hH,z1,z2]
   all_goals (have y1_:=z1;have y2_:=z2;repeat' (first|(refine zCJ ?_ ?_<;>intro h)|refine qy ?_|refine zFe ?_|refine zBY (zCc s hb) ?_|(with_reducible apply jn)|refine qu ?_ ?_|exact zCK|refine zCL ?_|fail))
   all_goals first|rfl
 have z1:decide (r.Kind=4)=false:=decide_eq_false h4
 cases hTF:tF s.Told r.Txn with
 |true=>
  rw [hTF] at cFT
  have hD:zA0 s r=none:=by rw [zA0,if_neg h4,hTF];rfl
  rw [hD,zCH]
  refine fg zI5 fun E hE hH=> ?_;refine st ?_
  try simp (disch:=omega) only [go_sem,hE,hH,z1]
  all_goals (have y1_:=z1;repeat' (first|(refine zBC ?_ ?_<;>intro h)|refine qy ?_|refine zBX ?_|refine zAF (cFT) ?_|(with_reducible apply jn)|refine qu ?_ ?_|exact zCd|refine zBA ?_|fail))
  all_goals first|rfl
 |false=>
  rw [hTF] at cFT
  by_cases h1:r.Kind=1
  ·have z2:decide (r.Kind=1)=true:=decide_eq_true h1
   have hld:=zB6 (zJd hr h1)
   have hld1:r.Reads.length≤8:=hld.1
   have hld2:r.Writes.length≤8:=hld.2.1
   have cF:=zAa9 hS s r.Reads r.Writes hi (by omega) (by omega) (zIx hld.2.2.1)
   cases hHF:hF s.Held r.Txn with
   |true=>
    rw [hHF] at cFH
    have hD:zA0 s r=none:=by rw [zA0,if_neg h4,hTF,if_neg (by simp),if_neg (by simp [h1]),hHF];rfl
    rw [hD,zCH]
    refine fg zI5 fun E hE hH=> ?_;refine st ?_
    try simp (disch:=omega) only [go_sem,hE,hH,z1,z2]
    all_goals (have y1_:=z1;have y2_:=z2;repeat' (first|(refine zCJ ?_ ?_<;>intro h)|refine qy ?_|refine zFe ?_|refine zBY (cFT) ?_|refine zBY (cFH) ?_|(with_reducible apply jn)|refine qu ?_ ?_|exact zCK|refine zCL ?_|fail))
    all_goals first|rfl
   |false=>
    rw [hHF] at cFH
    by_cases hT:r.Time≤s.Floor
    ·have z3:=decide_eq_true hT
     have hD:zA0 s r=none:=by rw [zA0,if_neg h4,hTF,if_neg (by simp),if_neg (by simp [h1]),hHF,z3];rfl
     rw [hD,zCH]
     refine fg zI5 fun E hE hH=> ?_;refine st ?_
     try simp (disch:=omega) only [go_sem,hE,hH,z1,z2,z3]
     all_goals (have y1_:=z1;have y2_:=z2;have y3_:=z3;repeat' (first|(refine zFc ?_ ?_<;>intro h)|refine qy ?_|refine zH8 ?_|refine zCF (cFT) ?_|refine zCF (cFH) ?_|(with_reducible apply jn)|refine qu ?_ ?_|exact zFJ|refine zFd ?_|fail))
     all_goals first|rfl
    have z3:=decide_eq_false hT
    cases hFt:zDn s r.Reads r.Writes with
    |false=>
     rw [hFt] at cF
     have hD:zA0 s r=none:=by rw [zA0,if_neg h4,hTF,if_neg (by simp),if_neg (by simp [h1]),hHF,z3,hFt];rfl
     rw [hD,zCH]
     refine fg zI5 fun E hE hH=> ?_;refine st ?_
     try simp (disch:=omega) only [go_sem,hE,hH,z1,z2,z3]
     all_goals (have y1_:=z1;have y2_:=z2;have y3_:=z3;repeat' (first|(refine zFc ?_ ?_<;>intro h)|refine qy ?_|refine zH8 ?_|refine zCF (cFT) ?_|refine zCF (cFH) ?_|refine zCF (cF) ?_|(with_reducible apply jn)|refine qu ?_ ?_|exact zFJ|refine zFd ?_|fail))
     all_goals first|rfl
    |true=>
     rw [hFt] at cF
     have hD:zA0 s r=some ⟨r.Time,s.Cells,putAt s.Held (hI s.Held r.Txn) (hOf r),s.Told⟩:=by rw [zA0,if_neg h4,hTF,if_neg (by simp),if_neg (by simp [h1]),hHF,z3,hFt];rfl
     rw [hD,zCH]
     have cI:=zOw s.Held (hOf r) (hI s.Held r.Txn) (by omega) (by omega) (by omega)
     refine fg zI5 fun E hE hH=> ?_;refine st ?_
     try simp (disch:=omega) only [go_sem,hE,hH,z1,z2,z3]
     all_goals (have y1_:=z1;have y2_:=z2;have y3_:=z3;repeat' (first|(refine zFc ?_ ?_<;>intro h)|refine qy ?_|(refine zAba [(76,1,[(3,1),(4,3)])] ?_;refine zMq ?_;refine zAP [true,false,true] ?_;refine zMq ?_;refine cmA (cI) ?_;refine zMq ?_)|refine zH8 ?_|refine zCF (cFT) ?_|refine zCF (cFH) ?_|refine zCF (cF) ?_|refine zCF (zCc s hb) ?_|refine zCF (zPK r (by omega) (by omega)) ?_|(with_reducible apply jn)|refine qu ?_ ?_|exact zFJ|refine zFd ?_|fail))
     all_goals first|rfl
  ·have z2:decide (r.Kind=1)=false:=decide_eq_false h1
   have hD:zA0 s r=zB0 s r:=by rw [zA0,if_neg h4,hTF,if_neg (by simp),if_pos h1]
   rw [hD]
   have hY:r.Yes=true→1≤r.Time:=fun hY=>by
    simp only [zA7,h1,h4,if_false,hY] at hr
    split at hr
    ·simp only [Bool.and_eq_true,Bool.or_eq_true,zBl,Bool.not_true,Bool.false_and,Bool.true_and,Bool.false_eq_true,or_false] at hr
     omega
    ·cases hr
   have cDec:=zVP s r hi hn hY
   cases hdec:zB0 s r with
   |none=>
    rw [hdec,zCH] at cDec
    rw [zCH]
    refine fg zI5 fun E hE hH=> ?_;refine st ?_
    try simp (disch:=omega) only [go_sem,hE,hH,z1,z2]
    all_goals (have y1_:=z1;have y2_:=z2;repeat' (first|(refine zCJ ?_ ?_<;>intro h)|refine qy ?_|refine zFe ?_|refine zBY (cFT) ?_|refine zBY (cDec) ?_|(with_reducible apply jn)|refine qu ?_ ?_|exact zCK|refine zCL ?_|fail))
    all_goals first|rfl
   |some q=>
    rw [hdec,zCH] at cDec
    rw [zCH]
    refine fg zI5 fun E hE hH=> ?_;refine st ?_
    try simp (disch:=omega) only [go_sem,hE,hH,z1,z2]
    all_goals (have y1_:=z1;have y2_:=z2;repeat' (first|(refine zCJ ?_ ?_<;>intro h)|refine qy ?_|refine zFe ?_|refine zBY (cFT) ?_|refine zBY (cDec) ?_|(with_reducible apply jn)|refine qu ?_ ?_|exact zCK|refine zCL ?_|fail))
    all_goals first|rfl
def tPl (l:List Told) (t:Int):Nat:=dnI (fun y:Told=>ltI t y.Txn) l l.length
def hPl (l:List Held) (t:Int):Nat:=dnI (fun y:Held=>ltI t y.Txn) l l.length
theorem zAeF {l:List Told} (hs:zAO ltI Told.Txn l) {x:Told} (h:tF l x.Txn=false):tPl l x.Txn=tI l x.Txn:=zM3 (f:=Told.Txn) zBK hs h
theorem zAeG {l:List Held} (hs:zAO ltI Held.Txn l) {x:Held} (h:hF l x.Txn=false):hPl l x.Txn=hI l x.Txn:=zM3 (f:=Held.Txn) zBK hs h
theorem zQf (l:List Told) (t:Told) (hl:l.length≤2^20):ACall p_ 213 [.sl false 3 (l.map (Told.row false)), .agg (Told.row false t)] (fun r _=>r= .sl true 3 ((putAt l (tPl l t.Txn) t).map (Told.row true))):=by
 have hmx:=zAd
 refine fg H213 fun E hE hH=> ?_
 try refine st ?_;try exact ⟨⟩
 refine zHz (fun (k:Nat)=>⟨[(0, .sl false 3 (l.map (Told.row false))),(3, .ptr 4000000 0 0),(5,i64 k)],[(4000000,⟨3,[Told.row false t]⟩)]⟩) (fun k=>k≤l.length∧∀ i,k≤i→i<l.length→ltI t.Txn (nth l i).Txn=true) (fun k=>k) l.length ⟨Nat.le_refl _,fun i a b=>absurd b (by omega)⟩ ?_
 rintro k ⟨hk,hK⟩
 have e1:((k:Int)-1).toNat=k-1:=by omega
 by_cases hgo:k≠0∧ltI t.Txn (nth l (k-1)).Txn=true
 ·obtain ⟨hk0,hq⟩:=hgo
  have e2:decide ((0:Int)<(k:Int))=true:=decide_eq_true (by omega)
  have e3:decide (t.Txn<(nth l (k-1)).Txn)=true:=hq
  try simp only [go_sem,hE,hH,e1,e2,e3,zK6]
  all_goals (have y1_:=e1;have y2_:=e2;have y3_:=e3;repeat' (first|(refine zFc ?_ ?_<;>intro h)|refine qy ?_|(with_reducible apply jn)|refine qu ?_ ?_|exact zFJ|refine zFd ?_|fail))
  all_goals first|omega|(refine ⟨k-1, ?_,⟨by omega,fun i a b=> ?_⟩,by omega⟩)
  ·rw [show ((k-1:Nat):Int)=(k:Int)-1 by omega]
  ·by_cases e:i=k-1
   ·rw [e];exact hq
   ·exact hK i (by omega) b
 have hd:tPl l t.Txn=k:=zGc hk hK (by
  by_cases e:k=0
  ·exact .inl e
  ·right
   cases q:ltI t.Txn (nth l (k-1)).Txn with
   |false=>rfl
   |true=>exact absurd ⟨e,q⟩ hgo)
 rw [hd]
 have d1:(l.drop k).take (l.length-k)=l.drop k:=List.take_of_length_le (by simp)
 have lt1:(l.take k).length=k:=by rw [List.length_take];omega
 have d2:(l.take k).take k=l.take k:=by rw [List.take_take,Nat.min_self]
 have d3:∀ (f:Told→List T) q,((l.take k).map f++[q]).take (k+1)=(l.take k).map f++[q]:=fun f q=>List.take_of_length_le (by simp;omega)
 have hdx:(l.drop k).length=l.length-k:=by simp
 by_cases hk0:k=0
 ·subst hk0
  have fC:decide ((0:Int)<((0:Nat):Int))=false:=rfl
  have fD:decide ((0:Int)<(0:Int))=false:=rfl
  try simp only [go_sem,hE,hH,fC,fD,d1,d2,d3,hdx,zK6]
  all_goals (have y1_:=fC;have y2_:=fD;have y3_:=d1;have y4_:=d2;have y5_:=d3;have y6_:=hdx;repeat' (first|(refine zJo ?_ ?_<;>intro h)|refine qy ?_|(with_reducible apply jn)|refine qu ?_ ?_|exact zJp|refine zJq ?_|fail))
  all_goals first|omega|(simp only [putAt,List.map_append,List.map_cons,List.take_zero,List.drop_zero,List.nil_append,List.append_assoc,List.cons_append];rfl)
 ·have fC:decide ((0:Int)<(k:Int))=true:=decide_eq_true (by omega)
  have fE:decide (t.Txn<(nth l (k-1)).Txn)=false:=by
   cases q:ltI t.Txn (nth l (k-1)).Txn with
   |false=>exact q
   |true=>exact absurd ⟨hk0,q⟩ hgo
  try simp only [go_sem,hE,hH,e1,fC,fE,d1,d2,d3,hdx,lt1,zK6]
  repeat' (first|((with_reducible first|refine zD7 ?_ ?_|refine zD8 ?_ ?_)<;>(intro h;have hb:=h;(try simp only [nf] at h);simp (disch:=omega) only [go_sem,hE,hH,e1,fC,fE,d1,d2,d3,hdx,lt1,hb];(try clear hb)))|((with_reducible refine And.intro ?_ ?_);· omega)|(with_reducible first|apply jn|apply both|refine And.intro ?_ ?_)|((with_reducible apply zBH);(try (simp (disch:=omega) only [go_sem,hE,hH,e1,fC,fE,d1,d2,d3,hdx,lt1]));first|done|rfl)|(simp (disch:=omega) only [go_sem,hE,hH,e1,fC,fE,d1,d2,d3,hdx,lt1])|((first|apply zAJ|apply zBo)<;>(simp only [go_sem,hE,hH,e1,fC,fE,d1,d2,d3,hdx,lt1];done))|(simp only [go_sem,hE,hH,e1,fC,fE,d1,d2,d3,hdx,lt1])|fail)
  all_goals first|omega|(simp only [putAt,List.map_append,List.map_cons,List.take_zero,List.drop_zero,List.nil_append,List.append_assoc,List.cons_append];rfl)
theorem zQg (l:List Held) (t:Held) (hl:l.length≤2^20):ACall p_ 208 [.sl false 5 (l.map (Held.row false)), .agg (Held.row false t)] (fun r _=>r= .sl true 5 ((putAt l (hPl l t.Txn) t).map (Held.row false))):=by
 have hmx:=zAd
 refine fg H208 fun E hE hH=> ?_
 try refine st ?_;try exact ⟨⟩
 refine zHz (fun (k:Nat)=>⟨[(0, .sl false 5 (l.map (Held.row false))),(3, .ptr 4000000 0 0),(5,i64 k)],[(4000000,⟨5,[Held.row false t]⟩)]⟩) (fun k=>k≤l.length∧∀ i,k≤i→i<l.length→ltI t.Txn (nth l i).Txn=true) (fun k=>k) l.length ⟨Nat.le_refl _,fun i a b=>absurd b (by omega)⟩ ?_
 rintro k ⟨hk,hK⟩
 have e1:((k:Int)-1).toNat=k-1:=by omega
 by_cases hgo:k≠0∧ltI t.Txn (nth l (k-1)).Txn=true
 ·obtain ⟨hk0,hq⟩:=hgo
  have e2:decide ((0:Int)<(k:Int))=true:=decide_eq_true (by omega)
  have e3:decide (t.Txn<(nth l (k-1)).Txn)=true:=hq
  try simp only [go_sem,hE,hH,e1,e2,e3,zK5]
  all_goals (have y1_:=e1;have y2_:=e2;have y3_:=e3;repeat' (first|(refine zFc ?_ ?_<;>intro h)|refine qy ?_|(with_reducible apply jn)|refine qu ?_ ?_|exact zFJ|refine zFd ?_|fail))
  all_goals first|omega|(refine ⟨k-1, ?_,⟨by omega,fun i a b=> ?_⟩,by omega⟩)
  ·rw [show ((k-1:Nat):Int)=(k:Int)-1 by omega]
  ·by_cases e:i=k-1
   ·rw [e];exact hq
   ·exact hK i (by omega) b
 have hd:hPl l t.Txn=k:=zGc hk hK (by
  by_cases e:k=0
  ·exact .inl e
  ·right
   cases q:ltI t.Txn (nth l (k-1)).Txn with
   |false=>rfl
   |true=>exact absurd ⟨e,q⟩ hgo)
 rw [hd]
 have d1:(l.drop k).take (l.length-k)=l.drop k:=List.take_of_length_le (by simp)
 have lt1:(l.take k).length=k:=by rw [List.length_take];omega
 have d2:(l.take k).take k=l.take k:=by rw [List.take_take,Nat.min_self]
 have d3:∀ (f:Held→List T) q,((l.take k).map f++[q]).take (k+1)=(l.take k).map f++[q]:=fun f q=>List.take_of_length_le (by simp;omega)
 have hdx:(l.drop k).length=l.length-k:=by simp
 by_cases hk0:k=0
 ·subst hk0
  have fC:decide ((0:Int)<((0:Nat):Int))=false:=rfl
  have fD:decide ((0:Int)<(0:Int))=false:=rfl
  try simp only [go_sem,hE,hH,fC,fD,d1,d2,d3,hdx,zK5]
  all_goals (have y1_:=fC;have y2_:=fD;have y3_:=d1;have y4_:=d2;have y5_:=d3;have y6_:=hdx;repeat' (first|(refine zJo ?_ ?_<;>intro h)|refine qy ?_|(with_reducible apply jn)|refine qu ?_ ?_|exact zJp|refine zJq ?_|fail))
  all_goals first|omega|(simp only [putAt,List.map_append,List.map_cons,List.take_zero,List.drop_zero,List.nil_append,List.append_assoc,List.cons_append];rfl)
 ·have fC:decide ((0:Int)<(k:Int))=true:=decide_eq_true (by omega)
  have fE:decide (t.Txn<(nth l (k-1)).Txn)=false:=by
   cases q:ltI t.Txn (nth l (k-1)).Txn with
   |false=>exact q
   |true=>exact absurd ⟨hk0,q⟩ hgo
  have g3:∀ (f:Held→List T) q,((l.take k).map f++[q]++(l.drop k).map f).getD k []=q:=fun f q=>by
   have ea:((l.take k).map f).length=k:=by rw [List.length_map,lt1]
   rw [List.append_assoc,List.getD_eq_getElem?_getD,List.getElem?_append_right (by omega),ea,Nat.sub_self];rfl
  try simp only [go_sem,hE,hH,e1,fC,fE,d1,d2,d3,hdx,lt1,g3,zK5]
  repeat' (first|((with_reducible first|refine zD7 ?_ ?_|refine zD8 ?_ ?_)<;>(intro h;have hb:=h;(try simp only [nf] at h);simp (disch:=omega) only [go_sem,hE,hH,e1,fC,fE,d1,d2,d3,hdx,lt1,g3,hb];(try clear hb)))|((with_reducible refine And.intro ?_ ?_);· omega)|(with_reducible first|apply jn|apply both|refine And.intro ?_ ?_)|((with_reducible apply zBH);(try (simp (disch:=omega) only [go_sem,hE,hH,e1,fC,fE,d1,d2,d3,hdx,lt1,g3]));first|done|rfl)|(simp (disch:=omega) only [go_sem,hE,hH,e1,fC,fE,d1,d2,d3,hdx,lt1,g3])|((first|apply zAJ|apply zBo)<;>(simp only [go_sem,hE,hH,e1,fC,fE,d1,d2,d3,hdx,lt1,g3];done))|(simp only [go_sem,hE,hH,e1,fC,fE,d1,d2,d3,hdx,lt1,g3])|fail)
  all_goals first|omega|(simp only [putAt,List.map_append,List.map_cons,List.take_zero,List.drop_zero,List.nil_append,List.append_assoc,List.cons_append];rfl)
theorem zVQ (l:List Held) (t:Int) (hl:l.length≤2^20):ACall p_ 212 [.sl false 5 (l.map (Held.row false)),i64 t] (fun r _=>r= .sl true 5 ((l.filter fun x=> !decide (x.Txn=t)).map (Held.row false))):=by
 have hmx:=zAd
 refine fg H212 fun E hE hH=> ?_;refine st ?_
 refine zAi l.length (fun j (x:List Held)=>⟨[(1,i64 t),(5, .ref 6000000 0 x.length),(8, .sl false 5 (l.map (Held.row false))),(9,i64 l.length),(10,i64 j)],[(6000000,⟨5,x.map (Held.row false)⟩)]⟩) (fun j x=>x=(l.take j).filter fun x=> !decide (x.Txn=t)) [] rfl ?_
 intro j x hj hx
 have hxl:x.length≤j:=by
  have h1:x.length≤(l.take j).length:=by rw [hx];exact List.length_filter_le _ _
  rw [List.length_take] at h1;omega
 have hxt:x.take x.length=x:=List.take_length
 try simp only [go_sem,hE,hH,zTR]
 refine gG (fun h=> ?_) (fun h=> ?_)
 ·have hb:=h
  simp only [nf] at h
  have hlt:=h;clear h
  try refine sb ?_;try exact ⟨⟩
  repeat' (first|(refine qz ?_ ?_<;>intro h)|refine qy ?_|(with_reducible apply jn)|refine qu ?_ ?_|exact qj|refine qw ?_|fail)
  all_goals try omega
  ·have e:(l.take (j+1)).filter (fun x=> !decide (x.Txn=t))=x++[nth l j]:=by
    rw [zAw hlt,List.filter_append, ←hx]
    simp [h]
   rw [e,List.length_append,List.map_append]
   rfl
  ·have e:(l.take (j+1)).filter (fun x=> !decide (x.Txn=t))=x:=by
    rw [zAw hlt,List.filter_append, ←hx]
    simp [h]
   rw [e]
   rfl
 ·try simp (disch:=omega) only [go_sem,hE,hH,h]
  simp only [nf] at h
  rw [show j=l.length by omega,List.take_length] at hx
  subst hx
  rfl
theorem ACall.dshN {P:Program} {f:Nat} {args:List T} {α:Type} {X:α→T} {C:α→Prop} (h:ACall P f args (fun r _=>∃ q,zAX r.dsh (X q)∧C q)):ACall P f args (fun r _=>∃ q,r=X q∧C q):=by
 refine ACall.nil (h.dshR.mono ?_)
 rintro r l ⟨r0,⟨q,h1,h2⟩,rfl⟩
 exact ⟨X q,h1,q,rfl,h2⟩
def zB7 (q:State) (b:Bool):T:= .tup [.agg (State.row false q),bl b]
theorem zHK {C:State→Prop} {r:T} {l:List T} {b:Bool} (q:State) (h:zAX r.dsh (zB7 q b)) (hC:C q):zFs (fun r _=>∃ q,zAX r.dsh (zB7 q b)∧C q) r l:=zAaL ⟨q,h,hC⟩
theorem zCV {C:State→Prop} {r:T} {l:List T} {b:Bool} (q:State) (b0:Bool) (h:zAX r.dsh (zB7 q b0)) (hb:b0=b) (hC:C q):zFs (fun r _=>∃ q,zAX r.dsh (zB7 q b)∧C q) r l:=zHK q (hb▸h) hC
theorem zOL {n:Nat} {s:State} {r:Rec} (hi:stI n s):zA3 s r=s.Held.filter fun x=> !decide (x.Txn=r.Txn):=by
 unfold zA3
 cases hH:hF s.Held r.Txn with
 |true=>
  obtain ⟨k1,k2⟩:=zQv hi.hsrt hH
  rw [if_pos rfl,zRD (f:=Held.Txn) zBK hi.hsrt k1,k2]
 |false=>
  rw [if_neg (by simp)]
  symm
  rw [List.filter_eq_self]
  intro x hx
  rw [hF,fxF,List.any_eq_false] at hH
  simpa using hH x hx
theorem zLA {n:Nat} (s:State) (r:Rec) (hi:stI n s) (hn:n≤100) (hr:zA7 r=true):ACall p_ 164 [.agg (State.row false s), .agg (Rec.row false r)] (fun x _=>∃ q,x=zB7 q (zA0 s r).isSome∧∀ s',zA0 s r=some s'→q=s'):=by
 have hmx:=zAd
 have hb:=hi.b (by omega)
 have hHl:=hi.hlen
 have hTl:=hi.tlen
 have cO:=zXH s hb
 have cFH:=zKD s r.Txn (by omega) hi.hsrt
 have cFT:=zE6 s r.Txn (by omega) hi.tsrt
 refine ACall.dshN (X:=fun q=>zB7 q (zA0 s r).isSome) ?_
 by_cases h4:r.Kind=4
 ·have z1:decide (r.Kind=4)=true:=decide_eq_true h4
  have hD:zA0 s r=if r.Time≤s.Floor then none else some ⟨r.Time,s.Cells,s.Held,s.Told⟩:=by rw [zA0,if_pos h4]
  refine fg zI4 fun E hE hH=> ?_;refine st ?_
  try simp (disch:=omega) only [go_sem,hE,hH,z1]
  all_goals (have y1_:=z1;repeat' (first|(refine zBC ?_ ?_<;>intro h)|refine qy ?_|refine zBX ?_|refine zAF (cO) ?_|refine zAF (cFH) ?_|refine zAF (cFT) ?_|(with_reducible apply jn)|refine qu ?_ ?_|exact zCd|refine zBA ?_|fail))
  by_cases hT:r.Time≤s.Floor
  ·rw [if_pos hT] at hD
   refine zHK ⟨r.Time,s.Cells,s.Held,s.Told⟩ ?_ (fun s' e=>by rw [hD] at e;cases e)
   rw [hD,zB7,decide_eq_false (by omega)]
   simp only [go_sem]
   (repeat' apply And.intro)<;>rfl
  ·rw [if_neg hT] at hD
   refine zHK ⟨r.Time,s.Cells,s.Held,s.Told⟩ ?_ (fun s' e=>by rw [hD] at e;injection e)
   rw [hD,zB7,decide_eq_true (by omega)]
   simp only [go_sem]
   (repeat' apply And.intro)<;>rfl
 have z1:decide (r.Kind=4)=false:=decide_eq_false h4
 cases hTF:tF s.Told r.Txn with
 |true=>
  rw [hTF] at cFT
  have hD:zA0 s r=none:=by rw [zA0,if_neg h4,hTF];rfl
  refine fg zI4 fun E hE hH=> ?_;refine st ?_
  try simp (disch:=omega) only [go_sem,hE,hH,z1]
  all_goals (have y1_:=z1;repeat' (first|(refine zBC ?_ ?_<;>intro h)|refine qy ?_|refine zBX ?_|refine zAF (cO) ?_|refine zAF (cFH) ?_|refine zAF (cFT) ?_|(with_reducible apply jn)|refine qu ?_ ?_|exact zCd|refine zBA ?_|fail))
  refine zHK s ?_ (fun s' e=>by rw [hD] at e;cases e)
  rw [hD,zB7]
  simp only [go_sem]
  (repeat' apply And.intro)<;>rfl
 |false=>
  rw [hTF] at cFT
  by_cases h1:r.Kind=1
  ·have z2:decide (r.Kind=1)=true:=decide_eq_true h1
   have hld:=zB6 (zJd hr h1)
   have hld1:r.Reads.length≤8:=hld.1
   have hld2:r.Writes.length≤8:=hld.2.1
   have cF:=zVN s r.Reads r.Writes hi (by omega) (by omega)
   have hA:zA0 s r=if (hF s.Held r.Txn||decide (r.Time≤s.Floor)|| !zDn s r.Reads r.Writes)=true then none else some ⟨r.Time,s.Cells,putAt s.Held (hI s.Held r.Txn) (hOf r),s.Told⟩:=by rw [zA0,if_neg h4,hTF,if_neg (by simp),if_neg (by simp [h1])]
   have hQ:∀ s',zA0 s r=some s'→(⟨r.Time,s.Cells,putAt s.Held (hPl s.Held r.Txn) (hOf r),s.Told⟩:State)=s':=by
    intro s' e
    rw [hA] at e
    split at e
    ·cases e
    ·rename_i hcond
     injection e with e
     have hh:hF s.Held r.Txn=false:=by
      cases q:hF s.Held r.Txn with
      |false=>rfl
      |true=>rw [q] at hcond;simp at hcond
     rw [←e,show hPl s.Held r.Txn=hI s.Held r.Txn from zAeG (x:=hOf r) hi.hsrt hh]
   have cPH:ACall p_ 208 [.sl true 5 (s.Held.map (Held.row true)), .agg (Held.row true (hOf r))] (fun x l=>x= .sl true 5 ((putAt s.Held (hPl s.Held r.Txn) (hOf r)).map (Held.row false))∧l=[.any, .any]):=zRq (zQg s.Held (hOf r) (by omega)) (by simp only [go_sem];rfl) rfl
   refine fg zI4 fun E hE hH=> ?_;refine st ?_
   try simp (disch:=omega) only [go_sem,hE,hH,z1,z2]
   all_goals (have y1_:=z1;have y2_:=z2;repeat' (first|(refine zCJ ?_ ?_<;>intro h)|refine qy ?_|(refine zAP [true,true] ?_;refine zGn ?_;refine cmA (cPH) ?_;refine zGn ?_)|refine zFe ?_|refine zBY (cO) ?_|refine zBY (cFH) ?_|refine zBY (cFT) ?_|refine zBY (zGh _ (by omega)) ?_|refine zBY (cF) ?_|(with_reducible apply jn)|refine qu ?_ ?_|exact zCK|refine zCL ?_|fail))
   ·refine zCV ⟨r.Time,s.Cells,putAt s.Held (hPl s.Held r.Txn) (hOf r),s.Told⟩ (zDn s r.Reads r.Writes) ?_ ?_ hQ
    ·(rw [zB7];simp only [go_sem];(repeat' apply And.intro)<;>rfl)
    ·rw [hA]
     cases hq:zDn s r.Reads r.Writes<;>(split<;>simp_all<;>omega)
   all_goals (
    refine zCV ⟨r.Time,s.Cells,putAt s.Held (hPl s.Held r.Txn) (hOf r),s.Told⟩ false ?_ ?_ hQ
    ·(rw [zB7];simp only [go_sem];(repeat' apply And.intro)<;>rfl)
    ·rw [hA]
     split<;>simp_all<;>omega)
  ·have z2:decide (r.Kind=1)=false:=decide_eq_false h1
   have hD:zA0 s r=zB0 s r:=by rw [zA0,if_neg h4,hTF,if_neg (by simp),if_pos h1]
   have hpt:tPl s.Told r.Txn=tI s.Told r.Txn:=zAeF (x:=(⟨r.Txn,r.Yes,r.Time⟩:Told)) hi.tsrt hTF
   have cPT:=zQf s.Told ⟨r.Txn,r.Yes,r.Time⟩ (by omega)
   rw [show (⟨r.Txn,r.Yes,r.Time⟩:Told).Txn=r.Txn from rfl,hpt,show putAt s.Told (tI s.Told r.Txn) (⟨r.Txn,r.Yes,r.Time⟩:Told)=zCg s r from rfl] at cPT
   have cLs:ACall p_ 212 [.sl true 5 (s.Held.map (Held.row true)),i64 r.Txn] (fun x l=>x= .sl true 5 ((zA3 s r).map (Held.row false))∧l=[.any, .any]):=by
    rw [zOL hi]
    exact zRq (zVQ s.Held r.Txn (by omega)) (by simp only [go_sem];rfl) rfl
   have hcl:(zA3 s r).length≤12:=(zKA hi r).1
   cases hY:r.Yes with
   |false=>
    rw [hY] at cPT
    have hE2:zB0 s r=some ⟨s.Floor,s.Cells,zA3 s r,zCg s r⟩:=by rw [zB0,hY];rfl
    rw [hE2] at hD
    refine fg zI4 fun E hE hH=> ?_;refine st ?_
    try simp (disch:=omega) only [go_sem,hE,hH,z1,z2,hY]
    all_goals (have y1_:=z1;have y2_:=z2;have y3_:=hY;repeat' (first|(refine zFc ?_ ?_<;>intro h)|refine qy ?_|(refine zAP [true,false] ?_;refine zMq ?_;refine cmA (cLs) ?_;refine zMq ?_)|refine zH8 ?_|refine zCF (cO) ?_|refine zCF (cFH) ?_|refine zCF (cFT) ?_|refine zCF (cPT) ?_|(with_reducible apply jn)|refine qu ?_ ?_|exact zFJ|refine zFd ?_|fail))
    refine zCV ⟨s.Floor,s.Cells,zA3 s r,zCg s r⟩ true ?_ (by rw [hD];rfl) (fun s' e=>by rw [hD] at e;injection e)
    (rw [zB7];simp only [go_sem];(repeat' apply And.intro)<;>rfl)
   |true=>
    rw [hY] at cPT
    have hTm:1≤r.Time:=by
     simp only [zA7,h1,h4,if_false,hY] at hr
     split at hr
     ·simp only [Bool.and_eq_true,Bool.or_eq_true,zBl,Bool.not_true,Bool.false_and,Bool.true_and,Bool.false_eq_true,or_false] at hr
      omega
     ·cases hr
    cases hH:hF s.Held r.Txn with
    |false=>
     rw [hH] at cFH
     have hE2:zB0 s r=none:=by rw [zB0,hY,hH];rfl
     rw [hE2] at hD
     refine fg zI4 fun E hE hH=> ?_;refine st ?_
     try simp (disch:=omega) only [go_sem,hE,hH,z1,z2,hY]
     all_goals (have y1_:=z1;have y2_:=z2;have y3_:=hY;repeat' (first|(refine zFc ?_ ?_<;>intro h)|refine qy ?_|refine zH8 ?_|refine zCF (cO) ?_|refine zCF (cFH) ?_|refine zCF (cFT) ?_|(with_reducible apply jn)|refine qu ?_ ?_|exact zFJ|refine zFd ?_|fail))
     refine zCV s false ?_ (by rw [hD];rfl) (fun s' e=>by rw [hD] at e;cases e)
     (rw [zB7];simp only [go_sem];(repeat' apply And.intro)<;>rfl)
    |true=>
     rw [hH] at cFH
     obtain ⟨k1,k2⟩:=zQv hi.hsrt hH
     have hld:=zB6 (hi.hok _ (zAc k1))
     have hI0:=zB5 hi.cells
     have hN:zMl s.Held r.Txn=nth s.Held (hI s.Held r.Txn):=by rw [zMl,hH,if_pos rfl]
     rw [hN] at cFH
     by_cases hT:r.Time<(nth s.Held (hI s.Held r.Txn)).Time
     ·have hE2:zB0 s r=none:=by rw [zB0,hY,hH,decide_eq_true hT];rfl
      rw [hE2] at hD
      have hT2:=decide_eq_true hT
      refine fg zI4 fun E hE hH=> ?_;refine st ?_
      try simp (disch:=omega) only [go_sem,hE,hH,z1,z2,hY,hT2]
      all_goals (have y1_:=z1;have y2_:=z2;have y3_:=hY;have y4_:=hT2;repeat' (first|(refine zIc ?_ ?_<;>intro h)|refine qy ?_|refine zO2 ?_|refine zDW (cO) ?_|refine zDW (cFH) ?_|refine zDW (cFT) ?_|(with_reducible apply jn)|refine qu ?_ ?_|exact zId|refine zIe ?_|fail))
      refine zCV s false ?_ (by rw [hD];rfl) (fun s' e=>by rw [hD] at e;cases e)
      (rw [zB7];simp only [go_sem];(repeat' apply And.intro)<;>rfl)
     have hT2:=decide_eq_false hT
     have cP:=zZu s.Cells (nth s.Held (hI s.Held r.Txn)).Writes r.Time hI0 (fun x hx=>zHh hld.2.2.1 hx) (by omega) hTm
     cases hP:zD4 r.Time (nth s.Held (hI s.Held r.Txn)).Writes (some s.Cells) with
     |none=>
      rw [hP] at cP
      simp only [zVJ] at cP
      have hE2:zB0 s r=none:=by rw [zB0,hY,hH,hT2,zH5,hP];rfl
      rw [hE2] at hD
      refine fg zI4 fun E hE hH=> ?_;refine st ?_
      try simp (disch:=omega) only [go_sem,hE,hH,z1,z2,hY,hT2]
      all_goals (have y1_:=z1;have y2_:=z2;have y3_:=hY;have y4_:=hT2;repeat' (first|(refine zIc ?_ ?_<;>intro h)|refine qy ?_|refine zO2 ?_|refine zDW (cO) ?_|refine zDW (cFH) ?_|refine zDW (cFT) ?_|refine zDW (cP) ?_|(with_reducible apply jn)|refine qu ?_ ?_|exact zId|refine zIe ?_|fail))
      refine zCV s false ?_ (by rw [hD];rfl) (fun s' e=>by rw [hD] at e;cases e)
      (rw [zB7];simp only [go_sem];(repeat' apply And.intro)<;>rfl)
     |some c=>
      rw [hP] at cP
      simp only [zVJ] at cP
      cases hG:zAZ c with
      |false=>
       rw [hG] at cP
       have hE2:zB0 s r=none:=by rw [zB0,hY,hH,hT2,zH5,hP];simp [hG]
       rw [hE2] at hD
       refine fg zI4 fun E hE hH=> ?_;refine st ?_
       try simp (disch:=omega) only [go_sem,hE,hH,z1,z2,hY,hT2]
       all_goals (have y1_:=z1;have y2_:=z2;have y3_:=hY;have y4_:=hT2;repeat' (first|(refine zIc ?_ ?_<;>intro h)|refine qy ?_|refine zO2 ?_|refine zDW (cO) ?_|refine zDW (cFH) ?_|refine zDW (cFT) ?_|refine zDW (cP) ?_|(with_reducible apply jn)|refine qu ?_ ?_|exact zId|refine zIe ?_|fail))
       refine zCV s false ?_ (by rw [hD];rfl) (fun s' e=>by rw [hD] at e;cases e)
       (rw [zB7];simp only [go_sem];(repeat' apply And.intro)<;>rfl)
      |true=>
       rw [hG] at cP
       have hE2:zB0 s r=some ⟨max s.Floor r.Time,c,zA3 s r,zCg s r⟩:=by rw [zB0,hY,hH,hT2,zH5,hP];simp [hG]
       rw [hE2] at hD
       have hmx2:zQu s.Floor r.Time=max s.Floor r.Time:=by
        rw [zQu,Int.max_def];split<;>split<;>omega
       refine fg zI4 fun E hE hH=> ?_;refine st ?_
       try simp (disch:=omega) only [go_sem,hE,hH,z1,z2,hY,hT2,hmx2]
       all_goals (have y1_:=z1;have y2_:=z2;have y3_:=hY;have y4_:=hT2;have y5_:=hmx2;repeat' (first|(refine zH9 ?_ ?_<;>intro h)|refine qy ?_|(refine zAP [true,false] ?_;refine zO1 ?_;refine cmA (cLs) ?_;refine zO1 ?_)|refine zSk ?_|refine zFK (cO) ?_|refine zFK (cFH) ?_|refine zFK (cFT) ?_|refine zFK (cP) ?_|refine zFK (zXp _ _) ?_|refine zFK (cPT) ?_|(with_reducible apply jn)|refine qu ?_ ?_|exact zIa|refine zIb ?_|fail))
       refine zCV ⟨max s.Floor r.Time,c,zA3 s r,zCg s r⟩ true ?_ (by rw [hD];rfl) (fun s' e=>by rw [hD] at e;injection e)
       (rw [zB7];simp only [go_sem];(repeat' apply And.intro)<;>rfl)
end Go.Proofs.Wb

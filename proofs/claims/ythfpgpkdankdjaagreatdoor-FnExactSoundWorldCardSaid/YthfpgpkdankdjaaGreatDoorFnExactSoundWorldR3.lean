import Derived.Test.YthfpgpkdankdjaaGreatDoorFnExactSoundWorldNE
import Derived.Laws.Externs
set_option linter.all false
set_option maxHeartbeats 4000000
namespace Go.Proofs.Wb
open Tryz renaming prog→p_
open Go Go.Am
theorem zZJ (l:List Int) (n:Int) (hl:l.length≤2^20) (hs:zHn l):ACall p_ 171 [.sl true 1 (ints l),i64 n] (fun r a=>r= .sl true 1 (ints (zDe l n))∧a=[.any,i64 n]):=by
 have hmx:=zAd
 have mono:∀ i j,i<j→j<l.length→nth l i<nth l j:=fun i j a b=>by
  have:=hs i j a b
  simpa only [ltI,decide_eq_true_eq] using this
 refine zG2 [true,false] (hqA H171) (hqB H171) ⟨by simp only [go_sem],fun E hE hH=> ?_⟩;simp only [go_sem] at hE hH;simp only [go_sem,hE,hH,zYW]
 refine zHz (fun (k:Nat)=>⟨[(0, .ref 0 0 l.length),(1,i64 n),(5,i64 k)],[(0,⟨1,ints l⟩)]⟩) (fun k=>k≤l.length∧∀ i,i<k→nth l i<n) (fun k=>l.length-k) 0 ⟨Nat.zero_le _,fun i h=>absurd h (by omega)⟩ ?_
 rintro k ⟨hk,hK⟩
 by_cases hgo:k<l.length∧nth l k<n
 ·obtain ⟨g1,g2⟩:=hgo
  try simp only [go_sem,hE,hH,zK4]
  repeat' (first|(refine qz ?_ ?_<;>intro h)|refine qy ?_|(with_reducible apply jn)|refine qu ?_ ?_|exact qj|refine qw ?_|fail)
  all_goals first|omega|(refine ⟨k+1,rfl,⟨by omega,fun i hi=> ?_⟩,by omega⟩;by_cases e:i=k;(rw [e];exact g2);exact hK i (by omega))
 ·have h2:∀ i,k≤i→i<l.length→n≤nth l i:=fun i a b=>by
   by_cases e:i=k
   ·subst e;omega
   ·have:=mono k i (by omega) b
    omega
  have e3:iK l n=k:=zAfK hs hk hK h2
  by_cases hf:k<l.length∧nth l k=n
  ·have eY:zDe l n=l:=by unfold zDe;rw [if_pos (zAfL hs hf.1 hf.2)]
   obtain ⟨g1,g2⟩:=hf
   rw [eY]
   try simp only [go_sem,hE,hH,zK4]
   repeat' (first|(refine qz ?_ ?_<;>intro h)|refine qy ?_|(with_reducible apply jn)|refine qu ?_ ?_|exact qj|refine qw ?_|fail)
   all_goals first|omega|rfl|(exfalso;omega)
  ·have eY:zDe l n=l.take k++n::l.drop k:=by
    unfold zDe putAt
    rw [if_neg (by simp [zAeM hs e3 (fun h e=>hf ⟨h,e⟩)]),e3]
   rw [eY]
   have d1:(l.drop k).take (l.length-k)=l.drop k:=List.take_of_length_le (by simp)
   have lt1:(l.take k).length=k:=by rw [List.length_take];omega
   have d2:(l.take k).take k=l.take k:=by rw [List.take_take,Nat.min_self]
   have hdx:(l.drop k).length=l.length-k:=by simp
   have d3:∀ q:List T,((l.take k).map (fun x:Int=>[i64 x])++[q]).take (k+1)=(l.take k).map (fun x:Int=>[i64 x])++[q]:=fun q=>List.take_of_length_le (by simp;omega)
   try simp only [go_sem,hE,hH,zK4]
   all_goals (have y1_:=d1;have y2_:=d2;have y3_:=lt1;have y4_:=hdx;have y5_:=d3;repeat' (first|(refine zH9 ?_ ?_<;>intro h)|refine qy ?_|(with_reducible apply jn)|refine qu ?_ ?_|exact zIa|refine zIb ?_|fail))
   all_goals first|omega|rfl|(exfalso;omega)|(simp [ints];done)
theorem zS0 (reads:List ByteArray) (ws:List Write) (h1:reads.length≤2^18) (h2:ws.length≤2^18):ACall p_ 114 [.sl false 1 (strs reads), .sl false 3 (ws.map (Write.row false))] (fun r _=>r= .sl true 1 (strs (zDo reads ws))):=by
 have hmx:=zAd
 have h0:zAO zAf id ([]:List ByteArray):=fun i j _ h=>absurd h (Nat.not_lt_zero _)
 refine fg H114 fun E hE hH=> ?_
 repeat' (first|(refine qz ?_ ?_<;>intro h)|refine qy ?_|(with_reducible apply jn)|refine qu ?_ ?_|exact qj|refine qw ?_|fail)
 refine zAi reads.length (fun j (x:List ByteArray)=>⟨[(1, .sl false 3 (ws.map (Write.row false))),(5, .ref 6000000 0 x.length),(10, .sl false 1 (strs reads)),(11,i64 reads.length),(12,i64 j)],[(6000000,⟨1,strs x⟩)]⟩) (fun j x=>x=(reads.take j).foldl zA5 []) [] rfl ?_
 intro j x hj hx
 have hxs:zAO zAf id x:=by rw [hx];exact zED h0
 have hxl:x.length≤j:=by
  have:=zDQ (ws:=reads.take j) (l:=[])
  rw [←hx,List.length_take,List.length_nil] at this;omega
 try simp only [go_sem,hE,hH,zTt]
 refine gG (fun h=> ?_) (fun h=> ?_)
 ·have hb:=h
  simp only [nf] at h
  have hlt:=h;clear h
  have hst:zA5 x (nth reads j)=(reads.take (j+1)).foldl zA5 []:=by rw [zAw hlt,List.foldl_append, ←hx];rfl
  try refine sb ?_;try exact ⟨⟩
  repeat' (first|(refine qz ?_ ?_<;>intro h)|refine qy ?_|(refine zAP [true,false] ?_;refine st ?_;refine cmA (zEE x _ (by omega) hxs) ?_;refine st ?_)|(with_reducible apply jn)|refine qu ?_ ?_|exact qj|refine qw ?_|fail)
  all_goals first|omega|(rw [←hst];rfl)
 ·try simp (disch:=omega) only [go_sem,hE,hH,h]
  simp only [nf] at h
  rw [show j=reads.length by omega,List.take_length] at hx
  have hxl2:x.length≤2^18:=by omega
  clear hxl
  repeat' (first|(refine qz ?_ ?_<;>intro h)|refine qy ?_|(with_reducible apply jn)|refine qu ?_ ?_|exact qj|refine qw ?_|fail)
  refine zAi ws.length (fun i (y:List ByteArray)=>⟨[(5, .ref 6000000 0 y.length),(20, .sl false 3 (ws.map (Write.row false))),(21,i64 ws.length),(22,i64 i)],[(6000000,⟨1,strs y⟩)]⟩) (fun i y=>y=((ws.take i).map (·.Key)).foldl zA5 x) x (by simp) ?_
  intro i y hi hy
  have hys:zAO zAf id y:=by rw [hy];exact zED hxs
  have hyl:y.length≤x.length+i:=by
   have:=zDQ (ws:=(ws.take i).map (·.Key)) (l:=x)
   rw [←hy,List.length_map,List.length_take] at this;omega
  try simp only [go_sem,hE,hH,zTu]
  refine gG (fun h3=> ?_) (fun h3=> ?_)
  ·have hb3:=h3
   simp only [nf] at h3
   have hlt3:=h3;clear h3
   have hst:zA5 y (nth ws i).Key=((ws.take (i+1)).map (·.Key)).foldl zA5 x:=by rw [zAw hlt3,List.map_append,List.foldl_append, ←hy];rfl
   try simp (disch:=omega) only [go_sem,hE,hH,hb3]
   repeat' (first|(refine qz ?_ ?_<;>intro h)|refine qy ?_|(refine zAP [true,false] ?_;refine st ?_;refine cmA (zEE y _ (by omega) hys) ?_;refine st ?_)|(with_reducible apply jn)|refine qu ?_ ?_|exact qj|refine qw ?_|fail)
   all_goals first|omega|(rw [←hst];rfl)
  ·try simp (disch:=omega) only [go_sem,hE,hH,h3]
   simp only [nf] at h3
   rw [show i=ws.length by omega,List.take_length] at hy
   repeat' (first|(refine qz ?_ ?_<;>intro h)|refine qy ?_|(with_reducible apply jn)|refine qu ?_ ?_|exact qj|refine qw ?_|fail)
   rw [zDo,List.foldl_append, ←hx, ←hy]
   all_goals trace_state
theorem zS1 (cuts K:List ByteArray) (hc:cuts.length≤2^18) (hr:zBw cuts=true) (hk:K.length≤2^19):ACall p_ 113 [.sl false 1 (strs cuts), .sl false 1 (strs K)] (fun r _=>r= .sl true 1 (ints (zDT cuts K))):=by
 have hmx:=zAd
 refine fg H113 fun E hE hH=> ?_
 repeat' (first|(refine qz ?_ ?_<;>intro h)|refine qy ?_|(with_reducible apply jn)|refine qu ?_ ?_|exact qj|refine qw ?_|fail)
 refine zAi K.length (fun j (x:List Int)=>⟨[(0, .sl false 1 (strs cuts)),(5, .ref 6000000 0 x.length),(8, .sl false 1 (strs K)),(9,i64 K.length),(10,i64 j)],[(6000000,⟨1,ints x⟩)]⟩) (fun j x=>x=zDT cuts (K.take j)) [] rfl ?_
 intro j x hj hx
 have hxs:zHn x:=by rw [hx];exact zJg
 have hxl:x.length≤2^18+1:=by
  have:=zNu cuts.length hxs fun z hz=>by
   rw [hx,zGE] at hz
   obtain ⟨k,_,rfl⟩:=hz
   have:=zHj (cuts:=cuts) (k:=k);omega
  omega
 try simp only [go_sem,hE,hH,zTs]
 refine gG (fun h=> ?_) (fun h=> ?_)
 ·have hb:=h
  simp only [nf] at h
  have hlt:=h;clear h
  have hst:zDe x (zBu cuts (nth K j))=zDT cuts (K.take (j+1)):=by rw [zAw hlt,zDT,List.foldl_append, ←zDT, ←hx];rfl
  try refine sb ?_;try exact ⟨⟩
  repeat' (first|(refine qz ?_ ?_<;>intro h)|refine qy ?_|(refine zAP [true,false] ?_;refine st ?_;refine cmA (zZJ x _ (by omega) hxs) ?_;refine st ?_)|refine qo ?_|refine cq (zNs cuts (nth K j) (by omega) hr) ?_|(with_reducible apply jn)|refine qu ?_ ?_|exact qj|refine qw ?_|fail)
  all_goals first|omega|(rw [←hst];rfl)
 ·try simp (disch:=omega) only [go_sem,hE,hH,h]
  simp only [nf] at h
  rw [show j=K.length by omega,List.take_length] at hx
  rw [←hx]
  repeat' (first|(refine qz ?_ ?_<;>intro h)|refine qy ?_|(with_reducible apply jn)|refine qu ?_ ?_|exact qj|refine qw ?_|fail)
  all_goals trace_state
def zKK (r:Rec):Prop:=r.Reads.length≤2^20∧r.Writes.length≤2^20
def zJh (l:List Entry):Prop:=l.length≤2^20∧∀ e∈l,zKK e.Rec
theorem zBN {caps:List T} (h:caps.all T.cap=true) (d:Nat):zGq d caps=true:=(zF0 d caps).2 (zAo h d)
theorem zBO {caps:List T} (h:caps.all T.cap=true) (d d':Nat):zC9 d d' caps=caps:=zDy d d' (zAu h)
def zFF (a b:List ByteArray):Bool:=decide (a.length=b.length)&&zAg (fun i=>decide (nth a i=nth b i)) a.length
def zHp (x y:Write):Bool:=decide (x.Key=y.Key)&&decide (x.Val=y.Val)&&decide (x.Gone=y.Gone)
def zFG (a b:List Write):Bool:=decide (a.length=b.length)&&zAg (fun i=>zHp (nth a i) (nth b i)) a.length
def zFa (a b:Rec):Bool:=decide (a.Kind=b.Kind)&&decide (a.Txn=b.Txn)&&decide (a.Time=b.Time)&&decide (a.Lead=b.Lead)&&decide (a.Yes=b.Yes)&&zFF a.Reads b.Reads&&zFG a.Writes b.Writes
def zDp (a b:Entry):Bool:=decide (a.Term=b.Term)&&zFa a.Rec b.Rec
def zJi (a b:List Entry):Bool:=decide (a.length=b.length)&&zAg (fun i=>zDp (nth a i) (nth b i)) a.length
def zGF (l f:List Entry):Bool:=decide (f.length≤l.length)&&zJi (l.take f.length) f
theorem zNx (a b:List ByteArray) (ha:a.length≤maxLen) (hb0:b.length≤maxLen):ACall p_ 273 [.sl false 1 (strs a), .sl false 1 (strs b)] (fun x _=>x=bl (zFF a b)):=by
 have hmx:=zAd
 by_cases hl:a.length=b.length
 ·refine fg H273 fun E hE hH=> ?_
  repeat' (first|(refine qz ?_ ?_<;>intro h)|refine qy ?_|(with_reducible apply jn)|refine qu ?_ ?_|exact qj|refine qw ?_|fail)
  all_goals try (exfalso;omega)
  refine zAU a.length (fun j (_:Unit)=>⟨[(0, .sl false 1 (strs a)),(1, .sl false 1 (strs b)),(12,i64 a.length),(13,i64 j)],[]⟩) (fun j _=>zAg (fun i=>decide (nth a i=nth b i)) j=true) () rfl rfl ?_
  intro j _ hj hI
  try simp only [go_sem,hE,hH,zT7]
  refine gG (fun h=> ?_) (fun h=> ?_)
  ·have hb:=h
   simp only [nf] at h
   have hlt:j<a.length:=by omega
   clear h
   try refine sb ?_;try exact ⟨⟩
   repeat' (first|(refine qz ?_ ?_<;>intro h)|refine qy ?_|(with_reducible apply jn)|refine qu ?_ ?_|exact qj|refine qw ?_|fail)
   all_goals first|omega|exact ⟨(),rfl,zAa hI (by simp_all)⟩|(rw [zFF,zAm hlt (by simp_all)];simp;done)
  ·try simp (disch:=omega) only [go_sem,hE,hH,h]
   simp only [nf] at h
   rw [show j=a.length by omega] at hI
   rw [zFF,hI,hl]
   repeat' (first|(refine qz ?_ ?_<;>intro h)|refine qy ?_|(with_reducible apply jn)|refine qu ?_ ?_|exact qj|refine qw ?_|fail)
   all_goals first|rfl|(simp;done)
 ·rw [show zFF a b=false by simp [zFF,hl]]
  refine fg H273 fun E hE hH=> ?_
  repeat' (first|(refine qz ?_ ?_<;>intro h)|refine qy ?_|(with_reducible apply jn)|refine qu ?_ ?_|exact qj|refine qw ?_|fail)
  all_goals first|rfl|(exfalso;omega)
theorem zOT (a b:List Write) (ha:a.length≤maxLen) (hb0:b.length≤maxLen):ACall p_ 274 [.sl false 3 (a.map (Write.row false)), .sl false 3 (b.map (Write.row false))] (fun x _=>x=bl (zFG a b)):=by
 have hmx:=zAd
 by_cases hl:a.length=b.length
 ·refine fg H274 fun E hE hH=> ?_
  repeat' (first|(refine qz ?_ ?_<;>intro h)|refine qy ?_|(with_reducible apply jn)|refine qu ?_ ?_|exact qj|refine qw ?_|fail)
  all_goals try (exfalso;omega)
  refine zAU a.length (fun j (_:Unit)=>⟨[(0, .sl false 3 (a.map (Write.row false))),(1, .sl false 3 (b.map (Write.row false))),(12,i64 a.length),(13,i64 j)],[]⟩) (fun j _=>zAg (fun i=>zHp (nth a i) (nth b i)) j=true) () rfl rfl ?_
  intro j _ hj hI
  try simp only [go_sem,hE,hH,zOd]
  refine gG (fun h=> ?_) (fun h=> ?_)
  ·have hb:=h
   simp only [nf] at h
   have hlt:j<a.length:=by omega
   clear h
   try refine sb ?_;try exact ⟨⟩
   repeat' (first|(refine qz ?_ ?_<;>intro h)|refine qy ?_|(with_reducible apply jn)|refine qu ?_ ?_|exact qj|refine qw ?_|fail)
   all_goals first|omega|exact ⟨(),rfl,zAa hI (by simp_all [zHp])⟩|(rw [zFG,zAm hlt (by simp_all [zHp])];simp;done)
  ·try simp (disch:=omega) only [go_sem,hE,hH,h]
   simp only [nf] at h
   rw [show j=a.length by omega] at hI
   rw [zFG,hI,hl]
   repeat' (first|(refine qz ?_ ?_<;>intro h)|refine qy ?_|(with_reducible apply jn)|refine qu ?_ ?_|exact qj|refine qw ?_|fail)
   all_goals first|rfl|(simp;done)
 ·rw [show zFG a b=false by simp [zFG,hl]]
  refine fg H274 fun E hE hH=> ?_
  repeat' (first|(refine qz ?_ ?_<;>intro h)|refine qy ?_|(with_reducible apply jn)|refine qu ?_ ?_|exact qj|refine qw ?_|fail)
  all_goals first|rfl|(exfalso;omega)
theorem zV1 (a b:Rec) (ha:zKK a) (hb0:zKK b):ACall p_ 226 [.agg (Rec.row false a), .agg (Rec.row false b)] (fun x _=>x=bl (zFa a b)):=by
 have hmx:=zAd
 have c1:=zNx a.Reads b.Reads (by have:=ha.1;omega) (by have:=hb0.1;omega)
 have c2:=zOT a.Writes b.Writes (by have:=ha.2;omega) (by have:=hb0.2;omega)
 rw [zFa]
 generalize zFF a.Reads b.Reads=q1 at*
 generalize zFG a.Writes b.Writes=q2 at*
 refine fg H226 fun E hE hH=> ?_
 repeat' (first|(refine qz ?_ ?_<;>intro h)|refine qy ?_|refine qo ?_|refine cq (c1) ?_|refine cq (c2) ?_|(with_reducible apply jn)|refine qu ?_ ?_|exact qj|refine qw ?_|fail)
 all_goals first|omega|rfl|(simp_all;done)
theorem zSd (a b:Entry) (ha:zKK a.Rec) (hb0:zKK b.Rec):ACall p_ 187 [.agg (Entry.row false a), .agg (Entry.row false b)] (fun x _=>x=bl (zDp a b)):=by
 have hmx:=zAd
 have c1:=zV1 a.Rec b.Rec ha hb0
 rw [zDp]
 generalize zFa a.Rec b.Rec=q1 at*
 refine fg H187 fun E hE hH=> ?_
 repeat' (first|(refine qz ?_ ?_<;>intro h)|refine qy ?_|refine qo ?_|refine cq (c1) ?_|(with_reducible apply jn)|refine qu ?_ ?_|exact qj|refine qw ?_|fail)
 all_goals first|omega|rfl|(simp_all;done)
theorem zKL (a b:List Entry) (f:Nat) (caps:List T) (hent:zBU p_ f=true) (hcap:caps.all T.cap=true) (ha:a.length≤maxLen) (hb0:b.length≤maxLen) (hp:∀ x y,x∈a→y∈b→ACall p_ f ([.agg (Entry.row false x), .agg (Entry.row false y)]++caps) (fun r _=>r=bl (zDp x y))):
  ACall p_ 186 [.sl false 8 (a.map (Entry.row false)), .sl false 8 (b.map (Entry.row false)), .fn f caps] (fun r _=>r=bl (zJi a b)):=by
 have hmx:=zAd
 by_cases hl:a.length=b.length
 ·refine zI2 (hqA zU6) (hqB zU6) ⟨by simp only [go_sem,zAj hcap,zAu hcap,zAo hcap,zAx hcap,zAp hcap,zBN hcap,zBO hcap],fun E hE hH=> ?_⟩;simp only [go_sem,zAj hcap,zAu hcap,zAo hcap,zAx hcap,zAp hcap,zBN hcap,zBO hcap] at hE hH;simp only [go_sem,hE,hH,zAj hcap,zAu hcap,zAo hcap,zAx hcap,zAp hcap,zBN hcap,zBO hcap,zU5]
  repeat' (first|(refine zQx ?_ ?_<;>intro h)|refine qy ?_|(with_reducible apply jn)|refine qu ?_ ?_|exact zQy|refine zQz ?_|fail)
  all_goals try (exfalso;omega)
  refine zAU a.length (fun j (_:Unit)=>⟨[(1, .sl false 8 (b.map (Entry.row false))),(2, .fn f caps),(15, .sl false 8 (a.map (Entry.row false))),(16,i64 a.length),(17,i64 j)],[]⟩) (fun j _=>zAg (fun i=>zDp (nth a i) (nth b i)) j=true) () rfl rfl ?_
  intro j _ hj hI
  try simp only [go_sem,hE,hH,zAj hcap,zAu hcap,zAo hcap,zAx hcap,zAp hcap,zBN hcap,zBO hcap,zTK]
  refine gG (fun h=> ?_) (fun h=> ?_)
  ·have hb:=h
   simp only [nf] at h
   have hlt:j<a.length:=by omega
   clear h
   try simp (disch:=omega) only [go_sem,hE,hH,zAj hcap,zAu hcap,zAo hcap,zAx hcap,zAp hcap,zBN hcap,zBO hcap,hb]
   repeat (refine And.intro (by omega) ?_)
   refine zKh rfl rfl rfl (hent) (hcap) (hp _ _ (zAc hlt) (zAc (show j<b.length by omega))) ?_
   try simp (disch:=omega) only [go_sem,hE,hH,zAj hcap,zAu hcap,zAo hcap,zAx hcap,zAp hcap,zBN hcap,zBO hcap]
   repeat' (first|(refine zQx ?_ ?_<;>intro h)|refine qy ?_|(with_reducible apply jn)|refine qu ?_ ?_|exact zQy|refine zQz ?_|fail)
   all_goals first|omega|exact ⟨(),rfl,zAa hI (by simp_all)⟩|(rw [zJi,zAm hlt (by simp_all)];simp;done)
  ·try simp (disch:=omega) only [go_sem,hE,hH,zAj hcap,zAu hcap,zAo hcap,zAx hcap,zAp hcap,zBN hcap,zBO hcap,h]
   simp only [nf] at h
   rw [show j=a.length by omega] at hI
   rw [zJi,hI,hl]
   repeat' (first|(refine zQx ?_ ?_<;>intro h)|refine qy ?_|(with_reducible apply jn)|refine qu ?_ ?_|exact zQy|refine zQz ?_|fail)
   all_goals first|rfl|(simp;done)
 ·rw [show zJi a b=false by simp [zJi,hl]]
  refine zI2 (hqA zU6) (hqB zU6) ⟨by simp only [go_sem,zAj hcap,zAu hcap,zAo hcap,zAx hcap,zAp hcap,zBN hcap,zBO hcap],fun E hE hH=> ?_⟩;simp only [go_sem,zAj hcap,zAu hcap,zAo hcap,zAx hcap,zAp hcap,zBN hcap,zBO hcap] at hE hH;simp only [go_sem,hE,hH,zAj hcap,zAu hcap,zAo hcap,zAx hcap,zAp hcap,zBN hcap,zBO hcap,zU5]
  repeat' (first|(refine zQx ?_ ?_<;>intro h)|refine qy ?_|(with_reducible apply jn)|refine qu ?_ ?_|exact zQy|refine zQz ?_|fail)
  all_goals first|rfl|(exfalso;omega)
theorem zOU (a b:List Entry) (ha:zJh a) (hb0:zJh b):ACall p_ 143 [.sl false 8 (a.map (Entry.row false)), .sl false 8 (b.map (Entry.row false))] (fun x _=>x=bl (zJi a b)):=by
 have hmx:=zAd
 have h1:=ha.1
 have h2:=hb0.1
 refine fg H143 fun E hE hH=> ?_
 repeat' (first|(refine qz ?_ ?_<;>intro h)|refine qy ?_|refine qo ?_|refine cq (zKL a b 187 [] (by kernel_rfl) rfl (by omega) (by omega) (fun x y hx hy=>zSd x y (ha.2 x hx) (hb0.2 y hy))) ?_|(with_reducible apply jn)|refine qu ?_ ?_|exact qj|refine qw ?_|fail)
 all_goals first|omega|rfl
theorem zHq (a b:List Entry) (ha:zJh a) (hb0:zJh b):ACall p_ 83 [.sl false 8 (a.map (Entry.row false)), .sl false 8 (b.map (Entry.row false))] (fun x _=>x=bl (zGF a b)):=by
 have hmx:=zAd
 have h1:=ha.1
 have h2:=hb0.1
 have c1:=zOU (a.take b.length) b ⟨by rw [List.length_take];omega,fun e he=>ha.2 e (List.mem_of_mem_take he)⟩ hb0
 rw [zGF]
 generalize zJi (a.take b.length) b=q1 at*
 refine fg H83 fun E hE hH=> ?_
 repeat' (first|(refine qz ?_ ?_<;>intro h)|refine qy ?_|refine qo ?_|refine cq (c1) ?_|(with_reducible apply jn)|refine qu ?_ ?_|exact qj|refine qw ?_|fail)
 all_goals first|omega|rfl|(rw [decide_eq_false (by omega)];rfl)|(rw [decide_eq_true (by omega)];rfl)|(simp_all;done)
theorem zSe (a b:Rec) (ha:zKK a) (hb0:zKK b):ACall p_ 109 [.agg (Rec.row false a), .agg (Rec.row false b)] (fun x _=>x=bl (zFa a b)):=by
 have hmx:=zAd
 obtain ⟨ha1,ha2⟩:=ha
 obtain ⟨hb1,hb2⟩:=hb0
 by_cases hc:a.Kind=b.Kind∧a.Txn=b.Txn∧a.Time=b.Time∧a.Lead=b.Lead∧a.Yes=b.Yes∧a.Reads.length=b.Reads.length∧a.Writes.length=b.Writes.length
 ·obtain ⟨k1,k2,k3,k4,k5,k6,k7⟩:=hc
  have e:zFa a b=(zAg (fun i=>decide (nth a.Reads i=nth b.Reads i)) a.Reads.length&&zAg (fun i=>zHp (nth a.Writes i) (nth b.Writes i)) a.Writes.length):=by
   simp only [zFa,zFF,zFG,k1,k2,k3,k4,k5,k6,k7,decide_true,Bool.true_and]
  rw [e]
  refine fg H109 fun E hE hH=> ?_
  repeat' (first|(refine qz ?_ ?_<;>intro h)|refine qy ?_|(with_reducible apply jn)|refine qu ?_ ?_|exact qj|refine qw ?_|fail)
  all_goals try (exfalso;first|omega|(simp_all;done))
  all_goals try (
   refine zAU a.Reads.length (fun j (_:Unit)=>⟨[(2, .ptr 3000000 0 0),(3, .ptr 4000000 0 0),(5,i64 j)],[(3000000,⟨7,[Rec.row false a]⟩),(4000000,⟨7,[Rec.row false b]⟩)]⟩) (fun j _=>zAg (fun i=>decide (nth a.Reads i=nth b.Reads i)) j=true) () rfl rfl ?_
   intro j _ hj hI
   try simp only [go_sem,hE,hH,zTp]
   refine gG (fun h=> ?_) (fun h=> ?_)
   ·have hb:=h
    simp only [nf] at h
    have hlt:j<a.Reads.length:=by omega
    clear h
    try refine sb ?_;try exact ⟨⟩
    repeat' (first|(refine qz ?_ ?_<;>intro h)|refine qy ?_|(with_reducible apply jn)|refine qu ?_ ?_|exact qj|refine qw ?_|fail)
    all_goals first|omega|exact ⟨(),rfl,zAa hI (by simp_all)⟩|(rw [zAm hlt (by simp_all)];simp;done)
   ·try simp (disch:=omega) only [go_sem,hE,hH,h]
    simp only [nf] at h
    rw [show j=a.Reads.length by omega] at hI
    rw [hI,Bool.true_and]
    repeat' (first|(refine qz ?_ ?_<;>intro h)|refine qy ?_|(with_reducible apply jn)|refine qu ?_ ?_|exact qj|refine qw ?_|fail)
    refine zAU a.Writes.length (fun j (_:Unit)=>⟨[(2, .ptr 3000000 0 0),(3, .ptr 4000000 0 0),(6,i64 j)],[(3000000,⟨7,[Rec.row false a]⟩),(4000000,⟨7,[Rec.row false b]⟩)]⟩) (fun j _=>zAg (fun i=>zHp (nth a.Writes i) (nth b.Writes i)) j=true) () rfl rfl ?_
    intro j _ hj hI
    try simp only [go_sem,hE,hH,zTq]
    refine gG (fun h=> ?_) (fun h=> ?_)
    ·have hb:=h
     simp only [nf] at h
     have hlt:j<a.Writes.length:=by omega
     clear h
     try refine sb ?_;try exact ⟨⟩
     repeat' (first|(refine qz ?_ ?_<;>intro h)|refine qy ?_|(with_reducible apply jn)|refine qu ?_ ?_|exact qj|refine qw ?_|fail)
     all_goals first|omega|exact ⟨(),rfl,zAa hI (by simp_all [zHp])⟩|(rw [zAm hlt (by simp_all [zHp])];done)
    ·try simp (disch:=omega) only [go_sem,hE,hH,h]
     simp only [nf] at h
     rw [show j=a.Writes.length by omega] at hI
     rw [hI]
     repeat' (first|(refine qz ?_ ?_<;>intro h)|refine qy ?_|(with_reducible apply jn)|refine qu ?_ ?_|exact qj|refine qw ?_|fail)
     all_goals first|rfl|trace_state)
 ·have e:zFa a b=false:=by
   cases q:zFa a b with
   |false=>rfl
   |true=>simp only [zFa,zFF,zFG,Bool.and_eq_true,decide_eq_true_eq] at q;exact absurd ⟨q.1.1.1.1.1.1,q.1.1.1.1.1.2,q.1.1.1.1.2,q.1.1.1.2,q.1.1.2,q.1.2.1,q.2.1⟩ hc
  rw [e]
  refine fg H109 fun E hE hH=> ?_
  repeat' (first|(refine qz ?_ ?_<;>intro h)|refine qy ?_|(with_reducible apply jn)|refine qu ?_ ?_|exact qj|refine qw ?_|fail)
  all_goals first|rfl|(exfalso;apply hc;simp_all;done)|(exfalso;apply hc;simp_all;omega)
def zDU (l o:List Entry) (n:Nat):Bool:=decide (n≤l.length)&&decide (n≤o.length)&&zAg (fun i=>zDp (nth l i) (nth o i)) n
theorem zLF (a b:List Entry) (n:Nat) (ha:zJh a) (hb0:zJh b) (hn0:n≤2^20):ACall p_ 54 [.sl false 8 (a.map (Entry.row false)), .sl false 8 (b.map (Entry.row false)),i64 n] (fun x _=>x=bl (zDU a b n)):=by
 have hmx:=zAd
 obtain ⟨ha1,ha2⟩:=ha
 obtain ⟨hb1,hb2⟩:=hb0
 by_cases hc:n≤a.length∧n≤b.length
 ·obtain ⟨k1,k2⟩:=hc
  have e:zDU a b n=zAg (fun i=>zDp (nth a i) (nth b i)) n:=by simp [zDU,k1,k2]
  rw [e]
  refine fg H54 fun E hE hH=> ?_
  repeat' (first|(refine qz ?_ ?_<;>intro h)|refine qy ?_|(with_reducible apply jn)|refine qu ?_ ?_|exact qj|refine qw ?_|fail)
  all_goals try (exfalso;omega)
  refine zAU n (fun j (_:Unit)=>⟨[(0, .sl false 8 (a.map (Entry.row false))),(1, .sl false 8 (b.map (Entry.row false))),(2,i64 n),(7,i64 j)],[]⟩) (fun j _=>zAg (fun i=>zDp (nth a i) (nth b i)) j=true) () rfl rfl ?_
  intro j _ hj hI
  try simp only [go_sem,hE,hH,zW8]
  refine gG (fun h=> ?_) (fun h=> ?_)
  ·have hb:=h
   simp only [nf] at h
   have hlt:j<n:=by omega
   clear h
   have c1:=zSe (nth a j).Rec (nth b j).Rec (ha2 _ (zAc (by omega))) (hb2 _ (zAc (by omega)))
   try refine sb ?_;try exact ⟨⟩
   repeat' (first|(refine qz ?_ ?_<;>intro h)|refine qy ?_|refine qo ?_|refine cq (c1) ?_|(with_reducible apply jn)|refine qu ?_ ?_|exact qj|refine qw ?_|fail)
   all_goals first|omega|exact ⟨(),rfl,zAa hI (by simp_all [zDp])⟩|(rw [zAm hlt (by simp_all [zDp])];done)
  ·try simp (disch:=omega) only [go_sem,hE,hH,h]
   simp only [nf] at h
   rw [show j=n by omega] at hI
   rw [hI]
   repeat' (first|(refine qz ?_ ?_<;>intro h)|refine qy ?_|(with_reducible apply jn)|refine qu ?_ ?_|exact qj|refine qw ?_|fail)
   all_goals first|rfl
 ·have e:zDU a b n=false:=by
   simp only [zDU,Bool.and_eq_false_iff,decide_eq_false_iff_not];omega
  rw [e]
  refine fg H54 fun E hE hH=> ?_
  repeat' (first|(refine qz ?_ ?_<;>intro h)|refine qy ?_|(with_reducible apply jn)|refine qu ?_ ?_|exact qj|refine qw ?_|fail)
  all_goals first|rfl|(exfalso;omega)
def zEc (ws:List Write) (got:List Got) (k:ByteArray):Option (ByteArray×Bool):=
 if fwF ws k=true then some ((nth ws (fwI ws k)).Val, !(nth ws (fwI ws k)).Gone) else (got.find? fun g=>decide (g.Key=k)).map fun g=>(g.Val,g.There)
def zFH:Option (ByteArray×Bool)→T
 |some q=> .tup [str q.1,bl q.2,bl true]
 |none=> .tup [str ⟨⟨[]⟩⟩,bl false,bl false]
structure wsI (n:Nat) (ws:List Write):Prop where
 len:ws.length≤n
 srt:zCm ws
 sml:∀ w∈ws,w.Key.size≤100∧w.Val.size≤100
 gon:∀ w∈ws,w.Gone=true→w.Val=⟨⟨[]⟩⟩
theorem zAbh:wsI 0 []:=⟨Nat.le_refl _,fun i j _ h=>absurd h (Nat.not_lt_zero _),fun w h=>absurd h List.not_mem_nil,fun w h=>absurd h List.not_mem_nil⟩
theorem zOV {n:Nat} {ws:List Write} {w:Write} (h:wsI n ws) (h1:w.Key.size≤100∧w.Val.size≤100) (h2:w.Gone=true→w.Val=⟨⟨[]⟩⟩):wsI (n+1) (zDc ws w):=by
 have h3:=zZl ws w
 have h4:=zXs (ws:=[w]) h.srt
 refine ⟨by have:=h.len;omega,h4,fun x hx=> ?_,fun x hx=> ?_⟩
 ·rcases zRO hx with rfl|q
  ·exact h1
  ·exact h.sml x q
 ·rcases zRO hx with rfl|q
  ·exact h2
  ·exact h.gon x q
theorem wsI.mono {n m:Nat} {ws:List Write} (h:wsI n ws) (hm:n≤m):wsI m ws:=⟨Nat.le_trans h.len hm,h.srt,h.sml,h.gon⟩
theorem zAbi {got:List Got} (h:zAK got=true) {g:Got} (hg:g∈got):g.Key.size≤12∧g.Val.size≤24∧(g.There=false→g.Val=⟨⟨[]⟩⟩):=by
 simp only [zAK,Bool.and_eq_true] at h
 obtain ⟨i,hi,rfl⟩:=List.getElem_of_mem hg
 have h1:=zAs.1 h.1 i hi
 rw [zAN hi] at h1
 simp only [Bool.and_eq_true,zAW,rng,decide_eq_true_eq,stored,zCO] at h1
 have h2:=h1.1.1.1
 have h3:=h1.1.2
 refine ⟨by omega,by omega,fun e=> ?_⟩
 have h4:=h3.2
 rw [e] at h4
 simpa using h4
theorem zDV {got:List Got} (h:zAK got=true):got.length≤8:=by
 simp only [zAK,Bool.and_eq_true,decide_eq_true_eq] at h;omega
theorem zOW {n:Nat} {ws:List Write} {got:List Got} {k v:ByteArray} {b:Bool} (h:wsI n ws) (hg:zAK got=true) (e:zEc ws got k=some (v,b)):v.size≤100∧(b=false→v=⟨⟨[]⟩⟩):=by
 rw [zEc] at e
 split at e
 ·rename_i hf
  have hi:=((zK7 h.srt).1 hf).1
  injection e with e
  injection e with e1 e2
  subst e1 e2
  refine ⟨(h.sml _ (zAc hi)).2,fun q=>h.gon _ (zAc hi) (by simpa using q)⟩
 ·obtain ⟨g,h1,h2⟩:=Option.map_eq_some_iff.1 e
  have h3:=zAbi hg (List.mem_of_find?_eq_some h1)
  injection h2 with e1 e2
  subst e1 e2
  exact ⟨by omega,h3.2.2⟩
theorem zJj:zB4 ⟨⟨[]⟩⟩=none:=by decide
def zDg (o:Op) (v:ByteArray) (th:Bool):Bool:=
 if o.Kind=4 then !th||((zB4 v).isSome&&rng ((zB4 v).getD 0+o.By) (-999999) 999999)
 else if o.Kind=5 then th&&(zB4 v).isSome&&decide (o.By≤(zB4 v).getD 0)
 else if o.Kind=6 then !th
 else if o.Kind=7 then th&&decide (v=o.Val)
 else true
def zFb (v:Int):ByteArray:=⟨⟨if v<0 then 45::dgt (-v).toNat else dgt v.toNat⟩⟩
theorem zZK (v:Int):(zFb v).size≤21:=by
 show (if v<0 then 45::dgt (-v).toNat else dgt v.toNat).length≤21
 split
 ·have:=(zHk 20 (-v).toNat (by omega)).2
  rw [List.length_cons];rw [dgt];omega
 ·have:=(zHk 20 v.toNat (by omega)).2
  rw [dgt];omega
def zDE (got:List Got) (o:Op) (ws:List Write):(Int×ByteArray) ⊕ List Write:=
 if o.Kind=2 then .inr (zDc ws ⟨o.Key,o.Val,false⟩)
 else if o.Kind=3 then .inr (zDc ws ⟨o.Key,⟨⟨[]⟩⟩,true⟩)
 else match zEc ws got o.Key with
  |none=> .inl (1,o.Key)
  |some q=>if zDg o q.1 q.2=true then (if o.Kind=4 then .inr (zDc ws ⟨o.Key,zFb ((zB4 q.1).getD 0+o.By),false⟩) else .inr ws) else .inl (2,⟨⟨[]⟩⟩)
def zCE (got:List Got) (l:List Op):(Int×ByteArray) ⊕ List Write:=l.foldl (fun s o=>match s with| .inl e=> .inl e| .inr ws=>zDE got o ws) (.inr [])
theorem zJk {got:List Got} {l:List Op} {j:Nat} (hj:j<l.length) {ws:List Write} (h:zCE got (l.take j)= .inr ws):zCE got (l.take (j+1))=zDE got (nth l j) ws:=by
 rw [zCE,zNe hj, ←zCE,h]
theorem run_end {got:List Got} {l:List Op} {j:Nat} (hj:j<l.length) {ws:List Write} {e:Int×ByteArray} (h:zCE got (l.take j)= .inr ws) (h2:zDE got (nth l j) ws= .inl e):zCE got l= .inl e:=by
 have h3:=zJk hj h
 rw [h2] at h3
 have key:∀ m:List Op,m.foldl (fun s o=>match s with| .inl e=> .inl e| .inr ws=>zDE got o ws) (.inl e:(Int×ByteArray) ⊕ List Write)= .inl e:=by
  intro m
  induction m with
  |nil=>rfl
  |cons a m ih=>exact ih
 rw [←List.take_append_drop (j+1) l,zCE,List.foldl_append, ←zCE,h3]
 exact key _
def stepT:(Int×ByteArray) ⊕ List Write→T
 | .inl e=> .tup [i64 e.1,str e.2, .sl true 3 []]
 | .inr ws=> .tup [i64 3,str ⟨⟨[]⟩⟩, .sl true 3 (ws.map (Write.row true))]
theorem zMo {l:List Op} (h:zCu l=true) {j:Nat} (hj:j<l.length):1≤(nth l j).Kind∧(nth l j).Kind≤7∧(nth l j).Key.size≤12∧(nth l j).Val.size≤24∧ -9999≤(nth l j).By∧(nth l j).By≤9999:=by
 simp only [zCu,Bool.and_eq_true] at h
 have h1:=List.all_eq_true.1 h.2 _ (zAc hj)
 simp only [zE0,Bool.and_eq_true,zAW,zCO,rng,decide_eq_true_eq] at h1
 have h2:=h1.1.1.1.1.1
 have h3:=h1.1.1.1.1.2
 have h4:=h1.1.1.1.2
 have h5:=h1.1.2
 exact ⟨by omega,by omega,by omega,by omega,by omega,by omega⟩
theorem zKM {l:List Op} (h:zCu l=true):l.length≤8:=by
 simp only [zCu,Bool.and_eq_true,decide_eq_true_eq] at h;omega
theorem zAfM {n:Nat} {ws x:List Write} {got:List Got} {o:Op} (h:wsI n ws) (ho:o.Key.size≤12∧o.Val.size≤24) (e:zDE got o ws= .inr x):wsI (n+1) x:=by
 rw [zDE] at e
 split at e
 ·injection e with e;subst e
  exact zOV h ⟨by show o.Key.size≤100;omega,by show o.Val.size≤100;omega⟩ (fun q=>by cases q)
 ·split at e
  ·injection e with e;subst e
   exact zOV h ⟨by show o.Key.size≤100;omega,Nat.zero_le _⟩ (fun _=>rfl)
  ·split at e
   ·cases e
   ·split at e
    ·split at e
     ·injection e with e;subst e
      exact zOV h ⟨by show o.Key.size≤100;omega,Nat.le_trans (zZK _) (by omega)⟩ (fun q=>by cases q)
     ·injection e with e;subst e
      exact h.mono (by omega)
    ·cases e
theorem zV2 {got:List Got} {l:List Op} (h:zCu l=true):∀ j,j≤l.length→∀ ws,zCE got (l.take j)= .inr ws→wsI j ws:=by
 intro j
 induction j with
 |zero=>intro _ ws e;injection e with e;subst e;exact zAbh
 |succ j ih=>
  intro hj ws e
  cases hr:zCE got (l.take j) with
  |inl q=>
   exfalso
   rw [zCE,zNe (by omega), ←zCE,hr] at e
   cases e
  |inr y=>
   rw [zJk (by omega) hr] at e
   have:=zMo h (show j<l.length by omega)
   exact zAfM (ih (by omega) y hr) ⟨this.2.2.1,this.2.2.2.1⟩ e
abbrev zID:Prop:=∀ v:Int, -999999≤v→v≤999999→ACall p_ 194 [i64 v] (fun r _=>r=str (zFb v))
theorem zNy {α:Type} [Inhabited α] {p:α→Bool} {l:List α} {j:Nat} (hj:j<l.length) (h:zAg (fun i=> !p (nth l i)) j=true) (h2:p (nth l j)=true):l.find? p=some (nth l j):=by
 rw [zAN hj] at h2
 rw [List.find?_eq_some_iff_getElem,zAN hj]
 refine ⟨h2,j,hj,rfl,fun i hi=> ?_⟩
 have:=zAs.1 h i hi
 rwa [zAN (by omega)] at this
theorem zUp {α:Type} [Inhabited α] {p:α→Bool} {l:List α} (h:zAg (fun i=> !p (nth l i)) l.length=true):l.find? p=none:=by
 rw [List.find?_eq_none]
 intro x hx
 obtain ⟨i,hi,rfl⟩:=List.getElem_of_mem hx
 have:=zAs.1 h i hi
 rw [zAN hi] at this
 simpa using this
theorem zV3 (k:ByteArray) (ws:List Write) (got:List Got) (hl:ws.length≤2^20) (hs:zCm ws) (hg:got.length≤2^20):ACall p_ 191 [str k, .sl false 3 (ws.map (Write.row false)), .sl false 3 (got.map (Got.row false))] (fun r _=>r=zFH (zEc ws got k)):=by
 have hmx:=zAd
 have cF:=zEX ws k (by omega) hs
 cases hf:fwF ws k with
 |true=>
  obtain ⟨h1, -⟩:=(zK7 hs).1 hf
  rw [hf] at cF
  have e:zEc ws got k=some ((nth ws (fwI ws k)).Val, !(nth ws (fwI ws k)).Gone):=by rw [zEc,if_pos hf]
  rw [e,zFH]
  refine fg H191 fun E hE hH=> ?_
  repeat' (first|(refine qz ?_ ?_<;>intro h)|refine qy ?_|refine qo ?_|refine cq (cF) ?_|(with_reducible apply jn)|refine qu ?_ ?_|exact qj|refine qw ?_|fail)
  all_goals first|rfl|omega
 |false=>
  rw [hf] at cF
  have e:zEc ws got k=(got.find? fun g=>decide (g.Key=k)).map fun g=>(g.Val,g.There):=by rw [zEc,if_neg (by rw [hf];decide)]
  rw [e]
  refine fg H191 fun E hE hH=> ?_
  repeat' (first|(refine qz ?_ ?_<;>intro h)|refine qy ?_|refine qo ?_|refine cq (cF) ?_|(with_reducible apply jn)|refine qu ?_ ?_|exact qj|refine qw ?_|fail)
  refine zAi got.length (fun j (_:Unit)=>⟨[(0,str k),(31, .sl false 3 (got.map (Got.row false))),(32,i64 got.length),(33,i64 j)],[]⟩) (fun j _=>zAg (fun i=> !decide ((nth got i).Key=k)) j=true) () rfl ?_
  intro j _ hj hI
  try simp only [go_sem,hE,hH,zTL]
  refine gG (fun h=> ?_) (fun h=> ?_)
  ·have hb:=h
   simp only [nf] at h
   have hlt:j<got.length:=by omega
   clear h
   have hfd:(nth got j).Key=k→(got.find? fun g=>decide (g.Key=k))=some (nth got j):=fun e=>zNy (p:=fun g:Got=>decide (g.Key=k)) hlt hI (decide_eq_true e)
   try refine sb ?_;try exact ⟨⟩
   repeat' (first|(refine qz ?_ ?_<;>intro h)|refine qy ?_|(with_reducible apply jn)|refine qu ?_ ?_|exact qj|refine qw ?_|fail)
   all_goals first|omega|exact ⟨(),rfl,zAa hI (by simp_all)⟩|(rw [hfd (by assumption)];simp only [Option.map_some,zFH];try simp only [go_sem,hE,hH];done)
  ·try simp (disch:=omega) only [go_sem,hE,hH,h]
   simp only [nf] at h
   rw [show j=got.length by omega] at hI
   rw [zUp (p:=fun g:Got=>decide (g.Key=k)) hI,Option.map_none,zFH]
   repeat' (first|(refine qz ?_ ?_<;>intro h)|refine qy ?_|(with_reducible apply jn)|refine qu ?_ ?_|exact qj|refine qw ?_|fail)
   all_goals first|rfl
theorem zZL (hR:zGi) (o:Op) (v:ByteArray) (th:Bool) (hv:v.size≤100) (hb: -9999≤o.By∧o.By≤9999):ACall p_ 192 [.agg (Op.row false o),str v,bl th] (fun r _=>r=bl (zDg o v th)):=by
 have hmx:=zAd
 have cN:=zLC hR v hv
 have cW:=zA4 ((zB4 v).getD 0+o.By) (-999999) 999999
 have hn:=zUo (b:=v)
 rw [zDg]
 generalize zB4 v=q at*
 generalize rng (q.getD 0+o.By) (-999999) 999999=w at*
 refine fg H192 fun E hE hH=> ?_
 repeat' (first|(refine qz ?_ ?_<;>intro h)|refine qy ?_|refine qo ?_|refine cq (cN) ?_|refine cq (cW) ?_|(with_reducible apply jn)|refine qu ?_ ?_|exact qj|refine qw ?_|fail)
 all_goals first|omega|rfl|(simp_all;done)|(simp_all;omega)
theorem zV4 (hR:zGi) (hI:zID) (l:List Op) (got:List Got) (hl:zCu l=true) (hg:zAK got=true):ACall p_ 146 [.sl false 4 (l.map (Op.row false)), .sl false 3 (got.map (Got.row false))] (fun r _=>r=stepT (zCE got l)):=by
 have hmx:=zAd
 have hln:=zKM hl
 have hgl:=zDV hg
 refine fg H146 fun E hE hH=> ?_
 repeat' (first|(refine qz ?_ ?_<;>intro h)|refine qy ?_|(with_reducible apply jn)|refine qu ?_ ?_|exact qj|refine qw ?_|fail)
 refine zAi l.length (fun j (ws:List Write)=>⟨[(1, .sl false 3 (got.map (Got.row false))),(7, .ref 8000000 0 ws.length),(16, .sl false 4 (l.map (Op.row false))),(17,i64 l.length),(18,i64 j)],[(8000000,⟨3,ws.map (Write.row true)⟩)]⟩) (fun j ws=>zCE got (l.take j)= .inr ws) [] rfl ?_
 intro j ws hj hw
 have hwI:=zV2 hl j hj ws hw
 have hwl:=hwI.len
 try simp only [go_sem,hE,hH,zTC]
 refine gG (fun h=> ?_) (fun h=> ?_)
 ·have hb:=h
  simp only [nf] at h
  have hlt:j<l.length:=by omega
  clear h
  obtain ⟨k1,k2,k3,k4,k5,k6⟩:=zMo hl hlt
  have hnx:=zJk hlt hw
  by_cases h2:(nth l j).Kind=2
  ·have cP:=zH3 ws ⟨(nth l j).Key,(nth l j).Val,false⟩ (by omega) hwI.srt
   rw [zDE,if_pos h2] at hnx
   clear hwI
   try simp (disch:=omega) only [go_sem,hE,hH,h2,hb]
   all_goals (have y1_:=h2;repeat' (first|(refine zBC ?_ ?_<;>intro h)|refine qy ?_|(refine zAP [true,false] ?_;refine zEd ?_;refine cmA (cP) ?_;refine zEd ?_)|(with_reducible apply jn)|refine qu ?_ ?_|exact zCd|refine zBA ?_|fail))
   all_goals first|omega|exact hnx|exact ⟨_,by rfl,hnx⟩
  ·by_cases h3:(nth l j).Kind=3
   ·have cP:=zH3 ws ⟨(nth l j).Key,⟨⟨[]⟩⟩,true⟩ (by omega) hwI.srt
    rw [zDE,if_neg h2,if_pos h3] at hnx
    clear hwI
    try simp (disch:=omega) only [go_sem,hE,hH,h3,hb]
    all_goals (have y1_:=h3;repeat' (first|(refine zBC ?_ ?_<;>intro h)|refine qy ?_|(refine zAP [true,false] ?_;refine zEd ?_;refine cmA (cP) ?_;refine zEd ?_)|(with_reducible apply jn)|refine qu ?_ ?_|exact zCd|refine zBA ?_|fail))
    all_goals first|omega|exact hnx|exact ⟨_,by rfl,hnx⟩
   ·have cC:=zV3 (nth l j).Key ws got (by omega) hwI.srt (by omega)
    rw [zDE,if_neg h2,if_neg h3] at hnx
    have hend:∀ e,zDE got (nth l j) ws= .inl e→zCE got l= .inl e:=fun e=>run_end hlt hw
    rw [zDE,if_neg h2,if_neg h3] at hend
    cases hc:zEc ws got (nth l j).Key with
    |none=>
     rw [hc] at cC hend hnx
     simp only [zFH] at cC
     rw [hend _ rfl,stepT]
     clear hwI hend hnx
     try refine sb ?_;try exact ⟨⟩
     repeat' (first|(refine qz ?_ ?_<;>intro h)|refine qy ?_|refine qo ?_|refine cq (cC) ?_|(with_reducible apply jn)|refine qu ?_ ?_|exact qj|refine qw ?_|fail)
     all_goals first|omega|rfl
    |some q=>
     obtain ⟨v,th⟩:=q
     obtain ⟨hv,hth⟩:=zOW hwI hg hc
     rw [hc] at cC hend hnx
     simp only [zFH] at cC
     have cH:=zZL hR (nth l j) v th (by omega) ⟨k5,k6⟩
     cases hh:zDg (nth l j) v th with
     |false=>
      rw [hh] at cH
      simp only [hh,Bool.false_eq_true,if_false] at hend
      rw [hend _ rfl,stepT]
      clear hwI hend hnx
      try refine sb ?_;try exact ⟨⟩
      repeat' (first|(refine qz ?_ ?_<;>intro h)|refine qy ?_|refine qo ?_|refine cq (cC) ?_|refine cq (cH) ?_|(with_reducible apply jn)|refine qu ?_ ?_|exact qj|refine qw ?_|fail)
      all_goals first|omega|rfl
     |true=>
      rw [hh] at cH
      simp only [hh,if_true] at hnx
      by_cases h4:(nth l j).Kind=4
      ·rw [if_pos h4] at hnx
       have cN:=zLC hR v (by omega)
       have hbd: -999999≤(zB4 v).getD 0+(nth l j).By∧(zB4 v).getD 0+(nth l j).By≤999999:=by
        rw [zDg,if_pos h4] at hh
        cases hq:th with
        |false=>rw [hth hq,zJj,Option.getD_none];omega
        |true=>
         rw [hq] at hh
         simp only [Bool.not_true,Bool.false_or,Bool.and_eq_true,zBl] at hh
         exact hh.2
       have cI:=hI _ hbd.1 hbd.2
       have cP:=zH3 ws ⟨(nth l j).Key,zFb ((zB4 v).getD 0+(nth l j).By),false⟩ (by omega) hwI.srt
       clear hwI hend
       generalize zB4 v=q at*
       try refine sb ?_;try exact ⟨⟩
       repeat' (first|(refine qz ?_ ?_<;>intro h)|refine qy ?_|(refine zAP [true,false] ?_;refine st ?_;refine cmA (cP) ?_;refine st ?_)|refine qo ?_|refine cq (cC) ?_|refine cq (cH) ?_|refine cq (cN) ?_|refine cq (cI) ?_|(with_reducible apply jn)|refine qu ?_ ?_|exact qj|refine qw ?_|fail)
       all_goals first|omega|exact hnx|exact ⟨_,by rfl,hnx⟩
      ·rw [if_neg h4] at hnx
       clear hwI hend
       try refine sb ?_;try exact ⟨⟩
       repeat' (first|(refine qz ?_ ?_<;>intro h)|refine qy ?_|refine qo ?_|refine cq (cC) ?_|refine cq (cH) ?_|(with_reducible apply jn)|refine qu ?_ ?_|exact qj|refine qw ?_|fail)
       all_goals first|omega|exact hnx|exact ⟨_,by rfl,hnx⟩
 ·try simp (disch:=omega) only [go_sem,hE,hH,h]
  simp only [nf] at h
  rw [show j=l.length by omega,List.take_length] at hw
  rw [hw,stepT]
  repeat' (first|(refine qz ?_ ?_<;>intro h)|refine qy ?_|(with_reducible apply jn)|refine qu ?_ ?_|exact qj|refine qw ?_|fail)
  all_goals first|rfl
theorem zS2 (k:ByteArray) (ws:List Write) (got:List Got) (hl:ws.length≤2^20) (hs:zCm ws) (hg:got.length≤2^20):ACall p_ 165 [.sl false 3 (ws.map (Write.row false)), .sl false 3 (got.map (Got.row false)),str k] (fun r _=>r=zFH (zEc ws got k)):=by
 have hmx:=zAd
 generalize hx:zEc ws got k=x
 refine fg H165 fun E hE hH=> ?_
 repeat' (first|(refine qz ?_ ?_<;>intro h)|refine qy ?_|(with_reducible apply jn)|refine qu ?_ ?_|exact qj|refine qw ?_|fail)
 refine zAi ws.length (fun j (_:Unit)=>⟨[(1, .sl false 3 (got.map (Got.row false))),(2,str k),(13, .sl false 3 (ws.map (Write.row false))),(14,i64 ws.length),(15,i64 j)],[]⟩) (fun j _=>zAg (fun i=> !decide ((nth ws i).Key=k)) j=true) () rfl ?_
 intro j _ hj hI
 try simp only [go_sem,hE,hH,zTG]
 refine gG (fun h=> ?_) (fun h=> ?_)
 ·have hb:=h
  simp only [nf] at h
  have hlt:j<ws.length:=by omega
  clear h
  have hfd:(nth ws j).Key=k→x=some ((nth ws j).Val, !(nth ws j).Gone):=fun e=>by
   obtain ⟨h1,h2⟩:=zRP hs hlt e
   rw [←hx,zEc,if_pos h1,h2]
  clear hx
  try refine sb ?_;try exact ⟨⟩
  repeat' (first|(refine qz ?_ ?_<;>intro h)|refine qy ?_|(with_reducible apply jn)|refine qu ?_ ?_|exact qj|refine qw ?_|fail)
  all_goals first|omega|exact ⟨(),rfl,zAa hI (by simp_all)⟩|(rw [hfd (by assumption)];simp only [Option.map_some,zFH];try simp only [go_sem,hE,hH];done)
 ·try simp (disch:=omega) only [go_sem,hE,hH,h]
  simp only [nf] at h
  rw [show j=ws.length by omega] at hI
  have hf:fwF ws k=false:=by
   rw [fwF,List.any_eq_false]
   intro y hy
   rw [zAQ (p:=fun w:Write=> !decide (w.Key=k))] at hI
   simpa using List.all_eq_true.1 hI y hy
  have e:x=(got.find? fun g=>decide (g.Key=k)).map fun g=>(g.Val,g.There):=by rw [←hx,zEc,if_neg (by rw [hf];decide)]
  clear hx
  subst e
  repeat' (first|(refine qz ?_ ?_<;>intro h)|refine qy ?_|(with_reducible apply jn)|refine qu ?_ ?_|exact qj|refine qw ?_|fail)
  refine zAi got.length (fun j (_:Unit)=>⟨[(2,str k),(29, .sl false 3 (got.map (Got.row false))),(30,i64 got.length),(31,i64 j)],[]⟩) (fun j _=>zAg (fun i=> !decide ((nth got i).Key=k)) j=true) () rfl ?_
  intro m _ hm hM
  try simp only [go_sem,hE,hH,zTH]
  refine gG (fun h=> ?_) (fun h=> ?_)
  ·have hb:=h
   simp only [nf] at h
   have hlt:m<got.length:=by omega
   clear h
   have hfd:(nth got m).Key=k→(got.find? fun g=>decide (g.Key=k))=some (nth got m):=fun e=>zNy (p:=fun g:Got=>decide (g.Key=k)) hlt hM (decide_eq_true e)
   try refine sb ?_;try exact ⟨⟩
   repeat' (first|(refine qz ?_ ?_<;>intro h)|refine qy ?_|(with_reducible apply jn)|refine qu ?_ ?_|exact qj|refine qw ?_|fail)
   all_goals first|omega|exact ⟨(),rfl,zAa hM (by simp_all)⟩|(rw [hfd (by assumption)];simp only [Option.map_some,zFH];try simp only [go_sem,hE,hH];done)
  ·try simp (disch:=omega) only [go_sem,hE,hH,h]
   simp only [nf] at h
   rw [show m=got.length by omega] at hM
   rw [zUp (p:=fun g:Got=>decide (g.Key=k)) hM,Option.map_none,zFH]
   repeat' (first|(refine qz ?_ ?_<;>intro h)|refine qy ?_|(with_reducible apply jn)|refine qu ?_ ?_|exact qj|refine qw ?_|fail)
   all_goals first|rfl
theorem zNz (o:Op) (v:ByteArray) (th:Bool) (hv:v.size≤100) (hb: -9999≤o.By∧o.By≤9999):ACall p_ 166 [.agg (Op.row false o),str v,bl th] (fun r _=>r=bl (!zDg o v th)):=by
 have hmx:=zAd
 have cN:=zSb v hv
 have cW:=zBs ((zB4 v).getD 0+o.By) (-999999) 999999
 have hn:=zUo (b:=v)
 rw [zDg,show decide (o.By≤(zB4 v).getD 0)= !decide ((zB4 v).getD 0<o.By) by rw [Bool.eq_iff_iff];simp]
 generalize zB4 v=q at*
 generalize rng (q.getD 0+o.By) (-999999) 999999=w at*
 refine fg H166 fun E hE hH=> ?_
 repeat' (first|(refine qz ?_ ?_<;>intro h)|refine qy ?_|refine qo ?_|refine cq (cN) ?_|refine cq (cW) ?_|(with_reducible apply jn)|refine qu ?_ ?_|exact qj|refine qw ?_|fail)
 all_goals first|omega|rfl|(simp_all;done)|(simp_all;omega)
theorem zXQ (v:Int) (h1: -999999≤v) (h2:v≤999999):ACall p_ 169 [i64 v] (fun r _=>r=str (zFb v)):=by
 have hmx:=zAd
 have h18:(10:Nat)^18=1000000000000000000:=by decide
 by_cases hv:v<0
 ·have c:=zSa (-v).toNat (by omega)
  rw [show (((-v).toNat:Nat):Int)=0-v by omega] at c
  rw [zFb,if_pos hv]
  have hl:(dgt (-v).toNat).length≤20:=(zHk 20 _ (by omega)).2
  generalize dgt (-v).toNat=d at*
  refine fg H169 fun E hE hH=> ?_
  repeat' (first|(refine qz ?_ ?_<;>intro h)|refine qy ?_|refine qo ?_|refine cq (c) ?_|(with_reducible apply jn)|refine qu ?_ ?_|exact qj|refine qw ?_|fail)
  all_goals first|omega|rfl
 ·have c:=zSa v.toNat (by omega)
  rw [show ((v.toNat:Nat):Int)=v by omega] at c
  rw [zFb,if_neg hv]
  generalize dgt v.toNat=d at*
  refine fg H169 fun E hE hH=> ?_
  repeat' (first|(refine qz ?_ ?_<;>intro h)|refine qy ?_|refine qo ?_|refine cq (c) ?_|(with_reducible apply jn)|refine qu ?_ ?_|exact qj|refine qw ?_|fail)
  all_goals first|omega|rfl
theorem zXR (l:List Op) (got:List Got) (hl:zCu l=true) (hg:zAK got=true):ACall p_ 111 [.sl false 4 (l.map (Op.row false)), .sl false 3 (got.map (Got.row false))] (fun r _=>r=stepT (zCE got l)):=by
 have hmx:=zAd
 have hln:=zKM hl
 have hgl:=zDV hg
 refine fg H111 fun E hE hH=> ?_
 repeat' (first|(refine qz ?_ ?_<;>intro h)|refine qy ?_|(with_reducible apply jn)|refine qu ?_ ?_|exact qj|refine qw ?_|fail)
 refine zAi l.length (fun j (ws:List Write)=>⟨[(1, .sl false 3 (got.map (Got.row false))),(7, .ref 8000000 0 ws.length),(15, .sl false 4 (l.map (Op.row false))),(16,i64 l.length),(17,i64 j)],[(8000000,⟨3,ws.map (Write.row true)⟩)]⟩) (fun j ws=>zCE got (l.take j)= .inr ws) [] rfl ?_
 intro j ws hj hw
 have hwI:=zV2 hl j hj ws hw
 have hwl:=hwI.len
 try simp only [go_sem,hE,hH,zTr]
 refine gG (fun h=> ?_) (fun h=> ?_)
 ·have hb:=h
  simp only [nf] at h
  have hlt:j<l.length:=by omega
  clear h
  obtain ⟨k1,k2,k3,k4,k5,k6⟩:=zMo hl hlt
  have hnx:=zJk hlt hw
  have cC:=zS2 (nth l j).Key ws got (by omega) hwI.srt (by omega)
  obtain ⟨v,th,kn,hc,hv⟩:∃ v th kn,zFH (zEc ws got (nth l j).Key)= .tup [str v,bl th,bl kn]∧v.size≤100:=by
   cases hc:zEc ws got (nth l j).Key with
   |none=>exact ⟨⟨⟨[]⟩⟩,false,false,rfl,Nat.zero_le _⟩
   |some q=>exact ⟨q.1,q.2,true,rfl,(zOW (v:=q.1) (b:=q.2) hwI hg hc).1⟩
  have cH:=zNz (nth l j) v th hv ⟨k5,k6⟩
  by_cases h2:(nth l j).Kind=2
  ·have cP:=zKz ws ⟨(nth l j).Key,(nth l j).Val,false⟩ (by omega) hwI.srt
   rw [zDE,if_pos h2] at hnx
   rw [show zDg (nth l j) v th=true by simp [zDg,h2]] at cH
   simp only [Op.row,h2] at cH
   rw [hc] at cC
   clear hwI
   try simp (disch:=omega) only [go_sem,hE,hH,h2,hb]
   all_goals (have y1_:=h2;repeat' (first|(refine zBC ?_ ?_<;>intro h)|refine qy ?_|refine zBX ?_|refine zAF (cC) ?_|refine zAF (cH) ?_|refine zAF (cP) ?_|(with_reducible apply jn)|refine qu ?_ ?_|exact zCd|refine zBA ?_|fail))
   all_goals first|omega|exact hnx|exact ⟨_,by rfl,hnx⟩
  ·by_cases h3:(nth l j).Kind=3
   ·have cP:=zKz ws ⟨(nth l j).Key,⟨⟨[]⟩⟩,true⟩ (by omega) hwI.srt
    rw [zDE,if_neg h2,if_pos h3] at hnx
    rw [show zDg (nth l j) v th=true by simp [zDg,h3]] at cH
    simp only [Op.row,h3] at cH
    rw [hc] at cC
    clear hwI
    try simp (disch:=omega) only [go_sem,hE,hH,h3,hb]
    all_goals (have y1_:=h3;repeat' (first|(refine zBC ?_ ?_<;>intro h)|refine qy ?_|refine zBX ?_|refine zAF (cC) ?_|refine zAF (cH) ?_|refine zAF (cP) ?_|(with_reducible apply jn)|refine qu ?_ ?_|exact zCd|refine zBA ?_|fail))
    all_goals first|omega|exact hnx|exact ⟨_,by rfl,hnx⟩
   ·rw [zDE,if_neg h2,if_neg h3] at hnx
    have hend:∀ e,zDE got (nth l j) ws= .inl e→zCE got l= .inl e:=fun e=>run_end hlt hw
    rw [zDE,if_neg h2,if_neg h3] at hend
    clear hc cH hv v th kn
    cases hc:zEc ws got (nth l j).Key with
    |none=>
     rw [hc] at cC hend hnx
     simp only [zFH] at cC
     rw [hend _ rfl,stepT]
     clear hwI hend hnx
     try refine sb ?_;try exact ⟨⟩
     repeat' (first|(refine qz ?_ ?_<;>intro h)|refine qy ?_|refine qo ?_|refine cq (cC) ?_|(with_reducible apply jn)|refine qu ?_ ?_|exact qj|refine qw ?_|fail)
     all_goals first|omega|rfl
    |some q=>
     obtain ⟨v,th⟩:=q
     obtain ⟨hv,hth⟩:=zOW hwI hg hc
     rw [hc] at cC hend hnx
     simp only [zFH] at cC
     have cH:=zNz (nth l j) v th (by omega) ⟨k5,k6⟩
     cases hh:zDg (nth l j) v th with
     |false=>
      rw [hh] at cH
      simp only [hh,Bool.false_eq_true,if_false] at hend
      rw [hend _ rfl,stepT]
      clear hwI hend hnx
      try refine sb ?_;try exact ⟨⟩
      repeat' (first|(refine qz ?_ ?_<;>intro h)|refine qy ?_|refine qo ?_|refine cq (cC) ?_|refine cq (cH) ?_|(with_reducible apply jn)|refine qu ?_ ?_|exact qj|refine qw ?_|fail)
      all_goals first|omega|rfl
     |true=>
      rw [hh] at cH
      simp only [hh,if_true] at hnx
      by_cases h4:(nth l j).Kind=4
      ·rw [if_pos h4] at hnx
       have cN:=zSb v (by omega)
       have hbd: -999999≤(zB4 v).getD 0+(nth l j).By∧(zB4 v).getD 0+(nth l j).By≤999999:=by
        rw [zDg,if_pos h4] at hh
        cases hq:th with
        |false=>rw [hth hq,zJj,Option.getD_none];omega
        |true=>
         rw [hq] at hh
         simp only [Bool.not_true,Bool.false_or,Bool.and_eq_true,zBl] at hh
         exact hh.2
       have cI:=zXQ _ hbd.1 hbd.2
       have cP:=zKz ws ⟨(nth l j).Key,zFb ((zB4 v).getD 0+(nth l j).By),false⟩ (by omega) hwI.srt
       cases hq:th with
       |false=>
        rw [hth hq,zJj,Option.getD_none] at cI cP hnx
        rw [hth hq,zJj] at cN
        rw [hq,hth hq] at cC cH
        simp only [Op.row,h4] at cH
        clear hwI hend hbd hth
        try simp (disch:=omega) only [go_sem,hE,hH,h4,hb]
        all_goals (have y1_:=h4;repeat' (first|(refine zBC ?_ ?_<;>intro h)|refine qy ?_|refine zBX ?_|refine zAF (cC) ?_|refine zAF (cH) ?_|refine zAF (cN) ?_|refine zAF (cI) ?_|refine zAF (cP) ?_|(with_reducible apply jn)|refine qu ?_ ?_|exact zCd|refine zBA ?_|fail))
        all_goals first|omega|exact hnx|exact ⟨_,by rfl,hnx⟩
       |true=>
        rw [hq] at cC cH
        simp only [Op.row,h4] at cH
        clear hwI hend hth
        generalize zB4 v=q at*
        try simp (disch:=omega) only [go_sem,hE,hH,h4,hb]
        all_goals (have y1_:=h4;repeat' (first|(refine zBC ?_ ?_<;>intro h)|refine qy ?_|refine zBX ?_|refine zAF (cC) ?_|refine zAF (cH) ?_|refine zAF (cN) ?_|refine zAF (cI) ?_|refine zAF (cP) ?_|(with_reducible apply jn)|refine qu ?_ ?_|exact zCd|refine zBA ?_|fail))
        all_goals first|omega|exact hnx|exact ⟨_,by rfl,hnx⟩
      ·rw [if_neg h4] at hnx
       clear hwI hend
       try refine sb ?_;try exact ⟨⟩
       repeat' (first|(refine qz ?_ ?_<;>intro h)|refine qy ?_|refine qo ?_|refine cq (cC) ?_|refine cq (cH) ?_|(with_reducible apply jn)|refine qu ?_ ?_|exact qj|refine qw ?_|fail)
       all_goals first|omega|exact hnx|exact ⟨_,by rfl,hnx⟩
 ·try simp (disch:=omega) only [go_sem,hE,hH,h]
  simp only [nf] at h
  rw [show j=l.length by omega,List.take_length] at hw
  rw [hw,stepT]
  repeat' (first|(refine qz ?_ ?_<;>intro h)|refine qy ?_|(with_reducible apply jn)|refine qu ?_ ?_|exact qj|refine qw ?_|fail)
  all_goals first|rfl
theorem zXS {a b:List ByteArray}:zFF a b=zFF b a:=by
 by_cases h:a.length=b.length
 ·simp only [zFF,h,decide_true,Bool.true_and]
  exact zES fun i _=>by rw [Bool.eq_iff_iff,decide_eq_true_iff,decide_eq_true_iff];exact eq_comm
 ·simp [zFF,h,Ne.symm h]
theorem zXT {a b:Write}:zHp a b=zHp b a:=by
 simp only [zHp,eq_comm (a:=a.Key),eq_comm (a:=a.Val),eq_comm (a:=a.Gone)]
theorem zXU {a b:List Write}:zFG a b=zFG b a:=by
 by_cases h:a.length=b.length
 ·simp only [zFG,h,decide_true,Bool.true_and]
  exact zES fun i _=>zXT
 ·simp [zFG,h,Ne.symm h]
theorem zNA {a b:Entry}:zDp a b=zDp b a:=by
 simp only [zDp,zFa,eq_comm (a:=a.Term),eq_comm (a:=a.Rec.Kind),eq_comm (a:=a.Rec.Txn),eq_comm (a:=a.Rec.Time),eq_comm (a:=a.Rec.Lead),eq_comm (a:=a.Rec.Yes)]
 rw [zXS,zXU]
theorem zKN {l f:List Entry}:zGF l f=true↔f.length≤l.length∧∀ i,i<f.length→zDp (nth l i) (nth f i)=true:=by
 simp only [zGF,zJi,Bool.and_eq_true,decide_eq_true_eq,zAs,List.length_take]
 constructor
 ·rintro ⟨h1,h2,h3⟩
  exact ⟨h1,fun i hi=>by have:=h3 i (by omega);rwa [zBP hi] at this⟩
 ·rintro ⟨h1,h2⟩
  exact ⟨h1,by omega,fun i hi=>by rw [zBP (by omega)];exact h2 i (by omega)⟩
theorem zSf {l o:List Entry} {n:Nat}:zDU l o n=true↔n≤l.length∧n≤o.length∧∀ i,i<n→zDp (nth l i) (nth o i)=true:=by
 simp only [zDU,Bool.and_eq_true,decide_eq_true_eq,zAs,and_assoc]
theorem zXV {a b:List Entry} {m:Nat} (hm:m≤b.length):zGF a (b.take m)=zDU a b m:=by
 have hl:(b.take m).length=m:=by rw [List.length_take];omega
 rw [Bool.eq_iff_iff,zKN,zSf,hl]
 constructor
 ·rintro ⟨h1,h2⟩
  exact ⟨h1,hm,fun i hi=>by have:=h2 i hi;rwa [zBP hi] at this⟩
 ·rintro ⟨h1, -,h2⟩
  exact ⟨h1,fun i hi=>by rw [zBP hi];exact h2 i hi⟩
theorem zXW {a b:List Entry} {n m:Nat} (hn:n≤a.length) (hm:m≤b.length):(zGF (a.take n) (b.take m)||zGF (b.take m) (a.take n))=zDU a b (min n m):=by
 have la:(a.take n).length=n:=by rw [List.length_take];omega
 have lb:(b.take m).length=m:=by rw [List.length_take];omega
 rw [Bool.eq_iff_iff,Bool.or_eq_true,zKN,zKN,zSf,la,lb]
 constructor
 ·rintro (⟨h1,h2⟩|⟨h1,h2⟩)
  ·exact ⟨by omega,by omega,fun i hi=>by have:=h2 i (by omega);rwa [zBP (by omega),zBP (by omega)] at this⟩
  ·exact ⟨by omega,by omega,fun i hi=>by have:=h2 i (by omega);rwa [zBP (by omega),zBP (by omega),zNA] at this⟩
 ·rintro ⟨h1,h2,h3⟩
  rcases Nat.le_total m n with h|h
  ·exact .inl ⟨h,fun i hi=>by rw [zBP (by omega),zBP (by omega)];exact h3 i (by omega)⟩
  ·exact .inr ⟨h,fun i hi=>by rw [zBP (by omega),zBP (by omega),zNA];exact h3 i (by omega)⟩
def safe2 (a b:Replica):Bool:=zDU a.Log b.Log (min a.Sure.toNat b.Sure.toNat)
def zDq (g:Group) (i:Nat):Bool:=zAg (fun k=>safe2 (nth g.Reps i) (nth g.Reps k)) g.Reps.length&&(decide (g.Lead<0)||zDU (nth g.Reps g.Lead.toNat).Log (nth g.Reps i).Log (nth g.Reps i).Sure.toNat)
def zCW (g:Group):Bool:=zAg (zDq g) g.Reps.length
theorem zAbj {r:Rec} (h:zA7 r=true):zKK r:=by
 unfold zA7 at h
 split at h
 ·simp only [Bool.and_eq_true,decide_eq_true_eq] at h
  obtain ⟨⟨⟨⟨⟨-,h1⟩,h2⟩, -⟩, -⟩, -⟩:=h
  exact ⟨by have:=h1.2;omega,by omega⟩
 ·split at h
  ·simp only [zFT,Bool.and_eq_true,decide_eq_true_eq] at h
   obtain ⟨⟨⟨⟨-,h1⟩,h2⟩, -⟩, -⟩:=h
   exact ⟨by omega,by omega⟩
  ·split at h
   ·simp only [zFT,Bool.and_eq_true,decide_eq_true_eq] at h
    obtain ⟨⟨⟨⟨⟨-,h1⟩,h2⟩, -⟩, -⟩, -⟩:=h
    exact ⟨by omega,by omega⟩
   ·cases h
theorem zIE {r:Replica} (h:repG r):zJh r.Log:=⟨by have:=h.len;omega,fun e he=>zAbj (h.good e he)⟩
theorem zGj {l:List Entry} {n:Nat} (h:zJh l):zJh (l.take n):=⟨by have:=h.1;rw [List.length_take];omega,fun e he=>h.2 e (List.mem_of_mem_take he)⟩
theorem zNB {g:Group} (h:zBy g=true):g.Lead<0∨(0≤g.Lead∧g.Lead.toNat<g.Reps.length):=by
 simp only [zBy,zDb,Bool.and_eq_true,Bool.or_eq_true,decide_eq_true_eq,zBl] at h
 rcases h.1.2 with h1|h1
 ·left;omega
 ·right;omega
theorem zPV {g:Group} {i k:Nat} (hi:i<g.Reps.length) (hk:k<g.Reps.length) (h:safe2 (nth g.Reps i) (nth g.Reps k)=false):zCW g=false:=by
 rw [zCW,zAm hi (by rw [zDq,zAm hk h];rfl)]
theorem zPW {g:Group} {i:Nat} (hi:i<g.Reps.length) (h0:¬ g.Lead<0) (h:zDU (nth g.Reps g.Lead.toNat).Log (nth g.Reps i).Log (nth g.Reps i).Sure.toNat=false):zCW g=false:=by
 rw [zCW,zAm hi (by rw [zDq,h,decide_eq_false h0];simp)]
theorem zXX (g:Group) (hw:zOz g) (hg:zBy g=true):ACall p_ 30 [.agg (Group.row false g)] (fun r _=>r=bl (zCW g)):=by
 have hmx:=zAd
 obtain ⟨h3,h5,hr⟩:=zIB hg
 have hld:=zNB hg
 have cG:=zKy g hw
 rw [hg] at cG
 have hR:∀ i,i<g.Reps.length→repG (nth g.Reps i):=fun i hi=>hr _ (zAc hi)
 clear hr hw hg
 refine fg H30 fun E hE hH=> ?_
 repeat' (first|(refine qz ?_ ?_<;>intro h)|refine qy ?_|refine qo ?_|refine cq (cG) ?_|(with_reducible apply jn)|refine qu ?_ ?_|exact qj|refine qw ?_|fail)
 refine zAi g.Reps.length (fun j (_:Unit)=>⟨[(1, .ptr 2000000 0 0),(11, .sl false 3 (g.Reps.map (Replica.row false))),(12,i64 g.Reps.length),(13,i64 j)],[(2000000,⟨3,[Group.row false g]⟩)]⟩) (fun j _=>zAg (zDq g) j=true) () rfl ?_
 intro j _ hj hI
 try simp only [go_sem,hE,hH,zWY]
 refine gG (fun h=> ?_) (fun h=> ?_)
 ·have hb:=h
  simp only [nf] at h
  have hlt:j<g.Reps.length:=by omega
  clear h
  have ra:=hR j hlt
  have cA:=zOB _ ra.s0 ra.s1
  have lA:=zIE ra
  try refine sb ?_;try exact ⟨⟩
  repeat' (first|(refine qz ?_ ?_<;>intro h)|refine qy ?_|(with_reducible apply jn)|refine qu ?_ ?_|exact qj|refine qw ?_|fail)
  refine zAi g.Reps.length (fun k (_:Unit)=>⟨[(1, .ptr 2000000 0 0),(4, .ptr 5000000 0 0),(11, .sl false 3 (g.Reps.map (Replica.row false))),(12,i64 g.Reps.length),(13,i64 j),(18, .sl false 3 (g.Reps.map (Replica.row false))),(19,i64 g.Reps.length),(20,i64 k)],[(2000000,⟨3,[Group.row false g]⟩),(5000000,⟨3,[Replica.row false (nth g.Reps j)]⟩)]⟩) (fun k _=>zAg (fun k=>safe2 (nth g.Reps j) (nth g.Reps k)) k=true) () rfl ?_
  intro k _ hk hK
  try simp only [go_sem,hE,hH,zWX]
  refine gG (fun h=> ?_) (fun h=> ?_)
  ·have hb:=h
   simp only [nf] at h
   have hlk:k<g.Reps.length:=by omega
   clear h
   have rb:=hR k hlk
   have cB:=zOB _ rb.s0 rb.s1
   have lB:=zIE rb
   have c1:=zHq _ _ (zGj (n:=(nth g.Reps j).Sure.toNat) lA) (zGj (n:=(nth g.Reps k).Sure.toNat) lB)
   have c2:=zHq _ _ (zGj (n:=(nth g.Reps k).Sure.toNat) lB) (zGj (n:=(nth g.Reps j).Sure.toNat) lA)
   have hp:=zXW (a:=(nth g.Reps j).Log) (b:=(nth g.Reps k).Log) (n:=(nth g.Reps j).Sure.toNat) (m:=(nth g.Reps k).Sure.toNat) (by have:=ra.s1;omega) (by have:=rb.s1;omega)
   have hno:=zPV hlt hlk
   have hst:=zAa (p:=fun k=>safe2 (nth g.Reps j) (nth g.Reps k)) hK
   simp only [safe2] at hno hst
   rw [←hp] at hno hst
   clear hp
   generalize zGF ((nth g.Reps j).Log.take (nth g.Reps j).Sure.toNat) ((nth g.Reps k).Log.take (nth g.Reps k).Sure.toNat)=q1 at*
   generalize zGF ((nth g.Reps k).Log.take (nth g.Reps k).Sure.toNat) ((nth g.Reps j).Log.take (nth g.Reps j).Sure.toNat)=q2 at*
   try refine sb ?_;try exact ⟨⟩
   repeat' (first|(refine qz ?_ ?_<;>intro h)|refine qy ?_|refine qo ?_|refine cq (cA) ?_|refine cq (cB) ?_|refine cq (c1) ?_|refine cq (c2) ?_|(with_reducible apply jn)|refine qu ?_ ?_|exact qj|refine qw ?_|fail)
   all_goals first|omega|exact ⟨(),rfl,hst (by simp_all)⟩|(rw [hno (by simp_all)];done)
  ·try simp (disch:=omega) only [go_sem,hE,hH,h]
   simp only [nf] at h
   rw [show k=g.Reps.length by omega] at hK
   clear h
   by_cases h0:g.Lead<0
   ·have hst:=zAa (p:=zDq g) hI (by rw [zDq,hK,decide_eq_true h0];rfl)
    repeat' (first|(refine qz ?_ ?_<;>intro h)|refine qy ?_|(with_reducible apply jn)|refine qu ?_ ?_|exact qj|refine qw ?_|fail)
    all_goals first|omega|exact ⟨(),rfl,hst⟩
   ·obtain ⟨i0,i1⟩:=hld.resolve_left h0
    have cP:=zHq _ _ (zIE (hR _ i1)) (zGj (n:=(nth g.Reps j).Sure.toNat) lA)
    rw [zXV (by have:=ra.s1;omega)] at cP
    have hno:=zPW hlt h0
    have hst:zDU (nth g.Reps g.Lead.toNat).Log (nth g.Reps j).Log (nth g.Reps j).Sure.toNat=true→zAg (zDq g) (j+1)=true:=fun e=>zAa (p:=zDq g) hI (by rw [zDq,hK,e];simp)
    generalize zDU (nth g.Reps g.Lead.toNat).Log (nth g.Reps j).Log (nth g.Reps j).Sure.toNat=q at*
    repeat' (first|(refine qz ?_ ?_<;>intro h)|refine qy ?_|refine qo ?_|refine cq (cA) ?_|refine cq (cP) ?_|(with_reducible apply jn)|refine qu ?_ ?_|exact qj|refine qw ?_|fail)
    all_goals first|omega|exact ⟨(),rfl,hst (by simp_all)⟩|(rw [hno (by simp_all)];done)
 ·try simp (disch:=omega) only [go_sem,hE,hH,h]
  simp only [nf] at h
  rw [show j=g.Reps.length by omega] at hI
  rw [show zCW g=true from hI]
  repeat' (first|(refine qz ?_ ?_<;>intro h)|refine qy ?_|(with_reducible apply jn)|refine qu ?_ ?_|exact qj|refine qw ?_|fail)
  all_goals first|rfl
theorem zV5 (g:Group) (hw:zOz g) (hg:zBy g=true):ACall p_ 17 [.agg (Group.row false g)] (fun r _=>r=bl (zCW g)):=by
 have hmx:=zAd
 obtain ⟨h3,h5,hr⟩:=zIB hg
 have hld:=zNB hg
 have cG:=zJB g hw
 rw [hg] at cG
 have hR:∀ i,i<g.Reps.length→repG (nth g.Reps i):=fun i hi=>hr _ (zAc hi)
 clear hr hw hg
 refine fg H17 fun E hE hH=> ?_
 repeat' (first|(refine qz ?_ ?_<;>intro h)|refine qy ?_|refine qo ?_|refine cq (cG) ?_|(with_reducible apply jn)|refine qu ?_ ?_|exact qj|refine qw ?_|fail)
 refine zAi g.Reps.length (fun j (_:Unit)=>⟨[(1, .ptr 2000000 0 0),(3,i64 j)],[(2000000,⟨3,[Group.row false g]⟩)]⟩) (fun j _=>zAg (zDq g) j=true) () rfl ?_
 intro j _ hj hI
 try simp only [go_sem,hE,hH,zWO]
 refine gG (fun h=> ?_) (fun h=> ?_)
 ·have hb:=h
  simp only [nf] at h
  have hlt:j<g.Reps.length:=by omega
  clear h
  have ra:=hR j hlt
  have lA:=zIE ra
  have sa:(nth g.Reps j).Sure=((nth g.Reps j).Sure.toNat:Nat):=by have:=ra.s0;omega
  try refine sb ?_;try exact ⟨⟩
  repeat' (first|(refine qz ?_ ?_<;>intro h)|refine qy ?_|(with_reducible apply jn)|refine qu ?_ ?_|exact qj|refine qw ?_|fail)
  refine zAi g.Reps.length (fun k (_:Unit)=>⟨[(1, .ptr 2000000 0 0),(3,i64 j),(4, .ptr 5000000 0 0),(5,i64 k)],[(2000000,⟨3,[Group.row false g]⟩),(5000000,⟨3,[Replica.row false (nth g.Reps j)]⟩)]⟩) (fun k _=>zAg (fun k=>safe2 (nth g.Reps j) (nth g.Reps k)) k=true) () rfl ?_
  intro k _ hk hK
  try simp only [go_sem,hE,hH,zWN]
  refine gG (fun h=> ?_) (fun h=> ?_)
  ·have hb:=h
   simp only [nf] at h
   have hlk:k<g.Reps.length:=by omega
   clear h
   have rb:=hR k hlk
   have lB:=zIE rb
   have sb:(nth g.Reps k).Sure=((nth g.Reps k).Sure.toNat:Nat):=by have:=rb.s0;omega
   have cL:=zVs (nth g.Reps j).Sure (nth g.Reps k).Sure
   rw [show (if (nth g.Reps j).Sure<(nth g.Reps k).Sure then (nth g.Reps j).Sure else (nth g.Reps k).Sure)=((min (nth g.Reps j).Sure.toNat (nth g.Reps k).Sure.toNat:Nat):Int) by split<;>omega] at cL
   clear sa sb
   have c1:=zLF (nth g.Reps j).Log (nth g.Reps k).Log (min (nth g.Reps j).Sure.toNat (nth g.Reps k).Sure.toNat) lA lB (by have:=ra.len;have:=ra.s1;omega)
   have hno:=zPV hlt hlk
   have hst:=zAa (p:=fun k=>safe2 (nth g.Reps j) (nth g.Reps k)) hK
   simp only [safe2] at hno hst
   generalize zDU (nth g.Reps j).Log (nth g.Reps k).Log (min (nth g.Reps j).Sure.toNat (nth g.Reps k).Sure.toNat)=q1 at*
   generalize min (nth g.Reps j).Sure.toNat (nth g.Reps k).Sure.toNat=m at*
   try refine sb ?_;try exact ⟨⟩
   repeat' (first|(refine qz ?_ ?_<;>intro h)|refine qy ?_|refine qo ?_|refine cq (cL) ?_|refine cq (c1) ?_|(with_reducible apply jn)|refine qu ?_ ?_|exact qj|refine qw ?_|fail)
   all_goals first|omega|exact ⟨(),rfl,hst (by simp_all)⟩|(rw [hno (by simp_all)];done)
  ·try simp (disch:=omega) only [go_sem,hE,hH,h]
   simp only [nf] at h
   rw [show k=g.Reps.length by omega] at hK
   clear h
   by_cases h0:g.Lead<0
   ·have hst:=zAa (p:=zDq g) hI (by rw [zDq,hK,decide_eq_true h0];rfl)
    repeat' (first|(refine qz ?_ ?_<;>intro h)|refine qy ?_|(with_reducible apply jn)|refine qu ?_ ?_|exact qj|refine qw ?_|fail)
    all_goals first|omega|exact ⟨(),rfl,hst⟩
   ·obtain ⟨i0,i1⟩:=hld.resolve_left h0
    have cP:=zLF (nth g.Reps g.Lead.toNat).Log (nth g.Reps j).Log (nth g.Reps j).Sure.toNat (zIE (hR _ i1)) lA (by have:=ra.len;have:=ra.s1;omega)
    rw [←sa] at cP
    clear sa
    have hno:=zPW hlt h0
    have hst:zDU (nth g.Reps g.Lead.toNat).Log (nth g.Reps j).Log (nth g.Reps j).Sure.toNat=true→zAg (zDq g) (j+1)=true:=fun e=>zAa (p:=zDq g) hI (by rw [zDq,hK,e];simp)
    generalize zDU (nth g.Reps g.Lead.toNat).Log (nth g.Reps j).Log (nth g.Reps j).Sure.toNat=q at*
    repeat' (first|(refine qz ?_ ?_<;>intro h)|refine qy ?_|refine qo ?_|refine cq (cP) ?_|(with_reducible apply jn)|refine qu ?_ ?_|exact qj|refine qw ?_|fail)
    all_goals first|omega|exact ⟨(),rfl,hst (by simp_all)⟩|(rw [hno (by simp_all)];done)
 ·try simp (disch:=omega) only [go_sem,hE,hH,h]
  simp only [nf] at h
  rw [show j=g.Reps.length by omega] at hI
  rw [show zCW g=true from hI]
  repeat' (first|(refine qz ?_ ?_<;>intro h)|refine qy ?_|(with_reducible apply jn)|refine qu ?_ ?_|exact qj|refine qw ?_|fail)
  all_goals first|rfl
def zBq (L:List State) (t:Int):List Told:=L.filterMap fun s=>zBL s t
def zSg (L:List State) (t:Int):List Told:=(zBq L t).filter (·.Yes)
def zDI (l:List Told):Bool:=l.any fun x=> !decide (x=nth l 0)
def zD5 (L:List State) (t p:Int):Bool:=(zBL (nth L p.toNat) t).isSome
def zQw (L:List State) (t p:Int):Bool:=zD5 L t p&&((zBL (nth L p.toNat) t).getD zCh).Yes
def zFI (L:List State) (t p:Int):Bool:=hF (nth L p.toNat).Held t
def zDC (L:List State) (t:Int) (ps:List Int) (i:Nat):Bool:=zQw L t (nth ps i)||(!decide (i=0)&&zFI L t (nth ps i))
def zA8 (t:WorldTxn):List ByteArray:=t.Got.map (·.Key)
def zBr (t:WorldTxn):List Write:=match zCE t.Got t.Ops with
 | .inl _=>[]
 | .inr ws=>ws
def zJl (t:WorldTxn):Bool:=match zCE t.Got t.Ops with
 | .inl _=>false
 | .inr _=>true
def zBj (w:World) (t:WorldTxn):List Int:=zDf w.Cuts (zA8 t) (zBr t)
def zKO (w:World) (L:List State) (t:WorldTxn):Bool:=decide (t.Time<w.Now)&&decide (zBz w.Cuts L t.Got (t.Time-1)=t.Got)
def zCX (w:World) (L:List State) (k:Nat):Bool:=
 !zDI (zBq L (k+1))&&(!((nth w.Txns k).Put&&zJl (nth w.Txns k)&&decide (0<((zSg L (k+1)).length:Int)))||zAg (zDC L (k+1) (zBj w (nth w.Txns k))) (zBj w (nth w.Txns k)).length)&&((decide ((nth w.Txns k).End<0)|| !(nth w.Txns k).Yes)||((zSg L (k+1)).any (fun x=>decide (x.Time=(nth w.Txns k).Time))&&zKO w L (nth w.Txns k)))
def zNC (L:List State) (t:Int) (ps:List Int):Bool:=zD5 L t (nth ps 0)&&zAg (fun i=>zD5 L t (nth ps i)||zFI L t (nth ps i)) ps.length
def zEG (t:WorldTxn):Bool:=zJl t&&decide (0<((zA8 t).length:Int)+(zBr t).length)
def zND (w:World) (L:List State) (k:Nat):Bool:=
 !zDI (zBq L (k+1))&&(!((nth w.Txns k).Put&&zEG (nth w.Txns k)&&(decide (0<((zBq L (k+1)).length:Int))&&(nth (zBq L (k+1)) 0).Yes))||zNC L (k+1) (zBj w (nth w.Txns k)))&&((decide ((nth w.Txns k).End<0)|| !(nth w.Txns k).Yes)||((decide (0<((zBq L (k+1)).length:Int))&&decide (nth (zBq L (k+1)) 0=⟨k+1,true,(nth w.Txns k).Time⟩))&&zKO w L (nth w.Txns k)))
theorem zZM {s:State} {t:Int} {x:Told} (h:zAO ltI Told.Txn s.Told) (e:zBL s t=some x):x.Txn=t:=by
 rw [zBL] at e
 split at e
 ·rename_i hf
  injection e with e
  rw [←e]
  exact (zDl zBK h hf).2
 ·cases e
theorem zNE {L:List State} {t:Int} {j:Nat} (hj:j<L.length):zBq (L.take (j+1)) t=zBq (L.take j) t++(zBL (nth L j) t).toList:=by
 rw [zBq,zAw hj,List.filterMap_append, ←zBq]
 congr 1
theorem zZN {l:List Told} (h:zDI l=false) {x:Told} (hx:x∈l):x=nth l 0:=by
 rw [zDI,List.any_eq_false] at h
 have:=h x hx
 simpa using this
theorem zXY {w:World} {L:List State} {k:Nat} (hs:∀ s∈L,zAO ltI Told.Txn s.Told) (hp:∀ p∈zBj w (nth w.Txns k),p.toNat<L.length):zND w L k=zCX w L k:=by
 rw [zND,zCX]
 cases hd:zDI (zBq L (k+1)) with
 |true=>simp
 |false=>
  have hall:=fun x hx=>zZN (x:=x) hd hx
  have htx:∀ x∈zBq L (k+1),x.Txn=k+1:=fun x hx=>by
   obtain ⟨s,h1,h2⟩:=List.mem_filterMap.1 hx
   exact zZM (hs s h1) h2
  have hat:∀ p,p.toNat<L.length→zD5 L (k+1) p=true→((zBL (nth L p.toNat) (k+1)).getD zCh)∈zBq L (k+1):=by
   intro p h1 h2
   rw [zD5] at h2
   obtain ⟨x,hx⟩:=Option.isSome_iff_exists.1 h2
   rw [hx,Option.getD_some]
   exact List.mem_filterMap.2 ⟨_,zAc h1,hx⟩
  generalize ht:nth w.Txns k=t at*
  rw [zSg]
  generalize zBq L (k+1)=O at*
  clear hd
  rcases O with _|⟨x0,O⟩
  ·simp
  ·have e0:nth (x0::O) 0=x0:=rfl
   have hall:∀ x,x∈x0::O→x=x0:=hall
   rw [e0]
   have h0t:=htx x0 List.mem_cons_self
   have hlen:decide (0<(((x0::O).length:Nat):Int))=true:=decide_eq_true (by rw [List.length_cons];omega)
   rw [hlen]
   cases hy:x0.Yes with
   |false=>
    have hf:(x0::O).filter (·.Yes)=[]:=by
     rw [List.filter_eq_nil_iff]
     intro x hx
     rw [hall x hx,hy];simp
    have hne:decide (x0=⟨k+1,true,t.Time⟩)=false:=decide_eq_false fun e=>by rw [e] at hy;cases hy
    rw [hf,hne];simp
   |true=>
    have hf:(x0::O).filter (·.Yes)=x0::O:=by
     rw [List.filter_eq_self]
     intro x hx
     rw [hall x hx,hy]
    have he:decide (x0=⟨k+1,true,t.Time⟩)=(x0::O).any fun x=>decide (x.Time=t.Time):=by
     rw [Bool.eq_iff_iff,decide_eq_true_iff,List.any_eq_true]
     constructor
     ·intro e
      exact ⟨x0,List.mem_cons_self,by rw [e];simp⟩
     ·rintro ⟨x,hx,hh⟩
      rw [hall x hx,decide_eq_true_iff] at hh
      rcases x0 with ⟨a,b,c⟩
      simp only at h0t hy hh
      rw [h0t,hy,hh]
    rw [hf,he,hlen]
    congr 1
    have hya:∀ p,p.toNat<L.length→zQw L (k+1) p=zD5 L (k+1) p:=by
     intro p h1
     rw [zQw]
     cases h2:zD5 L (k+1) p with
     |false=>rfl
     |true=>rw [hall _ (hat p h1 h2),hy];rfl
    by_cases hc:0<(zA8 t).length+(zBr t).length
    ·have hpp:0<(zBj w t).length:=zNw hc
     have hq:zNC L (k+1) (zBj w t)=zAg (zDC L (k+1) (zBj w t)) (zBj w t).length:=by
      rw [Bool.eq_iff_iff,zNC,Bool.and_eq_true,zAs,zAs]
      have hm:∀ i,i<(zBj w t).length→zQw L (k+1) (nth (zBj w t) i)=zD5 L (k+1) (nth (zBj w t) i):=fun i hi=>hya _ (hp _ (zAc hi))
      constructor
      ·rintro ⟨h1,h2⟩ i hi
       have h3:=h2 i hi
       rw [zDC,hm i hi]
       by_cases h0:i=0
       ·rw [h0,h1];rfl
       ·rw [decide_eq_false h0];exact h3
      ·intro h
       refine ⟨?_,fun i hi=> ?_⟩
       ·have:=h 0 hpp
        rw [zDC,hm 0 hpp] at this
        simpa using this
       ·have:=h i hi
        rw [zDC,hm i hi] at this
        simp only [Bool.or_eq_true,Bool.and_eq_true] at this ⊢
        exact this.imp id (·.2)
     rw [hq,zEG,decide_eq_true (show 0<((zA8 t).length:Int)+(zBr t).length by omega),Bool.and_true,Bool.and_true]
    ·have h1:zA8 t=[]:=List.length_eq_zero_iff.1 (by omega)
     have h2:zBr t=[]:=List.length_eq_zero_iff.1 (by omega)
     have h3:zBj w t=[]:=by rw [zBj,h1,h2];rfl
     rw [h3,zEG,decide_eq_false (show ¬ 0<((zA8 t).length:Int)+(zBr t).length by omega)]
     simp [zAg]
theorem zNF {r1 r2:List ByteArray} {ws:List Write} (h:∀ x,x∈r1↔x∈r2):zDo r1 ws=zDo r2 ws:=by
 refine zFX (R:=fun a b=>zAf a b=true) (fun a b h k=> ?_) (zIC zJe) (zIC zJe) fun x=> ?_
 ·have:=zBk h k;rw [zBm] at this;cases this
 ·rw [zJf,zJf,List.mem_append,List.mem_append,h]
theorem zOX {a b:Told}:(decide (a.Txn=b.Txn)&&(a.Yes==b.Yes&&decide (a.Time=b.Time)))=decide (a=b):=by
 rcases a with ⟨a1,a2,a3⟩
 rcases b with ⟨b1,b2,b3⟩
 rw [Bool.eq_iff_iff]
 simp
theorem zSh {got:List Got}:∀ (l:List Op) (s:(Int×ByteArray) ⊕ List Write),(∀ e,s= .inl e→e.1≠3)→∀ e,l.foldl (fun s o=>match s with| .inl e=> .inl e| .inr ws=>zDE got o ws) s= .inl e→e.1≠3
 |[],s,h,e,h2=>h e h2
 |o::l,s,h,e,h2=>by
  refine zSh l _ (fun e h3=> ?_) e h2
  cases s with
  |inl q=>injection h3 with h3;exact h3▸h q rfl
  |inr ws=>
   simp only [zDE] at h3
   split at h3
   ·cases h3
   ·split at h3
    ·cases h3
    ·split at h3
     ·injection h3 with h3;rw [←h3];simp
     ·split at h3
      ·split at h3<;>cases h3
      ·injection h3 with h3;rw [←h3];simp
theorem zNG (t:WorldTxn):∃ e s,stepT (zCE t.Got t.Ops)= .tup [i64 e,str s, .sl true 3 ((zBr t).map (Write.row true))]∧decide (e=3)=zJl t:=by
 rw [zBr,zJl]
 cases h:zCE t.Got t.Ops with
 |inl q=>exact ⟨q.1,q.2,rfl,decide_eq_false (zSh t.Ops (.inr []) (fun e h=>by cases h) q h)⟩
 |inr ws=>exact ⟨3,⟨⟨[]⟩⟩,rfl,rfl⟩
theorem zPX {t:WorldTxn} (h:zCu t.Ops=true):(zBr t).length≤8:=by
 have hl:=zKM h
 rw [zBr]
 cases hr:zCE t.Got t.Ops with
 |inl q=>exact Nat.zero_le _
 |inr ws=>
  have:=(zV2 (got:=t.Got) h t.Ops.length (Nat.le_refl _) ws (by rw [List.take_length];exact hr)).len
  simp only;omega
theorem zS3 {cuts reads:List ByteArray} {ws:List Write}:zDf cuts (zBp reads) ws=zDf cuts reads ws:=by
 rw [zDf,zDf,zNF fun x=>zKB]
def plS (w:World) (got:List Got) (K:List ByteArray) (ws:List Write) (e:Int):Nat→St
 |0=>⟨[(0, .bo false (World.row false w) 0),(4, .ptr 5000000 0 0),(7,i64 e),(10, .ptr 11000000 0 0),(33, .sl false 3 (got.map (Got.row false))),(34,i64 got.length),(35,i64 0)],[(5000000,⟨3,[[zAB,zAB,zAB]]⟩),(11000000,⟨3,[[zAB, .ref 11000002 0 ws.length,zAB]]⟩),(11000002,⟨3,ws.map (Write.row true)⟩)]⟩
 |j+1=>⟨[(0, .bo false (World.row false w) 0),(4, .ptr 5000000 0 0),(7,i64 e),(10, .ptr 11000000 0 0),(33, .sl false 3 (got.map (Got.row false))),(34,i64 got.length),(35,i64 (j+1:Nat))],[(5000000,⟨3,[[zAB,zAB,zAB]]⟩),(11000000,⟨3,[[.ref 11000001 0 (j+1), .ref 11000002 0 ws.length,zAB]]⟩),(11000001,⟨1,strs (K.take (j+1))⟩),(11000002,⟨3,ws.map (Write.row true)⟩)]⟩
theorem zXZ (hS:zCD) (hR:zGi) (hI:zID) (w:World) (k:Nat) (hk:k<w.Txns.length) (hk6:w.Txns.length≤6) (ho:zCu (nth w.Txns k).Ops=true) (hg:zAK (nth w.Txns k).Got=true) (hc:w.Cuts.length≤2^18):ACall p_ 88 [.bx false (World.row false w),i64 (k+1)] (fun r _=>r= .tup [.agg [.sl true 1 (strs (zBp (zA8 (nth w.Txns k)))), .sl true 3 ((zBr (nth w.Txns k)).map (Write.row true)), .sl true 1 (ints (zBj w (nth w.Txns k)))],bl (zJl (nth w.Txns k))]):=by
 have hmx:=zAd
 have hgl:=zDV hg
 have hwl:=zPX ho
 have c1:=zV4 hR hI (nth w.Txns k).Ops (nth w.Txns k).Got ho hg
 obtain ⟨e,s,h1,h2⟩:=zNG (nth w.Txns k)
 rw [h1] at c1
 rw [←h2,zBj]
 clear h1 h2
 have c3:=zV0 hS w.Cuts (zBp (zA8 (nth w.Txns k))) (zBr (nth w.Txns k)) hc (by rw [zDR,zA8,List.length_map];omega) (by omega)
 rw [zS3] at c3
 have hK:(zA8 (nth w.Txns k)).length=(nth w.Txns k).Got.length:=by rw [zA8,List.length_map]
 have hKi:∀ i,i<(nth w.Txns k).Got.length→nth (zA8 (nth w.Txns k)) i=(nth (nth w.Txns k).Got i).Key:=fun i hi=>by rw [zA8,zDA hi]
 have c2:=zOK hS (zA8 (nth w.Txns k)) (by omega)
 generalize zDf w.Cuts (zA8 (nth w.Txns k)) (zBr (nth w.Txns k))=P at*
 generalize zBr (nth w.Txns k)=ws at*
 generalize zA8 (nth w.Txns k)=K at*
 have e1:IntKind.i64.wrap ((k:Int)+1-1)=k:=by simp [IntKind.wrap,IntKind.bits,IntKind.signed];omega
 refine fg H88 fun E hE hH=> ?_
 all_goals (have y1_:=e1;repeat' (first|(refine zBC ?_ ?_<;>intro h)|refine qy ?_|refine zBX ?_|refine zAF (c1) ?_|(with_reducible apply jn)|refine qu ?_ ?_|exact zCd|refine zBA ?_|fail))
 clear c1
 generalize (nth w.Txns k).Got=got at*
 refine zAU got.length (fun j (_:Unit)=>plS w got K ws e j) (fun _ _=>True) () rfl trivial ?_
 intro j _ hj _
 cases j with
 |zero=>
  try simp only [go_sem,hE,hH,zRy,plS]
  refine gG (fun h=> ?_) (fun h=> ?_)
  ·have hb:=h
   simp only [nf] at h
   have hlt:0<got.length:=by omega
   have ht:K.take 1=[(nth got 0).Key]:=by rw [zAw (by omega),hKi 0 hlt];rfl
   try refine sb ?_;try exact ⟨⟩
   repeat' (first|(refine qz ?_ ?_<;>intro h)|refine qy ?_|(with_reducible apply jn)|refine qu ?_ ?_|exact qj|refine qw ?_|fail)
   all_goals first|omega|(refine ⟨(), ?_⟩;rw [ht];rfl)
  ·try simp (disch:=omega) only [go_sem,hE,hH,h]
   simp only [nf] at h
   have e0:K=[]:=List.length_eq_zero_iff.1 (by omega)
   subst e0
   repeat' (first|(refine qz ?_ ?_<;>intro h)|refine qy ?_|(refine zAP [true] ?_;refine st ?_;refine cmAn (c2) ?_;refine st ?_)|((first|refine zAE ?_|refine zRm (c3) ?_);refine st ?_)|(with_reducible apply jn)|refine qu ?_ ?_|exact qj|refine qw ?_|fail)
   all_goals first|omega|rfl|(simp [zBp,strs];done)
 |succ j=>
  try simp only [go_sem,hE,hH,zRy,plS]
  refine gG (fun h=> ?_) (fun h=> ?_)
  ·have hb:=h
   simp only [nf] at h
   have hlt:j+1<got.length:=by omega
   have hn:(K.take (j+1)).length=j+1:=by simp;omega
   have ht:(K.take (j+1)).take (j+1)=K.take (j+1):=by rw [List.take_take,Nat.min_self]
   try simp (disch:=omega) only [go_sem,hE,hH,hn,ht,hb]
   all_goals (have y1_:=hn;have y2_:=ht;repeat' (first|(refine zCJ ?_ ?_<;>intro h)|refine qy ?_|(with_reducible apply jn)|refine qu ?_ ?_|exact zCK|refine zCL ?_|fail))
   all_goals first|omega|(refine ⟨(), ?_⟩;rw [zAw (show j+1<K.length by omega),hKi (j+1) hlt];simp only [strs,List.map_append];rfl)
  ·try simp (disch:=omega) only [go_sem,hE,hH,h]
   simp only [nf] at h
   rw [show j+1=K.length by omega,List.take_length]
   have hsl:(zBp K).length=K.length:=zDR
   have htk:(zBp K).take K.length=zBp K:=List.take_of_length_le (by omega)
   all_goals (have y1_:=hsl;have y2_:=htk;repeat' (first|(refine zCJ ?_ ?_<;>intro h)|refine qy ?_|(refine zAP [true] ?_;refine zGn ?_;refine cmA (c2) ?_;refine zGn ?_)|refine zFe ?_|refine zBY (c3) ?_|(with_reducible apply jn)|refine qu ?_ ?_|exact zCK|refine zCL ?_|fail))
   all_goals first|omega|rfl
end Go.Proofs.Wb

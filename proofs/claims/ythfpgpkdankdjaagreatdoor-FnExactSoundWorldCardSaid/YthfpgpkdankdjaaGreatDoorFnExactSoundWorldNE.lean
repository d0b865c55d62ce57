import Derived.Test.YthfpgpkdankdjaaGreatDoorFnExactSoundWorldN7
import Derived.Laws.Externs
set_option linter.all false
set_option maxHeartbeats 4000000
namespace Go.Proofs.Wb
open Tryz renaming prog→p_
open Go Go.Am
def zBt (l:List Rec) (j:Nat):List Bool:=(List.range j).map fun i=>(zA0 (zBV (l.take i)) (nth l i)).isSome
theorem zDi (l:List Rec) (j:Nat):(zBt l j).length=j:=by simp [zBt]
theorem zGD (l:List Rec) (j:Nat):zBt l (j+1)=zBt l j++[(zA0 (zBV (l.take j)) (nth l j)).isSome]:=by simp [zBt,List.range_succ]
theorem zFV {l:List Rec} {j:Nat} (h:j<l.length):zBV (l.take (j+1))=zBJ (zBV (l.take j)) (nth l j):=by
 rw [zAw h,zBV,List.foldl_append];rfl
theorem zKE {l:List Rec} (hl:∀ r∈l,zA7 r=true) (j:Nat) (hj:j≤l.length):stI j (zBV (l.take j)):=by
 have:=zRX (l:=l.take j) fun r h=>hl r (List.mem_of_mem_take h)
 rwa [List.length_take,Nat.min_eq_left hj] at this
def soF (l:List Rec) (j:Nat):Option State→St
 |none=>⟨[(2, .ptr 3000000 0 0),(4, .ptr 5000000 0 0),(5, .ref 6000000 0 j),(12, .sl false 7 (l.map (Rec.row false))),(13,i64 l.length),(14,i64 j)],[(3000000,⟨4,[[i64 0,zAB,zAB,zAB]]⟩),(5000000,⟨4,[[i64 0,zAB,zAB,zAB]]⟩),(6000000,⟨1,(zBt l j).map (fun b=>[bl b])⟩)]⟩
 |some s=>⟨[(2, .ptr 3000000 0 0),(4, .ptr 5000000 0 0),(5, .ref 6000000 0 j),(12, .sl false 7 (l.map (Rec.row false))),(13,i64 l.length),(14,i64 j)],[(3000000,⟨4,[[i64 0,zAB,zAB,zAB]]⟩),(5000000,⟨4,[[i64 s.Floor, .ref 5000002 0 s.Cells.length, .ref 5000003 0 s.Held.length, .ref 5000004 0 s.Told.length]]⟩),(5000002,⟨2,s.Cells.map (Cell.row true)⟩),(5000003,⟨5,s.Held.map (Held.row true)⟩),(5000004,⟨3,s.Told.map (Told.row true)⟩),(6000000,⟨1,(zBt l j).map (fun b=>[bl b])⟩)]⟩
theorem zVR (hS:zCD) (l:List Rec) (hl:∀ r∈l,zA7 r=true) (hn:l.length≤60):ACall p_ 185 [.sl false 7 (l.map (Rec.row false))] (fun x _=>x= .tup [.agg (State.row true (zBV l)), .sl true 1 ((zBt l l.length).map (fun b=>[bl b]))]):=by
 have hmx:=zAd
 refine fg H185 fun E hE hH=> ?_
 try refine st ?_;try exact ⟨⟩
 refine zAU l.length (fun j x=>soF l j x) (fun j x=>x.getD st0=zBV (l.take j)) none rfl rfl ?_
 intro j x hj hI
 have z1:st0.Cells=[]:=rfl
 have z2:st0.Held=[]:=rfl
 have z3:st0.Told=[]:=rfl
 have z4:st0.Floor=0:=rfl
 have hSI:=zKE hl j hj
 rw [←hI] at hSI
 cases x with
 |none=>
  try simp only [go_sem,hE,hH,zOi,soF]
  refine gG (fun h=> ?_) (fun h=> ?_)
  ·have hb:=h
   simp only [nf] at h
   have hlt:j<l.length:=by omega
   have cA:=zNq hS st0 (nth l j) hSI (by omega) (hl _ (zAc hlt))
   have hst:zBV (l.take (j+1))=zBJ st0 (nth l j):=by rw [zFV hlt, ←hI];rfl
   have hdn:zBt l (j+1)=zBt l j++[(zA0 st0 (nth l j)).isSome]:=by rw [zGD, ←hI];rfl
   have hdl:=zDi l j
   have hdt:(zBt l j).take j=zBt l j:=by rw [List.take_of_length_le (by omega)]
   cases hA:zA0 st0 (nth l j) with
   |none=>
    rw [hA,zCH] at cA
    rw [hA] at hdn
    try refine sb ?_;try exact ⟨⟩
    all_goals (have y1_:=hdl;have y2_:=hdt;have y3_:=z1;have y4_:=z2;have y5_:=z3;have y6_:=z4;repeat' (first|(refine zJo ?_ ?_<;>intro h)|refine qy ?_|((first|refine zAE ?_|refine zRm (cA) ?_);refine zLd ?_)|(with_reducible apply jn)|refine qu ?_ ?_|exact zJp|refine zJq ?_|fail))
    all_goals try first|omega|rfl
    all_goals (
     refine ⟨none, ?_,by (first|(rw [hst,zBJ,hA];done)|(rw [hst,zBJ,hA];rfl))⟩
     rw [hdn,List.map_append]
     rfl)
   |some s'=>
    rw [hA,zCH] at cA
    rw [hA] at hdn
    try refine sb ?_;try exact ⟨⟩
    all_goals (have y1_:=hdl;have y2_:=hdt;have y3_:=z1;have y4_:=z2;have y5_:=z3;have y6_:=z4;repeat' (first|(refine zJo ?_ ?_<;>intro h)|refine qy ?_|((first|refine zAE ?_|refine zRm (cA) ?_);refine zLd ?_)|(with_reducible apply jn)|refine qu ?_ ?_|exact zJp|refine zJq ?_|fail))
    all_goals try first|omega|rfl
    all_goals (
     refine ⟨some s', ?_,by (first|(rw [hst,zBJ,hA];done)|(rw [hst,zBJ,hA];rfl))⟩
     rw [hdn,List.map_append]
     rfl)
  ·try simp (disch:=omega) only [go_sem,hE,hH,h]
   simp only [nf] at h
   have hjl:j=l.length:=by omega
   have hdl:=zDi l j
   rw [hjl,List.take_length] at hI
   subst hjl
   rw [←hI]
   simp [hdl,zIq,zAA]
   exact ⟨rfl,rfl,rfl,rfl⟩
 |some s=>
  try simp only [go_sem,hE,hH,zOi,soF]
  refine gG (fun h=> ?_) (fun h=> ?_)
  ·have hb:=h
   simp only [nf] at h
   have hlt:j<l.length:=by omega
   have cA:=zNq hS s (nth l j) hSI (by omega) (hl _ (zAc hlt))
   have hst:zBV (l.take (j+1))=zBJ s (nth l j):=by rw [zFV hlt, ←hI];rfl
   have hdn:zBt l (j+1)=zBt l j++[(zA0 s (nth l j)).isSome]:=by rw [zGD, ←hI];rfl
   have hdl:=zDi l j
   have hdt:(zBt l j).take j=zBt l j:=by rw [List.take_of_length_le (by omega)]
   cases hA:zA0 s (nth l j) with
   |none=>
    rw [hA,zCH] at cA
    rw [hA] at hdn
    try refine sb ?_;try exact ⟨⟩
    all_goals (have y1_:=hdl;have y2_:=hdt;repeat' (first|(refine zCJ ?_ ?_<;>intro h)|refine qy ?_|refine zFe ?_|refine zBY (cA) ?_|(with_reducible apply jn)|refine qu ?_ ?_|exact zCK|refine zCL ?_|fail))
    all_goals try first|omega|rfl
    all_goals (
     refine ⟨some s, ?_,by (first|(rw [hst,zBJ,hA];done)|(rw [hst,zBJ,hA];rfl))⟩
     rw [hdn,List.map_append]
     rfl)
   |some s'=>
    rw [hA,zCH] at cA
    rw [hA] at hdn
    try refine sb ?_;try exact ⟨⟩
    all_goals (have y1_:=hdl;have y2_:=hdt;repeat' (first|(refine zCJ ?_ ?_<;>intro h)|refine qy ?_|refine zFe ?_|refine zBY (cA) ?_|(with_reducible apply jn)|refine qu ?_ ?_|exact zCK|refine zCL ?_|fail))
    all_goals try first|omega|rfl
    all_goals (
     refine ⟨some s', ?_,by (first|(rw [hst,zBJ,hA];done)|(rw [hst,zBJ,hA];rfl))⟩
     rw [hdn,List.map_append]
     rfl)
  ·try simp (disch:=omega) only [go_sem,hE,hH,h]
   simp only [nf] at h
   have hjl:j=l.length:=by omega
   have hdl:=zDi l j
   rw [hjl,List.take_length] at hI
   subst hjl
   rw [←hI]
   simp [hdl,zIq,zAA]
def soG (l:List Rec) (j:Nat):Option State→St
 |none=>⟨[(2, .ptr 3000000 0 0),(4, .ptr 5000000 0 0),(5, .ref 6000000 0 j),(10, .sl false 7 (l.map (Rec.row false))),(11,i64 l.length),(12,i64 j)],[(3000000,⟨4,[[i64 0,zAB,zAB,zAB]]⟩),(5000000,⟨4,[[i64 0,zAB,zAB,zAB]]⟩),(6000000,⟨1,(zBt l j).map (fun b=>[bl b])⟩)]⟩
 |some s=>⟨[(2, .ptr 3000000 0 0),(4, .ptr 5000000 0 0),(5, .ref 6000000 0 j),(10, .sl false 7 (l.map (Rec.row false))),(11,i64 l.length),(12,i64 j)],[(3000000,⟨4,[[i64 0,zAB,zAB,zAB]]⟩),(5000000,⟨4,[State.row false s]⟩),(6000000,⟨1,(zBt l j).map (fun b=>[bl b])⟩)]⟩
theorem zZA (l:List Rec) (hl:∀ r∈l,zA7 r=true) (hn:l.length≤60):ACall p_ 110 [.sl false 7 (l.map (Rec.row false))] (fun x _=>x= .tup [.agg (State.row false (zBV l)), .sl true 1 ((zBt l l.length).map (fun b=>[bl b]))]):=by
 have hmx:=zAd
 refine fg H110 fun E hE hH=> ?_
 try refine st ?_;try exact ⟨⟩
 refine zAU l.length (fun j x=>soG l j x) (fun j x=>x.getD st0=zBV (l.take j)) none rfl rfl ?_
 intro j x hj hI
 have z1:st0.Cells=[]:=rfl
 have z2:st0.Held=[]:=rfl
 have z3:st0.Told=[]:=rfl
 have z4:st0.Floor=0:=rfl
 have hSI:=zKE hl j hj
 rw [←hI] at hSI
 cases x with
 |none=>
  try simp only [go_sem,hE,hH,zOh,soG]
  refine gG (fun h=> ?_) (fun h=> ?_)
  ·have hb:=h
   simp only [nf] at h
   have hlt:j<l.length:=by omega
   have cA:=zLA st0 (nth l j) hSI (by omega) (hl _ (zAc hlt))
   have hst:zBV (l.take (j+1))=zBJ st0 (nth l j):=by rw [zFV hlt, ←hI];rfl
   have hdn:zBt l (j+1)=zBt l j++[(zA0 st0 (nth l j)).isSome]:=by rw [zGD, ←hI];rfl
   have hdl:=zDi l j
   have hdt:(zBt l j).take j=zBt l j:=by rw [List.take_of_length_le (by omega)]
   cases hA:zA0 st0 (nth l j) with
   |none=>
    rw [hA,Option.isSome_none] at cA
    simp only [zB7] at cA
    rw [hA] at hdn
    try refine sb ?_;try exact ⟨⟩
    all_goals (have y1_:=hdl;have y2_:=hdt;have y3_:=z1;have y4_:=z2;have y5_:=z3;have y6_:=z4;repeat' (first|(refine zJo ?_ ?_<;>intro h)|refine qy ?_|(refine zAE ?_;refine zLd ?_;refine zRm (cA) (And.intro (by (simp (disch:=omega) only [go_sem,hE,hH,hdl,hdt,z1,z2,z3,z4]);done) (zAH ?_));rintro _ _ ⟨q,rfl,_⟩;refine zLd ?_)|(with_reducible apply jn)|refine qu ?_ ?_|exact zJp|refine zJq ?_|fail))
    all_goals try first|omega|rfl
    all_goals (
     refine ⟨none, ?_,by (first|(rw [hst,zBJ,hA];done)|(rw [hst,zBJ,hA];rfl))⟩
     rw [hdn,List.map_append]
     rfl)
   |some s'=>
    rw [hA,Option.isSome_some] at cA
    simp only [zB7] at cA
    rw [hA] at hdn
    try refine sb ?_;try exact ⟨⟩
    all_goals (have y1_:=hdl;have y2_:=hdt;have y3_:=z1;have y4_:=z2;have y5_:=z3;have y6_:=z4;repeat' (first|(refine zJo ?_ ?_<;>intro h)|refine qy ?_|(refine zAE ?_;refine zLd ?_;refine zRm (cA) (And.intro (by (simp (disch:=omega) only [go_sem,hE,hH,hdl,hdt,z1,z2,z3,z4]);done) (zAH ?_));rintro _ _ ⟨q,rfl,hq⟩;refine zLd ?_)|(with_reducible apply jn)|refine qu ?_ ?_|exact zJp|refine zJq ?_|fail))
    all_goals try first|omega|rfl
    all_goals (
     obtain rfl:=hq _ rfl
     refine ⟨some q, ?_,by (first|(rw [hst,zBJ,hA];done)|(rw [hst,zBJ,hA];rfl))⟩
     rw [hdn,List.map_append]
     rfl)
  ·try simp (disch:=omega) only [go_sem,hE,hH,h]
   simp only [nf] at h
   have hjl:j=l.length:=by omega
   have hdl:=zDi l j
   rw [hjl,List.take_length] at hI
   subst hjl
   rw [←hI]
   simp [hdl,zIq,zAA]
   exact ⟨rfl,rfl,rfl,rfl⟩
 |some s=>
  try simp only [go_sem,hE,hH,zOh,soG]
  refine gG (fun h=> ?_) (fun h=> ?_)
  ·have hb:=h
   simp only [nf] at h
   have hlt:j<l.length:=by omega
   have cA:=zLA s (nth l j) hSI (by omega) (hl _ (zAc hlt))
   have hst:zBV (l.take (j+1))=zBJ s (nth l j):=by rw [zFV hlt, ←hI];rfl
   have hdn:zBt l (j+1)=zBt l j++[(zA0 s (nth l j)).isSome]:=by rw [zGD, ←hI];rfl
   have hdl:=zDi l j
   have hdt:(zBt l j).take j=zBt l j:=by rw [List.take_of_length_le (by omega)]
   cases hA:zA0 s (nth l j) with
   |none=>
    rw [hA,Option.isSome_none] at cA
    simp only [zB7] at cA
    rw [hA] at hdn
    try refine sb ?_;try exact ⟨⟩
    all_goals (have y1_:=hdl;have y2_:=hdt;repeat' (first|(refine zCJ ?_ ?_<;>intro h)|refine qy ?_|(refine zAE ?_;refine zGn ?_;refine cvA (cA) ?_;refine zAH ?_;rintro _ _ ⟨q,rfl,_⟩;refine zGn ?_)|(with_reducible apply jn)|refine qu ?_ ?_|exact zCK|refine zCL ?_|fail))
    all_goals try first|omega|rfl
    all_goals (
     refine ⟨some s, ?_,by (first|(rw [hst,zBJ,hA];done)|(rw [hst,zBJ,hA];rfl))⟩
     rw [hdn,List.map_append]
     rfl)
   |some s'=>
    rw [hA,Option.isSome_some] at cA
    simp only [zB7] at cA
    rw [hA] at hdn
    try refine sb ?_;try exact ⟨⟩
    all_goals (have y1_:=hdl;have y2_:=hdt;repeat' (first|(refine zCJ ?_ ?_<;>intro h)|refine qy ?_|(refine zAE ?_;refine zGn ?_;refine cvA (cA) ?_;refine zAH ?_;rintro _ _ ⟨q,rfl,hq⟩;refine zGn ?_)|(with_reducible apply jn)|refine qu ?_ ?_|exact zCK|refine zCL ?_|fail))
    all_goals try first|omega|rfl
    all_goals (
     obtain rfl:=hq _ rfl
     refine ⟨some q, ?_,by (first|(rw [hst,zBJ,hA];done)|(rw [hst,zBJ,hA];rfl))⟩
     rw [hdn,List.map_append]
     rfl)
  ·try simp (disch:=omega) only [go_sem,hE,hH,h]
   simp only [nf] at h
   have hjl:j=l.length:=by omega
   have hdl:=zDi l j
   rw [hjl,List.take_length] at hI
   subst hjl
   rw [←hI]
   simp [hdl,zIq,zAA]
def zOM (l:List Entry):State:=zBV (l.map Entry.Rec)
theorem zAeH {l:List Entry} (hl:∀ e∈l,zA7 e.Rec=true):stI l.length (zOM l):=by
 have:=zRX (l:=l.map Entry.Rec) fun r h=>by
  obtain ⟨e,he,rfl⟩:=List.mem_map.1 h
  exact hl e he
 rwa [List.length_map] at this
theorem zVS (hS:zCD) (l:List Entry) (hl:∀ e∈l,zA7 e.Rec=true) (hn:l.length≤60):ACall p_ 141 [.sl false 8 (l.map (Entry.row false))] (fun x _=>x= .agg (State.row true (zOM l))):=by
 have hmx:=zAd
 have cO:=zVR hS (l.map Entry.Rec) (fun r h=>by obtain ⟨e,he,rfl⟩:=List.mem_map.1 h;exact hl e he) (by rw [List.length_map];exact hn)
 refine fg H141 fun E hE hH=> ?_
 try refine st ?_;try exact ⟨⟩
 refine zAU l.length (fun j (_:Unit)=>⟨[(2, .ptr 3000000 0 0),(3, .ref 4000000 0 j),(9, .sl false 8 (l.map (Entry.row false))),(10,i64 l.length),(11,i64 j)],[(3000000,⟨4,[[i64 0,zAB,zAB,zAB]]⟩),(4000000,⟨7,((l.take j).map Entry.Rec).map (Rec.row false)⟩)]⟩) (fun _ _=>True) () rfl trivial ?_
 intro j x hj hI
 try simp only [go_sem,hE,hH,zTA]
 refine gG (fun h=> ?_) (fun h=> ?_)
 ·have hb:=h
  simp only [nf] at h
  have hlt:j<l.length:=by omega
  have hjl:((l.take j).map Entry.Rec).length=j:=by simp;omega
  have hjt:(l.take j).take j=l.take j:=by rw [List.take_take,Nat.min_self]
  have hs:(l.take (j+1)).map Entry.Rec=(l.take j).map Entry.Rec++[(nth l j).Rec]:=by rw [zAw hlt,List.map_append];rfl
  have hg:=getD_map (f:=Entry.row false) hlt
  have hga:∀ r,(((l.take j).map Entry.Rec).map (Rec.row false)++[r]).getD j []=r:=fun r=>by
   have:=zN8 (f:=Rec.row false) (l:=(l.take j).map Entry.Rec) (r:=r)
   rwa [hjl] at this
  try simp (disch:=omega) only [go_sem,hE,hH,hjl,hjt,hg,hga,hb]
  all_goals (have y1_:=hjl;have y2_:=hjt;have y3_:=hg;have y4_:=hga;repeat' (first|(refine zIc ?_ ?_<;>intro h)|refine qy ?_|(with_reducible apply jn)|refine qu ?_ ?_|exact zId|refine zIe ?_|fail))
  repeat' (first|(refine both ?_ ?_)|omega|((first|apply zAJ|apply zBo)<;>(simp only [go_sem,hE,hH];done))|fail)
  refine ⟨(), ?_⟩
  rw [hs,List.map_append]
  rfl
 ·try simp (disch:=omega) only [go_sem,hE,hH,h]
  simp only [nf] at h
  have hjl:j=l.length:=by omega
  rw [hjl,List.take_length]
  have hl2:(l.map Entry.Rec).length=l.length:=List.length_map _
  have hd:zOM l=zBV (l.map Entry.Rec):=rfl
  rw [hd]
  try refine st ?_;try exact ⟨⟩
  all_goals (have y1_:=hl2;repeat' (first|(refine zBC ?_ ?_<;>intro h)|refine qy ?_|refine zBX ?_|refine zAF (cO) ?_|(with_reducible apply jn)|refine qu ?_ ?_|exact zCd|refine zBA ?_|fail))
theorem zSX (log:List Entry) (n:Nat) (hln:n≤log.length) (hmx0:log.length≤maxLen) (l:List Entry) (hle:l=log.take n) (hl:∀ e∈l,zA7 e.Rec=true) (hn:l.length≤60):ACall p_ 56 [.sl false 8 (log.map (Entry.row false)),i64 n] (fun x _=>x= .agg (State.row false (zOM l))):=by
 have hmx:=zAd
 have cO:=zZA (l.map Entry.Rec) (fun r h=>by obtain ⟨e,he,rfl⟩:=List.mem_map.1 h;exact hl e he) (by rw [List.length_map];exact hn)
 have hll:l.length=n:=by rw [hle,List.length_take];omega
 refine fg H56 fun E hE hH=> ?_
 try refine st ?_;try exact ⟨⟩
 repeat' (first|(refine qz ?_ ?_<;>intro h)|refine qy ?_|(with_reducible apply jn)|refine qu ?_ ?_|exact qj|refine qw ?_|fail)
 refine zAU l.length (fun j (_:Unit)=>⟨[(4, .ptr 5000000 0 0),(5, .ref 6000000 0 j),(12, .sl false 8 (l.map (Entry.row false))),(13,i64 l.length),(14,i64 j)],[(5000000,⟨4,[[i64 0,zAB,zAB,zAB]]⟩),(6000000,⟨7,((l.take j).map Entry.Rec).map (Rec.row false)⟩)]⟩) (fun _ _=>True) () (by rw [hle,List.map_take,List.length_take,Nat.min_eq_left hln];rfl) trivial ?_
 intro j x hj hI
 try simp only [go_sem,hE,hH,zW9]
 refine gG (fun h=> ?_) (fun h=> ?_)
 ·have hb:=h
  simp only [nf] at h
  have hlt:j<l.length:=by omega
  have hjl:((l.take j).map Entry.Rec).length=j:=by simp;omega
  have hjt:(l.take j).take j=l.take j:=by rw [List.take_take,Nat.min_self]
  have hs:(l.take (j+1)).map Entry.Rec=(l.take j).map Entry.Rec++[(nth l j).Rec]:=by rw [zAw hlt,List.map_append];rfl
  have hg:=getD_map (f:=Entry.row false) hlt
  have hga:∀ r,(((l.take j).map Entry.Rec).map (Rec.row false)++[r]).getD j []=r:=fun r=>by
   have:=zN8 (f:=Rec.row false) (l:=(l.take j).map Entry.Rec) (r:=r)
   rwa [hjl] at this
  try simp (disch:=omega) only [go_sem,hE,hH,hjl,hjt,hg,hga,hb]
  all_goals (have y1_:=hjl;have y2_:=hjt;have y3_:=hg;have y4_:=hga;repeat' (first|(refine zIc ?_ ?_<;>intro h)|refine qy ?_|(with_reducible apply jn)|refine qu ?_ ?_|exact zId|refine zIe ?_|fail))
  repeat' (first|(refine both ?_ ?_)|omega|((first|apply zAJ|apply zBo)<;>(simp only [go_sem,hE,hH];done))|fail)
  refine ⟨(), ?_⟩
  rw [hs,List.map_append]
  rfl
 ·try simp (disch:=omega) only [go_sem,hE,hH,h]
  simp only [nf] at h
  have hjl:j=l.length:=by omega
  rw [hjl,List.take_length]
  have hl2:(l.map Entry.Rec).length=l.length:=List.length_map _
  have hd:zOM l=zBV (l.map Entry.Rec):=rfl
  rw [hd]
  have cO2:ACall p_ 110 [.sl true 7 ((l.map Entry.Rec).map (Rec.row false))] (fun x a=>x= .tup [.agg (State.row false (zBV (l.map Entry.Rec))), .sl true 1 ((zBt (l.map Entry.Rec) (l.map Entry.Rec).length).map (fun b=>[bl b]))]∧a=[.any]):=zRq cO (by simp only [go_sem];rfl) rfl
  try refine st ?_;try exact ⟨⟩
  all_goals (have y1_:=hl2;repeat' (first|(refine zBC ?_ ?_<;>intro h)|refine qy ?_|(refine zAP [true] ?_;refine zEd ?_;refine cmA (cO2) ?_;refine zEd ?_)|(with_reducible apply jn)|refine qu ?_ ?_|exact zCd|refine zBA ?_|fail))
structure repG (r:Replica):Prop where
 s0:0≤r.Sure
 s1:r.Sure≤r.Log.length
 len:r.Log.length≤60
 good:∀ e∈r.Log,zA7 e.Rec=true
theorem zAbb {t:Int} {r:Replica} (h:zCt t r=true):repG r:=by
 simp only [zCt,zHG,Bool.and_eq_true,decide_eq_true_eq] at h
 obtain ⟨⟨h1,h2⟩,h3⟩:=h
 have h3:=zBl.1 h3
 refine ⟨h3.1,h3.2,by omega,fun e he=> ?_⟩
 obtain ⟨i,hi,rfl⟩:=List.getElem_of_mem he
 have:=zAs.1 h1 i hi
 simp only [zCf,Bool.and_eq_true] at this
 rw [←zAN hi]
 exact this.1.2
theorem zIB {g:Group} (h:zBy g=true):3≤g.Reps.length∧g.Reps.length≤5∧∀ r∈g.Reps,repG r:=by
 simp only [zBy,Bool.and_eq_true,Bool.or_eq_true,decide_eq_true_eq,List.all_eq_true] at h
 obtain ⟨⟨⟨h1,_⟩,_⟩,h4⟩:=h
 exact ⟨by omega,by omega,fun r hr=>zAbb (h4 r hr)⟩
def zZB (r:Replica):State:=zOM (r.Log.take r.Sure.toNat)
theorem zKF {r:Replica} (h:repG r):(∀ e∈r.Log.take r.Sure.toNat,zA7 e.Rec=true)∧(r.Log.take r.Sure.toNat).length≤60:=by
 refine ⟨fun e he=>h.good e (List.mem_of_mem_take he), ?_⟩
 have:=h.len
 rw [List.length_take];omega
theorem zAeI {r:Replica} (h:repG r):stI 60 (zZB r):=by
 obtain ⟨h1,h2⟩:=zKF h
 have:=zAeH h1
 exact ⟨this.cells,this.hlen,this.hsrt,this.hok,Nat.le_trans this.tlen h2,this.tsrt⟩
def zE8 (g:Group):Nat→Nat
 |0=>0
 |j+1=>if (nth g.Reps (zE8 g j)).Sure<(nth g.Reps j).Sure then j else zE8 g j
theorem zHi {g:Group} (h:0<g.Reps.length):∀ j,j≤g.Reps.length→zE8 g j<g.Reps.length
 |0,_=>h
 |j+1,hj=>by
  rw [zE8]
  split
  ·omega
  ·exact zHi h j (by omega)
def zC3 (g:Group):State:=zZB (nth g.Reps (zE8 g g.Reps.length))
theorem zAbc (g:Group) (h0:0<g.Reps.length) (h1:g.Reps.length≤2^20):ACall p_ 142 [.agg (Group.row false g)] (fun x _=>x= .agg (Replica.row false (nth g.Reps (zE8 g g.Reps.length)))):=by
 have hmx:=zAd
 refine fg H142 fun E hE hH=> ?_
 try refine st ?_;try exact ⟨⟩
 repeat' (first|(refine qz ?_ ?_<;>intro h)|refine qy ?_|(with_reducible apply jn)|refine qu ?_ ?_|exact qj|refine qw ?_|fail)
 refine zAU g.Reps.length (fun j (_:Unit)=>⟨[(2, .ptr 3000000 0 0),(3, .ptr 4000000 0 0),(11, .sl false 3 (g.Reps.map (Replica.row false))),(12,i64 g.Reps.length),(13,i64 j)],[(3000000,⟨3,[[bl false,zAB,i64 0]]⟩),(4000000,⟨3,[Replica.row false (nth g.Reps (zE8 g j))]⟩)]⟩) (fun _ _=>True) () rfl trivial ?_
 intro j _ hj _
 try simp only [go_sem,hE,hH,zTB]
 refine gG (fun h=> ?_) (fun h=> ?_)
 ·have hb:=h
  simp only [nf] at h
  have hlt:j<g.Reps.length:=by omega
  try refine sb ?_;try exact ⟨⟩
  repeat' (first|(refine qz ?_ ?_<;>intro h)|refine qy ?_|(with_reducible apply jn)|refine qu ?_ ?_|exact qj|refine qw ?_|fail)
  all_goals (
   refine ⟨(), ?_⟩
   rw [zE8]
   split<;>first|rfl|(exfalso;omega))
 ·try simp (disch:=omega) only [go_sem,hE,hH,h]
  simp only [nf] at h
  have hjl:j=g.Reps.length:=by omega
  rw [hjl]
  exact ⟨rfl,rfl,rfl⟩
theorem zR4 (hS:zCD) (g:Group) (hg:zBy g=true):ACall p_ 82 [.agg (Group.row false g)] (fun x _=>x= .agg (State.row true (zC3 g))):=by
 have hmx:=zAd
 obtain ⟨h3,h5,hr⟩:=zIB hg
 have hb:=hr _ (zAc (zHi (g:=g) (by omega) g.Reps.length (Nat.le_refl _)))
 obtain ⟨q1,q2⟩:=zKF hb
 refine fg H82 fun E hE hH=> ?_
 repeat' (first|(refine qz ?_ ?_<;>intro h)|refine qy ?_|refine qo ?_|refine cq (zAbc g (by omega) (by omega)) ?_|refine cq (zOB (nth g.Reps (zE8 g g.Reps.length)) hb.s0 hb.s1) ?_|refine cq (zVS hS _ q1 q2) ?_|(with_reducible apply jn)|refine qu ?_ ?_|exact qj|refine qw ?_|fail)
 all_goals rfl
theorem zSY (r:Replica) (h:repG r):ACall p_ 56 [.sl false 8 (r.Log.map (Entry.row false)),i64 r.Sure] (fun x _=>x= .agg (State.row false (zZB r))):=by
 have hmx:=zAd
 obtain ⟨q1,q2⟩:=zKF h
 have h0:=h.s0
 have h1:=h.s1
 have hl:=h.len
 have:=zSX r.Log r.Sure.toNat (by omega) (by omega) _ rfl q1 q2
 rwa [Int.toNat_of_nonneg h0] at this
theorem zVT (g:Group) (hg:zBy g=true):ACall p_ 18 [.agg (Group.row false g)] (fun x _=>x= .agg (State.row false (zC3 g))):=by
 have hmx:=zAd
 obtain ⟨h3,h5,hr⟩:=zIB hg
 have hlb:=zHi (g:=g) (by omega) g.Reps.length (Nat.le_refl _)
 have hb:=hr _ (zAc hlb)
 refine fg H18 fun E hE hH=> ?_
 try refine st ?_;try exact ⟨⟩
 refine zAU g.Reps.length (fun j (_:Unit)=>⟨[(1, .ptr 2000000 0 0),(2, .ptr 3000000 0 0),(3,i64 (zE8 g j)),(7, .sl false 3 (g.Reps.map (Replica.row false))),(8,i64 g.Reps.length),(9,i64 j)],[(2000000,⟨3,[Group.row false g]⟩),(3000000,⟨4,[[i64 0,zAB,zAB,zAB]]⟩)]⟩) (fun _ _=>True) () rfl trivial ?_
 intro j _ hj _
 try simp only [go_sem,hE,hH,zWP]
 refine gG (fun h=> ?_) (fun h=> ?_)
 ·have hb:=h
  simp only [nf] at h
  have hlt:j<g.Reps.length:=by omega
  have hlj:=zHi (g:=g) (by omega) j hj
  try refine sb ?_;try exact ⟨⟩
  repeat' (first|(refine qz ?_ ?_<;>intro h)|refine qy ?_|(with_reducible apply jn)|refine qu ?_ ?_|exact qj|refine qw ?_|fail)
  all_goals (
   refine ⟨(), ?_⟩
   rw [zE8]
   split<;>first|rfl|(exfalso;omega))
 ·try simp (disch:=omega) only [go_sem,hE,hH,h]
  simp only [nf] at h
  have hjl:j=g.Reps.length:=by omega
  rw [hjl]
  try refine st ?_;try exact ⟨⟩
  repeat' (first|(refine qz ?_ ?_<;>intro h)|refine qy ?_|refine qo ?_|refine cq (zSY _ hb) ?_|(with_reducible apply jn)|refine qu ?_ ?_|exact qj|refine qw ?_|fail)
  all_goals first|rfl
theorem zGO {α:Type} {f:α→Nat} {C:Nat}:∀ {l:List α},(∀ x∈l,f x≤C)→szL f l≤(C+1)*l.length
 |[],_=>by simp [szL]
 |x::l,h=>by
  have h1:=zGO (l:=l) fun y hy=>h y (List.mem_cons_of_mem _ hy)
  have h2:=h x List.mem_cons_self
  simp only [szL,List.map_cons,List.sum_cons,List.length_cons,Nat.mul_succ] at h1 ⊢
  omega
theorem zR5 {l:List ByteArray} (h:zBw l=true):∀ x∈l,zAW x=true:=by
 intro x hx
 obtain ⟨i,hi,rfl⟩:=List.getElem_of_mem hx
 simp only [zBw] at h
 have:=zAs.1 h i hi
 simp only [Bool.and_eq_true,zAN hi] at this
 exact this.1
theorem stI.sz {n:Nat} {s:State} (h:stI n s) (hn:n≤1000):s.sz≤2^20:=by
 have hc:=zB5 h.cells
 have hl:=hc.len
 have h1:szL Cell.sz s.Cells≤(2000+1)*s.Cells.length:=zGO fun c q=>by
  have h2:=(hc.one c q).2
  have h3:=hc.wf c q
  have h4:szL Ver.sz c.Vers≤(100+1)*c.Vers.length:=zGO fun v hv=>h3.2 v hv
  have h5:(100+1)*c.Vers.length≤(100+1)*16:=Nat.mul_le_mul_left _ (by omega)
  show c.Key.size+szL Ver.sz c.Vers≤2000
  omega
 have h2:szL Held.sz s.Held≤(2000+1)*s.Held.length:=zGO fun x q=>by
  have h3:=zB6 (h.hok x q)
  have h4:szL ByteArray.size x.Reads≤(100+1)*x.Reads.length:=zGO fun v hv=>by
   have:=zE2 (zR5 h3.2.2.2.1 v hv);omega
  have h5:szL Write.sz x.Writes≤(100+1)*x.Writes.length:=zGO fun v hv=>by
   obtain ⟨i,hi,rfl⟩:=List.getElem_of_mem hv
   have h6:=h3.2.2.1
   rw [zJA] at h6
   simp only [Bool.and_eq_true,Bool.not_eq_true',List.any_eq_false] at h6
   have h7:=zE2 (zR5 h6.1.2 _ (List.mem_map.2 ⟨_,hv,rfl⟩))
   have h8:=h6.2 _ hv
   have h8:stored (x.Writes[i]).Val (x.Writes[i]).Gone=true:=by simpa using h8
   have:=zH4 h8
   show (x.Writes[i]).Key.size+(x.Writes[i]).Val.size≤100
   omega
  have h6:(100+1)*x.Reads.length≤(100+1)*8:=Nat.mul_le_mul_left _ (by omega)
  have h7:(100+1)*x.Writes.length≤(100+1)*8:=Nat.mul_le_mul_left _ (by omega)
  show szL ByteArray.size x.Reads+szL Write.sz x.Writes≤2000
  omega
 have h3:=h.tlen
 have h4:=h.hlen
 have h5:(2000+1)*s.Cells.length≤(2000+1)*24:=Nat.mul_le_mul_left _ (by omega)
 have h6:(2000+1)*s.Held.length≤(2000+1)*12:=Nat.mul_le_mul_left _ (by omega)
 show szL Cell.sz s.Cells+szL Held.sz s.Held+s.Told.length≤2^20
 omega
def atL (l:List Ver) (t:Int):Nat→ByteArray×Bool
 |0=>(⟨#[]⟩,false)
 |n+1=>if (nth l n).Time≤t then ((nth l n).Val, !(nth l n).Gone) else atL l t n
def atC (c:Cell) (t:Int):ByteArray×Bool:=atL c.Vers t c.Vers.length
def zE9 (l:List Ver) (t:Int):Nat→Option Ver
 |0=>none
 |n+1=>if (nth l n).Time≤t then some (nth l n) else zE9 l t n
theorem zLc (l:List Ver) (t:Int):∀ n,atL l t n=match zE9 l t n with|none=>(⟨#[]⟩,false)|some v=>(v.Val, !v.Gone)
 |0=>rfl
 |n+1=>by
  rw [atL,zE9]
  split
  ·rfl
  ·exact zLc l t n
theorem zR6 {l:List Ver} {t:Int} {v:Ver}:∀ {n},n≤l.length→zE9 l t n=some v→v∈l
 |0,_,h=>by cases h
 |n+1,hn,h=>by
  rw [zE9] at h
  split at h
  ·cases h;exact zAc (by omega)
  ·exact zR6 (by omega) h
def ver0:Ver:=⟨0,⟨#[]⟩,false⟩
def zCG (l:List Cell) (key:ByteArray) (t:Int):ByteArray×Bool:=if cF l key then atC (nth l (cI l key)) t else (⟨#[]⟩,false)
def zEF:Prop:=∀ (c:Cell) (t:Int),c.Vers.length≤2^60→ACall p_ 201 [.agg (Cell.row false c),i64 t] (fun r _=>r= .tup [str (atC c t).1,bl (atC c t).2])
theorem zXL (hC:zEF) (l:List Cell) (key:ByteArray) (t:Int) (hl:l.length≤2^60) (hs:zAO zAf Cell.Key l) (h1:∀ c∈l,c.Vers.length≤2^60):ACall p_ 152 [.sl false 2 (l.map (Cell.row false)),str key,i64 t] (fun r _=>r= .tup [str (zCG l key t).1,bl (zCG l key t).2]):=by
 have hmx:=zAd
 have hc:=zEo l key hl hs
 cases hf:cF l key with
 |false=>
  rw [hf] at hc
  rw [zCG,hf]
  refine fg H152 fun E hE hH=> ?_
  repeat' (first|(refine qz ?_ ?_<;>intro h)|refine qy ?_|refine qo ?_|refine cq (hc) ?_|refine jn _ ?_ ?_|refine qu ?_ ?_|exact qe|refine qw ?_|fail)
  all_goals first|rfl
 |true=>
  obtain ⟨k1,k2⟩:=zDd hs hf
  have cA:=hC (nth l (cI l key)) t (h1 _ (zAc k1))
  rw [hf] at hc
  rw [zCG,hf,if_pos rfl]
  generalize atC (nth l (cI l key)) t=q at*
  refine fg H152 fun E hE hH=> ?_
  repeat' (first|(refine qz ?_ ?_<;>intro h)|refine qy ?_|refine qo ?_|refine cq (hc) ?_|refine cq (cA) ?_|(with_reducible apply jn)|refine qu ?_ ?_|exact qj|refine qw ?_|fail)
  all_goals first|rfl|omega
theorem zZC (c:Cell) (t:Int) (hl:c.Vers.length≤2^60):ACall p_ 116 [.agg (Cell.row false c),i64 t] (fun r _=>r= .tup [.agg (Ver.row false ((zE9 c.Vers t c.Vers.length).getD ver0)),bl (zE9 c.Vers t c.Vers.length).isSome]):=by
 have hmx:=zAd
 refine fg H116 fun E hE hH=> ?_
 repeat' (first|(refine qz ?_ ?_<;>intro h)|refine qy ?_|(with_reducible apply jn)|refine qu ?_ ?_|exact qj|refine qw ?_|fail)
 refine zAi c.Vers.length (fun j (x:Option Ver)=>⟨[(1,i64 t),(4, .ptr 5000000 0 0),(6, .ptr 7000000 0 0),(7,bl x.isSome),(11, .sl false 3 (c.Vers.map (Ver.row false))),(12,i64 c.Vers.length),(13,i64 j)],[(5000000,⟨3,[[i64 0,str ⟨#[]⟩,bl false]]⟩),(7000000,⟨3,[Ver.row false (x.getD ver0)]⟩)]⟩) (fun j x=>x=zE9 c.Vers t j) none rfl ?_
 intro j x hj hI
 try simp only [go_sem,hE,hH,zTw]
 refine gG (fun h=> ?_) (fun h=> ?_)
 ·have hb:=h
  simp only [nf] at h
  have hlt:j<c.Vers.length:=by omega
  try refine sb ?_;try exact ⟨⟩
  repeat' (first|(refine qz ?_ ?_<;>intro h)|refine qy ?_|(with_reducible apply jn)|refine qu ?_ ?_|exact qj|refine qw ?_|fail)
  all_goals first|(rw [show zE9 c.Vers t (j+1)=some (nth c.Vers j) by rw [zE9,if_pos h]];rfl)|(rw [show zE9 c.Vers t (j+1)=x by rw [zE9,if_neg (by omega),hI]];rfl)
 ·try simp (disch:=omega) only [go_sem,hE,hH,h]
  simp only [nf] at h
  rw [show j=c.Vers.length by omega] at hI
  subst hI
  repeat' (first|(refine qz ?_ ?_<;>intro h)|refine qy ?_|(with_reducible apply jn)|refine qu ?_ ?_|exact qj|refine qw ?_|fail)
  all_goals trace_state
theorem zXM (l:List Cell) (key:ByteArray) (t:Int) (hl:l.length≤2^60) (hs:zAO zAf Cell.Key l) (h1:∀ c∈l,c.Vers.length≤2^60):ACall p_ 61 [.sl false 2 (l.map (Cell.row false)),str key,i64 t] (fun r _=>r= .tup [str (zCG l key t).1,bl (zCG l key t).2]):=by
 have hmx:=zAd
 have hc:=zOI l key (by omega) hs
 cases hf:cF l key with
 |false=>
  rw [hf] at hc
  simp only [Bool.false_eq_true,if_false] at hc
  rw [zCG,hf]
  refine fg H61 fun E hE hH=> ?_
  repeat' (first|(refine qz ?_ ?_<;>intro h)|refine qy ?_|refine qo ?_|refine cq (hc) ?_|refine jn _ ?_ ?_|refine qu ?_ ?_|exact qe|refine qw ?_|fail)
  all_goals first|omega|rfl
 |true=>
  obtain ⟨k1,k2⟩:=zDd hs hf
  have cA:=zZC (nth l (cI l key)) t (h1 _ (zAc k1))
  rw [hf,if_pos rfl] at hc
  rw [zCG,hf,if_pos rfl,atC,zLc]
  cases hv:zE9 (nth l (cI l key)).Vers t (nth l (cI l key)).Vers.length with
  |none=>
   rw [hv] at cA
   rw [Option.getD_none,Option.isSome_none] at cA
   refine fg H61 fun E hE hH=> ?_
   repeat' (first|(refine qz ?_ ?_<;>intro h)|refine qy ?_|refine qo ?_|refine cq (hc) ?_|refine cq (cA) ?_|(with_reducible apply jn)|refine qu ?_ ?_|exact qj|refine qw ?_|fail)
   all_goals first|rfl|omega
  |some v=>
   rw [hv] at cA
   rw [Option.getD_some,Option.isSome_some] at cA
   refine fg H61 fun E hE hH=> ?_
   repeat' (first|(refine qz ?_ ?_<;>intro h)|refine qy ?_|refine qo ?_|refine cq (hc) ?_|refine cq (cA) ?_|(with_reducible apply jn)|refine qu ?_ ?_|exact qj|refine qw ?_|fail)
   all_goals first|rfl|omega
theorem zSZ {v:ByteArray} (h:stored v true=true):v=⟨#[]⟩:=by
 simp only [stored,Bool.true_and,Bool.and_eq_true,Bool.not_not,decide_eq_true_eq] at h
 exact h.2
theorem zVU {l:List Cell} {key:ByteArray} {t:Int} (hg:zAZ l=true) (h:(zCG l key t).2=false):(zCG l key t).1=⟨#[]⟩:=by
 have hI:=zB5 hg
 rw [zCG] at h ⊢
 cases hf:cF l key with
 |false=>rfl
 |true=>
  obtain ⟨k1,k2⟩:=zDd hI.srt hf
  rw [hf,if_pos rfl,atC,zLc] at h
  rw [if_pos rfl,atC,zLc]
  cases hv:zE9 (nth l (cI l key)).Vers t (nth l (cI l key)).Vers.length with
  |none=>rfl
  |some v=>
   rw [hv] at h
   have hm:=zR6 (Nat.le_refl _) hv
   obtain ⟨i,hi,rfl⟩:=List.getElem_of_mem hm
   simp only [zAZ,Bool.and_eq_true] at hg
   have h2:=zAs.1 hg.1 _ k1
   simp only [zCn,zD3,Bool.and_eq_true] at h2
   have h3:=zAs.1 h2.1.1.1 i hi
   simp only [zDH,Bool.and_eq_true,zAN hi] at h3
   simp only [Bool.not_eq_false'] at h
   have h4:=h3.1.2
   rw [h] at h4
   exact zSZ h4
def zBL (s:State) (t:Int):Option Told:=if tF s.Told t then some (nth s.Told (tI s.Told t)) else none
def zCh:Told:=⟨0,false,0⟩
theorem zMm (s:State) (t:Int):zOJ s.Told t=(zBL s t).getD zCh:=by
 rw [zOJ,zBL];split<;>rfl
theorem zON (s:State) (t:Int):tF s.Told t=(zBL s t).isSome:=by
 rw [zBL];split<;>simp_all
theorem zFW {w:World} (h:zAG w=true) {j:Nat} (hj:j<w.Groups.length):zBy (nth w.Groups j)=true∧((nth w.Groups j).Reps.length:Int)=3:=by
 simp only [zAG,Bool.and_eq_true] at h
 have h1:=h.1.1.1.1.1.1.1.1.2
 have:=zAs.1 h1 j hj
 simp only [zGf,Bool.and_eq_true,decide_eq_true_eq] at this
 exact this.1
theorem zAbd {g:Group} (h:zBy g=true):stI 60 (zC3 g):=by
 obtain ⟨h3,h5,hr⟩:=zIB h
 exact zAeI (hr _ (zAc (zHi (g:=g) (by omega) g.Reps.length (Nat.le_refl _))))
theorem zEp {w:World} (h:zAG w=true):1≤w.Groups.length∧w.Groups.length≤3∧w.Txns.length≤6∧w.Looks.length≤4:=by
 have hh:zCa w=true:=by simp only [zAG,Bool.and_eq_true] at h;exact h.1.1.1.1.1.1.1.1.1
 have h2:=zCb.1 hh
 simp only [zAG,Bool.and_eq_true,decide_eq_true_eq] at h
 obtain ⟨a1,_,a3,_⟩:=h2
 refine ⟨by omega,by omega, ?_, ?_⟩
 ·have:=h.1.1.1.1.2;omega
 ·have:=h.1.1.1.2;omega
theorem zNr (s:State) (t:Int) (hl:s.Told.length≤2^60) (hs:zAO ltI Told.Txn s.Told):ACall p_ 85 [.agg (State.row false s),i64 t] (fun r _=>r= .tup [.agg (Told.row false ((zBL s t).getD zCh)),bl (zBL s t).isSome]):=by
 have hmx:=zAd
 have hc:=zFU s t hl hs
 have z1:zCh.Txn=0:=rfl
 have z2:zCh.Yes=false:=rfl
 have z3:zCh.Time=0:=rfl
 cases hf:tF s.Told t with
 |false=>
  rw [hf] at hc
  rw [show zBL s t=none by rw [zBL,hf];rfl,Option.getD_none,Option.isSome_none]
  refine fg H85 fun E hE hH=> ?_
  all_goals (have y1_:=z1;have y2_:=z2;have y3_:=z3;repeat' (first|(refine zFc ?_ ?_<;>intro h)|refine qy ?_|refine zH8 ?_|refine zCF (hc) ?_|(with_reducible apply jn)|refine qu ?_ ?_|exact zFJ|refine zFd ?_|fail))
  all_goals first|rfl
 |true=>
  obtain ⟨k1,k2⟩:=zDl zBK hs hf
  rw [hf] at hc
  rw [show zBL s t=some (nth s.Told (tI s.Told t)) by rw [zBL,hf];rfl,Option.getD_some,Option.isSome_some]
  have k3:tI s.Told t<s.Told.length:=k1
  refine fg H85 fun E hE hH=> ?_
  repeat' (first|(refine qz ?_ ?_<;>intro h)|refine qy ?_|refine qo ?_|refine cq (hc) ?_|(with_reducible apply jn)|refine qu ?_ ?_|exact qj|refine qw ?_|fail)
  all_goals first|omega|rfl
theorem zQh (hS:zCD) (w:World) (hg:zAG w=true):ACall p_ 29 [.agg (World.row false w)] (fun r _=>r= .sl true 4 ((w.Groups.map zC3).map (State.row true))):=by
 have hmx:=zAd
 have hln:=zEp hg
 have hLn:(w.Groups.map zC3).length=w.Groups.length:=by simp
 have hLi:∀ j,j<w.Groups.length→nth (w.Groups.map zC3) j=zC3 (nth w.Groups j):=fun j hj=>zDA hj
 generalize hL:w.Groups.map zC3=L at*
 refine fg H29 fun E hE hH=> ?_
 repeat' (first|(refine qz ?_ ?_<;>intro h)|refine qy ?_|(with_reducible apply jn)|refine qu ?_ ?_|exact qj|refine qw ?_|fail)
 refine zAU w.Groups.length (fun j (_:Unit)=>⟨[(3, .ref 4000000 0 j),(8, .sl false 3 (w.Groups.map (Group.row false))),(9,i64 w.Groups.length),(10,i64 j)],[(4000000,⟨4,(L.take j).map (State.row true)⟩)]⟩) (fun _ _=>True) () rfl trivial ?_
 intro j _ hj _
 try simp only [go_sem,hE,hH,zWW]
 refine gG (fun h=> ?_) (fun h=> ?_)
 ·have hb:=h
  simp only [nf] at h
  have hlt:j<w.Groups.length:=by omega
  clear h
  obtain ⟨hgo, -⟩:=zFW hg hlt
  have cS:=zR4 hS _ hgo
  rw [←hLi j hlt] at cS
  have hn:(L.take j).length=j:=by rw [List.length_take];omega
  have ht:(L.take j).take j=L.take j:=by rw [List.take_take,Nat.min_self]
  try simp (disch:=omega) only [go_sem,hE,hH,hn,hb]
  all_goals (have y1_:=hn;repeat' (first|(refine zBC ?_ ?_<;>intro h)|refine qy ?_|refine zBX ?_|refine zAF (cS) ?_|(with_reducible apply jn)|refine qu ?_ ?_|exact zCd|refine zBA ?_|fail))
  repeat' (first|(refine both ?_ ?_)|omega|((first|apply zAJ|apply zBo)<;>(simp only [go_sem,hE,hH,hn];done))|fail)
  all_goals try simp only [ht,hn]
  all_goals try first|omega|exact Nat.le_trans (Nat.mul_le_mul_right _ (show j+1≤2^20+1 by omega)) (by decide)
  all_goals (
   refine ⟨(), ?_⟩
   rw [zAw (show j<L.length by omega),List.map_append]
   rfl)
 ·try simp (disch:=omega) only [go_sem,hE,hH,h]
  simp only [nf] at h
  rw [show j=w.Groups.length by omega, ←hLn,List.take_length]
  repeat' (first|(refine qz ?_ ?_<;>intro h)|refine qy ?_|(with_reducible apply jn)|refine qu ?_ ?_|exact qj|refine qw ?_|fail)
  all_goals first|rfl
theorem zZD {p:Nat→Bool} {n m:Nat} (hn:n≤m) (h1:∀ i,i<n→p i=true) (h2:∀ i,n≤i→i<m→p i=false):zCs p m=n:=by
 rw [zEB hn h2,zFt (zAs.2 h1)]
theorem zZE {l:List ByteArray} (h:zBw l=true):∀ i j,i<j→j<l.length→zAf (nth l i) (nth l j)=true:=by
 have key:∀ d i,i+d+1<l.length→zAf (nth l i) (nth l (i+d+1))=true:=by
  intro d
  induction d with
  |zero=>
   intro i hi
   have:=zAs.1 h (i+1) hi
   simp only [Bool.and_eq_true,Bool.or_eq_true,decide_eq_true_eq,Nat.add_sub_cancel] at this
   exact this.2.resolve_left (by omega)
  |succ d ih=>
   intro i hi
   have h3:=ih i (by omega)
   have:=zAs.1 h (i+(d+1)+1) (by omega)
   simp only [Bool.and_eq_true,Bool.or_eq_true,decide_eq_true_eq,Nat.add_sub_cancel] at this
   have h4:=this.2.resolve_left (by omega)
   rw [show i+d+1=i+(d+1) by omega] at h3
   exact zBk h3 h4
 intro i j hij hj
 have:=key (j-i-1) i (by omega)
 rwa [show i+(j-i-1)+1=j by omega] at this
def zBu (cuts:List ByteArray) (k:ByteArray):Nat:=zCs (fun i=> !zAf k (nth cuts i)) cuts.length
theorem zHj {cuts:List ByteArray} {k:ByteArray}:zBu cuts k≤cuts.length:=zGI
theorem zR7 {cuts:List ByteArray} {k:ByteArray} {n:Nat} (hr:zBw cuts=true) (hn:n≤cuts.length) (h1:∀ i,i<n→zAf k (nth cuts i)=false) (h2:n=cuts.length∨zAf k (nth cuts n)=true):zBu cuts k=n:=by
 refine zZD hn (fun i hi=>by rw [h1 i hi];rfl) fun i hi hl=> ?_
 rcases h2 with h2|h2
 ·omega
 ·by_cases e:i=n
  ·rw [e,h2];rfl
  ·rw [zBk h2 (zZE hr n i (by omega) hl)];rfl
def zR8 (s:State) (k:ByteArray) (t:Int):Got:=⟨k,(zCG s.Cells k t).1,(zCG s.Cells k t).2⟩
def zBz (cuts:List ByteArray) (L:List State) (got:List Got) (t:Int):List Got:=got.map fun g=>zR8 (nth L (zBu cuts g.Key)) g.Key t
theorem zKG {w:World} (h:zAG w=true):zCU w.Cuts=true∧(w.Groups.length:Int)=w.Cuts.length+1:=by
 have hh:zCa w=true:=by simp only [zAG,Bool.and_eq_true] at h;exact h.1.1.1.1.1.1.1.1.1
 have h2:=zCb.1 hh
 exact ⟨h2.2.1,h2.2.2.1⟩
theorem zNs (cuts:List ByteArray) (k:ByteArray) (hl:cuts.length≤2^20) (hr:zBw cuts=true):ACall p_ 62 [.sl false 1 (strs cuts),str k] (fun r _=>r=i64 (zBu cuts k)):=by
 have hmx:=zAd
 refine fg H62 fun E hE hH=> ?_
 repeat' (first|(refine qz ?_ ?_<;>intro h)|refine qy ?_|(with_reducible apply jn)|refine qu ?_ ?_|exact qj|refine qw ?_|fail)
 refine zHz (fun (n:Nat)=>⟨[(0, .sl false 1 (strs cuts)),(1,str k),(5,i64 n)],[]⟩) (fun n=>n≤cuts.length∧∀ i,i<n→zAf k (nth cuts i)=false) (fun n=>cuts.length-n) 0 ⟨by omega,fun i hi=>by omega⟩ ?_
 rintro n ⟨hn,hI⟩
 have hst:zAf k (nth cuts n)=false→∀ i,i<n+1→zAf k (nth cuts i)=false:=fun h i hi=>(Nat.lt_succ_iff_lt_or_eq.1 hi).elim (hI i) (fun e=>e▸h)
 try simp only [go_sem,hE,hH,zXf]
 repeat' (first|(refine qz ?_ ?_<;>intro h)|refine qy ?_|(with_reducible apply jn)|refine qu ?_ ?_|exact qj|refine qw ?_|fail)
 all_goals first|omega|(rw [zR7 hr hn hI (by first|(left;omega)|(right;simp_all;done))];done)|(rw [zR7 hr hn hI (by first|(left;omega)|(right;simp_all;done))];rfl)|exact ⟨n+1,rfl,⟨by omega,hst (by assumption)⟩,by omega⟩
theorem zZF (hC:zEF) (s:State) (k:ByteArray) (t:Int) (hc:zAZ s.Cells=true):ACall p_ 91 [.agg (State.row false s),str k,i64 t] (fun r _=>r= .agg (Got.row false (zR8 s k t))):=by
 have hmx:=zAd
 have hci:=zB5 hc
 have c1:=zXL hC s.Cells k t (by have:=hci.len;omega) hci.srt (fun c q=>by have:=(hci.one c q).2;omega)
 rw [zR8]
 generalize zCG s.Cells k t=q at*
 refine fg H91 fun E hE hH=> ?_
 repeat' (first|(refine qz ?_ ?_<;>intro h)|refine qy ?_|refine qo ?_|refine cq (c1) ?_|(with_reducible apply jn)|refine qu ?_ ?_|exact qj|refine qw ?_|fail)
 all_goals first|rfl
theorem zLB {α:Type} [Inhabited α] [DecidableEq α] {a b:List α} (h:a.length=b.length):decide (a=b)=zAg (fun i=>decide (nth a i=nth b i)) a.length:=by
 rw [Bool.eq_iff_iff,decide_eq_true_iff,zAs]
 constructor
 ·rintro rfl i _;simp
 ·intro hh
  apply List.ext_getElem h
  intro i h1 h2
  have:=of_decide_eq_true (hh i h1)
  rwa [zAN h1,zAN h2] at this
theorem zKH (a b:List Got) (ha:a.length≤2^20) (hb0:b.length≤2^20):ACall p_ 32 [.sl false 3 (a.map (Got.row false)), .sl false 3 (b.map (Got.row false))] (fun r _=>r=bl (decide (a=b))):=by
 have hmx:=zAd
 by_cases hl:a.length=b.length
 ·rw [zLB hl]
  refine fg H32 fun E hE hH=> ?_
  repeat' (first|(refine qz ?_ ?_<;>intro h)|refine qy ?_|(with_reducible apply jn)|refine qu ?_ ?_|exact qj|refine qw ?_|fail)
  all_goals try omega
  refine zAi a.length (fun j (_:Unit)=>⟨[(0, .sl false 3 (a.map (Got.row false))),(1, .sl false 3 (b.map (Got.row false))),(12,i64 a.length),(13,i64 j)],[]⟩) (fun j _=>zAg (fun i=>decide (nth a i=nth b i)) j=true) () rfl ?_
  intro j _ hj hI
  try simp only [go_sem,hE,hH,zOd]
  refine gG (fun h=> ?_) (fun h=> ?_)
  ·have hb:=h
   simp only [nf] at h
   have hlt:j<a.length:=by omega
   have hlb:j<b.length:=by omega
   have hge:=zAeB (a:=nth a j) (b:=nth b j)
   try refine sb ?_;try exact ⟨⟩
   repeat' (first|(refine qz ?_ ?_<;>intro h)|refine qy ?_|(with_reducible apply jn)|refine qu ?_ ?_|exact qj|refine qw ?_|fail)
   all_goals first|omega|exact ⟨(),rfl,zAa hI (by simp_all)⟩|(rw [zAm hlt (by simp_all)];done)
  ·try simp (disch:=omega) only [go_sem,hE,hH,h]
   simp only [nf] at h
   rw [show j=a.length by omega] at hI
   rw [hI]
   repeat' (first|(refine qz ?_ ?_<;>intro h)|refine qy ?_|(with_reducible apply jn)|refine qu ?_ ?_|exact qj|refine qw ?_|fail)
   all_goals first|rfl
 ·rw [decide_eq_false (fun e=>hl (by rw [e]))]
  refine fg H32 fun E hE hH=> ?_
  repeat' (first|(refine qz ?_ ?_<;>intro h)|refine qy ?_|(with_reducible apply jn)|refine qu ?_ ?_|exact qj|refine qw ?_|fail)
  all_goals first|rfl|omega
theorem zPP (hC:zEF) (w:World) (L:List State) (got:List Got) (t:Int) (hc:w.Cuts.length≤2^20) (hL:L.length=w.Cuts.length+1) (hs:∀ s∈L,zAZ s.Cells=true) (hg:got.length≤2^10):ACall p_ 33 [.agg (World.row false w), .sl false 4 (L.map (State.row false)), .sl false 3 (got.map (Got.row false)),i64 t] (fun r _=>r= .sl true 3 ((zBz w.Cuts L got t).map (Got.row true))):=by
 have hmx:=zAd
 have hRn:(zBz w.Cuts L got t).length=got.length:=by rw [zBz,List.length_map]
 have hRi:∀ j,j<got.length→nth (zBz w.Cuts L got t) j=zR8 (nth L (zBu w.Cuts (nth got j).Key)) (nth got j).Key t:=fun j hj=>by rw [zBz,zDA hj]
 generalize zBz w.Cuts L got t=R at*
 refine fg H33 fun E hE hH=> ?_
 repeat' (first|(refine qz ?_ ?_<;>intro h)|refine qy ?_|(with_reducible apply jn)|refine qu ?_ ?_|exact qj|refine qw ?_|fail)
 refine zAU got.length (fun j (_:Unit)=>⟨[(1, .sl false 4 (L.map (State.row false))),(3,i64 t),(4, .ptr 5000000 0 0),(9, .ref 10000000 0 j),(13, .sl false 3 (got.map (Got.row false))),(14,i64 got.length),(15,i64 j)],[(5000000,⟨9,[World.row false w]⟩),(10000000,⟨3,(R.take j).map (Got.row true)⟩)]⟩) (fun _ _=>True) () rfl trivial ?_
 intro j _ hj _
 try simp only [go_sem,hE,hH,zW1]
 refine gG (fun h=> ?_) (fun h=> ?_)
 ·have hb:=h
  simp only [nf] at h
  have hlt:j<got.length:=by omega
  clear h
  have hp:=zHj (cuts:=w.Cuts) (k:=(nth got j).Key)
  have cP:ACall p_ 92 [.sl false 1 (strs w.Cuts),str (nth got j).Key] (fun r _=>r=i64 (zBu w.Cuts (nth got j).Key)):=zPE w.Cuts (nth got j).Key (by omega)
  have hpL:zBu w.Cuts (nth got j).Key<L.length:=by omega
  have cG:=zZF hC (nth L (zBu w.Cuts (nth got j).Key)) (nth got j).Key t (hs _ (zAc hpL))
  rw [←hRi j hlt] at cG
  generalize zBu w.Cuts (nth got j).Key=p at*
  have hn:(R.take j).length=j:=by rw [List.length_take];omega
  have ht:(R.take j).take j=R.take j:=by rw [List.take_take,Nat.min_self]
  try simp (disch:=omega) only [go_sem,hE,hH,hn,hb]
  all_goals (have y1_:=hn;repeat' (first|(refine zBC ?_ ?_<;>intro h)|refine qy ?_|refine zBX ?_|refine zAF (cP) ?_|refine zAF (cG) ?_|(with_reducible apply jn)|refine qu ?_ ?_|exact zCd|refine zBA ?_|fail))
  repeat' (first|(refine both ?_ ?_)|omega|((first|apply zAJ|apply zBo)<;>(simp only [go_sem,hE,hH,hn];done))|fail)
  all_goals try simp only [ht,hn]
  all_goals try first|omega|exact Nat.le_trans (Nat.mul_le_mul_right _ (show j+1≤2^20+1 by omega)) (by decide)
  all_goals (
   refine ⟨(), ?_⟩
   rw [zAw (show j<R.length by omega),List.map_append]
   rfl)
 ·try simp (disch:=omega) only [go_sem,hE,hH,h]
  simp only [nf] at h
  rw [show j=got.length by omega, ←hRn,List.take_length]
  repeat' (first|(refine qz ?_ ?_<;>intro h)|refine qy ?_|(with_reducible apply jn)|refine qu ?_ ?_|exact qj|refine qw ?_|fail)
  all_goals first|rfl
theorem zR9 {w:World} (h:zAG w=true) {j:Nat} (hj:j<w.Looks.length):zBQ w (nth w.Looks j)=true:=by
 simp only [zAG,Bool.and_eq_true] at h
 exact List.all_eq_true.1 h.2 _ (zAc hj)
theorem zKI {w:World} (h:zAG w=true):(w.Groups.map zC3).length=w.Cuts.length+1:=by
 have:=(zKG h).2
 rw [List.length_map];omega
def zHL (cuts:List ByteArray) (L:List State) (t:Int) (g:Got):Bool:=((zCG (nth L (zBu cuts g.Key)).Cells g.Key t).2==g.There)&&(!g.There||decide ((zCG (nth L (zBu cuts g.Key)).Cells g.Key t).1=g.Val))
theorem zVV {cuts:List ByteArray} {L:List State} {got:List Got} {t:Int} (hL:L.length=cuts.length+1) (hs:∀ s∈L,zAZ s.Cells=true) (hg:zAK got=true):decide (zBz cuts L got t=got)=zAg (fun i=>zHL cuts L t (nth got i)) got.length:=by
 have hn:(zBz cuts L got t).length=got.length:=by rw [zBz,List.length_map]
 rw [zLB hn,hn]
 refine zES fun i hi=> ?_
 rw [zBz,zDA hi]
 simp only [zAK,Bool.and_eq_true] at hg
 have h1:=zAs.1 hg.1 i hi
 simp only [Bool.and_eq_true] at h1
 have h2:stored (nth got i).Val (!(nth got i).There)=true:=h1.1.2
 have hp:=zHj (cuts:=cuts) (k:=(nth got i).Key)
 have h3:=hs _ (zAc (show zBu cuts (nth got i).Key<L.length by omega))
 have h4:=zVU (key:=(nth got i).Key) (t:=t) h3
 rw [zHL,zR8]
 generalize zCG (nth L (zBu cuts (nth got i).Key)).Cells (nth got i).Key t=q at*
 rcases q with ⟨v,b⟩
 generalize nth got i=g at*
 rcases g with ⟨k,gv,gt⟩
 simp only [stored,Bool.and_eq_true] at h2 h4 ⊢
 cases b<;>cases gt<;>simp_all
theorem zJE (cuts:List ByteArray) (L:List State) (got:List Got) (t:Int) (hc:cuts.length≤2^20) (hr:zBw cuts=true) (hL:L.length=cuts.length+1) (hs:∀ s∈L,zAZ s.Cells=true) (hg:zAK got=true):ACall p_ 20 [.sl false 1 (strs cuts), .sl false 4 (L.map (State.row false)), .sl false 3 (got.map (Got.row false)),i64 t] (fun r _=>r=bl (decide (zBz cuts L got t=got))):=by
 have hmx:=zAd
 rw [zVV hL hs hg]
 have hg8:got.length≤8:=by simp only [zAK,Bool.and_eq_true,decide_eq_true_eq] at hg;omega
 clear hg
 generalize hp0:zAg (fun i=>zHL cuts L t (nth got i)) got.length=ans
 refine fg H20 fun E hE hH=> ?_
 repeat' (first|(refine qz ?_ ?_<;>intro h)|refine qy ?_|(with_reducible apply jn)|refine qu ?_ ?_|exact qj|refine qw ?_|fail)
 refine zAi got.length (fun j (_:Unit)=>⟨[(0, .sl false 1 (strs cuts)),(1, .sl false 4 (L.map (State.row false))),(3,i64 t),(13, .sl false 3 (got.map (Got.row false))),(14,i64 got.length),(15,i64 j)],[]⟩) (fun j _=>zAg (fun i=>zHL cuts L t (nth got i)) j=true) () rfl ?_
 intro j _ hj hI
 try simp only [go_sem,hE,hH,zWR]
 refine gG (fun h=> ?_) (fun h=> ?_)
 ·have hb:=h
  simp only [nf] at h
  have hlt:j<got.length:=by omega
  clear h
  have hp:=zHj (cuts:=cuts) (k:=(nth got j).Key)
  have cP:=zNs cuts (nth got j).Key hc hr
  have hpL:zBu cuts (nth got j).Key<L.length:=by omega
  have hci:=zB5 (hs _ (zAc hpL))
  have cL:=zXM (nth L (zBu cuts (nth got j).Key)).Cells (nth got j).Key t (by have:=hci.len;omega) hci.srt (fun c q=>by have:=(hci.one c q).2;omega)
  have hno:zHL cuts L t (nth got j)=false→ans=false:=fun e=>by rw [←hp0];exact zAm hlt e
  have hst:zHL cuts L t (nth got j)=true→zAg (fun i=>zHL cuts L t (nth got i)) (j+1)=true:=fun e=>zAa hI e
  rw [zHL] at hno hst
  generalize zBu cuts (nth got j).Key=p at*
  generalize zCG (nth L p).Cells (nth got j).Key t=q at*
  rcases q with ⟨v,b⟩
  try refine sb ?_;try exact ⟨⟩
  repeat' (first|(refine qz ?_ ?_<;>intro h)|refine qy ?_|refine qo ?_|refine cq (cP) ?_|refine cq (cL) ?_|(with_reducible apply jn)|refine qu ?_ ?_|exact qj|refine qw ?_|fail)
  all_goals first|omega|exact ⟨(),rfl,hst (by simp_all)⟩|(rw [hno (by simp_all)];done)|(rw [hno (by simp_all)];rfl)
 ·try simp (disch:=omega) only [go_sem,hE,hH,h]
  simp only [nf] at h
  rw [show j=got.length by omega,hp0] at hI
  rw [hI]
  repeat' (first|(refine qz ?_ ?_<;>intro h)|refine qy ?_|(with_reducible apply jn)|refine qu ?_ ?_|exact qj|refine qw ?_|fail)
  all_goals first|rfl
abbrev sD (l:List UInt8):T:= .v (.string ⟨⟨l⟩⟩)
def zDS:Nat→Nat→List UInt8
 |0,_=>[]
 |k+1,u=>if u<10 then [UInt8.ofNat (48+u)] else zDS k (u/10)++[UInt8.ofNat (48+u%10)]
def dgt (u:Nat):List UInt8:=zDS 20 u
theorem zOO:∀ (k m u:Nat),u<10^k→k≤m→1≤k→zDS m u=zDS k u
 |0,_,_,_,_,h=>absurd h (by omega)
 |k+1,m,u,hu,hm,_=>by
  obtain ⟨m,rfl⟩:∃ n,m=n+1:=⟨m-1,by omega⟩
  simp only [zDS]
  by_cases h:u<10
  ·rw [if_pos h,if_pos h]
  ·rw [if_neg h,if_neg h,zOO k m (u/10) (by rw [Nat.pow_succ] at hu;omega) (by omega) (by
    rcases Nat.eq_zero_or_pos k with rfl|h1
    ·simp at hu;omega
    ·exact h1)]
theorem zHk:∀ (k u:Nat),1≤k→1≤(zDS k u).length∧(zDS k u).length≤k
 |0,_,h=>absurd h (by omega)
 |k+1,u,_=>by
  simp only [zDS]
  split
  ·simp
  ·rcases Nat.eq_zero_or_pos k with rfl|h1
   ·simp [zDS]
   ·have:=zHk k (u/10) h1
    simp;omega
@[go_sem] theorem zAkR (a b:List UInt8):(⟨⟨a⟩⟩:ByteArray)++⟨⟨b⟩⟩=⟨⟨a++b⟩⟩:=by
 apply ByteArray.ext
 rw [ByteArray.data_append]
 simp
@[go_sem] theorem zAj4 (a:List UInt8):(⟨⟨a⟩⟩:ByteArray).size=a.length:=rfl
theorem zUm {u:Nat} (h:u<256):IntKind.u8.wrap (u:Int)=u:=by
 simp [IntKind.wrap,IntKind.bits,IntKind.signed];omega
@[go_sem] theorem zAbl (n:Int):zCR [.v (.int .u8 n)]=true:=rfl
theorem zVW (n:Int):Am.byteOf [.v (.int .u8 n)]=UInt8.ofNat n.toNat:=rfl
theorem zUn {u:Nat} (h:u<10):bytesOf [[.v (.int .u8 (IntKind.u8.wrap (48+(u:Int))))]]=⟨⟨[UInt8.ofNat (48+u)]⟩⟩:=by
 have e:(48:Int)+u=((48+u:Nat):Int):=by omega
 rw [e,zUm (by omega)]
 simp only [bytesOf,List.map_cons,List.map_nil,zVW]
 rfl
theorem zPQ:∀ (k u:Nat),u<10^k→1≤k→k≤18→ACall p_ 215 [i64 u] (fun r _=>r=sD (zDS k u))
 |0,_,_,h,_=>absurd h (by omega)
 |k+1,u,hu,_,hk=>by
  have hmx:=zAd
  have hp:10^(k+1)≤10^18:=Nat.pow_le_pow_right (by omega) hk
  by_cases h:u<10
  ·have e:=zUn h
   have e2:zDS (k+1) u=[UInt8.ofNat (48+u)]:=by simp only [zDS];rw [if_pos h]
   refine fg H215 fun E hE hH=> ?_
   all_goals (have y1_:=e;have y2_:=e2;repeat' (first|(refine zCJ ?_ ?_<;>intro h)|refine qy ?_|(with_reducible apply jn)|refine qu ?_ ?_|exact zCK|refine zCL ?_|fail))
   all_goals first|omega|(exfalso;omega)|rfl
  ·have hk1:1≤k:=by
    rcases Nat.eq_zero_or_pos k with rfl|h1
    ·simp at hu;omega
    ·exact h1
   have e:=zUn (show u%10<10 by omega)
   have e2:zDS (k+1) u=zDS k (u/10)++[UInt8.ofNat (48+u%10)]:=by simp only [zDS];rw [if_neg h]
   have ih:=zPQ k (u/10) (by rw [Nat.pow_succ] at hu;omega) hk1 (by omega)
   have e3:((u:Nat):Int).tdiv 10=((u/10:Nat):Int):=by rw [show (10:Int)=((10:Nat):Int) from rfl,Int.ofNat_tdiv]
   have e4:((u:Nat):Int).tmod 10=((u%10:Nat):Int):=by rw [show (10:Int)=((10:Nat):Int) from rfl,Int.ofNat_tmod]
   have hl:=zHk k (u/10) hk1
   refine fg H215 fun E hE hH=> ?_
   all_goals (have y1_:=e;have y2_:=e2;have y3_:=e3;have y4_:=e4;repeat' (first|(refine zIc ?_ ?_<;>intro h)|refine qy ?_|refine zO2 ?_|refine zDW (ih) ?_|(with_reducible apply jn)|refine qu ?_ ?_|exact zId|refine zIe ?_|fail))
   all_goals first|omega|(exfalso;omega)|rfl
theorem zSa (u:Nat) (hu:u<10^18):ACall p_ 215 [i64 u] (fun r _=>r=sD (dgt u)):=by
 rw [dgt,zOO 18 20 u hu (by omega) (by omega)]
 exact zPQ 18 u hu (by omega) (by omega)
def zHl (s:List UInt8) (i:Nat):Bool:=decide (48≤(s.getD i 0).toNat)&&decide ((s.getD i 0).toNat≤57)
def zBM (s:List UInt8):Nat:=s.foldl (fun n c=>10*n+(c.toNat-48)) 0
def zH7 (s:List UInt8):Bool:=decide (1≤s.length)&&decide (s.length≤6)&& !(decide ((s.getD 0 0).toNat=48)&&decide (1<s.length))
def rdI (s:List UInt8):Int:=if zH7 s&&zAg (zHl s) s.length then (zBM s:Int) else -1
theorem zOP {a:UInt8} (h:48≤a.toNat):UInt8.ofNat (48+(a.toNat-48))=a:=by
 rw [show 48+(a.toNat-48)=a.toNat by omega];simp
theorem zPR {s:List UInt8} {j:Nat} (h:j<s.length):zBM (s.take (j+1))=10*zBM (s.take j)+((s.getD j 0).toNat-48):=by
 have e:s.take (j+1)=s.take j++[s.getD j 0]:=by
  rw [List.take_succ_eq_append_getElem h];simp [List.getD,h]
 rw [e,zBM,List.foldl_append];rfl
theorem zAbe (s:List UInt8):zBM s≤210*10^s.length:=by
 have h:∀ (l:List UInt8) (n m:Nat),n≤210*m→l.foldl (fun n c=>10*n+(c.toNat-48)) n+210≤210*((m+1)*10^l.length):=by
  intro l
  induction l with
  |nil=>intro n m h;simp;omega
  |cons a l ih=>
   intro n m h
   have ha:a.toNat<256:=UInt8.toNat_lt _
   have:=ih (10*n+(a.toNat-48)) (10*m+9) (by omega)
   simp only [List.foldl_cons,List.length_cons,Nat.pow_succ]
   refine Nat.le_trans this (Nat.mul_le_mul_left _ ?_)
   rw [show 10*m+9+1=10*(m+1) by omega,Nat.mul_comm (10^l.length) 10, ←Nat.mul_assoc,Nat.mul_comm (m+1) 10]
   exact Nat.le_refl _
 have:=h s 0 0 (by omega)
 simp only [zBM]
 omega
theorem zAeK {s:List UInt8} {j:Nat} (hj:j<s.length) (h:¬ (48≤(s.getD j 0).toNat∧(s.getD j 0).toNat≤57)):rdI s= -1:=by
 have:zAg (zHl s) s.length=false:=zAm hj (by
  simp only [zHl,Bool.and_eq_false_iff,decide_eq_false_iff_not];omega)
 rw [rdI,this];simp
theorem zXN {s:List UInt8} {j:Nat} (hj:j<s.length) (h1:48≤(s.getD j 0).toNat) (h2:(s.getD j 0).toNat≤57) (hv:zBM (s.take j)≤210000000):IntKind.i64.wrap (10*(zBM (s.take j):Int)+IntKind.i64.wrap (IntKind.u8.wrap (((s.getD j 0).toNat:Int)-48)))=(zBM (s.take (j+1)):Int):=by
 have e:(((s.getD j 0).toNat:Int)-48)=(((s.getD j 0).toNat-48:Nat):Int):=by omega
 have e2:IntKind.i64.wrap (((s.getD j 0).toNat-48:Nat):Int)=(((s.getD j 0).toNat-48:Nat):Int):=Go.IntWalk.i64_in _ (by omega)
 rw [e,zUm (by omega),e2,Go.IntWalk.i64_in _ (by omega),zPR hj]
 omega
theorem zKJ (s:List UInt8) (hl:s.length≤2^20):ACall p_ 214 [sD s] (fun r _=>r=i64 (rdI s)):=by
 have hmx:=zAd
 cases hs:zH7 s with
 |false=>
  have e:rdI s= -1:=by rw [rdI,hs];rfl
  simp only [zH7,Bool.and_eq_false_iff,decide_eq_false_iff_not,Bool.not_eq_false',Bool.and_eq_true,decide_eq_true_eq] at hs
  refine fg H214 fun E hE hH=> ?_
  all_goals (have y1_:=e;repeat' (first|((with_reducible apply ga)<;>(intro h;have hb:=h;(try simp only [nf,zBl,zHd] at h);simp (disch:=omega) only [go_sem,hE,hH,e,hb];(try clear hb)))|((with_reducible apply an);· omega)|refine zBX ?_|refine zAF (zBs _ _ _) ?_|refine jn _ ?_ ?_|refine qu ?_ ?_|exact zKQ|refine zBA ?_|fail))
  all_goals first|omega|(exfalso;omega)|rfl
 |true=>
  have hs':=hs
  simp only [zH7,Bool.and_eq_true,decide_eq_true_eq,Bool.not_eq_true',Bool.and_eq_false_iff,decide_eq_false_iff_not] at hs
  obtain ⟨⟨h1,h2⟩,h3⟩:=hs
  refine fg H214 fun E hE hH=> ?_
  repeat' (first|((with_reducible apply ga)<;>(intro h;have hb:=h;(try simp only [nf,zBl,zHd] at h);simp (disch:=omega) only [go_sem,hE,hH,hb];(try clear hb)))|((with_reducible apply an);· omega)|refine qo ?_|refine cq (zBs _ _ _) ?_|refine jn _ ?_ ?_|refine qu ?_ ?_|exact qe|refine qw ?_|fail)
  all_goals try (exfalso;omega)
  all_goals try omega
  all_goals (
   refine zAi s.length (fun j (_:Unit)=>⟨[(0,sD s),(3,i64 (zBM (s.take j))),(4,i64 j)],[]⟩) (fun j _=>zAg (zHl s) j=true) () rfl ?_
   intro j _ hj hI
   have hb:(s.getD j 0).toNat<256:=UInt8.toNat_lt _
   have hv:=zAbe (s.take j)
   have hpow:10^(s.take j).length≤10^6:=Nat.pow_le_pow_right (by omega) (by simp;omega)
   have hvb:zBM (s.take j)≤210000000:=by omega
   try simp only [go_sem,hE,hH,zTS]
   refine gG (fun q1=> ?_) (fun q1=> ?_)
   ·have hb1:=q1
    simp only [nf] at q1
    try simp (disch:=omega) only [go_sem,hE,hH,hb1]
    repeat' (first|((with_reducible apply ga)<;>(intro h;have hb:=h;(try simp only [nf,zBl,zHd] at h);simp (disch:=omega) only [go_sem,hE,hH,hb];(try clear hb)))|((with_reducible apply an);· omega)|refine jn _ ?_ ?_|refine qu ?_ ?_|exact qe|refine qw ?_|fail)
    all_goals first|(rw [zAeK (show j<s.length by omega) (by omega)];done)|exact ⟨(),by rw [zXN q1 (by omega) (by omega) hvb];rfl,zAa hI (by simp only [zHl,Bool.and_eq_true,decide_eq_true_eq];omega)⟩
   ·try simp (disch:=omega) only [go_sem,hE,hH,q1]
    simp only [nf] at q1
    have ej:j=s.length:=by omega
    subst ej
    have e:rdI s=(zBM s:Int):=by rw [rdI,hs',hI];rfl
    rw [List.take_length,e])
def zCI (s:List UInt8):Option Int:=
 if s.getD 0 0=45 then (if 1≤rdI s.tail then some (-(rdI s.tail)) else none) else if 0≤rdI s then some (rdI s) else none
abbrev zHm (q:Option Int):T:= .tup [i64 (q.getD 0),bl q.isSome]
theorem zNt {s:List UInt8}: -1≤rdI s∧rdI s≤999999:=by
 rw [rdI]
 split
 ·rename_i h
  simp only [Bool.and_eq_true] at h
  obtain ⟨hs,hd⟩:=h
  rw [zAs] at hd
  simp only [zH7,Bool.and_eq_true,decide_eq_true_eq] at hs
  have key:∀ n,n≤s.length→zBM (s.take n)+1≤10^n:=by
   intro n
   induction n with
   |zero=>intro _;exact Nat.le_refl _
   |succ n ih=>
    intro hn
    have h1:=ih (by omega)
    have h2:=hd n (by omega)
    simp only [zHl,Bool.and_eq_true,decide_eq_true_eq] at h2
    rw [zPR (by omega),Nat.pow_succ]
    omega
  have h1:=key s.length (Nat.le_refl _)
  rw [List.take_length] at h1
  have h2:10^s.length≤10^6:=Nat.pow_le_pow_right (by omega) hs.1.2
  omega
 ·omega
theorem zAbf {s:List UInt8}: -999999≤(zCI s).getD 0∧(zCI s).getD 0≤999999:=by
 have h1:=zNt (s:=s)
 have h2:=zNt (s:=s.tail)
 rw [zCI]
 split
 ·split
  ·rw [Option.getD_some];omega
  ·rw [Option.getD_none];omega
 ·split
  ·rw [Option.getD_some];omega
  ·rw [Option.getD_none];omega
def zB4 (b:ByteArray):Option Int:=zCI b.data.toList
theorem zUo {b:ByteArray}: -999999≤(zB4 b).getD 0∧(zB4 b).getD 0≤999999:=zAbf
abbrev zGi:Prop:=∀ s:List UInt8,s.length≤100→ACall p_ 229 [sD s,i64 (-999999),i64 999999] (fun r _=>r=zHm (zCI s))
theorem zLC (hR:zGi) (b:ByteArray) (hb:b.size≤100):ACall p_ 193 [str b] (fun r _=>r=zHm (zB4 b)):=by
 have hmx:=zAd
 have c1:ACall p_ 229 [str b,i64 (-999999),i64 999999] (fun r _=>r=zHm (zB4 b)):=hR b.data.toList hb
 generalize zB4 b=q at*
 refine fg H193 fun E hE hH=> ?_
 repeat' (first|(refine qz ?_ ?_<;>intro h)|refine qy ?_|refine qo ?_|refine cq (c1) ?_|(with_reducible apply jn)|refine qu ?_ ?_|exact qj|refine qw ?_|fail)
 all_goals first|rfl
theorem zSb (b:ByteArray) (hb:b.size≤100):ACall p_ 168 [str b] (fun r _=>r=zHm (zB4 b)):=by
 have hmx:=zAd
 obtain ⟨⟨s⟩⟩:=b
 have hb:s.length≤100:=hb
 rw [show zB4 ⟨⟨s⟩⟩=zCI s from rfl]
 have h1:=zNt (s:=s)
 have h2:=zNt (s:=s.tail)
 rcases s with _|⟨a,r⟩
 ·have e:zCI []=none:=by decide
  have cR:=zKJ [] (by simp)
  have e2:rdI []= -1:=by decide
  rw [e]
  rw [e2] at cR
  simp only [zHm,Option.getD_some,Option.isSome_some,Option.getD_none,Option.isSome_none]
  refine fg zRz fun E hE hH=> ?_
  repeat' (first|(refine qz ?_ ?_<;>intro h)|refine qy ?_|refine qo ?_|refine cq (cR) ?_|(with_reducible apply jn)|refine qu ?_ ?_|exact qj|refine qw ?_|fail)
  all_goals first|rfl|(exfalso;omega)
 ·rw [List.tail_cons] at h2
  have hlen:(a::r).length=r.length+1:=rfl
  have hdrop:List.drop 1 (a::r)=r:=rfl
  have htk:List.take r.length r=r:=List.take_length
  have hg:(a::r).getD 0 0=a:=rfl
  by_cases ha:a=45
  ·subst ha
   have cR:=zKJ r (by simp at hb;omega)
   have h45:UInt8.toNat 45=45:=rfl
   by_cases hv:1≤rdI r
   ·have e:zCI (45::r)=some (-(rdI r)):=by rw [zCI,hg,if_pos rfl,List.tail_cons,if_pos hv]
    rw [e]
    simp only [zHm,Option.getD_some,Option.isSome_some,Option.getD_none,Option.isSome_none]
    refine fg zRz fun E hE hH=> ?_
    all_goals (have y1_:=hg;have y2_:=hdrop;have y3_:=htk;have y4_:=hlen;have y5_:=h45;repeat' (first|(refine zH9 ?_ ?_<;>intro h)|refine qy ?_|refine zSk ?_|refine zFK (cR) ?_|(with_reducible apply jn)|refine qu ?_ ?_|exact zIa|refine zIb ?_|fail))
    all_goals first|rfl|(exfalso;omega)|(rw [Int.zero_sub];done)
   ·have e:zCI (45::r)=none:=by rw [zCI,hg,if_pos rfl,List.tail_cons,if_neg hv]
    rw [e]
    simp only [zHm,Option.getD_some,Option.isSome_some,Option.getD_none,Option.isSome_none]
    refine fg zRz fun E hE hH=> ?_
    all_goals (have y1_:=hg;have y2_:=hdrop;have y3_:=htk;have y4_:=hlen;have y5_:=h45;repeat' (first|(refine zH9 ?_ ?_<;>intro h)|refine qy ?_|refine zSk ?_|refine zFK (cR) ?_|(with_reducible apply jn)|refine qu ?_ ?_|exact zIa|refine zIb ?_|fail))
    all_goals first|rfl|(exfalso;omega)|(rw [Int.zero_sub];done)
  ·have cR:=zKJ (a::r) (by omega)
   have hat:a.toNat≠45:=fun h=>ha (UInt8.toNat_inj.1 h)
   by_cases hv:0≤rdI (a::r)
   ·have e:zCI (a::r)=some (rdI (a::r)):=by rw [zCI,hg,if_neg ha,if_pos hv]
    rw [e]
    simp only [zHm,Option.getD_some,Option.isSome_some,Option.getD_none,Option.isSome_none]
    refine fg zRz fun E hE hH=> ?_
    all_goals (have y1_:=hg;have y2_:=hlen;repeat' (first|(refine zCJ ?_ ?_<;>intro h)|refine qy ?_|refine zFe ?_|refine zBY (cR) ?_|(with_reducible apply jn)|refine qu ?_ ?_|exact zCK|refine zCL ?_|fail))
    all_goals first|rfl|(exfalso;omega)|(rw [Int.zero_sub];done)
   ·have e:zCI (a::r)=none:=by rw [zCI,hg,if_neg ha,if_neg hv]
    rw [e]
    simp only [zHm,Option.getD_some,Option.isSome_some,Option.getD_none,Option.isSome_none]
    refine fg zRz fun E hE hH=> ?_
    all_goals (have y1_:=hg;have y2_:=hlen;repeat' (first|(refine zCJ ?_ ?_<;>intro h)|refine qy ?_|refine zFe ?_|refine zBY (cR) ?_|(with_reducible apply jn)|refine qu ?_ ?_|exact zCK|refine zCL ?_|fail))
    all_goals first|rfl|(exfalso;omega)|(rw [Int.zero_sub];done)
theorem zFX {α:Type} {R:α→α→Prop} (has:∀ a b,R a b→¬ R b a):∀ {a b:List α},a.Pairwise R→b.Pairwise R→(∀ x,x∈a↔x∈b)→a=b
 |[],[],_,_,_=>rfl
 |[],y::b,_,_,h=>absurd ((h y).2 List.mem_cons_self) List.not_mem_nil
 |x::a,[],_,_,h=>absurd ((h x).1 List.mem_cons_self) List.not_mem_nil
 |x::a,y::b,ha,hb,h=>by
  obtain ⟨a1,a2⟩:=List.pairwise_cons.1 ha
  obtain ⟨b1,b2⟩:=List.pairwise_cons.1 hb
  have exy:x=y:=by
   have h1:=(h x).1 List.mem_cons_self
   have h2:=(h y).2 List.mem_cons_self
   rw [List.mem_cons] at h1 h2
   rcases h1 with h1|h1
   ·exact h1
   ·rcases h2 with h2|h2
    ·exact h2.symm
    ·exact absurd (a1 y h2) (has y x (b1 x h1))
  subst exy
  have hx:∀ z,R x z→z≠x:=fun z hz e=>by subst e;exact has _ _ hz hz
  rw [zFX has a2 b2 fun z=>⟨fun hz=>(List.mem_cons.1 ((h z).1 (List.mem_cons_of_mem _ hz))).resolve_left (hx z (a1 z hz)),fun hz=>(List.mem_cons.1 ((h z).2 (List.mem_cons_of_mem _ hz))).resolve_left (hx z (b1 z hz))⟩]
theorem zIC {α:Type} [Inhabited α] {κ:Type} {lt:κ→κ→Bool} {f:α→κ} {l:List α} (h:zAO lt f l):l.Pairwise fun a b=>lt (f a) (f b)=true:=by
 rw [List.pairwise_iff_getElem]
 intro i j hi hj hij
 have:=h i j hij hj
 rwa [zAN hi,zAN hj] at this
theorem zOQ:∀ {l:List ByteArray},wkL l→(zBB l).Pairwise fun a b=>zAf a b=true
 |[],_=>List.Pairwise.nil
 |[y],_=>by simp [zBB]
 |y::z::t,h=>by
  unfold zBB
  have ht:wkL (z::t):=(List.pairwise_cons.1 h).2
  split
  ·exact zOQ ht
  ·rename_i e
   refine List.pairwise_cons.2 ⟨fun m hm=> ?_,zOQ ht⟩
   rw [zEy,List.mem_cons] at hm
   have h1:=(List.pairwise_cons.1 h).1 z List.mem_cons_self
   rcases zBI y z with q|q|q
   ·rcases hm with hm|hm
    ·rw [hm];exact q
    ·have h2:=(List.pairwise_cons.1 ht).1 m hm
     rcases zBI z m with p|p|p
     ·exact zBk q p
     ·rw [←p];exact q
     ·rw [h2] at p;cases p
   ·exact absurd q e
   ·rw [h1] at q;cases q
def zDo (reads:List ByteArray) (ws:List Write):List ByteArray:=(reads++ws.map (·.Key)).foldl zA5 []
theorem zJe {reads:List ByteArray} {ws:List Write}:zAO zAf id (zDo reads ws):=zED fun i j _ h=>absurd h (Nat.not_lt_zero _)
theorem zJf {reads:List ByteArray} {ws:List Write} {x:ByteArray}:x∈zDo reads ws↔x∈reads++ws.map (·.Key):=by
 rw [zDo,zHJ];simp
theorem zMn {reads:List ByteArray} {ws:List Write}:(zDo reads ws).length≤reads.length+ws.length:=by
 have:=zDQ (ws:=reads++ws.map (·.Key)) (l:=[])
 simp only [List.length_append,List.length_map,List.length_nil] at this
 rw [zDo];omega
theorem zAbg {reads:List ByteArray} {ws:List Write}:zBB (zBp (reads++ws.map (·.Key)))=zDo reads ws:=by
 refine zFX (R:=fun a b=>zAf a b=true) (fun a b h k=> ?_) (zOQ (zRZ _)) (zIC zJe) fun x=> ?_
 ·have:=zBk h k;rw [zBm] at this;cases this
 ·rw [zEy,zKB,zJf]
def zZG (a b:Int):Int:=if a<b then -1 else if b<a then 1 else 0
theorem zZH:Ord ltI zZG:=⟨fun a b=>by unfold zZG ltI;split<;>(try split)<;>simp_all,fun a b=>by unfold zZG;split<;>(try split)<;>omega,fun a=>by simp [ltI],fun a b c=>by simp only [ltI,decide_eq_true_eq];omega,fun a b=>by simp only [ltI,decide_eq_true_eq];omega⟩
abbrev zHn (l:List Int):Prop:=zAO ltI (fun x:Int=>x) l
abbrev iK (l:List Int) (x:Int):Nat:=fxI ltI (fun x:Int=>x) l x
abbrev fK (l:List Int) (x:Int):Bool:=fxF (fun x:Int=>x) l x
def zDe (l:List Int) (x:Int):List Int:=if fK l x=true then l else putAt l (iK l x) x
theorem zAeL {l:List Int} {x:Int}:fK l x=true↔x∈l:=by
 unfold fK fxF
 rw [List.any_eq_true]
 exact ⟨fun ⟨y,h1,h2⟩=>by rw [decide_eq_true_eq] at h2;exact h2▸h1,fun h=>⟨x,h,by simp⟩⟩
theorem zVX {l:List Int} {x y:Int}:y∈zDe l x↔y=x∨y∈l:=by
 unfold zDe
 split
 ·rename_i h
  exact ⟨.inr,fun e=>e.elim (fun e=>e▸zAeL.1 h) id⟩
 ·exact zGd
theorem zVY {l:List Int} {x:Int} (h:zHn l):zHn (zDe l x):=by
 unfold zDe
 split
 ·exact h
 ·rename_i hf
  exact zGb (x:=x) zZH h (by simpa using hf)
theorem zAfK {l:List Int} {x:Int} (hs:zHn l) {k:Nat} (hk:k≤l.length) (h1:∀ i,i<k→nth l i<x) (h2:∀ i,k≤i→i<l.length→x≤nth l i):iK l x=k:=by
 have lo:∀ i,i<l.length→(i<iK l x↔nth l i<x):=fun i hi=>by
  have:=zG8 (k:=x) zZH hs hi
  simpa only [ltI,decide_eq_true_eq] using this
 have hle:iK l x≤l.length:=zDN
 rcases Nat.lt_trichotomy (iK l x) k with h|h|h
 ·have:=(lo (iK l x) (by omega)).2 (h1 _ h);omega
 ·exact h
 ·have:=(lo k (by omega)).1 h
  have:=h2 k (Nat.le_refl _) (by omega)
  omega
theorem zAfL {l:List Int} {x:Int} (hs:zHn l) {k:Nat} (hk:k<l.length) (h:nth l k=x):fK l x=true:=zDa.2 ⟨k,hk,h⟩
theorem zAeM {l:List Int} {x:Int} (hs:zHn l) {k:Nat} (hi:iK l x=k) (h:k<l.length→nth l k≠x):fK l x=false:=by
 cases hf:fK l x with
 |false=>rfl
 |true=>
  obtain ⟨a,b⟩:=zDl zZH hs hf
  rw [show fxI ltI (fun x:Int=>x) l x=k from hi] at a b
  exact absurd b (h a)
def zBW:List Int→List Int
 |[]=>[]
 |[x]=>[x]
 |x::y::t=>if x=y then zBW (y::t) else x::zBW (y::t)
theorem zHo {x:Int}:∀ {l:List Int},x∈zBW l↔x∈l
 |[]=>Iff.rfl
 |[y]=>Iff.rfl
 |y::z::t=>by
  unfold zBW
  split
  ·rename_i h
   rw [zHo,List.mem_cons (a:=x) (b:=y),h]
   exact ⟨.inr,fun e=>e.elim (fun e=>e▸List.mem_cons_self) id⟩
  ·rw [List.mem_cons,List.mem_cons (b:=y),zHo]
theorem zOR:∀ {l:List Int},l.Pairwise (·≤·)→(zBW l).Pairwise fun a b=>ltI a b=true
 |[],_=>List.Pairwise.nil
 |[y],_=>by simp [zBW]
 |y::z::t,h=>by
  unfold zBW
  have ht:=(List.pairwise_cons.1 h).2
  split
  ·exact zOR ht
  ·rename_i e
   refine List.pairwise_cons.2 ⟨fun m hm=> ?_,zOR ht⟩
   rw [zHo,List.mem_cons] at hm
   have h1:=(List.pairwise_cons.1 h).1 z List.mem_cons_self
   simp only [ltI,decide_eq_true_eq]
   rcases hm with hm|hm
   ·omega
   ·have h2:=(List.pairwise_cons.1 ht).1 m hm
    omega
theorem zPS {x:Int}:∀ {p:List Int},0<p.length→zBW (p++[x])=if nth p (p.length-1)=x then zBW p else zBW p++[x]
 |[],h=>by simp at h
 |[y],_=>by
  simp only [List.cons_append,List.nil_append,zBW,List.length_cons,List.length_nil,Nat.zero_add,Nat.sub_self,nth,List.getD_cons_zero]
  split
  ·rename_i h;rw [h]
  ·rfl
 |y::z::t,_=>by
  have ih:=zPS (x:=x) (p:=z::t) (by simp)
  have e:nth (y::z::t) ((y::z::t).length-1)=nth (z::t) ((z::t).length-1):=by
   simp [nth,List.getD]
  rw [e,List.cons_append,List.cons_append,zBW, ←List.cons_append,ih]
  by_cases h1:y=z
  ·rw [if_pos h1]
   by_cases h2:nth (z::t) ((z::t).length-1)=x
   ·rw [if_pos h2,if_pos h2,zBW,if_pos h1]
   ·rw [if_neg h2,if_neg h2,zBW,if_pos h1]
  ·rw [if_neg h1]
   by_cases h2:nth (z::t) ((z::t).length-1)=x
   ·rw [if_pos h2,if_pos h2,zBW,if_neg h1]
   ·rw [if_neg h2,if_neg h2,zBW,if_neg h1];rfl
theorem zPT {l:List Int} {m:Nat} (h0:0<m) (hm:m<l.length):zBW (l.take (m+1))=if nth l (m-1)=nth l m then zBW (l.take m) else zBW (l.take m)++[nth l m]:=by
 have e:(l.take m).length=m:=by rw [List.length_take];omega
 have e2:nth (l.take m) (m-1)=nth l (m-1):=by simp [nth,List.getD,List.getElem?_take,show m-1<m by omega]
 rw [zAw hm,zPS (by omega),e,e2]
theorem zZI {l:List Int} (h:0<l.length):0<(zBW l).length:=by
 cases l with
 |nil=>simp at h
 |cons x t=>
  have:x∈zBW (x::t):=zHo.2 List.mem_cons_self
  exact List.length_pos_of_mem this
theorem zSc {p q:Nat→Bool} (h:∀ i,p i=true→q i=true):∀ {n:Nat},zCs p n≤zCs q n
 |0=>Nat.le_refl _
 |n+1=>by
  have ih:=zSc h (n:=n)
  simp only [zCs]
  cases e:p n with
  |false=>simp only [Bool.false_eq_true,if_false];split<;>omega
  |true=>rw [h n e];simp only [if_true];omega
theorem zVZ {cuts:List ByteArray} {a b:ByteArray} (h:zAf a b=true):zBu cuts a≤zBu cuts b:=by
 refine zSc fun i hi=> ?_
 cases e:zAf b (nth cuts i) with
 |false=>rfl
 |true=>rw [zBk h e] at hi;cases hi
def zDT (cuts:List ByteArray) (K:List ByteArray):List Int:=K.foldl (fun l k=>zDe l (zBu cuts k)) []
theorem zLD {cuts:List ByteArray} {y:Int}:∀ {K:List ByteArray} {l:List Int},y∈K.foldl (fun l k=>zDe l (zBu cuts k)) l↔(∃ k∈K,y=zBu cuts k)∨y∈l
 |[],l=>by simp
 |k::K,l=>by
  rw [List.foldl_cons,zLD,zVX]
  simp only [List.mem_cons,exists_eq_or_imp,or_assoc,or_left_comm]
theorem zLE {cuts:List ByteArray}:∀ {K:List ByteArray} {l:List Int},zHn l→zHn (K.foldl (fun l k=>zDe l (zBu cuts k)) l)
 |[],l,h=>h
 |k::K,l,h=>zLE (K:=K) (zVY h)
theorem zJg {cuts:List ByteArray} {K:List ByteArray}:zHn (zDT cuts K):=zLE fun i j _ h=>absurd h (Nat.not_lt_zero _)
theorem zGE {cuts:List ByteArray} {K:List ByteArray} {y:Int}:y∈zDT cuts K↔∃ k∈K,y=zBu cuts k:=by
 rw [zDT,zLD];simp
theorem zXO {cuts:List ByteArray} {K:List ByteArray} (hK:zAO zAf id K):zBW (K.map fun k=>(zBu cuts k:Int))=zDT cuts K:=by
 refine zFX (R:=fun a b=>ltI a b=true) (fun a b h k=> ?_) (zOR ?_) (zIC zJg) fun x=> ?_
 ·simp only [ltI,decide_eq_true_eq] at h k;omega
 ·rw [List.pairwise_map]
  refine (zIC hK).imp fun h=> ?_
  have:=zVZ (cuts:=cuts) h
  simp only [id] at this
  omega
 ·rw [zHo,List.mem_map,zGE]
  exact ⟨fun ⟨k,h1,h2⟩=>⟨k,h1,h2.symm⟩,fun ⟨k,h1,h2⟩=>⟨k,h1,h2.symm⟩⟩
def zDf (cuts:List ByteArray) (reads:List ByteArray) (ws:List Write):List Int:=zDT cuts (zDo reads ws)
theorem zNu:∀ (n:Nat) {l:List Int},zHn l→(∀ x∈l,0≤x∧x≤n)→l.length≤n+1:=by
 intro n l hs h
 have hT:∀ i,i<l.length→(i:Int)≤nth l i:=by
  intro i
  induction i with
  |zero=>intro hi;exact (h _ (zAc hi)).1
  |succ i ih=>
   intro hi
   have h1:=ih (by omega)
   have h2:nth l i<nth l (i+1):=of_decide_eq_true (hs i (i+1) (by omega) hi)
   omega
 rcases Nat.eq_zero_or_pos l.length with e|e
 ·omega
 ·have h1:=hT (l.length-1) (by omega)
  have h2:=h _ (zAc (l:=l) (i:=l.length-1) (by omega))
  omega
theorem zPU {cuts reads:List ByteArray} {ws:List Write} {p:Int} (h:p∈zDf cuts reads ws):0≤p∧p≤cuts.length:=by
 obtain ⟨k,_,rfl⟩:=zGE.1 h
 have:=zHj (cuts:=cuts) (k:=k)
 omega
theorem zNv {cuts reads:List ByteArray} {ws:List Write}:(zDf cuts reads ws).length≤cuts.length+1:=zNu _ zJg fun x hx=>zPU hx
theorem zNw {cuts reads:List ByteArray} {ws:List Write} (h:0<reads.length+ws.length):0<(zDf cuts reads ws).length:=by
 have:∃ x,x∈reads++ws.map (·.Key):=by
  cases reads with
  |cons x t=>exact ⟨x,by simp⟩
  |nil=>
   cases ws with
   |cons w t=>exact ⟨w.Key,by simp⟩
   |nil=>simp at h
 obtain ⟨x,hx⟩:=this
 exact List.length_pos_of_mem (zGE.2 ⟨x,zJf.2 hx,rfl⟩)
theorem zXP (hS:zCD) (reads:List ByteArray) (ws:List Write) (h1:reads.length≤2^18) (h2:ws.length≤2^18):ACall p_ 197 [.sl false 1 (strs reads), .sl false 3 (ws.map (Write.row false))] (fun r _=>r= .sl true 1 (strs (zDo reads ws))):=by
 have hmx:=zAd
 have hap:strs reads++strs (ws.map (·.Key))=strs (reads++ws.map (·.Key)):=by simp [strs]
 have hl:(reads++ws.map (·.Key)).length=reads.length+ws.length:=by simp only [List.length_append,List.length_map]
 have hk:=zAbg (reads:=reads) (ws:=ws)
 have c1:=zHE reads (by omega)
 have c2:=zKt ws (by omega)
 have c3:=zOK hS (reads++ws.map (·.Key)) (by omega)
 have c4:=zGp (zBp (reads++ws.map (·.Key))) (by rw [zDR];omega)
 rw [hk] at c4
 have hsl:(zBp (reads++ws.map (·.Key))).length=reads.length+ws.length:=by rw [zDR,hl]
 have hst:(zBp (reads++ws.map (·.Key))).take (reads.length+ws.length)=zBp (reads++ws.map (·.Key)):=List.take_of_length_le (by omega)
 refine fg H197 fun E hE hH=> ?_
 all_goals (have y1_:=hap;have y2_:=hl;have y3_:=hsl;have y4_:=hst;repeat' (first|(refine zIc ?_ ?_<;>intro h)|refine qy ?_|(refine zAP [true] ?_;refine zV7 ?_;refine cmA (c3) ?_;refine zV7 ?_)|(refine zAP [true] ?_;refine zV7 ?_;refine cmA (c4) ?_;refine zV7 ?_)|refine zO2 ?_|refine zDW (c1) ?_|refine zDW (c2) ?_|(with_reducible apply jn)|refine qu ?_ ?_|exact zId|refine zIe ?_|fail))
 all_goals first|omega|rfl
theorem zOS (l:List Int) (hl:l.length≤2^20):ACall p_ 198 [.sl true 1 (ints l)] (fun r a=>r= .sl true 1 (ints (zBW l))∧a=[.any]):=by
 have hmx:=zAd
 refine zG2 [true] (hqA H198) (hqB H198) ⟨by simp only [go_sem],fun E hE hH=> ?_⟩;simp only [go_sem] at hE hH;simp only [go_sem,hE,hH,zYY]
 repeat' (first|(refine qz ?_ ?_<;>intro h)|refine qy ?_|(with_reducible apply jn)|refine qu ?_ ?_|exact qj|refine qw ?_|fail)
 ·have:zBW l=l:=by
   rcases l with _|⟨a,_|⟨b,t⟩⟩
   ·rfl
   ·rfl
   ·exfalso;simp only [List.length_cons] at h;try omega
  rw [this];try rfl
 have h2:2≤l.length:=by omega
 have t1:zBW (l.take 1)=l.take 1:=by
  match l,h2 with
  |_::_::_,_=>rfl
 refine zAU (l.length-1) (fun j (_:Unit)=>⟨[(0, .ref 0 0 l.length),(3,i64 (j+1:Nat))],[(0,⟨1,ints l⟩)]⟩) (fun j _=>zBW (l.take (j+1))=l.take (j+1)) () rfl t1 ?_
 intro j _ hj hI
 have e1:(((j+1:Nat):Int)-1).toNat=j:=by omega
 have e2:((j+1:Nat):Int).toNat=j+1:=by omega
 try simp only [go_sem,hE,hH,zTO]
 refine gG (fun hh=> ?_) (fun hh=> ?_)
 ·have hb:=hh
  simp only [nf] at hh
  have hlt:j+1<l.length:=by omega
  have hct:=zPT (l:=l) (Nat.succ_pos j) hlt
  rw [show j.succ-1=j from rfl,show j.succ=j+1 from rfl] at hct
  try simp (disch:=omega) only [go_sem,hE,hH,e1,e2,hb]
  all_goals (have y1_:=e1;have y2_:=e2;repeat' (first|(refine zCJ ?_ ?_<;>intro h)|refine qy ?_|(with_reducible apply jn)|refine qu ?_ ?_|exact zCK|refine zCL ?_|fail))
  all_goals try omega
  ·rw [if_pos (by first|exact h.symm|exact h|omega),hI] at hct
   refine zAU (l.length-(j+1)-1) (fun m (x:List Int×Nat)=>⟨[(0, .ref 0 0 l.length),(3,i64 x.2),(4, .ref 0 (j+1) (l.length-(j+1))),(5,i64 (m+1:Nat))],[(0,⟨1,ints x.1⟩)]⟩) (fun m x=>x.1.length=l.length∧x.1.take x.2=zBW (l.take (j+1+(m+1)))∧x.2=(zBW (l.take (j+1+(m+1)))).length∧(∀ q,j+1+m≤q→q<l.length→nth x.1 q=nth l q)∧x.2≤j+1+m) (l,j+1) rfl ⟨rfl,hct.symm,by rw [hct,List.length_take];omega,fun _ _ _=>rfl,Nat.le_refl _⟩ ?_
   rintro m ⟨R,k⟩ hm ⟨i1,i2,i3,i4,i5⟩
   simp only at i1 i2 i3 i4 i5
   have hkp:0<k:=by rw [i3];exact zZI (by rw [List.length_take];omega)
   have f1:(((m+1:Nat):Int)-1).toNat=m:=by omega
   have f2:((m+1:Nat):Int).toNat=m+1:=by omega
   try simp only [go_sem,hE,hH,zTN]
   refine gG (fun hq=> ?_) (fun hq=> ?_)
   ·have hbq:=hq
    simp only [nf] at hq
    have hlt2:j+1+(m+1)<l.length:=by omega
    have hct2:=zPT (l:=l) (show 0<j+1+(m+1) by omega) hlt2
    have g1:=i4 (j+1+m) (by omega) (by omega)
    have g2:=i4 (j+1+(m+1)) (by omega) (by omega)
    rw [show j+1+(m+1)-1=j+1+m by omega] at hct2
    try simp (disch:=omega) only [go_sem,hE,hH,f1,f2,i1,g1,g2,hbq]
    all_goals (have y1_:=f1;have y2_:=f2;have y3_:=i1;have y4_:=g1;have y5_:=g2;repeat' (first|(refine zH9 ?_ ?_<;>intro h)|refine qy ?_|(with_reducible apply jn)|refine qu ?_ ?_|exact zIa|refine zIb ?_|fail))
    all_goals try omega
    ·rw [if_neg (by first|exact h|exact fun e=>h e.symm|omega)] at hct2
     refine ⟨(R.set k (nth l (j+1+(m+1))),k+1),by simp [ints,List.map_set],by simp [i1], ?_, ?_, ?_,by simp only;omega⟩
     ·simp only
      rw [zJD (by omega),i2,show j+1+(m+1+1)=j+1+(m+1)+1 by omega,hct2]
     ·simp only
      rw [show j+1+(m+1+1)=j+1+(m+1)+1 by omega,hct2,List.length_append, ←i3];rfl
     ·intro q a b
      simp only
      rw [zNn (by omega)];exact i4 q (by omega) b
    ·rw [if_pos (by first|exact h.symm|exact h|omega)] at hct2
     refine ⟨(R,k),rfl,i1, ?_, ?_,fun q a b=>i4 q (by omega) b,by simp only;omega⟩
     ·simp only
      rw [i2,show j+1+(m+1+1)=j+1+(m+1)+1 by omega,hct2]
     ·simp only
      rw [show j+1+(m+1+1)=j+1+(m+1)+1 by omega,hct2, ←i3]
   ·have hkl:k<l.length:=by omega
    simp only [nf] at hq
    rw [show j+1+(m+1)=l.length by omega,List.take_length] at i2 i3
    have r1:∀ z,(zAl (ints R) k (List.replicate (l.length-k) z)).take k=ints (R.take k):=fun z=>by
     rw [zAl,List.append_assoc,List.take_append_of_le_length (by simp [ints];omega),List.take_take,Nat.min_self,ints,ints,List.map_take]
    have r2:∀ z,(zAl (ints R) k (List.replicate (l.length-k) z)).length=l.length:=fun z=>by
     rw [zBb (by simp [ints];omega)];simp [ints,i1]
    have hqf:decide (((m+1:Nat):Int)<((l.length-(j+1):Nat):Int))=false:=decide_eq_false (by omega)
    have e4:((k:Nat):Int).toNat=k:=rfl
    try simp (disch:=omega) only [go_sem,hE,hH,i1,r1,r2,hqf,e4]
    all_goals (have y1_:=i1;have y2_:=r1;have y3_:=r2;have y4_:=hqf;have y5_:=e4;repeat' (first|(refine zH9 ?_ ?_<;>intro h)|refine qy ?_|(with_reducible apply jn)|refine qu ?_ ?_|exact zIa|refine zIb ?_|fail))
    ·rw [List.length_take];omega
    ·rw [i2]
  ·rw [if_neg (by first|exact h|exact fun e=>h e.symm|omega),hI] at hct
   exact ⟨(),rfl,by rw [hct,zAw hlt]⟩
 ·try simp (disch:=omega) only [go_sem,hE,hH,hh]
  simp only [nf] at hh
  rw [show j+1=l.length by omega,List.take_length] at hI
  rw [hI]
theorem zV0 (hS:zCD) (cuts:List ByteArray) (reads:List ByteArray) (ws:List Write) (hc:cuts.length≤2^18) (h1:reads.length≤2^18) (h2:ws.length≤2^18):ACall p_ 148 [.sl false 1 (strs cuts), .sl false 1 (strs reads), .sl false 3 (ws.map (Write.row false))] (fun r _=>r= .sl true 1 (ints (zDf cuts reads ws))):=by
 have hmx:=zAd
 have hkl:=zMn (reads:=reads) (ws:=ws)
 have hp:zBW ((zDo reads ws).map fun k=>(zBu cuts k:Int))=zDf cuts reads ws:=zXO zJe
 have c1:=zXP hS reads ws h1 h2
 refine fg H148 fun E hE hH=> ?_
 repeat' (first|(refine qz ?_ ?_<;>intro h)|refine qy ?_|refine qo ?_|refine cq (c1) ?_|(with_reducible apply jn)|refine qu ?_ ?_|exact qj|refine qw ?_|fail)
 clear c1
 generalize zDo reads ws=K at*
 refine zAi K.length (fun j (x:List Int)=>⟨[(0, .sl false 1 (strs cuts)),(7, .ref 8000000 0 x.length),(13, .ref 14000000 0 K.length),(14,i64 K.length),(15,i64 j)],[(8000000,⟨1,ints x⟩),(14000000,⟨1,strs K⟩)]⟩) (fun j x=>x=(K.take j).map fun k=>(zBu cuts k:Int)) [] rfl ?_
 intro j x hj hx
 have hlen:x.length=j:=by rw [hx];simp;omega
 try simp only [go_sem,hE,hH,zTD]
 refine gG (fun h=> ?_) (fun h=> ?_)
 ·have hb:=h
  simp only [nf] at h
  have hlt:=h;clear h
  have cp:=zPE cuts (nth K j) (by omega)
  rw [show zCs (fun i=> !zAf (nth K j) (nth cuts i)) cuts.length=zBu cuts (nth K j) from rfl] at cp
  try refine sb ?_;try exact ⟨⟩
  repeat' (first|(refine qz ?_ ?_<;>intro h)|refine qy ?_|refine qo ?_|refine cq (cp) ?_|(with_reducible apply jn)|refine qu ?_ ?_|exact qj|refine qw ?_|fail)
  all_goals first|omega|(rw [zAw hlt,List.map_append, ←hx];simp [ints,strs,hlen];omega)
 ·try simp (disch:=omega) only [go_sem,hE,hH,h]
  simp only [nf] at h
  rw [show j=K.length by omega,List.take_length] at hx
  have cc:=zOS x (by omega)
  rw [hx,hp, ←hx] at cc
  repeat' (first|(refine qz ?_ ?_<;>intro h)|refine qy ?_|(refine zAP [true] ?_;refine st ?_;refine cmA (cc) ?_;refine st ?_)|(with_reducible apply jn)|refine qu ?_ ?_|exact qj|refine qw ?_|fail)
  all_goals trace_state
end Go.Proofs.Wb

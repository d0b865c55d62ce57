import Derived.Test.YthfpgpkdankdjaaGreatDoorFnExactSoundWorldR3
import Derived.Laws.Externs
set_option linter.all false
set_option maxHeartbeats 4000000
namespace Go.Proofs.Wb
open Tryz renaming prog→p_
open Go Go.Am
theorem qw {p q:Prop} (h:q) (e:q→p:=by first|exact Go.Am.stI|exact fmI|exact s1I|fail):p:=e h
theorem zV6 (cuts:List ByteArray) (t:WorldTxn) (ho:zCu t.Ops=true) (hg:zAK t.Got=true) (hc:cuts.length≤2^18) (hr:zBw cuts=true):ACall p_ 58 [.sl false 1 (strs cuts), .agg (WorldTxn.row false t)] (fun r _=>r= .tup [.sl true 1 (strs ((zA8 t).foldl zA5 [])), .sl true 3 ((zBr t).map (Write.row true)), .sl true 1 (ints (zDf cuts (zA8 t) (zBr t))),bl (zEG t)]):=by
 have hmx:=zAd
 have h0:zAO zAf id ([]:List ByteArray):=fun i j _ h=>absurd h (Nat.not_lt_zero _)
 have hgl:=zDV hg
 have hwl:=zPX ho
 have c1:=zXR t.Ops t.Got ho hg
 obtain ⟨e,s,h1,h2⟩:=zNG t
 rw [h1] at c1
 have hK:(zA8 t).length=t.Got.length:=by rw [zA8,List.length_map]
 have hKi:∀ i,i<t.Got.length→nth (zA8 t) i=(nth t.Got i).Key:=fun i hi=>by rw [zA8,zDA hi]
 have hRl:=zDQ (ws:=zA8 t) (l:=[])
 rw [List.length_nil] at hRl
 have c2:=zS0 ((zA8 t).foldl zA5 []) (zBr t) (by omega) (by omega)
 have c3:=zS1 cuts (zDo ((zA8 t).foldl zA5 []) (zBr t)) hc hr (by have:=zMn (reads:=(zA8 t).foldl zA5 []) (ws:=zBr t);omega)
 have hkl:=zMn (reads:=(zA8 t).foldl zA5 []) (ws:=zBr t)
 have hkc:zDo ((zA8 t).foldl zA5 []) (zBr t)=zDo (zA8 t) (zBr t):=zNF fun x=>by rw [zHJ];simp
 rw [zEG, ←h2,zDf, ←hkc,show decide (0<((zA8 t).length:Int)+(zBr t).length)=decide (0<(((zA8 t).foldl zA5 []).length:Int)+(zBr t).length) by
  have h3:0<(zA8 t).length→0<((zA8 t).foldl zA5 []).length:=fun h=>List.length_pos_of_mem (zHJ.2 (.inl (List.getElem_mem h)))
  rw [Bool.eq_iff_iff,decide_eq_true_iff,decide_eq_true_iff];omega]
 clear h1 h2 hkc
 generalize zDT cuts (zDo ((zA8 t).foldl zA5 []) (zBr t))=P at*
 generalize zDo ((zA8 t).foldl zA5 []) (zBr t)=KK at*
 generalize zBr t=ws at*
 generalize zA8 t=K at*
 refine fg H58 fun E hE hH=> ?_
 repeat' (first|(refine qz ?_ ?_<;>intro h)|refine qy ?_|refine qo ?_|refine cq (c1) ?_|(with_reducible apply jn)|refine qu ?_ ?_|exact qj|refine qw ?_|fail)
 clear c1
 generalize t.Got=got at*
 refine zAi got.length (fun j (x:List ByteArray)=>⟨[(0, .sl false 1 (strs cuts)),(8,i64 e),(10, .ref 11000000 0 ws.length),(11, .ref 12000000 0 x.length),(24, .sl false 3 (got.map (Got.row false))),(25,i64 got.length),(26,i64 j)],[(11000000,⟨3,ws.map (Write.row true)⟩),(12000000,⟨1,strs x⟩)]⟩) (fun j x=>x=(K.take j).foldl zA5 []) [] rfl ?_
 intro j x hj hx
 have hxs:zAO zAf id x:=by rw [hx];exact zED h0
 have hxl:x.length≤j:=by
  have:=zDQ (ws:=K.take j) (l:=[])
  rw [←hx,List.length_take,List.length_nil] at this;omega
 try simp only [go_sem,hE,hH,zXc]
 refine gG (fun h=> ?_) (fun h=> ?_)
 ·have hb:=h
  simp only [nf] at h
  have hlt:j<got.length:=by omega
  clear h
  have hst:zA5 x (nth got j).Key=(K.take (j+1)).foldl zA5 []:=by rw [zAw (by omega),List.foldl_append, ←hx,hKi j hlt];rfl
  try refine sb ?_;try exact ⟨⟩
  repeat' (first|(refine qz ?_ ?_<;>intro h)|refine qy ?_|(refine zAP [true,false] ?_;refine st ?_;refine cmA (zEE x _ (by omega) hxs) ?_;refine st ?_)|(with_reducible apply jn)|refine qu ?_ ?_|exact qj|refine qw ?_|fail)
  all_goals first|omega|(rw [←hst];rfl)|exact hst.symm|exact ⟨_,by rfl,hst⟩
 ·try simp (disch:=omega) only [go_sem,hE,hH,h]
  simp only [nf] at h
  rw [show j=K.length by omega,List.take_length] at hx
  rw [←hx] at c2 ⊢
  have hxl2:x.length≤8:=by omega
  clear hx
  repeat' (first|(refine qz ?_ ?_<;>intro h)|refine qy ?_|refine qo ?_|refine cq (c2) ?_|refine cq (c3) ?_|(with_reducible apply jn)|refine qu ?_ ?_|exact qj|refine qw ?_|fail)
  all_goals first|rfl|omega
theorem zNH {l:List Told}:(!zDI l)=zAg (fun i=>decide (nth l i=nth l 0)) l.length:=by
 rw [zAQ (p:=fun x:Told=>decide (x=nth l 0)),zDI,List.all_eq_not_any_not]
def zNI (O:List Told):List Told:=if zDI O=true then [] else O
theorem zSi {L:List State} {t:Int}:∀ {j:Nat},(zBq (L.take j) t).length≤j:=by
 intro j
 have:=List.length_filterMap_le (fun s=>zBL s t) (L.take j)
 rw [List.length_take] at this
 rw [zBq];omega
theorem zOY (L:List State) (t:Int) (hl:L.length≤2^10) (hs:∀ s∈L,zAO ltI Told.Txn s.Told∧s.Told.length≤2^20):ACall p_ 57 [.sl false 4 (L.map (State.row false)),i64 t] (fun r _=>r= .tup [.sl true 3 ((zNI (zBq L t)).map (Told.row true)),bl (!zDI (zBq L t))]):=by
 have hmx:=zAd
 have z1:zCh.Txn=0:=rfl
 have z2:zCh.Yes=false:=rfl
 have z3:zCh.Time=0:=rfl
 refine fg H57 fun E hE hH=> ?_
 repeat' (first|(refine qz ?_ ?_<;>intro h)|refine qy ?_|(with_reducible apply jn)|refine qu ?_ ?_|exact qj|refine qw ?_|fail)
 refine zAi L.length (fun j (x:List Told)=>⟨[(1,i64 t),(6, .ref 7000000 0 x.length),(13, .sl false 4 (L.map (State.row false))),(14,i64 L.length),(15,i64 j)],[(7000000,⟨3,x.map (Told.row true)⟩)]⟩) (fun j x=>x=zBq (L.take j) t) [] rfl ?_
 intro j x hj hx
 have hxl:x.length≤j:=by rw [hx];exact zSi
 try simp only [go_sem,hE,hH,zXa]
 refine gG (fun h=> ?_) (fun h=> ?_)
 ·have hb:=h
  simp only [nf] at h
  have hlt:j<L.length:=by omega
  clear h
  obtain ⟨q1,q2⟩:=hs _ (zAc hlt)
  have cO:=zE6 (nth L j) t (by omega) q1
  rw [zMm,zON] at cO
  have hst:=zNE (t:=t) hlt
  rw [←hx] at hst
  cases ho:zBL (nth L j) t with
  |none=>
   rw [ho] at cO hst
   rw [Option.getD_none,Option.isSome_none] at cO
   rw [Option.toList_none,List.append_nil] at hst
   try refine sb ?_;try exact ⟨⟩
   all_goals (have y1_:=z1;have y2_:=z2;have y3_:=z3;repeat' (first|(refine zFc ?_ ?_<;>intro h)|refine qy ?_|refine zH8 ?_|refine zCF (cO) ?_|(with_reducible apply jn)|refine qu ?_ ?_|exact zFJ|refine zFd ?_|fail))
   all_goals first|omega|(rw [hst];rfl)
  |some y=>
   rw [ho] at cO hst
   rw [Option.getD_some,Option.isSome_some] at cO
   rw [Option.toList_some] at hst
   try refine sb ?_;try exact ⟨⟩
   repeat' (first|(refine qz ?_ ?_<;>intro h)|refine qy ?_|refine qo ?_|refine cq (cO) ?_|(with_reducible apply jn)|refine qu ?_ ?_|exact qj|refine qw ?_|fail)
   all_goals first|omega|(rw [hst,List.length_append,List.map_append];rfl)
 ·try simp (disch:=omega) only [go_sem,hE,hH,h]
  simp only [nf] at h
  rw [show j=L.length by omega,List.take_length] at hx
  rw [←hx]
  have hxl2:x.length≤2^10:=by omega
  clear hx
  repeat' (first|(refine qz ?_ ?_<;>intro h)|refine qy ?_|(with_reducible apply jn)|refine qu ?_ ?_|exact qj|refine qw ?_|fail)
  refine zAi x.length (fun m (_:Unit)=>⟨[(6, .ref 7000000 0 x.length),(31, .ref 7000000 0 x.length),(32,i64 x.length),(33,i64 m)],[(7000000,⟨3,x.map (Told.row true)⟩)]⟩) (fun m _=>zAg (fun i=>decide (nth x i=nth x 0)) m=true) () rfl ?_
  intro m _ hm hM
  try simp only [go_sem,hE,hH,zXb]
  refine gG (fun h=> ?_) (fun h=> ?_)
  ·have hb:=h
   simp only [nf] at h
   have hlt:m<x.length:=by omega
   clear h
   have hte:=zOX (a:=nth x m) (b:=nth x 0)
   have hno:decide (nth x m=nth x 0)=false→zDI x=true:=fun e=>by
    have:=zNH (l:=x)
    rw [zAm hlt e] at this
    simpa using this
   have hst:=zAa (p:=fun i=>decide (nth x i=nth x 0)) hM
   rw [←hte] at hno hst
   clear hte
   try refine sb ?_;try exact ⟨⟩
   repeat' (first|(refine qz ?_ ?_<;>intro h)|refine qy ?_|(with_reducible apply jn)|refine qu ?_ ?_|exact qj|refine qw ?_|fail)
   all_goals first|omega|(rw [zNI,hno h];rfl)|(rw [hno h];rfl)|exact ⟨(),rfl,hst h⟩
  ·try simp (disch:=omega) only [go_sem,hE,hH,h]
   simp only [nf] at h
   rw [show m=x.length by omega, ←zNH] at hM
   rw [zNI,if_neg (by simp_all),hM]
   repeat' (first|(refine qz ?_ ?_<;>intro h)|refine qy ?_|(with_reducible apply jn)|refine qu ?_ ?_|exact qj|refine qw ?_|fail)
   all_goals first|rfl
theorem zNJ (x:Told) (l:List Told) (h:0<l.length) (hl:l.length≤2^20):ACall p_ 87 ([.agg (Told.row false x)]++[.bx false [.sl false 3 (l.map (Told.row false))]]) (fun r _=>r=bl (!decide (x=nth l 0))):=by
 have hmx:=zAd
 have hte:=zOX (a:=x) (b:=nth l 0)
 refine fg H87 fun E hE hH=> ?_
 repeat' (first|(refine qz ?_ ?_<;>intro h)|refine qy ?_|(with_reducible apply jn)|refine qu ?_ ?_|exact qj|refine qw ?_|fail)
 all_goals first|omega|(rw [←hte];rfl)|(simp_all;done)
theorem zNK (x:Told) (t:WorldTxn):ACall p_ 90 ([.agg (Told.row false x)]++[.bx false (WorldTxn.row false t)]) (fun r _=>r=bl (decide (x.Time=t.Time))):=by
 refine fg H90 fun E hE hH=> ?_
 repeat' (first|(refine qz ?_ ?_<;>intro h)|refine qy ?_|(with_reducible apply jn)|refine qu ?_ ?_|exact qj|refine qw ?_|fail)
structure sndI (w:World) (L:List State):Prop where
 len:L.length=w.Cuts.length+1
 st:∀ s∈L,stI 60 s
theorem zLG {w:World} (h:zAG w=true) {k:Nat} (hk:k<w.Txns.length):zCu (nth w.Txns k).Ops=true∧zAK (nth w.Txns k).Got=true∧0≤(nth w.Txns k).Time∧(nth w.Txns k).Time≤100000:=by
 simp only [zAG,Bool.and_eq_true,List.all_eq_true] at h
 have h1:=h.1.2 _ (zAc hk)
 simp only [zD2,zFE,Bool.and_eq_true] at h1
 obtain ⟨⟨⟨⟨⟨⟨⟨-,h1⟩,h2⟩, -⟩, -⟩, -⟩, -⟩,h3⟩:=h1
 exact ⟨h1,h2,zBl.1 h3⟩
theorem zMp {w:World} {t:WorldTxn} {p:Int} (h:p∈zBj w t):0≤p∧p≤w.Cuts.length:=zPU h
theorem zQi (hS:zCD) (hC:zEF) (hR:zGi) (hI:zID) (w:World) (L:List State) (k:Nat) (hg:zAG w=true) (hL:sndI w L) (hk:k<w.Txns.length):ACall p_ 31 [.agg (World.row false w), .sl false 4 (L.map (State.row false)),i64 k] (fun r _=>r=bl (zCX w L k)):=by
 have hmx:=zAd
 obtain ⟨w1,w2,w3,w4⟩:=zEp hg
 have wc:=(zKG hg).2
 obtain ⟨o1,o2,o3,o4⟩:=zLG hg hk
 have hgl:=zDV o2
 have hln:=hL.len
 have z1:zCh.Txn=0:=rfl
 have z2:zCh.Yes=false:=rfl
 have z3:zCh.Time=0:=rfl
 have hst:∀ j,j<L.length→zBq (L.take (j+1)) (k+1)=zBq (L.take j) (k+1)++(zBL (nth L j) (k+1)).toList:=fun j hj=>zNE hj
 have hle:∀ j,(zBq (L.take j) ((k:Int)+1)).length≤j:=fun j=>zSi
 obtain ⟨O,hO⟩:∃ O:Nat→List Told,∀ j,zBq (L.take j) (k+1)=O j:=⟨_,fun _=>rfl⟩
 have hAll:zBq L (k+1)=O L.length:=by rw [←hO,List.take_length]
 have hYes:zSg L (k+1)=(O L.length).filter (·.Yes):=by rw [zSg,hAll]
 simp only [hO] at hst hle
 have h0:O 0=[]:=by rw [←hO];rfl
 clear hO
 have hT:zCX w L k=(!zDI (O L.length)&&(!((nth w.Txns k).Put&&zJl (nth w.Txns k)&&decide (0<(((O L.length).filter (·.Yes)).length:Int)))||zAg (zDC L (k+1) (zBj w (nth w.Txns k))) (zBj w (nth w.Txns k)).length)&&((decide ((nth w.Txns k).End<0)|| !(nth w.Txns k).Yes)||(((O L.length).filter (·.Yes)).any (fun x=>decide (x.Time=(nth w.Txns k).Time))&&zKO w L (nth w.Txns k)))):=by rw [zCX,hAll,hYes]
 rw [hT]
 clear hT hAll hYes
 have hfl:∀ j,((O j).filter (·.Yes)).length≤j:=fun j=>Nat.le_trans (List.length_filter_le _ _) (hle j)
 have c2:=zXZ hS hR hI w k hk w3 o1 o2 (by omega)
 refine fg H31 fun E hE hH=> ?_
 repeat' (first|(refine qz ?_ ?_<;>intro h)|refine qy ?_|(with_reducible apply jn)|refine qu ?_ ?_|exact qj|refine qw ?_|fail)
 refine zAU L.length (fun j (_:Unit)=>⟨[(1, .sl false 4 (L.map (State.row false))),(2,i64 k),(3, .ptr 4000000 0 0),(7, .ptr 8000000 0 0),(8, .ref 9000000 0 ((O j).filter (·.Yes)).length),(9, .ptr 10000000 0 0),(29, .sl false 4 (L.map (State.row false))),(30,i64 L.length),(31,i64 j)],[(4000000,⟨9,[World.row false w]⟩),(8000000,⟨10,[WorldTxn.row false (nth w.Txns k)]⟩),(9000000,⟨3,((O j).filter (·.Yes)).map (Told.row true)⟩),(10000000,⟨1,[[.ref 10000001 0 (O j).length]]⟩),(10000001,⟨3,(O j).map (Told.row true)⟩)]⟩) (fun _ _=>True) () (by rw [h0];rfl) trivial ?_
 intro j _ hj _
 have la:=hle j
 have ly:=hfl j
 try simp only [go_sem,hE,hH,zWZ]
 refine gG (fun h=> ?_) (fun h=> ?_)
 ·have hb:=h
  simp only [nf] at h
  have hlt:j<L.length:=by omega
  clear h
  have hi:=hL.st _ (zAc hlt)
  have cO:=zNr (nth L j) (k+1) (by have:=hi.tlen;omega) hi.tsrt
  have hsj:=hst j hlt
  clear hst hfl hle
  cases ho:zBL (nth L j) (k+1) with
  |none=>
   rw [ho] at cO hsj
   rw [Option.getD_none,Option.isSome_none] at cO
   rw [Option.toList_none,List.append_nil] at hsj
   generalize O j=A at*
   try refine sb ?_;try exact ⟨⟩
   all_goals (have y1_:=z1;have y2_:=z2;have y3_:=z3;repeat' (first|(refine zFc ?_ ?_<;>intro h)|refine qy ?_|refine zH8 ?_|refine zCF (cO) ?_|(with_reducible apply jn)|refine qu ?_ ?_|exact zFJ|refine zFd ?_|fail))
   all_goals first|omega|exact ⟨(),by rw [hsj];rfl⟩
  |some y=>
   rw [ho] at cO hsj
   rw [Option.getD_some,Option.isSome_some] at cO
   rw [Option.toList_some] at hsj
   generalize O j=A at*
   cases hy:y.Yes with
   |true=>
    rcases y with ⟨y1,y2,y3⟩
    simp only at hy
    subst hy
    have hfy:(A++[(⟨y1,true,y3⟩:Told)]).filter (·.Yes)=A.filter (·.Yes)++[⟨y1,true,y3⟩]:=by simp [List.filter_append]
    try refine sb ?_;try exact ⟨⟩
    repeat' (first|(refine qz ?_ ?_<;>intro h)|refine qy ?_|refine qo ?_|refine cq (cO) ?_|(with_reducible apply jn)|refine qu ?_ ?_|exact qj|refine qw ?_|fail)
    all_goals first|omega|(refine ⟨(), ?_⟩;simp only [hsj,hfy,List.length_append,List.map_append];rfl)
   |false=>
    rcases y with ⟨y1,y2,y3⟩
    simp only at hy
    subst hy
    have hfy:(A++[(⟨y1,false,y3⟩:Told)]).filter (·.Yes)=A.filter (·.Yes):=by simp [List.filter_append]
    try refine sb ?_;try exact ⟨⟩
    repeat' (first|(refine qz ?_ ?_<;>intro h)|refine qy ?_|refine qo ?_|refine cq (cO) ?_|(with_reducible apply jn)|refine qu ?_ ?_|exact qj|refine qw ?_|fail)
    all_goals first|omega|(refine ⟨(), ?_⟩;simp only [hsj,hfy,List.length_append,List.map_append];rfl)
 ·try simp (disch:=omega) only [go_sem,hE,hH,h]
  simp only [nf] at h
  rw [show j=L.length by omega] at la ly ⊢
  clear hst hfl hle h0 h hj
  have hbd:L.length≤2^10:=by omega
  generalize O L.length=A at*
  have cD:=zEV A 87 [.bx false [.sl false 3 (A.map (Told.row false))]] (fun x=> !decide (x=nth A 0)) (by kernel_rfl) rfl (by omega) (fun x hx=>zNJ x A (List.length_pos_of_mem hx) (by omega))
  rw [show (A.any fun x=> !decide (x=nth A 0))=zDI A from rfl] at cD
  cases hd:zDI A with
  |true=>
   rw [hd] at cD
   simp only [Bool.not_true,Bool.false_and]
   refine zAE ?_
   simp (config := { maxSteps := 1000000 }) (disch:=omega) only [go_sem,hE,hH]
   repeat' (first|(refine qz ?_ ?_<;>intro h)|refine qy ?_|refine qo ?_|refine cq (cD) ?_|(with_reducible apply jn)|refine qu ?_ ?_|exact qj|refine qw ?_|fail)
   all_goals first|omega|rfl
  |false=>
   rw [hd] at cD
   simp only [Bool.not_false,Bool.true_and]
   have hp:∀ i,i<(zBj w (nth w.Txns k)).length→0≤nth (zBj w (nth w.Txns k)) i∧(nth (zBj w (nth w.Txns k)) i).toNat<L.length:=fun i hi=>by
    have:=zMp (zAc hi)
    omega
   have hpl:(zBj w (nth w.Txns k)).length≤w.Cuts.length+1:=zNv
   have hYl:(A.filter (·.Yes)).length≤2^10:=by omega
   have cT:=fun (t:WorldTxn)=>zEV (A.filter (·.Yes)) 90 [.bx false (WorldTxn.row false t)] (fun x=>decide (x.Time=t.Time)) (by kernel_rfl) rfl (by omega) (fun x hx=>zNK x t)
   have cR:=zPP hC w L (nth w.Txns k).Got ((nth w.Txns k).Time-1) (by omega) hL.len (fun s h=>(hL.st s h).cells) (by omega)
   have cE:=zKH (zBz w.Cuts L (nth w.Txns k).Got ((nth w.Txns k).Time-1)) (nth w.Txns k).Got (by rw [zBz,List.length_map];omega) (by omega)
   have hRl:(zBz w.Cuts L (nth w.Txns k).Got ((nth w.Txns k).Time-1)).length≤8:=by rw [zBz,List.length_map];omega
   have eT:IntKind.i64.wrap ((nth w.Txns k).Time-1)=(nth w.Txns k).Time-1:=by simp [IntKind.wrap,IntKind.bits,IntKind.signed];omega
   rw [zKO]
   generalize decide (zBz w.Cuts L (nth w.Txns k).Got ((nth w.Txns k).Time-1)=(nth w.Txns k).Got)=q at*
   generalize zBz w.Cuts L (nth w.Txns k).Got ((nth w.Txns k).Time-1)=R at*
   generalize zBj w (nth w.Txns k)=P at*
   generalize zJl (nth w.Txns k)=pb at*
   generalize zBr (nth w.Txns k)=ws at*
   generalize zA8 (nth w.Txns k)=K at*
   generalize A.filter (·.Yes)=Y at*
   generalize nth w.Txns k=t at*
   rcases t with ⟨ops,got,tms,bg,en,ys,tm,dd,put,stp⟩
   simp only at o1 o2 o3 o4 hgl cR cE eT ⊢
   have cT:=cT ⟨ops,got,tms,bg,en,ys,tm,dd,put,stp⟩
   simp only at cT
   generalize (Y.any fun x=>decide (x.Time=tm))=tq at*
   refine zAE ?_
   simp (config := { maxSteps := 1000000 }) (disch:=omega) only [go_sem,hE,hH]
   cases put with
   |false=>
    simp only [Bool.false_and,Bool.not_false,Bool.true_or,Bool.true_and]
    all_goals (have y1_:=eT;repeat' (first|(refine zBC ?_ ?_<;>intro h)|refine qy ?_|refine zBX ?_|refine zAF (cD) ?_|refine zAF (c2) ?_|refine zAF (cT) ?_|refine zAF (cR) ?_|refine zAF (cE) ?_|(with_reducible apply jn)|refine qu ?_ ?_|exact zCd|refine zBA ?_|fail))
    all_goals first|omega|rfl|(simp_all;done)|(simp_all;omega)
   |true=>
    all_goals (have y1_:=eT;repeat' (first|(refine zBC ?_ ?_<;>intro h)|refine qy ?_|refine zBX ?_|refine zAF (cD) ?_|refine zAF (c2) ?_|refine zAF (cT) ?_|refine zAF (cR) ?_|refine zAF (cE) ?_|(with_reducible apply jn)|refine qu ?_ ?_|exact zCd|refine zBA ?_|fail))
    all_goals try omega
    refine zAi P.length (fun m (_:Unit)=>⟨[(1, .sl false 4 (L.map (State.row false))),(2,i64 k),(3, .ptr 4000000 0 0),(7, .ptr 8000000 0 0),(8, .ref 9000000 0 Y.length),(74, .ref 75000000 0 P.length),(75,i64 P.length),(76,i64 m)],[(4000000,⟨9,[World.row false w]⟩),(8000000,⟨10,[WorldTxn.row false ⟨ops,got,tms,bg,en,ys,tm,dd,true,stp⟩]⟩),(9000000,⟨3,Y.map (Told.row true)⟩),(75000000,⟨1,ints P⟩)]⟩) (fun m _=>zAg (zDC L (k+1) P) m=true) () rfl ?_
    intro m _ hm hM
    try simp only [go_sem,hE,hH,zW0]
    refine gG (fun h=> ?_) (fun h=> ?_)
    ·have hb:=h
     simp only [nf] at h
     have hlp:m<P.length:=by omega
     clear h
     obtain ⟨p0,p1⟩:=hp m hlp
     have hi:=hL.st _ (zAc p1)
     have cO:=zNr (nth L (nth P m).toNat) (k+1) (by have:=hi.tlen;omega) hi.tsrt
     have cF:=zH6 (nth L (nth P m).toNat) (k+1) (by have:=hi.hlen;omega) hi.hsrt
     have hok:zDC L (k+1) P m=((zBL (nth L (nth P m).toNat) (k+1)).isSome&&((zBL (nth L (nth P m).toNat) (k+1)).getD zCh).Yes||(!decide (m=0)&&hF (nth L (nth P m).toNat).Held (k+1))):=rfl
     have hno:zDC L (k+1) P m=false→zAg (zDC L (k+1) P) P.length=false:=zAm hlp
     have hst:=zAa hM
     rw [hok] at hno hst
     clear hok
     generalize (zBL (nth L (nth P m).toNat) (k+1)).isSome=b1 at*
     generalize (zBL (nth L (nth P m).toNat) (k+1)).getD zCh=y at*
     generalize hF (nth L (nth P m).toNat).Held (k+1)=b2 at*
     try refine sb ?_;try exact ⟨⟩
     repeat' (first|(refine qz ?_ ?_<;>intro h)|refine qy ?_|refine qo ?_|refine cq (cO) ?_|refine cq (cF) ?_|(with_reducible apply jn)|refine qu ?_ ?_|exact qj|refine qw ?_|fail)
     all_goals first|omega|(rw [hno (by simp_all)];rfl)|exact ⟨(),rfl,hst (by simp_all)⟩
    ·try simp (disch:=omega) only [go_sem,hE,hH,h]
     simp only [nf] at h
     rw [show m=P.length by omega] at hM
     rw [hM]
     simp only [Bool.or_true,Bool.true_and]
     all_goals (have y1_:=eT;repeat' (first|(refine zBC ?_ ?_<;>intro h)|refine qy ?_|refine zBX ?_|refine zAF (cT) ?_|refine zAF (cR) ?_|refine zAF (cE) ?_|(with_reducible apply jn)|refine qu ?_ ?_|exact zCd|refine zBA ?_|fail))
     all_goals first|omega|rfl|(simp_all;done)|(simp_all;omega)
theorem zOZ (w:World) (L:List State) (k:Nat) (hg:zAG w=true) (hL:sndI w L) (hk:k<w.Txns.length):ACall p_ 19 [.agg (World.row false w), .sl false 4 (L.map (State.row false)),i64 k] (fun r _=>r=bl (zND w L k)):=by
 have hmx:=zAd
 obtain ⟨w1,w2,w3,w4⟩:=zEp hg
 obtain ⟨wr,wc⟩:=zKG hg
 have hr:zBw w.Cuts=true:=by simp only [zCU,Bool.and_eq_true] at wr;exact wr.2
 obtain ⟨o1,o2,o3,o4⟩:=zLG hg hk
 have hgl:=zDV o2
 have hln:=hL.len
 have z1:zCh.Txn=0:=rfl
 have z2:zCh.Yes=false:=rfl
 have z3:zCh.Time=0:=rfl
 have cS:=zOY L (k+1) (by omega) (fun s h=>⟨(hL.st s h).tsrt,by have:=(hL.st s h).tlen;omega⟩)
 have cZ:=zV6 w.Cuts (nth w.Txns k) o1 o2 (by omega) hr
 have hOl:(zBq L ((k:Int)+1)).length≤L.length:=by rw [zBq];exact List.length_filterMap_le _ _
 have hp:∀ i,i<(zBj w (nth w.Txns k)).length→0≤nth (zBj w (nth w.Txns k)) i∧(nth (zBj w (nth w.Txns k)) i).toNat<L.length:=fun i hi=>by
  have:=zMp (zAc hi)
  omega
 have hpl:(zBj w (nth w.Txns k)).length≤w.Cuts.length+1:=zNv
 have hpp:zEG (nth w.Txns k)=true→0<(zBj w (nth w.Txns k)).length:=fun h=>by
  simp only [zEG,Bool.and_eq_true,decide_eq_true_eq] at h
  exact zNw (by omega)
 rw [←zBj] at cZ
 have cG:=zJE w.Cuts L (nth w.Txns k).Got ((nth w.Txns k).Time-1) (by omega) hr hL.len (fun s h=>(hL.st s h).cells) o2
 have eT:IntKind.i64.wrap ((nth w.Txns k).Time-1)=(nth w.Txns k).Time-1:=by simp [IntKind.wrap,IntKind.bits,IntKind.signed];omega
 have hRl:((zA8 (nth w.Txns k)).foldl zA5 []).length≤8:=by
  have:=zDQ (ws:=zA8 (nth w.Txns k)) (l:=[])
  have h2:(zA8 (nth w.Txns k)).length=(nth w.Txns k).Got.length:=by rw [zA8,List.length_map]
  rw [List.length_nil] at this;omega
 have hte:=zOX (a:=nth (zBq L ((k:Int)+1)) 0) (b:=⟨k+1,true,(nth w.Txns k).Time⟩)
 rw [zND,zKO, ←hte]
 clear hte wr
 generalize decide (zBz w.Cuts L (nth w.Txns k).Got ((nth w.Txns k).Time-1)=(nth w.Txns k).Got)=q at*
 generalize zBj w (nth w.Txns k)=P at*
 generalize zEG (nth w.Txns k)=cm at*
 generalize zBr (nth w.Txns k)=ws at*
 generalize (zA8 (nth w.Txns k)).foldl zA5 []=K at*
 generalize zBq L ((k:Int)+1)=A at*
 cases hd:zDI A with
 |true=>
  rw [hd,zNI,if_pos hd] at cS
  simp only [Bool.not_true,Bool.false_and]
  refine fg H19 fun E hE hH=> ?_
  repeat' (first|(refine qz ?_ ?_<;>intro h)|refine qy ?_|refine qo ?_|refine cq (cS) ?_|refine cq (cZ) ?_|(with_reducible apply jn)|refine qu ?_ ?_|exact qj|refine qw ?_|fail)
  all_goals first|omega|rfl
 |false=>
  rw [hd,zNI,if_neg (by rw [hd];decide)] at cS
  simp only [Bool.not_false,Bool.true_and]
  cases hpt:(nth w.Txns k).Put with
  |false=>
   simp only [WorldTxn.row,hpt] at cZ
   simp only [Bool.false_and,Bool.not_false,Bool.true_or,Bool.true_and]
   refine fg H19 fun E hE hH=> ?_
   all_goals (have y1_:=eT;have y2_:=hpt;repeat' (first|(refine zCJ ?_ ?_<;>intro h)|refine qy ?_|refine zFe ?_|refine zBY (cS) ?_|refine zBY (cZ) ?_|refine zBY (cG) ?_|(with_reducible apply jn)|refine qu ?_ ?_|exact zCK|refine zCL ?_|fail))
   all_goals first|omega|rfl|(simp_all;done)|(simp_all;omega)
  |true=>
   simp only [WorldTxn.row,hpt] at cZ
   cases cm with
   |false=>
    simp only [Bool.false_and,Bool.and_false,Bool.not_false,Bool.true_or,Bool.true_and]
    refine fg H19 fun E hE hH=> ?_
    all_goals (have y1_:=eT;have y2_:=hpt;repeat' (first|(refine zCJ ?_ ?_<;>intro h)|refine qy ?_|refine zFe ?_|refine zBY (cS) ?_|refine zBY (cZ) ?_|refine zBY (cG) ?_|(with_reducible apply jn)|refine qu ?_ ?_|exact zCK|refine zCL ?_|fail))
    all_goals first|omega|rfl|(simp_all;done)|(simp_all;omega)
   |true=>
    have hpp:=hpp rfl
    obtain ⟨p0,p1⟩:=hp 0 hpp
    have hi0:=hL.st _ (zAc p1)
    have c0:=zE6 (nth L (nth P 0).toNat) (k+1) (by have:=hi0.tlen;omega) hi0.tsrt
    rw [zMm,zON] at c0
    rw [show zNC L (k+1) P=((zBL (nth L (nth P 0).toNat) (k+1)).isSome&&zAg (fun i=>zD5 L (k+1) (nth P i)||zFI L (k+1) (nth P i)) P.length) from rfl]
    generalize (zBL (nth L (nth P 0).toNat) ((k:Int)+1)).isSome=b0 at*
    generalize (zBL (nth L (nth P 0).toNat) ((k:Int)+1)).getD zCh=y0 at*
    refine fg H19 fun E hE hH=> ?_
    all_goals (have y1_:=eT;have y2_:=hpt;repeat' (first|(refine zCJ ?_ ?_<;>intro h)|refine qy ?_|refine zFe ?_|refine zBY (cS) ?_|refine zBY (cZ) ?_|refine zBY (c0) ?_|refine zBY (cG) ?_|(with_reducible apply jn)|refine qu ?_ ?_|exact zCK|refine zCL ?_|fail))
    all_goals first|omega|rfl|(simp_all;done)|(simp_all;omega)|skip
    refine zAi P.length (fun m (_:Unit)=>⟨[(1, .sl false 4 (L.map (State.row false))),(2,i64 k),(3, .ptr 4000000 0 0),(7, .ptr 8000000 0 0),(8, .ref 9000000 0 A.length),(75, .ref 76000000 0 P.length),(76,i64 P.length),(77,i64 m)],[(4000000,⟨9,[World.row false w]⟩),(8000000,⟨10,[[.sl false 4 ((nth w.Txns k).Ops.map (Op.row false)), .sl false 3 ((nth w.Txns k).Got.map (Got.row false)), .sl false 1 (ints (nth w.Txns k).Terms),i64 (nth w.Txns k).Begin,i64 (nth w.Txns k).End,bl (nth w.Txns k).Yes,i64 (nth w.Txns k).Time,bl (nth w.Txns k).Dead,bl true,bl (nth w.Txns k).Stopped]]⟩),(9000000,⟨3,A.map (Told.row true)⟩),(76000000,⟨1,ints P⟩)]⟩) (fun m _=>zAg (fun i=>zD5 L (k+1) (nth P i)||zFI L (k+1) (nth P i)) m=true) () rfl ?_
    intro m _ hm hM
    try simp only [go_sem,hE,hH,zWQ]
    refine gG (fun h=> ?_) (fun h=> ?_)
    ·have hb:=h
     simp only [nf] at h
     have hlp:m<P.length:=by omega
     clear h
     obtain ⟨p0,p1⟩:=hp m hlp
     have hi:=hL.st _ (zAc p1)
     have cO:=zE6 (nth L (nth P m).toNat) (k+1) (by have:=hi.tlen;omega) hi.tsrt
     rw [zMm,zON] at cO
     have cF:=zKD (nth L (nth P m).toNat) (k+1) (by have:=hi.hlen;omega) hi.hsrt
     have hno:=zAm (p:=fun i=>zD5 L (k+1) (nth P i)||zFI L (k+1) (nth P i)) hlp
     have hst:=zAa (p:=fun i=>zD5 L (k+1) (nth P i)||zFI L (k+1) (nth P i)) hM
     have h1:zD5 L (k+1) (nth P m)=(zBL (nth L (nth P m).toNat) (k+1)).isSome:=rfl
     have h2:zFI L (k+1) (nth P m)=hF (nth L (nth P m).toNat).Held (k+1):=rfl
     simp only [h1,h2] at hno hst
     clear h1 h2
     generalize (zBL (nth L (nth P m).toNat) (k+1)).isSome=b1 at*
     generalize (zBL (nth L (nth P m).toNat) (k+1)).getD zCh=y at*
     generalize hF (nth L (nth P m).toNat).Held (k+1)=b2 at*
     generalize zMl (nth L (nth P m).toNat).Held (k+1)=y2 at*
     try refine sb ?_;try exact ⟨⟩
     repeat' (first|(refine qz ?_ ?_<;>intro h)|refine qy ?_|refine qo ?_|refine cq (cO) ?_|refine cq (cF) ?_|(with_reducible apply jn)|refine qu ?_ ?_|exact qj|refine qw ?_|fail)
     all_goals first|omega|(rw [hno (by simp_all)];simp_all;done)|exact ⟨(),rfl,hst (by simp_all)⟩
    ·try simp (disch:=omega) only [go_sem,hE,hH,h]
     simp only [nf] at h
     rw [show m=P.length by omega] at hM
     rw [hM]
     simp only [Bool.true_and,Bool.and_true,Bool.or_true]
     all_goals (have y1_:=eT;repeat' (first|(refine zBC ?_ ?_<;>intro h)|refine qy ?_|refine zBX ?_|refine zAF (cG) ?_|(with_reducible apply jn)|refine qu ?_ ?_|exact zCd|refine zBA ?_|fail))
     all_goals first|omega|rfl|(simp_all;done)|(simp_all;omega)
def zD6 (w:World) (L:List State) (i:Nat):Bool:=decide (zBz w.Cuts L (nth w.Looks i).Got (nth w.Looks i).Time=(nth w.Looks i).Got)
def zKP (w:World):Bool:=zAg (fun i=>zCW (nth w.Groups i)) w.Groups.length&&(zAg (zCX w (w.Groups.map zC3)) w.Txns.length&&zAg (zD6 w (w.Groups.map zC3)) w.Looks.length)
theorem zUq {w:World} (h:zAG w=true):sndI w (w.Groups.map zC3):=by
 refine ⟨zKI h,fun s hs=> ?_⟩
 obtain ⟨g,hg,rfl⟩:=List.mem_map.1 hs
 obtain ⟨i,hi,rfl⟩:=List.getElem_of_mem hg
 have:=(zFW h hi).1
 rw [zAN hi] at this
 exact zAbd this
theorem zJF {w:World} (h:zAG w=true) {j:Nat} (hj:j<w.Looks.length):zAK (nth w.Looks j).Got=true:=by
 have:=zR9 h hj
 simp only [zBQ,Bool.and_eq_true] at this
 exact this.1.1.1.1.2
theorem zQj (hS:zCD) (hC:zEF) (hR:zGi) (hI:zID) (w:World) (hw:zIz w):ACall p_ 7 [.agg (World.row false w)] (fun r _=>r= .tup [bl (zAG w&&zKP w),bl (zAG w)]):=by
 have hmx:=zAd
 have c1:=zRT w hw
 cases hg:zAG w with
 |false=>
  rw [hg] at c1
  refine fg H7 fun E hE hH=> ?_
  repeat' (first|(refine qz ?_ ?_<;>intro h)|refine qy ?_|refine qo ?_|refine cq (c1) ?_|(with_reducible apply jn)|refine qu ?_ ?_|exact qj|refine qw ?_|fail)
  all_goals first|rfl
 |true=>
  rw [hg] at c1
  rw [Bool.true_and]
  have c2:=zQh hS w hg
  have hl:=zEp hg
  have hLn:=zKI hg
  have hcl:=(zKG hg).2
  have hJ:=zUq hg
  rw [zKP]
  generalize w.Groups.map zC3=L at*
  refine fg H7 fun E hE hH=> ?_
  repeat' (first|(refine qz ?_ ?_<;>intro h)|refine qy ?_|refine qo ?_|refine cq (c1) ?_|refine cq (c2) ?_|(with_reducible apply jn)|refine qu ?_ ?_|exact qj|refine qw ?_|fail)
  refine zAi w.Groups.length (fun j (_:Unit)=>⟨[(1, .ptr 2000000 0 0),(4, .ref 5000000 0 L.length),(16, .sl false 3 (w.Groups.map (Group.row false))),(17,i64 w.Groups.length),(18,i64 j)],[(2000000,⟨9,[World.row false w]⟩),(5000000,⟨4,L.map (State.row true)⟩)]⟩) (fun j _=>zAg (fun i=>zCW (nth w.Groups i)) j=true) () rfl ?_
  intro j _ hj hM
  try simp only [go_sem,hE,hH,zZ3]
  refine gG (fun h=> ?_) (fun h=> ?_)
  ·have hb:=h
   simp only [nf] at h
   have hlt:j<w.Groups.length:=by omega
   clear h
   obtain ⟨hgo, -⟩:=zFW hg hlt
   have cI:=zXX (nth w.Groups j) (hw.2.2 _ (zAc hlt)) hgo
   have hno:=zAm (p:=fun i=>zCW (nth w.Groups i)) hlt
   have hst:=zAa (p:=fun i=>zCW (nth w.Groups i)) hM
   generalize zCW (nth w.Groups j)=q at*
   try refine sb ?_;try exact ⟨⟩
   repeat' (first|(refine qz ?_ ?_<;>intro h)|refine qy ?_|refine qo ?_|refine cq (cI) ?_|(with_reducible apply jn)|refine qu ?_ ?_|exact qj|refine qw ?_|fail)
   all_goals first|omega|(rw [hno (by simp_all)];rfl)|exact ⟨(),rfl,hst (by simp_all)⟩
  ·try simp (disch:=omega) only [go_sem,hE,hH,h]
   simp only [nf] at h
   rw [show j=w.Groups.length by omega] at hM
   rw [hM]
   clear h hj
   simp only [Bool.true_and]
   repeat' (first|(refine qz ?_ ?_<;>intro h)|refine qy ?_|(with_reducible apply jn)|refine qu ?_ ?_|exact qj|refine qw ?_|fail)
   refine zAi w.Txns.length (fun j (_:Unit)=>⟨[(1, .ptr 2000000 0 0),(4, .ref 5000000 0 L.length),(28,i64 w.Txns.length),(29,i64 j)],[(2000000,⟨9,[World.row false w]⟩),(5000000,⟨4,L.map (State.row true)⟩)]⟩) (fun j _=>zAg (zCX w L) j=true) () rfl ?_
   intro j _ hj hM
   try simp only [go_sem,hE,hH,zZ4]
   refine gG (fun h=> ?_) (fun h=> ?_)
   ·have hb:=h
    simp only [nf] at h
    have hlt:j<w.Txns.length:=by omega
    clear h
    have cI:=zQi hS hC hR hI w L j hg hJ hlt
    have hno:=zAm (p:=zCX w L) hlt
    have hst:=zAa (p:=zCX w L) hM
    generalize zCX w L j=q at*
    try refine sb ?_;try exact ⟨⟩
    repeat' (first|(refine qz ?_ ?_<;>intro h)|refine qy ?_|refine qo ?_|refine cq (cI) ?_|(with_reducible apply jn)|refine qu ?_ ?_|exact qj|refine qw ?_|fail)
    all_goals first|omega|(rw [hno (by simp_all)];rfl)|exact ⟨(),rfl,hst (by simp_all)⟩
   ·try simp (disch:=omega) only [go_sem,hE,hH,h]
    simp only [nf] at h
    rw [show j=w.Txns.length by omega] at hM
    rw [hM]
    clear h hj
    simp only [Bool.true_and]
    repeat' (first|(refine qz ?_ ?_<;>intro h)|refine qy ?_|(with_reducible apply jn)|refine qu ?_ ?_|exact qj|refine qw ?_|fail)
    refine zAi w.Looks.length (fun j (_:Unit)=>⟨[(1, .ptr 2000000 0 0),(4, .ref 5000000 0 L.length),(39, .sl false 6 (w.Looks.map (WorldLook.row false))),(40,i64 w.Looks.length),(41,i64 j)],[(2000000,⟨9,[World.row false w]⟩),(5000000,⟨4,L.map (State.row true)⟩)]⟩) (fun j _=>zAg (zD6 w L) j=true) () rfl ?_
    intro j _ hj hM
    try simp only [go_sem,hE,hH,zZ5]
    refine gG (fun h=> ?_) (fun h=> ?_)
    ·have hb:=h
     simp only [nf] at h
     have hlt:j<w.Looks.length:=by omega
     clear h
     have hgg:=zJF hg hlt
     have hgl:=zDV hgg
     have cR:=zPP hC w L (nth w.Looks j).Got (nth w.Looks j).Time (by omega) hJ.len (fun s h=>(hJ.st s h).cells) (by omega)
     have cE:=zKH (zBz w.Cuts L (nth w.Looks j).Got (nth w.Looks j).Time) (nth w.Looks j).Got (by rw [zBz,List.length_map];omega) (by omega)
     have hRl:(zBz w.Cuts L (nth w.Looks j).Got (nth w.Looks j).Time).length≤8:=by rw [zBz,List.length_map];omega
     have hno:=zAm (p:=zD6 w L) hlt
     have hst:=zAa (p:=zD6 w L) hM
     simp only [zD6] at hno hst
     generalize decide (zBz w.Cuts L (nth w.Looks j).Got (nth w.Looks j).Time=(nth w.Looks j).Got)=q at*
     generalize zBz w.Cuts L (nth w.Looks j).Got (nth w.Looks j).Time=R at*
     try refine sb ?_;try exact ⟨⟩
     repeat' (first|(refine qz ?_ ?_<;>intro h)|refine qy ?_|refine qo ?_|refine cq (cR) ?_|refine cq (cE) ?_|(with_reducible apply jn)|refine qu ?_ ?_|exact qj|refine qw ?_|fail)
     all_goals first|omega|(rw [show zAg (zD6 w L) w.Looks.length=false from hno (by simp_all)];rfl)|(rw [show zAg (zD6 w L) w.Looks.length=false from hno (by simp_all)];done)|exact ⟨(),rfl,hst (by simp_all)⟩
    ·try simp (disch:=omega) only [go_sem,hE,hH,h]
     simp only [nf] at h
     rw [show j=w.Looks.length by omega] at hM
     rw [hM]
     repeat' (first|(refine qz ?_ ?_<;>intro h)|refine qy ?_|(with_reducible apply jn)|refine qu ?_ ?_|exact qj|refine qw ?_|fail)
     all_goals first|rfl
theorem zO0 (w:World) (hw:zIz w):ACall p_ 5 [.agg (World.row false w)] (fun r _=>r= .tup [bl (zAG w&&zKP w),bl (zAG w)]):=by
 have hmx:=zAd
 have c1:=zVC w hw
 cases hg:zAG w with
 |false=>
  rw [hg] at c1
  refine fg H5 fun E hE hH=> ?_
  repeat' (first|(refine qz ?_ ?_<;>intro h)|refine qy ?_|refine qo ?_|refine cq (c1) ?_|(with_reducible apply jn)|refine qu ?_ ?_|exact qj|refine qw ?_|fail)
  all_goals first|rfl
 |true=>
  rw [hg] at c1
  rw [Bool.true_and]
  have hl:=zEp hg
  have hLn:=zKI hg
  obtain ⟨wr,hcl⟩:=zKG hg
  have hr:zBw w.Cuts=true:=by simp only [zCU,Bool.and_eq_true] at wr;exact wr.2
  clear wr
  have hJ:=zUq hg
  have hLi:∀ j,j<w.Groups.length→nth (w.Groups.map zC3) j=zC3 (nth w.Groups j):=fun j hj=>zDA hj
  rw [zKP]
  generalize w.Groups.map zC3=L at*
  refine fg H5 fun E hE hH=> ?_
  repeat' (first|(refine qz ?_ ?_<;>intro h)|refine qy ?_|refine qo ?_|refine cq (c1) ?_|(with_reducible apply jn)|refine qu ?_ ?_|exact qj|refine qw ?_|fail)
  refine zAU w.Groups.length (fun j (_:Unit)=>⟨[(1, .ptr 2000000 0 0),(4, .ref 5000000 0 j),(14, .sl false 3 (w.Groups.map (Group.row false))),(15,i64 w.Groups.length),(16,i64 j)],[(2000000,⟨9,[World.row false w]⟩),(5000000,⟨4,(L.take j).map (State.row false)⟩)]⟩) (fun j _=>zAg (fun i=>zCW (nth w.Groups i)) j=true) () rfl rfl ?_
  intro j _ hj hM
  try simp only [go_sem,hE,hH,zZ0]
  refine gG (fun h=> ?_) (fun h=> ?_)
  ·have hb:=h
   simp only [nf] at h
   have hlt:j<w.Groups.length:=by omega
   clear h
   obtain ⟨hgo, -⟩:=zFW hg hlt
   have cI:=zV5 (nth w.Groups j) (hw.2.2 _ (zAc hlt)) hgo
   have hno:=zAm (p:=fun i=>zCW (nth w.Groups i)) hlt
   have hst:=zAa (p:=fun i=>zCW (nth w.Groups i)) hM
   generalize zCW (nth w.Groups j)=q at*
   have cS:=zVT _ hgo
   rw [←hLi j hlt] at cS
   have hn:(L.take j).length=j:=by rw [List.length_take];omega
   have ht:(L.take j).take j=L.take j:=by rw [List.take_take,Nat.min_self]
   try simp (disch:=omega) only [go_sem,hE,hH,hn,hb]
   all_goals (have y1_:=hn;repeat' (first|(refine zBC ?_ ?_<;>intro h)|refine qy ?_|refine zBX ?_|refine zAF (cI) ?_|refine zAF (cS) ?_|(with_reducible apply jn)|refine qu ?_ ?_|exact zCd|refine zBA ?_|fail))
   repeat' (first|(refine both ?_ ?_)|omega|((first|apply zAJ|apply zBo)<;>(simp only [go_sem,hE,hH,hn];done))|fail)
   all_goals try simp only [ht,hn]
   all_goals first|omega|(rw [hno (by simp_all)];rfl)|exact Nat.le_trans (Nat.mul_le_mul_right _ (show j+1≤2^20+1 by omega)) (by decide)|(refine ⟨(), ?_,hst (by simp_all)⟩;rw [zAw (show j<L.length by omega),List.map_append];rfl)
  ·try simp (disch:=omega) only [go_sem,hE,hH,h]
   simp only [nf] at h
   rw [show j=w.Groups.length by omega] at hM ⊢
   rw [hM,show w.Groups.length=L.length by omega,List.take_length]
   clear h hj
   simp only [Bool.true_and]
   repeat' (first|(refine qz ?_ ?_<;>intro h)|refine qy ?_|(with_reducible apply jn)|refine qu ?_ ?_|exact qj|refine qw ?_|fail)
   refine zAi w.Txns.length (fun j (_:Unit)=>⟨[(1, .ptr 2000000 0 0),(4, .ref 5000000 0 L.length),(31,i64 w.Txns.length),(32,i64 j)],[(2000000,⟨9,[World.row false w]⟩),(5000000,⟨4,L.map (State.row false)⟩)]⟩) (fun j _=>zAg (zCX w L) j=true) () rfl ?_
   intro j _ hj hM
   try simp only [go_sem,hE,hH,zZ1]
   refine gG (fun h=> ?_) (fun h=> ?_)
   ·have hb:=h
    simp only [nf] at h
    have hlt:j<w.Txns.length:=by omega
    clear h
    have cI:=zOZ w L j hg hJ hlt
    rw [zXY (fun s h=>(hJ.st s h).tsrt) (fun p h=>by have:=zMp h;omega)] at cI
    have hno:=zAm (p:=zCX w L) hlt
    have hst:=zAa (p:=zCX w L) hM
    generalize zCX w L j=q at*
    try refine sb ?_;try exact ⟨⟩
    repeat' (first|(refine qz ?_ ?_<;>intro h)|refine qy ?_|refine qo ?_|refine cq (cI) ?_|(with_reducible apply jn)|refine qu ?_ ?_|exact qj|refine qw ?_|fail)
    all_goals first|omega|(rw [hno (by simp_all)];rfl)|exact ⟨(),rfl,hst (by simp_all)⟩
   ·try simp (disch:=omega) only [go_sem,hE,hH,h]
    simp only [nf] at h
    rw [show j=w.Txns.length by omega] at hM
    rw [hM]
    clear h hj
    simp only [Bool.true_and]
    repeat' (first|(refine qz ?_ ?_<;>intro h)|refine qy ?_|(with_reducible apply jn)|refine qu ?_ ?_|exact qj|refine qw ?_|fail)
    refine zAi w.Looks.length (fun j (_:Unit)=>⟨[(1, .ptr 2000000 0 0),(4, .ref 5000000 0 L.length),(42, .sl false 6 (w.Looks.map (WorldLook.row false))),(43,i64 w.Looks.length),(44,i64 j)],[(2000000,⟨9,[World.row false w]⟩),(5000000,⟨4,L.map (State.row false)⟩)]⟩) (fun j _=>zAg (zD6 w L) j=true) () rfl ?_
    intro j _ hj hM
    try simp only [go_sem,hE,hH,zZ2]
    refine gG (fun h=> ?_) (fun h=> ?_)
    ·have hb:=h
     simp only [nf] at h
     have hlt:j<w.Looks.length:=by omega
     clear h
     have hgg:=zJF hg hlt
     have hgl:=zDV hgg
     have cE:=zJE w.Cuts L (nth w.Looks j).Got (nth w.Looks j).Time (by omega) hr hJ.len (fun s h=>(hJ.st s h).cells) hgg
     have hno:=zAm (p:=zD6 w L) hlt
     have hst:=zAa (p:=zD6 w L) hM
     simp only [zD6] at hno hst
     generalize decide (zBz w.Cuts L (nth w.Looks j).Got (nth w.Looks j).Time=(nth w.Looks j).Got)=q at*
     try refine sb ?_;try exact ⟨⟩
     repeat' (first|(refine qz ?_ ?_<;>intro h)|refine qy ?_|refine qo ?_|refine cq (cE) ?_|(with_reducible apply jn)|refine qu ?_ ?_|exact qj|refine qw ?_|fail)
     all_goals first|omega|(rw [show zAg (zD6 w L) w.Looks.length=false from hno (by simp_all)];rfl)|(rw [show zAg (zD6 w L) w.Looks.length=false from hno (by simp_all)];done)|exact ⟨(),rfl,hst (by simp_all)⟩
    ·try simp (disch:=omega) only [go_sem,hE,hH,h]
     simp only [nf] at h
     rw [show j=w.Looks.length by omega] at hM
     rw [hM]
     repeat' (first|(refine qz ?_ ?_<;>intro h)|refine qy ?_|(with_reducible apply jn)|refine qu ?_ ?_|exact qj|refine qw ?_|fail)
     all_goals first|rfl
theorem zJm (hS:zCD) (hC:zEF) (hR6:zGi) (hI:zID) (vW:World) (wW:vW.wf):ACall p_ 3 [.agg (World.row false vW)] (fun r _=>r=bl true):=by
 have hmx:=zAd
 have lW:vW.lim:=World.lim_of wW
 refine fg H3 fun E hE hH=> ?_;refine st ?_
 refine zAE ?_;simp (disch:=omega) only [go_sem,hE,hH];refine cvA (zVd vW _ (by decide) (by decide) wW) ?_
 refine zAH ?_
 rintro r l ⟨n1,rfl,hn1,hsz1⟩
 try refine st ?_;try exact ⟨⟩
 refine gG (fun h1=> ?_) (fun h1=> ?_)
 ·try simp (disch:=omega) only [go_sem,hE,hH,h1]
 have hb1:=h1
 simp only [nf] at h1
 try simp (disch:=omega) only [go_sem,hE,hH,hb1]
 have sW:vW.sz≤2^20:=by have:=hsz1 h1;omega
 have hmx:=zAd
 have hp:=zXw wW sW
 have c1:=zQj hS hC hR6 hI vW hp
 have c2:=zO0 vW hp
 generalize (zAG vW&&zKP vW)=o at*
 generalize zAG vW=b at*
 repeat' (first|(refine qz ?_ ?_<;>intro h)|refine qy ?_|refine qo ?_|refine cq (zVj vW sW) ?_|refine cq (c2) ?_|refine cq (c1) ?_|refine cq (zVp vW vW lW) ?_|(with_reducible apply jn)|refine qu ?_ ?_|exact qj|refine qw ?_|fail)
 all_goals omega
end Go.Proofs.Wb

import Derived.Test.YthfpgpkdankdjaaGreatDoorFnExactSoundWorldHas
import Derived.Test.YthfpgpkdankdjaaGreatDoorLayI
import Derived.Test.YthfpgpkdankdjaaGreatDoorLayA
import Derived.Shelf.Strconv.Itoa3
import Derived.Shelf.Strconv.ErrVarAll
import Derived.Lib.AtoiErrMem
import Derived.Lib.AtoiOr
import Derived.BigCall
import Derived.Lib.LaidTab
import Derived.WalkKit
set_option linter.all false
namespace Go.Proofs.Wb
open Go Go.Am Go.RowKit Go.Proofs Go.Shelf
theorem decD:∀ (k u:Nat),u<10^k→1≤k→Lib.decDigits u=zDS k u
 |0,_,_,h=>absurd h (by omega)
 |k+1,u,hu,_=>by
  rw [Lib.decDigits]
  simp only [zDS]
  by_cases h:u<10
  ·rw [dif_pos h,if_pos h]
  ·rw [dif_neg h,if_neg h,decD k (u/10) (by rw [Nat.pow_succ] at hu;omega) (by
    rcases Nat.eq_zero_or_pos k with rfl|h1
    ·simp at hu;omega
    ·exact h1)]
theorem kept_below {F:List Nat} {w w':Go.World} (hB:Below w.heap.size w w'):Kept F w w':=by
 refine ⟨hB.os,hB.tape,hB.output,hB.size,fun b hb _=>hB.block b hb,fun b arr el fr h=> ?_⟩
 have hb:b<w.heap.size:=(Array.getElem?_eq_some_iff.1 h).1
 exact ⟨arr,fr,by rw [hB.block b hb];exact h,rfl⟩
theorem grow_below (w:Go.World) (k:Nat) (os:Array Obj):Below w.heap.size w (Sort.grow (w.drewN k) os):=by
 have hh:(w.drewN k).heap=w.heap:=by simp
 refine ⟨rfl,rfl,rfl, ?_,fun b hb=> ?_⟩
 ·simp only [Sort.grow,Array.size_append,hh];omega
 ·simp only [Sort.grow,hh]
  rw [Array.getElem?_append_left hb]
theorem tab_pow {w:Go.World} {S:Nat→Prop} (hT:Inv w S):Lib.TabIs Tryz.prog w "internal/strconv.uint64pow10" .u64 Lib.pow10Tab:=by
 obtain ⟨_,arr,el,fr,h1,h2⟩:=hT _ (List.Mem.head _)
 have h3:arr.toList=Lib.pow10Tab.map fun z=>Value.int .u64 z:=h2
 have h4:arr=(Lib.pow10Tab.map fun z=>Value.int .u64 z).toArray:=by rw [←h3]
 unfold Lib.TabIs World.var?
 rw [show Tryz.prog.globalNamed "internal/strconv.uint64pow10" =some 0 by kernel_rfl]
 simp only [Option.bind_some]
 rw [show w.heap[0]? =some (.cells arr el fr) from h1,h4]
theorem itoaZ_lib (v:Int) (h1: -999999≤v) (h2:v≤999999):(⟨⟨Lib.itoa v⟩⟩:ByteArray)=zFb v:=by
 have hd:∀ u:Nat,u<10^18→Lib.decDigits u=dgt u:=fun u hu=>by rw [decD 18 u hu (by omega),dgt,zOO 18 20 u hu (by omega) (by omega)]
 have h18:(10:Nat)^18=1000000000000000000:=by decide
 rw [zFb,Lib.itoa]
 split
 ·rw [show (-v).toNat=v.natAbs by omega,hd _ (by omega)]
 ·rw [hd _ (by omega)]
theorem itoaZH:zID:=by
 intro v h1 h2 w S0 F vs hsz hrep hnd hF hS0 hT
 have hrep0:=hrep
 simp only [RepRow,Rep] at hrep
 obtain ⟨y,F1,F2,c1,⟨rfl,rfl⟩,rfl,rfl⟩:=hrep
 have hvs:vs= #[.int .i64 v]:=by
  apply Array.ext
  ·simpa using hsz
  ·intro i h1 h2
   simp at h2
   subst h2
   rw [Array.getElem?_eq_getElem h1] at c1;simpa using c1
 subst hvs
 refine (Any.strconv_Itoa Tryz.laysItoa v (by omega) (by omega) w (tab_pow hT)).mono ?_
 rintro e w' ⟨rfl,k,os,rfl⟩
 have hB:=grow_below w k os
 rw [itoaZ_lib v h1 h2]
 refine ⟨_,str (zFb v),[i64 v],S0,[],[],rfl,rfl,rfl, ?_, ?_,by simp,by simp,fun b hb=>⟨Nat.lt_of_lt_of_le (hS0 b hb) hB.size, .inl hb⟩,fun b h=>h,kept_below hB⟩
 ·simp only [Rep];exact ⟨trivial,trivial⟩
 ·exact zBa _ hrep0 fun b hb=>hB.block b (hb.elim (fun h=>(hF b h).2) (hS0 b))
theorem valD_snoc (l:List UInt8) (c:UInt8):zBM (l++[c])=10*zBM l+(c.toNat-48):=by
 rw [zBM,List.foldl_append];rfl
theorem dg_all {s:List UInt8}:zAg (zHl s) s.length=true↔∀ c∈s,48≤c.toNat∧c.toNat≤57:=by
 rw [zAs]
 constructor
 ·intro h c hc
  obtain ⟨i,hi,rfl⟩:=List.getElem_of_mem hc
  have:=h i hi
  simpa [zHl,List.getD,hi] using this
 ·intro h i hi
  have:=h _ (List.getElem_mem hi)
  simpa [zHl,List.getD,hi] using this
theorem snoc_rec {p:List UInt8→Prop} (h0:p []) (h1:∀ l c,p l→p (l++[c])) (l:List UInt8):p l:=by
 have:∀ n (l:List UInt8),l.length=n→p l:=by
  intro n
  induction n with
  |zero=>intro l h;rw [List.length_eq_zero_iff.1 h];exact h0
  |succ n ih=>
   intro l h
   have hne:l≠[]:=by rintro rfl;simp at h
   rw [←List.dropLast_concat_getLast hne]
   exact h1 _ _ (ih _ (by rw [List.length_dropLast];omega))
 exact this _ l rfl
theorem dec_val (l:List UInt8):(∀ c∈l,48≤c.toNat∧c.toNat≤57)→(l.getD 0 0).toNat≠48→l≠[]→1≤zBM l∧Lib.decDigits (zBM l)=l:=by
 induction l using snoc_rec with
 |h0=>intro _ _ h;exact absurd rfl h
 |h1 l c ih=>
  intro hd h0 _
  have hc:=hd c (by simp)
  rw [valD_snoc]
  by_cases hl:l=[]
  ·subst hl
   have:c.toNat≠48:=h0
   rw [show 10*zBM []+(c.toNat-48)=c.toNat-48 by simp [zBM],Lib.decDigits,dif_pos (by omega),zOP hc.1]
   exact ⟨by omega,rfl⟩
  ·have h0':(l.getD 0 0).toNat≠48:=by
    obtain ⟨a,r,rfl⟩:=List.exists_cons_of_ne_nil hl
    exact h0
   obtain ⟨h1,h2⟩:=ih (fun x hx=>hd x (by simp [hx])) h0' hl
   refine ⟨by omega, ?_⟩
   rw [Lib.decDigits,dif_neg (by omega),show (10*zBM l+(c.toNat-48))/10=zBM l by omega,show (10*zBM l+(c.toNat-48))%10=c.toNat-48 by omega,zOP hc.1,h2]
theorem dec_back:∀ u:Nat,(∀ c∈Lib.decDigits u,48≤c.toNat∧c.toNat≤57)∧zBM (Lib.decDigits u)=u∧(u≠0→((Lib.decDigits u).getD 0 0).toNat≠48)∧Lib.decDigits u≠[]:=by
 intro u
 induction u using Nat.strongRecOn with
 |_ u ih=>
  have hu:∀ k,k<10→(UInt8.ofNat (48+k)).toNat=48+k:=by decide
  rw [Lib.decDigits]
  by_cases h:u<10
  ·rw [dif_pos h]
   refine ⟨fun c hc=> ?_, ?_,fun h2=> ?_,by simp⟩
   ·rw [List.mem_singleton.1 hc,hu u h];omega
   ·show 10*0+((UInt8.ofNat (48+u)).toNat-48)=u
    rw [hu u h];omega
   ·show (UInt8.ofNat (48+u)).toNat≠48
    rw [hu u h];omega
  ·rw [dif_neg h]
   obtain ⟨h1,h2,h4,h5⟩:=ih (u/10) (by omega)
   obtain ⟨a,r,e⟩:=List.exists_cons_of_ne_nil h5
   rw [valD_snoc,h2]
   rw [e] at h1 h4 ⊢
   refine ⟨?_,by rw [hu _ (by omega)];omega,fun _=>h4 (by omega),by simp⟩
   intro c hc
   rcases List.mem_append.1 hc with hc|hc
   ·exact h1 c hc
   ·rw [List.mem_singleton.1 hc,hu _ (by omega)];omega
theorem dec_len {u k:Nat} (h:u<10^k) (hk:1≤k):(Lib.decDigits u).length≤k:=by
 rw [Lib.decDigits_length]
 induction k generalizing u with
 |zero=>omega
 |succ k ih=>
  rw [Lib.nDigits]
  split
  ·omega
  ·rename_i h2
   rcases Nat.eq_zero_or_pos k with rfl|h3
   ·simp at h;omega
   ·have:=ih (u:=u/10) (by rw [Nat.pow_succ] at h;omega) h3
    omega
theorem dec_lt {l:List UInt8} (h:∀ c∈l,48≤c.toNat∧c.toNat≤57):zBM l<10^l.length:=by
 induction l using snoc_rec with
 |h0=>simp [zBM]
 |h1 l c ih=>
  have hc:=h c (by simp)
  have:=ih fun x hx=>h x (by simp [hx])
  rw [valD_snoc,List.length_append,List.length_singleton,Nat.pow_succ]
  omega
theorem dec_0:Lib.decDigits 0=[48]:=by rw [Lib.decDigits];rfl
theorem rdI_dec {s:List UInt8} {u:Nat}:rdI s=u↔u<1000000∧s=Lib.decDigits u:=by
 constructor
 ·intro h
  have hc:(zH7 s&&zAg (zHl s) s.length)=true:=by
   cases h2:(zH7 s&&zAg (zHl s) s.length) with
   |true=>rfl
   |false=>rw [rdI,h2] at h;simp at h
  rw [rdI,if_pos hc] at h
  simp only [Bool.and_eq_true] at hc
  obtain ⟨hs,hd⟩:=hc
  rw [dg_all] at hd
  simp only [zH7,Bool.and_eq_true,decide_eq_true_eq,Bool.not_eq_true',Bool.and_eq_false_iff,decide_eq_false_iff_not] at hs
  have hv:zBM s=u:=by omega
  have hlt:=dec_lt hd
  have hp:10^s.length≤10^6:=Nat.pow_le_pow_right (by omega) (by omega)
  refine ⟨by omega, ?_⟩
  rw [←hv]
  rcases hs.2 with h0|h1
  ·exact (dec_val s hd h0 (by rintro rfl;simp at hs)).2.symm
  ·obtain ⟨a,rfl⟩:=List.length_eq_one_iff.1 (show s.length=1 by omega)
   have:=hd a (by simp)
   rw [show zBM [a]=a.toNat-48 by simp [zBM],Lib.decDigits,dif_pos (by omega),zOP this.1]
 ·rintro ⟨h1,rfl⟩
  obtain ⟨q1,q2,q4,q5⟩:=dec_back u
  have hl:=dec_len (u:=u) (k:=6) (by omega) (by omega)
  have hne:1≤(Lib.decDigits u).length:=by
   rcases hh:Lib.decDigits u with _|⟨a,r⟩
   ·exact absurd hh q5
   ·simp
  have hsh:zH7 (Lib.decDigits u)=true:=by
   simp only [zH7,Bool.and_eq_true,decide_eq_true_eq,Bool.not_eq_true',Bool.and_eq_false_iff,decide_eq_false_iff_not]
   refine ⟨⟨hne,hl⟩, ?_⟩
   by_cases hu:u=0
   ·subst hu;right;rw [dec_0];decide
   ·exact .inl (q4 hu)
  rw [rdI,hsh,dg_all.2 q1,Bool.and_self,if_pos rfl,q2]
theorem dec_45 (u:Nat):(Lib.decDigits u).getD 0 0≠45:=by
 obtain ⟨h1, -, -,h5⟩:=dec_back u
 obtain ⟨a,r,e⟩:=List.exists_cons_of_ne_nil h5
 have:=h1 a (by rw [e];simp)
 rw [e]
 rintro h
 have h:a=45:=h
 subst h
 exact absurd this.1 (by decide)
theorem num6_iff {s:List UInt8} {v:Int}:zCI s=some v↔ -999999≤v∧v≤999999∧Lib.itoa v=s:=by
 rw [zCI,Lib.itoa]
 by_cases h:s.getD 0 0=45
 ·rw [if_pos h]
  obtain ⟨r,rfl⟩:∃ r,s=45::r:=by
   rcases s with _|⟨a,r⟩
   ·exact absurd h (by decide)
   ·exact ⟨r,by rw [show a=45 from h]⟩
  rw [List.tail_cons]
  constructor
  ·intro q
   split at q
   ·rename_i h1
    cases q
    have:=(rdI_dec (s:=r) (u:=(rdI r).toNat)).1 (by omega)
    rw [if_pos (by omega),show (-(rdI r)).natAbs=(rdI r).toNat by omega, ←this.2]
    exact ⟨by omega,by omega,rfl⟩
   ·cases q
  ·rintro ⟨h1,h2,h3⟩
   split at h3
   ·rename_i hn
    injection h3 with _ h3
    have:=(rdI_dec (s:=r) (u:=v.natAbs)).2 ⟨by omega,h3.symm⟩
    rw [if_pos (by omega),this]
    congr 1;omega
   ·exact absurd (by rw [h3];rfl) (dec_45 v.toNat)
 ·rw [if_neg h]
  constructor
  ·intro q
   split at q
   ·cases q
    have:=(rdI_dec (s:=s) (u:=(rdI s).toNat)).1 (by omega)
    rw [if_neg (by omega), ←this.2]
    exact ⟨by omega,by omega,rfl⟩
   ·cases q
  ·rintro ⟨h1,h2,h3⟩
   split at h3
   ·rw [←h3] at h;exact absurd rfl h
   ·have:=(rdI_dec (s:=s) (u:=v.toNat)).2 ⟨by omega,h3.symm⟩
    rw [if_pos (by omega),this]
    congr 1;omega
theorem parse_dg (l:List UInt8):∀ acc,(∀ c∈l,48≤c.toNat∧c.toNat≤57)→(l.foldl (fun n c=>10*n+(c.toNat-48)) acc)<1000000000→Lib.parseUint10 acc l= .ok (l.foldl (fun n c=>10*n+(c.toNat-48)) acc):=by
 have grow:∀ (l:List UInt8) (n:Nat),n≤l.foldl (fun n c=>10*n+(c.toNat-48)) n:=by
  intro l
  induction l with
  |nil=>intro n;exact Nat.le_refl _
  |cons x l ih=>intro n;exact Nat.le_trans (show n≤10*n+(x.toNat-48) by omega) (ih _)
 induction l with
 |nil=>intro acc _ _;rfl
 |cons c r ih=>
  intro acc hd hb
  have hc:=hd c (by simp)
  have hg:=grow r (10*acc+(c.toNat-48))
  rw [List.foldl_cons] at hb ⊢
  rw [Lib.parseUint10,if_pos hc,if_neg (by omega),if_neg (by omega),show acc*10+(c.toNat-48)=10*acc+(c.toNat-48) by omega]
  exact ih _ (fun x hx=>hd x (by simp [hx])) hb
theorem atoi_itoa {v:Int} (h1: -999999≤v) (h2:v≤999999):Lib.atoiAll (Lib.itoa v)= .ok v:=by
 have hm:∀ u:Nat,u<1000000→Lib.parseMag (Lib.decDigits u)= .ok u:=by
  intro u hu
  obtain ⟨q1,q2, -,q5⟩:=dec_back u
  have:=parse_dg _ 0 q1 (by rw [←zBM,q2];omega)
  rw [←zBM,q2] at this
  rw [Lib.parseMag,if_neg q5,this]
 rw [Lib.itoa]
 split
 ·simp only [Lib.atoiAll]
  rw [if_pos (by decide),hm _ (by omega)]
  simp only
  rw [if_neg (by rintro ⟨q, -⟩;exact q (by decide)),if_neg (by omega),if_pos (by decide)]
  congr 1;omega
 ·obtain ⟨q1, -, -,q5⟩:=dec_back v.toNat
  have hmm:=hm v.toNat (by omega)
  obtain ⟨a,r,e⟩:=List.exists_cons_of_ne_nil q5
  have ha:=q1 a (by rw [e];simp)
  rw [e] at hmm ⊢
  simp only [Lib.atoiAll]
  rw [if_neg (by omega),hmm]
  simp only
  rw [if_neg (by omega),if_neg (by omega),if_neg (by omega)]
  congr 1;omega
theorem num6_no {s:List UInt8} (h:∀ v:Int,Lib.atoiAll s= .ok v→¬ (-999999≤v∧v≤999999∧Lib.itoa v=s)):zCI s=none:=by
 cases hr:zCI s with
 |none=>rfl
 |some v=>
  have h1:=num6_iff.1 hr
  have h2:=atoi_itoa h1.1 h1.2.1
  rw [h1.2.2] at h2
  exact absurd h1 (h v h2)
theorem acall_v {f:Nat} {ts:List T} {x:Value} (h:ACall Tryz.prog f ts (fun r _=>r= .v x)) {w:Go.World} {vs:Array Value} (hv:vs.size=ts.length) (hr:RepRow (fun b=>b<w.heap.size) w noH (fun i=>vs[i]?) 0 ts []) (hT:Inv w fun b=>b<w.heap.size):
  Calls Tryz.prog f vs w fun e w'=>e= .returned x∧Below w.heap.size w w':=by
 refine (h w (fun b=>b<w.heap.size) [] vs hv hr List.nodup_nil (by simp) (fun _ h=>h) hT).mono ?_
 rintro e w' ⟨rv,r,l,S',Fr,Fa,rfl,rfl,_,hb⟩
 have:=hb.res
 simp only [Rep] at this
 exact ⟨by rw [this.1],zJz hb.kept⟩
def rdV6:Option Int→Value
 |some v=> .tuple #[.int .i64 v, .bool true]
 |none=> .tuple #[.int .i64 0, .bool false]
theorem var_syn {w:Go.World} {S:Nat→Prop} (hT:Inv w S):∃ tp p,w.var? Tryz.prog "strconv.ErrSyntax" =some #[.iface tp p]:=by
 obtain ⟨_,arr,el,fr,h1,tp,p,h2⟩:=hT _ (List.Mem.tail _ (List.Mem.head _))
 refine ⟨tp,p, ?_⟩
 have h4:arr= #[.iface tp p]:=by rw [←Array.toList_inj,h2]
 unfold World.var?
 rw [show Tryz.prog.globalNamed "strconv.ErrSyntax" =some 2 by kernel_rfl]
 simp only [Option.bind_some]
 rw [show w.heap[2]? =some (.cells arr el fr) from h1,h4]
theorem var_rng {w:Go.World} {S:Nat→Prop} (hT:Inv w S):∃ tp p,w.var? Tryz.prog "strconv.ErrRange" =some #[.iface tp p]:=by
 obtain ⟨_,arr,el,fr,h1,tp,p,h2⟩:=hT _ (List.Mem.tail _ (List.Mem.tail _ (List.Mem.head _)))
 refine ⟨tp,p, ?_⟩
 have h4:arr= #[.iface tp p]:=by rw [←Array.toList_inj,h2]
 unfold World.var?
 rw [show Tryz.prog.globalNamed "strconv.ErrRange" =some 3 by kernel_rfl]
 simp only [Option.bind_some]
 rw [show w.heap[3]? =some (.cells arr el fr) from h1,h4]
theorem inv_below {w w':Go.World} (h:Inv w fun b=>b<w.heap.size) (hB:Below w.heap.size w w'):Inv w' fun b=>b<w'.heap.size:=
 h.mono (fun b hb=>Nat.lt_of_lt_of_le hb hB.size) (fun b hb=>hB.block b hb)
theorem within_k (w:Go.World) (hT:Inv w fun b=>b<w.heap.size) (n:Int):Calls Tryz.prog 72 #[.int .i64 n, .int .i64 (-999999), .int .i64 999999] w fun e w'=>e= .returned (.bool (rng n (-999999) 999999))∧Below w.heap.size w w':=
 acall_v (zA4 n (-999999) 999999) rfl (by simp only [RepRow,Rep];exact ⟨_,[],[],rfl,⟨rfl,rfl⟩,⟨_,[],[],rfl,⟨rfl,rfl⟩,⟨_,[],[],rfl,⟨rfl,rfl⟩,rfl,rfl⟩,rfl⟩,rfl⟩) hT
theorem itoa_k (w:Go.World) (hT:Inv w fun b=>b<w.heap.size) (v:Int) (h1: -999999≤v) (h2:v≤999999):Calls Tryz.prog 194 #[.int .i64 v] w fun e w'=>e= .returned (.string ⟨⟨Lib.itoa v⟩⟩)∧Below w.heap.size w w':=by
 refine (Any.strconv_Itoa Tryz.laysItoa v (by omega) (by omega) w (tab_pow hT)).mono ?_
 rintro e w' ⟨rfl,k,os,rfl⟩
 exact ⟨rfl,grow_below w k os⟩
set_option maxRecDepth 100000 in
set_option maxHeartbeats 4000000 in
theorem readInt_k6 (s:List UInt8) (hs:s.length≤100) (w:Go.World) (hT:Inv w fun b=>b<w.heap.size):
  Calls Tryz.prog 229 #[.string ⟨⟨s⟩⟩, .int .i64 (-999999), .int .i64 999999] w fun e w'=>e= .returned (rdV6 (zCI s))∧Below w.heap.size w w':=by
 have hsz:(⟨⟨s⟩⟩:ByteArray).size=s.length:=rfl
 rcases h:Lib.atoiAll s with v|_|_
 ·have hat:Calls Tryz.prog 279 #[.string ⟨⟨s⟩⟩] w fun e w'=>e= .returned (.tuple #[.int .i64 v, .nilIface])∧Below w.heap.size w w':=by
   refine (Any.strconv_Atoi_ok Tryz.laysAtoi ⟨⟨s⟩⟩ (by rw [hsz];omega) v h w).mono ?_
   rintro e w' ⟨rfl,rfl|⟨t,rfl⟩⟩
   ·exact ⟨rfl,Below.refl _ _⟩
   ·exact ⟨rfl,Lib.bytesWorld_below _ _ _⟩
  cases hr:rng v (-999999) 999999 with
  |false=>
   have hn:=zHd.1 hr
   rw [num6_no (fun u hu=>by rw [h] at hu;cases hu;exact fun q=>hn ⟨q.1,q.2.1⟩)]
   go_enter Tryz.func229,Tryz.ntmps229
   go_wp2_with (go_at_call 279;refine hat.mono ?_;rintro e W1 ⟨rfl,hb⟩)
   go_wp2_with (go_at_call 72;refine (within_k W1 (inv_below hT hb) v).mono ?_;rintro e W2 ⟨rfl,hb2⟩;rw [hr])
   go_ret2
   exact ⟨rfl,hb.trans (hb2.mono hb.size)⟩
  |true=>
   have hn:=zBl.1 hr
   by_cases hd:Lib.itoa v=s
   ·rw [num6_iff.2 ⟨hn.1,hn.2,hd⟩]
    go_enter Tryz.func229,Tryz.ntmps229
    go_wp2_with (go_at_call 279;refine hat.mono ?_;rintro e W1 ⟨rfl,hb⟩)
    go_wp2_with (go_at_call 72;refine (within_k W1 (inv_below hT hb) v).mono ?_;rintro e W2 ⟨rfl,hb2⟩;rw [hr])
    go_wp2_with (go_at_call 194;refine (itoa_k W2 (inv_below (inv_below hT hb) hb2) v hn.1 hn.2).mono ?_;rintro e W3 ⟨rfl,hb3⟩;rw [hd])
    go_ret2
    exact ⟨rfl,(hb.trans (hb2.mono hb.size)).trans (hb3.mono (Nat.le_trans hb.size hb2.size))⟩
   ·have hne:¬ ((⟨⟨Lib.itoa v⟩⟩:ByteArray)=⟨⟨s⟩⟩):=fun e=>hd (by injection e with e;injection e)
    rw [num6_no (fun x hx=>by rw [h] at hx;cases hx;exact fun q=>hd q.2.2)]
    go_enter Tryz.func229,Tryz.ntmps229
    go_wp2_with (go_at_call 279;refine hat.mono ?_;rintro e W1 ⟨rfl,hb⟩)
    go_wp2_with (go_at_call 72;refine (within_k W1 (inv_below hT hb) v).mono ?_;rintro e W2 ⟨rfl,hb2⟩;rw [hr])
    go_wp2_with (go_at_call 194;refine (itoa_k W2 (inv_below (inv_below hT hb) hb2) v hn.1 hn.2).mono ?_;rintro e W3 ⟨rfl,hb3⟩)
    all_goals first|(exfalso;simp_all;done)|(go_ret2;exact ⟨rfl,(hb.trans (hb2.mono hb.size)).trans (hb3.mono (Nat.le_trans hb.size hb2.size))⟩)
 ·obtain ⟨tp,p,hvar⟩:=var_syn hT
  rw [num6_no (fun v hv=>by rw [h] at hv;cases hv)]
  have hat:Calls Tryz.prog 279 #[.string ⟨⟨s⟩⟩] w fun e w'=>∃ x tq q,e= .returned (.tuple #[.int .i64 x, .iface tq q])∧Below w.heap.size w w':=
   (Any.strconv_Atoi_syntax_var Tryz.laysAtoi ⟨⟨s⟩⟩ (by rw [hsz];omega) h tp p w hvar).mono fun e w' ⟨N,he,_,_,hb⟩=>⟨_,_,_,he,hb⟩
  go_enter Tryz.func229,Tryz.ntmps229
  go_wp2_with (go_at_call 279;refine hat.mono ?_;rintro e W1 ⟨x,tq,q,rfl,hb⟩)
  go_ret2
  exact ⟨rfl,hb⟩
 ·obtain ⟨tp,p,hvar⟩:=var_rng hT
  rw [num6_no (fun v hv=>by rw [h] at hv;cases hv)]
  have hat:Calls Tryz.prog 279 #[.string ⟨⟨s⟩⟩] w fun e w'=>∃ x tq q,e= .returned (.tuple #[.int .i64 x, .iface tq q])∧Below w.heap.size w w':=
   (Any.strconv_Atoi_range_var Tryz.laysAtoi ⟨⟨s⟩⟩ (by rw [hsz];omega) h tp p w hvar).mono fun e w' ⟨N,he,_,_,hb⟩=>⟨_,_,_,he,hb⟩
  go_enter Tryz.func229,Tryz.ntmps229
  go_wp2_with (go_at_call 279;refine hat.mono ?_;rintro e W1 ⟨x,tq,q,rfl,hb⟩)
  go_ret2
  exact ⟨rfl,hb⟩
theorem read6H:zGi:=by
 intro s hs w S0 F vs hsz hrep hnd hF hS0 hT
 have hrep0:=hrep
 simp only [RepRow,Rep] at hrep
 obtain ⟨y,F1,F2,c1,⟨rfl,rfl⟩,⟨y2,F3,F4,c2,⟨rfl,rfl⟩,⟨y3,F5,F6,c3,⟨rfl,rfl⟩,rfl,rfl⟩,rfl⟩,rfl⟩:=hrep
 have hvs:vs= #[.string ⟨⟨s⟩⟩, .int .i64 (-999999), .int .i64 999999]:=by
  apply Array.ext
  ·simpa using hsz
  ·intro i h1 h2
   simp at h2
   rcases Nat.lt_or_ge i 1 with h|h
   ·obtain rfl:i=0:=by omega
    rw [Array.getElem?_eq_getElem h1] at c1;simpa using c1
   ·rcases Nat.lt_or_ge i 2 with h|h
    ·obtain rfl:i=1:=by omega
     have c:vs[1]? =some (.int .i64 (-999999)):=c2
     rw [Array.getElem?_eq_getElem h1] at c;simpa using c
    ·obtain rfl:i=2:=by omega
     have c:vs[2]? =some (.int .i64 999999):=c3
     rw [Array.getElem?_eq_getElem h1] at c;simpa using c
 subst hvs
 refine (readInt_k6 s hs w (hT.mono (fun b hb=>hS0 b hb) fun _ _=>rfl)).mono ?_
 rintro e w' ⟨rfl,hB⟩
 refine ⟨_,zHm (zCI s),[sD s,i64 (-999999),i64 999999],S0,[],[],rfl,rfl,rfl, ?_, ?_,by simp,by simp,fun b hb=>⟨Nat.lt_of_lt_of_le (hS0 b hb) hB.size, .inl hb⟩,fun b h=>h,kept_below hB⟩
 ·cases zCI s<;>(simp only [Rep,RepRow,zHm,rdV6,Option.getD_some,Option.isSome_some,Option.getD_none,Option.isSome_none];exact ⟨_,rfl,rfl,_,[],[],rfl,⟨rfl,rfl⟩,⟨_,[],[],rfl,⟨rfl,rfl⟩,rfl,rfl⟩,rfl⟩)
 ·exact zBa _ hrep0 fun b hb=>hB.block b (hb.elim (fun h=>(hF b h).2) (hS0 b))
end Go.Proofs.Wb

import Derived.RangeFuncNested
import Derived.RangeFuncBound
import Derived.RangeFuncCalls
import Derived.RangeFuncLeaves
import Derived.Shelf.Abstract
import Derived.Shelf.RegionOpen
import Derived.WalkKit
import Derived.OwnWalkIn
import Derived.TacticsInMore
import Derived.LoopNIn
import Derived.LoopIn
import Derived.Test.YthfpgpkdankdjaaGreatDoorFnExactSoundWorldHas
namespace Go.Proofs.Cat
open Go Go.RowKit Go.Shelf Go.Proofs
attribute [local go_sem] Oper.semAt_some
set_option maxHeartbeats 1000000 in
theorem back_in (F:Fence) (n:Nat) (h5:F.fn 248) (hro:F.round=none) (a:Option Addr) (len cap:Nat) (w:World):
  CallsIn F n Tryz.prog 248 #[.slice a len cap] w fun e w'=>e= .returned (.func (.func 287) #[] #[.pointer (some ⟨w.heap.size,0,none⟩)])∧w'=w.alloc (.cells #[.slice a len cap] 199):=by
 refine callsIn_of_wp Tryz.func248 rfl h5 ?_ hro
 simp only [Tryz.ntmps248,List.size_toArray,List.length_cons,List.length_nil,Nat.reduceAdd,Nat.reduceSub,Array.replicate_succ,Array.replicate_zero,List.push_toArray,List.append_toArray,List.nil_append,List.cons_append]
 gi_wp2
 go_ret
 exact ⟨rfl,rfl⟩
theorem upto_dn {α:Type} (f:Nat→α) (n k:Nat):(List.range (k+1)).map (fun i=>f (n-1-i))=(List.range k).map (fun i=>f (n-1-i))++[f (n-1-k)]:=by simp [List.range_succ]
def dn {α:Type} (f:Nat→α) (n k:Nat):List α:=(List.range k).map fun i=>f (n-1-i)
theorem dn_succ {α:Type} (f:Nat→α) (n k:Nat):dn f n (k+1)=dn f n k++[f (n-1-k)]:=upto_dn f n k
theorem dn_length {α:Type} (f:Nat→α) (n k:Nat):(dn f n k).length=k:=by simp [dn]
set_option maxRecDepth 100000 in
set_option maxHeartbeats 4000000 in
theorem back1_in (F:Fence) (n:Nat) (h7:F.fn 287) (hro:F.round=none) (hn:1≤n) (l Bs n₀ b off len cap:Nat) (zs:Nat→Int×ByteArray×Bool) (hreach:len≤2^60) (hb:b<n₀) (J Jx:List (Nat×Int×ByteArray×Bool)→World→Prop)
  (hY:∀ pre x W,J pre W→pre.length<len→YieldAt F (n-1) Tryz.prog l #[.int .i64 x.1,(.agg #[.int .i64 x.2.1, .string x.2.2.1, .bool x.2.2.2])] W fun e W'=>
   (e= .returned (.bool true)∧J (pre++[x]) W'∧Below n₀ W W')∨(e= .returned (.bool false)∧Jx (pre++[x]) W'))
  (W:World) (hBs:W.cell? ⟨Bs,0,none⟩=some (.slice (some ⟨b,off,none⟩) len cap)) (hBn:Bs<n₀)
  (hc:∀ j,j<len→W.cell? ⟨b,off+j*3,none⟩=some (.int .i64 (zs j).1)∧W.cell? ⟨b,off+j*3+1,none⟩=some (.string (zs j).2.1)∧W.cell? ⟨b,off+j*3+2,none⟩=some (.bool (zs j).2.2)) (h0:J [] W):
  CallsIn F n Tryz.prog 287 #[.func (.yield l) #[] #[], .pointer (some ⟨Bs,0,none⟩)] W fun e W'=>(∃ v,e= .returned v)∧
   ((∃ ys,ys=dn (fun j=>(j,zs j)) len len∧J ys W')∨(∃ pre,(∃ k,k≤len∧pre=dn (fun j=>(j,zs j)) len k)∧Jx pre W')):=by
 refine callsIn_of_wp Tryz.func287 rfl h7 ?_ hro
 simp only [Tryz.ntmps287,List.size_toArray,List.length_cons,List.length_nil,Nat.reduceAdd,Nat.reduceSub,Array.replicate_succ,Array.replicate_zero,List.push_toArray,List.append_toArray,List.nil_append,List.cons_append]
 gi_wp2
 gi_loopw [3] (fun i wr=>∃ k:Nat,k≤len∧i= .int .i64 ((len:Int)-1-k)∧J (dn (fun j=>(j,zs j)) len k) wr∧Below n₀ W wr)
  (fun i _=>(intOf i+1).toNat)
 case atStart=>exact ⟨0,Nat.zero_le _,by simp,h0,Below.refl _ _⟩
 case round=>
  obtain ⟨k,hk,rfl,hJs,hnx⟩:=hrel
  have hBx:=(hnx.cell (p:=⟨Bs,0,none⟩) hBn).trans hBs
  by_cases hlt:k<len
  ·obtain ⟨fn,tmps,assign,body,hy,hR⟩:=hY _ (len-1-k,zs (len-1-k)) wr hJs (by rw [dn_length];exact hlt)
   dsimp only at hy
   rw [show ((len-1-k:Nat):Int)=(len:Int)-1-k by omega] at hy
   obtain ⟨c1,c2,c3⟩:=hc (len-1-k) (by omega)
   have d1:=(hnx.cell (p:=⟨b,off+(len-1-k)*3,none⟩) hb).trans c1
   have d2:=(hnx.cell (p:=⟨b,off+(len-1-k)*3+1,none⟩) hb).trans c2
   have d3:=(hnx.cell (p:=⟨b,off+(len-1-k)*3+2,none⟩) hb).trans c3
   gi_wp2
   refine hR.mono ?_
   rintro e W3 (⟨rfl,hJ3,hk3⟩|⟨rfl,hJx3⟩)
   ·gi_wp2
    go_roundw
    case rel=>exact ⟨k+1,by omega,by simp;omega,by rw [dn_succ];exact hJ3,hnx.trans hk3⟩
    case measure=>simp [intOf];omega
   ·gi_wp2
    refine bodyPost_ret (results_none rfl _ _ _) rfl ?_
    exact ⟨⟨_,rfl⟩, .inr ⟨_,⟨k+1,by omega,(dn_succ _ _ _).symm⟩,hJx3⟩⟩
  ·obtain rfl:k=len:=by omega
   gi_wp2
   go_end0
   exact ⟨⟨_,rfl⟩, .inl ⟨_,rfl,hJs⟩⟩
set_option maxRecDepth 100000 in
set_option maxHeartbeats 1000000 in
theorem back1_nil_in (F:Fence) (n:Nat) (h7:F.fn 287) (hro:F.round=none) (l Bs:Nat) (J:List (Nat×Int×ByteArray×Bool)→World→Prop) (W:World) (a:Option Addr) (cap:Nat) (hBs:W.cell? ⟨Bs,0,none⟩=some (.slice a 0 cap)) (h0:J [] W):
  CallsIn F n Tryz.prog 287 #[.func (.yield l) #[] #[], .pointer (some ⟨Bs,0,none⟩)] W fun e W'=>(∃ v,e= .returned v)∧J [] W':=by
 refine callsIn_of_wp Tryz.func287 rfl h7 ?_ hro
 simp only [Tryz.ntmps287,List.size_toArray,List.length_cons,List.length_nil,Nat.reduceAdd,Nat.reduceSub,Array.replicate_succ,Array.replicate_zero,List.push_toArray,List.append_toArray,List.nil_append,List.cons_append]
 gi_wp2
 gi_loopw [3] (fun i wr=>i= .int .i64 (-1)∧J [] wr) (fun _ _=>0)
 case atStart=>exact ⟨rfl,h0⟩
 case round=>
  obtain ⟨rfl,hJs⟩:=hrel
  gi_wp2
  go_end0
  exact ⟨⟨_,rfl⟩,hJs⟩
def Vs (n₀:Nat) (W:World) (sv:Value) (len:Nat) (zs:Nat→Int×ByteArray×Bool):Prop:=
 (∃ a cap,sv= .slice a 0 cap∧len=0)∨∃ b off cap,sv= .slice (some ⟨b,off,none⟩) len cap∧b<n₀∧∀ j,j<len→W.cell? ⟨b,off+j*3,none⟩=some (.int .i64 (zs j).1)∧W.cell? ⟨b,off+j*3+1,none⟩=some (.string (zs j).2.1)∧W.cell? ⟨b,off+j*3+2,none⟩=some (.bool (zs j).2.2)
theorem Vs.below {n₀:Nat} {A B:World} (h:Below n₀ A B) {sv:Value} {len:Nat} {zs:Nat→Int×ByteArray×Bool}:Vs n₀ A sv len zs→Vs n₀ B sv len zs
 | .inl e=> .inl e
 | .inr ⟨b,off,cap,e,hb,hc⟩=> .inr ⟨b,off,cap,e,hb,fun j hj=>⟨(h.cell (p:=⟨b,off+j*3,none⟩) hb).trans (hc j hj).1,(h.cell (p:=⟨b,off+j*3+1,none⟩) hb).trans (hc j hj).2.1,(h.cell (p:=⟨b,off+j*3+2,none⟩) hb).trans (hc j hj).2.2⟩⟩
theorem back_stops (F:Fence) (n:Nat) (h7:F.fn 287) (hro:F.round=none) (hn:1≤n) (Bs n₀:Nat) (sv:Value) (len:Nat) (zs:Nat→Int×ByteArray×Bool) (hreach:len≤2^60) (w:World) (hBs:Bs<n₀) (hn₀:n₀≤w.heap.size)
  (hc:w.cell? ⟨Bs,0,none⟩=some sv) (hI:Vs n₀ w sv len zs):
  SeqStopsK F n Tryz.prog 287 #[.pointer (some ⟨Bs,0,none⟩)] (fun x:Nat×Int×ByteArray×Bool=> #[Value.int .i64 (x.1:Int),(.agg #[.int .i64 x.2.1, .string x.2.2.1, .bool x.2.2.2])]) (Below n₀) (fun ys=>ys=dn (fun j=>(j,zs j)) len len)
   (fun pre=>∃ k,k≤len∧pre=dn (fun j=>(j,zs j)) len k) len w:=fun l J Jx W hW _ _ hY h0=>by
 have hc':=(hW.cell (p:=⟨Bs,0,none⟩) (Nat.lt_of_lt_of_le hBs hn₀)).trans hc
 rcases hI.below (hW.mono hn₀) with ⟨a,cap,rfl,rfl⟩|⟨b,off,cap,rfl,hb,hcs⟩
 ·exact (back1_nil_in F n h7 hro l Bs J W a cap hc' h0).mono fun e W' ⟨he,hj⟩=>⟨he, .inl ⟨_,rfl,hj⟩⟩
 ·refine (back1_in F n h7 hro hn l Bs n₀ b off len cap zs hreach hb J Jx hY W hc' hBs hcs h0).mono ?_
  rintro e W' ⟨he,⟨ys,rfl,hj⟩|⟨pre,⟨k,hk,rfl⟩,hj⟩⟩
  ·exact ⟨he, .inl ⟨_,rfl,hj⟩⟩
  ·exact ⟨he, .inr ⟨_,⟨k,hk,rfl⟩,hj⟩⟩
def lookN (zs:Nat→Int×ByteArray×Bool) (t:Int):Nat→ByteArray×Bool
 |0=>(⟨#[]⟩,false)
 |n+1=>if (zs n).1≤t then ((zs n).2.1, !(zs n).2.2) else lookN zs t n
theorem lookN_none {zs:Nat→Int×ByteArray×Bool} {t:Int}:∀ {n:Nat},(∀ j,j<n→t<(zs j).1)→lookN zs t n=(⟨#[]⟩,false)
 |0,_=>rfl
 |n+1,h=>by
  rw [lookN,if_neg (by have:=h n (by omega);omega)]
  exact lookN_none fun j hj=>h j (by omega)
theorem lookN_skip {zs:Nat→Int×ByteArray×Bool} {t:Int} {n:Nat}:∀ {k:Nat},k≤n→(∀ j,j<k→t<(zs (n-1-j)).1)→lookN zs t n=lookN zs t (n-k)
 |0,_,_=>rfl
 |k+1,hk,h=>by
  rw [lookN_skip (k:=k) (by omega) (fun j hj=>h j (by omega)),show n-k=(n-(k+1))+1 by omega,lookN,if_neg]
  have:=h k (by omega)
  rw [show n-1-k=n-(k+1) by omega] at this
  omega
theorem lookN_some {zs:Nat→Int×ByteArray×Bool} {t:Int} {n k:Nat} {q:List (Nat×Int×ByteArray×Bool)} {x:Nat×Int×ByteArray×Bool} (h:dn (fun j=>(j,zs j)) n k=q++[x]) (hk:k≤n) (hq:∀ y∈q,t<y.2.1) (hx:x.2.1≤t):lookN zs t n=(x.2.2.1, !x.2.2.2):=by
 have hl:=congrArg List.length h
 rw [dn_length,List.length_append,List.length_singleton] at hl
 obtain ⟨m,rfl⟩:∃ m,k=m+1:=⟨q.length,hl⟩
 rw [dn_succ] at h
 obtain ⟨h1,h2⟩:=List.append_inj' h rfl
 have h3:x=(n-1-m,zs (n-1-m)):=by simpa using h2.symm
 rw [lookN_skip (k:=m) (by omega) (fun j hj=> ?_),show n-m=(n-1-m)+1 by omega,lookN,if_pos (by rw [h3] at hx;exact hx),h3]
 exact hq (n-1-j,zs (n-1-j)) (by rw [←h1];unfold dn;exact List.mem_map.2 ⟨j,by simp;omega,rfl⟩)
theorem cell_alloc_l {W:World} {a:Addr} {v:Value} (o:Obj) (h:W.cell? a=some v):(W.alloc o).cell? a=some v:=cell_kept h (World.grownBy_alloc W o none) (fun r e=>by cases e)
theorem frozen_alloc_l {W:World} {a:Addr} {v:Value} (o:Obj) (h:W.cell? a=some v) (hf:W.frozen? a=false):(W.alloc o).frozen? a=false:=(frozen_kept h (World.grownBy_alloc W o none) (fun r e=>by cases e)).trans hf
theorem cell_new_l (W:World) (v:Value) (t:TypeId):(W.alloc (.cells #[v] t)).cell? ⟨W.heap.size,0,none⟩=some v∧(W.alloc (.cells #[v] t)).frozen? ⟨W.heap.size,0,none⟩=false:=
 ⟨(Boxed.new W t v).cell,(Boxed.new W t v).frozen⟩
set_option maxRecDepth 100000 in
set_option maxHeartbeats 4000000 in
theorem at_in (F:Fence) (n:Nat) (h1:F.fn 201) (h2:F.fn 248) (h3:F.fn 287) (hro:F.round=none) (hn:3≤n) (key:ByteArray) (a:Option Addr) (len cap:Nat) (zs:Nat→Int×ByteArray×Bool) (hreach:len≤2^60) (t:Int) (w:World) (hI:Vs w.heap.size w (.slice a len cap) len zs):
  CallsIn F n Tryz.prog 201 #[.agg #[.string key, .slice a len cap], .int .i64 t] w fun e W'=>e= .returned (.tuple #[.string (lookN zs t len).1, .bool (lookN zs t len).2])∧Below w.heap.size w W':=by
 have h4:1≤n:=by omega
 refine callsIn_of_wp_marks Tryz.func201 rfl h1 ?_ hro
 simp only [Tryz.ntmps201,List.size_toArray,List.length_cons,List.length_nil,Nat.reduceAdd,Nat.reduceSub,Array.replicate_succ,Array.replicate_zero,List.push_toArray,List.append_toArray,List.nil_append,List.cons_append]
 gi_wp2_with (gi_at_call 248;refine (back_in F (n-1) h2 hro _ _ _ _).mono ?_;rintro e w' ⟨rfl,rfl⟩)
 obtain ⟨W0,hW0⟩:∃ W0,(((((w.alloc (.cells #[.string key, .slice a len cap] 201)).alloc (.cells #[.int .i64 t] 3)).alloc (.cells #[.string ⟨#[]⟩] 9)).alloc (.cells #[.bool false] 4)).alloc (.cells #[.slice a len cap] 199))=W0:=⟨_,rfl⟩
 have hsz:W0.heap.size=w.heap.size+1+1+1+1+1:=by rw [←hW0];simp only [World.size_alloc]
 have hB0:Below w.heap.size w W0:=by
  rw [←hW0]
  exact ((((((Below.refl _ w).alloc (Nat.le_refl _) _).alloc (by simp) _).alloc (by simp;omega) _).alloc (by simp;omega) _).alloc (by simp;omega) _)
 have c1:W0.cell? ⟨w.heap.size+1,0,none⟩=some (.int .i64 t):=by
  have h:=cell_new_l (w.alloc (.cells #[.string key, .slice a len cap] 201)) (.int .i64 t) 3
  rw [World.size_alloc] at h
  rw [←hW0];exact cell_alloc_l _ (cell_alloc_l _ (cell_alloc_l _ h.1))
 have c2:W0.cell? ⟨w.heap.size+1+1,0,none⟩=some (.string ⟨#[]⟩)∧W0.frozen? ⟨w.heap.size+1+1,0,none⟩=false:=by
  have h:=cell_new_l ((w.alloc (.cells #[.string key, .slice a len cap] 201)).alloc (.cells #[.int .i64 t] 3)) (.string ⟨#[]⟩) 9
  simp only [World.size_alloc] at h
  rw [←hW0];exact ⟨cell_alloc_l _ (cell_alloc_l _ h.1),frozen_alloc_l _ (cell_alloc_l _ h.1) (frozen_alloc_l _ h.1 h.2)⟩
 have c3:W0.cell? ⟨w.heap.size+1+1+1,0,none⟩=some (.bool false)∧W0.frozen? ⟨w.heap.size+1+1+1,0,none⟩=false:=by
  have h:=cell_new_l (((w.alloc (.cells #[.string key, .slice a len cap] 201)).alloc (.cells #[.int .i64 t] 3)).alloc (.cells #[.string ⟨#[]⟩] 9)) (.bool false) 4
  simp only [World.size_alloc] at h
  rw [←hW0];exact ⟨cell_alloc_l _ h.1,frozen_alloc_l _ h.1 h.2⟩
 have c4:W0.cell? ⟨w.heap.size+1+1+1+1,0,none⟩=some (.slice a len cap):=by
  have h:=cell_new_l ((((w.alloc (.cells #[.string key, .slice a len cap] 201)).alloc (.cells #[.int .i64 t] 3)).alloc (.cells #[.string ⟨#[]⟩] 9)).alloc (.cells #[.bool false] 4)) (.slice a len cap) 199
  simp only [World.size_alloc] at h
  rw [←hW0];exact h.1
 have hI0:Vs W0.heap.size W0 (.slice a len cap) len zs:=by
  have h:=hI.below hB0
  rcases h with h|⟨b,off,cap',e,hb,hc⟩
  ·exact .inl h
  ·exact .inr ⟨b,off,cap',e,by omega,hc⟩
 rw [hW0]
 clear hW0
 refine wpIn_rangeFunc_ownH hro h4 (gf:=287) (lb:= #[.pointer (some ⟨w.heap.size+1+1+1+1,0,none⟩)]) rfl h3 (enters_of Tryz.func287 (by kernel_rfl) rfl)
  (back_stops F (n-1) h3 hro (by omega) (w.heap.size+1+1+1+1) W0.heap.size _ len zs hreach W0 (by omega) (Nat.le_refl _) c4 hI0) belowK_t (belowK_b (Nat.le_refl _)) (Below.refl _ _) (fun _=>rfl)
  (fun pre W=>((∀ y∈pre,t<y.2.1)∧W.cell? ⟨w.heap.size+1,0,none⟩=some (.int .i64 t)∧(W.cell? ⟨w.heap.size+1+1,0,none⟩=some (.string ⟨#[]⟩)∧W.frozen? ⟨w.heap.size+1+1,0,none⟩=false)∧(W.cell? ⟨w.heap.size+1+1+1,0,none⟩=some (.bool false)∧W.frozen? ⟨w.heap.size+1+1+1,0,none⟩=false))∧Below w.heap.size w W∧Below W0.heap.size W0 W)
  (fun c pre W=>(c= .ret∧∃ q x,pre=q++[x]∧(∀ y∈q,t<y.2.1)∧x.2.1≤t∧W.cell? ⟨w.heap.size+1+1,0,none⟩=some (.string x.2.2.1)∧W.cell? ⟨w.heap.size+1+1+1,0,none⟩=some (.bool (!x.2.2.2)))∧Below w.heap.size w W)
  (OwnFrom.and (Own.from (fun s A B row hs hg hr=>⟨hs.1,cell_kept hs.2.1 hg hr,⟨cell_kept hs.2.2.1.1 hg hr,(frozen_kept hs.2.2.1.1 hg hr).trans hs.2.2.1.2⟩,cell_kept hs.2.2.2.1 hg hr,(frozen_kept hs.2.2.2.1 hg hr).trans hs.2.2.2.2⟩) _) (OwnFrom.and (ownFrom_below (Nat.le_refl _) (by omega)) (ownFrom_below (Nat.le_refl _) (Nat.le_refl _))))
  (fun c=>OwnFrom.and (Own.from (fun s A B row hs hg hr=>⟨hs.1,by obtain ⟨q,x,e1,e2,e3,e4,e5⟩:=hs.2;exact ⟨q,x,e1,e2,e3,cell_kept e4 hg hr,cell_kept e5 hg hr⟩⟩) _) (ownFrom_below (Nat.le_refl _) (by omega)))
  ⟨⟨by simp,c1,c2,c3⟩,hB0,Below.refl _ _⟩
  (fun x a' W=>∃ Bx,w.heap.size+1+1+1+1+1≤Bx∧(W.cell? ⟨Bx,0,none⟩=some (.int .i64 x.2.1)∧W.cell? ⟨Bx,1,none⟩=some (.string x.2.2.1)∧W.cell? ⟨Bx,2,none⟩=some (.bool x.2.2.2))∧a'={ tmps:= #[.agg #[.string key, .slice a len cap], .int .i64 t, .pointer (some ⟨w.heap.size,0,none⟩), .pointer (some ⟨w.heap.size+1,0,none⟩), .pointer (some ⟨w.heap.size+1+1,0,none⟩), .pointer (some ⟨w.heap.size+1+1+1,0,none⟩),undef, .pointer (some ⟨Bx,0,none⟩), .pointer (some ⟨w.heap.size,1,none⟩), .slice a len cap, .func (.func 287) #[] #[.pointer (some ⟨w.heap.size+1+1+1+1,0,none⟩)], .int .i64 x.1,(.agg #[.int .i64 x.2.1, .string x.2.2.1, .bool x.2.2.2]),undef,undef,undef,undef,undef,undef,undef,undef,undef],defers:=[] })
  (fun x a'=>Own.from (fun _ A B row hs hg hr=>by obtain ⟨Bx,e1,⟨e2,e3,e4⟩,e5⟩:=hs;exact ⟨Bx,e1,⟨cell_kept e2 hg hr,cell_kept e3 hg hr,cell_kept e4 hg hr⟩,e5⟩) _) ?assign ?body ?done ?stop
 case assign=>
  rintro l pre x W K ⟨⟨hp,hcw,⟨hs1,hs2⟩,hb1,hb2⟩,hB,hZ⟩ hK
  gi_wp2
  have hk:=KeepsOthers.alloc W (.cells #[.int .i64 x.2.1, .string x.2.2.1, .bool x.2.2.2] 196)
  have hN:=World.alloc_heap_new W (.cells #[.int .i64 x.2.1, .string x.2.2.1, .bool x.2.2.2] 196)
  exact hK _ _ (hk.from _) ((Below.refl _ W).alloc hZ.size _) ⟨⟨hp,cell_alloc_l _ hcw,⟨cell_alloc_l _ hs1,frozen_alloc_l _ hs1 hs2⟩,cell_alloc_l _ hb1,frozen_alloc_l _ hb1 hb2⟩,hB.alloc hB.size _,hZ.alloc hZ.size _⟩
   ⟨W.heap.size,by have:=hZ.size;omega,⟨by simp only [World.cell?];rw [hN];rfl,by simp only [World.cell?];rw [hN];rfl,by simp only [World.cell?];rw [hN];rfl⟩,rfl⟩
 case body=>
  rintro l pre x a' W hl ⟨r,hr⟩ ⟨⟨hp,hcw,⟨hs1,hs2⟩,hb1,hb2⟩,hB,hZ⟩ ⟨Bx,hBx,⟨e1,e2,e3⟩,rfl⟩ hlt
  have hf1:Tryz.prog.follows Departure.mixedOrders=true:=by kernel_rfl
  gi_wp2
  ·gi_region_o
   all_goals (
    have k1:=KeepsOthers.setCell W ⟨w.heap.size+1+1,0,none⟩ (.string x.2.2.1)
    have k2:=KeepsOthers.setCell (W.setCell ⟨w.heap.size+1+1,0,none⟩ (.string x.2.2.1)) ⟨w.heap.size+1+1+1,0,none⟩ (.bool (!x.2.2.2))
    have k3:=KeepsOthers.drew ((W.setCell ⟨w.heap.size+1+1,0,none⟩ (.string x.2.2.1)).setCell ⟨w.heap.size+1+1+1,0,none⟩ (.bool (!x.2.2.2)))
    have m1:((W.setCell ⟨w.heap.size+1+1,0,none⟩ (.string x.2.2.1)).setCell ⟨w.heap.size+1+1+1,0,none⟩ (.bool (!x.2.2.2))).cell? ⟨w.heap.size+1+1,0,none⟩=some (.string x.2.2.1):=by
     rw [World.cell?_setCell_other _ _ _ _ (by intro h;simp only [Addr.mk.injEq] at h;omega)]
     exact World.cell?_setCell_same' _ _ _ (by rw [hs1];rfl)
    have m2:((W.setCell ⟨w.heap.size+1+1,0,none⟩ (.string x.2.2.1)).setCell ⟨w.heap.size+1+1+1,0,none⟩ (.bool (!x.2.2.2))).cell? ⟨w.heap.size+1+1+1,0,none⟩=some (.bool (!x.2.2.2)):=by
     refine World.cell?_setCell_same' _ _ _ ?_
     rw [World.cell?_setCell_other _ _ _ _ (by intro h;simp only [Addr.mk.injEq] at h;omega),hb1];rfl
    have hx:x.2.1≤t:=by assumption
    have hBB:=((hB.setCell (p:=⟨w.heap.size+1+1,0,none⟩) (by simp;omega) (.string x.2.2.1)).setCell (p:=⟨w.heap.size+1+1+1,0,none⟩) (by simp;omega) (.bool (!x.2.2.2))).drew
    gi_wp2
    exact ⟨((k1.trans k2).trans k3).from _,⟨rfl,pre,x,rfl,hp,hx,m1,m2⟩,hBB⟩)
  ·rename_i hx
   refine ⟨(KeepsOthers.refl _).from _,Below.refl _ _,⟨fun y hy=> ?_,hcw,⟨hs1,hs2⟩,hb1,hb2⟩,hB,hZ⟩
   rcases List.mem_append.1 hy with h|h
   ·exact hp y h
   ·simp at h;subst h;omega
 case done=>
  rintro D ys W hD rfl ⟨⟨hne,_,⟨hs1,hs2⟩,hb1,hb2⟩,hB,hZ⟩ hK
  gi_wp2
  have k1:=KeepsOthers.setCell W ⟨w.heap.size+1+1,0,none⟩ (.string ⟨#[]⟩)
  have k2:=KeepsOthers.setCell (W.setCell ⟨w.heap.size+1+1,0,none⟩ (.string ⟨#[]⟩)) ⟨w.heap.size+1+1+1,0,none⟩ (.bool false)
  have hK':=(k1.trans k2).same D _ hK rfl
  have m1:((W.setCell ⟨w.heap.size+1+1,0,none⟩ (.string ⟨#[]⟩)).setCell ⟨w.heap.size+1+1+1,0,none⟩ (.bool false)).cell? ⟨w.heap.size+1+1,0,none⟩=some (.string ⟨#[]⟩):=by
   rw [World.cell?_setCell_other _ _ _ _ (by intro h;simp only [Addr.mk.injEq] at h;omega)]
   exact World.cell?_setCell_same' _ _ _ (by rw [hs1];rfl)
  have m2:((W.setCell ⟨w.heap.size+1+1,0,none⟩ (.string ⟨#[]⟩)).setCell ⟨w.heap.size+1+1+1,0,none⟩ (.bool false)).cell? ⟨w.heap.size+1+1+1,0,none⟩=some (.bool false):=by
   refine World.cell?_setCell_same' _ _ _ ?_
   rw [World.cell?_setCell_other _ _ _ _ (by intro h;simp only [Addr.mk.injEq] at h;omega),hb1];rfl
  have hBB:=((hB.setCell (p:=⟨w.heap.size+1+1,0,none⟩) (by simp;omega) (.string ⟨#[]⟩)).setCell (p:=⟨w.heap.size+1+1+1,0,none⟩) (by simp;omega) (.bool false))
  have n1:=cell_kept m1 (grownBy_putObj' _ D (.deferred none)) (fun r e=>by cases e;exact ⟨_,hK',rfl⟩)
  have n2:=cell_kept m2 (grownBy_putObj' _ D (.deferred none)) (fun r e=>by cases e;exact ⟨_,hK',rfl⟩)
  have hL:lookN zs t len=(⟨#[]⟩,false):=by
   refine lookN_none fun j hj=> ?_
   have:=hne (len-1-(len-1-j),zs (len-1-(len-1-j))) (by unfold dn;exact List.mem_map.2 ⟨len-1-j,by simp;omega,rfl⟩)
   rwa [show len-1-(len-1-j)=j by omega] at this
  refine ⟨by simp, .inl ⟨_,_,rfl,run_takeDeferred hK', ?_⟩⟩
  refine ⟨.tuple #[.string ⟨#[]⟩, .bool false], ?_,by rw [hL],hBB.trans (belowK_b (w:=w) (Nat.le_refl _) _ D _ _ (by omega) hK' rfl rfl)⟩
  simp [results,Tryz.f201,go_sem,n1,n2]
 case stop=>
  rintro D c pre W hD hpre ⟨⟨rfl,q,x,e1,e2,e3,e4,e5⟩,hB⟩ hK
  gi_wp2
  have n1:=cell_kept e4 (grownBy_putObj' _ D (.deferred none)) (fun r e=>by cases e;exact ⟨_,hK,rfl⟩)
  have n2:=cell_kept e5 (grownBy_putObj' _ D (.deferred none)) (fun r e=>by cases e;exact ⟨_,hK,rfl⟩)
  obtain ⟨k,hk,hpk⟩:=hpre
  have hL:lookN zs t len=(x.2.2.1, !x.2.2.2):=lookN_some (hpk.symm.trans e1) hk e2 e3
  refine ⟨by simp, .inl ⟨_,_,rfl,run_takeDeferred hK, ?_⟩⟩
  refine ⟨.tuple #[.string x.2.2.1, .bool (!x.2.2.2)], ?_,by rw [hL],hB.trans (belowK_b (w:=w) (Nat.le_refl _) W D _ _ (by omega) hK rfl rfl)⟩
  simp [results,Tryz.f201,go_sem,n1,n2]
end Go.Proofs.Cat
namespace Go.Proofs.Wb
open Go Go.Am Go.RowKit Go.Proofs
theorem atL_look (l:List Ver) (t:Int):∀ n,Cat.lookN (fun j=>((nth l j).Time,(nth l j).Val,(nth l j).Gone)) t n=atL l t n
 |0=>rfl
 |n+1=>by rw [Cat.lookN,atL,atL_look l t n]
theorem ver_cells {S:Nat→Prop} {w:Go.World} {ρ:Nat→Option Hd} {cell:Nat→Option Value}:∀ (l:List Ver) (o:Nat) (F:List Nat),zAb S w ρ cell o 3 (l.map (Ver.row false)) F→F=[]∧∀ j,j<l.length→cell (o+j*3)=some (.int .i64 (nth l j).Time)∧cell (o+j*3+1)=some (.string (nth l j).Val)∧cell (o+j*3+2)=some (.bool (nth l j).Gone)
 |[],_,_,h=>by simp only [List.map_nil,zAb] at h;exact ⟨h,fun j hj=>absurd hj (by simp)⟩
 |x::l,o,F,h=>by
  simp only [List.map_cons,zAb,Ver.row_eq,RepRow,Rep] at h
  obtain ⟨F1,F2,_,⟨y1,G1,G2,a1,⟨rfl,rfl⟩,⟨y2,G3,G4,a2,⟨rfl,rfl⟩,⟨y3,G5,G6,a3,⟨rfl,rfl⟩,rfl,rfl⟩,rfl⟩,rfl⟩,h2,rfl⟩:=h
  obtain ⟨rfl,h3⟩:=ver_cells l (o+3) _ h2
  refine ⟨rfl,fun j hj=> ?_⟩
  cases j with
  |zero=>exact ⟨by simpa [nth] using a1,by simpa [nth] using a2,by simpa [nth] using a3⟩
  |succ j=>
   have:=h3 j (by simpa using hj)
   rw [show o+(j+1)*3=o+3+j*3 by omega]
   simpa [nth] using this
theorem Cell_at_ok:zEF:=by
 intro c t hl w S0 F vs hsz hrep hnd hF hS0 hT
 have hrep0:=hrep
 simp only [Cell.row_eq,RepRow,Rep] at hrep
 obtain ⟨y,F1,F2,c1,⟨cs,rfl,hcs,y2,G1,G2,c2,⟨rfl,rfl⟩,⟨y3,G3,G4,c3,⟨a,cap,rfl,hs⟩,hg1,hg2⟩,hg3⟩,⟨y4,F3,F4,c4,⟨rfl,rfl⟩,hg4,hg5⟩,hg6⟩:=hrep
 have hvs:vs= #[.agg cs, .int .i64 t]:=by
  apply Array.ext
  ·simpa using hsz
  ·intro i h1 h2
   simp at h2
   rcases Nat.lt_or_ge i 1 with h|h
   ·obtain rfl:i=0:=by omega
    rw [Array.getElem?_eq_getElem h1] at c1;simpa using c1
   ·obtain rfl:i=1:=by omega
    have c4':vs[1]? =some (.int .i64 t):=c4
    rw [Array.getElem?_eq_getElem h1] at c4';simpa using c4'
 have hcs2:cs= #[.string c.Key, .slice a (c.Vers.map (Ver.row false)).length cap]:=by
  have hcs':cs.size=2:=by simpa using hcs
  apply Array.ext
  ·simpa using hcs'
  ·intro i h1 h2
   simp at h2
   rcases Nat.lt_or_ge i 1 with h|h
   ·obtain rfl:i=0:=by omega
    rw [Array.getElem?_eq_getElem h1] at c2;simpa using c2
   ·obtain rfl:i=1:=by omega
    have c3':cs[1]? =some (.slice a (c.Vers.map (Ver.row false)).length cap):=c3
    rw [Array.getElem?_eq_getElem h1] at c3';simpa using c3'
 rw [List.length_map] at hcs2
 subst hcs2 hvs
 have hV:G3=[]∧Cat.Vs w.heap.size w (.slice a c.Vers.length cap) c.Vers.length (fun j=>((nth c.Vers j).Time,(nth c.Vers j).Val,(nth c.Vers j).Gone)):=by
  rcases hs with ⟨_,h1,h2⟩|⟨b,off,arr,el,fr,Fs,rfl,hb,hcap,harr,hrows,hown⟩
  ·have:c.Vers.length=0:=by simpa using congrArg List.length h1
   exact ⟨h2, .inl ⟨a,cap,by rw [this],this⟩⟩
  ·obtain ⟨rfl,hc⟩:=ver_cells _ _ _ hrows
   obtain ⟨h1,h2,h3⟩:=hown
   refine ⟨h1, .inr ⟨b,off,cap,rfl,hS0 b h2,fun j hj=> ?_⟩⟩
   obtain ⟨d1,d2,d3⟩:=hc j hj
   exact ⟨by simp only [World.cell?,hb];exact d1,by simp only [World.cell?,hb];exact d2,by simp only [World.cell?,hb];exact d3⟩
 obtain ⟨hg7,hV⟩:=hV
 have hFn:F=[]:=by rw [hg6,hg5,hg4,hg3,hg2,hg1,hg7];rfl
 subst hFn
 have hc:=callsIn_wide.1 (Cat.at_in Fence.wide 3 trivial trivial trivial rfl (Nat.le_refl _) c.Key a c.Vers.length cap _ hl t w hV)
 refine hc.mono ?_
 rintro e w' ⟨rfl,hB⟩
 rw [atL_look]
 refine ⟨_, .tup [str (atC c t).1,bl (atC c t).2],[.agg (Cell.row false c),i64 t],S0,[],[],rfl,rfl,rfl, ?_, ?_,by simp,by simp,fun b hb=>⟨Nat.lt_of_lt_of_le (hS0 b hb) hB.size, .inl hb⟩,fun b h=>h, ?_⟩
 ·simp only [Rep,RepRow]
  exact ⟨_,rfl,rfl,_,[],[],rfl,⟨rfl,rfl⟩,⟨_,[],[],rfl,⟨rfl,rfl⟩,rfl,rfl⟩,rfl⟩
 ·exact zBa _ hrep0 fun b hb=>hB.block b (hb.elim (fun h=>(hF b h).2) (hS0 b))
 ·refine ⟨hB.os,hB.tape,hB.output,hB.size,fun b hb _=>hB.block b hb,fun b arr el fr h=> ?_⟩
  have hb:b<w.heap.size:=(Array.getElem?_eq_some_iff.1 h).1
  exact ⟨arr,fr,by rw [hB.block b hb];exact h,rfl⟩
end Go.Proofs.Wb

import Derived.Test.YthfpgpkdankdjaaGreatDoorAmPure2
import Derived.Laws.BytesString
set_option linter.all false
namespace Go.Am
open Go Go.RowKit
section
variable {P:Program} {E:Env} {s:St} {a:Act} {w:World} {S:Nat→Prop} {ρ:Nat→Option Hd} {foot:Nat→List Nat} {o:Oper}
theorem zCq (h:SimX E s a w S ρ foot) {d:Int} {x:Operand} {n:Int} (hb:bound s d (some x)=some n):∃ k,a.eval x= .int k n:=by
 unfold bound at hb
 simp only at hb
 split at hb
 ·rename_i k m hx
  simp at hb
  subst hb
  have:=h.eval hx
  simp only [Rep] at this
  exact ⟨k,this.1⟩
 ·cases hb
theorem run_sliceBound {x:Value} {k:IntKind} {n:Int} {y:Nat} {c:BoundsCode} (hx:x= .int k n) (h0:0≤n) (h1:n≤y) (w':World):(Instr.sliceBound x y c).run P w'= .ok n.toNat w':=by
 subst hx
 simp [Instr.sliceBound,asIntOf,h0,h1]
theorem zDF (h:SimX E s a w S ρ foot) {isS:Bool} {len cap:Nat} {lo hi:Option Operand} {l hh:Int} (hl:bound s 0 lo=some l) (hhi:bound s len hi=some hh) (h0:0≤l) (h1:l≤hh) (h2:hh≤cap) (w':World):
  (Instr.sliceBounds isS len cap (lo.map a.eval) (hi.map a.eval) none).run P w'= .ok (l.toNat,hh.toNat,cap) w':=by
 have e2:hh≤(cap:Int):=h2
 unfold Instr.sliceBounds
 cases hi with
 |none=>
  simp [bound] at hhi
  subst hhi
  cases lo with
  |none=>simp [bound] at hl;subst hl;simp
  |some x=>
   obtain ⟨k,hk⟩:=zCq h hl
   simp [run_sliceBound (P:=P) hk h0 (y:=len) (by omega)]
 |some y=>
  obtain ⟨k2,hk2⟩:=zCq h hhi
  have hb2:=fun c=>run_sliceBound (P:=P) (c:=c) hk2 (by omega) (y:=cap) (by omega) w'
  cases lo with
  |none=>simp [bound] at hl;subst hl;simp [hb2]
  |some x=>
   obtain ⟨k,hk⟩:=zCq h hl
   have hb1:=fun c=>run_sliceBound (P:=P) (c:=c) hk h0 (y:=hh.toNat) (by omega) w'
   simp [hb2,hb1]
theorem zLL (h:SimX E s a w S ρ foot) {isS:Bool} {len cap:Nat} {lo hi:Option Operand} {mx:Operand} {d:Int} (hl:bound s 0 lo=some 0) (hhi:bound s d hi=some 0) (hm:bound s 0 (some mx)=some 0) (hhs:hi.isSome=true) (w':World):
  (Instr.sliceBounds isS len cap (lo.map a.eval) (hi.map a.eval) (some (a.eval mx))).run P w'= .ok (0,0,0) w':=by
 obtain ⟨k3,hk3⟩:=zCq h hm
 have hb3:=fun c=>run_sliceBound (P:=P) (c:=c) hk3 (by omega) (y:=cap) (by omega) w'
 unfold Instr.sliceBounds
 cases hi with
 |none=>simp at hhs
 |some y=>
  obtain ⟨k2,hk2⟩:=zCq h hhi
  have hb2:=fun c=>run_sliceBound (P:=P) (c:=c) hk2 (by omega) (y:=0) (by omega) w'
  cases lo with
  |none=>simp [hb3,hb2]
  |some x=>
   obtain ⟨k,hk⟩:=zCq h hl
   have hb1:=fun c=>run_sliceBound (P:=P) (c:=c) hk (by omega) (y:=0) (by omega) w'
   simp [hb3,hb2,hb1]
theorem zLM (h:SimX E s a w S ρ foot) {isS:Bool} {len cap:Nat} {lo hi:Option Operand} {mx:Operand} {d:Int} {l hh c:Int} (hl:bound s 0 lo=some l) (hhi:bound s d hi=some hh) (hm:bound s 0 (some mx)=some c) (hhs:hi.isSome=true) (h0:0≤l) (h1:l≤hh) (h2:hh≤c) (h3:c≤cap) (w':World):
  (Instr.sliceBounds isS len cap (lo.map a.eval) (hi.map a.eval) (some (a.eval mx))).run P w'= .ok (l.toNat,hh.toNat,c.toNat) w':=by
 obtain ⟨k3,hk3⟩:=zCq h hm
 have hb3:=fun cc=>run_sliceBound (P:=P) (c:=cc) hk3 (by omega) (y:=cap) (by omega) w'
 unfold Instr.sliceBounds
 cases hi with
 |none=>simp at hhs
 |some y=>
  obtain ⟨k2,hk2⟩:=zCq h hhi
  have hb2:=fun cc=>run_sliceBound (P:=P) (c:=cc) hk2 (by omega) (y:=c.toNat) (by omega) w'
  cases lo with
  |none=>simp [bound] at hl;subst hl;simp [hb3,hb2]
  |some x=>
   obtain ⟨k,hk⟩:=zCq h hl
   have hb1:=fun cc=>run_sliceBound (P:=P) (c:=cc) hk h0 (y:=hh.toNat) (by omega) w'
   simp [hb3,hb2,hb1]
theorem extract_mk (b:ByteArray) (l h:Nat):b.extract l h=⟨⟨(b.data.toList.drop l).take (h-l)⟩⟩:=by
 apply ByteArray.ext
 apply Array.ext'
 simp [List.extract_eq_take_drop]
theorem zAfe (h:SimX E s a w S ρ foot) {x:Operand} {lo hi:Option Operand} {t:TypeId} (hop:o.op= .slice t x lo hi none) (ht:P.underlying t=some .string) {b:ByteArray} (hx:s.eval x=some (.v (.string b))) {l hh:Int}
  (hl:bound s 0 lo=some l) (hhi:bound s b.size hi=some hh) (h0:0≤l) (h1:l≤hh) (h2:hh≤b.size):zAI P o a w S ρ (.v (.string ⟨⟨(b.data.toList.drop l.toNat).take (hh.toNat-l.toNat)⟩⟩)):=by
 have hrx:=h.eval hx
 simp only [Rep] at hrx
 refine ⟨_,by simp only [Rep];exact ⟨rfl,trivial⟩,fun w' _=> ?_⟩
 have hb:=zDF (P:=P) (isS:=false) h hl hhi h0 h1 h2 w'
 have:(Instr.sliceAt t (a.eval x) (lo.map a.eval) (hi.map a.eval) none).run P w'= .ok (.string ⟨⟨(b.data.toList.drop l.toNat).take (hh.toNat-l.toNat)⟩⟩) w':=by
  simp [Instr.sliceAt,Instr.slice,underlying,ht,hrx.1,hb,extract_mk]
 have:=zA1 this
 simpa [execOp,hop] using this
theorem zWj (h:SimX E s a w S ρ foot) {x:Operand} {lo hi:Option Operand} {t e:TypeId} {k:Nat} (hop:o.op= .slice t x lo hi none) (ht:P.underlying t=some (.slice e)) (hw:width P e=some k) {id lo0 n:Nat} (hx:s.eval x=some (.ref id lo0 n)) {ob:Ob} (ho:lk id s.objs=some ob) (hk:ob.k=k)
  {l hh:Int} (hl:bound s 0 lo=some l) (hhi:bound s n hi=some hh) (h0:0≤l) (h1:l≤hh) (h2:hh≤n∨(lo0:Int)+hh≤ob.rows.length):zAI P o a w S ρ (.ref id (lo0+l.toNat) (hh.toNat-l.toNat)):=by
 have hrx:=h.eval hx
 simp only [Rep] at hrx
 obtain ⟨_,hd,a0,c,e1,e2,e3,e4,e5⟩:=hrx
 obtain ⟨hd',e6,e7,e8⟩:=h.objs id ob ho
 rw [e1] at e6;simp at e6;subst e6
 have hcap:ob.rows.length≤hd.cap:=by
  rcases e8 with ⟨_,e8,_⟩|⟨_,_,_,_,_,_,_,_,e8,_⟩
  ·simp [e8]
  ·exact e8
 have h2:hh≤c:=by omega
 have hb:=fun w'=>zDF (P:=P) (isS:=true) (cap:=c) h hl hhi h0 h1 (by omega) w'
 refine ⟨.slice (if c=l.toNat then a0 else a0.map (·.add (l.toNat*k))) (hh.toNat-l.toNat) (c-l.toNat), ?_,fun w' _=> ?_⟩
 ·simp only [Rep]
  refine ⟨trivial,hd,_,_,e1,rfl,by omega,by omega, ?_⟩
  by_cases hc:c=l.toNat
  ·exact .inl (by omega)
  ·rcases e5 with e5|⟨b,off,e5,rfl⟩
   ·omega
   ·refine .inr ⟨b,off,e5, ?_⟩
    rw [if_neg hc]
    simp [zCB,Nat.add_mul,e7,hk,Nat.add_assoc]
 ·have:(Instr.sliceAt t (a.eval x) (lo.map a.eval) (hi.map a.eval) none).run P w'= .ok (.slice (if c=l.toNat then a0 else a0.map (·.add (l.toNat*k))) (hh.toNat-l.toNat) (c-l.toNat)) w':=by
   simp [Instr.sliceAt,Instr.slice,underlying,ht,e2,hb,zBn hw]
  have:=zA1 this
  simpa [execOp,hop] using this
theorem zYb (h:SimX E s a w S ρ foot) {x:Operand} {lo hi:Option Operand} {t e:TypeId} {k:Nat} (hop:o.op= .slice t x lo hi none) (ht:P.underlying t=some (.slice e)) (hw:width P e=some k) {rows:List (List T)} (hx:s.eval x=some (.sl false k rows))
  {l hh:Int} (hl:bound s 0 lo=some l) (hhi:bound s rows.length hi=some hh) (h0:0≤l) (h1:l≤hh) (h2:hh≤rows.length):zAI P o a w S ρ (.sl false k ((rows.drop l.toNat).take (hh.toNat-l.toNat))):=by
 have hrx:=h.eval hx
 simp only [Rep] at hrx
 obtain ⟨a0,c,e2,e3⟩:=hrx
 have hlc:rows.length≤c:=by
  rcases e3 with ⟨_,e3,_⟩|⟨_,_,_,_,_,_,_,_,e3,_⟩
  ·simp [e3]
  ·exact e3
 have hb:=fun w'=>zDF (P:=P) (isS:=true) (cap:=c) h hl hhi h0 h1 (by omega) w'
 refine ⟨.slice (if c=l.toNat then a0 else a0.map (·.add (l.toNat*k))) (hh.toNat-l.toNat) (c-l.toNat), ?_,fun w' _=> ?_⟩
 ·simp only [Rep]
  refine ⟨_,c-l.toNat,by congr 1;simp;omega, ?_⟩
  rcases e3 with ⟨rfl,rfl,_⟩|⟨b,off,arr,el,fr,Fs,rfl,f2,f3,f4,f5,f6⟩
  ·exact .inl ⟨by omega,by simp,trivial⟩
  ·by_cases hc:c=l.toNat
   ·refine .inl ⟨by omega, ?_,trivial⟩
    have:hh.toNat-l.toNat=0:=by omega
    simp [this]
   ·rw [if_neg hc]
    obtain ⟨G,g1,g2⟩:=zC7 (n:=hh.toNat-l.toNat) f5 l.toNat (by omega)
    refine .inr ⟨b,off+l.toNat*k,arr,el,fr,G,by simp [zCB],f2,by simp;omega, ?_,g1,f6.1,f6.2.1,fun q hq=>f6.2.2 q (g2 q hq)⟩
    rw [Nat.add_assoc, ←Nat.add_mul]
    rwa [show l.toNat+(c-l.toNat)=c from by omega]
 ·have:(Instr.sliceAt t (a.eval x) (lo.map a.eval) (hi.map a.eval) none).run P w'= .ok (.slice (if c=l.toNat then a0 else a0.map (·.add (l.toNat*k))) (hh.toNat-l.toNat) (c-l.toNat)) w':=by
   simp [Instr.sliceAt,Instr.slice,underlying,ht,e2,hb,zBn hw]
  have:=zA1 this
  simpa [execOp,hop] using this
theorem zMv:∀ (ns:List Int) (r:ByteArray),ns.foldl (fun (r:ByteArray) n=>r.push (UInt8.ofNat n.toNat)) r=⟨⟨r.data.toList++ns.map fun n=>UInt8.ofNat n.toNat⟩⟩
 |[],r=>by simp
 |n::ns,r=>by
  rw [List.foldl_cons,zMv ns]
  simp [ByteArray.push]
theorem zPY {r:List T}:zCR r=true↔∃ n,r=[.v (.int .u8 n)]:=by
 unfold zCR
 split
 ·simp
 ·rename_i h
  constructor
  ·intro h';cases h'
  ·rintro ⟨n,rfl⟩;exact absurd rfl (h n)
theorem zLk {cell:Nat→Option Value}:∀ {rows:List (List T)} {b:Nat} {F:List Nat},zAb S w ρ cell b 1 rows F→rows.all zCR=true→
  ∃ ns:List Int,rows.map byteOf=ns.map (fun n=>UInt8.ofNat n.toNat)∧ns.length=rows.length∧∀ i n,ns[i]? =some n→cell (b+i)=some (.int .u8 n)
 |[],_,_,_,_=>⟨[],rfl,rfl,by simp⟩
 |r::rows,b,F,h,hb=>by
  simp only [zAb] at h
  obtain ⟨F1,F2,h1,h2,h3,h4⟩:=h
  simp only [List.all_cons,Bool.and_eq_true] at hb
  obtain ⟨n,rfl⟩:=zPY.1 hb.1
  obtain ⟨ns,g1,g2,g3⟩:=zLk h3 hb.2
  refine ⟨n::ns,by simp [byteOf,g1],by simp [g2],fun i m hi=> ?_⟩
  cases i with
  |zero=>
   simp at hi;subst hi
   simp only [RepRow,Rep] at h2
   obtain ⟨y,_,_,e1,⟨e2,_⟩,_⟩:=h2
   simpa [e2] using e1
  |succ i=>
   have:=g3 i m (by simpa using hi)
   rwa [show b+(i+1)=b+1+i from by omega]
theorem zO6 {a:Addr} {b off:Nat} {arr:Array Value} {el:TypeId} {fr:Nat×Nat} {w':World} (hb:w'.heap[b]? =some (.cells arr el fr)) (ha:a=⟨b,off,none⟩) {rows:List (List T)} {F:List Nat}
  (h:zAb S w ρ (fun i=>arr[i]?) off 1 rows F) (hr:rows.all zCR=true) (cap:Nat):
  (Conv.bytesToString (.slice (some a) rows.length cap)).run P w'= .ok (.string (bytesOf rows)) w':=by
 obtain ⟨ns,g1,g2,g3⟩:=zLk h hr
 subst ha
 have hle:off+rows.length≤arr.size∨rows.length=0:=by
  rcases Nat.eq_zero_or_pos rows.length with h0|h0
  ·exact .inr h0
  ·left
   have:=g3 (rows.length-1) (ns.getD (rows.length-1) 0) (by rw [List.getD_eq_getElem?_getD,List.getElem?_eq_getElem (by omega)];rfl)
   have:=(Array.getElem?_eq_some_iff.1 this).1
   omega
 have hl:(loadCells ⟨b,off,none⟩ rows.length).run P w'= .ok (ns.map (Value.int .u8)).toArray w':=by
  rcases hle with hle|h0
  ·have:=run_loadCellsFrom (P:=P) hb rows.length 0 #[] (by omega) (off:=off)
   simp only [Nat.add_zero,Array.empty_append] at this
   rw [show loadCells ⟨b,off,none⟩ rows.length=loadCellsFrom ⟨b,off,none⟩ 0 rows.length #[] from rfl,this]
   congr 1
   apply Array.ext'
   apply List.ext_getElem?
   intro i
   rw [Array.getElem?_toList,Array.getElem?_extract]
   by_cases hi:i<rows.length
   ·have:=g3 i ns[i] (by rw [List.getElem?_eq_getElem (by omega)])
    rw [if_pos (by omega),this]
    simp [List.getElem?_eq_getElem (show i<ns.length by omega)]
   ·rw [if_neg (by omega)]
    simp [List.getElem?_eq_none (show ns.length≤i by omega)]
  ·have:ns=[]:=List.eq_nil_of_length_eq_zero (by omega)
   subst this
   rw [h0]
   simp [loadCells,loadCellsFrom]
 rw [run_bytesToString w' _ rows.length cap ns hl]
 congr 2
 rw [zMv,bytesOf,g1]
 simp
theorem zQK {v:Value} {rows:List (List T)} {x:Operand} {src dst e:TypeId} (hop:o.op= .convert src dst x) (h1:P.underlying src=some (.slice e)) (h3:P.underlying e=some (.int .u8)) (h2:P.underlying dst=some .string)
  (hx:a.eval x=v) (hv:∀ w',zUw w w'→∃ a0 n c,v= .slice a0 n c∧(Conv.bytesToString v).run P w'= .ok (.string (bytesOf rows)) w'):
  zAI P o a w S ρ (.v (.string (bytesOf rows))):=by
 refine ⟨.string (bytesOf rows),by simp [Rep],fun w' hw'=> ?_⟩
 obtain ⟨a0,n,c,e1,e2⟩:=hv w' hw'
 subst e1
 have:=run_convert_bytes_string (P:=P) w' src dst e a0 n c h1 h3 h2
 rw [e2, ←hx] at this
 have:=zA1 this
 simpa [execOp,hop] using this
theorem zGt {x:Operand} {src dst e:TypeId} (hop:o.op= .convert src dst x) (h1:P.underlying src=some (.slice e)) (h3:P.underlying e=some (.int .u8)) (h2:P.underlying dst=some .string)
  {a0:Option Addr} {c:Nat} (hx:a.eval x= .slice a0 0 c):zAI P o a w S ρ (.v (.string (bytesOf []))):=by
 refine zQK hop h1 h3 h2 hx fun w' _=>⟨a0,0,c,rfl, ?_⟩
 cases a0 with
 |none=>simp [Conv.bytesToString,Sem.run_pure,bytesOf];rfl
 |some a0=>
  have:=run_bytesToString (P:=P) w' a0 0 c [] (by simp [loadCells,loadCellsFrom])
  rw [this];rfl
theorem zUz (h:SimX E s a w S ρ foot) {x:Operand} {src dst e:TypeId} (hop:o.op= .convert src dst x) (h1:P.underlying src=some (.slice e)) (h3:P.underlying e=some (.int .u8)) (h2:P.underlying dst=some .string)
  {id lo n:Nat} (hx:s.eval x=some (.ref id lo n)) {ob:Ob} (ho:lk id s.objs=some ob) (hk:ob.k=1) (hl:lo+n≤ob.rows.length) (hb:((ob.rows.drop lo).take n).all zCR=true):
  zAI P o a w S ρ (.v (.string (bytesOf ((ob.rows.drop lo).take n)))):=by
 have hr:=h.eval hx
 simp only [Rep] at hr
 obtain ⟨_,hd,a0,c,e1,e2,e3,e4,e5⟩:=hr
 have hlen:((ob.rows.drop lo).take n).length=n:=by simp;omega
 rcases Nat.eq_zero_or_pos n with rfl|hn
 ·rw [List.take_zero]
  exact zGt hop h1 h3 h2 e2
 ·obtain ⟨hd',f1,f2,f3⟩:=h.objs id ob ho
  rw [e1] at f1;simp at f1;subst f1
  rcases f3 with ⟨_,f3,_⟩|⟨b',off',arr,el,fr,Fs,g1,g2,g3,g4,g5,g6,g7⟩
  ·rw [f3] at hl;simp at hl;omega
  ·rcases e5 with e5|⟨b,off,e5,rfl⟩
   ·omega
   ·rw [e5] at g1;simp at g1;obtain ⟨rfl,rfl⟩:=g1
    obtain ⟨G,k1,k2⟩:=zC7 (n:=n) g6 lo (by omega)
    rw [hk,Nat.mul_one] at k1
    refine zQK hop h1 h3 h2 e2 fun w' hw'=>⟨_,_,_,rfl, ?_⟩
    have hlt:b<w.heap.size:=(h.mine id ob ho b (by simp [g7])).2.1
    have:=zO6 (P:=P) (w':=w') (b:=b) (by rw [hw' b hlt];exact g2) (show (⟨b,off+lo*hd.k,none⟩:Addr)=⟨b,off+lo,none⟩ by rw [f2,hk,Nat.mul_one]) k1 hb c
    rwa [hlen] at this
theorem zWk (h:SimX E s a w S ρ foot) {x:Operand} {src dst e:TypeId} (hop:o.op= .convert src dst x) (h1:P.underlying src=some (.slice e)) (h3:P.underlying e=some (.int .u8)) (h2:P.underlying dst=some .string)
  {rows:List (List T)} (hx:s.eval x=some (.sl false 1 rows)) (hb:rows.all zCR=true):zAI P o a w S ρ (.v (.string (bytesOf rows))):=by
 have hr:=h.eval hx
 simp only [Rep] at hr
 obtain ⟨a0,c,e1,e2⟩:=hr
 rcases e2 with ⟨_,rfl,_⟩|⟨b,off,arr,el,fr,Fs,rfl,f2,f3,f4,f5,f6⟩
 ·exact zGt hop h1 h3 h2 e1
 ·refine zQK hop h1 h3 h2 e1 fun w' hw'=>⟨_,_,_,rfl, ?_⟩
  have hlt:b<w.heap.size:=(h.shared b f6.2.1).1
  exact zO6 (P:=P) (w':=w') (b:=b) (by rw [hw' b hlt];exact f2) rfl f5 hb c
theorem zDZ (h:SimX E s a w S ρ foot) {x:Operand} {lo hi mx:Option Operand} {t e:TypeId} {k k1:Nat} (hop:o.op= .slice t x lo hi mx) (ht:P.underlying t=some (.slice e)) (hw:width P e=some k) {d:Int}
  (hx:(∃ a0 n c,a.eval x= .slice a0 n c∧mx.isSome=true)∨∃ a0,a.eval x= .slice a0 0 0∧mx=none∧d=0)
  (hl:bound s 0 lo=some 0) (hhi:bound s d hi=some 0) (hm:∀ m,mx=some m→bound s 0 (some m)=some 0∧hi.isSome=true):zAI P o a w S ρ (.sl true k1 []):=by
 rcases hx with ⟨a0,n,c,e2,hmx⟩|⟨a0,e2,rfl,rfl⟩
 ·cases mx with
  |none=>simp at hmx
  |some m=>
   obtain ⟨hm1,hm2⟩:=hm m rfl
   have hb:=fun w'=>zLL (P:=P) (isS:=true) (len:=n) (cap:=c) h hl hhi hm1 hm2 w'
   refine ⟨.slice a0 0 0, ?_,fun w' _=> ?_⟩
   ·simp only [Rep];exact ⟨a0,0,rfl, .inl (by simp)⟩
   ·have:(Instr.sliceAt t (a.eval x) (lo.map a.eval) (hi.map a.eval) (some (a.eval m))).run P w'= .ok (.slice a0 0 0) w':=by
     simp [Instr.sliceAt,Instr.slice,underlying,ht,e2,hb,zBn hw]
    have:=zA1 this
    simpa [execOp,hop] using this
 ·have hb:=fun w'=>zDF (P:=P) (isS:=true) (len:=0) (cap:=0) h hl hhi (by omega) (by omega) (by omega) w'
  refine ⟨.slice a0 0 0, ?_,fun w' _=> ?_⟩
  ·simp only [Rep];exact ⟨a0,0,rfl, .inl (by simp)⟩
  ·have:(Instr.sliceAt t (a.eval x) (lo.map a.eval) (hi.map a.eval) none).run P w'= .ok (.slice a0 0 0) w':=by
    simp at hb
    simp [Instr.sliceAt,Instr.slice,underlying,ht,e2,hb,zBn hw]
   have:=zA1 this
   simpa [execOp,hop] using this
theorem zWl (h:SimX E s a w S ρ foot) {x:Operand} {lo hi:Option Operand} {m:Nat} {t e:TypeId} {k:Nat} (hop:o.op= .slice t x lo hi (some (.tmp m))) (ht:P.underlying t=some (.slice e)) (hw:width P e=some k) {id lo0 n:Nat} (hx:s.eval x=some (.ref id lo0 n))
  {l hh c:Int} (hl:bound s 0 lo=some l) (hhi:bound s n hi=some hh) (hc:bound s 0 (some (.tmp m))=some c) (h0:0≤l) (h1:l≤hh) (h2:hh≤c) (h3:c≤n) (hs:hi.isSome=true):zAI P o a w S ρ .any:=by
 have hrx:=h.eval hx
 simp only [Rep] at hrx
 obtain ⟨_,hd,a0,c0,e1,e2,e3,e4,e5⟩:=hrx
 have hb:=fun w'=>zLM (P:=P) (isS:=true) (len:=n) (cap:=c0) h hl hhi hc hs h0 h1 h2 (by omega) w'
 refine ⟨.slice (if c.toNat=l.toNat then a0 else a0.map (·.add (l.toNat*k))) (hh.toNat-l.toNat) (c.toNat-l.toNat),by simp only [Rep],fun w' _=> ?_⟩
 have:(Instr.sliceAt t (a.eval x) (lo.map a.eval) (hi.map a.eval) (some (a.eval (.tmp m)))).run P w'= .ok (.slice (if c.toNat=l.toNat then a0 else a0.map (·.add (l.toNat*k))) (hh.toNat-l.toNat) (c.toNat-l.toNat)) w':=by
  simp [Instr.sliceAt,Instr.slice,underlying,ht,e2,hb,zBn hw]
 have:=zA1 this
 simpa [execOp,hop] using this
theorem zLl (h:SimX E s a w S ρ foot) {x:Operand} {own:Bool} {k:Nat} {rows:List (List T)} (hx:s.eval x=some (.sl own k rows)):∃ a0 n c,a.eval x= .slice a0 n c:=by
 have hrx:=h.eval hx
 simp only [Rep] at hrx
 obtain ⟨a0,c,e2,e3⟩:=hrx
 exact ⟨a0,_,c,e2⟩
theorem zQL (h:SimX E s a w S ρ foot) {x:Operand} {id lo n:Nat} (hx:s.eval x=some (.ref id lo n)):∃ a0 n c,a.eval x= .slice a0 n c:=by
 have hrx:=h.eval hx
 simp only [Rep] at hrx
 obtain ⟨_,hd,a0,c,e1,e2,_⟩:=hrx
 exact ⟨a0,_,c,e2⟩
theorem zJM (h:SimX E s a w S ρ foot) {x:Operand} {k:Nat} (hx:s.eval x=some (.sl true k [])):∃ a0,a.eval x= .slice a0 0 0:=by
 have hrx:=h.eval hx
 simp only [Rep] at hrx
 obtain ⟨a0,c,e2,e3⟩:=hrx
 have hc0:c=0:=by
  rcases e3 with e3|⟨b,off,arr,el,fr,Fs,_,_,_,_,_,f6⟩
  ·exact e3.1
  ·have:=f6.1;simp at this
 subst hc0
 exact ⟨a0,e2⟩
theorem zGS (h:SimX E s a w S ρ foot) {x:Operand} (hx:s.eval x=some (.v (.slice none 0 0))):∃ a0,a.eval x= .slice a0 0 0:=by
 have hrx:=h.eval hx
 simp only [Rep] at hrx
 exact ⟨none,hrx.1⟩
theorem zMw {f:TypeId} {c:Nat} (hs:scalar P f=some c) {p q:Value} {b:Bool} (hv:eqV c p q=some b) (d:Nat) (w':World):(Op.equalIn (d+1) f p q).run P w'= .ok b w':=by
 unfold scalar at hs
 unfold eqV at hv
 split at hv
 ·rename_i k a k' b'
  split at hv
  ·rename_i hk
   subst hk
   simp at hv;subst hv
   split at hs<;>simp at hs
   exact run_equalIn_int w' d f _ _ _ _ (by assumption)
  ·cases hv
 ·simp at hv;subst hv
  split at hs<;>simp at hs
  exact run_equalIn_bool' w' d f _ _ (by assumption)
 ·simp at hv;subst hv
  split at hs<;>simp at hs
  rw [run_equalIn_string w' d f _ _ (by assumption)]
  simp [zGs,ByteArray.toList_eq]
 ·cases hv
theorem zO7 {f:TypeId} {c:Nat} (hs:scalar P f=some c) {cs:Array Value} {off:Nat} {y:Value} (hy:cs[off]? =some y) (w':World):(part f cs off).run P w'= .ok y w':=by
 have hag:(isAgg f).run P w'= .ok false w':=by
  unfold scalar at hs
  unfold isAgg
  split at hs<;>simp at hs<;>simp [underlying, *]
 simp [part,hag,hy]
theorem zJN {xs ys:List T} {cx cy:Array Value} (hx:RepRow S w ρ (fun i=>cx[i]?) 0 xs []) (hy:RepRow S w ρ (fun i=>cy[i]?) 0 ys []) (d:Nat) (w':World):
  ∀ (fs:List Field) (offs:List (Nat×Nat)) (b:Bool),zGQ P fs=some offs→zIH xs ys offs=some b→(Op.eqFields (d+1) cx cy fs).run P w'= .ok b w'
 |[],offs,b,hf,hb=>by
  simp only [zGQ,Option.some.injEq] at hf;subst hf
  simp only [zIH,Option.some.injEq] at hb;subst hb
  simp [Op.eqFields]
 |f::fs,offs,b,hf,hb=>by
  simp only [zGQ] at hf
  split at hf
  ·rename_i hn
   split at hf
   ·rename_i c l hc hl
    simp only [Option.some.injEq] at hf;subst hf
    simp only [zIH] at hb
    split at hb
    ·rename_i p q hp hq
     split at hb
     ·rename_i b1 b2 h1 h2
      simp only [Option.some.injEq] at hb;subst hb
      have get:∀ {zs:List T} {cz:Array Value} {z:Value},RepRow S w ρ (fun i=>cz[i]?) 0 zs []→zs[f.offset]? =some (.v z)→cz[f.offset]? =some z:=by
       intro zs cz z hr hz
       obtain ⟨g,g1,g2,g3⟩:=(zCp _ _ _).1 hr
       have hlt:=(List.getElem?_eq_some_iff.1 hz).1
       obtain ⟨y,y1,y2⟩:=g3 f.offset _ _ hz (List.getElem?_eq_getElem (by omega))
       simp only [Rep] at y2
       rw [Nat.zero_add] at y1
       rw [y1,y2.1]
      have hn':f.name≠ "_" :=by simpa using hn
      have e1:=zO7 (P:=P) hc (get hx hp) w'
      have e2:=zO7 (P:=P) hc (get hy hq) w'
      have e3:=zMw (P:=P) hc h1 d w'
      simp only [Op.eqFields,if_pos hn',Sem.run_bind,e1,e2,e3,Result.andThen_ok]
      cases b1 with
      |false=>simp
      |true=>simp [zJN hx hy d w' fs l b2 hl h2]
     ·cases hb
    ·cases hb
   ·cases hf
  ·cases hf
theorem zZU (h:SimX E s a w S ρ foot) {x y:Operand} {t u:TypeId} {neg:Bool} (hop:o.op= .binOp (if neg then .neq else .eql) t x y u) {offs:List (Nat×Nat)} (ht:zQB P t=some offs) {xs ys:List T} (hx:s.eval x=some (.agg xs)) (hy:s.eval y=some (.agg ys)) {b:Bool}
  (hb:zIH xs ys offs=some b):zAI P o a w S ρ (.v (.bool (bif neg then !b else b))):=by
 have hrx:=h.eval hx;have hry:=h.eval hy
 simp only [Rep] at hrx hry
 obtain ⟨cx,x1,x2,x3⟩:=hrx
 obtain ⟨cy,y1,y2,y3⟩:=hry
 unfold zQB at ht
 split at ht
 ·rename_i fields hu
  split at ht
  ·cases ht
  ·rename_i hg
   simp only [Bool.or_eq_true,not_or,Bool.not_eq_true] at hg
   have hfo:P.fieldsOf t=fields:=by simp [Program.fieldsOf,hu]
   refine ⟨.bool (bif neg then !b else b),by simp [Rep],fun w' _=> ?_⟩
   have e:=zJN (P:=P) x3 y3 9998 w' _ _ b ht hb
   have e2:=run_equalIn_struct (P:=P) w' 9999 t cx cy (by rw [hfo];exact hu) hg.1
   rw [hfo] at e2
   rw [e] at e2
   have g:=run_eqGuard_agg (P:=P) w' (if neg then .neq else .eql) t x y cx cy hg.2
   have key:(do eqGuard (if neg then .neq else .eql) t x y (.agg cx) (.agg cy);binOp (if neg then .neq else .eql) t (.agg cx) (.agg cy):Sem Value).run P w'= .ok (.bool (bif neg then !b else b)) w':=by
    simp only [Sem.run_bind,g,Result.andThen_ok]
    cases neg with
    |true=>simp only [if_true,run_neq_struct,e2,Result.andThen_ok,cond_true]
    |false=>simp only [Bool.false_eq_true,if_false,run_eql_struct,e2,Result.andThen_ok,cond_false]
   have:=zA1 key
   simpa [execOp,hop,x1,y1] using this
 ·cases ht
theorem zZV (h:SimX E s a w S ρ foot) {x y:Operand} {t u:TypeId} {neg:Bool} (hop:o.op= .binOp (if neg then .neq else .eql) t x y u) (hu:P.underlying t=some .bool) {p q:Bool} (hx:s.eval x=some (.v (.bool p))) (hy:s.eval y=some (.v (.bool q))):
  zAI P o a w S ρ (.v (.bool (bif neg then p !=q else p==q))):=by
 have hrx:=h.eval hx;have hry:=h.eval hy
 simp only [Rep] at hrx hry
 refine ⟨.bool (bif neg then p !=q else p==q),by simp [Rep],fun w' _=> ?_⟩
 have e:=run_equalIn_bool' (P:=P) w' 9999 t p q hu
 have e':(Op.equal t (.bool p) (.bool q)).run P w'= .ok (p==q) w':=e
 have key:(do eqGuard (if neg then .neq else .eql) t x y (.bool p) (.bool q);binOp (if neg then .neq else .eql) t (.bool p) (.bool q):Sem Value).run P w'= .ok (.bool (bif neg then p !=q else p==q)) w':=by
  cases neg with
  |true=>simp [eqGuard,binOp,Sem.run_bind,e',bne]
  |false=>simp [eqGuard,binOp,Sem.run_bind,e']
 have:=zA1 key
 simpa [execOp,hop,hrx.1,hry.1] using this
end
end Go.Am

import Derived.Test.YthfpgpkdankdjaaGreatDoorAmCode
import Derived.Laws.Strings
import Derived.Laws.Sem
set_option linter.all false
namespace Go.Am
open Go Go.RowKit
def T.sh:T→T
 | .sl _ k rows=> .sl false k rows
 | .bo _ row o=> .bo false row o
 |t=>t
def T.bare0:T→Bool
 | .any=>true
 | .v _=>true
 | .sl false _ _=>true
 | .bo false _ _=>true
 | .ref _ _ _=>true
 | .ptr _ _ _=>true
 |_=>false
def T.bare:T→Bool
 | .any=>true
 | .v _=>true
 | .sl false _ _=>true
 | .bo false _ _=>true
 | .ref _ _ _=>true
 | .ptr _ _ _=>true
 | .fn _ caps=>caps.all T.bare0
 |_=>false
def T.leaf:T→Bool
 | .agg _=>false
 | .tup _=>false
 |_=>true
def zBE (m:Option Nat) (l:List T):Option T:=
 match m with
 |none=>match l with
  |[t]=>some t
  |_=>none
 |some n=>if l.length=n then some (.agg l) else none
def zAS (m:Option Nat) (l:List T):List T:=l.take (m.getD 1)
def zGs (a b:ByteArray):Bool:=a.data.toList==b.data.toList
def zAf (a b:ByteArray):Bool:=Op.bytesLess a.data.toList b.data.toList
def zQG (op:BinOp):Value→Value→Option (Prop×Value)
 | .int k a, .int k' b=>
  match op with
  | .shl=>some (0≤b, .int k (k.wrap (a*2^(min b.toNat k.bits))))
  | .shr=>some (0≤b, .int k (a.fdiv (2^(min b.toNat k.bits))))
  | .add=>some (k=k', .int k (k.wrap (a+b)))
  | .sub=>some (k=k', .int k (k.wrap (a-b)))
  | .mul=>some (k=k', .int k (k.wrap (a*b)))
  | .quo=>some (k=k'∧b≠0, .int k (k.wrap (a.tdiv b)))
  | .rem=>some (k=k'∧b≠0, .int k (a.tmod b))
  | .and=>some (k=k', .int k (k.wrap (BitVec.ofInt k.bits a &&&BitVec.ofInt k.bits b).toNat))
  | .or=>some (k=k', .int k (k.wrap (BitVec.ofInt k.bits a |||BitVec.ofInt k.bits b).toNat))
  | .xor=>some (k=k', .int k (k.wrap (BitVec.ofInt k.bits a ^^^BitVec.ofInt k.bits b).toNat))
  | .eql=>some (k=k', .bool (a==b))
  | .neq=>some (k=k', .bool (a !=b))
  | .lss=>some (k=k', .bool (decide (a<b)))
  | .leq=>some (k=k', .bool (decide (a≤b)))
  | .gtr=>some (k=k', .bool (decide (a>b)))
  | .geq=>some (k=k', .bool (decide (a≥b)))
  |_=>none
 | .string a, .string b=>
  match op with
  | .add=>some (a.size+b.size≤9223372036854775807, .string (a++b))
  | .eql=>some (True, .bool (zGs a b))
  | .neq=>some (True, .bool (!zGs a b))
  | .lss=>some (True, .bool (zAf a b))
  | .leq=>some (True, .bool (zAf a b||zGs a b))
  | .gtr=>some (True, .bool (!(zAf a b||zGs a b)))
  | .geq=>some (True, .bool (!zAf a b))
  |_=>none
 |_,_=>none
def eqV:Nat→Value→Value→Option Bool
 |0, .int k a, .int k' b=>if k=k' then some (a==b) else none
 |1, .bool a, .bool b=>some (a==b)
 |2, .string a, .string b=>some (zGs a b)
 |_,_,_=>none
def zIH (xs ys:List T):List (Nat×Nat)→Option Bool
 |[]=>some true
 |(o,c)::r=>
  match xs[o]?,ys[o]? with
  |some (.v p),some (.v q)=>
   match eqV c p q,zIH xs ys r with
   |some b,some c=>some (b&&c)
   |_,_=>none
  |_,_=>none
def zA6 (s:St):List Operand→Option (List T)
 |[]=>some []
 |x::r=>match s.eval x,zA6 s r with
  |some t,some l=>some (t::l)
  |_,_=>none
def T.plainV:T→Bool
 | .v (.agg _)=>false
 | .v (.tuple _)=>false
 | .any=>false
 |_=>true
def T.cells:T→Option (List T)
 | .agg row=>some row
 | .tup _=>none
 |t=>some [t]
def zEr (row:List T):List (Nat×Nat×T)→Option (List T)
 |[]=>some row
 |(off,n,t)::r=>
  match t.cells with
  |some cs=>if cs.length=n∧off+n≤row.length then zEr (row.take off++cs++row.drop (off+n)) r else none
  |none=>none
def zCw (s:St):List (Nat×Nat×Operand)→Option (List (Nat×Nat×T))
 |[]=>some []
 |(off,n,x)::r=>match s.eval x,zCw s r with
  |some t,some l=>some ((off,n,t)::l)
  |_,_=>none
def zAz:Value→List T
 | .agg cs=>cs.toList.map T.ofV1
 |x=>[T.ofV1 x]
def bound (s:St) (dflt:Int):Option Operand→Option Int
 |none=>some dflt
 |some x=>match s.eval x with
  |some (.v (.int _ n))=>some n
  |_=>none
def zCR:List T→Bool
 |[.v (.int .u8 _)]=>true
 |_=>false
def byteOf:List T→UInt8
 |[.v (.int .u8 n)]=>UInt8.ofNat n.toNat
 |_=>0
def bytesOf (rows:List (List T)):ByteArray:=⟨⟨rows.map byteOf⟩⟩
def ldT (b:Bool) (p:Prop) (o:Option T):Option (Prop×T):=bif b then o.map fun t=>(p,t) else none
def zAe (s:St):I→Option (Prop×T)
 | .mv x=>(s.eval x).map fun t=>(True,t)
 | .nc x=>
  match s.eval x with
  |some (.ptr id i o)=>some (True, .ptr id i o)
  |some (.bo false row 0)=>some (True, .bx false row)
  |_=>none
 | .pick c x y=>
  match s.eval c,s.eval x,s.eval y with
  |some (.v (.bool b)),some p,some q=>some (True,bif b then p else q)
  |_,_,_=>none
 | .bin op x y=>
  match s.eval x,s.eval y with
  |some (.v p),some (.v q)=>(zQG op p q).map fun r=>(r.1, .v r.2)
  |_,_=>none
 | .eqb neg x y=>
  match s.eval x,s.eval y with
  |some (.v (.bool p)),some (.v (.bool q))=>some (True, .v (.bool (bif neg then p !=q else p==q)))
  |_,_=>none
 | .eqs neg offs x y=>
  match s.eval x,s.eval y with
  |some (.agg xs),some (.agg ys)=>(zIH xs ys offs).map fun b=>(True, .v (.bool (bif neg then !b else b)))
  |_,_=>none
 | .build z parts=>
  match zCw s parts with
  |some l=>(zEr (zAz z) l).map fun r=>(l.all (fun q=>q.2.2.plainV)=true, .agg r)
  |none=>none
 | .not x=>
  match s.eval x with
  |some (.v (.bool b))=>some (True, .v (.bool (!b)))
  |_=>none
 | .neg x=>
  match s.eval x with
  |some (.v (.int k n))=>some (True, .v (.int k (k.wrap (0-n))))
  |_=>none
 | .cvi k x=>
  match s.eval x with
  |some (.v (.int _ n))=>some (True, .v (.int k (k.wrap n)))
  |_=>none
 | .cvss x=>
  match s.eval x with
  |some (.v (.string b))=>some (True, .v (.string b))
  |_=>none
 | .cvbs x=>
  match s.eval x with
  |some (.ref id lo n)=>
   match lk id s.objs with
   |some ob=>some (ob.k=1∧lo+n≤ob.rows.length∧((ob.rows.drop lo).take n).all zCR=true, .v (.string (bytesOf ((ob.rows.drop lo).take n))))
   |none=>none
  |some (.sl false k rows)=>some (k=1∧rows.all zCR=true, .v (.string (bytesOf rows)))
  |some (.sl true _ [])=>some (True, .v (.string (bytesOf [])))
  |some (.v (.slice none 0 0))=>some (True, .v (.string (bytesOf [])))
  |_=>none
 | .mkf f caps=>(zA6 s caps).map fun l=>(True, .fn f l)
 | .fa off x=>
  match s.eval x with
  |some (.ptr id i o)=>some (True, .ptr id i (o+off))
  |some (.bo false row 0)=>some (off≤row.length, .bx false (row.drop off))
  |_=>none
 | .fld off m x=>
  match s.eval x with
  |some (.agg row)=>(zBE m (zAS m (row.drop off))).map fun t=>(True,t)
  |_=>none
 | .ia k x i=>
  match s.eval x,s.eval i with
  |some (.ref id lo n),some (.v (.int _ j))=>
   match lk id s.objs with
   |some ob=>some (0≤j∧j<n∧ob.k=k, .ptr id (lo+j.toNat) 0)
   |none=>none
  |some (.sl false k' rows),some (.v (.int _ j))=>some (0≤j∧j<rows.length∧k'=k, .bx false (rows.getD j.toNat []))
  |_,_=>none
 | .ix x i=>
  match s.eval x,s.eval i with
  |some (.v (.string b)),some (.v (.int _ j))=>some (0≤j∧j<b.size, .v (.int .u8 ((b.data.toList.getD j.toNat 0).toNat)))
  |_,_=>none
 | .ext n x=>
  match s.eval x with
  |some (.tup l)=>match l[n]? with
   |some t=>some (True,t)
   |none=>none
  |_=>none
 | .lens x=>
  match s.eval x with
  |some (.ref _ _ n)=>some (True, .v (.int .i64 n))
  |some (.sl _ _ rows)=>some (True, .v (.int .i64 rows.length))
  |some (.v (.slice none 0 0))=>some (True, .v (.int .i64 0))
  |_=>none
 | .lent x=>
  match s.eval x with
  |some (.v (.string b))=>some (True, .v (.int .i64 b.size))
  |_=>none
 | .load m x=>
  match s.eval x with
  |some (.ptr id i o)=>
   match lk id s.objs with
   |some ob=>ldT ((zAS m ((ob.rows.getD i []).drop o)).all T.bare) (i<ob.rows.length) (zBE m (zAS m ((ob.rows.getD i []).drop o)))
   |none=>none
  |some (.bo false row 0)=>(zBE m ((zAS m row).map T.sh)).map fun t=>(((zAS m row).map T.sh).all T.bare=true,t)
  |_=>none
 | .bmax [x,y]=>
  match s.eval x,s.eval y with
  |some (.v (.int k p)),some (.v (.int _ q))=>some (True, .v (.int k (if q>p then q else p)))
  |_,_=>none
 | .bmin [x,y]=>
  match s.eval x,s.eval y with
  |some (.v (.int k p)),some (.v (.int _ q))=>some (True, .v (.int k (if q<p then q else p)))
  |_,_=>none
 | .slt x lo hi=>
  match s.eval x with
  |some (.v (.string b))=>
   match bound s 0 lo,bound s b.size hi with
   |some l,some h=>some (0≤l∧l≤h∧h≤b.size, .v (.string ⟨⟨(b.data.toList.drop l.toNat).take (h.toNat-l.toNat)⟩⟩))
   |_,_=>none
  |_=>none
 | .sls k x lo hi mx=>
  match s.eval x with
  |some (.ref id lo0 n)=>
   match bound s 0 lo,bound s n hi,mx,lk id s.objs with
   |some l,some h,none,some ob=>some (0≤l∧l≤h∧(h≤n∨(lo0:Int)+h≤ob.rows.length)∧ob.k=k, .ref id (lo0+l.toNat) (h.toNat-l.toNat))
   |some l,some h,some (.tmp m),_=>(bound s 0 (some (.tmp m))).map fun c=>(0≤l∧l≤h∧h≤c∧c≤n∧hi.isSome=true, .any)
   |some l,some h,some m,_=>(bound s 0 (some m)).map fun c=>(l=0∧h=0∧c=0∧hi.isSome=true, .sl true k [])
   |_,_,_,_=>none
  |some (.sl false k' rows)=>
   match bound s 0 lo,bound s rows.length hi,mx with
   |some l,some h,none=>some (0≤l∧l≤h∧h≤rows.length∧k'=k, .sl false k ((rows.drop l.toNat).take (h.toNat-l.toNat)))
   |some l,some h,some m=>(bound s 0 (some m)).map fun c=>(l=0∧h=0∧c=0∧k'=k∧hi.isSome=true, .sl true k [])
   |_,_,_=>none
  |some (.sl true k' [])=>
   match bound s 0 lo,bound s 0 hi,mx with
   |some l,some h,none=>some (l=0∧h=0, .sl true k' [])
   |some l,some h,some m=>(bound s 0 (some m)).map fun c=>(l=0∧h=0∧c=0∧hi.isSome=true, .sl true k' [])
   |_,_,_=>none
  |some (.v (.slice none 0 0))=>
   match bound s 0 lo,bound s 0 hi,mx with
   |some l,some h,none=>some (l=0∧h=0, .sl true k [])
   |some l,some h,some m=>(bound s 0 (some m)).map fun c=>(l=0∧h=0∧c=0∧hi.isSome=true, .sl true k [])
   |_,_,_=>none
  |_=>none
 |_=>none
def zUw (w w':World):Prop:=∀ b,b<w.heap.size→w'.heap[b]? =w.heap[b]?
def zAI (P:Program) (o:Oper) (a:Act) (w:World) (S:Nat→Prop) (ρ:Nat→Option Hd) (t:T):Prop:=
 ∃ y,Rep S w ρ t y []∧∀ w',zUw w w'→(execOp a.eval o).run P w'= .ok (.value y) w'
section
variable {P:Program} {E:Env} {s:St} {a:Act} {w:World} {S:Nat→Prop} {ρ:Nat→Option Hd} {foot:Nat→List Nat} {o:Oper}
theorem y_mv (h:SimX E s a w S ρ foot) {x:Operand} (hop:o.op= .move x∨o.op= .assign x) {t:T} (hx:s.eval x=some t):zAI P o a w S ρ t:=by
 refine ⟨a.eval x,h.eval hx,fun w' _=> ?_⟩
 rcases hop with hop|hop<;>simp [execOp,hop,Sem.run,pure]
theorem y_nc (h:SimX E s a w S ρ foot) {x:Operand} (hop:o.op= .nilCheck x) {t:T} (hx:s.eval x=some t) (ht:(∃ id i q,t= .ptr id i q)∨∃ row,t= .bx false row):zAI P o a w S ρ t:=by
 have hr:=h.eval hx
 refine ⟨a.eval x,hr,fun w' _=> ?_⟩
 rcases ht with ⟨id,i,q,rfl⟩|⟨row,rfl⟩
 ·simp only [Rep] at hr
  obtain ⟨_,hd,b,off,_,_,hy⟩:=hr
  simp [execOp,hop,Sem.run,pure,hy]
 ·simp only [Rep] at hr
  obtain ⟨b,off,arr,el,fr,Fs,hy,_⟩:=hr
  simp [execOp,hop,Sem.run,pure,hy]
theorem zAbt (h:SimX E s a w S ρ foot) {c x y:Operand} (hop:o.op= .pick c x y) {b:Bool} {p q:T} (hc:s.eval c=some (.v (.bool b))) (hx:s.eval x=some p) (hy:s.eval y=some q):
  zAI P o a w S ρ (bif b then p else q):=by
 have hr:=h.eval hc
 simp only [Rep] at hr
 have hr1:=hr.1
 cases b with
 |true=>
  refine ⟨a.eval x,h.eval hx,fun w' _=> ?_⟩
  simp [execOp,hop,Sem.run,pure,bind,Sem.bind,asBool,hr1]
 |false=>
  refine ⟨a.eval y,h.eval hy,fun w' _=> ?_⟩
  simp [execOp,hop,Sem.run,pure,bind,Sem.bind,asBool,hr1]
theorem zAe7 (h:SimX E s a w S ρ foot) {x:Operand} {tt:TypeId} (hop:o.op= .unOp .not tt x) {b:Bool} (hx:s.eval x=some (.v (.bool b))):zAI P o a w S ρ (.v (.bool (!b))):=by
 have hr:=h.eval hx
 simp only [Rep] at hr
 exact ⟨.bool (!b),by simp [Rep],fun w' _=>by simp [execOp,hop,Sem.run,pure,bind,Sem.bind,Op.unary,hr.1]⟩
theorem zAe8 (h:SimX E s a w S ρ foot) {x:Operand} {tt:TypeId} (hop:o.op= .unOp .neg tt x) {k:IntKind} {n:Int} (hx:s.eval x=some (.v (.int k n))):zAI P o a w S ρ (.v (.int k (k.wrap (0-n)))):=by
 have hr:=h.eval hx
 simp only [Rep] at hr
 exact ⟨.int k (k.wrap (0-n)),by simp [Rep],fun w' _=>by simp [execOp,hop,Sem.run,pure,bind,Sem.bind,Op.unary,Op.intArith,hr.1]⟩
theorem zAe9 (h:SimX E s a w S ρ foot) {x:Operand} {src dst:TypeId} (hop:o.op= .convert src dst x) {k k0 kk:IntKind} {n:Int} (h1:P.underlying src=some (.int k0)) (h2:P.underlying dst=some (.int k))
  (hx:s.eval x=some (.v (.int kk n))):zAI P o a w S ρ (.v (.int k (k.wrap n))):=by
 have hr:=h.eval hx
 simp only [Rep] at hr
 exact ⟨.int k (k.wrap n),by simp [Rep],fun w' _=>by simp [execOp,hop,convert,bind,underlying,program,Sem.run,Sem.bind,h1,h2,pure,hr.1,Conv.intToInt]⟩
theorem zAbu (h:SimX E s a w S ρ foot) {x:Operand} {src dst:TypeId} (hop:o.op= .convert src dst x) {b:ByteArray} (h1:P.underlying src=some .string) (h2:P.underlying dst=some .string)
  (hx:s.eval x=some (.v (.string b))):zAI P o a w S ρ (.v (.string b)):=by
 have hr:=h.eval hx
 simp only [Rep] at hr
 exact ⟨.string b,by simp [Rep],fun w' _=>by simp [execOp,hop,convert,bind,underlying,program,Sem.run,Sem.bind,h1,h2,pure,hr.1]⟩
theorem zA1 {m:Sem Value} {y:Value} {w:World} (h:m.run P w= .ok y w):(do pure (Next.value (←m)):Sem Next).run P w= .ok (.value y) w:=by
 have:=Sem.run_bind (P:=P) (w:=w) m (fun v=>(pure (Next.value v):Sem Next))
 simp only [bind] at this ⊢
 rw [this,h]
 simp [pure,Sem.run]
theorem zAfa (h:SimX E s a w S ρ foot) {op:BinOp} {x y:Operand} {t u:TypeId} (hop:o.op= .binOp op t x y u) {p q r:Value} {c:Prop} (hx:s.eval x=some (.v p)) (hy:s.eval y=some (.v q))
  (hb:zQG op p q=some (c,r)) (hc:c):zAI P o a w S ρ (.v r):=by
 have hrx:=(h.eval hx);have hry:=(h.eval hy)
 simp only [Rep] at hrx hry
 refine ⟨r,by simp [Rep],fun w' _=> ?_⟩
 have key:(do eqGuard op t x y p q;binOp op t p q:Sem Value).run P w'= .ok r w':=by
  have hg:eqGuard op t x y p q=pure ():=by
   unfold zQG at hb
   unfold eqGuard
   split at hb
   ·split<;>rfl
   ·split<;>rfl
   ·cases hb
  simp only [hg,bind,pure,Sem.bind]
  unfold zQG at hb
  split at hb
  ·rename_i k1 n1 k2 n2
   cases op<;>simp only [Option.some.injEq,Prod.mk.injEq,reduceCtorEq] at hb<;>obtain ⟨h1,h2⟩:=hb<;>subst h1 h2<;>
    simp [binOp,Op.intArith,Op.intDiv,Op.intBits,Op.intCmp,Op.shift,hc,pure,Sem.run]
   all_goals omega
  ·rename_i a1 b1
   cases op<;>simp only [Option.some.injEq,Prod.mk.injEq,reduceCtorEq] at hb<;>obtain ⟨h1,h2⟩:=hb<;>subst h1 h2<;>
    simp [binOp,Op.stringOp,pure,Sem.run,zGs,zAf,ByteArray.toList_eq]
   omega
  ·cases hb
 have:=zA1 key
 simpa [execOp,hop,hrx.1,hry.1] using this
theorem zEz (h:SimX E s a w S ρ foot):∀ (xs:List Operand) (l:List T) (cell:Nat→Option Value) (o:Nat),zA6 s xs=some l→(∀ i x,xs[i]? =some x→cell (o+i)=some (a.eval x))→RepRow S w ρ cell o l []
 |[],l,cell,o,he,_=>by simp only [zA6,Option.some.injEq] at he;subst he;simp [RepRow]
 |x::r,l,cell,o,he,hc=>by
  simp only [zA6] at he
  split at he
  ·rename_i t l' h1 h2
   simp only [Option.some.injEq] at he
   subst he
   simp only [RepRow]
   refine ⟨a.eval x,[],[],by simpa using hc 0 x rfl,h.eval h1,zEz h r l' cell (o+1) h2 fun i y hy=> ?_,rfl⟩
   have:=hc (i+1) y (by simpa using hy)
   rwa [show o+(i+1)=o+1+i from by omega] at this
  ·cases he
theorem zC6:∀ (xs:List Operand) (l:List T),zA6 s xs=some l→l.length=xs.length
 |[],l,he=>by simp only [zA6,Option.some.injEq] at he;subst he;rfl
 |x::r,l,he=>by
  simp only [zA6] at he
  split at he
  ·rename_i t l' h1 h2
   simp only [Option.some.injEq] at he
   subst he
   simp [zC6 r l' h2]
  ·cases he
theorem zAfb (h:SimX E s a w S ρ foot) {f:Nat} {caps:Array Operand} (hop:o.op= .makeFunc (.func f) #[] caps) {l:List T} (hl:zA6 s caps.toList=some l):zAI P o a w S ρ (.fn f l):=by
 refine ⟨.func (.func f) #[] (caps.map a.eval), ?_,fun w' _=>by simp [execOp,hop,Instr.makeFunc]⟩
 simp only [Rep]
 have e:=zC6 _ _ hl
 refine ⟨caps.map a.eval,rfl,by simpa using e.symm,zEz h _ _ _ 0 hl fun i x hx=> ?_⟩
 have:caps[i]? =some x:=by simpa using hx
 simp [this]
theorem zCx {cell:Nat→Option Value} {b:Nat} {l:List T} {F:List Nat} (h:RepRow S w ρ cell b l F) (off n:Nat) (ho:off≤l.length):∃ G,RepRow S w ρ cell (b+off) ((l.drop off).take n) G∧∀ x,x∈G→x∈F:=by
 have e1:l=l.take off++((l.drop off).take n++(l.drop off).drop n):=by rw [List.take_append_drop,List.take_append_drop]
 rw [e1] at h
 obtain ⟨F1,F2,_,h2,rfl⟩:=(zAr _ _ _ _).1 h
 obtain ⟨G1,G2,h3,_,rfl⟩:=(zAr _ _ _ _).1 h2
 refine ⟨G1, ?_,fun x hx=>by simp [hx]⟩
 rwa [List.length_take,Nat.min_eq_left ho] at h3
theorem zII {G:List Nat} (h:∀ x,x∈G→x∈([]:List Nat)):G=[]:=by
 cases G with
 |nil=>rfl
 |cons x G=>exact absurd (h x (List.mem_cons_self ..)) (by simp)
theorem zCy {cs:Array Value} {off n:Nat} {l:List T} {F:List Nat} (h:RepRow S w ρ (fun i=>cs[i]?) off l F) (hl:l.length=n):(cs.extract off (off+n)).size=l.length∧RepRow S w ρ (fun i=>(cs.extract off (off+n))[i]?) 0 l F:=by
 have hs:∀ i,i<n→∃ y,cs[off+i]? =some y:=by
  intro i hi
  obtain ⟨fs,e1,_,e3⟩:=(zCp _ _ _).1 h
  have h1:l[i]? =some l[i]:=List.getElem?_eq_getElem (by omega)
  have h2:fs[i]? =some fs[i]:=List.getElem?_eq_getElem (by omega)
  obtain ⟨y,hy,_⟩:=e3 i _ _ h1 h2
  exact ⟨y,hy⟩
 have hsz:off+n≤cs.size∨n=0:=by
  by_cases e:n=0
  ·exact .inr e
  ·obtain ⟨y,hy⟩:=hs (n-1) (by omega)
   have:=(Array.getElem?_eq_some_iff.1 hy).1
   exact .inl (by omega)
 constructor
 ·simp only [Array.size_extract];omega
 ·refine zAM _ h fun i hi=> ?_
  simp only [Array.getElem?_extract,Nat.zero_add]
  rw [if_pos (by omega)]
theorem zJJ {t:TypeId} {m:Option Nat} (hm:wide P t=some m):∃ n,n≠0∧(∀ w',(sizeOf t).run P w'= .ok n w')∧(∀ w',(isAgg t).run P w'= .ok (zGP P t) w')∧m=(if zGP P t then some n else none):=by
 unfold wide at hm
 split at hm
 ·rename_i d n hd hn
  split at hm
  ·cases hm
  ·rename_i hn0
   simp only [Option.some.injEq] at hm
   refine ⟨n,hn0,fun w'=> ?_,fun w'=> ?_,hm.symm⟩
   ·unfold width at hn
    cases hi:P.info? t with
    |none=>simp [hi] at hn
    |some i=>simp [hi] at hn;simp [sizeOf,typeInfo,hi,hn]
   ·unfold isAgg zGP
    simp only [bind,Sem.bind,underlying,program,Sem.run,hd]
    cases d<;>simp [pure,Sem.bind,Sem.run]
 ·cases hm
theorem zX9 {t:TypeId} {cs:Array Value} {off:Nat} {m:Option Nat} (hm:wide P t=some m) {l:List T} {u:T} (hr:RepRow S w ρ (fun i=>cs[i]?) off l []) (hl:zBE m l=some u):
  ∃ y,(∀ w',(part t cs off).run P w'= .ok y w')∧Rep S w ρ u y []:=by
 obtain ⟨n,hn0,hsz,hag,rfl⟩:=zJJ hm
 cases hb:zGP P t with
 |true=>
  simp only [hb,if_true,zBE] at hl
  split at hl
  ·rename_i hln
   simp only [Option.some.injEq] at hl
   subst hl
   refine ⟨.agg (cs.extract off (off+n)),fun w'=>by simp [part,hag,hsz,hb], ?_⟩
   simp only [Rep]
   obtain ⟨h1,h2⟩:=zCy hr hln
   exact ⟨_,rfl,h1,h2⟩
  ·cases hl
 |false=>
  simp only [hb,zBE,Bool.false_eq_true,if_false] at hl
  split at hl
  ·rename_i t1
   simp only [Option.some.injEq] at hl
   subst hl
   simp only [RepRow] at hr
   obtain ⟨y,F1,F2,h1,h2,h3,h4⟩:=hr
   have e:=List.append_eq_nil_iff.1 h4.symm
   rw [e.1] at h2
   exact ⟨y,fun w'=>by simp [part,hag,h1,hb],h2⟩
  ·cases hl
theorem zNN {m:Option Nat} {t:TypeId} (hm:wide P t=some m) {l:List T} {u:T} {off:Nat} (hu:zBE m (zAS m (l.drop off))=some u):off≤l.length:=by
 obtain ⟨n,hn0,_,_,rfl⟩:=zJJ hm
 rcases Nat.lt_or_ge l.length off with h|h
 ·rw [List.drop_eq_nil_of_le (Nat.le_of_lt h)] at hu
  split at hu
  ·simp [zAS,zBE] at hu;omega
  ·simp [zAS,zBE] at hu
 ·exact h
theorem zAfc (h:SimX E s a w S ρ foot) {x:Operand} {t:TypeId} {f:Nat} (hop:o.op= .field t x f) {fields:Array Field} {fl:Field} {m:Option Nat} (h1:P.underlying t=some (.struct fields)) (h2:fields[f]? =some fl)
  (h3:wide P fl.type=some m) {row:List T} (hx:s.eval x=some (.agg row)) {u:T} (hu:zBE m (zAS m (row.drop fl.offset))=some u):zAI P o a w S ρ u:=by
 have hr:=h.eval hx
 simp only [Rep] at hr
 obtain ⟨cs,e1,e2,e3⟩:=hr
 obtain ⟨G,g1,g2⟩:=zCx e3 fl.offset (m.getD 1) (zNN h3 hu)
 have:=zII g2
 subst this
 rw [Nat.zero_add] at g1
 obtain ⟨y,y1,y2⟩:=zX9 (P:=P) h3 g1 hu
 refine ⟨y,y2,fun w' hw'=> ?_⟩
 have:(Instr.field t (a.eval x) f).run P w'= .ok y w':=by
  simp [Instr.field,underlying,h1,h2,e1,asAgg,y1]
 have:=zA1 this
 simpa [execOp,hop] using this
theorem zBn {t:TypeId} {n:Nat} (h:width P t=some n) (w':World):(sizeOf t).run P w'= .ok n w':=by
 unfold width at h
 cases hi:P.info? t with
 |none=>simp [hi] at h
 |some i=>simp [hi] at h;simp [sizeOf,typeInfo,hi,h]
theorem y_fa (h:SimX E s a w S ρ foot) {x:Operand} {t:TypeId} {f:Nat} (hop:o.op= .fieldAddr t x f) {fields:Array Field} {fl:Field} {n:Nat} (h1:P.underlying t=some (.struct fields)) (h2:fields[f]? =some fl)
  (h3:width P fl.type=some n) (hn:n≠0) {u:T} (hu:(∃ id i q,s.eval x=some (.ptr id i q)∧u= .ptr id i (q+fl.offset))∨∃ row,s.eval x=some (.bx false row)∧fl.offset≤row.length∧u= .bx false (row.drop fl.offset)):zAI P o a w S ρ u:=by
 have go:∀ b off,a.eval x= .pointer (some ⟨b,off,none⟩)→∀ w',(execOp a.eval o).run P w'= .ok (.value (.pointer (some ⟨b,off+fl.offset,none⟩))) w':=by
  intro b off he w'
  have:(Instr.fieldAt t (a.eval x) f).run P w'= .ok (.pointer (some ⟨b,off+fl.offset,none⟩)) w':=by
   simp [Instr.fieldAt,underlying,h1,h2,he,Instr.sureAddr,fieldPlace,zBn h3,hn,Addr.add]
   try (by_cases e:fl.offset=0<;>simp [e])
  have:=zA1 this
  simpa [execOp,hop] using this
 rcases hu with ⟨id,i,q,hx,rfl⟩|⟨row,hx,hle,rfl⟩
 ·have hr:=h.eval hx
  simp only [Rep] at hr
  obtain ⟨_,hd,b,off,e1,e2,e3⟩:=hr
  refine ⟨_, ?_,fun w' _=>go _ _ e3 w'⟩
  simp only [Rep]
  exact ⟨trivial,hd,b,off,e1,e2,by rw [Nat.add_assoc]⟩
 ·have hr:=h.eval hx
  simp only [Rep] at hr
  obtain ⟨b,off,arr,el,fr,Fs,e1,e2,e3,e4,e5⟩:=hr
  refine ⟨_, ?_,fun w' _=>go _ _ e1 w'⟩
  simp only [Rep]
  obtain ⟨G,g1,g2⟩:=zCx e4 fl.offset (row.length) hle
  rw [List.take_of_length_le (by simp)] at g1
  refine ⟨b,off+fl.offset,arr,el,fr,G,rfl,e2,by simp;omega,g1,e5.1,e5.2.1,fun c hc=>e5.2.2 c (g2 c hc)⟩
theorem zBv {c:Call} {b:Builtin} (hop:o.op= .call c) (hc:c.callee= .builtin b):∃ cs,execOp a.eval o=builtin b c.argTypes o.type cs (c.args.map a.eval):=by
 refine ⟨c.args.map (fun| .const _=>true|_=>false), ?_⟩
 simp only [execOp,hop,resolve,hc]
 rfl
theorem zQH (h:SimX E s a w S ρ foot) {x:Operand} {c:Call} (hop:o.op= .call c) (hc:c.callee= .builtin .len) (ha:c.args.toList=[x]) {e:TypeId} (ht:(c.argTypes[0]?).bind P.underlying=some (.slice e)) {n:Nat}
  (hx:(∃ id lo,s.eval x=some (.ref id lo n))∨(∃ own k rows,s.eval x=some (.sl own k rows)∧rows.length=n)∨(s.eval x=some (.v (.slice none 0 0))∧n=0)):zAI P o a w S ρ (.v (.int .i64 n)):=by
 have hv:∃ b cap,a.eval x= .slice b n cap:=by
  rcases hx with ⟨id,lo,hx⟩|⟨own,k,rows,hx,rfl⟩|⟨hx,rfl⟩
  ·have hr:=h.eval hx
   simp only [Rep] at hr
   obtain ⟨_,hd,b,cap,_,e,_⟩:=hr
   exact ⟨b,cap,e⟩
  ·have hr:=h.eval hx
   simp only [Rep] at hr
   obtain ⟨b,cap,e,_⟩:=hr
   exact ⟨b,cap,e⟩
  ·have hr:=h.eval hx
   simp only [Rep] at hr
   exact ⟨none,0,hr.1⟩
 obtain ⟨b,cap,hv⟩:=hv
 refine ⟨.int .i64 n,by simp [Rep],fun w' _=> ?_⟩
 have ha':c.args= #[x]:=by rw [←Array.toList_inj];simpa using ha
 obtain ⟨t,ht0,ht1⟩:=Option.bind_eq_some_iff.1 ht
 obtain ⟨cs,hcs⟩:=zBv (a:=a) hop hc
 rw [hcs]
 simp [builtin,Builtin.len_,ht0,ha',underlying,ht1,hv,goInt]
theorem zAbw (h:SimX E s a w S ρ foot) {x:Operand} {c:Call} (hop:o.op= .call c) (hc:c.callee= .builtin .len) (ha:c.args.toList=[x]) (ht:(c.argTypes[0]?).bind P.underlying=some .string) {b:ByteArray}
  (hx:s.eval x=some (.v (.string b))):zAI P o a w S ρ (.v (.int .i64 b.size)):=by
 have hr:=h.eval hx
 simp only [Rep] at hr
 refine ⟨.int .i64 b.size,by simp [Rep],fun w' _=> ?_⟩
 have ha':c.args= #[x]:=by rw [←Array.toList_inj];simpa using ha
 obtain ⟨t,ht0,ht1⟩:=Option.bind_eq_some_iff.1 ht
 obtain ⟨cs,hcs⟩:=zBv (a:=a) hop hc
 rw [hcs]
 simp [builtin,Builtin.len_,ht0,ha',underlying,ht1,hr.1,goInt]
theorem zAfd (h:SimX E s a w S ρ foot) {x:Operand} {n:Nat} (hop:o.op= .extract x n) {l:List T} {t:T} (hx:s.eval x=some (.tup l)) (hn:l[n]? =some t):zAI P o a w S ρ t:=by
 have hr:=h.eval hx
 simp only [Rep] at hr
 obtain ⟨vs,e1,e2,e3⟩:=hr
 obtain ⟨fs,f1,f2,f3⟩:=(zCp _ _ _).1 e3
 have hl:=(List.getElem?_eq_some_iff.1 hn).1
 have h2:fs[n]? =some fs[n]:=List.getElem?_eq_getElem (by omega)
 obtain ⟨y,y1,y2⟩:=f3 n _ _ hn h2
 have e:fs[n]=[]:=List.eq_nil_iff_forall_not_mem.2 fun c hc=>by
  have:c∈fs.flatten:=List.mem_flatten.2 ⟨_,List.getElem_mem _,hc⟩
  rw [←f2] at this
  cases this
 rw [e] at y2
 simp only [Nat.zero_add] at y1
 refine ⟨y,y2,fun w' _=> ?_⟩
 have:(Instr.extract (a.eval x) n).run P w'= .ok y w':=by simp [Instr.extract,e1,y1]
 have:=zA1 this
 simpa [execOp,hop] using this
end
end Go.Am

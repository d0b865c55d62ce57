import Derived.Test.YthfpgpkdankdjaaGreatDoorAmSim
set_option linter.all false
namespace Go.Am
open Go Go.RowKit
inductive I where
 |mv (x:Operand)
 |nc (x:Operand)
 |pick (c a b:Operand)
 |alloc (z:Value)
 |box (x:Operand)
 |build (z:Value) (parts:List (Nat×Nat×Operand))
 |bsl (k:Nat) (z:Value) (len:Nat) (parts:List (Nat×Operand))
 |load (m:Option Nat) (x:Operand)
 |store (m:Nat) (x v:Operand)
 |bin (op:BinOp) (x y:Operand)
 |eqs (neg:Bool) (offs:List (Nat×Nat)) (x y:Operand)
 |eqb (neg:Bool) (x y:Operand)
 |not (x:Operand)
 |neg (x:Operand)
 |cvi (k:IntKind) (x:Operand)
 |cvsb (x:Operand)
 |cvbs (x:Operand)
 |cvss (x:Operand)
 |mkf (f:Nat) (caps:List Operand)
 |mks (k bytes:Nat) (z:Value) (len cap:Operand)
 |sls (k:Nat) (x:Operand) (lo hi mx:Option Operand)
 |slt (x:Operand) (lo hi:Option Operand)
 |fa (off:Nat) (x:Operand)
 |fld (off:Nat) (m:Option Nat) (x:Operand)
 |ia (k:Nat) (x i:Operand)
 |ix (x i:Operand)
 |ext (n:Nat) (x:Operand)
 |lens (x:Operand)
 |lent (x:Operand)
 |app (k bytes:Nat) (zero:Value) (x y:Operand)
 |call (f:Nat) (args:List Operand)
 |callv (x:Operand) (args:List Operand)
 |xcall (f:Nat) (args:List Operand)
 |bmax (args:List Operand)
 |bmin (args:List Operand)
 |isn (neg:Bool) (x:Operand)
 |capo (x:Operand)
 |clr (k:Nat) (zero:Value) (x:Operand)
 |cpy (k:Nat) (x y:Operand)
 |apz (k bytes:Nat) (zero:Value) (x n:Operand)
 |bad (x:Operand)
structure IN where
 dst:Option Nat
 g:Option (Nat×Bool)
 i:I
inductive RT where
 |done
 |rd (x:IN) (r:RT)
 |alt (l:List IN) (x:IN) (r others:RT)
 |none
inductive Stmt where
 |skip
 |ops (l:List IN)
 |dops (l:List IN)
 |rops (l:List (Option (List IN)×IN))
 |tops (t:RT)
 |seq (a b:Stmt)
 |cond (x:Operand) (a b:Stmt)
 |loop (b:Stmt)
 |block (id:Nat) (b:Stmt)
 |exit (id:Nat)
 |ret
def zGP (P:Program) (t:TypeId):Bool:=
 match P.underlying t with
 |some (.struct _)=>true
 |some (.array _ _)=>true
 |_=>false
def width (P:Program) (t:TypeId):Option Nat:=(P.info? t).map (·.size)
def wide (P:Program) (t:TypeId):Option (Option Nat):=
 match P.underlying t,width P t with
 |some _,some n=>if n=0 then none else some (if zGP P t then some n else none)
 |_,_=>none
def zeroOf (P:Program) (t:TypeId):Option Value:=(P.info? t).bind (·.zero)
def partsOf (P:Program) (fields:Array Field):List (Nat×Operand)→Option (List (Nat×Nat×Operand))
 |[]=>some []
 |(i,x)::r=>
  match fields[i]? with
  |some f=>match width P f.type,partsOf P fields r with
   |some n,some l=>some ((f.offset,n,x)::l)
   |_,_=>none
  |none=>none
def isStr (P:Program) (t:TypeId):Bool:=match P.underlying t with|some .string=>true|_=>false
def zX7 (P:Program) (t:TypeId):Bool:=match P.underlying t with|some (.int .u8)=>true|_=>false
def isInt (P:Program) (t:TypeId):Bool:=match P.underlying t with|some (.int _)=>true|_=>false
def zA9 (P:Program) (t:TypeId):Option TypeId:=match P.underlying t with|some (.slice e)=>some e|_=>none
def scalar (P:Program) (t:TypeId):Option Nat:=
 match P.underlying t with
 |some .bool=>some 1
 |some (.int _)=>some 0
 |some .string=>some 2
 |_=>none
def zGQ (P:Program):List Field→Option (List (Nat×Nat))
 |[]=>some []
 |f::r=>
  if f.name != "_" then
   match scalar P f.type,zGQ P r with
   |some c,some l=>some ((f.offset,c)::l)
   |_,_=>none
  else none
def zQB (P:Program) (t:TypeId):Option (List (Nat×Nat)):=
 match P.underlying t with
 |some (.struct fields)=>if P.stoodInHeld t||P.eqGuardType P.depth t then none else zGQ P fields.toList
 |_=>none
def zMr:Operand→Bool
 | .const (.slice none 0 0)=>true
 |_=>false
def zBR (P:Program) (o:Oper):Option I:=
 match o.op with
 | .move x=>some (.mv x)
 | .assign x=>some (.mv x)
 | .nilCheck x=>some (.nc x)
 | .pick c a b=>some (.pick c a b)
 | .alloc e=>(zeroOf P e).map .alloc
 | .box _ x=>some (.box x)
 | .build t parts=>
  match P.underlying t,zeroOf P t with
  |some (.struct fields),some z=>if fields.all (fun f=>(width P f.type).isSome) then (partsOf P fields parts.toList).map (.build z) else none
  |_,_=>none
 | .buildSlice t len parts=>
  match zA9 P t with
  |some e=>match width P e,zeroOf P e with
   |some k,some z=>if len*k>2^24 then none else some (.bsl k z len parts.toList)
   |_,_=>none
  |none=>none
 | .load t x=>(wide P t).map fun m=> .load m x
 | .store t x v=>(width P t).map fun m=> .store m x v
 | .binOp op t x y _=>
  if zGP P t then
   match op,zQB P t with
   | .eql,some l=>some (.eqs false l x y)
   | .neq,some l=>some (.eqs true l x y)
   |_,_=>none
  else match op,P.underlying t with
   | .eql,some .bool=>some (.eqb false x y)
   | .neq,some .bool=>some (.eqb true x y)
   | .eql,some (.slice _)=>if zMr y then some (.isn false x) else none
   | .neq,some (.slice _)=>if zMr y then some (.isn true x) else none
   |_,_=>some (.bin op x y)
 | .unOp .not _ x=>some (.not x)
 | .unOp .neg _ x=>some (.neg x)
 | .convert src dst x=>
  match P.underlying src,P.underlying dst with
  |some (.int _),some (.int k)=>some (.cvi k x)
  |some .string,some (.slice e)=>if zX7 P e then some (.cvsb x) else none
  |some (.slice e),some .string=>if zX7 P e then some (.cvbs x) else none
  |some .string,some .string=>some (.cvss x)
  |_,_=>none
 | .makeFunc (.func f) first caps=>if first.isEmpty then some (.mkf f caps.toList) else none
 | .makeSlice t l c=>
  match zA9 P t with
  |some e=>match P.info? e,zeroOf P e with
   |some i,some z=>some (.mks i.size i.bytes z l c)
   |_,_=>none
  |none=>none
 | .slice t x lo hi mx=>
  match P.underlying t with
  |some .string=>if mx.isSome then none else some (.slt x lo hi)
  |some (.slice e)=>(width P e).map fun k=> .sls k x lo hi mx
  |_=>none
 | .fieldAddr t x f=>
  match P.underlying t with
  |some (.struct fields)=>match fields[f]? with
   |some fl=>match width P fl.type with
    |some n=>if n=0 then none else some (.fa fl.offset x)
    |none=>none
   |none=>none
  |_=>none
 | .field t x f=>
  match P.underlying t with
  |some (.struct fields)=>match fields[f]? with
   |some fl=>(wide P fl.type).map fun m=> .fld fl.offset m x
   |none=>none
  |_=>none
 | .indexAddr t x i=>
  match zA9 P t with
  |some e=>(width P e).map fun k=> .ia k x i
  |none=>none
 | .index t x i=>if isStr P t then some (.ix x i) else none
 | .extract x n=>some (.ext n x)
 | .call c=>
  match c.callee with
  | .value (.func f)=>
   match P.funcs[f]? with
   |some fn=>if fn.body.isSome&&fn.name != "runtime.NumGoroutine" then some (.call f c.args.toList) else some (.xcall f c.args.toList)
   |none=>none
  | .value (.tmp t)=>some (.callv (.tmp t) c.args.toList)
  | .builtin .len=>
   match c.args.toList,(c.argTypes[0]?).bind P.underlying with
   |[x],some .string=>some (.lent x)
   |[x],some (.slice _)=>some (.lens x)
   |_,_=>none
  | .builtin .append=>
   match c.args.toList,c.argTypes.toList with
   |[x,y],[sT,yT]=>
    match zA9 P sT,(match P.underlying yT with|some (.slice _)=>true|some .string=>true|_=>false) with
    |some e,true=>match P.info? e,zeroOf P e with
     |some i,some z=>if z.cells.size=i.size then some (.app i.size i.bytes z x y) else none
     |_,_=>none
    |some e,false=>match isInt P yT,P.info? e,zeroOf P e with
     |true,some i,some z=>if z.cells.size=i.size then some (.apz i.size i.bytes z x y) else none
     |_,_,_=>none
    |none,_=>none
   |_,_=>none
  | .builtin .cap=>
   match c.args.toList,(c.argTypes[0]?).bind P.underlying with
   |[x],some (.slice _)=>some (.capo x)
   |_,_=>none
  | .builtin .copy=>
   match c.args.toList,(c.argTypes[0]?).bind (zA9 P) with
   |[x,y],some e=>(width P e).map fun k=> .cpy k x y
   |_,_=>none
  | .builtin .clear=>
   match c.args.toList,(c.argTypes[0]?).bind (zA9 P) with
   |[x],some e=>match P.info? e,zeroOf P e with
    |some i,some z=>if z.cells.size=i.size then some (.clr i.size z x) else none
    |_,_=>none
   |_,_=>none
  | .builtin .max=>some (.bmax c.args.toList)
  | .builtin .min=>some (.bmin c.args.toList)
  |_=>none
 | .panic x=>some (.bad x)
 | .makeInterface _ x=>some (.bad x)
 |_=>none
def zFM (ops:Array Oper):Option (Nat×Bool)→Option (Option (Nat×Bool))
 |none=>some none
 |some (j,b)=>
  match ops[j]? with
  |some o=>match o.dst with
   |some t=>some (some (t,b))
   |none=>none
  |none=>none
def zUs (nt:Nat):Option Nat→Bool
 |none=>true
 |some d=>Nat.blt d nt
def zC5 (P:Program) (nt:Nat) (ops:Array Oper) (o:Oper):Option IN:=
 match zBR P o,zFM ops o.guard with
 |some i,some g=>if zUs nt o.dst then some ⟨o.dst,g,i⟩ else none
 |_,_=>none
def zFN (P:Program) (nt:Nat) (ops:Array Oper):List Oper→Option (List IN)
 |[]=>some []
 |o::r=>
  match zC5 P nt ops o,zFN P nt ops r with
  |some i,some l=>some (i::l)
  |_,_=>none
def zFl (md:Region.Mode) (ops:Array Oper):List (Bool×Nat)→Array Bool→Bool
 |[],listed=>(Region.ready md ops listed).isEmpty
 |(true,i)::r,listed=>Region.ready md ops listed==[i]&&zFl md ops r (listed.setIfInBounds i true)
 |(false,i)::r,listed=>(Region.ready md ops listed).contains i&&Region.free md ops listed i&&zFl md ops r (listed.setIfInBounds i true)
def zWf:I→Bool
 | .call _ _=>false
 | .callv _ _=>false
 | .xcall _ _=>false
 | .alloc _=>false
 | .box _=>false
 | .bsl _ _ _ _=>false
 | .mks _ _ _ _ _=>false
 | .app _ _ _ _ _=>false
 | .store _ _ _=>false
 | .isn _ _=>false
 | .capo _=>false
 | .clr _ _ _=>false
 | .cpy _ _ _=>false
 | .apz _ _ _ _ _=>false
 | .bad _=>false
 |_=>true
def ordB (md:Region.Mode) (ops:Array Oper) (π:List (Bool×Nat)):Bool:=Region.noSelect ops&&π.length==ops.size&&zFl md ops π (Array.replicate ops.size false)
def zUt (ops:Array Oper) (st:Nat→Bool):Nat→Array Bool→List (Bool×Nat)
 |0,_=>[]
 |f+1,listed=>
  match (Region.ready .any ops listed).find? st with
  |some i=>(false,i)::zUt ops st f (listed.setIfInBounds i true)
  |none=>
   match Region.ready .any ops listed with
   |i::_=>(true,i)::zUt ops st f (listed.setIfInBounds i true)
   |[]=>[]
def I.opnds:I→List Operand
 | .mv x=>[x]
 | .nc x=>[x]
 | .pick c a b=>[c,a,b]
 | .alloc _=>[]
 | .box x=>[x]
 | .build _ parts=>parts.map (·.2.2)
 | .bsl _ _ _ parts=>parts.map (·.2)
 | .load _ x=>[x]
 | .store _ x v=>[x,v]
 | .bin _ x y=>[x,y]
 | .eqs _ _ x y=>[x,y]
 | .eqb _ x y=>[x,y]
 | .not x=>[x]
 | .neg x=>[x]
 | .cvi _ x=>[x]
 | .cvsb x=>[x]
 | .cvbs x=>[x]
 | .cvss x=>[x]
 | .mkf _ caps=>caps
 | .mks _ _ _ x y=>[x,y]
 | .sls _ x lo hi mx=>x::(lo.toList++(hi.toList++mx.toList))
 | .slt x lo hi=>x::(lo.toList++hi.toList)
 | .fa _ x=>[x]
 | .fld _ _ x=>[x]
 | .ia _ x i=>[x,i]
 | .ix x i=>[x,i]
 | .ext _ x=>[x]
 | .lens x=>[x]
 | .lent x=>[x]
 | .app _ _ _ x y=>[x,y]
 | .call _ args=>args
 | .callv x args=>x::args
 | .xcall _ args=>args
 | .bmax args=>args
 | .bmin args=>args
 | .isn _ x=>[x]
 | .capo x=>[x]
 | .clr _ _ x=>[x]
 | .cpy _ x y=>[x,y]
 | .apz _ _ _ x y=>[x,y]
 | .bad x=>[x]
def zZS (d:Nat):Operand→Bool
 | .tmp t=>Nat.beq t d
 |_=>false
def IN.uses (x:IN) (d:Nat):Bool:=x.i.opnds.any (zZS d)||(match x.g with|some (t,_)=>Nat.beq t d|none=>false)
def okQ (x q:IN):Bool:=match x.dst with
 |none=>true
 |some d=> !q.uses d&&(match q.dst with|some d'=> !Nat.beq d' d|none=>true)
def zIh (x:IN):Bool:=match x.dst with
 |none=>true
 |some d=> !x.uses d
def zQm (tab:List (Nat×Nat)) (j:Nat):Nat:=match lk j tab with|some m=>m|none=>0
def zBS (md:Region.Mode) (tab:List (Nat×Nat)) (l:List Edge):Nat:=
 l.foldl (fun m e=>bif Region.binds md e then m |||(2^e.on |||zQm tab e.on) else m) 0
def zCe (m:Nat) (pend:List (Nat×IN)):List (Nat×IN):=pend.filter fun q=> !m.testBit q.1
def zQC (b:Bool) (i m:Nat) (x:IN) (pend:List (Nat×IN)) (k:List (Nat×IN)→Option (List (Option (List IN)×IN))):Option (List (Option (List IN)×IN)):=
 match b with
 |true=>(k (zCe m pend)).map ((some ((zCe m pend).map (·.2)),x)::·)
 |false=>if zIh x&&pend.all (fun q=>okQ x q.2) then (k ((i,x)::pend)).map ((none,x)::·) else none
def zMs (P:Program) (nt:Nat) (md:Region.Mode) (ops:Array Oper):List (Bool×Nat)→List (Nat×Nat)→List (Nat×IN)→Option (List (Option (List IN)×IN))
 |[],_,_=>some []
 |(b,i)::r,tab,pend=>
  match ops[i]? with
  |some o=>
   match zC5 P nt ops o with
   |some x=>zQC b i (zBS md tab o.after.toList) x pend (fun p=>zMs P nt md ops r ((i,zBS md tab o.after.toList)::tab) p)
   |none=>none
  |none=>none
def zS6 (P:Program) (ops:Array Oper) (i:Nat):Bool:=
 match ops[i]? with
 |some o=>match zBR P o with
  |some x=>zWf x
  |none=>false
 |none=>false
def zUu (P:Program) (nt:Nat) (ops:Array Oper):Option (List (Option (List IN)×IN)):=
 (fun π=>if ordB .any ops π&&P.follows .mixedOrders then zMs P nt .any ops π [] [] else none) (zUt ops (zS6 P ops) ops.size (Array.replicate ops.size false))
def zGr (P:Program) (nt:Nat) (md:Region.Mode) (ops:Array Oper):Nat→Array Bool→List (Nat×Nat)→List (Nat×IN)→Option RT
 |0,listed,_,_=>if (Region.ready md ops listed).isEmpty then some .done else none
 |f+1,listed,tab,pend=>
  match (Region.ready md ops listed).find? (zS6 P ops) with
  |some i=>
   match ops[i]? with
   |some o=>
    match zC5 P nt ops o with
    |some x=>
     if Region.free md ops listed i&&zIh x&&pend.all (fun q=>okQ x q.2) then
      (zGr P nt md ops f (listed.setIfInBounds i true) ((i,zBS md tab o.after.toList)::tab) ((i,x)::pend)).map (.rd x)
     else if Region.ready md ops listed==[i] then
      (zGr P nt md ops f (listed.setIfInBounds i true) ((i,zBS md tab o.after.toList)::tab) (zCe (zBS md tab o.after.toList) pend)).map fun r=> .alt ((zCe (zBS md tab o.after.toList) pend).map (·.2)) x r .none
     else none
    |none=>none
   |none=>none
  |none=>
   if (Region.ready md ops listed).isEmpty then some .done else
   (Region.ready md ops listed).foldr (fun i (acc:Option RT)=>
    match acc,ops[i]? with
    |some others,some o=>
     match zC5 P nt ops o with
     |some x=>(zGr P nt md ops f (listed.setIfInBounds i true) ((i,zBS md tab o.after.toList)::tab) (zCe (zBS md tab o.after.toList) pend)).map fun r=> .alt ((zCe (zBS md tab o.after.toList) pend).map (·.2)) x r others
     |none=>none
    |_,_=>none) (some .none)
def zQD (P:Program) (nt:Nat) (ops:Array Oper):Option RT:=
 if Region.noSelect ops&&P.follows .mixedOrders then zGr P nt .any ops ops.size (Array.replicate ops.size false) [] [] else none
def orT (r:Option Stmt) (t:Option RT):Option Stmt:=match r with
 |some x=>some x
 |none=>t.map .tops
def zNM (P:Program) (nt:Nat) (ops:Array Oper) (draw:Bool):Option Stmt:=
 match zFN P nt ops ops.toList with
 |some l=>
  if draw then
   (if (l.all fun x=>zWf x.i)&&Region.lexB .any ops&&P.follows .mixedOrders then some (.dops l)
   else orT ((zUu P nt ops).map .rops) (zQD P nt ops))
  else some (.ops l)
 |none=>none
theorem zAV {P:Program} {nt:Nat} {ops:Array Oper} {draw:Bool} {st:Stmt} (h:zNM P nt ops draw=some st):
  (∃ l,st= .ops l∧draw=false∧zFN P nt ops ops.toList=some l)∨
  (∃ l,st= .dops l∧draw=true∧zFN P nt ops ops.toList=some l∧Region.lexB .any ops=true∧P.follows .mixedOrders=true)∨
  (∃ l,st= .rops l∧draw=true∧zUu P nt ops=some l)∨(∃ t,st= .tops t∧draw=true∧zQD P nt ops=some t):=by
 unfold zNM at h
 split at h
 ·rename_i l hl
  split at h
  ·rename_i hd
   split at h
   ·rename_i hB
    simp only [Bool.and_eq_true] at hB
    simp only [Option.some.injEq] at h
    exact .inr (.inl ⟨l,h.symm,hd,hl,hB.1.2,hB.2⟩)
   ·unfold orT at h
    split at h
    ·rename_i x hx
     simp only [Option.map_eq_some_iff] at hx
     obtain ⟨l',h1,h2⟩:=hx
     simp only [Option.some.injEq] at h
     exact .inr (.inr (.inl ⟨l',(h2.trans h).symm,hd,h1⟩))
    ·simp only [Option.map_eq_some_iff] at h
     obtain ⟨t,h1,h2⟩:=h
     exact .inr (.inr (.inr ⟨t,h2.symm,hd,h1⟩))
  ·rename_i hd
   simp only [Option.some.injEq] at h
   exact .inl ⟨l,h.symm,by simpa using hd,hl⟩
 ·cases h
def comp (P:Program) (nt:Nat):Code→Option Stmt
 | .skip=>some .skip
 | .region _ ops draw=>zNM P nt ops draw
 | .seq a b=>
  match comp P nt a,comp P nt b with
  |some x,some y=>some (.seq x y)
  |_,_=>none
 | .cond c a b=>
  match comp P nt a,comp P nt b with
  |some x,some y=>some (.cond c x y)
  |_,_=>none
 | .loop b=>(comp P nt b).map .loop
 | .block id b=>(comp P nt b).map (.block id)
 | .exit id=>some (.exit id)
 | .ret=>some .ret
 |_=>none
def zAn (P:Program) (E:Env) (i:IN) (K:St→Prop) (s:St):Prop:=
 ∀ o:Oper,zBR P o=some i.i→o.dst=i.dst→(∀ d,i.dst=some d→d<E.nt)→∀ a w,Sim E s a w→
  ∀ Q,o.upon P a (fun a' w'=>∃ s',K s'∧Sim E s' a' w') Q ((execOp a.eval o).run P w)
def zEL (P:Program) (E:Env):List IN→(St→Prop)→St→Prop
 |[],K,s=>K s
 |i::r,K,s=>
  match i.g with
  |none=>zAn P E i (zEL P E r K) s
  |some (t,b)=>(∃ c,lk t s.slots=some (.v (.bool c))∧(c=b→zAn P E i (zEL P E r K) s)∧(c≠b→zEL P E r K (s.put i.dst (.tup []))))∨(lk t s.slots=some (.tup [])∧zEL P E r K (s.put i.dst (.tup [])))
def Ok (P:Program) (E:Env) (st:Stmt) (Q:Exit→St→Prop) (s:St):Prop:=
 ∀ c,comp P E.nt c=some st→∀ a w,Sim E s a w→c.wp P (fun e a' w'=>∃ s',Q e s'∧Sim E s' a' w') a w
def zDs (P:Program) (E:Env) (st:Stmt) (Q:Exit→St→Prop) (s:St):Prop:=
 ∀ c,comp P E.nt c=some st→∀ a w,Sim E s a w→∀ (b:Frame) (k:List Item) (cs:List Frame),
  ∃ e a' w',(∃ s',Q e s'∧Sim E s' a' w')∧Arrives P (lone (b.at a (.code c:: .inLoop c::k)) cs w) b k cs e a' w'
def Ent (E:Env) (s s':St):Prop:=∀ a w,Sim E s a w→Sim E s' a w
theorem zF1 {P:Program} {o:Oper} {a:Act} {K K':Act→World→Prop} {Q:Exit→Act→World→Prop} (hK:∀ a w,K a w→K' a w) {r:Result Next}
  (h:∀ Q,o.upon P a K Q r):o.upon P a K' Q r:=by
 have h:=h Q
 cases r with
 |ok n w'=>
  cases n<;>simp only [Oper.upon] at h ⊢<;>
   first
    |exact hK _ _ h
    |exact Calls.mono h (fun e w'' he=>by cases e<;>first|exact hK _ _ he|exact he)
    |exact Rows.mono h (fun _ _ he=>hK _ _ he)
    |exact h
 |halt x w'=>cases x<;>simp only [Oper.upon] at h ⊢<;>exact h
section
variable {P:Program} {E:Env}
theorem zQE {i:IN} {K K':St→Prop} {s:St} (hK:∀ s,K s→K' s) (h:zAn P E i K s):zAn P E i K' s:=
 fun o h1 h2 h3 a w hs _=>zF1 (fun _ _ ⟨s',hk,hs'⟩=>⟨s',hK _ hk,hs'⟩) (h o h1 h2 h3 a w hs)
theorem zLh {i:IN} {K:St→Prop} {s s':St} (he:Ent E s s') (h:zAn P E i K s'):zAn P E i K s:=
 fun o h1 h2 h3 a w hs=>h o h1 h2 h3 a w (he a w hs)
theorem zUv {nt:Nat} {d:Option Nat} (h:zUs nt d=true):∀ n,d=some n→n<nt:=by
 rintro n rfl
 simpa [zUs,Nat.blt_eq] using h
theorem zGR {s:St} {a:Act} {w:World} (h:Sim E s a w) {t:Nat} {c:Bool} (hl:lk t s.slots=some (.v (.bool c))):a.tmps[t]? =some (.bool c):=by
 obtain ⟨S,ρ,foot,hx⟩:=h
 have:=hx.slots t _ hl
 simp only [Rep,Array.getD_eq_getD_getElem?] at this
 cases h2:a.tmps[t]? with
 |none=>rw [h2] at this;simp [undef] at this
 |some y=>rw [h2] at this;simp at this;rw [this]
theorem zDw {nt:Nat} {ops:Array Oper} {o:Oper} {i:IN} (h:zC5 P nt ops o=some i):
  zBR P o=some i.i∧o.dst=i.dst∧(∀ d,i.dst=some d→d<nt)∧zFM ops o.guard=some i.g:=by
 unfold zC5 at h
 split at h
 ·rename_i i' g h1 h2
  split at h
  ·rename_i h3
   simp only [Option.some.injEq] at h
   subst h
   exact ⟨h1,rfl,zUv h3,h2⟩
  ·cases h
 ·cases h
theorem zEe {ops:Array Oper} {o:Oper} {g:Option (Nat×Bool)} {tmps:Array Value} (h:zFM ops o.guard=some g) (hg:g=none):Region.wanted o (yielded ops tmps)=true:=by
 subst hg
 unfold Region.wanted
 cases ho:o.guard with
 |none=>rfl
 |some p=>
  obtain ⟨j,b⟩:=p
  rw [ho] at h
  simp only [zFM] at h
  split at h
  ·split at h<;>simp at h
  ·cases h
theorem zEf {ops:Array Oper} {o:Oper} {g:Option (Nat×Bool)} {tmps:Array Value} {t:Nat} {b c:Bool} (h:zFM ops o.guard=some g) (hg:g=some (t,b)) (ht:tmps[t]? =some (.bool c)):
  Region.wanted o (yielded ops tmps)=(c==b):=by
 subst hg
 unfold Region.wanted
 cases ho:o.guard with
 |none=>rw [ho] at h;simp [zFM] at h
 |some p=>
  obtain ⟨j,b'⟩:=p
  rw [ho] at h
  simp only [zFM] at h
  split at h
  ·rename_i o' hj
   split at h
   ·rename_i t' hd
    simp at h
    obtain ⟨rfl,rfl⟩:=h
    simp [yielded,hj,hd,ht]
   ·cases h
  ·cases h
theorem zMt {nt:Nat} {ops:Array Oper}:∀ {l:List Oper} {r:List IN},zFN P nt ops l=some r→r.length=l.length∧∀ (j:Nat) (i:IN),r[j]? =some i→∃ o,l[j]? =some o∧zC5 P nt ops o=some i
 |[],r,h=>by simp only [zFN,Option.some.injEq] at h;subst h;simp
 |o::l,r,h=>by
  simp only [zFN] at h
  split at h
  ·rename_i i l' h1 h2
   simp only [Option.some.injEq] at h
   subst h
   obtain ⟨e1,e2⟩:=zMt h2
   refine ⟨by simp [e1],fun j i' hj=> ?_⟩
   cases j with
   |zero=>simp at hj;subst hj;exact ⟨o,rfl,h1⟩
   |succ j=>exact e2 j i' (by simpa using hj)
  ·cases h
theorem zDK {ops:Array Oper} {o:Oper} {g:Option (Nat×Bool)} {tmps:Array Value} {t:Nat} {b:Bool} (h:zFM ops o.guard=some g) (hg:g=some (t,b)) (ht:tmps.getD t undef=undef):
  Region.wanted o (yielded ops tmps)=false:=by
 subst hg
 unfold Region.wanted
 cases ho:o.guard with
 |none=>rw [ho] at h;simp [zFM] at h
 |some p=>
  obtain ⟨j,b'⟩:=p
  rw [ho] at h
  simp only [zFM] at h
  split at h
  ·rename_i o' hj
   split at h
   ·rename_i t' hd
    simp at h
    obtain ⟨rfl,rfl⟩:=h
    rw [Array.getD_eq_getD_getElem?] at ht
    simp only [yielded,hj,Option.bind_some,hd]
    cases hx:tmps[t']? with
    |none=>simp
    |some y=>rw [hx] at ht;simp only [Option.getD_some] at ht;subst ht;simp [undef]
   ·cases h
  ·cases h
theorem zF2 {s:St} {a:Act} {w:World} {t:Nat} (hs:Sim E s a w) (hl:lk t s.slots=some (.tup [])):a.tmps.getD t undef=undef:=by
 obtain ⟨S,ρ,foot,h⟩:=hs
 have h2:=h.slots t _ hl
 simp only [Rep] at h2
 obtain ⟨vs,h1,h3,_⟩:=h2
 have:vs= #[]:=Array.eq_empty_of_size_eq_zero (by simpa using h3)
 rw [h1,this]
 rfl
theorem zDt {s:St} {a:Act} {w:World} {d:Option Nat} (hs:Sim E s a w) (h3:∀ n,d=some n→n<E.nt):Sim E (s.put d (.tup [])) (a.put d undef) w:=by
 obtain ⟨S,ρ,foot,h⟩:=hs
 exact ⟨S,ρ,foot,h.put h3 (by simp only [Rep];exact ⟨#[],rfl,rfl,by simp [RepRow]⟩)⟩
theorem zIF {ops:Array Oper} {K:St→Prop} {Q:Exit→Act→World→Prop} (hQ:∀ s a w,K s→Sim E s a w→Q .normal a w):
  ∀ (l:List IN) (k:Nat) (s:St) (a:Act) (w:World),(∀ (j:Nat) (i:IN),l[j]? =some i→∃ o,ops[k+j]? =some o∧zC5 P E.nt ops o=some i)→
   zEL P E l K s→Sim E s a w→wpOps P ops Q (List.range' k l.length) a w
 |[],_,s,a,w,_,h,hs=>hQ s a w h hs
 |i::r,k,s,a,w,hc,h,hs=>by
  obtain ⟨o,ho,hi⟩:=hc 0 i rfl
  simp only [Nat.add_zero] at ho
  obtain ⟨h1,h2,h3,h4⟩:=zDw hi
  have hr:∀ (j:Nat) (i:IN),r[j]? =some i→∃ o,ops[k+1+j]? =some o∧zC5 P E.nt ops o=some i:=fun j i hj=>by
   have:=hc (j+1) i (by simpa using hj)
   rwa [show k+(j+1)=k+1+j from by omega] at this
  have go:zAn P E i (zEL P E r K) s→Region.wanted o (yielded ops a.tmps)=true→wpOps P ops Q (List.range' k (i::r).length) a w:=by
   intro hok hw
   simp only [List.length_cons,List.range'_succ,wpOps,ho,hw,if_true]
   exact .inl (zF1 (fun a' w' ⟨s',hk,hs'⟩=>zIF hQ r (k+1) s' a' w' hr hk hs') (hok o h1 h2 h3 a w hs))
  simp only [zEL] at h
  split at h
  ·rename_i hg
   exact go h (zEe h4 hg)
  ·rename_i t b hg
   rcases h with ⟨c,hl,hy,hn⟩|⟨hl,hn⟩
   ·have hw:=zEf h4 hg (zGR hs hl)
    by_cases e:c=b
    ·exact go (hy e) (by rw [hw];simp [e])
    ·simp only [List.length_cons,List.range'_succ,wpOps,ho]
     rw [if_neg (by rw [hw];simp [e])]
     rw [h2]
     exact zIF hQ r (k+1) _ _ w hr (hn e) (zDt hs h3)
   ·simp only [List.length_cons,List.range'_succ,wpOps,ho]
    rw [if_neg (by rw [zDK h4 hg (zF2 hs hl)];simp)]
    rw [h2]
    exact zIF hQ r (k+1) _ _ w hr hn (zDt hs h3)
theorem zQF {st:Stmt} {Q:Exit→St→Prop} {s s':St} (he:Ent E s s') (h:Ok P E st Q s'):Ok P E st Q s:=
 fun c hc a w hs=>h c hc a w (he a w hs)
theorem zIG {st:Stmt} {Q:Exit→St→Prop} {s s':St} (he:Ent E s s') (h:zDs P E st Q s'):zDs P E st Q s:=
 fun c hc a w hs=>h c hc a w (he a w hs)
theorem zGG {st:Stmt} {Q Q':Exit→St→Prop} {s:St} (hQ:∀ e s,Q e s→Q' e s) (h:Ok P E st Q s):Ok P E st Q' s:=
 fun c hc a w hs=>wp_mono (h c hc a w hs) fun _ _ _ ⟨s',hq,hs'⟩=>⟨s',hQ _ _ hq,hs'⟩
theorem zAaj {Q:Exit→St→Prop} {s:St} (h:Q .normal s):Ok P E .skip Q s:=by
 intro c hc a w hs
 cases c<;>simp only [comp] at hc
 case skip=>exact wp_skip ⟨s,h,hs⟩
 all_goals (first|(rcases zAV hc with ⟨_,h',_⟩|⟨_,h',_⟩|⟨_,h',_⟩|⟨_,h',_⟩<;>cases h';done)|(split at hc<;>first|cases hc|(split at hc<;>first|cases hc|(split at hc<;>cases hc)))|(cases hc)|(simp at hc))
theorem zAbn {Q:Exit→St→Prop} {s:St} (h:Q .ret s):Ok P E .ret Q s:=by
 intro c hc a w hs
 cases c<;>simp only [comp] at hc
 case ret=>exact wp_ret ⟨s,h,hs⟩
 all_goals (first|(rcases zAV hc with ⟨_,h',_⟩|⟨_,h',_⟩|⟨_,h',_⟩|⟨_,h',_⟩<;>cases h';done)|(split at hc<;>first|cases hc|(split at hc<;>first|cases hc|(split at hc<;>cases hc)))|(cases hc)|(simp at hc))
theorem zAak {Q:Exit→St→Prop} {s:St} {id:Nat} (h:Q (.exit id) s):Ok P E (.exit id) Q s:=by
 intro c hc a w hs
 cases c<;>simp only [comp] at hc
 case exit id'=>simp at hc;subst hc;exact wp_exit ⟨s,h,hs⟩
 all_goals (first|(rcases zAV hc with ⟨_,h',_⟩|⟨_,h',_⟩|⟨_,h',_⟩|⟨_,h',_⟩<;>cases h';done)|(split at hc<;>first|cases hc|(split at hc<;>first|cases hc|(split at hc<;>cases hc)))|(cases hc)|(simp at hc))
def zAe6 (P:Program) (E:Env) (b:Stmt) (Q:Exit→St→Prop):Exit→St→Prop
 | .normal,s=>Ok P E b Q s
 |e,s=>Q e s
theorem zAbo {Q:Exit→St→Prop} {s:St} {x y:Stmt} (h:Ok P E x (zAe6 P E y Q) s):Ok P E (.seq x y) Q s:=by
 intro c hc a w hs
 cases c<;>simp only [comp] at hc
 case seq c1 c2=>
  split at hc
  ·rename_i x' y' h1 h2
   simp at hc
   obtain ⟨rfl,rfl⟩:=hc
   refine wp_seq (wp_mono (h c1 h1 a w hs) ?_)
   rintro e a' w' ⟨s',hq,hs'⟩
   cases e<;>first|exact hq c2 h2 a' w' hs'|exact ⟨s',hq,hs'⟩
  ·cases hc
 all_goals (first|(rcases zAV hc with ⟨_,h',_⟩|⟨_,h',_⟩|⟨_,h',_⟩|⟨_,h',_⟩<;>cases h';done)|(split at hc<;>first|cases hc|(split at hc<;>first|cases hc|(split at hc<;>cases hc)))|(cases hc)|(simp at hc))
theorem zAal {Q:Exit→St→Prop} {s:St} {x:Operand} {p q:Stmt} {t:Bool} (hx:s.eval x=some (.v (.bool t))) (hp:t=true→Ok P E p Q s) (hq:t=false→Ok P E q Q s):
  Ok P E (.cond x p q) Q s:=by
 intro c hc a w hs
 cases c<;>simp only [comp] at hc
 case cond x' c1 c2=>
  split at hc
  ·rename_i x'' y' h1 h2
   simp at hc
   obtain ⟨rfl,rfl,rfl⟩:=hc
   have he:a.eval x'= .bool t:=by
    obtain ⟨S,ρ,foot,hx'⟩:=hs
    have:=hx'.eval hx
    simp only [Rep] at this
    exact this.1
   exact wp_cond_split he (fun e=>hp e c1 h1 a w hs) (fun e=>hq e c2 h2 a w hs)
  ·cases hc
 all_goals (first|(rcases zAV hc with ⟨_,h',_⟩|⟨_,h',_⟩|⟨_,h',_⟩|⟨_,h',_⟩<;>cases h';done)|(split at hc<;>first|cases hc|(split at hc<;>first|cases hc|(split at hc<;>cases hc)))|(cases hc)|(simp at hc))
def zEM (id:Nat) (Q:Exit→St→Prop):Exit→St→Prop
 | .exit id',s=>if id'=id then Q .normal s else Q (.exit id') s
 |e,s=>Q e s
theorem zX8 {Q:Exit→St→Prop} {s:St} {id:Nat} {b:Stmt} (h:Ok P E b (zEM id Q) s):Ok P E (.block id b) Q s:=by
 intro c hc a w hs
 cases c<;>simp only [comp] at hc
 case block id' c1=>
  cases h1:comp P E.nt c1 with
  |none=>rw [h1] at hc;simp at hc
  |some x=>
   rw [h1] at hc;simp at hc
   obtain ⟨rfl,rfl⟩:=hc
   refine wp_block (wp_mono (h c1 h1 a w hs) ?_)
   rintro e a' w' ⟨s',hq,hs'⟩
   cases e<;>try exact ⟨s',hq,hs'⟩
   rename_i id2
   simp only [Exit.inBlock]
   simp only [zEM] at hq
   split<;>rename_i e<;>simp only [e,if_true,if_false] at hq<;>exact ⟨s',hq,hs'⟩
 all_goals (first|(rcases zAV hc with ⟨_,h',_⟩|⟨_,h',_⟩|⟨_,h',_⟩|⟨_,h',_⟩<;>cases h';done)|(split at hc<;>first|cases hc|(split at hc<;>first|cases hc|(split at hc<;>cases hc)))|(cases hc)|(simp at hc))
theorem zAbp {Q:Exit→St→Prop} {s:St} {l:List IN} (h:zEL P E l (Q .normal) s):Ok P E (.ops l) Q s:=by
 intro c hc a w hs
 cases c<;>simp only [comp] at hc
 case region id ops draw=>
  rcases zAV hc with ⟨l',h',hd',hl⟩|⟨l',h',_⟩|⟨l',h',_⟩|⟨l',h',_⟩
  ·cases h'
   subst hd'
   obtain ⟨e1,e2⟩:=zMt hl
   refine wp_region ?_
   have:=zIF (Q:=fun e a' w'=>∃ s',Q e s'∧Sim E s' a' w') (fun s a w hk hs=>⟨s,hk,hs⟩) l 0 s a w (fun j i hj=>by
    obtain ⟨o,ho,hi⟩:=e2 j i hj
    exact ⟨o,by simpa using ho,hi⟩) h hs
   rw [e1] at this
   simpa [List.range_eq_range'] using this
  ·cases h'
  ·cases h'
  ·cases h'
 all_goals (first|(rcases zAV hc with ⟨_,h',_⟩|⟨_,h',_⟩|⟨_,h',_⟩|⟨_,h',_⟩<;>cases h';done)|(split at hc<;>first|cases hc|(split at hc<;>first|cases hc|(split at hc<;>cases hc)))|(cases hc)|(simp at hc))
def zAbq (P:Program) (E:Env) (b:Stmt) (Q:Exit→St→Prop):Exit→St→Prop
 | .normal,s=>zDs P E b Q s
 |e,s=>Q e s
theorem zLi {Q:Exit→St→Prop} {s:St} {b:Stmt} (h:Ok P E b (zAbq P E b Q) s):zDs P E b Q s:=by
 intro c hc a w hs fr k cs
 obtain ⟨e,a1,w1,⟨s1,hq,hs1⟩,harr⟩:=h c hc a w hs fr (.inLoop c::k) cs
 cases e with
 |normal=>
  obtain ⟨e2,a2,w2,h2,harr2⟩:=hq c hc a1 w1 hs1 fr k cs
  exact ⟨e2,a2,w2,h2, .of_steps (Steps.trans harr (.one step_inLoop)) harr2⟩
 |exit id=>exact ⟨_,a1,w1,⟨s1,hq,hs1⟩, .pass (x:= .inLoop c) rfl (fun _ _=> .inl (by simp)) harr⟩
 |goto l=>exact ⟨_,a1,w1,⟨s1,hq,hs1⟩, .pass (x:= .inLoop c) rfl (fun _ _=> .inl (by simp)) harr⟩
 |ret=>exact ⟨_,a1,w1,⟨s1,hq,hs1⟩, .pass (x:= .inLoop c) rfl (fun _ _=> .inl (by simp)) harr⟩
 |panic ch=>exact ⟨_,a1,w1,⟨s1,hq,hs1⟩, .pass (x:= .inLoop c) rfl (fun _ _=> .inl (by simp)) harr⟩
 |outgrown=>exact ⟨_,a1,w1,⟨s1,hq,hs1⟩, .pass (x:= .inLoop c) rfl (fun _ _=> .inl (by simp)) harr⟩
theorem zAam {Q:Exit→St→Prop} {s:St} {b:Stmt} (h:zDs P E b Q s):Ok P E (.loop b) Q s:=by
 intro c hc a w hs
 cases c<;>simp only [comp] at hc
 case loop c1=>
  cases h1:comp P E.nt c1 with
  |none=>rw [h1] at hc;simp at hc
  |some x=>
   rw [h1] at hc;simp at hc
   subst hc
   intro fr k cs
   obtain ⟨e,a',w',hq,harr⟩:=h c1 h1 a w hs fr k cs
   exact ⟨e,a',w',hq, .of_steps (.one step_loop) harr⟩
 all_goals (first|(rcases zAV hc with ⟨_,h',_⟩|⟨_,h',_⟩|⟨_,h',_⟩|⟨_,h',_⟩<;>cases h';done)|(split at hc<;>first|cases hc|(split at hc<;>first|cases hc|(split at hc<;>cases hc)))|(cases hc)|(simp at hc))
end
end Go.Am

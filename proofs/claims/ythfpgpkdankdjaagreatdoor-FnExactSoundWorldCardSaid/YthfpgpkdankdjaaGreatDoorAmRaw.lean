import Derived.Test.YthfpgpkdankdjaaGreatDoorAmSet
set_option linter.all false
namespace Go.Am
open Go Go.RowKit
section
variable {P:Program} {w:World} {S:Nat→Prop} {ρ:Nat→Option Hd}
theorem Kept.more {F F':List Nat} {w0 w:World} (h:Kept F w0 w) (hF:∀ b,b∈F→b∈F'):Kept F' w0 w:=
 ⟨h.os,h.tape,h.output,h.size,fun b h1 h2=>h.block b h1 fun h3=>h2 (hF b h3),h.sizes⟩
theorem zRp {cell:Nat→Option Value} {o:Nat} {l:List T} {F:List Nat} (h:RepRow S w ρ cell o l F) {S':Nat→Prop} {w':World} {ρ':Nat→Option Hd}:RepRow S' w' ρ' cell o (l.map fun _=> .any) []:=by
 induction l generalizing o F with
 |nil=>simp [RepRow]
 |cons t ts ih=>
  simp only [RepRow] at h
  obtain ⟨y,F1,F2,h1,h2,h3,rfl⟩:=h
  simp only [List.map_cons,RepRow,Rep]
  exact ⟨y,[],[],h1,rfl,ih h3,rfl⟩
theorem ACall.frz {f:Nat} {args:List T} {R:T→List T→Prop} (h:ACall P f (zCA args) R):ACall P f args (fun r l=>(∃ l0,R r l0)∧l=args.map fun _=> .any):=by
 intro w S0 F vs hsz hrep hnd hF hS0 hT
 have hrep':RepRow (fun b=>S0 b∨b∈F) w noH (fun i=>vs[i]?) 0 (zCA args) []:=zCQ args (zBF (fun b hb=> .inl hb) args hrep) (fun c hc=> .inr hc)
 refine (h w (fun b=>S0 b∨b∈F) [] vs (by rw [zCv];exact hsz) hrep' (by simp) (by simp) (by rintro b (hb|hb);exact hS0 b hb;exact (hF b hb).2) (hT.mono (fun _ h=> .inl h) fun _ _=>rfl)).mono ?_
 rintro e w' ⟨rv,r,l,S',Fr,Fa,rfl,hR,hlen,hb⟩
 refine ⟨rv,r,args.map (fun _=> .any),S',Fr,[],rfl,⟨⟨l,hR⟩,rfl⟩,by simp,hb.res,zRp hrep, ?_, ?_, ?_,fun b h=>hb.S0 b (.inl h),hb.kept.more (by simp)⟩
 ·simpa using hb.nodup.sublist (List.sublist_append_left _ _)
 ·intro b h
  obtain ⟨q1,q2,q3⟩:=hb.mine b (by simp at h ⊢;exact .inl h)
  exact ⟨q1,q2,by simp at q3;exact .inr q3⟩
 ·intro b h
  obtain ⟨q1,q2⟩:=hb.shared b h
  refine ⟨q1, ?_⟩
  rcases q2 with (q2|q2)|q2|q2
  ·exact .inl q2
  ·exact .inr (.inl q2)
  ·cases q2
  ·exact .inr (.inr q2)
theorem zRq {f:Nat} {args us anys:List T} {X:T} (h:ACall P f us (fun r _=>r=X)) (e:zCA args=us) (ha:anys=args.map fun _=> .any):ACall P f args (fun r l=>r=X∧l=anys):=by
 subst e ha
 exact (ACall.frz h).mono fun r l ⟨⟨_,h1⟩,h2⟩=>⟨h1,h2⟩
theorem ACall.dshR {f:Nat} {args:List T} {R:T→List T→Prop} (h:ACall P f args R):ACall P f args (fun r l=>∃ r0,R r0 l∧r=r0.dsh):=by
 intro w S0 F vs hsz hrep hnd hF hS0 hT
 refine (h w S0 F vs hsz hrep hnd hF hS0 hT).mono ?_
 rintro e w' ⟨rv,r,l,S',Fr,Fa,rfl,hR,hlen,hb⟩
 refine ⟨rv,r.dsh,l,fun b=>S' b∨b∈Fr,[],Fa,rfl,⟨r,hR,rfl⟩,hlen,zKR r (zCP (fun b h=> .inl h) r hb.res) (fun c h=> .inr h),zBF (fun b h=> .inl h) l hb.args, ?_, ?_, ?_,fun b h=> .inl (hb.S0 b h),hb.kept⟩
 ·simpa using hb.nodup.sublist (List.sublist_append_right _ _)
 ·intro b h
  have h':b∈Fa:=by simpa using h
  obtain ⟨q1,q2,q3⟩:=hb.mine b (List.mem_append_right _ h')
  refine ⟨?_,q2,q3⟩
  rintro (q|q)
  ·exact q1 q
  ·exact (List.nodup_append.1 hb.nodup).2.2 b q b h' rfl
 ·rintro b (h|h)
  ·exact hb.shared b h
  ·obtain ⟨q1,q2,q3⟩:=hb.mine b (List.mem_append_left _ h)
   exact ⟨q2, .inr q3⟩
def zG3:List (List T)→List (List T)→Prop
 |[],[]=>True
 |r::rs,q::qs=>zBi r q∧zG3 rs qs
 |_,_=>False
theorem zMS:∀ {l m:List (List T)},zG3 l m→m.length=l.length
 |[],[],_=>rfl
 |t::ts,u::us,h=>by simp only [zG3] at h;simp [zMS h.2]
 |[],u::us,h=>h.elim
 |t::ts,[],h=>h.elim
theorem zJy {cell:Nat→Option Value} {k:Nat}:∀ {l m:List (List T)} {o:Nat} {F:List Nat},zG3 l m→zAb S w ρ cell o k l F→zAb S w ρ cell o k m F
 |[],[],_,_,_,h=>h
 |r::rs,q::qs,o,F,hl,h=>by
  simp only [zG3] at hl
  simp only [zAb] at h ⊢
  obtain ⟨F1,F2,h1,h2,h3,rfl⟩:=h
  exact ⟨F1,F2,by rw [zDu hl.1];exact h1,zDM _ _ hl.1 h2,zJy hl.2 h3,rfl⟩
 |[],u::us,_,_,h,_=>h.elim
 |t::ts,[],_,_,h,_=>h.elim
theorem zYP {own:Bool} {k:Nat} {rows rows':List (List T)} {y:Value} {F:List Nat} (hl:zG3 rows rows') (h:Rep S w ρ (.sl own k rows) y F):Rep S w ρ (.sl own k rows') y F:=by
 simp only [Rep] at h ⊢
 obtain ⟨a,cap,rfl,h2⟩:=h
 have e:=zMS hl
 refine ⟨a,cap,by rw [e], ?_⟩
 rcases h2 with ⟨q1,rfl,q3⟩|⟨b,off,arr,el,fr,Fs,h3,h4,h5,h6,h7,h8⟩
 ·exact .inl ⟨q1,List.length_eq_zero_iff.1 (by rw [e];rfl),q3⟩
 ·exact .inr ⟨b,off,arr,el,fr,Fs,h3,h4,by rw [e];exact h5,h6,zJy hl h7,h8⟩
theorem ACall.slArg3 {f k:Nat} {a b:T} {own:Bool} {rows rows':List (List T)} {R:T→List T→Prop} (h:ACall P f [a,b, .sl own k rows'] R) (hl:zG3 rows rows'):ACall P f [a,b, .sl own k rows] R:=by
 intro w S0 F vs h1 h2 h3 h4 h5 h6
 refine h w S0 F vs h1 ?_ h3 h4 h5 h6
 simp only [RepRow] at h2 ⊢
 obtain ⟨y1,F1,F2,c1,r1,⟨y2,G1,G2,c2,r2,⟨y3,H1,H2,c3,r3,e3,e4⟩,e5⟩,e6⟩:=h2
 exact ⟨y1,F1,F2,c1,r1,⟨y2,G1,G2,c2,r2,⟨y3,H1,H2,c3,zYP hl r3,e3,e4⟩,e5⟩,e6⟩
def zAq (l:List Value):List T:=l.map .v
theorem zRr (l:List Value):(zAq l).length=l.length:=by simp [zAq]
@[go_sem] theorem zAgA (l:List Value):(zAq l).length=l.length:=by simp [zAq]
@[go_sem] theorem zAkQ (l:List Value):(zAq l).map T.sh=zAq l:=by simp [zAq,T.sh]
@[go_sem] theorem zAaW:∀ l:List Value,zAA (zAq l)=True
 |[]=>by simp [zAq,zAA]
 |x::t=>by have:=zAaW t;simp only [zAq,List.map_cons,zAA,T.packed,true_and] at this ⊢;exact this
@[go_sem] theorem zYQ (d:Nat):∀ l:List Value,zAD d (zAq l)=True
 |[]=>by simp [zAq,zAD]
 |x::t=>by have:=zYQ d t;simp only [zAq,List.map_cons,zAD,T.noM,true_and] at this ⊢;exact this
@[go_sem] theorem zAlm {α:Type} (l:List α):(l.all fun _=>true)=true:=by simp
theorem zHZ {cell:Nat→Option Value}:∀ (l:List Value) (o:Nat) (F:List Nat),RepRow S w ρ cell o (zAq l) F↔(F=[]∧∀ i,i<l.length→cell (o+i)=l[i]?)
 |[],o,F=>by simp [zAq,RepRow]
 |x::l,o,F=>by
  simp only [zAq,List.map_cons,RepRow,Rep]
  have ih:=zHZ (cell:=cell) l (o+1)
  simp only [zAq] at ih
  constructor
  ·rintro ⟨y,F1,F2,h1,⟨rfl,rfl⟩,h3,rfl⟩
   obtain ⟨rfl,h4⟩:=(ih _).1 h3
   refine ⟨rfl,fun i hi=> ?_⟩
   cases i with
   |zero=>simpa using h1
   |succ i=>have:=h4 i (by simpa using hi);rw [show o+1+i=o+(i+1) by omega] at this;simpa using this
  ·rintro ⟨rfl,h⟩
   refine ⟨x,[],[],by simpa using h 0 (by simp),⟨rfl,rfl⟩,(ih []).2 ⟨rfl,fun i hi=> ?_⟩,rfl⟩
   have:=h (i+1) (by simpa using hi)
   rw [show o+1+i=o+(i+1) by omega];simpa using this
def T.one (t:T):Bool:=t.plainV&&t.leaf
theorem zWG {t:T} {y:Value} {F:List Nat} (h:Rep S w ρ t y F) (h1:t.one=true):(T.v y).storable=true:=by
 have key:(T.v y).plainV=true→(T.v y).storable=true:=fun h=>by simp [T.storable,h,T.leaf,T.bare]
 refine key ?_
 cases t with
 |any=>simp [T.one,T.plainV] at h1
 |v x=>
  simp only [Rep] at h
  obtain ⟨rfl,_⟩:=h
  simp only [T.one,Bool.and_eq_true] at h1
  exact h1.1
 |agg row=>simp [T.one,T.leaf] at h1
 |tup l=>simp [T.one,T.leaf] at h1
 |sl o k rows=>simp only [Rep] at h;obtain ⟨a,cap,rfl,_⟩:=h;rfl
 |bo o row q=>simp only [Rep] at h;obtain ⟨b,off,arr,el,fr,Fs,rfl,_⟩:=h;rfl
 |ref id lo n=>simp only [Rep] at h;obtain ⟨_,hd,a,c,_,rfl,_⟩:=h;rfl
 |ptr id i o=>simp only [Rep] at h;obtain ⟨_,hd,b,off,_,_,rfl⟩:=h;rfl
 |fn f caps=>simp only [Rep] at h;obtain ⟨cv,rfl,_⟩:=h;rfl
theorem zMT {cell:Nat→Option Value}:∀ (l:List T) (o:Nat) (F:List Nat),RepRow S w ρ cell o l F→∃ rv:List Value,rv.length=l.length∧(∀ i,i<rv.length→cell (o+i)=rv[i]?)∧(l.all T.one=true→(zAq rv).all T.storable=true)
 |[],o,F,_=>⟨[],rfl,by simp,fun _=>rfl⟩
 |t::ts,o,F,h=>by
  simp only [RepRow] at h
  obtain ⟨y,F1,F2,h1,h2,h3,rfl⟩:=h
  obtain ⟨rv,e1,e2,e3⟩:=zMT ts _ _ h3
  refine ⟨y::rv,by simp [e1],fun i hi=> ?_,fun h=>by
   rw [List.all_cons,Bool.and_eq_true] at h
   rw [zAq,List.map_cons,List.all_cons,Bool.and_eq_true]
   exact ⟨zWG h2 h.1,e3 h.2⟩⟩
  cases i with
  |zero=>simpa using h1
  |succ i=>have:=e2 i (by simpa using hi);rw [show o+1+i=o+(i+1) by omega] at this;simpa using this
def zAT (S:Nat→Prop) (w:World):List (List Value)→List (List T)→List Nat→Prop
 |[],[],F=>F=[]
 |rv::rs,row::rows,F=>∃ F1 F2,row.length=rv.length∧RepRow S w noH (fun i=>rv[i]?) 0 row F1∧zAT S w rs rows F2∧F=F1++F2
 |_,_,_=>False
theorem zAT.app:∀ {a b:List (List Value)} {c d:List (List T)} {F G:List Nat},zAT S w a c F→zAT S w b d G→zAT S w (a++b) (c++d) (F++G)
 |[],b,[],d,F,G,h,h2=>by simp only [zAT] at h;subst h;simpa using h2
 |r::a,b,row::c,d,F,G,h,h2=>by
  simp only [zAT] at h
  obtain ⟨F1,F2,q1,q2,q3,rfl⟩:=h
  exact ⟨F1,F2++G,q1,q2,zAT.app q3 h2,by simp⟩
 |[],_,_::_,_,_,_,h,_=>h.elim
 |_::_,_,[],_,_,_,h,_=>h.elim
theorem zAT.split:∀ {a:List (List Value)} {c:List (List T)} {F:List Nat} (n:Nat),zAT S w a c F→∃ F1 F2,zAT S w (a.take n) (c.take n) F1∧zAT S w (a.drop n) (c.drop n) F2∧F=F1++F2
 |[],[],F,n,h=>⟨[],[],by simp [zAT],by simp [zAT],by simpa [zAT] using h⟩
 |r::a,row::c,F,0,h=>⟨[],F,by simp [zAT],by simpa using h,rfl⟩
 |r::a,row::c,F,n+1,h=>by
  simp only [zAT] at h
  obtain ⟨F1,F2,q1,q2,q3,rfl⟩:=h
  obtain ⟨G1,G2,g1,g2,rfl⟩:=zAT.split n q3
  exact ⟨F1++G1,G2,by simp only [List.take_succ_cons,zAT];exact ⟨F1,G1,q1,q2,g1,rfl⟩,by simpa using g2,by simp⟩
 |[],_::_,_,_,h=>h.elim
 |_::_,[],_,_,h=>h.elim
theorem zAT.frame {S':Nat→Prop} {w':World}:∀ {a:List (List Value)} {c:List (List T)} {F:List Nat},zAT S w a c F→(∀ b,b∈F∨S b→w'.heap[b]? =w.heap[b]?)→(∀ b,S b→S' b)→zAT S' w' a c F
 |[],[],F,h,_,_=>h
 |r::a,row::c,F,h,hw,hS=>by
  simp only [zAT] at h ⊢
  obtain ⟨F1,F2,q1,q2,q3,rfl⟩:=h
  exact ⟨F1,F2,q1,zBF hS row (zBa row q2 fun b hb=>hw b (hb.imp (List.mem_append_left _) id)),zAT.frame q3 (fun b hb=>hw b (hb.imp (List.mem_append_right _) id)) hS,rfl⟩
 |[],_::_,_,h,_,_=>h.elim
 |_::_,[],_,h,_,_=>h.elim
theorem zLv {cell:Nat→Option Value} {k:Nat}:∀ (rows:List (List T)) (o:Nat) (F:List Nat),zAb S w noH cell o k rows F→∃ raws:List (List Value),raws.length=rows.length∧(∀ r∈raws,r.length=k)∧zAb S w noH cell o k (raws.map zAq) []∧zAT S w raws rows F∧(rows.all (fun r=>r.all T.one)=true→∀ r∈raws,(zAq r).all T.storable=true)
 |[],o,F,h=>⟨[],rfl,by simp,by simp [zAb],by simp only [zAb] at h;exact h,fun _=>by simp⟩
 |row::rows,o,F,h=>by
  simp only [zAb] at h
  obtain ⟨F1,F2,h1,h2,h3,rfl⟩:=h
  obtain ⟨raws,e1,e2,e3,e4,e5⟩:=zLv rows _ _ h3
  obtain ⟨rv,g1,g2,g3⟩:=zMT row _ _ h2
  refine ⟨rv::raws,by simp [e1],by simpa [g1,h1] using e2, ?_,⟨F1,F2,g1.symm, ?_,e4,rfl⟩,fun h=>by
   rw [List.all_cons,Bool.and_eq_true] at h
   intro r hr
   rcases List.mem_cons.1 hr with rfl|hr
   ·exact g3 h.1
   ·exact e5 h.2 r hr⟩
  ·simp only [List.map_cons,zAb]
   exact ⟨[],[],by rw [zRr,g1,h1],(zHZ rv o []).2 ⟨rfl,g2⟩,e3,rfl⟩
  ·exact zAM _ h2 fun i hi=>by rw [Nat.zero_add];exact (g2 i (by omega)).symm
theorem zIr {cell:Nat→Option Value} {k:Nat}:∀ (raws:List (List Value)) (rows:List (List T)) (o:Nat) (F0 F:List Nat),zAb S w noH cell o k (raws.map zAq) F0→zAT S w raws rows F→F0=[]∧zAb S w noH cell o k rows F
 |[],[],o,F0,F,h,h2=>by simp only [List.map_nil,zAb,zAT] at h h2 ⊢;exact ⟨h,h2⟩
 |rv::raws,row::rows,o,F0,F,h,h2=>by
  simp only [List.map_cons,zAb,zAT] at h h2 ⊢
  obtain ⟨F1,F2,h3,h4,h5,rfl⟩:=h
  obtain ⟨G1,G2,g1,g2,g3,rfl⟩:=h2
  obtain ⟨rfl,e⟩:=(zHZ rv o F1).1 h4
  obtain ⟨rfl,ih⟩:=zIr raws rows (o+k) F2 G2 h5 g3
  refine ⟨rfl,G1,G2,by rw [g1, ←zRr,h3],zAM _ g2 fun i hi=> ?_,ih,rfl⟩
  rw [Nat.zero_add];exact e i (by omega)
 |[],_::_,_,_,_,_,h=>h.elim
 |_::_,[],_,_,_,_,h=>h.elim
theorem zRs {k:Nat} {rows:List (List T)} {y:Value} {F:List Nat} (h:Rep S w noH (.sl true k rows) y F):∃ (raws:List (List Value)) (F0 Fs:List Nat),F=F0++Fs∧raws.length=rows.length∧(∀ r∈raws,r.length=k)∧Rep S w noH (.sl true k (raws.map zAq)) y F0∧zAT S w raws rows Fs∧(rows.all (fun r=>r.all T.one)=true→∀ r∈raws,(zAq r).all T.storable=true):=by
 simp only [Rep] at h
 obtain ⟨a,cap,rfl,h2⟩:=h
 rcases h2 with ⟨h2,rfl,rfl⟩|⟨b,off,arr,el,fr,Fs,rfl,h4,h5,h6,h7,h8⟩
 ·exact ⟨[],[],[],rfl,rfl,by simp,by simp only [Rep];exact ⟨a,cap,rfl, .inl ⟨h2,by simp,trivial⟩⟩,rfl,fun _=>by simp⟩
 ·obtain ⟨raws,e1,e2,e3,e4,e5⟩:=zLv rows _ _ h7
  obtain ⟨rfl,ht⟩:=h8
  refine ⟨raws,[b],Fs,rfl,e1,e2, ?_,e4,e5⟩
  simp only [Rep]
  exact ⟨_,cap,by rw [List.length_map,e1], .inr ⟨b,off,arr,el,fr,[],rfl,h4,by rw [List.length_map,e1];exact h5,h6,e3,rfl,ht⟩⟩
theorem zPu {k:Nat} {raws:List (List Value)} {rows:List (List T)} {y:Value} {F0 Fs:List Nat} (h:Rep S w noH (.sl true k (raws.map zAq)) y F0) (h2:zAT S w raws rows Fs) (hl:rows.length=raws.length):Rep S w noH (.sl true k rows) y (F0++Fs):=by
 simp only [Rep] at h ⊢
 obtain ⟨a,cap,rfl,h3⟩:=h
 refine ⟨a,cap,by rw [List.length_map,hl], ?_⟩
 rcases h3 with ⟨q1,q2,rfl⟩|⟨b,off,arr,el,fr,F',rfl,q4,q5,q6,q7,q8⟩
 ·have:raws=[]:=by simpa using q2
  subst this
  have:rows=[]:=List.length_eq_zero_iff.1 (by simpa using hl)
  subst this
  simp only [zAT] at h2;subst h2
  exact .inl ⟨q1,rfl,rfl⟩
 ·obtain ⟨rfl,h7⟩:=zIr raws rows _ _ _ q7 h2
  obtain ⟨rfl,ht⟩:=q8
  exact .inr ⟨b,off,arr,el,fr,Fs,rfl,q4,by rw [hl];simpa using q5,q6,h7,rfl,ht⟩
@[go_sem] theorem zPv:∀ r:List Value,zCA (zAq r)=zAq r
 |[]=>rfl
 |x::l=>by
  have:=zPv l
  simp only [zAq] at this ⊢
  simp only [List.map_cons,zCA,T.dsh,this]
theorem zAb9 {k:Nat} {raws:List (List Value)} {y:Value} {F0:List Nat} {S':Nat→Prop} (h:Rep S w noH (.sl true k (raws.map zAq)) y F0) (hS:∀ b,S b→S' b) (hF:∀ b,b∈F0→S' b):Rep S' w noH (.sl false k (raws.map zAq)) y []:=by
 have:=zKR _ (zCP hS _ h) hF
 have e:zBe (raws.map zAq)=raws.map zAq:=by
  rw [zCY,List.map_map]
  apply List.map_congr_left
  intro r _
  exact zPv r
 simpa only [T.dsh,e] using this
theorem zRt {f k:Nat} {rows:List (List T)} {row:List T} {i:Int} (hi:i.toNat≤rows.length) (ho:rows.all (fun r=>r.all T.one)=true) (ho2:row.all T.one=true)
  (h:∀ (raws:List (List Value)) (rv:List Value),raws.length=rows.length→(∀ r∈raws,r.length=k)→rv.length=k→(∀ r∈raws,(zAq r).all T.storable=true)→(zAq rv).all T.storable=true→ACall P f [.sl true k (raws.map zAq), .v (.int .i64 i), .sl false k [zAq rv]] (fun r l=>r= .sl true k ((raws.take i.toNat++rv::raws.drop i.toNat).map zAq)∧l=[.any, .v (.int .i64 i), .sl false k [zAq rv]])):
  ACall P f [.sl true k rows, .v (.int .i64 i), .sl true k [row]] (fun r l=>r= .sl true k (rows.take i.toNat++row::rows.drop i.toNat)∧l=[.any, .v (.int .i64 i), .any]):=by
 intro w S0 F vs hsz hrep hnd hF hS0 hT
 have hany:=zRp hrep (S':=S0) (w':=w) (ρ':=noH)
 simp only [RepRow] at hrep
 obtain ⟨y1,F1,F2,c1,r1,⟨y2,G1,G2,c2,r2,⟨y3,H1,H2,c3,r3,rfl,rfl⟩,rfl⟩,rfl⟩:=hrep
 obtain ⟨raws,A0,As,rfl,e1,e2,e3,e4,e5⟩:=zRs r1
 obtain ⟨rvs,B0,Bs,rfl,g1,g2,g3,g4,g5⟩:=zRs r3
 obtain ⟨rv,rfl⟩:∃ rv,rvs=[rv]:=List.length_eq_one_iff.1 (by simpa using g1)
 simp only [Rep] at r2
 obtain ⟨r2,rfl⟩:=r2
 simp only [List.nil_append,List.append_nil] at hnd hF
 have hA:∀ b,b∈A0→b∈A0++As++(B0++Bs):=by intro b hb;simp [hb]
 have hmem:∀ b,b∈As++Bs→b∉A0∧b∉B0:=by
  intro b hb
  rw [List.nodup_append,List.nodup_append,List.nodup_append] at hnd
  obtain ⟨⟨_,_,n1⟩,⟨_,_,n2⟩,n3⟩:=hnd
  rcases List.mem_append.1 hb with hb|hb
  ·exact ⟨fun h=>n1 b h b hb rfl,fun h=>n3 b (by simp [hb]) b (by simp [h]) rfl⟩
  ·exact ⟨fun h=>n3 b (by simp [h]) b (by simp [hb]) rfl,fun h=>n2 b h b hb rfl⟩
 have hnd2:(A0++(As++Bs)).Nodup:=by
  refine hnd.sublist ?_
  simp only [List.append_assoc]
  exact List.Sublist.append (List.Sublist.refl _) (List.Sublist.append (List.Sublist.refl _) (List.sublist_append_right _ _))
 have hvs:RepRow (fun b=>S0 b∨b∈B0) w noH (fun i=>vs[i]?) 0 [.sl true k (raws.map zAq), .v (.int .i64 i), .sl false k [zAq rv]] A0:=by
  simp only [RepRow]
  refine ⟨y1,A0,[],c1,zCP (fun b hb=> .inl hb) _ e3,⟨y2,[],[],c2,by simp only [Rep];exact ⟨r2,trivial⟩,⟨y3,[],[],c3, ?_,rfl,rfl⟩,rfl⟩,by simp⟩
  have:=zAb9 (S':=fun b=>S0 b∨b∈B0) g3 (fun b hb=> .inl hb) (fun b hb=> .inr hb)
  simpa using this
 refine (h raws rv e1 e2 (g2 rv (by simp)) (e5 ho) (g5 (by simp only [List.all_cons,List.all_nil,ho2,Bool.and_true]) rv (by simp)) w (fun b=>S0 b∨b∈B0) A0 vs (by simpa using hsz) hvs (hnd2.sublist (List.sublist_append_left _ _)) ?_ ?_ (hT.mono (fun _ h=> .inl h) fun _ _=>rfl)).mono ?_
 ·intro b hb
  refine ⟨?_,(hF b (hA b hb)).2⟩
  rintro (h|h)
  ·exact (hF b (hA b hb)).1 h
  ·rw [List.nodup_append] at hnd
   exact hnd.2.2 b (by simp [hb]) b (by simp [h]) rfl
 ·rintro b (hb|hb)
  ·exact hS0 b hb
  ·exact (hF b (by simp [hb])).2
 rintro e w' ⟨rv',r,l,S',Fr,Fa,rfl,⟨rfl,rfl⟩,hlen,hb⟩
 have hin:∀ b,b∈As++Bs→¬ S' b∧b<w.heap.size∧b∉A0∧w'.heap[b]? =w.heap[b]? ∧b∈A0++As++(B0++Bs):=by
  intro b hb2
  obtain ⟨m1,m2⟩:=hmem b hb2
  have hbF:b∈A0++As++(B0++Bs):=by simp at hb2 ⊢;rcases hb2 with h|h<;>simp [h]
  obtain ⟨f1,f2⟩:=hF b hbF
  refine ⟨fun hs=> ?_,f2,m1,hb.kept.block b f2 m1,hbF⟩
  rcases (hb.shared b hs).2 with (q|q)|q|q
  ·exact f1 q
  ·exact m2 q
  ·exact m1 q
  ·omega
 have hS':∀ b,S0 b→S' b:=fun b h=>hb.S0 b (.inl h)
 have hfr:∀ b,(b∈As++Bs)∨S0 b→w'.heap[b]? =w.heap[b]? :=by
  rintro b (h|h)
  ·exact (hin b h).2.2.2.1
  ·exact hb.kept.block b (hS0 b h) fun h2=>(hF b (hA b h2)).1 h
 obtain ⟨A1,A2,a1,a2,rfl⟩:=zAT.split i.toNat e4
 have q1:=zAT.frame (S':=S') (w':=w') a1 (fun b hb2=>hfr b (hb2.imp (fun h=>by simp [h]) id)) hS'
 have q2:=zAT.frame (S':=S') (w':=w') a2 (fun b hb2=>hfr b (hb2.imp (fun h=>by simp [h]) id)) hS'
 have q3:=zAT.frame (S':=S') (w':=w') g4 (fun b hb2=>hfr b (hb2.imp (fun h=>by simp [h]) id)) hS'
 have q:=zAT.app q1 (zAT.app q3 q2)
 have hres:=zPu (rows:=rows.take i.toNat++([row]++rows.drop i.toNat)) hb.res (by simpa using q) (by simp [e1])
 have hFr:∀ b,b∈Fr→¬ S' b∧b<w'.heap.size∧(b∈A0∨w.heap.size≤b):=fun b h=>hb.mine b (List.mem_append_left _ h)
 have hperm:∀ b,b∈A1++(Bs++A2)↔b∈A1++A2++Bs:=by intro b;simp;constructor<;>rintro (h|h|h)<;>simp [h]
 have hnin:(A1++(Bs++A2)).Nodup:=by
  have h1:(A1++A2++Bs).Nodup:=hnd2.sublist (List.sublist_append_right _ _)
  refine (List.Perm.nodup_iff ?_).1 h1
  rw [List.append_assoc]
  exact List.Perm.append_left _ List.perm_append_comm
 refine ⟨rv',_,_,S',Fr++(A1++(Bs++A2)),[],rfl,⟨rfl,rfl⟩,by simp,by simpa using hres, ?_, ?_, ?_, ?_,hS', ?_⟩
 ·simp only [RepRow]
  exact ⟨y1,[],[],c1,by simp only [Rep],⟨y2,[],[],c2,by simp only [Rep];exact ⟨r2,trivial⟩,⟨y3,[],[],c3,by simp only [Rep],rfl,rfl⟩,rfl⟩,rfl⟩
 ·rw [List.append_nil,List.nodup_append]
  refine ⟨hb.nodup.sublist (List.sublist_append_left _ _),hnin,fun b h1 c h2 e=> ?_⟩
  subst e
  obtain ⟨_,_,q3⟩:=hFr b h1
  obtain ⟨_,p2,p3,_⟩:=hin b ((hperm b).1 h2)
  rcases q3 with q3|q3
  ·exact p3 q3
  ·omega
 ·intro b h1
  rw [List.append_nil,List.mem_append] at h1
  rcases h1 with h1|h1
  ·obtain ⟨p1,p2,p3⟩:=hFr b h1
   exact ⟨p1,p2,p3.imp (fun h=>by simp [h]) id⟩
  ·obtain ⟨p1,p2,p3,p4,p5⟩:=hin b ((hperm b).1 h1)
   exact ⟨p1,by have:=hb.kept.size;omega, .inl (by simpa using p5)⟩
 ·intro b h1
  obtain ⟨p1,p2⟩:=hb.shared b h1
  refine ⟨p1, ?_⟩
  rcases p2 with (p2|p2)|p2|p2
  ·exact .inl p2
  ·exact .inr (.inl (by simp [p2]))
  ·exact .inr (.inl (by simp [p2]))
  ·exact .inr (.inr p2)
 ·exact hb.kept.more fun b h=>by simp [h]
theorem zYR {f k:Nat} {rows:List (List T)} {i j:Int} (ho:rows.all (fun r=>r.all T.one)=true)
  (h:∀ (raws:List (List Value)),raws.length=rows.length→(∀ r∈raws,r.length=k)→(∀ r∈raws,(zAq r).all T.storable=true)→ACall P f [.sl true k (raws.map zAq), .v (.int .i64 i), .v (.int .i64 j)] (fun r l=>r= .sl true k ((raws.take i.toNat++raws.drop j.toNat).map zAq)∧l=[.any, .v (.int .i64 i), .v (.int .i64 j)]))
  (hij:i.toNat≤j.toNat):ACall P f [.sl true k rows, .v (.int .i64 i), .v (.int .i64 j)] (fun r l=>r= .sl true k (rows.take i.toNat++rows.drop j.toNat)∧l=[.any, .v (.int .i64 i), .v (.int .i64 j)]):=by
 intro w S0 F vs hsz hrep hnd hF hS0 hT
 simp only [RepRow] at hrep
 obtain ⟨y1,F1,F2,c1,r1,⟨y2,G1,G2,c2,r2,⟨y3,H1,H2,c3,r3,rfl,rfl⟩,rfl⟩,rfl⟩:=hrep
 obtain ⟨raws,A0,As,rfl,e1,e2,e3,e4,e5⟩:=zRs r1
 simp only [Rep] at r2 r3
 obtain ⟨r2,rfl⟩:=r2
 obtain ⟨r3,rfl⟩:=r3
 simp only [List.nil_append,List.append_nil] at hnd hF
 have hmem:∀ b,b∈As→b∉A0:=by
  intro b hb h
  exact (List.nodup_append.1 hnd).2.2 b h b hb rfl
 have hvs:RepRow S0 w noH (fun i=>vs[i]?) 0 [.sl true k (raws.map zAq), .v (.int .i64 i), .v (.int .i64 j)] A0:=by
  simp only [RepRow]
  exact ⟨y1,A0,[],c1,e3,⟨y2,[],[],c2,by simp only [Rep];exact ⟨r2,trivial⟩,⟨y3,[],[],c3,by simp only [Rep];exact ⟨r3,trivial⟩,rfl,rfl⟩,rfl⟩,by simp⟩
 refine (h raws e1 e2 (e5 ho) w S0 A0 vs (by simpa using hsz) hvs (hnd.sublist (List.sublist_append_left _ _)) (fun b hb=>hF b (by simp [hb])) hS0 hT).mono ?_
 rintro e w' ⟨rv',r,l,S',Fr,Fa,rfl,⟨rfl,rfl⟩,hlen,hb⟩
 have hin:∀ b,b∈As→¬ S' b∧b<w.heap.size∧b∉A0∧w'.heap[b]? =w.heap[b]? :=by
  intro b hb2
  have m1:=hmem b hb2
  obtain ⟨f1,f2⟩:=hF b (by simp [hb2])
  refine ⟨fun hs=> ?_,f2,m1,hb.kept.block b f2 m1⟩
  rcases (hb.shared b hs).2 with q|q|q
  ·exact f1 q
  ·exact m1 q
  ·omega
 have hfr:∀ b,b∈As∨S0 b→w'.heap[b]? =w.heap[b]? :=by
  rintro b (h|h)
  ·exact (hin b h).2.2.2
  ·exact hb.kept.block b (hS0 b h) fun h2=>(hF b (by simp [h2])).1 h
 obtain ⟨A,Q,a1,a2,rfl⟩:=zAT.split j.toNat e4
 obtain ⟨A1,A2,a3,_,rfl⟩:=zAT.split i.toNat a1
 rw [List.take_take,List.take_take,Nat.min_eq_left hij] at a3
 have q1:=zAT.frame (S':=S') (w':=w') a3 (fun b hb2=>hfr b (hb2.imp (fun h=>by simp [h]) id)) (fun b h=>hb.S0 b h)
 have q2:=zAT.frame (S':=S') (w':=w') a2 (fun b hb2=>hfr b (hb2.imp (fun h=>by simp [h]) id)) (fun b h=>hb.S0 b h)
 have hres:=zPu hb.res (zAT.app q1 q2) (by simp [e1])
 have hsub:(A1++Q).Sublist (A1++A2++Q):=List.Sublist.append (List.sublist_append_left _ _) (List.Sublist.refl _)
 have hFr:∀ b,b∈Fr→¬ S' b∧b<w'.heap.size∧(b∈A0∨w.heap.size≤b):=fun b h=>hb.mine b (List.mem_append_left _ h)
 refine ⟨rv',_,_,S',Fr++(A1++Q),[],rfl,⟨rfl,rfl⟩,by simp,hres, ?_, ?_, ?_, ?_,fun b h=>hb.S0 b h, ?_⟩
 ·simp only [RepRow]
  exact ⟨y1,[],[],c1,by simp only [Rep],⟨y2,[],[],c2,by simp only [Rep];exact ⟨r2,trivial⟩,⟨y3,[],[],c3,by simp only [Rep];exact ⟨r3,trivial⟩,rfl,rfl⟩,rfl⟩,rfl⟩
 ·rw [List.append_nil,List.nodup_append]
  refine ⟨hb.nodup.sublist (List.sublist_append_left _ _),(hnd.sublist (List.sublist_append_right _ _)).sublist hsub,fun b h1 c h2 e=> ?_⟩
  subst e
  obtain ⟨_,_,q3⟩:=hFr b h1
  obtain ⟨_,p2,p3,_⟩:=hin b (hsub.subset h2)
  rcases q3 with q3|q3
  ·exact p3 q3
  ·omega
 ·intro b h1
  rw [List.append_nil,List.mem_append] at h1
  rcases h1 with h1|h1
  ·obtain ⟨p1,p2,p3⟩:=hFr b h1
   exact ⟨p1,p2,p3.imp (fun h=>by simp [h]) id⟩
  ·obtain ⟨p1,p2,p3,p4⟩:=hin b (hsub.subset h1)
   exact ⟨p1,by have:=hb.kept.size;omega, .inl (by have:=hsub.subset h1;simp only [List.mem_append] at this ⊢;simp [this])⟩
 ·intro b h1
  obtain ⟨p1,p2⟩:=hb.shared b h1
  refine ⟨p1, ?_⟩
  rcases p2 with p2|p2|p2
  ·exact .inl p2
  ·exact .inr (.inl (by simp [p2]))
  ·exact .inr (.inr p2)
 ·exact hb.kept.more fun b h=>by simp [h]
end
end Go.Am

/-Short forms of the steps of a walk,and of compiled statements. -/
import Derived.Test.YthfpgpkdankdjaaGreatDoorAmRaw
set_option linter.all false
namespace Go.Am
open Go K
instance (n:Nat):OfNat Operand n:=⟨.tmp (OfNat.ofNat n)⟩
@[go_sem] theorem ofT (n:Nat):(OfNat.ofNat n:Operand)= .tmp (OfNat.ofNat n):=rfl
namespace K
def L (d x:Nat):IN:=⟨some d,none, .load none (.tmp x)⟩
def F (d n x:Nat):IN:=⟨some d,none, .fa n (.tmp x)⟩
def A (d k x i:Nat):IN:=⟨some d,none, .ia k (.tmp x) (.tmp i)⟩
def W (n x v:Nat):IN:=⟨none,none, .store n (.tmp x) (.tmp v)⟩
def Y (d x:Nat):IN:=⟨some d,none, .lens (.tmp x)⟩
def v (d:Nat) (x:Operand):IN:=⟨some d,none, .mv x⟩
def q (l:List IN) (b:AS):AS:= .seq (.ops l) b
@[go_sem] theorem L_eq (d x:Nat):L d x=⟨some d,none, .load none (.tmp x)⟩:=rfl
@[go_sem] theorem F_eq (d n x:Nat):F d n x=⟨some d,none, .fa n (.tmp x)⟩:=rfl
@[go_sem] theorem A_eq (d k x i:Nat):A d k x i=⟨some d,none, .ia k (.tmp x) (.tmp i)⟩:=rfl
@[go_sem] theorem W_eq (n x v:Nat):W n x v=⟨none,none, .store n (.tmp x) (.tmp v)⟩:=rfl
@[go_sem] theorem Y_eq (d x:Nat):Y d x=⟨some d,none, .lens (.tmp x)⟩:=rfl
@[go_sem] theorem v_eq (d:Nat) (x:Operand):v d x=⟨some d,none, .mv x⟩:=rfl
@[go_sem] theorem q_eq (l:List IN) (b:AS):q l b= .seq (.ops l) b:=rfl
def gF (d s:Nat) (b:Bool) (n x:Nat):IN:=⟨some d,some (s,b), .fa n (.tmp x)⟩
def gA (d s:Nat) (b:Bool) (k x i:Nat):IN:=⟨some d,some (s,b), .ia k (.tmp x) (.tmp i)⟩
def gL (d s:Nat) (b:Bool) (x:Nat):IN:=⟨some d,some (s,b), .load none (.tmp x)⟩
def gB (d s:Nat) (b:Bool) (op:BinOp) (x y:Operand):IN:=⟨some d,some (s,b), .bin op x y⟩
def gC (d s:Nat) (b:Bool) (f:Nat) (l:List Operand):IN:=⟨some d,some (s,b), .call f l⟩
def B (d:Nat) (op:BinOp) (x y:Operand):IN:=⟨some d,none, .bin op x y⟩
def c (d f:Nat) (l:List Operand):IN:=⟨some d,none, .call f l⟩
@[go_sem] theorem gF_eq (d s:Nat) (b:Bool) (n x:Nat):gF d s b n x=⟨some d,some (s,b), .fa n (.tmp x)⟩:=rfl
@[go_sem] theorem gA_eq (d s:Nat) (b:Bool) (k x i:Nat):gA d s b k x i=⟨some d,some (s,b), .ia k (.tmp x) (.tmp i)⟩:=rfl
@[go_sem] theorem gL_eq (d s:Nat) (b:Bool) (x:Nat):gL d s b x=⟨some d,some (s,b), .load none (.tmp x)⟩:=rfl
@[go_sem] theorem gB_eq (d s:Nat) (b:Bool) (op:BinOp) (x y:Operand):gB d s b op x y=⟨some d,some (s,b), .bin op x y⟩:=rfl
@[go_sem] theorem gC_eq (d s:Nat) (b:Bool) (f:Nat) (l:List Operand):gC d s b f l=⟨some d,some (s,b), .call f l⟩:=rfl
@[go_sem] theorem B_eq (d:Nat) (op:BinOp) (x y:Operand):B d op x y=⟨some d,none, .bin op x y⟩:=rfl
@[go_sem] theorem c_eq (d f:Nat) (l:List Operand):c d f l=⟨some d,none, .call f l⟩:=rfl
def hr (P:Program) (n:Nat):Option (Stmt×List ResultVar×Nat):=(P.funcs[n]?).bind fun fn=>(fn.body.bind (comp P fn.ntmps)).map fun s=>(s,fn.results.toList,fn.ntmps)
abbrev ho (c:AS) (r:List ResultVar) (k:Nat):Option (Stmt×List ResultVar×Nat):=some (c.strip,r,k)
end K
theorem hqA {P:Program} {n k:Nat} {c:Stmt} {r:List ResultVar} (h:hr P n=some (c,r,k)):hF P n=some c:=by
  unfold hr at h;unfold hF
  cases e:P.funcs[n]? with
  |none=>rw [e] at h;cases h
  |some fn=>rw [e] at h;simp only [Option.bind_some,Option.map_eq_some_iff,Prod.mk.injEq] at h ⊢;obtain ⟨s,h1,rfl, -⟩:=h;exact h1
theorem hqB {P:Program} {n k:Nat} {c:Stmt} {r:List ResultVar} (h:hr P n=some (c,r,k)):rF P n=some (r,k):=by
  unfold hr at h;unfold rF
  cases e:P.funcs[n]? with
  |none=>rw [e] at h;cases h
  |some fn=>rw [e] at h;simp only [Option.bind_some,Option.map_eq_some_iff,Prod.mk.injEq,Option.map_some,Option.some.injEq] at h ⊢;obtain ⟨s,h1, -,h2,h3⟩:=h;exact ⟨h2,h3⟩
theorem fi {P:Program} {f:Nat} {st:AS} {rvs:List ResultVar} {nt:Nat} {args:List T} {R:T→List T→Prop} (h:hr P f=some (st.strip,rvs,nt)) (H:∀ E:Env,(∀ d,E.okd d↔zAD d (zAL (st0 args) 0 args))→(∀ B,E.okHi B↔ltL B (zAL (st0 args) 0 args))→wsS P E st (zLS P rvs (zAL (st0 args) 0 args) (zFs R)) (st0 args)) (g:args.length≤nt∧zF9 ⟨[],[]⟩ 0 args:=by simp only [go_sem]):ACall P f args R:=zI2 (hqA h) (hqB h) ⟨g,H⟩
theorem st {p q:Prop} (h:q) (e:p=q:=by simp (disch:=omega) only [go_sem,hE,hH];rfl):p:=e▸h
theorem sb {p q:Prop} (h:q) (e:p=q:=by simp (disch:=omega) only [go_sem,hE,hH,hb];rfl):p:=e▸h
theorem gs {p Q a b:Prop} (h1:Q→b) (q:p=Q:=by first|(simp only [nf];rfl)|rfl) (e:p→a=b:=by intro hb;have h:=hb;(try simp only [nf] at h);simp (disch:=omega) only [go_sem,hE,hH,hb];rfl):p→a:=fun x=>(e x).symm▸h1 (q▸x)
attribute [go_sem] cond_true cond_false
theorem ga {c b:Bool} {A B:St→Prop} {s:St} (h1:c=true→cond b (A s) (B s)) (h2:c=false→cond b (B s) (A s)):gd c b A B s:=by cases b<;>cases c<;>simp [gd] at h1 h2 ⊢<;>assumption
theorem ti:True:=True.intro
theorem fg {P:Program} {f:Nat} {st:AS} {rvs:List ResultVar} {nt:Nat} {args:List T} {R:T→List T→Prop} {o1 o2:Nat→Prop} (h:hr P f=some (st.strip,rvs,nt)) (H:∀ E:Env,(∀ d,E.okd d↔o1 d)→(∀ B,E.okHi B↔o2 B)→wsS P E st (zLS P rvs (zAL (st0 args) 0 args) (zFs R)) (st0 args)) (g:args.length≤nt∧zF9 ⟨[],[]⟩ 0 args:=by simp only [go_sem]) (e1:∀ d,zAD d (zAL (st0 args) 0 args)=o1 d:=by intro d;simp only [go_sem];rfl) (e2:∀ B,ltL B (zAL (st0 args) 0 args)=o2 B:=by intro B;simp only [go_sem];rfl):ACall P f args R:=fi h (fun E a b=>H E (fun d=>(a d).trans (e1 d▸Iff.rfl)) (fun B=>(b B).trans (e2 B▸Iff.rfl))) g
theorem an {p q:Prop} (h:p) (k:q):p∧q:=⟨h,k⟩
theorem sh {p q:Prop} (k:q) (e:p=q:=by simp (disch:=omega) only [go_sem,hE,hH,h];rfl):p:=e▸k
theorem s1 {p q:Prop} (h:q) (e:p=q:=by simp only [go_sem,hE,hH];rfl):p:=e▸h
theorem fe {p:Prop} (h:p:=by refine zBH ?_;(try (simp (disch:=omega) only [go_sem,hE,hH]));first|done|rfl):p:=h
theorem fj {p:Prop} (h:p:=by (with_reducible apply zBH);(try (simp (disch:=omega) only [go_sem,hE,hH]));first|done|rfl):p:=h
theorem gaI {c b:Bool} {A B:St→Prop} {s:St} {x y:Prop} (h1:x→c=true→cond b (A s) (B s)) (h2:y→c=false→cond b (B s) (A s)):x→y→gd c b A B s:=fun a b=>ga (h1 a) (h2 b)
theorem gsI {p Q a b:Prop} (q:p=Q:=by first|(simp only [nf];rfl)|rfl) (e:p→a=b:=by intro hb;have h:=hb;(try simp only [nf] at h);simp (disch:=omega) only [go_sem,hE,hH,hb];rfl):(Q→b)→p→a:=fun h1 x=>(e x).symm▸h1 (q▸x)
theorem stI {p q:Prop} (e:p=q:=by simp (disch:=omega) only [go_sem,hE,hH];rfl):q→p:=fun h=>e▸h
theorem s1I {p q:Prop} (e:p=q:=by simp only [go_sem,hE,hH];rfl):q→p:=fun h=>e▸h
theorem fmI {p:Prop} (h:p:=by (first|apply zAJ|apply zBo)<;>(simp only [go_sem,hE,hH];done)):True→p:=fun _=>h
theorem okI {P:Program} {E:Env} {s:St} {d:Option Nat} {g:Option (Nat×Bool)} {K:St→Prop} {f:Nat} {xs:List Operand} {q:Prop} (e:cv1 P E f d K s (zA6 s xs)=q:=by simp (disch:=omega) only [go_sem,hE,hH];rfl):q→zAn P E ⟨d,g, .call f xs⟩ K s:=fun h=>zAE (e▸h)
theorem qz {p a b:Prop} (h1:a) (h2:b) (e:a→b→p:=by (with_reducible apply gaI);first|(exact gsI;exact gsI)|fail):p:=e h1 h2
theorem gG {p a b c d:Prop} (h1:a→c) (h2:b→d) (e:(a→c)→(b→d)→p:=by first|exact zD7|exact zD8|fail):p:=e h1 h2
theorem qo {p q:Prop} (h:q) (e:q→p:=by first|exact okI|fail):p:=e h
theorem cq {P:Program} {s:St} {f:Nat} {us:List T} {vw:List Nat} {d:Option Nat} {K:St→Prop} {R:T→List T→Prop} {q:Prop} (hC:ACall P f us R) (h:q) (e:zEw R vw d K s=q:=by simp (disch:=omega) only [go_sem,hE,hH];rfl):CV P f us vw d K s:=cvA hC (e▸h)
theorem qy {p q:Prop} (h:q) (e:q→p:=by (with_reducible apply an);omega):p:=e h
theorem qu {p a b:Prop} (h1:a) (h2:b) (e:a→b→p:=by (with_reducible first|apply both|apply an)):p:=e h1 h2
theorem qe {p:Prop} (h:p:=by first|(with_reducible exact ti)|exact fe|fail):p:=h
theorem qj {p:Prop} (h:p:=by first|(with_reducible exact ti)|exact fj|fail):p:=h
theorem qw {p q:Prop} (h:q) (e:q→p:=by first|exact stI|exact fmI|exact s1I|fail):p:=e h
theorem fe1_ {p:Prop} (h:p:=by refine zBH ?_;(try (simp (disch:=omega) only [go_sem,hE,hH,zAj hcap,zAu hcap,zAo hcap,zAx hcap,zAp hcap]));first|done|rfl):p:=h
theorem fe2_ {p:Prop} (h:p:=by refine zBH ?_;(try (simp (disch:=omega) only [go_sem,hE,hH,y1_,y2_,y3_,y4_,y5_,hF,y6_,y7_,y8_,y9_,y10_,y11_,y12_,y13_,y14_,y15_,y16_,y17_,y18_,y19_,y20_,y21_,y22_,y23_,y24_,y25_,List.take_length,List.length_drop,Nat.add_sub_cancel_left,List.length_take,Nat.min_eq_left hn,Nat.min_self]));first|done|rfl):p:=h
theorem fe3_ {p:Prop} (h:p:=by refine zBH ?_;(try (simp (disch:=omega) only [go_sem,hE,hH,y1_,hF,y2_,y3_,y4_,y5_,y6_,y7_,y8_,y9_,y10_,y11_,y12_,y13_,y14_,y15_,y16_,y17_,y18_,y19_,y20_,y21_,List.take_length,List.length_drop,Nat.add_sub_cancel_left,List.length_take,Nat.min_eq_left hn,Nat.min_self]));first|done|rfl):p:=h
theorem zEd {p q:Prop} (h:q) (e:p=q:=by simp (disch:=omega) only [go_sem,hE,hH,y1_];rfl):p:=e▸h
theorem fe4_ {p:Prop} (h:p:=by refine zBH ?_;(try (simp (disch:=omega) only [go_sem,hE,hH,y1_]));first|done|rfl):p:=h
theorem fj4_ {p:Prop} (h:p:=by (with_reducible apply zBH);(try (simp (disch:=omega) only [go_sem,hE,hH,y1_]));first|done|rfl):p:=h
theorem zMq {p q:Prop} (h:q) (e:p=q:=by simp (disch:=omega) only [go_sem,hE,hH,y1_,y2_,y3_];rfl):p:=e▸h
theorem fe5_ {p:Prop} (h:p:=by refine zBH ?_;(try (simp (disch:=omega) only [go_sem,hE,hH,y1_,y2_,y3_]));first|done|rfl):p:=h
theorem fj5_ {p:Prop} (h:p:=by (with_reducible apply zBH);(try (simp (disch:=omega) only [go_sem,hE,hH,y1_,y2_,y3_]));first|done|rfl):p:=h
theorem zO1 {p q:Prop} (h:q) (e:p=q:=by simp (disch:=omega) only [go_sem,hE,hH,y1_,y2_,y3_,y4_,y5_];rfl):p:=e▸h
theorem fj6_ {p:Prop} (h:p:=by (with_reducible apply zBH);(try (simp (disch:=omega) only [go_sem,hE,hH,y1_,y2_,y3_,y4_,y5_]));first|done|rfl):p:=h
theorem fj7_ {p:Prop} (h:p:=by (with_reducible apply zBH);(try (simp (disch:=omega) only [go_sem,hE,hH,y1_,y2_,y3_,y4_,y5_,y6_,y7_,y8_,y9_,y10_,y11_,y12_,y13_,y14_,y15_,y16_,y17_,y18_,y19_,y20_]));first|done|rfl):p:=h
theorem zV7 {p q:Prop} (h:q) (e:p=q:=by simp (disch:=omega) only [go_sem,hE,hH,y1_,y2_,y3_,y4_];rfl):p:=e▸h
theorem fj8_ {p:Prop} (h:p:=by (with_reducible apply zBH);(try (simp (disch:=omega) only [go_sem,hE,hH,y1_,y2_,y3_,y4_]));first|done|rfl):p:=h
theorem zGn {p q:Prop} (h:q) (e:p=q:=by simp (disch:=omega) only [go_sem,hE,hH,y1_,y2_];rfl):p:=e▸h
theorem fj9_ {p:Prop} (h:p:=by (with_reducible apply zBH);(try (simp (disch:=omega) only [go_sem,hE,hH,y1_,y2_]));first|done|rfl):p:=h
theorem zLd {p q:Prop} (h:q) (e:p=q:=by simp (disch:=omega) only [go_sem,hE,hH,y1_,y2_,y3_,y4_,y5_,y6_];rfl):p:=e▸h
theorem zAfN {p:Prop} (h:p:=by (with_reducible apply zBH);(try (simp (disch:=omega) only [go_sem,hE,hH,y1_,y2_,y3_,y4_,y5_,y6_]));first|done|rfl):p:=h
theorem zAfO {p:Prop} (h:p:=by (with_reducible apply zBH);(try (simp (disch:=omega) only [go_sem,hE,hH,zAj hcap,zAu hcap,zAo hcap,zAx hcap,zAp hcap,zBN hcap,zBO hcap]));first|done|rfl):p:=h
theorem zZ8 {p Q a b:Prop} (q:p=Q:=by first|(simp only [nf];rfl)|rfl) (e:p→a=b:=by intro hb;have h:=hb;(try simp only [nf] at h);simp (disch:=omega) only [go_sem,hE,hH,zAj hcap,zAu hcap,zAo hcap,zAx hcap,zAp hcap,hb];rfl):(Q→b)→p→a:=fun h1 x=>(e x).symm▸h1 (q▸x)
theorem zAfP {p q:Prop} (e:p=q:=by simp (disch:=omega) only [go_sem,hE,hH,zAj hcap,zAu hcap,zAo hcap,zAx hcap,zAp hcap];rfl):q→p:=fun h=>e▸h
theorem zAfQ {p q:Prop} (e:p=q:=by simp only [go_sem,hE,hH,zAj hcap,zAu hcap,zAo hcap,zAx hcap,zAp hcap];rfl):q→p:=fun h=>e▸h
theorem zAfR {p:Prop} (h:p:=by (first|apply zAJ|apply zBo)<;>(simp only [go_sem,hE,hH,zAj hcap,zAu hcap,zAo hcap,zAx hcap,zAp hcap];done)):True→p:=fun _=>h
theorem zZP {p a b:Prop} (h1:a) (h2:b) (e:a→b→p:=by (with_reducible apply gaI);first|(exact zZ8;exact zZ8)|fail):p:=e h1 h2
theorem zZQ {p:Prop} (h:p:=by first|(with_reducible exact ti)|exact fe1_|fail):p:=h
theorem zZR {p q:Prop} (h:q) (e:q→p:=by first|exact zAfP|exact zAfR|exact zAfQ|fail):p:=e h
theorem zZ9 {p Q a b:Prop} (q:p=Q:=by first|(simp only [nf];rfl)|rfl) (e:p→a=b:=by intro hb;have h:=hb;(try simp only [nf] at h);simp (disch:=omega) only [go_sem,hE,hH,y1_,y2_,y3_,y4_,y5_,hF,y6_,y7_,y8_,y9_,y10_,y11_,y12_,y13_,y14_,y15_,y16_,y17_,y18_,y19_,y20_,y21_,y22_,y23_,y24_,y25_,List.take_length,List.length_drop,Nat.add_sub_cancel_left,List.length_take,Nat.min_eq_left hn,Nat.min_self,hb];rfl):(Q→b)→p→a:=fun h1 x=>(e x).symm▸h1 (q▸x)
theorem zAfS {p q:Prop} (e:p=q:=by simp (disch:=omega) only [go_sem,hE,hH,y1_,y2_,y3_,y4_,y5_,hF,y6_,y7_,y8_,y9_,y10_,y11_,y12_,y13_,y14_,y15_,y16_,y17_,y18_,y19_,y20_,y21_,y22_,y23_,y24_,y25_,List.take_length,List.length_drop,Nat.add_sub_cancel_left,List.length_take,Nat.min_eq_left hn,Nat.min_self];rfl):q→p:=fun h=>e▸h
theorem zAfT {p q:Prop} (e:p=q:=by simp only [go_sem,hE,hH,y1_,y2_,y3_,y4_,y5_,hF,y6_,y7_,y8_,y9_,y10_,y11_,y12_,y13_,y14_,y15_,y16_,y17_,y18_,y19_,y20_,y21_,y22_,y23_,y24_,y25_,List.take_length,List.length_drop,Nat.add_sub_cancel_left,List.length_take,Nat.min_eq_left hn,Nat.min_self];rfl):q→p:=fun h=>e▸h
theorem zAfU {p:Prop} (h:p:=by (first|apply zAJ|apply zBo)<;>(simp only [go_sem,hE,hH,y1_,y2_,y3_,y4_,y5_,hF,y6_,y7_,y8_,y9_,y10_,y11_,y12_,y13_,y14_,y15_,y16_,y17_,y18_,y19_,y20_,y21_,y22_,y23_,y24_,y25_,List.take_length,List.length_drop,Nat.add_sub_cancel_left,List.length_take,Nat.min_eq_left hn,Nat.min_self];done)):True→p:=fun _=>h
theorem zV8 {p a b:Prop} (h1:a) (h2:b) (e:a→b→p:=by (with_reducible apply gaI);first|(exact zZ9;exact zZ9)|fail):p:=e h1 h2
theorem zV9 {p:Prop} (h:p:=by first|(with_reducible exact ti)|exact fe2_|fail):p:=h
theorem zWa {p q:Prop} (h:q) (e:q→p:=by first|exact zAfS|exact zAfU|exact zAfT|fail):p:=e h
theorem zAaa {p Q a b:Prop} (q:p=Q:=by first|(simp only [nf];rfl)|rfl) (e:p→a=b:=by intro hb;have h:=hb;(try simp only [nf] at h);simp (disch:=omega) only [go_sem,hE,hH,y1_,hF,y2_,y3_,y4_,y5_,y6_,y7_,y8_,y9_,y10_,y11_,y12_,y13_,y14_,y15_,y16_,y17_,y18_,y19_,y20_,y21_,List.take_length,List.length_drop,Nat.add_sub_cancel_left,List.length_take,Nat.min_eq_left hn,Nat.min_self,hb];rfl):(Q→b)→p→a:=fun h1 x=>(e x).symm▸h1 (q▸x)
theorem zAfV {p q:Prop} (e:p=q:=by simp (disch:=omega) only [go_sem,hE,hH,y1_,hF,y2_,y3_,y4_,y5_,y6_,y7_,y8_,y9_,y10_,y11_,y12_,y13_,y14_,y15_,y16_,y17_,y18_,y19_,y20_,y21_,List.take_length,List.length_drop,Nat.add_sub_cancel_left,List.length_take,Nat.min_eq_left hn,Nat.min_self];rfl):q→p:=fun h=>e▸h
theorem zAfW {p q:Prop} (e:p=q:=by simp only [go_sem,hE,hH,y1_,hF,y2_,y3_,y4_,y5_,y6_,y7_,y8_,y9_,y10_,y11_,y12_,y13_,y14_,y15_,y16_,y17_,y18_,y19_,y20_,y21_,List.take_length,List.length_drop,Nat.add_sub_cancel_left,List.length_take,Nat.min_eq_left hn,Nat.min_self];rfl):q→p:=fun h=>e▸h
theorem zAfX {p:Prop} (h:p:=by (first|apply zAJ|apply zBo)<;>(simp only [go_sem,hE,hH,y1_,hF,y2_,y3_,y4_,y5_,y6_,y7_,y8_,y9_,y10_,y11_,y12_,y13_,y14_,y15_,y16_,y17_,y18_,y19_,y20_,y21_,List.take_length,List.length_drop,Nat.add_sub_cancel_left,List.length_take,Nat.min_eq_left hn,Nat.min_self];done)):True→p:=fun _=>h
theorem qz3_ {p a b:Prop} (h1:a) (h2:b) (e:a→b→p:=by (with_reducible apply gaI);first|(exact zAaa;exact zAaa)|fail):p:=e h1 h2
theorem qe3_ {p:Prop} (h:p:=by first|(with_reducible exact ti)|exact fe3_|fail):p:=h
theorem qw3_ {p q:Prop} (h:q) (e:q→p:=by first|exact zAfV|exact zAfX|exact zAfW|fail):p:=e h
theorem zAab {p Q a b:Prop} (q:p=Q:=by first|(simp only [nf];rfl)|rfl) (e:p→a=b:=by intro hb;have h:=hb;(try simp only [nf] at h);simp (disch:=omega) only [go_sem,hE,hH,y1_,hb];rfl):(Q→b)→p→a:=fun h1 x=>(e x).symm▸h1 (q▸x)
theorem zAfY {p q:Prop} (e:p=q:=by simp (disch:=omega) only [go_sem,hE,hH,y1_];rfl):q→p:=fun h=>e▸h
theorem zAfZ {p q:Prop} (e:p=q:=by simp only [go_sem,hE,hH,y1_];rfl):q→p:=fun h=>e▸h
theorem zAf0 {p:Prop} (h:p:=by (first|apply zAJ|apply zBo)<;>(simp only [go_sem,hE,hH,y1_];done)):True→p:=fun _=>h
theorem zAf1 {P:Program} {E:Env} {s:St} {d:Option Nat} {g:Option (Nat×Bool)} {K:St→Prop} {f:Nat} {xs:List Operand} {q:Prop} (e:cv1 P E f d K s (zA6 s xs)=q:=by simp (disch:=omega) only [go_sem,hE,hH,y1_];rfl):q→zAn P E ⟨d,g, .call f xs⟩ K s:=fun h=>zAE (e▸h)
theorem zBC {p a b:Prop} (h1:a) (h2:b) (e:a→b→p:=by (with_reducible apply gaI);first|(exact zAab;exact zAab)|fail):p:=e h1 h2
theorem zBX {p q:Prop} (h:q) (e:q→p:=by first|exact zAf1|fail):p:=e h
theorem zAF {P:Program} {s:St} {f:Nat} {us:List T} {vw:List Nat} {d:Option Nat} {K:St→Prop} {R:T→List T→Prop} {q:Prop} (hC:ACall P f us R) (h:q) (e:zEw R vw d K s=q:=by simp (disch:=omega) only [go_sem,hE,hH,y1_];rfl):CV P f us vw d K s:=cvA hC (e▸h)
theorem zKQ {p:Prop} (h:p:=by first|(with_reducible exact ti)|exact fe4_|fail):p:=h
theorem zCd {p:Prop} (h:p:=by first|(with_reducible exact ti)|exact fj4_|fail):p:=h
theorem zBA {p q:Prop} (h:q) (e:q→p:=by first|exact zAfY|exact zAf0|exact zAfZ|fail):p:=e h
theorem zAac {p Q a b:Prop} (q:p=Q:=by first|(simp only [nf];rfl)|rfl) (e:p→a=b:=by intro hb;have h:=hb;(try simp only [nf] at h);simp (disch:=omega) only [go_sem,hE,hH,y1_,y2_,y3_,hb];rfl):(Q→b)→p→a:=fun h1 x=>(e x).symm▸h1 (q▸x)
theorem zAf2 {p q:Prop} (e:p=q:=by simp (disch:=omega) only [go_sem,hE,hH,y1_,y2_,y3_];rfl):q→p:=fun h=>e▸h
theorem zAf3 {p q:Prop} (e:p=q:=by simp only [go_sem,hE,hH,y1_,y2_,y3_];rfl):q→p:=fun h=>e▸h
theorem zAf4 {p:Prop} (h:p:=by (first|apply zAJ|apply zBo)<;>(simp only [go_sem,hE,hH,y1_,y2_,y3_];done)):True→p:=fun _=>h
theorem zAf5 {P:Program} {E:Env} {s:St} {d:Option Nat} {g:Option (Nat×Bool)} {K:St→Prop} {f:Nat} {xs:List Operand} {q:Prop} (e:cv1 P E f d K s (zA6 s xs)=q:=by simp (disch:=omega) only [go_sem,hE,hH,y1_,y2_,y3_];rfl):q→zAn P E ⟨d,g, .call f xs⟩ K s:=fun h=>zAE (e▸h)
theorem zFc {p a b:Prop} (h1:a) (h2:b) (e:a→b→p:=by (with_reducible apply gaI);first|(exact zAac;exact zAac)|fail):p:=e h1 h2
theorem zH8 {p q:Prop} (h:q) (e:q→p:=by first|exact zAf5|fail):p:=e h
theorem zCF {P:Program} {s:St} {f:Nat} {us:List T} {vw:List Nat} {d:Option Nat} {K:St→Prop} {R:T→List T→Prop} {q:Prop} (hC:ACall P f us R) (h:q) (e:zEw R vw d K s=q:=by simp (disch:=omega) only [go_sem,hE,hH,y1_,y2_,y3_];rfl):CV P f us vw d K s:=cvA hC (e▸h)
theorem qe5_ {p:Prop} (h:p:=by first|(with_reducible exact ti)|exact fe5_|fail):p:=h
theorem zFJ {p:Prop} (h:p:=by first|(with_reducible exact ti)|exact fj5_|fail):p:=h
theorem zFd {p q:Prop} (h:q) (e:q→p:=by first|exact zAf2|exact zAf4|exact zAf3|fail):p:=e h
theorem zAad {p Q a b:Prop} (q:p=Q:=by first|(simp only [nf];rfl)|rfl) (e:p→a=b:=by intro hb;have h:=hb;(try simp only [nf] at h);simp (disch:=omega) only [go_sem,hE,hH,y1_,y2_,y3_,y4_,y5_,hb];rfl):(Q→b)→p→a:=fun h1 x=>(e x).symm▸h1 (q▸x)
theorem zAf6 {p q:Prop} (e:p=q:=by simp (disch:=omega) only [go_sem,hE,hH,y1_,y2_,y3_,y4_,y5_];rfl):q→p:=fun h=>e▸h
theorem zAf7 {p q:Prop} (e:p=q:=by simp only [go_sem,hE,hH,y1_,y2_,y3_,y4_,y5_];rfl):q→p:=fun h=>e▸h
theorem zAf8 {p:Prop} (h:p:=by (first|apply zAJ|apply zBo)<;>(simp only [go_sem,hE,hH,y1_,y2_,y3_,y4_,y5_];done)):True→p:=fun _=>h
theorem zAf9 {P:Program} {E:Env} {s:St} {d:Option Nat} {g:Option (Nat×Bool)} {K:St→Prop} {f:Nat} {xs:List Operand} {q:Prop} (e:cv1 P E f d K s (zA6 s xs)=q:=by simp (disch:=omega) only [go_sem,hE,hH,y1_,y2_,y3_,y4_,y5_];rfl):q→zAn P E ⟨d,g, .call f xs⟩ K s:=fun h=>zAE (e▸h)
theorem zH9 {p a b:Prop} (h1:a) (h2:b) (e:a→b→p:=by (with_reducible apply gaI);first|(exact zAad;exact zAad)|fail):p:=e h1 h2
theorem zSk {p q:Prop} (h:q) (e:q→p:=by first|exact zAf9|fail):p:=e h
theorem zFK {P:Program} {s:St} {f:Nat} {us:List T} {vw:List Nat} {d:Option Nat} {K:St→Prop} {R:T→List T→Prop} {q:Prop} (hC:ACall P f us R) (h:q) (e:zEw R vw d K s=q:=by simp (disch:=omega) only [go_sem,hE,hH,y1_,y2_,y3_,y4_,y5_];rfl):CV P f us vw d K s:=cvA hC (e▸h)
theorem zIa {p:Prop} (h:p:=by first|(with_reducible exact ti)|exact fj6_|fail):p:=h
theorem zIb {p q:Prop} (h:q) (e:q→p:=by first|exact zAf6|exact zAf8|exact zAf7|fail):p:=e h
theorem zAae {p Q a b:Prop} (q:p=Q:=by first|(simp only [nf];rfl)|rfl) (e:p→a=b:=by intro hb;have h:=hb;(try simp only [nf] at h);simp (disch:=omega) only [go_sem,hE,hH,y1_,y2_,y3_,y4_,y5_,y6_,y7_,y8_,y9_,y10_,y11_,y12_,y13_,y14_,y15_,y16_,y17_,y18_,y19_,y20_,hb];rfl):(Q→b)→p→a:=fun h1 x=>(e x).symm▸h1 (q▸x)
theorem zAga {p q:Prop} (e:p=q:=by simp (disch:=omega) only [go_sem,hE,hH,y1_,y2_,y3_,y4_,y5_,y6_,y7_,y8_,y9_,y10_,y11_,y12_,y13_,y14_,y15_,y16_,y17_,y18_,y19_,y20_];rfl):q→p:=fun h=>e▸h
theorem zAgb {p q:Prop} (e:p=q:=by simp only [go_sem,hE,hH,y1_,y2_,y3_,y4_,y5_,y6_,y7_,y8_,y9_,y10_,y11_,y12_,y13_,y14_,y15_,y16_,y17_,y18_,y19_,y20_];rfl):q→p:=fun h=>e▸h
theorem zAgc {p:Prop} (h:p:=by (first|apply zAJ|apply zBo)<;>(simp only [go_sem,hE,hH,y1_,y2_,y3_,y4_,y5_,y6_,y7_,y8_,y9_,y10_,y11_,y12_,y13_,y14_,y15_,y16_,y17_,y18_,y19_,y20_];done)):True→p:=fun _=>h
theorem zWb {p a b:Prop} (h1:a) (h2:b) (e:a→b→p:=by (with_reducible apply gaI);first|(exact zAae;exact zAae)|fail):p:=e h1 h2
theorem zWc {p:Prop} (h:p:=by first|(with_reducible exact ti)|exact fj7_|fail):p:=h
theorem zWd {p q:Prop} (h:q) (e:q→p:=by first|exact zAga|exact zAgc|exact zAgb|fail):p:=e h
theorem zAaf {p Q a b:Prop} (q:p=Q:=by first|(simp only [nf];rfl)|rfl) (e:p→a=b:=by intro hb;have h:=hb;(try simp only [nf] at h);simp (disch:=omega) only [go_sem,hE,hH,y1_,y2_,y3_,y4_,hb];rfl):(Q→b)→p→a:=fun h1 x=>(e x).symm▸h1 (q▸x)
theorem zAgd {p q:Prop} (e:p=q:=by simp (disch:=omega) only [go_sem,hE,hH,y1_,y2_,y3_,y4_];rfl):q→p:=fun h=>e▸h
theorem zAge {p q:Prop} (e:p=q:=by simp only [go_sem,hE,hH,y1_,y2_,y3_,y4_];rfl):q→p:=fun h=>e▸h
theorem zAgf {p:Prop} (h:p:=by (first|apply zAJ|apply zBo)<;>(simp only [go_sem,hE,hH,y1_,y2_,y3_,y4_];done)):True→p:=fun _=>h
theorem zAgg {P:Program} {E:Env} {s:St} {d:Option Nat} {g:Option (Nat×Bool)} {K:St→Prop} {f:Nat} {xs:List Operand} {q:Prop} (e:cv1 P E f d K s (zA6 s xs)=q:=by simp (disch:=omega) only [go_sem,hE,hH,y1_,y2_,y3_,y4_];rfl):q→zAn P E ⟨d,g, .call f xs⟩ K s:=fun h=>zAE (e▸h)
theorem zIc {p a b:Prop} (h1:a) (h2:b) (e:a→b→p:=by (with_reducible apply gaI);first|(exact zAaf;exact zAaf)|fail):p:=e h1 h2
theorem zO2 {p q:Prop} (h:q) (e:q→p:=by first|exact zAgg|fail):p:=e h
theorem zDW {P:Program} {s:St} {f:Nat} {us:List T} {vw:List Nat} {d:Option Nat} {K:St→Prop} {R:T→List T→Prop} {q:Prop} (hC:ACall P f us R) (h:q) (e:zEw R vw d K s=q:=by simp (disch:=omega) only [go_sem,hE,hH,y1_,y2_,y3_,y4_];rfl):CV P f us vw d K s:=cvA hC (e▸h)
theorem zId {p:Prop} (h:p:=by first|(with_reducible exact ti)|exact fj8_|fail):p:=h
theorem zIe {p q:Prop} (h:q) (e:q→p:=by first|exact zAgd|exact zAgf|exact zAge|fail):p:=e h
theorem zAag {p Q a b:Prop} (q:p=Q:=by first|(simp only [nf];rfl)|rfl) (e:p→a=b:=by intro hb;have h:=hb;(try simp only [nf] at h);simp (disch:=omega) only [go_sem,hE,hH,y1_,y2_,hb];rfl):(Q→b)→p→a:=fun h1 x=>(e x).symm▸h1 (q▸x)
theorem zAgh {p q:Prop} (e:p=q:=by simp (disch:=omega) only [go_sem,hE,hH,y1_,y2_];rfl):q→p:=fun h=>e▸h
theorem zAgi {p q:Prop} (e:p=q:=by simp only [go_sem,hE,hH,y1_,y2_];rfl):q→p:=fun h=>e▸h
theorem zAgj {p:Prop} (h:p:=by (first|apply zAJ|apply zBo)<;>(simp only [go_sem,hE,hH,y1_,y2_];done)):True→p:=fun _=>h
theorem zAgk {P:Program} {E:Env} {s:St} {d:Option Nat} {g:Option (Nat×Bool)} {K:St→Prop} {f:Nat} {xs:List Operand} {q:Prop} (e:cv1 P E f d K s (zA6 s xs)=q:=by simp (disch:=omega) only [go_sem,hE,hH,y1_,y2_];rfl):q→zAn P E ⟨d,g, .call f xs⟩ K s:=fun h=>zAE (e▸h)
theorem zCJ {p a b:Prop} (h1:a) (h2:b) (e:a→b→p:=by (with_reducible apply gaI);first|(exact zAag;exact zAag)|fail):p:=e h1 h2
theorem zFe {p q:Prop} (h:q) (e:q→p:=by first|exact zAgk|fail):p:=e h
theorem zBY {P:Program} {s:St} {f:Nat} {us:List T} {vw:List Nat} {d:Option Nat} {K:St→Prop} {R:T→List T→Prop} {q:Prop} (hC:ACall P f us R) (h:q) (e:zEw R vw d K s=q:=by simp (disch:=omega) only [go_sem,hE,hH,y1_,y2_];rfl):CV P f us vw d K s:=cvA hC (e▸h)
theorem zCK {p:Prop} (h:p:=by first|(with_reducible exact ti)|exact fj9_|fail):p:=h
theorem zCL {p q:Prop} (h:q) (e:q→p:=by first|exact zAgh|exact zAgj|exact zAgi|fail):p:=e h
theorem zX5 {p Q a b:Prop} (q:p=Q:=by first|(simp only [nf];rfl)|rfl) (e:p→a=b:=by intro hb;have h:=hb;(try simp only [nf] at h);simp (disch:=omega) only [go_sem,hE,hH,y1_,y2_,y3_,y4_,y5_,y6_,hb];rfl):(Q→b)→p→a:=fun h1 x=>(e x).symm▸h1 (q▸x)
theorem zAeR {p q:Prop} (e:p=q:=by simp (disch:=omega) only [go_sem,hE,hH,y1_,y2_,y3_,y4_,y5_,y6_];rfl):q→p:=fun h=>e▸h
theorem zAeS {p q:Prop} (e:p=q:=by simp only [go_sem,hE,hH,y1_,y2_,y3_,y4_,y5_,y6_];rfl):q→p:=fun h=>e▸h
theorem zAeT {p:Prop} (h:p:=by (first|apply zAJ|apply zBo)<;>(simp only [go_sem,hE,hH,y1_,y2_,y3_,y4_,y5_,y6_];done)):True→p:=fun _=>h
theorem zAeU {P:Program} {E:Env} {s:St} {d:Option Nat} {g:Option (Nat×Bool)} {K:St→Prop} {f:Nat} {xs:List Operand} {q:Prop} (e:cv1 P E f d K s (zA6 s xs)=q:=by simp (disch:=omega) only [go_sem,hE,hH,y1_,y2_,y3_,y4_,y5_,y6_];rfl):q→zAn P E ⟨d,g, .call f xs⟩ K s:=fun h=>zAE (e▸h)
theorem zJo {p a b:Prop} (h1:a) (h2:b) (e:a→b→p:=by (with_reducible apply gaI);first|(exact zX5;exact zX5)|fail):p:=e h1 h2
theorem zAgl {p q:Prop} (h:q) (e:q→p:=by first|exact zAeU|fail):p:=e h
theorem zAah {P:Program} {s:St} {f:Nat} {us:List T} {vw:List Nat} {d:Option Nat} {K:St→Prop} {R:T→List T→Prop} {q:Prop} (hC:ACall P f us R) (h:q) (e:zEw R vw d K s=q:=by simp (disch:=omega) only [go_sem,hE,hH,y1_,y2_,y3_,y4_,y5_,y6_];rfl):CV P f us vw d K s:=cvA hC (e▸h)
theorem zJp {p:Prop} (h:p:=by first|(with_reducible exact ti)|exact zAfN|fail):p:=h
theorem zJq {p q:Prop} (h:q) (e:q→p:=by first|exact zAeR|exact zAeT|exact zAeS|fail):p:=e h
theorem zX6 {p Q a b:Prop} (q:p=Q:=by first|(simp only [nf];rfl)|rfl) (e:p→a=b:=by intro hb;have h:=hb;(try simp only [nf] at h);simp (disch:=omega) only [go_sem,hE,hH,zAj hcap,zAu hcap,zAo hcap,zAx hcap,zAp hcap,zBN hcap,zBO hcap,hb];rfl):(Q→b)→p→a:=fun h1 x=>(e x).symm▸h1 (q▸x)
theorem zAeV {p q:Prop} (e:p=q:=by simp (disch:=omega) only [go_sem,hE,hH,zAj hcap,zAu hcap,zAo hcap,zAx hcap,zAp hcap,zBN hcap,zBO hcap];rfl):q→p:=fun h=>e▸h
theorem zAeW {p q:Prop} (e:p=q:=by simp only [go_sem,hE,hH,zAj hcap,zAu hcap,zAo hcap,zAx hcap,zAp hcap,zBN hcap,zBO hcap];rfl):q→p:=fun h=>e▸h
theorem zAeX {p:Prop} (h:p:=by (first|apply zAJ|apply zBo)<;>(simp only [go_sem,hE,hH,zAj hcap,zAu hcap,zAo hcap,zAx hcap,zAp hcap,zBN hcap,zBO hcap];done)):True→p:=fun _=>h
theorem zQx {p a b:Prop} (h1:a) (h2:b) (e:a→b→p:=by (with_reducible apply gaI);first|(exact zX6;exact zX6)|fail):p:=e h1 h2
theorem zQy {p:Prop} (h:p:=by first|(with_reducible exact ti)|exact zAfO|fail):p:=h
theorem zQz {p q:Prop} (h:q) (e:q→p:=by first|exact zAeV|exact zAeX|exact zAeW|fail):p:=e h
def k1_:Nat:=1
@[go_sem,simp] theorem k1_eq:k1_=1:=rfl
def k2_:Nat:=2
@[go_sem,simp] theorem k2_eq:k2_=2:=rfl
def k3_:Nat:=3
@[go_sem,simp] theorem k3_eq:k3_=3:=rfl
def k4_:Nat:=4
@[go_sem,simp] theorem k4_eq:k4_=4:=rfl
def k5_:Nat:=5
@[go_sem,simp] theorem k5_eq:k5_=5:=rfl
def k6_:Nat:=6
@[go_sem,simp] theorem k6_eq:k6_=6:=rfl
def k8_:Nat:=8
@[go_sem,simp] theorem k8_eq:k8_=8:=rfl
def zWe:Nat:=10
@[go_sem,simp] theorem zAlo:zWe=10:=rfl
set_option maxRecDepth 20000 in
theorem Q1_ {p:Prop} (h:p:=by
 obtain ⟨w_Key,w_Val⟩:=hw
 have hm:=zAd
 refine fg z0_ fun E hE hH=> ?_
 try refine st ?_;try exact ⟨⟩
 first|refine zD7 (fun h=> ?_) (fun h=> ?_)|refine zD8 (fun h=> ?_) (fun h=> ?_)
 ·have hb:=h
  simp only [nf] at h
  try refine sb ?_;try exact ⟨⟩
  exact ⟨_,rfl,by omega,by omega⟩
 have hb:=h
 simp only [nf] at h
 try refine sb ?_;try exact ⟨⟩
 have p0:0≤left-(x.Key.size:Int):=by omega
 clear h hb
 try refine st ?_;try exact ⟨⟩
 first|refine zD7 (fun h=> ?_) (fun h=> ?_)|refine zD8 (fun h=> ?_) (fun h=> ?_)
 ·have hb:=h
  simp only [nf] at h
  try refine sb ?_;try exact ⟨⟩
  exact ⟨_,rfl,by omega,by omega⟩
 have hb:=h
 simp only [nf] at h
 try refine sb ?_;try exact ⟨⟩
 have p1:0≤(left-(x.Key.size:Int))-(x.Val.size:Int):=by omega
 clear h hb
 exact ⟨_,rfl,by omega,fun _=>by unfold z1_;omega⟩):p:=h
set_option maxRecDepth 20000 in
theorem Q2_ {p:Prop} (h:p:=by
 obtain ⟨hl,hx⟩:=hw
 have hm:=zAd
 refine fg z0_ fun E hE hH=> ?_
 try refine st ?_;try exact ⟨⟩
 repeat' (first|(refine qz ?_ ?_<;>intro h)|refine qy ?_|refine jn _ ?_ ?_|refine qu ?_ ?_|exact qe|refine qw ?_|fail)
 ·exact ⟨_,rfl,by omega,by omega⟩
 ·exact ⟨_,rfl,by omega,by omega⟩):p:=h
set_option maxRecDepth 20000 in
theorem Q3_ {p:Prop} (h:p:=by
 obtain ⟨hl,hx⟩:=hw
 have hm:=zAd
 refine fg z0_ fun E hE hH=> ?_
 try refine st ?_;try exact ⟨⟩
 repeat' (first|(refine qz ?_ ?_<;>intro h)|refine qy ?_|refine jn _ ?_ ?_|refine qu ?_ ?_|exact qe|refine qw ?_|fail)
 ·exact ⟨_,rfl,by omega,by omega⟩
 refine zAi l.length (fun j (n:Int)=>⟨[(0, .sl false z1_ (l.map (z2_ false))),(1,i64 n),(5,i64 j)],[]⟩) (fun j n=>0≤n∧n≤left∧n+l.length+zHY (z3_) l j=left) (left-(l.length:Int)) (by rw [zKj];omega) ?_
 intro j n hj hI
 obtain ⟨i1,i0,i2⟩:=hI
 try simp only [go_sem,hE,hH,z4_]
 first|refine zD7 (fun h=> ?_) (fun h=> ?_)|refine zD8 (fun h=> ?_) (fun h=> ?_)
 ·have hb:=h
  simp only [nf] at h
  have hlt:=h;clear h
  have hs:=hx _ (zAc hlt)
  try refine sb ?_;try exact ⟨⟩
  repeat refine And.intro (by omega) ?_
  refine zAE ?_;simp (disch:=omega) only [go_sem,hE,hH];refine cvA (z5_ (nth l j) n i1 (by omega) hs) ?_
  try simp only [go_sem,hE,hH]
  refine zAH ?_
  rintro r k ⟨q,rfl,q1,q2⟩
  try refine st ?_;try exact ⟨⟩
  repeat' (first|(refine qz ?_ ?_<;>intro h)|refine qy ?_|refine jn _ ?_ ?_|refine qu ?_ ?_|exact qe|refine qw ?_|fail)
  ·exact ⟨_,rfl,by omega,by omega⟩
  ·exact ⟨_,rfl,by omega,by omega,by have q2:=q2 (by omega);rw [zKk hlt];omega⟩
 ·have hb:=h
  simp only [nf] at h
  try refine sb ?_;try exact ⟨⟩
  exact ⟨_,rfl,by omega,fun _=>by rw [zL9 (by omega)] at i2;rw [show szL (z3_) l=l.length+(l.map (z3_)).sum from rfl];omega⟩):p:=h
set_option maxRecDepth 20000 in
theorem Q4_ {p:Prop} (h:p:=by
 unfold z0_ at hs
 refine fg z1_ fun E hE hH=> ?_
 repeat' (first|(refine qz ?_ ?_<;>intro h)|refine qy ?_|refine jn _ ?_ ?_|refine qu ?_ ?_|exact qe|refine qw ?_|fail)):p:=h
set_option maxRecDepth 20000 in
theorem Q5_ {p:Prop} (h:p:=by
 have hl0:l.length≤2^20:=Nat.le_trans zCz hl
 refine fg z0_ fun E hE hH=> ?_;refine st ?_
 refine And.intro (by omega) ?_
 rw [zCk (z1_ true)]
 refine zAi l.length (fun j (_:Unit)=>⟨[(0, .sl false 3 (l.map (z1_ false))),(3, .ref 4000000 0 l.length),(4,i64 j)],[(4000000,⟨3,cpy (z1_ true) [str ⟨⟨[]⟩⟩,str ⟨⟨[]⟩⟩,bl false] l j⟩)]⟩) (fun _ _=>True) () trivial ?_
 intro j _ hj _
 try simp only [go_sem,hE,hH,zIs]
 first|refine zD7 (fun h=> ?_) (fun h=> ?_)|refine zD8 (fun h=> ?_) (fun h=> ?_)
 ·have hb:=h
  simp only [nf] at h
  have hlt:=h;clear h
  have hs:=Nat.le_trans (zCM (f:=z2_) (zAc hlt)) hl
  try simp (disch:=omega) only [go_sem,hE,hH,hb,zAR,zAC]
  repeat' (first|(refine qz ?_ ?_<;>intro h)|refine qy ?_|refine qo ?_|refine cq (z3_ _ (by assumption)) ?_|refine jn _ ?_ ?_|refine qu ?_ ?_|exact qe|refine qw ?_|fail)
  try simp (disch:=omega) only [go_sem,hE,hH,zAR,zAC]
  repeat refine And.intro (by omega) ?_
  try simp (disch:=omega) only [go_sem,hE,hH,zAR,zAC]
  repeat refine And.intro (by omega) ?_
  first|refine ⟨(), ?_,trivial⟩|refine ⟨(), ?_⟩|skip
  have hc:=zCl (f:=z1_ true) (z:=[str ⟨⟨[]⟩⟩,str ⟨⟨[]⟩⟩,bl false]) hlt
  simp only [z4_] at hc ⊢
  rw [hc]
  rfl
 ·have hb:=h
  simp only [nf] at h
  try simp (disch:=omega) only [go_sem,hE,hH,hb,zCN]):p:=h
set_option maxRecDepth 20000 in
theorem Q6_ {p:Prop} (h:p:=by
 unfold z0_ at hs
 refine fg z1_ fun E hE hH=> ?_
 repeat' (first|(refine qz ?_ ?_<;>intro h)|refine qy ?_|refine qo ?_|refine cq (z2_ _ (by omega)) ?_|refine jn _ ?_ ?_|refine qu ?_ ?_|exact qe|refine qw ?_|fail)):p:=h
set_option maxRecDepth 20000 in
theorem Q7_ {p:Prop} (h:p:=by
 obtain ⟨hl,hx⟩:=hl
 have hm:=zAd
 refine fg z0_ fun E hE hH=> ?_
 repeat' (first|(refine qz ?_ ?_<;>intro h)|refine qy ?_|refine jn _ ?_ ?_|refine qu ?_ ?_|exact qe|refine qw ?_|fail)
 ·rw [decide_eq_false (fun e=>h (by rw [e]))]
 have hlen:l.length=m.length:=by omega
 clear h
 refine zAi l.length (fun j (_:Unit)=>⟨[(0, .sl false 1 (z1_ l)),(1, .sl false 1 (z1_ m)),(5,i64 j)],[]⟩) (fun j _=>decide (l=m)=decide (l.drop j=m.drop j)) () (by simp) ?_
 intro j _ hj hI
 try simp only [go_sem,hE,hH,zTk]
 first|refine zD7 (fun h=> ?_) (fun h=> ?_)|refine zD8 (fun h=> ?_) (fun h=> ?_)
 ·have hb:=h
  simp only [nf] at h
  have hlt:=h;clear h
  have hlm:j<m.length:=by omega
  rw [zN9 hlt hlm] at hI
  try refine sb ?_;try exact ⟨⟩
  repeat' (first|(refine qz ?_ ?_<;>intro h)|refine qy ?_|refine jn _ ?_ ?_|refine qu ?_ ?_|exact qe|refine qw ?_|fail)
  ·rw [hI];simp [h]
  ·exact ⟨(),rfl,by rw [hI];simp [h]⟩
 ·have hb:=h
  simp only [nf] at h
  try refine sb ?_;try exact ⟨⟩
  rw [hI,List.drop_of_length_le (by omega),List.drop_of_length_le (by omega)]
  rfl):p:=h
set_option maxRecDepth 20000 in
theorem Q8_ {p:Prop} (h:p:=by
 obtain ⟨hl,hx⟩:=hl
 have hm:=zAd
 refine fg z0_ fun E hE hH=> ?_
 repeat' (first|(refine qz ?_ ?_<;>intro h)|refine qy ?_|refine jn _ ?_ ?_|refine qu ?_ ?_|exact qe|refine qw ?_|fail)
 ·rw [decide_eq_false (fun e=>h (by rw [e]))]
 have hlen:l.length=m.length:=by omega
 clear h
 refine zAi l.length (fun j (_:Unit)=>⟨[(0, .sl false z1_ (l.map (z2_ false))),(1, .sl false z1_ (m.map (z2_ false))),(5,i64 j)],[]⟩) (fun j _=>decide (l=m)=decide (l.drop j=m.drop j)) () (by simp) ?_
 intro j _ hj hI
 try simp only [go_sem,hE,hH,z3_]
 first|refine zD7 (fun h=> ?_) (fun h=> ?_)|refine zD8 (fun h=> ?_) (fun h=> ?_)
 ·have hb:=h
  simp only [nf] at h
  have hlt:=h;clear h
  have hlm:j<m.length:=by omega
  rw [zN9 hlt hlm] at hI
  have hs:=hx _ (zAc hlt)
  try refine sb ?_;try exact ⟨⟩
  repeat' (first|(refine qz ?_ ?_<;>intro h)|refine qy ?_|refine qo ?_|refine cq (z4_ _ _ (by assumption)) ?_|refine jn _ ?_ ?_|refine qu ?_ ?_|exact qe|refine qw ?_|fail)
  ·rw [hI];simp [h]
  ·exact ⟨(),rfl,by rw [hI];simp [h]⟩
 ·have hb:=h
  simp only [nf] at h
  try refine sb ?_;try exact ⟨⟩
  rw [hI,List.drop_of_length_le (by omega),List.drop_of_length_le (by omega)]
  rfl):p:=h
set_option maxRecDepth 20000 in
theorem Q9_ {p:Prop} (h:p:=by
 refine zI2 (hqA z0_) (hqB z0_) ⟨by simp only [go_sem,zAj hcap,zAu hcap,zAo hcap,zAx hcap,zAp hcap],fun E hE hH=> ?_⟩;simp only [go_sem,zAj hcap,zAu hcap,zAo hcap,zAx hcap,zAp hcap] at hE hH;simp only [go_sem,hE,hH,zAj hcap,zAu hcap,zAo hcap,zAx hcap,zAp hcap,z1_]
 refine zHz (fun (x:Nat×Nat)=>⟨[(0, .sl false z2_ (l.map (z3_ false))),(1,z4_ key),(2, .fn f caps),(8,i64 l.length),(9,i64 x.1),(10,i64 x.2)],[]⟩) (fun x=>x.1≤x.2∧x.2≤l.length∧(∀ i,i<x.1→c (nth l i)<0)∧∀ i,x.2≤i→i<l.length→0≤c (nth l i)) (fun x=>x.2-x.1) (0,l.length) ⟨by simp,by simp,by simp,by simp;omega⟩ ?_
 rintro ⟨lo,hi⟩ ⟨i1,i2,i3,i4⟩
 simp only at i1 i2 i3 i4
 try simp only [go_sem,hE,hH,zAj hcap,zAu hcap,zAo hcap,zAx hcap,zAp hcap,z5_]
 first|refine zD7 (fun h=> ?_) (fun h=> ?_)|refine zD8 (fun h=> ?_) (fun h=> ?_)
 ·have hb:=h
  simp only [nf] at h
  have hlt:=h;clear h
  have e1:IntKind.u64.wrap (lo+hi)=lo+hi:=zAfH (by omega) (by omega)
  have e2:Int.fdiv ((lo:Int)+hi) 2=(((lo+hi)/2:Nat):Int):=by rw [Int.fdiv_eq_ediv_of_nonneg _ (by omega)];omega
  have hM:(lo+hi)/2<l.length:=by omega
  try simp (disch:=omega) only [go_sem,hE,hH,zAj hcap,zAu hcap,zAo hcap,zAx hcap,zAp hcap,hb,e1,shr1,e2]
  repeat refine And.intro (by omega) ?_
  refine zKh rfl rfl rfl (hent) (hcap) (hp _ (zAc hM)) ?_
  try simp (disch:=omega) only [go_sem,hE,hH,zAj hcap,zAu hcap,zAo hcap,zAx hcap,zAp hcap]
  repeat' (first|(refine zZP ?_ ?_<;>intro h)|refine qy ?_|refine jn _ ?_ ?_|refine qu ?_ ?_|exact zZQ|refine zZR ?_|fail)
  ·refine ⟨((lo+hi)/2+1,hi),rfl,⟨by simp only;omega,i2,fun i hi'=> ?_,i4⟩,by simp only;omega⟩
   simp only at hi'
   by_cases e:i=(lo+hi)/2
   ·rw [e];exact h
   ·have:=hm i ((lo+hi)/2) (by omega) hM
    omega
  ·refine ⟨(lo,(lo+hi)/2),rfl,⟨by simp only;omega,by simp only;omega,i3,fun i h1 h2=> ?_⟩,by simp only;omega⟩
   simp only at h1
   by_cases e:i=(lo+hi)/2
   ·rw [e];exact h
   ·exact hm ((lo+hi)/2) i (by omega) h2 h
 ·have hb:=h
  simp only [nf] at h
  have e0:hi=lo:=by omega
  subst e0
  have e3:=zAb7 i2 i3 i4
  try simp (disch:=omega) only [go_sem,hE,hH,zAj hcap,zAu hcap,zAo hcap,zAx hcap,zAp hcap,hb]
  first|refine zD7 (fun h2=> ?_) (fun h2=> ?_)|refine zD8 (fun h2=> ?_) (fun h2=> ?_)
  ·have hb2:=h2
   simp only [nf] at h2
   have hlt:hi<l.length:=by omega
   try simp (disch:=omega) only [go_sem,hE,hH,zAj hcap,zAu hcap,zAo hcap,zAx hcap,zAp hcap,hb2]
   repeat refine And.intro (by omega) ?_
   refine zKh rfl rfl rfl (hent) (hcap) (hp _ (zAc hlt)) ?_
   try simp (disch:=omega) only [go_sem,hE,hH,zAj hcap,zAu hcap,zAo hcap,zAx hcap,zAp hcap]
   simp [bsF,e3,hlt]
  ·try simp (disch:=omega) only [go_sem,hE,hH,zAj hcap,zAu hcap,zAo hcap,zAx hcap,zAp hcap,h2]
   simp only [nf] at h2
   simp [bsF,e3]
   omega):p:=h
set_option maxRecDepth 20000 in
theorem zO3 {p:Prop} (h:p:=by
 refine fg z0_ fun E hE hH=> ?_;refine st ?_
 refine zAbA ?_
 try refine st ?_;try exact ⟨⟩
 intro b hb
 cases b<;>try simp (disch:=omega) only [go_sem,hE,hH]
 all_goals first|omega|(simp_all;done)|(simp_all;exact ⟨by omega,fun a _=>rfl⟩)):p:=h
set_option maxRecDepth 20000 in
theorem zIf {p:Prop} (h:p:=by
 have hmx:=zAd
 refine zI2 (hqA z0_) (hqB z0_) ⟨by simp only [go_sem,zAj hcap,zAu hcap,zAo hcap,zAx hcap,zAp hcap],fun E hE hH=> ?_⟩;simp only [go_sem,zAj hcap,zAu hcap,zAo hcap,zAx hcap,zAp hcap] at hE hH;simp only [go_sem,hE,hH,zAj hcap,zAu hcap,zAo hcap,zAx hcap,zAp hcap,z1_]
 refine zAi l.length (fun j (_:Unit)=>⟨[(0, .sl false z2_ (l.map (z3_ false))),(1, .fn f caps),(7,i64 l.length),(8,i64 j)],[]⟩) (fun j _=>zAg (fun i=> !p (nth l i)) j=true) () rfl ?_
 intro j _ hj hI
 try simp only [go_sem,hE,hH,zAj hcap,zAu hcap,zAo hcap,zAx hcap,zAp hcap,z4_]
 first|refine zD7 (fun h=> ?_) (fun h=> ?_)|refine zD8 (fun h=> ?_) (fun h=> ?_)
 ·have hb:=h
  simp only [nf] at h
  have hlt:=h;clear h
  try simp (disch:=omega) only [go_sem,hE,hH,zAj hcap,zAu hcap,zAo hcap,zAx hcap,zAp hcap,hb]
  refine And.intro (by omega) ?_
  refine zKh rfl rfl rfl (hent) (hcap) (hp _ (zAc hlt)) ?_
  try simp (disch:=omega) only [go_sem,hE,hH,zAj hcap,zAu hcap,zAo hcap,zAx hcap,zAp hcap]
  repeat' (first|(refine zZP ?_ ?_<;>intro h)|refine qy ?_|refine jn _ ?_ ?_|refine qu ?_ ?_|exact zZQ|refine zZR ?_|fail)
  ·rw [zMR hlt hI h]
  ·exact ⟨(),rfl,zAa hI (by simp [h])⟩
 ·try simp (disch:=omega) only [go_sem,hE,hH,zAj hcap,zAu hcap,zAo hcap,zAx hcap,zAp hcap,h]
  simp only [nf] at h
  rw [show j=l.length by omega] at hI
  rw [zMa hI]):p:=h
set_option maxRecDepth 20000 in
theorem Q12_ {p:Prop} (h:p:=by
 have hmx:=zAd
 refine zRj [true,false,false] 0 3 (l.map (z0_ true)) (hqA z1_) (hqB z1_) (by simp only [go_sem,List.mem_cons,true_or,or_true]) (by simp only [go_sem]) ⟨by simp only [go_sem],fun E hE hH c hc hF=> ?_⟩;simp only [go_sem] at hE hH hc hF;simp only [go_sem,hE,hH,z2_]
 have e0:l.length+(c-l.length)=c:=by omega
 have hn:i.toNat≤l.length:=by omega
 have t1:((l.length:Int)+v.length-i).toNat=l.length+v.length-i.toNat:=by omega
 have t2:(i+(v.length:Int)).toNat=i.toNat+v.length:=by omega
 have t3:((l.length:Int)+v.length).toNat=l.length+v.length:=by omega
 have t4:i.toNat+(l.length+v.length-i.toNat)=l.length+v.length:=by omega
 have t5:l.length+v.length-(i.toNat+v.length)=l.length-i.toNat:=by omega
 have t6:min (l.length-i.toNat) (l.length+v.length-i.toNat)=l.length-i.toNat:=by omega
 have t7:i.toNat+(l.length-i.toNat)=l.length:=by omega
 have a1:=zEv (f:=z0_ true) (l:=l) (G:=List.replicate (c-l.length) (zBG 3)) (Nat.le_refl l.length)
 have a2:=zEv (f:=z0_ true) (l:=l) (G:=List.replicate (c-l.length) (zBG 3)) hn
 have a3:=zN3 (f:=z0_ true) (l:=l) (G:=List.replicate (c-l.length) (zBG 3)) hn
 have a4:v.take (l.length+v.length-i.toNat)=v:=List.take_of_length_le (by omega)
 have b1:=fun z=>zFq (f:=z0_ true) (g:=fun x=>(z0_ true) x) (v:=v) (z:=z) hn
 have b2:=fun z=>zLZ (f:=z0_ true) (g:=fun x=>(z0_ true) x) (v:=v) (z:=z) hn
 have b3:=fun z=>zKa (f:=z0_ true) (v:=v) (z:=z) hn
 have b4:=zN4 (f:=z0_ true) (v:=v) (l:=l)
 have d1:=fun z hc=>zG0 (f:=z0_ true) (m:=v.length) (c:=c) (z:=z) hn hc
 have d2:=fun z hc=>zL0 (f:=z0_ true) (g:=fun x=>(z0_ true) x) (v:=v) (c:=c) (z:=z) hn hc
 have d3:=fun z hc=>zL1 (f:=z0_ true) (v:=v) (c:=c) (z:=z) hn hc
 have t8:min (l.length+v.length-i.toNat) v.length=v.length:=by omega
 have t9:i.toNat+v.length+(l.length-i.toNat)=l.length+v.length:=by omega
 simp only [go_sem] at a1 a2 a3 b1 b2 b3 b4 d1 d2 d3
 all_goals (have y1_:=e0;have y2_:=t1;have y3_:=t2;have y4_:=t3;have y5_:=t4;have y6_:=t5;have y7_:=t6;have y8_:=t7;have y9_:=t8;have y10_:=t9;have y11_:=d1;have y12_:=d2;have y13_:=d3;have y14_:=a1;have y15_:=a2;have y16_:=a3;have y17_:=a4;have y18_:=b1;have y19_:=b2;have y20_:=b3;have y21_:=b4;repeat' (first|(refine qz3_ ?_ ?_<;>intro h)|refine qy ?_|refine jn _ ?_ ?_|refine qu ?_ ?_|exact qe3_|refine qw3_ ?_|fail))
 all_goals try (refine zQ7 rfl rfl rfl z3_ z4_ z5_ (by decide) (by simp only [List.length_map];omega) (by simp only [go_sem];omega) ?_)
 all_goals (have y1_:=e0;have y2_:=t1;have y3_:=t2;have y4_:=t3;have y5_:=t4;have y6_:=t5;have y7_:=t6;have y8_:=t7;have y9_:=t8;have y10_:=t9;have y11_:=d1;have y12_:=d2;have y13_:=d3;have y14_:=a1;have y15_:=a2;have y16_:=a3;have y17_:=a4;have y18_:=b1;have y19_:=b2;have y20_:=b3;have y21_:=b4;repeat' (first|(refine qz3_ ?_ ?_<;>intro h)|refine qy ?_|refine jn _ ?_ ?_|refine qu ?_ ?_|exact qe3_|refine qw3_ ?_|fail))
 ·have e:v=[]:=List.length_eq_zero_iff.1 (by omega)
  subst e
  rw [List.append_nil,List.take_append_drop]
 ·have e:i.toNat=l.length:=by omega
  rw [e,List.take_length,List.drop_length,List.append_nil,List.map_append]
  try rfl
 all_goals omega):p:=h
set_option maxRecDepth 20000 in
theorem zHr {p:Prop} (h:p:=by
 refine zI2 (hqA z0_) (hqB z0_) ⟨by simp only [go_sem,zAj hcap,zAu hcap,zAo hcap,zAx hcap,zAp hcap],fun E hE hH=> ?_⟩;simp only [go_sem,zAj hcap,zAu hcap,zAo hcap,zAx hcap,zAp hcap] at hE hH;simp only [go_sem,hE,hH,zAj hcap,zAu hcap,zAo hcap,zAx hcap,zAp hcap,zDG]
 refine zZX rfl (by simp only [zDD,zBT,vwT,zEO,zMQ hcap,Bool.false_eq_true,if_false];rfl) (z1_ l f caps p hent hcap hl hp) ?_
 try simp (disch:=omega) only [go_sem,hE,hH,zAj hcap,zAu hcap,zAo hcap,zAx hcap,zAp hcap,zK2,zWE hcap]):p:=h
set_option maxRecDepth 20000 in
theorem zSl {p:Prop} (h:p:=by
 refine fg z0_ fun E hE hH=> ?_
 repeat' (first|(refine qz ?_ ?_<;>intro h)|refine qy ?_|refine qo ?_|refine cq (z1_ _ _) ?_|refine jn _ ?_ ?_|refine qu ?_ ?_|exact qe|refine qw ?_|fail)):p:=h
set_option maxRecDepth 20000 in
theorem zO4 {p:Prop} (h:p:=by
 refine fg z0_ fun E hE hH=> ?_
 repeat' (first|(refine qz ?_ ?_<;>intro h)|refine qy ?_|refine qo ?_|refine cq (z1_ _ _ _) ?_|refine jn _ ?_ ?_|refine qu ?_ ?_|exact qe|refine qw ?_|fail)):p:=h
end Go.Am

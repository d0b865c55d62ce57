import Derived.Test.YthfpgpkdankdjaaGreatDoorAmAuto
import Derived.IntWalk
set_option linter.all false
namespace Go.Am
open Go Go.RowKit
section
variable {P:Program} {E:Env} {s:St} {d:Nat} {K:St→Prop} {Q:Exit→St→Prop}
@[go_sem] theorem zAkj:wsO P E [] K s=K s:=rfl
@[go_sem] theorem zAgL {d:Option Nat} {i:I} {r:List IN}:wsO P E (⟨d,none,i⟩::r) K s=zEQ P E d none i (wsO P E r K) s (zAe s i):=rfl
@[go_sem] theorem zAgM {d:Option Nat} {i:I} {r:List IN} {t:Nat} {b:Bool}:wsO P E (⟨d,some (t,b),i⟩::r) K s=grd (lk t s.slots) b (ws1 P E d (some (t,b)) i (wsO P E r K)) (skO (wsO P E r) d K) s:=rfl
@[go_sem] theorem s_1 {d:Option Nat} {g:Option (Nat×Bool)} {i:I}:ws1 P E d g i K s=zEQ P E d g i K s (zAe s i):=rfl
@[go_sem] theorem zAfz {d:Option Nat} {g:Option (Nat×Bool)} {i:I} {p:Prop} {t:T}:zEQ P E d g i K s (some (p,t))=(p∧K (s.put d t)):=rfl
@[go_sem] theorem zAfA {d:Option Nat} {g:Option (Nat×Bool)} {i:I}:zEQ P E d g i K s none=zRi P E d g i K s (zCr E s d i):=rfl
@[go_sem] theorem zAe2 {d:Option Nat} {g:Option (Nat×Bool)} {i:I} {p:Prop} {s':St}:zRi P E d g i K s (some (p,s'))=(p∧K s'):=rfl
@[go_sem] theorem zAe3 {d:Option Nat} {g:Option (Nat×Bool)} {i:I}:zRi P E d g i K s none=zAn P E ⟨d,g,i⟩ K s:=rfl
@[go_sem] theorem zAkU:wsS P E .skip Q s=Q .normal s:=rfl
@[go_sem] theorem s_ops {l:List IN}:wsS P E (.ops l) Q s=wsO P E l (Q .normal) s:=rfl
@[go_sem] theorem zAkV {l:List IN}:wsS P E (.dops l) Q s=wpQ P l (Q .normal) s:=rfl
@[go_sem] theorem zAkW {Q:Bool→Prop} {neg own:Bool} {k:Nat} {rows:List (List T)}:zQM Q neg (some (.sl own k rows))=∀ b:Bool,(b= !neg→rows=[])→Q b:=rfl
@[go_sem] theorem zAkX {Q:Bool→Prop} {neg:Bool} {id lo n:Nat}:zQM Q neg (some (.ref id lo n))=∀ b:Bool,(b= !neg→n=0)→Q b:=rfl
@[go_sem] theorem zAkY {Q:Bool→Prop} {neg:Bool}:zQM Q neg (some (.v (.slice none 0 0)))=Q (!neg):=rfl
attribute [go_sem] zCT
@[go_sem] theorem zAkZ {l:List (Option (List IN)×IN)}:wsS P E (.rops l) Q s=wsR P E l (Q .normal) s:=rfl
@[go_sem] theorem zAkk:wsR P E [] K s=K s:=rfl
@[go_sem] theorem zAgN {b:Option (List IN)} {d:Option Nat} {i:I} {r:List (Option (List IN)×IN)}:wsR P E ((b,⟨d,none,i⟩)::r) K s=zKe P E b d none i (wsR P E r K) s:=rfl
@[go_sem] theorem zAgO {b:Option (List IN)} {d:Option Nat} {i:I} {r:List (Option (List IN)×IN)} {t:Nat} {g:Bool}:wsR P E ((b,⟨d,some (t,g),i⟩)::r) K s=grd (lk t s.slots) g (zYF P E b d (some (t,g)) i (wsR P E r K)) (skR b (wsR P E r) d K) s:=rfl
@[go_sem] theorem s_R1 {b:Option (List IN)} {d:Option Nat} {g:Option (Nat×Bool)} {i:I}:zYF P E b d g i K s=zKe P E b d g i K s:=rfl
@[go_sem] theorem zAgP {d:Option Nat} {g:Option (Nat×Bool)} {i:I}:zKe P E none d g i K s=zL6 d K s (zAe s i):=rfl
@[go_sem] theorem zAgQ {l:List IN} {d:Option Nat} {g:Option (Nat×Bool)} {i:I}:zKe P E (some l) d g i K s=zEQ P E d g i (rrK l K) s (zAe s i):=rfl
@[go_sem] theorem zAk0 {d:Option Nat} {p:Prop} {t:T}:zL6 d K s (some (p,t))=(p∧K (s.put d t)):=rfl
@[go_sem] theorem zAkl {f:(St→Prop)→St→Prop} {d:Option Nat}:skR none f d K s=f K (s.put d (.tup [])):=rfl
@[go_sem] theorem zAkm {l:List IN} {f:(St→Prop)→St→Prop} {d:Option Nat}:skR (some l) f d K s=rrK l (f K) (s.put d (.tup [])):=rfl
@[go_sem] theorem s_rrK {l:List IN}:rrK l K s=(rrL l s∧K s):=rfl
@[go_sem] theorem zAk1:rrL [] s=True:=rfl
@[go_sem] theorem zAk2 {d:Option Nat} {i:I} {l:List IN}:rrL (⟨d,none,i⟩::l) s=(rr1 d s (zAe s i)∧rrL l s):=rfl
@[go_sem] theorem zAk3 {d:Option Nat} {i:I} {t:Nat} {g:Bool} {l:List IN}:rrL (⟨d,some (t,g),i⟩::l) s=(grd (lk t s.slots) g (rrG d i) (same d (.tup [])) s∧rrL l s):=rfl
@[go_sem] theorem s_rrG {d:Option Nat} {i:I}:rrG d i s=rr1 d s (zAe s i):=rfl
@[go_sem] theorem s_rr1 {d:Option Nat} {p:Prop} {t:T}:rr1 d s (some (p,t))=(p∧same d t s):=rfl
@[go_sem] theorem zAkn {t:T}:same none t s=True:=rfl
@[go_sem] theorem zAko {n:Nat} {t:T}:same (some n) t s=(lk n s.slots=some t):=rfl
@[go_sem] theorem s_seq {a b:AS}:wsS P E (.seq a b) Q s=wsS P E a (zLR (wsS P E b) Q) s:=rfl
@[go_sem] theorem s_cond {x:Operand} {a b:AS}:wsS P E (.cond x a b) Q s=grc (s.eval x) (wsS P E a Q) (wsS P E b Q) s:=rfl
@[go_sem] theorem zAk4 {na:Nat} {L:List (Nat×Nat)} {b:AS}:wsS P E (.loop na L b) Q s=zYE P E na L b Q (canon E na L s):=rfl
@[go_sem] theorem zAkp {id:Nat} {b:AS}:wsS P E (.block id b) Q s=wsS P E b (zEM id Q) s:=rfl
@[go_sem] theorem s_exit {id:Nat}:wsS P E (.exit id) Q s=Q (.exit id) s:=rfl
@[go_sem] theorem s_ret:wsS P E .ret Q s=Q .ret s:=rfl
@[go_sem] theorem zAk5 {L:List Nat} {b:AS}:wsS P E (.kept L b) Q s=wsS P E b Q (s.fin0 L):=rfl
@[go_sem] theorem zAk6 {L:List (Nat×Nat)} {t:RT}:wsS P E (.tops L t) Q s=Jn (fun I=>wsT P E t (zHy L I) s) (Q .normal):=rfl
@[go_sem] theorem zAgR:wsT P E .done K s=K s:=rfl
@[go_sem] theorem zAkq {d:Option Nat} {i:I} {r:RT}:wsT P E (.rd ⟨d,none,i⟩ r) K s=zL6 d (wsT P E r K) s (zAe s i):=rfl
@[go_sem] theorem zAkr {d:Option Nat} {i:I} {r:RT} {t:Nat} {g:Bool}:wsT P E (.rd ⟨d,some (t,g),i⟩ r) K s=grd (lk t s.slots) g (zUS d i (wsT P E r K)) (skO (wsT P E r) d K) s:=rfl
@[go_sem] theorem s_P1 {d:Option Nat} {i:I}:zUS d i K s=zL6 d K s (zAe s i):=rfl
@[go_sem] theorem s_T1 {l:List IN} {d:Option Nat} {g:Option (Nat×Bool)} {i:I}:zN7 P E l d g i K s=zEQ P E d g i (rrK l K) s (zAe s i):=rfl
@[go_sem] theorem s_skT {l:List IN} {f:(St→Prop)→St→Prop} {d:Option Nat}:skT l f d K s=rrK l (f K) (s.put d (.tup [])):=rfl
@[go_sem] theorem zAk7 {l:List IN} {d:Option Nat} {i:I} {r:RT}:wsT P E (.alt l ⟨d,none,i⟩ r .none) K s=zEQ P E d none i (rrK l (wsT P E r K)) s (zAe s i):=by
 simp [wsT,Both,zN7]
@[go_sem] theorem zAk8 {l:List IN} {d:Option Nat} {i:I} {r:RT} {t:Nat} {g:Bool}:wsT P E (.alt l ⟨d,some (t,g),i⟩ r .none) K s=grd (lk t s.slots) g (zN7 P E l d (some (t,g)) i (wsT P E r K)) (skT l (wsT P E r) d K) s:=by
 simp [wsT,Both]
@[go_sem] theorem zAk9 {l l2:List IN} {d:Option Nat} {i:I} {r r2 o:RT} {x2:IN}:wsT P E (.alt l ⟨d,none,i⟩ r (.alt l2 x2 r2 o)) K s=Both (zEQ P E d none i (rrK l (wsT P E r K)) s (zAe s i)) (wsT P E (.alt l2 x2 r2 o) K s):=rfl
@[go_sem] theorem zAla {l l2:List IN} {d:Option Nat} {i:I} {r r2 o:RT} {x2:IN} {t:Nat} {g:Bool}:wsT P E (.alt l ⟨d,some (t,g),i⟩ r (.alt l2 x2 r2 o)) K s=Both (grd (lk t s.slots) g (zN7 P E l d (some (t,g)) i (wsT P E r K)) (skT l (wsT P E r) d K) s) (wsT P E (.alt l2 x2 r2 o) K s):=rfl
@[go_sem] theorem zAlb {ms:List (Nat×Nat×List (Nat×Nat))} {a:AS}:wsS P E (.post ms a) Q s=wsS P E a (zMM ms Q) s:=rfl
@[go_sem] theorem zAgS {ms:List (Nat×Nat×List (Nat×Nat))}:zMM ms Q .normal s=zKd (Q .normal) (zEu ms (True,s)):=rfl
@[go_sem] theorem zAgT {ms:List (Nat×Nat×List (Nat×Nat))}:zMM ms Q .ret s=Q .ret s:=rfl
@[go_sem] theorem zAgU {ms:List (Nat×Nat×List (Nat×Nat))} {id:Nat}:zMM ms Q (.exit id) s=Q (.exit id) s:=rfl
@[go_sem] theorem s_pre {l:List IN} {x new:Nat} {a:AS}:wsS P E (.pre l x new a) Q s=zKd (wsS P E a Q) (zN6 E s l x new):=rfl
@[go_sem] theorem s_lay {ms:List (Nat×Nat×List (Nat×Nat))} {a:AS}:wsS P E (.lay ms a) Q s=zKd (wsS P E a Q) (zEu ms (True,s)):=rfl
attribute [go_sem] zN6 zUR preP preO zYC Option.isSome_some
@[go_sem] theorem zAlc {p:Prop} {s':St}:zKd K (p,s')=(p∧K s'):=rfl
attribute [go_sem] mrkP zEu zN1 zLV zJ6 zQ3 zYo cls3 St.close1 St.nil1 zDL zD9 zLU St.open1
@[go_sem] theorem zAld {na:Nat} {L:List (Nat×Nat)} {b:AS} {p:Prop} {s':St}:zYE P E na L b Q (p,s')=(p∧zMN P E na L b Q s'):=rfl
@[go_sem] theorem zAks {σ:Type} {n j:Nat} {F:Nat→σ→St} {I:Nat→σ→Prop} {p:Prop} {s':St}:zUT n F I j (p,s')=(p∧j<n∧∃ x,s'=F (j+1) x∧I (j+1) x):=rfl
@[go_sem] theorem zAgV {σ:Type} {na:Nat} {L:List (Nat×Nat)} {n j:Nat} {F:Nat→σ→St} {I:Nat→σ→Prop}:zMO E na L n F I j Q .normal s=zUT n F I j (canon E na L s):=rfl
@[go_sem] theorem zAgW {σ:Type} {na:Nat} {L:List (Nat×Nat)} {n j:Nat} {F:Nat→σ→St} {I:Nat→σ→Prop}:zMO E na L n F I j Q .ret s=Q .ret s:=rfl
@[go_sem] theorem zAgX {σ:Type} {na:Nat} {L:List (Nat×Nat)} {n j id:Nat} {F:Nat→σ→St} {I:Nat→σ→Prop}:zMO E na L n F I j Q (.exit id) s=Q (.exit id) s:=rfl
@[go_sem] theorem zAkt {σ:Type} {x:σ} {m:σ→Nat} {F:σ→St} {I:σ→Prop} {p:Prop} {s':St}:zUU F I m x (p,s')=(p∧∃ y,s'=F y∧I y∧m y<m x):=rfl
@[go_sem] theorem zAgu {σ:Type} {na:Nat} {L:List (Nat×Nat)} {x:σ} {m:σ→Nat} {F:σ→St} {I:σ→Prop}:zMP E na L F I m x Q .normal s=zUU F I m x (canon E na L s):=rfl
@[go_sem] theorem zAgv {σ:Type} {na:Nat} {L:List (Nat×Nat)} {x:σ} {m:σ→Nat} {F:σ→St} {I:σ→Prop}:zMP E na L F I m x Q .ret s=Q .ret s:=rfl
@[go_sem] theorem zAgw {σ:Type} {na:Nat} {L:List (Nat×Nat)} {id:Nat} {x:σ} {m:σ→Nat} {F:σ→St} {I:σ→Prop}:zMP E na L F I m x Q (.exit id) s=Q (.exit id) s:=rfl
@[go_sem] theorem zAle {f:Nat} {xs:List Operand}:zAe s (.call f xs)=none:=rfl
@[go_sem] theorem zAku {f:Nat} {xs:List Operand}:zAe s (.xcall f xs)=none:=rfl
@[go_sem] theorem p_bad {x:Operand}:zAe s (.bad x)=none:=rfl
@[go_sem] theorem zAkv {x:Operand} {xs:List Operand}:zAe s (.callv x xs)=none:=rfl
@[go_sem] theorem zAkw {z:Value}:zAe s (.alloc z)=none:=rfl
@[go_sem] theorem p_box {x:Operand}:zAe s (.box x)=none:=rfl
@[go_sem] theorem zAkx {m:Nat} {x v:Operand}:zAe s (.store m x v)=none:=rfl
@[go_sem] theorem p_bsl {k n:Nat} {z:Value} {ps:List (Nat×Operand)}:zAe s (.bsl k z n ps)=none:=rfl
@[go_sem] theorem p_mks {k n:Nat} {z:Value} {x y:Operand}:zAe s (.mks k n z x y)=none:=rfl
@[go_sem] theorem p_app {k n:Nat} {z:Value} {x y:Operand}:zAe s (.app k n z x y)=none:=rfl
@[go_sem] theorem zAlf {d:Option Nat} {f:Nat} {xs:List Operand}:zCr E s d (.call f xs)=none:=by cases d<;>rfl
@[go_sem] theorem zAky {d:Option Nat} {f:Nat} {xs:List Operand}:zCr E s d (.xcall f xs)=none:=by cases d<;>rfl
@[go_sem] theorem f_bad {d:Option Nat} {x:Operand}:zCr E s d (.bad x)=none:=by cases d<;>rfl
@[go_sem] theorem zAkz {d:Option Nat} {x:Operand} {xs:List Operand}:zCr E s d (.callv x xs)=none:=by cases d<;>rfl
@[go_sem] theorem zAkA {z:Value}:zCr E s (some d) (.alloc z)=some (E.okd d∧zAk d s.objs,(s.new d ⟨(zAz z).length,[zAz z]⟩).set d (.ptr d 0 0)):=rfl
def fBox (E:Env) (s:St) (d:Nat) (t:T):Option (List T)→Option (Prop×St)
 |some row=>some (t.plainV=true∧E.okd d∧zAk d s.objs∧zAD d row,(s.new d ⟨row.length,[row]⟩).set d (.ptr d 0 0))
 |none=>none
def zUV (E:Env) (s:St) (d:Nat):Option T→Option (Prop×St)
 |some t=>fBox E s d t t.cells
 |none=>none
@[go_sem] theorem f_box {x:Operand}:zCr E s (some d) (.box x)=zUV E s d (s.eval x):=by
 simp only [zCr]
 cases s.eval x with
 |none=>rfl
 |some t=>simp only [zUV];cases t.cells<;>rfl
def zZY (s:St) (id j q n:Nat) (t:T):Option Ob→Option (List T)→Option (Prop×St)
 |some ob,some cs=>some (cs.length=n∧t.plainV=true∧cs.all T.storable=true∧j<ob.rows.length∧q+n≤ob.k,s.upd id ⟨ob.k,zDh ob.rows j q cs⟩)
 |_,_=>none
def zYJ (s:St) (n:Nat):Option T→Option T→Option (Prop×St)
 |some (.ptr id j q),some t=>zZY s id j q n t (lk id s.objs) t.cells
 |_,_=>none
@[go_sem] theorem zAkB {n:Nat} {x v:Operand}:zCr E s none (.store n x v)=zYJ s n (s.eval x) (s.eval v):=by
 simp only [zCr]
 cases s.eval x with
 |none=>rfl
 |some p=>cases s.eval v with
  |none=>cases p<;>rfl
  |some t=>
   cases p with
   |ptr id j q=>simp only [zYJ];cases lk id s.objs<;>cases t.cells<;>rfl
   |_=>rfl
def zZZ (E:Env) (s:St) (d k n:Nat) (l:List (Nat×Nat×T)):Option (List T)→Option (Prop×St)
 |some flat=>some (l.all (fun q=>q.2.2.plainV)=true∧flat.length=n*k∧E.okd d∧zAk d s.objs∧zAy d (chunks k n flat),(s.new d ⟨k,chunks k n flat⟩).set d (.ref d 0 n))
 |none=>none
def zYK (E:Env) (s:St) (d k n:Nat):Option (List (Nat×Nat×T))→Option (Prop×St)
 |some l=>zZZ E s d k n l (zEr (List.replicate (n*k) .any) l)
 |none=>none
@[go_sem] theorem f_bsl {k n:Nat} {z:Value} {parts:List (Nat×Operand)}:zCr E s (some d) (.bsl k z n parts)=zYK E s d k n (zDx s k parts):=by
 simp only [zCr]
 cases zDx s k parts with
 |none=>rfl
 |some l=>simp only [zYK];cases zEr (List.replicate (n*k) .any) l<;>rfl
def fMks (E:Env) (s:St) (d k bytes:Nat) (z:Value):Option T→Option T→Option (Prop×St)
 |some (.v (.int _ l)),some (.v (.int _ c))=>some ((0≤l∧l≤c∧c≤9223372036854775807∧bytes*c≤281474976710656)∧(zAz z).length=k∧E.okd d∧zAk d s.objs,(s.new d ⟨k,List.replicate l.toNat (zAz z)⟩).set d (.ref d 0 l.toNat))
 |_,_=>none
@[go_sem] theorem f_mks {k bytes:Nat} {z:Value} {x y:Operand}:zCr E s (some d) (.mks k bytes z x y)=fMks E s d k bytes z (s.eval x) (s.eval y):=rfl
def fApp (E:Env) (s:St) (d k bytes:Nat):Option T→Option T→Option (Prop×St)
 |some tx,some ty=>bif zMK tx ty then zA0 s d k (lkT s tx) tx ty else appG E s d k bytes ty (zIM s k tx) (zEt s k ty)
 |_,_=>none
@[go_sem] theorem f_app {k bytes:Nat} {z:Value} {x y:Operand}:zCr E s (some d) (.app k bytes z x y)=fApp E s d k bytes (s.eval x) (s.eval y):=by
 simp only [zCr]
 cases s.eval x with
 |none=>rfl
 |some tx=>cases s.eval y<;>rfl
def fApz (E:Env) (s:St) (d k bytes:Nat) (z:Value):Option T→Option T→Option (Prop×St)
 |some (.ref id lo n),some (.v (.int _ m))=>zUO E s d k bytes z id lo n m (lk id s.objs)
 |_,_=>none
@[go_sem] theorem f_apz {k bytes:Nat} {z:Value} {x y:Operand}:zCr E s (some d) (.apz k bytes z x y)=fApz E s d k bytes z (s.eval x) (s.eval y):=rfl
def fClr (s:St) (k:Nat) (z:Value):Option T→Option (Prop×St)
 |some (.ref id lo n)=>zUL s k z id lo n (lk id s.objs)
 |_=>none
@[go_sem] theorem f_clr {k:Nat} {z:Value} {x:Operand}:zCr E s none (.clr k z x)=fClr s k z (s.eval x):=rfl
def fCap (E:Env) (s:St) (d:Option Nat):Option T→Option (Prop×St)
 |some (.ref id lo n)=>zUM E s d id lo n (lk id s.objs)
 |_=>none
@[go_sem] theorem zAlg {d:Option Nat} {x:Operand}:zCr E s d (.capo x)=fCap E s d (s.eval x):=by cases d<;>rfl
def fCpy (s:St) (d:Option Nat) (k:Nat):Option T→Option T→Option (Prop×St)
 |some (.ref id lo n),some ty=>zUN s d k id lo n ty (lk id s.objs) (zEt s k (zLX n ty))
 |_,_=>none
@[go_sem] theorem f_cpy {d:Option Nat} {k:Nat} {x y:Operand}:zCr E s d (.cpy k x y)=fCpy s d k (s.eval x) (s.eval y):=by cases d<;>rfl
@[go_sem] theorem p_apz {k n:Nat} {z:Value} {x y:Operand}:zAe s (.apz k n z x y)=none:=rfl
@[go_sem] theorem p_clr {k:Nat} {z:Value} {x:Operand}:zAe s (.clr k z x)=none:=rfl
@[go_sem] theorem zAlh {x:Operand}:zAe s (.capo x)=none:=rfl
@[go_sem] theorem p_cpy {k:Nat} {x y:Operand}:zAe s (.cpy k x y)=none:=rfl
attribute [go_sem] mvC mvS mvP zYs zNQ T.mov zMK lkT zA0 appG zUL zUM zUN zUO fApp fApz fClr fCap fCpy zLX zLY zGY zQ8 trm1 St.re zBG true_or or_true
def fLd2 (E:Env) (s:St) (d:Nat) (m:Option Nat) (id i o:Nat):Option Ob→Option (Prop×St)
 |some ob=>ldE E s d m id i o (i<ob.rows.length) (zAS m ((ob.rows.getD i []).drop o))
 |none=>none
def fLd (E:Env) (s:St) (d:Nat) (m:Option Nat):Option T→Option (Prop×St)
 |some (.ptr id i o)=>fLd2 E s d m id i o (lk id s.objs)
 |_=>none
@[go_sem] theorem zAli {m:Option Nat} {x:Operand}:zCr E s (some d) (.load m x)=fLd E s d m (s.eval x):=by
 simp only [zCr]
 cases s.eval x with
 |none=>rfl
 |some t=>
  cases t with
  |ptr id i o=>simp only [fLd];cases lk id s.objs<;>rfl
  |_=>rfl
attribute [go_sem] fLd fLd2 ldE Option.isNone_none Option.isNone_some
attribute [go_sem] fBox zUV zYJ zZY zYK zZZ fMks zIM zEt List.take_nil List.take_length
@[go_sem] theorem zAb1 {α β:Type} {f:α→β} {l:List α}:(l.map f).take l.length=l.map f:=by
 rw [List.take_of_length_le (by simp)]
@[go_sem] theorem nbeq (a b:Nat):Nat.beq a b=decide (a=b):=by
 rw [Bool.eq_iff_iff];simp
@[go_sem] theorem nbne (a b:Nat):(a !=b)= !decide (a=b):=by
 rw [Bool.eq_iff_iff];simp
@[go_sem] theorem nble (a b:Nat):Nat.ble a b=decide (a≤b):=by
 rw [Bool.eq_iff_iff];simp
@[go_sem] theorem nblt (a b:Nat):Nat.blt a b=decide (a<b):=by
 rw [Bool.eq_iff_iff];simp
attribute [go_sem] decide_true decide_false and_self Nat.zero_add Nat.add_zero Int.cast_ofNat_Int Int.toNat_natCast List.length_map List.length_replicate List.length_append forall_eq exists_eq_right List.drop_zero List.nil_append List.filter_nil List.filter_cons List.replicate_zero List.replicate_succ
theorem zWw {d:Nat}:zAy d []↔True:=by simp [zAy]
theorem zUW {d:Nat} {r:List T} {rs:List (List T)}:zAy d (r::rs)↔zAD d r∧zAy d rs:=by simp [zAy]
theorem zYL {d:Nat} {rows:List (List T)} (h:zAv rows):zAy d rows↔True:=⟨fun _=>trivial,fun _=>zCS d h⟩
theorem zAb2:zAv []↔True:=by simp [zAv]
theorem zAaH {r:List T} {rs:List (List T)}:zAv (r::rs)↔zAA r∧zAv rs:=by simp [zAv]
theorem zWx {a b:List (List T)}:zAv (a++b)↔zAv a∧zAv b:=by
 simp only [zAv,List.mem_append]
 exact ⟨fun h=>⟨fun r hr=>h r (.inl hr),fun r hr=>h r (.inr hr)⟩,fun h r hr=>hr.elim (h.1 r) (h.2 r)⟩
theorem zIq {α:Type} {f:α→List T} {l:List α}:zAv (l.map f)↔∀ x∈l,zAA (f x):=by simp [zAv]
theorem zWy {n:Nat} {r:List T}:zAv (List.replicate n r)↔n=0∨zAA r:=by
 simp only [zAv,List.mem_replicate]
 constructor
 ·intro h
  by_cases e:n=0
  ·exact .inl e
  ·exact .inr (h r ⟨e,rfl⟩)
 ·rintro h x ⟨h1,rfl⟩
  exact h.resolve_left h1
theorem zKi {d:Nat} {a b:List (List T)}:zAy d (a++b)↔zAy d a∧zAy d b:=by
 simp only [zAy,List.mem_append]
 exact ⟨fun h=>⟨fun r hr=>h r (.inl hr),fun r hr=>h r (.inr hr)⟩,fun h r hr=>hr.elim (h.1 r) (h.2 r)⟩
theorem zHD {α:Type} {d:Nat} {f:α→List T} {l:List α}:zAy d (l.map f)↔∀ x∈l,zAD d (f x):=by simp [zAy]
theorem zPo {d n:Nat} {r:List T}:zAy d (List.replicate n r)↔n=0∨zAD d r:=by
 simp only [zAy,List.mem_replicate]
 constructor
 ·intro h
  by_cases e:n=0
  ·exact .inl e
  ·exact .inr (h r ⟨e,rfl⟩)
 ·rintro h x ⟨h1,rfl⟩
  exact h.resolve_left h1
theorem zPp {d:Nat} {rows:List (List T)} {i:Nat} {r:List T} (h1:zAy d rows) (h2:zAD d r):zAy d (rows.set i r)↔True:=by
 refine ⟨fun _=>trivial,fun _ x hx=> ?_⟩
 rcases List.mem_or_eq_of_mem_set hx with hx|rfl
 ·exact h1 x hx
 ·exact h2
theorem zUX {d:Nat} {rows:List (List T)} {n:Nat} (h:zAy d rows):zAy d (rows.take n)↔True:=⟨fun _=>trivial,fun _ x hx=>h x (List.mem_of_mem_take hx)⟩
theorem zUY {d:Nat} {rows:List (List T)} {n:Nat} (h:zAy d rows):zAy d (rows.drop n)↔True:=⟨fun _=>trivial,fun _ x hx=>h x (List.mem_of_mem_drop hx)⟩
theorem zWz {d:Nat} {a b:List (List T)}:zDj d (a++b)↔zDj d a∧zDj d b:=by
 simp only [zDj,List.mem_append]
 exact ⟨fun h=>⟨fun r hr=>h r (.inl hr),fun r hr=>h r (.inr hr)⟩,fun h r hr=>hr.elim (h.1 r) (h.2 r)⟩
theorem zWA {α:Type} {d:Nat} {f:α→List T} {l:List α}:zDj d (l.map f)↔∀ x∈l,ltL d (f x):=by simp [zDj]
theorem zWB {d n:Nat} {r:List T}:zDj d (List.replicate n r)↔n=0∨ltL d r:=by
 simp only [zDj,List.mem_replicate]
 constructor
 ·intro h
  by_cases e:n=0
  ·exact .inl e
  ·exact .inr (h r ⟨e,rfl⟩)
 ·rintro h x ⟨h1,rfl⟩
  exact h.resolve_left h1
theorem zPq {d d':Nat} {a b:List (List T)}:zBf d d' (a++b)=zBf d d' a++zBf d d' b:=by simp [zBf]
theorem zPr {α:Type} {d d':Nat} {f:α→List T} {l:List α}:zBf d d' (l.map f)=l.map fun x=>zC9 d d' (f x):=by simp [zBf,Function.comp_def]
theorem zPs {d d' n:Nat} {r:List T}:zBf d d' (List.replicate n r)=List.replicate n (zC9 d d' r):=by simp [zBf]
theorem zWC {d d':Nat} {rows:List (List T)} {i:Nat} {r:List T}:zBf d d' (rows.set i r)=(zBf d d' rows).set i (zC9 d d' r):=by simp [zBf,List.map_set]
theorem zUZ {d d' n:Nat} {rows:List (List T)}:zBf d d' (rows.take n)=(zBf d d' rows).take n:=by simp [zBf,List.map_take]
theorem zU0 {d d' n:Nat} {rows:List (List T)}:zBf d d' (rows.drop n)=(zBf d d' rows).drop n:=by simp [zBf,List.map_drop]
@[go_sem] theorem zAkC {r q:List T}:zAl [r] 0 (List.replicate 1 q)=[q]:=rfl
@[go_sem] theorem zAfB {d:Nat} {rows:List (List T)} {i n:Nat} {q:List T}:zAy d (zAl rows i (List.replicate n q))↔zAy d (rows.take i)∧zAy d (List.replicate n q)∧zAy d (rows.drop (i+n)):=by
 unfold zAl zAy
 simp only [List.length_replicate,List.mem_append,or_imp,forall_and,and_assoc]
attribute [go_sem] zKi zHD zPo zPp zUX zUY zWz zWA zWB zPq zPr zPs zWC zUZ zU0 implies_true or_true
theorem zWD {rows:List (List T)} {i:Nat} {r:List T} (h1:zAv rows) (h2:zAA r):zAv (rows.set i r)↔True:=by
 refine ⟨fun _=>trivial,fun _ x hx=> ?_⟩
 rcases List.mem_or_eq_of_mem_set hx with hx|rfl
 ·exact h1 x hx
 ·exact h2
theorem zAaI {rows:List (List T)} {n:Nat} (h:zAv rows):zAv (rows.take n)↔True:=⟨fun _=>trivial,fun _ x hx=>h x (List.mem_of_mem_take hx)⟩
theorem zAaJ {rows:List (List T)} {n:Nat} (h:zAv rows):zAv (rows.drop n)↔True:=⟨fun _=>trivial,fun _ x hx=>h x (List.mem_of_mem_drop hx)⟩
theorem zAb3 {B:Nat}:zDj B []↔True:=by simp [zDj]
theorem zAaK {B:Nat} {r:List T} {rs:List (List T)}:zDj B (r::rs)↔ltL B r∧zDj B rs:=by simp [zDj]
theorem zAfC {B:Nat} {rows:List (List T)} (h:zAv rows):zDj B rows↔True:=⟨fun _=>trivial,fun _=>zSu h⟩
attribute [go_sem] zWw zUW zYL zAb2 zAaH zWx zIq zWy zWD zAaI zAaJ zAb3 zAaK zAfC
attribute [go_sem] cv1 cv2 cm1 cm2 nodupB zLT zAaF zAaG exists_eq_left' Option.map_some Option.map_none
attribute [go_sem] zNR zUA List.length_cons List.length_nil zIo T.lt ltL zKf zGH zF9 zHB zRk zQq zYH
@[go_sem] theorem zAkD {X r:T} {l:List T}:zFs (fun r _=>r=X) r l↔zAX r X:=by
 constructor
 ·rintro ⟨r',h,rfl⟩;exact h
 ·intro h;exact ⟨X,h,rfl⟩
@[go_sem] theorem zAgY {X r:T} {l:List T} {C:List T→Prop}:zFs (fun r l=>r=X∧C l) r l↔zAX r X∧C l:=by
 constructor
 ·rintro ⟨r',h,rfl,h2⟩;exact ⟨h,h2⟩
 ·intro h;exact ⟨X,h.1,rfl,h.2⟩
@[go_sem] theorem zAkE {α:Type} {X:α→T} {C:α→Prop} {r:T} {l:List T}:zFs (fun r _=>∃ n,r=X n∧C n) r l↔∃ n,zAX r (X n)∧C n:=by
 constructor
 ·rintro ⟨r',h,n,rfl,h2⟩;exact ⟨n,h,h2⟩
 ·rintro ⟨n,h,h2⟩;exact ⟨X n,h,n,rfl,h2⟩
theorem zGa (t:T):zAX t t:=by
 have key:∀ t:T,zAX t t:=by
  intro t
  refine T.rec (motive_1:=fun t=>zAX t t) (motive_2:=fun l=>zBi l l) (motive_3:=fun _=>True) ?_ ?_ ?_ ?_ ?_ ?_ ?_ ?_ ?_ ?_ ?_ ?_ ?_ t
  ·simp [zAX]
  ·intro x;unfold zAX;split<;>simp_all
  ·intro row ih;simp only [zAX];exact ih
  ·intro row ih;simp only [zAX];exact ih
  ·intros;simp [zAX]
  ·intros;simp [zAX]
  ·intros;simp [zAX]
  ·intros;simp [zAX]
  ·intros;simp [zAX]
  ·simp [zBi]
  ·intro t ts h1 h2;simp only [zBi];exact ⟨h1,h2⟩
  ·trivial
  ·intros;trivial
 exact key t
theorem zAaL {R:T→List T→Prop} {r:T} {l:List T} (h:R r l):zFs R r l:=⟨r,zGa r,h⟩
@[go_sem] theorem zAkF {o:Bool} {k:Nat} {rows:List (List T)}:zAX (.v (.slice none 0 0)) (.sl o k rows)↔rows=[]:=by simp [zAX]
@[go_sem] theorem nle_v {x y:Value}:zAX (.v x) (.v y)↔T.v x=T.v y:=by
 unfold zAX;split<;>simp_all
@[go_sem] theorem zAlj {o o':Bool} {k k':Nat} {rows rows':List (List T)}:zAX (.sl o k rows) (.sl o' k' rows')↔T.sl o k rows=T.sl o' k' rows':=by
 unfold zAX;exact Iff.rfl
@[go_sem] theorem zAlk {o o':Bool} {q q':Nat} {row row':List T}:zAX (.bo o row q) (.bo o' row' q')↔T.bo o row q=T.bo o' row' q':=by
 unfold zAX;exact Iff.rfl
@[go_sem] theorem zAkG {l l':List T}:zAX (.agg l) (.agg l')↔zBi l l':=by simp only [zAX]
@[go_sem] theorem zAkH {l l':List T}:zAX (.tup l) (.tup l')↔zBi l l':=by simp only [zAX]
@[go_sem] theorem zAgZ:zBi [] []↔True:=by simp only [zBi]
@[go_sem] theorem zAgx {t u:T} {ts us:List T}:zBi (t::ts) (u::us)↔zAX t u∧zBi ts us:=by simp only [zBi]
attribute [go_sem] ne_eq not_true_eq_false
@[go_sem] theorem zAkI:zBe []=[]:=rfl
@[go_sem] theorem zAg0 {r:List T} {rs:List (List T)}:zBe (r::rs)=zCA r::zBe rs:=rfl
@[go_sem] theorem zAkJ {α:Type} {f:α→List T} {l:List α}:zBe (l.map f)=l.map fun x=>zCA (f x):=by
 rw [zCY,List.map_map];rfl
@[go_sem] theorem zAkK {a b:List (List T)}:zBe (a++b)=zBe a++zBe b:=by simp [zCY]
@[go_sem] theorem zAkL {n:Nat} {r:List T}:zBe (List.replicate n r)=List.replicate n (zCA r):=by simp [zCY]
@[go_sem] theorem zAkM {rows:List (List T)} {i:Nat} {r:List T}:zBe (rows.set i r)=(zBe rows).set i (zCA r):=by simp [zCY,List.map_set]
@[go_sem] theorem zAg1 {rows:List (List T)} {n:Nat}:zBe (rows.take n)=(zBe rows).take n:=by simp [zCY]
@[go_sem] theorem zAg2 {rows:List (List T)} {n:Nat}:zBe (rows.drop n)=(zBe rows).drop n:=by simp [zCY]
@[go_sem] theorem zAkN {rows:List (List T)}:(zBe rows).length=rows.length:=zDJ rows
attribute [go_sem] T.dsh zCA
@[go_sem] theorem take_len {α β:Type} {f:α→β} {l:List α}:(l.map f).take l.length=l.map f:=by rw [←List.length_map (f:=f),List.take_length]
@[go_sem] theorem zAg3 {α:Type} {n:Nat} {r:α}:(List.replicate n r).take n=List.replicate n r:=by simp
@[go_sem] theorem zAg4 {α β:Type} {f:α→β} {p:β→Bool} {l:List α}:(l.map f).all p=l.all fun x=>p (f x):=by simp [List.all_map,Function.comp_def]
@[go_sem] theorem zAg5 {α:Type} {l:List α}:(l.all fun _=>true)=true:=by simp
@[go_sem] theorem zAfD {α:Type} {f:α→List T} {l:List α}:(l.map f).map (fun r=>r.map T.sh)=l.map fun x=>(f x).map T.sh:=by simp [List.map_map,Function.comp_def]
attribute [go_sem] canon zL4 zRe zRf zML zEm zL3 zRc zRd St.nilS St.ren zKZ zK0 zHX T.ren zC9 St.fin zIm zIS zYz idsT idsB zIY zUQ St.fin0 zKX
@[go_sem] theorem zAgy {d d':Nat}:zBf d d' []=[]:=rfl
@[go_sem] theorem zAfE {d d':Nat} {r:List T} {rs:List (List T)}:zBf d d' (r::rs)=zC9 d d' r::zBf d d' rs:=rfl
@[go_sem] theorem zAg6 {d d':Nat} {rows:List (List T)} (h:zAv rows):zBf d d' rows=rows:=zRa d d' h
def nth {α:Type} [Inhabited α] (l:List α) (i:Nat):α:=l.getD i default
theorem zAN {α:Type} [Inhabited α] {l:List α} {i:Nat} (h:i<l.length):nth l i=l[i]:=by simp [nth,List.getD,h]
theorem zAc {α:Type} [Inhabited α] {l:List α} {i:Nat} (h:i<l.length):nth l i∈l:=by rw [zAN h];exact List.getElem_mem h
theorem zJw {α:Type} [Inhabited α] {x:α} {l:List α}:nth (x::l) 0=x:=rfl
theorem zJx {α:Type} [Inhabited α] {x:α} {l:List α} {i:Nat}:nth (x::l) (i+1)=nth l i:=rfl
theorem zRn {α:Type} [Inhabited α] {l:List α} {i:Nat} (h:i<l.length):l.drop i=nth l i::l.drop (i+1):=by rw [zAN h,List.drop_eq_getElem_cons h]
theorem zAw {α:Type} [Inhabited α] {l:List α} {i:Nat} (h:i<l.length):l.take (i+1)=l.take i++[nth l i]:=by rw [zAN h,List.take_succ_eq_append_getElem h]
theorem getD_map {α:Type} [Inhabited α] {f:α→List T} {l:List α} {i:Nat} (h:i<l.length):(l.map f).getD i []=f (nth l i):=by simp [nth,List.getD,h]
end
abbrev i64 (n:Int):T:= .v (.int .i64 n)
abbrev u8 (n:Int):T:= .v (.int .u8 n)
abbrev bl (b:Bool):T:= .v (.bool b)
abbrev str (s:ByteArray):T:= .v (.string s)
abbrev zAB:T:= .v (.slice none 0 0)
abbrev ints (l:List Int):List (List T):=l.map fun x=>[i64 x]
abbrev strs (l:List ByteArray):List (List T):=l.map fun x=>[str x]
@[go_sem] theorem ints_set {l:List Int} {i:Nat} {y:Int}:(ints l).set i [i64 y]=ints (l.set i y):=by simp [ints,List.map_set]
@[go_sem] theorem zAg7 {l:List ByteArray} {i:Nat} {y:ByteArray}:(strs l).set i [str y]=strs (l.set i y):=by simp [strs,List.map_set]
attribute [go_sem] Nat.le_refl
def mx:Nat:=9223372036854775807
theorem zAd:maxLen=9223372036854775807:=by decide
theorem zAaM {n:Int} (h0: -9223372036854775808≤n) (h1:n≤9223372036854775807):IntKind.i64.wrap n=n:=Go.IntWalk.i64_in _ (by omega)
@[go_sem] theorem zAgz (a b:ByteArray):zGs a b=decide (a=b):=by
 unfold zGs
 rw [Bool.eq_iff_iff,beq_iff_eq,decide_eq_true_iff]
 exact ⟨fun h=>ByteArray.ext (Array.ext' h),fun h=>by rw [h]⟩
def zAg (p:Nat→Bool):Nat→Bool
 |0=>true
 |n+1=>zAg p n&&p n
theorem zAs {p:Nat→Bool}:∀ {n:Nat},zAg p n=true↔∀ i,i<n→p i=true
 |0=>by simp [zAg]
 |n+1=>by
  simp only [zAg,Bool.and_eq_true,zAs (n:=n)]
  constructor
  ·rintro ⟨h1,h2⟩ i hi
   by_cases e:i=n
   ·rw [e];exact h2
   ·exact h1 i (by omega)
  ·intro h
   exact ⟨fun i hi=>h i (by omega),h n (by omega)⟩
theorem zAm {p:Nat→Bool} {n j:Nat} (h:j<n) (hp:p j=false):zAg p n=false:=by
 cases hb:zAg p n with
 |false=>rfl
 |true=>rw [zAs.1 hb j h] at hp;cases hp
theorem zAa {p:Nat→Bool} {j:Nat} (h:zAg p j=true) (hp:p j=true):zAg p (j+1)=true:=by simp [zAg,h,hp]
theorem zAQ {α:Type} [Inhabited α] {p:α→Bool} {l:List α}:zAg (fun i=>p (nth l i)) l.length=l.all p:=by
 rw [Bool.eq_iff_iff,zAs,List.all_eq_true]
 constructor
 ·intro h x hx
  obtain ⟨i,hi,rfl⟩:=List.getElem_of_mem hx
  rw [←zAN hi];exact h i hi
 ·intro h i hi
  exact h _ (zAc hi)
theorem zES {p q:Nat→Bool} {n:Nat} (h:∀ i,i<n→p i=q i):zAg p n=zAg q n:=by
 rw [Bool.eq_iff_iff,zAs,zAs]
 exact ⟨fun H i hi=>by rw [←h i hi];exact H i hi,fun H i hi=>by rw [h i hi];exact H i hi⟩
def zHY {α:Type} (f:α→Nat) (l:List α) (j:Nat):Nat:=((l.take j).map f).sum
def szL {α:Type} (f:α→Nat) (l:List α):Nat:=l.length+(l.map f).sum
def wfL {α:Type} (p:α→Prop) (l:List α):Prop:=l.length≤maxLen∧∀ x∈l,p x
def zA2 {α:Type} (p:α→Prop) (l:List α):Prop:=l.length≤maxLen∧∀ x∈l,p x
theorem zKj {α:Type} {f:α→Nat} {l:List α}:zHY f l 0=0:=by simp [zHY]
theorem zKk {α:Type} [Inhabited α] {f:α→Nat} {l:List α} {j:Nat} (h:j<l.length):zHY f l (j+1)=zHY f l j+f (nth l j):=by
 unfold zHY
 rw [zAw h,List.map_append,List.sum_append,List.map_cons,List.map_nil,List.sum_cons,List.sum_nil,Nat.add_zero]
theorem zL9 {α:Type} {f:α→Nat} {l:List α} {j:Nat} (h:l.length≤j):zHY f l j=(l.map f).sum:=by
 unfold zHY;rw [List.take_of_length_le h]
theorem zCz {α:Type} {f:α→Nat} {l:List α}:l.length≤szL f l:=by unfold szL;omega
theorem zCM {α:Type} {f:α→Nat} {l:List α} {x:α} (h:x∈l):f x≤szL f l:=by
 have key:∀ l:List α,x∈l→f x≤(l.map f).sum:=by
  intro l
  induction l with
  |nil=>intro h;cases h
  |cons y l ih=>
   intro h
   simp only [List.map_cons,List.sum_cons]
   rcases List.mem_cons.1 h with rfl|h
   ·omega
   ·have:=ih h;omega
 have:=key l h
 simp only [szL];omega
@[go_sem] theorem zAfF (j:Nat):((j:Int)-1).toNat=j-1:=by omega
@[go_sem] theorem zAe4 (j:Nat):((j:Int)+1).toNat=j+1:=by omega
@[go_sem] theorem zAkO (a b:Int):(a==b)=decide (a=b):=by rw [Bool.eq_iff_iff];simp
@[go_sem] theorem zAkP (a b:Int):(a !=b)= !decide (a=b):=by rw [Bool.eq_iff_iff];simp
theorem zAj {caps:List T} (h:caps.all T.cap=true):caps.all T.bare0=true:=by
 rw [List.all_eq_true] at h ⊢
 intro t ht
 have:=h t ht
 unfold T.cap at this
 split at this<;>first|rfl|cases this
theorem zAu:∀ {caps:List T},caps.all T.cap=true→zAA caps
 |[],_=>trivial
 |t::ts,h=>by
  simp only [List.all_cons,Bool.and_eq_true] at h
  refine ⟨?_,zAu h.2⟩
  have:=h.1
  unfold T.cap at this
  split at this<;>first|exact trivial|(simp [T.packed];done)|cases this
theorem zAo {caps:List T} (h:caps.all T.cap=true) (d:Nat):zAD d caps:=zB2 d (zAu h)
theorem zAx {caps:List T} (h:caps.all T.cap=true) (B:Nat):ltL B caps:=(zEA B caps).2 fun i _ _=>zAo h i
theorem zAp:∀ {caps:List T},caps.all T.cap=true→zIY caps=[]
 |[],_=>rfl
 |t::ts,h=>by
  simp only [List.all_cons,Bool.and_eq_true] at h
  have h1:=h.1
  cases t<;>first|(simp only [zIY];exact zAp h.2)|(simp [T.cap] at h1)
def vwC:List T→Prop
 |[]=>True
 |t::ts=>(t.packed∧t.bare=true)∧vwC ts
theorem zWE:∀ {caps:List T},caps.all T.cap=true→vwC caps
 |[],_=>trivial
 |t::ts,h=>by
  have hb:=zAu h
  simp only [List.all_cons,Bool.and_eq_true] at h
  refine ⟨⟨hb.1, ?_⟩,zWE h.2⟩
  have h1:=h.1
  unfold T.cap at h1
  split at h1<;>first|rfl|cases h1
theorem zMQ {s:St}:∀ {caps:List T},caps.all T.cap=true→zEs s caps=some (caps,[],vwC caps)
 |[],_=>rfl
 |t::ts,h=>by
  simp only [List.all_cons,Bool.and_eq_true] at h
  have h1:=h.1
  have ht:zEO s t=some (t,[],t.packed∧t.bare=true):=by
   unfold T.cap at h1
   split at h1<;>first|rfl|cases h1
  simp only [zEs,ht,zMQ h.2,vwC,List.nil_append]
def ixf {α:Type} (p:α→Bool):List α→Int
 |[]=> -1
 |x::l=>if p x then 0 else if ixf p l<0 then -1 else ixf p l+1
theorem zRo {α:Type} {p:α→Bool}:∀ {l:List α}, -1≤ixf p l
 |[]=>by simp [ixf]
 |x::l=>by have:=zRo (p:=p) (l:=l);simp only [ixf];split<;>(try split)<;>omega
theorem zK2 {α:Type} {p:α→Bool}:∀ {l:List α},decide (0≤ixf p l)=l.any p
 |[]=>by simp [ixf]
 |x::l=>by
  have h:=zK2 (p:=p) (l:=l)
  have:=zRo (p:=p) (l:=l)
  rw [Bool.eq_iff_iff,decide_eq_true_iff] at h ⊢
  simp only [ixf,List.any_cons,Bool.or_eq_true]
  by_cases hx:p x=true
  ·simp [hx]
  ·rw [if_neg hx, ←h]
   by_cases e:ixf p l<0
   ·rw [if_pos e];constructor
    ·intro h;omega
    ·rintro (h|h)
     ·exact absurd h hx
     ·omega
   ·rw [if_neg e];constructor
    ·intro h;exact .inr (by omega)
    ·intro _;omega
theorem zMR {α:Type} [Inhabited α] {p:α→Bool}:∀ {l:List α} {j:Nat},j<l.length→zAg (fun i=> !p (nth l i)) j=true→p (nth l j)=true→ixf p l=j
 |[],j,h,_,_=>by simp at h
 |x::l,0,_,_,hp=>by simp only [zJw] at hp;simp [ixf,hp]
 |x::l,j+1,h,ha,hp=>by
  have h0:p x=false:=by simpa [zJw] using zAs.1 ha 0 (by omega)
  have ih:=zMR (l:=l) (j:=j) (by simpa using h) (zAs.2 fun i hi=>by simpa [zJx] using zAs.1 ha (i+1) (by omega)) (by simpa [zJx] using hp)
  simp only [ixf,h0,ih]
  rw [if_neg (by simp),if_neg (by omega)]
  omega
theorem zMa {α:Type} [Inhabited α] {p:α→Bool} {l:List α} (h:zAg (fun i=> !p (nth l i)) l.length=true):ixf p l= -1:=by
 have h1:l.any p=false:=by
  rw [List.any_eq_false]
  intro x hx
  obtain ⟨i,hi,rfl⟩:=List.getElem_of_mem hx
  have:=zAs.1 h i hi
  rw [zAN hi] at this
  simpa using this
 rw [←zK2,decide_eq_false_iff_not] at h1
 have:=zRo (p:=p) (l:=l)
 omega
def cpy {α:Type} (f:α→List T) (z:List T) (l:List α) (j:Nat):List (List T):=(l.take j).map f++List.replicate (l.length-j) z
theorem zAC {α:Type} {f:α→List T} {z:List T} {l:List α} {j:Nat} (hj:j≤l.length):(cpy f z l j).length=l.length:=by simp [cpy];omega
theorem zCk {α:Type} (f:α→List T) (z:List T) (l:List α):List.replicate l.length z=cpy f z l 0:=by simp [cpy]
theorem zCN {α:Type} {f:α→List T} {z:List T} {l:List α} {j:Nat} (h:l.length≤j):cpy f z l j=l.map f:=by simp [cpy,List.take_of_length_le h,Nat.sub_eq_zero_of_le h]
theorem zCl {α:Type} [Inhabited α] {f:α→List T} {z:List T} {l:List α} {j:Nat} (hj:j<l.length):(cpy f z l j).set j (f (nth l j))=cpy f z l (j+1):=by
 unfold cpy
 rw [List.set_append_right _ _ (by simp;omega)]
 have e1:j-((l.take j).map f).length=0:=by simp;omega
 have e2:l.length-j=(l.length-(j+1))+1:=by omega
 rw [e1,e2,List.replicate_succ,List.set_cons_zero,zAw hj,List.map_append,List.map_cons,List.map_nil,List.append_assoc,List.singleton_append]
theorem zAR {α:Type} {f:α→List T} {z:List T} {l:List α} {j:Nat} (hj:j<l.length):(cpy f z l j).getD j []=z:=by
 unfold cpy
 rw [List.getD,List.getElem?_append_right (by simp;omega),List.getElem?_replicate,if_pos (by simp;omega)]
 rfl
theorem zAaN {α:Type} {f:α→List T} {z:List T} {l:List α} {j d:Nat}:zAy d (cpy f z l j)↔(∀ x∈l.take j,zAD d (f x))∧(l.length-j=0∨zAD d z):=by
 unfold cpy;rw [zKi,zHD,zPo]
theorem zAb4 {α:Type} {f:α→List T} {z:List T} {l:List α} {j:Nat}:zAv (cpy f z l j)↔(∀ x∈l.take j,zAA (f x))∧(l.length-j=0∨zAA z):=by
 unfold cpy;rw [zWx,zIq,zWy]
theorem zAb5 {α:Type} {f:α→List T} {z:List T} {l:List α} {j d:Nat}:zDj d (cpy f z l j)↔(∀ x∈l.take j,ltL d (f x))∧(l.length-j=0∨ltL d z):=by
 unfold cpy;rw [zWz,zWA,zWB]
theorem zAaO {α:Type} {f:α→List T} {z:List T} {l:List α} {j d d':Nat}:zBf d d' (cpy f z l j)=cpy (fun x=>zC9 d d' (f x)) (zC9 d d' z) l j:=by
 unfold cpy;rw [zPq,zPr,zPs]
attribute [go_sem] zAaN zAb4 zAb5 zAaO List.set_set
theorem zAaP {α:Type} {l:List α} {i:Nat} {x:α}:(l.set i x).length=l.length:=List.length_set
attribute [go_sem] zAaP
theorem zAaQ {α:Type} {f:α→List T} {l:List α} {i:Nat} {r:List T} (h:i<l.length):((l.map f).set i r).getD i []=r:=by simp [List.getD,h]
theorem zAaR {α:Type} {f:α→List T} {z:List T} {l:List α} {j:Nat} {r:List T} (h:j<l.length):((cpy f z l j).set j r).getD j []=r:=by
 have:=zAC (f:=f) (z:=z) (l:=l) (j:=j) (by omega)
 simp [List.getD,this,h]
theorem zN8 {α:Type} {f:α→List T} {l:List α} {r:List T}:(l.map f++[r]).getD l.length []=r:=by simp [List.getD]
theorem zAb6 {α:Type} {f:α→List T} {l:List α} {r r':List T}:(l.map f++[r]).set l.length r'=l.map f++[r']:=by
 rw [List.set_append_right _ _ (by simp)];simp
theorem zYM {α β:Type} {f:α→β} {l:List α} {n:Nat}:(l.map f).take n=(l.take n).map f:=by rw [List.map_take]
theorem zYN {α β:Type} {f:α→β} {l:List α} {n:Nat}:(l.map f).drop n=(l.drop n).map f:=by rw [List.map_drop]
attribute [go_sem] zN8 zAb6 Nat.add_sub_cancel Nat.sub_zero zYM zYN
theorem zN9 {α:Type} [Inhabited α] [DecidableEq α] {l m:List α} {j:Nat} (h1:j<l.length) (h2:j<m.length):decide (l.drop j=m.drop j)=(decide (nth l j=nth m j)&&decide (l.drop (j+1)=m.drop (j+1))):=by
 rw [Bool.eq_iff_iff,zRn h1,zRn h2,decide_eq_true_iff,Bool.and_eq_true,decide_eq_true_iff,decide_eq_true_iff,List.cons.injEq]
def byt (s:ByteArray) (i:Nat):Int:=((s.data.toList.getD i 0).toNat:Nat)
@[go_sem] theorem zAll (s:ByteArray) (i:Nat):(((s.data.toList.getD i 0).toNat:Nat):Int)=byt s i:=rfl
theorem zPt:∀ a:List UInt8,Op.bytesLess a a=false
 |[]=>rfl
 |x::a=>by simp [Op.bytesLess,zPt a]
theorem zGx {x y:UInt8} {a b:List UInt8}:Op.bytesLess (x::a) (y::b)=true↔x<y∨x=y∧Op.bytesLess a b=true:=by
 simp [Op.bytesLess]
theorem zLt:∀ {a b c:List UInt8},Op.bytesLess a b=true→Op.bytesLess b c=true→Op.bytesLess a c=true
 |_,[],_,h,_=>by simp [Op.bytesLess] at h
 |_,_::_,[],_,h=>by simp [Op.bytesLess] at h
 |[],_::_,_::_,_,_=>rfl
 |x::a,y::b,z::c,h1,h2=>by
  rw [zGx] at h1 h2 ⊢
  rcases h1 with h1|⟨rfl,h1⟩
  ·rcases h2 with h2|⟨rfl,h2⟩
   ·exact .inl (UInt8.lt_trans h1 h2)
   ·exact .inl h1
  ·rcases h2 with h2|⟨rfl,h2⟩
   ·exact .inl h2
   ·exact .inr ⟨rfl,zLt h1 h2⟩
theorem zLu:∀ a b:List UInt8,Op.bytesLess a b=true∨a=b∨Op.bytesLess b a=true
 |[],[]=> .inr (.inl rfl)
 |[],_::_=> .inl rfl
 |_::_,[]=> .inr (.inr rfl)
 |x::a,y::b=>by
  rw [zGx,zGx]
  rcases UInt8.lt_or_lt_of_ne (a:=x) (b:=y) |>.comp (fun (h:¬ x=y)=>h) |>fun f=>(Classical.em (x=y)).imp_right f with h|h|h
  ·subst h
   rcases zLu a b with h|h|h
   ·exact .inl (.inr ⟨rfl,h⟩)
   ·subst h;exact .inr (.inl rfl)
   ·exact .inr (.inr (.inr ⟨rfl,h⟩))
  ·exact .inl (.inl h)
  ·exact .inr (.inr (.inl h))
theorem zBm (a:ByteArray):zAf a a=false:=zPt _
theorem zBk {a b c:ByteArray} (h1:zAf a b=true) (h2:zAf b c=true):zAf a c=true:=zLt h1 h2
theorem zBI (a b:ByteArray):zAf a b=true∨a=b∨zAf b a=true:=by
 rcases zLu a.data.toList b.data.toList with h|h|h
 ·exact .inl h
 ·exact .inr (.inl (ByteArray.ext (Array.ext' h)))
 ·exact .inr (.inr h)
theorem zC0 {a b:ByteArray} (h:zAf a b=true):zAf b a=false:=by
 cases hb:zAf b a with
 |false=>rfl
 |true=>have:=zBk h hb;rw [zBm] at this;cases this
theorem zI3 {a b:ByteArray} (h:zAf a b=true):a≠b:=by
 rintro rfl;rw [zBm] at h;cases h
theorem zWF (a b:ByteArray):(!zAf a b)=(zAf b a||decide (a=b)):=by
 rcases zBI a b with h|h|h
 ·rw [h,zC0 h,decide_eq_false (zI3 h)];rfl
 ·subst h;simp [zBm]
 ·rw [h,zC0 h];rfl
@[go_sem] theorem zAg8 (a b:ByteArray):(zAf a b||decide (a=b))= !zAf b a:=by
 rw [zWF b a]
 congr 1
 rw [Bool.eq_iff_iff];simp [eq_comm]
attribute [go_sem] Bool.not_not zEH
@[go_sem] theorem zAfG:zDr []↔True:=by simp [zDr]
@[go_sem] theorem zAe5 {r:List T} {rs:List (List T)}:zDr (r::rs)↔zEH r∧zDr rs:=by simp [zDr]
@[go_sem] theorem zU1 {α:Type} {f:α→List T}:∀ {l:List α},zDr (l.map f)↔∀ x∈l,zEH (f x)
 |[]=>by simp [zDr]
 |x::l=>by simp [zDr,zU1 (l:=l)]
def zCs (p:Nat→Bool):Nat→Nat
 |0=>0
 |n+1=>zCs p n+(if p n then 1 else 0)
theorem zGI {p:Nat→Bool}:∀ {n:Nat},zCs p n≤n
 |0=>Nat.le_refl _
 |n+1=>by have:=zGI (p:=p) (n:=n);simp only [zCs];split<;>omega
theorem zFt {p:Nat→Bool}:∀ {n:Nat},zAg p n=true→zCs p n=n
 |0,_=>rfl
 |n+1,h=>by
  simp only [zAg,Bool.and_eq_true] at h
  simp only [zCs,zFt h.1,h.2,if_true]
theorem zEB {p:Nat→Bool} {n:Nat}:∀ {m:Nat},n≤m→(∀ i,n≤i→i<m→p i=false)→zCs p m=zCs p n
 |0,h,_=>by rw [show n=0 by omega]
 |m+1,h,hp=>by
  by_cases e:n=m+1
  ·rw [e]
  ·simp only [zCs]
   rw [zEB (m:=m) (by omega) (fun i h1 h2=>hp i h1 (by omega)),hp m (by omega) (by omega)]
   rfl
theorem zAfH {n:Int} (h0:0≤n) (h1:n≤18446744073709551615):IntKind.u64.wrap n=n:=by
 simp only [IntKind.wrap,IntKind.bits,IntKind.signed]
 simp
 omega
theorem shr1:((2:Int)^(min 1 64))=2:=by decide
def bsI {α:Type} [Inhabited α] (c:α→Int) (l:List α):Nat:=zCs (fun i=>decide (c (nth l i)<0)) l.length
def bsF {α:Type} [Inhabited α] (c:α→Int) (l:List α):Bool:=decide (bsI c l<l.length)&&decide (c (nth l (bsI c l))=0)
theorem zAb7 {α:Type} [Inhabited α] {c:α→Int} {l:List α} {n:Nat} (hn:n≤l.length) (h1:∀ i,i<n→c (nth l i)<0) (h2:∀ i,n≤i→i<l.length→0≤c (nth l i)):bsI c l=n:=by
 unfold bsI
 rw [zEB hn (fun i a b=>by have:=h2 i a b;simp;omega),zFt (zAs.2 fun i hi=>by simp [h1 i hi])]
def mkL {α:Type} (f:α→Int→α×Int):List α→Int→List α×Int
 |[],k=>([],k)
 |x::l,k=>((f x k).1::(mkL f l (f x k).2).1,(mkL f l (f x k).2).2)
section
variable {α:Type} {f:α→Int→α×Int}
@[go_sem] theorem zTi:∀ {l:List α} {k:Int},(mkL f l k).1.length=l.length
 |[],_=>rfl
 |x::l,k=>by simp [mkL,zTi (l:=l)]
@[go_sem] theorem zAha {l:List α} {k:Int}:(mkL f l k).1.take l.length=(mkL f l k).1:=List.take_of_length_le (by rw [zTi];exact Nat.le_refl _)
end
def cp2 {α:Type} (f g:α→List T) (l:List α) (j:Nat):List (List T):=(l.take j).map f++(l.drop j).map g
section
variable {α:Type} [Inhabited α] {f g:α→List T} {l:List α} {j:Nat}
theorem zYO:cp2 f g l 0=l.map g:=by simp [cp2]
theorem zAaS (h:j=l.length):cp2 f g l j=l.map f:=by subst h;simp [cp2]
theorem zTj:(cp2 f g l j).length=l.length:=by simp [cp2];omega
theorem zAaT (h:j<l.length):(cp2 f g l j).getD j []=g (nth l j):=by
 simp [cp2,List.getD_eq_getElem?_getD,List.getElem?_append,Nat.min_eq_left (Nat.le_of_lt h),nth,List.getD,List.getElem?_eq_getElem h]
theorem zAb8 {k:Nat} (h:j<l.length) {r:List T}:((cp2 f g l k).set j r).getD j []=r:=by
 have:j<(cp2 f g l k).length:=by rw [zTj];exact h
 simp [List.getD_eq_getElem?_getD,this]
theorem zAaU (h:j<l.length) {r:List T} (hr:r=f (nth l j)):(cp2 f g l j).set j r=cp2 f g l (j+1):=by
 subst hr
 have e:l.drop j=nth l j::l.drop (j+1):=by rw [zAN h];exact List.drop_eq_getElem_cons h
 have e2:l.take (j+1)=l.take j++[nth l j]:=zAw h
 simp only [cp2,e,e2,List.map_append,List.map_cons,List.map_nil,List.append_assoc,List.singleton_append]
 rw [List.set_append_right _ _ (by simp;omega)]
 simp [Nat.min_eq_left (Nat.le_of_lt h)]
theorem zAaV {id:Nat} (hf:∀ x,zAD id (f x)) (hg:∀ x,zAD id (g x)):zAy id (cp2 f g l j):=by
 rw [cp2,zKi,zHD,zHD]
 exact ⟨fun x _=>hf x,fun x _=>hg x⟩
end
theorem zET {α:Type} {f:α→List T} {l:List α} {k:Nat} {r:List T} (h:k<l.length):((l.map f).set k r).getD k []=r:=by
 simp [List.getD_eq_getElem?_getD,h]
attribute [go_sem] Nat.reduceEqDiff Nat.reduceAdd Nat.reduceSub Nat.reduceMul Nat.reduceLT Nat.reduceLeDiff Int.reduceToNat reduceCtorEq
attribute [go_sem] zAaM getD_map zAaQ zAaR zAC
attribute [go_sem ↓] reduceIte
theorem zAJ {d:Nat} {rows:List (List T)} {i:Nat} {r:List T} (h1:zAy d rows) (h2:zAD d r):zAy d (rows.set i r):=(zPp h1 h2).2 trivial
theorem zBo {rows:List (List T)} {i:Nat} {r:List T} (h1:zAv rows) (h2:zAA r):zAv (rows.set i r):=(zWD h1 h2).2 trivial
theorem nf:(∀ (p:Prop) [Decidable p],(decide p=true)=p)∧(∀ (p:Prop) [Decidable p],(decide p=false)=¬p)∧(∀ a b:Int,(¬a<b)=(b≤a))∧(∀ a b:Int,(¬a≤b)=(b<a))∧(∀ a b:Int,(a≥b)=(b≤a))∧(∀ a b:Int,(a>b)=(b<a))∧(∀ a b:Nat,(a≥b)=(b≤a))∧(∀ a b:Nat,(a>b)=(b<a))∧(∀ b:Bool,((!b)=true)=(b=false))∧(∀ b:Bool,((!b)=false)=(b=true))∧(∀ m n:Nat,((m:Int)<n)=(m<n))∧(∀ m n:Nat,((m:Int)≤n)=(m≤n))∧(∀ (α:Type) [BEq α] [LawfulBEq α] (a b:α),((a==b)=true)=(a=b))∧(∀ (α:Type) [BEq α] [LawfulBEq α] (a b:α),((a !=b)=true)=(a≠b))∧(∀ (α:Type) [BEq α] [LawfulBEq α] (a b:α),((a==b)=false)=(a≠b))∧(∀ (α:Type) [BEq α] [LawfulBEq α] (a b:α),((a !=b)=false)=(a=b)):=by
 refine ⟨fun p _=> ?_,fun p _=> ?_,fun a b=> ?_,fun a b=> ?_,fun a b=> ?_,fun a b=> ?_,fun a b=> ?_,fun a b=> ?_,fun b=> ?_,fun b=> ?_,fun m n=> ?_,fun m n=> ?_,fun α _ _ a b=> ?_,fun α _ _ a b=> ?_,fun α _ _ a b=> ?_,fun α _ _ a b=> ?_⟩<;>simp
namespace K
def t (n:Nat):Operand:= .tmp n
def k (n:Int):Operand:= .const (.int .i64 n)
def ff:Operand:= .const (.bool false)
def tt:Operand:= .const (.bool true)
def o (d:Nat) (i:I):IN:=⟨some d,none,i⟩
def g (d c:Nat) (b:Bool) (i:I):IN:=⟨some d,some (c,b),i⟩
def u (i:I):IN:=⟨none,none,i⟩
def m (d a:Nat):IN:=⟨some d,none, .mv (.tmp a)⟩
def mg (d c:Nat) (b:Bool) (a:Nat):IN:=⟨some d,some (c,b), .mv (.tmp a)⟩
@[go_sem] theorem t_eq (n:Nat):t n= .tmp n:=rfl
@[go_sem] theorem k_eq (n:Int):k n= .const (.int .i64 n):=rfl
@[go_sem] theorem ff_eq:ff= .const (.bool false):=rfl
@[go_sem] theorem tt_eq:tt= .const (.bool true):=rfl
@[go_sem] theorem o_eq (d:Nat) (i:I):o d i=⟨some d,none,i⟩:=rfl
@[go_sem] theorem g_eq (d c:Nat) (b:Bool) (i:I):g d c b i=⟨some d,some (c,b),i⟩:=rfl
@[go_sem] theorem u_eq (i:I):u i=⟨none,none,i⟩:=rfl
@[go_sem] theorem m_eq (d a:Nat):m d a=⟨some d,none, .mv (.tmp a)⟩:=rfl
@[go_sem] theorem mg_eq (d c:Nat) (b:Bool) (a:Nat):mg d c b a=⟨some d,some (c,b), .mv (.tmp a)⟩:=rfl
abbrev hF (P:Program) (n:Nat):Option Stmt:=(P.funcs[n]?).bind (fun fn=>fn.body.bind (comp P fn.ntmps))
abbrev rF (P:Program) (n:Nat):Option (List ResultVar×Nat):=(P.funcs[n]?).map (fun fn=>(fn.results.toList,fn.ntmps))
end K
end Go.Am

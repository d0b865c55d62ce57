import Derived.Test.YtpkhdekgoppcmaaGreatAmAuto
import Derived.IntWalk
set_option linter.all false
namespace Go.Am
open Go Go.RowKit
section
variable {P : Program} {E : Env} {s : St} {d : Nat} {K : St → Prop} {Q : Exit → St → Prop}
@[go_sem] theorem s_O_nil : wsO P E [] K s = K s := rfl
@[go_sem] theorem s_O_none {d : Option Nat} {i : I} {r : List IN} : wsO P E (⟨d, none, i⟩ :: r) K s = aft2 P E d none i (wsO P E r K) s (pureI s i) := rfl
@[go_sem] theorem s_O_some {d : Option Nat} {i : I} {r : List IN} {t : Nat} {b : Bool} : wsO P E (⟨d, some (t, b), i⟩ :: r) K s = grd (lk t s.slots) b (ws1 P E d (some (t, b)) i (wsO P E r K)) (skO (wsO P E r) d K) s := rfl
@[go_sem] theorem s_1 {d : Option Nat} {g : Option (Nat × Bool)} {i : I} : ws1 P E d g i K s = aft2 P E d g i K s (pureI s i) := rfl
@[go_sem] theorem s_aft_some {d : Option Nat} {g : Option (Nat × Bool)} {i : I} {p : Prop} {t : T} : aft2 P E d g i K s (some (p, t)) = (p ∧ K (s.put d t)) := rfl
@[go_sem] theorem s_aft_none {d : Option Nat} {g : Option (Nat × Bool)} {i : I} : aft2 P E d g i K s none = aft3 P E d g i K s (effI E s d i) := rfl
@[go_sem] theorem s_aft3_some {d : Option Nat} {g : Option (Nat × Bool)} {i : I} {p : Prop} {s' : St} : aft3 P E d g i K s (some (p, s')) = (p ∧ K s') := rfl
@[go_sem] theorem s_aft3_none {d : Option Nat} {g : Option (Nat × Bool)} {i : I} : aft3 P E d g i K s none = InstrOk P E ⟨d, g, i⟩ K s := rfl
@[go_sem] theorem s_skip : wsS P E .skip Q s = Q .normal s := rfl
@[go_sem] theorem s_ops {l : List IN} : wsS P E (.ops l) Q s = wsO P E l (Q .normal) s := rfl
@[go_sem] theorem s_dops {l : List IN} : wsS P E (.dops l) Q s = wpQ P l (Q .normal) s := rfl
@[go_sem] theorem s_isn1 {Q : Bool → Prop} {neg own : Bool} {k : Nat} {rows : List (List T)} : isnQ Q neg (some (.sl own k rows)) = ∀ b : Bool, (b = !neg → rows = []) → Q b := rfl
@[go_sem] theorem s_isn2 {Q : Bool → Prop} {neg : Bool} {id lo n : Nat} : isnQ Q neg (some (.ref id lo n)) = ∀ b : Bool, (b = !neg → n = 0) → Q b := rfl
@[go_sem] theorem s_isn3 {Q : Bool → Prop} {neg : Bool} : isnQ Q neg (some (.v (.slice none 0 0))) = Q (!neg) := rfl
attribute [go_sem] dropL
@[go_sem] theorem s_rops {l : List (Option (List IN) × IN)} : wsS P E (.rops l) Q s = wsR P E l (Q .normal) s := rfl
@[go_sem] theorem s_R_nil : wsR P E [] K s = K s := rfl
@[go_sem] theorem s_R_none {b : Option (List IN)} {d : Option Nat} {i : I} {r : List (Option (List IN) × IN)} : wsR P E ((b, ⟨d, none, i⟩) :: r) K s = aftR P E b d none i (wsR P E r K) s := rfl
@[go_sem] theorem s_R_some {b : Option (List IN)} {d : Option Nat} {i : I} {r : List (Option (List IN) × IN)} {t : Nat} {g : Bool} : wsR P E ((b, ⟨d, some (t, g), i⟩) :: r) K s = grd (lk t s.slots) g (wsR1 P E b d (some (t, g)) i (wsR P E r K)) (skR b (wsR P E r) d K) s := rfl
@[go_sem] theorem s_R1 {b : Option (List IN)} {d : Option Nat} {g : Option (Nat × Bool)} {i : I} : wsR1 P E b d g i K s = aftR P E b d g i K s := rfl
@[go_sem] theorem s_aftR_n {d : Option Nat} {g : Option (Nat × Bool)} {i : I} : aftR P E none d g i K s = aftP d K s (pureI s i) := rfl
@[go_sem] theorem s_aftR_s {l : List IN} {d : Option Nat} {g : Option (Nat × Bool)} {i : I} : aftR P E (some l) d g i K s = aft2 P E d g i (rrK l K) s (pureI s i) := rfl
@[go_sem] theorem s_aftP {d : Option Nat} {p : Prop} {t : T} : aftP d K s (some (p, t)) = (p ∧ K (s.put d t)) := rfl
@[go_sem] theorem s_skR_n {f : (St → Prop) → St → Prop} {d : Option Nat} : skR none f d K s = f K (s.put d (.tup [])) := rfl
@[go_sem] theorem s_skR_s {l : List IN} {f : (St → Prop) → St → Prop} {d : Option Nat} : skR (some l) f d K s = rrK l (f K) (s.put d (.tup [])) := rfl
@[go_sem] theorem s_rrK {l : List IN} : rrK l K s = (rrL l s ∧ K s) := rfl
@[go_sem] theorem s_rrL0 : rrL [] s = True := rfl
@[go_sem] theorem s_rrL1 {d : Option Nat} {i : I} {l : List IN} : rrL (⟨d, none, i⟩ :: l) s = (rr1 d s (pureI s i) ∧ rrL l s) := rfl
@[go_sem] theorem s_rrL2 {d : Option Nat} {i : I} {t : Nat} {g : Bool} {l : List IN} : rrL (⟨d, some (t, g), i⟩ :: l) s = (grd (lk t s.slots) g (rrG d i) (same d (.tup [])) s ∧ rrL l s) := rfl
@[go_sem] theorem s_rrG {d : Option Nat} {i : I} : rrG d i s = rr1 d s (pureI s i) := rfl
@[go_sem] theorem s_rr1 {d : Option Nat} {p : Prop} {t : T} : rr1 d s (some (p, t)) = (p ∧ same d t s) := rfl
@[go_sem] theorem s_same0 {t : T} : same none t s = True := rfl
@[go_sem] theorem s_same1 {n : Nat} {t : T} : same (some n) t s = (lk n s.slots = some t) := rfl
@[go_sem] theorem s_seq {a b : AS} : wsS P E (.seq a b) Q s = wsS P E a (seqQ (wsS P E b) Q) s := rfl
@[go_sem] theorem s_cond {x : Operand} {a b : AS} : wsS P E (.cond x a b) Q s = grc (s.eval x) (wsS P E a Q) (wsS P E b Q) s := rfl
@[go_sem] theorem s_loop {na : Nat} {L : List (Nat × Nat)} {b : AS} : wsS P E (.loop na L b) Q s = canQ P E na L b Q (canon E na L s) := rfl
@[go_sem] theorem s_block {id : Nat} {b : AS} : wsS P E (.block id b) Q s = wsS P E b (blockQ id Q) s := rfl
@[go_sem] theorem s_exit {id : Nat} : wsS P E (.exit id) Q s = Q (.exit id) s := rfl
@[go_sem] theorem s_ret : wsS P E .ret Q s = Q .ret s := rfl
@[go_sem] theorem s_kept {L : List Nat} {b : AS} : wsS P E (.kept L b) Q s = wsS P E b Q (s.fin0 L) := rfl
@[go_sem] theorem s_tops {L : List (Nat × Nat)} {t : RT} : wsS P E (.tops L t) Q s = Jn (fun I => wsT P E t (finEq L I) s) (Q .normal) := rfl
@[go_sem] theorem s_T_done : wsT P E .done K s = K s := rfl
@[go_sem] theorem s_T_rd0 {d : Option Nat} {i : I} {r : RT} : wsT P E (.rd ⟨d, none, i⟩ r) K s = aftP d (wsT P E r K) s (pureI s i) := rfl
@[go_sem] theorem s_T_rd1 {d : Option Nat} {i : I} {r : RT} {t : Nat} {g : Bool} : wsT P E (.rd ⟨d, some (t, g), i⟩ r) K s = grd (lk t s.slots) g (wsP1 d i (wsT P E r K)) (skO (wsT P E r) d K) s := rfl
@[go_sem] theorem s_P1 {d : Option Nat} {i : I} : wsP1 d i K s = aftP d K s (pureI s i) := rfl
@[go_sem] theorem s_T1 {l : List IN} {d : Option Nat} {g : Option (Nat × Bool)} {i : I} : wsT1 P E l d g i K s = aft2 P E d g i (rrK l K) s (pureI s i) := rfl
@[go_sem] theorem s_skT {l : List IN} {f : (St → Prop) → St → Prop} {d : Option Nat} : skT l f d K s = rrK l (f K) (s.put d (.tup [])) := rfl
@[go_sem] theorem s_T_a0 {l : List IN} {d : Option Nat} {i : I} {r : RT} : wsT P E (.alt l ⟨d, none, i⟩ r .none) K s = aft2 P E d none i (rrK l (wsT P E r K)) s (pureI s i) := by
 simp [wsT, Both, wsT1]
@[go_sem] theorem s_T_a1 {l : List IN} {d : Option Nat} {i : I} {r : RT} {t : Nat} {g : Bool} : wsT P E (.alt l ⟨d, some (t, g), i⟩ r .none) K s = grd (lk t s.slots) g (wsT1 P E l d (some (t, g)) i (wsT P E r K)) (skT l (wsT P E r) d K) s := by
 simp [wsT, Both]
@[go_sem] theorem s_T_b0 {l l2 : List IN} {d : Option Nat} {i : I} {r r2 o : RT} {x2 : IN} : wsT P E (.alt l ⟨d, none, i⟩ r (.alt l2 x2 r2 o)) K s = Both (aft2 P E d none i (rrK l (wsT P E r K)) s (pureI s i)) (wsT P E (.alt l2 x2 r2 o) K s) := rfl
@[go_sem] theorem s_T_b1 {l l2 : List IN} {d : Option Nat} {i : I} {r r2 o : RT} {x2 : IN} {t : Nat} {g : Bool} : wsT P E (.alt l ⟨d, some (t, g), i⟩ r (.alt l2 x2 r2 o)) K s = Both (grd (lk t s.slots) g (wsT1 P E l d (some (t, g)) i (wsT P E r K)) (skT l (wsT P E r) d K) s) (wsT P E (.alt l2 x2 r2 o) K s) := rfl
@[go_sem] theorem s_post {ms : List (Nat × Nat × List (Nat × Nat))} {a : AS} : wsS P E (.post ms a) Q s = wsS P E a (postQ ms Q) s := rfl
@[go_sem] theorem s_post_n {ms : List (Nat × Nat × List (Nat × Nat))} : postQ ms Q .normal s = clsQ (Q .normal) (clsM ms (True, s)) := rfl
@[go_sem] theorem s_post_r {ms : List (Nat × Nat × List (Nat × Nat))} : postQ ms Q .ret s = Q .ret s := rfl
@[go_sem] theorem s_post_e {ms : List (Nat × Nat × List (Nat × Nat))} {id : Nat} : postQ ms Q (.exit id) s = Q (.exit id) s := rfl
@[go_sem] theorem s_pre {l : List IN} {x new : Nat} {a : AS} : wsS P E (.pre l x new a) Q s = clsQ (wsS P E a Q) (preS E s l x new) := rfl
@[go_sem] theorem s_lay {ms : List (Nat × Nat × List (Nat × Nat))} {a : AS} : wsS P E (.lay ms a) Q s = clsQ (wsS P E a Q) (clsM ms (True, s)) := rfl
attribute [go_sem] preS preL preP preO preC Option.isSome_some
@[go_sem] theorem s_clsQ {p : Prop} {s' : St} : clsQ K (p, s') = (p ∧ K s') := rfl
attribute [go_sem] mrkP clsM clsT clsR clsC cls1 cls2 cls3 St.close1 St.nil1 opnT opnC opn1 St.open1
@[go_sem] theorem s_canQ {na : Nat} {L : List (Nat × Nat)} {b : AS} {p : Prop} {s' : St} : canQ P E na L b Q (p, s') = (p ∧ LoopA P E na L b Q s') := rfl
@[go_sem] theorem s_nextN {σ : Type} {n j : Nat} {F : Nat → σ → St} {I : Nat → σ → Prop} {p : Prop} {s' : St} : nextN n F I j (p, s') = (p ∧ j < n ∧ ∃ x, s' = F (j + 1) x ∧ I (j + 1) x) := rfl
@[go_sem] theorem s_next_n {σ : Type} {na : Nat} {L : List (Nat × Nat)} {n j : Nat} {F : Nat → σ → St} {I : Nat → σ → Prop} : nextQ E na L n F I j Q .normal s = nextN n F I j (canon E na L s) := rfl
@[go_sem] theorem s_next_r {σ : Type} {na : Nat} {L : List (Nat × Nat)} {n j : Nat} {F : Nat → σ → St} {I : Nat → σ → Prop} : nextQ E na L n F I j Q .ret s = Q .ret s := rfl
@[go_sem] theorem s_next_e {σ : Type} {na : Nat} {L : List (Nat × Nat)} {n j id : Nat} {F : Nat → σ → St} {I : Nat → σ → Prop} : nextQ E na L n F I j Q (.exit id) s = Q (.exit id) s := rfl
@[go_sem] theorem s_nextM {σ : Type} {x : σ} {m : σ → Nat} {F : σ → St} {I : σ → Prop} {p : Prop} {s' : St} : nextM F I m x (p, s') = (p ∧ ∃ y, s' = F y ∧ I y ∧ m y < m x) := rfl
@[go_sem] theorem s_nextM_n {σ : Type} {na : Nat} {L : List (Nat × Nat)} {x : σ} {m : σ → Nat} {F : σ → St} {I : σ → Prop} : nextMQ E na L F I m x Q .normal s = nextM F I m x (canon E na L s) := rfl
@[go_sem] theorem s_nextM_r {σ : Type} {na : Nat} {L : List (Nat × Nat)} {x : σ} {m : σ → Nat} {F : σ → St} {I : σ → Prop} : nextMQ E na L F I m x Q .ret s = Q .ret s := rfl
@[go_sem] theorem s_nextM_e {σ : Type} {na : Nat} {L : List (Nat × Nat)} {id : Nat} {x : σ} {m : σ → Nat} {F : σ → St} {I : σ → Prop} : nextMQ E na L F I m x Q (.exit id) s = Q (.exit id) s := rfl
@[go_sem] theorem p_call {f : Nat} {xs : List Operand} : pureI s (.call f xs) = none := rfl
@[go_sem] theorem p_xcall {f : Nat} {xs : List Operand} : pureI s (.xcall f xs) = none := rfl
@[go_sem] theorem p_bad {x : Operand} : pureI s (.bad x) = none := rfl
@[go_sem] theorem p_callv {x : Operand} {xs : List Operand} : pureI s (.callv x xs) = none := rfl
@[go_sem] theorem p_alloc {z : Value} : pureI s (.alloc z) = none := rfl
@[go_sem] theorem p_box {x : Operand} : pureI s (.box x) = none := rfl
@[go_sem] theorem p_store {m : Nat} {x v : Operand} : pureI s (.store m x v) = none := rfl
@[go_sem] theorem p_bsl {k n : Nat} {z : Value} {ps : List (Nat × Operand)} : pureI s (.bsl k z n ps) = none := rfl
@[go_sem] theorem p_mks {k n : Nat} {z : Value} {x y : Operand} : pureI s (.mks k n z x y) = none := rfl
@[go_sem] theorem p_app {k n : Nat} {z : Value} {x y : Operand} : pureI s (.app k n z x y) = none := rfl
@[go_sem] theorem f_call {d : Option Nat} {f : Nat} {xs : List Operand} : effI E s d (.call f xs) = none := by cases d <;> rfl
@[go_sem] theorem f_xcall {d : Option Nat} {f : Nat} {xs : List Operand} : effI E s d (.xcall f xs) = none := by cases d <;> rfl
@[go_sem] theorem f_bad {d : Option Nat} {x : Operand} : effI E s d (.bad x) = none := by cases d <;> rfl
@[go_sem] theorem f_callv {d : Option Nat} {x : Operand} {xs : List Operand} : effI E s d (.callv x xs) = none := by cases d <;> rfl
@[go_sem] theorem f_alloc {z : Value} : effI E s (some d) (.alloc z) = some (E.okd d ∧ objsNoM d s.objs, (s.new d ⟨(zeroRow z).length, [zeroRow z]⟩).set d (.ptr d 0 0)) := rfl
def fBox (E : Env) (s : St) (d : Nat) (t : T) : Option (List T) → Option (Prop × St)
 | some row => some (t.plainV = true ∧ E.okd d ∧ objsNoM d s.objs ∧ noML d row, (s.new d ⟨row.length, [row]⟩).set d (.ptr d 0 0))
 | none => none
def fBox0 (E : Env) (s : St) (d : Nat) : Option T → Option (Prop × St)
 | some t => fBox E s d t t.cells
 | none => none
@[go_sem] theorem f_box {x : Operand} : effI E s (some d) (.box x) = fBox0 E s d (s.eval x) := by
 simp only [effI]
 cases s.eval x with
 | none => rfl
 | some t => simp only [fBox0]; cases t.cells <;> rfl
def fSto2 (s : St) (id j q n : Nat) (t : T) : Option Ob → Option (List T) → Option (Prop × St)
 | some ob, some cs => some (cs.length = n ∧ t.plainV = true ∧ cs.all T.storable = true ∧ j < ob.rows.length ∧ q + n ≤ ob.k, s.upd id ⟨ob.k, spliceRow ob.rows j q cs⟩)
 | _, _ => none
def fSto (s : St) (n : Nat) : Option T → Option T → Option (Prop × St)
 | some (.ptr id j q), some t => fSto2 s id j q n t (lk id s.objs) t.cells
 | _, _ => none
@[go_sem] theorem f_store {n : Nat} {x v : Operand} : effI E s none (.store n x v) = fSto s n (s.eval x) (s.eval v) := by
 simp only [effI]
 cases s.eval x with
 | none => rfl
 | some p => cases s.eval v with
  | none => cases p <;> rfl
  | some t =>
   cases p with
   | ptr id j q => simp only [fSto]; cases lk id s.objs <;> cases t.cells <;> rfl
   | _ => rfl
def fBsl2 (E : Env) (s : St) (d k n : Nat) (l : List (Nat × Nat × T)) : Option (List T) → Option (Prop × St)
 | some flat => some (l.all (fun q => q.2.2.plainV) = true ∧ flat.length = n * k ∧ E.okd d ∧ objsNoM d s.objs ∧ noMLL d (chunks k n flat), (s.new d ⟨k, chunks k n flat⟩).set d (.ref d 0 n))
 | none => none
def fBsl (E : Env) (s : St) (d k n : Nat) : Option (List (Nat × Nat × T)) → Option (Prop × St)
 | some l => fBsl2 E s d k n l (fillT (List.replicate (n * k) .any) l)
 | none => none
@[go_sem] theorem f_bsl {k n : Nat} {z : Value} {parts : List (Nat × Operand)} : effI E s (some d) (.bsl k z n parts) = fBsl E s d k n (evalIdx s k parts) := by
 simp only [effI]
 cases evalIdx s k parts with
 | none => rfl
 | some l => simp only [fBsl]; cases fillT (List.replicate (n * k) .any) l <;> rfl
def fMks (E : Env) (s : St) (d k bytes : Nat) (z : Value) : Option T → Option T → Option (Prop × St)
 | some (.v (.int _ l)), some (.v (.int _ c)) => some ((0 ≤ l ∧ l ≤ c ∧ c ≤ 9223372036854775807 ∧ bytes * c ≤ 281474976710656) ∧ (zeroRow z).length = k ∧ E.okd d ∧ objsNoM d s.objs, (s.new d ⟨k, List.replicate l.toNat (zeroRow z)⟩).set d (.ref d 0 l.toNat))
 | _, _ => none
@[go_sem] theorem f_mks {k bytes : Nat} {z : Value} {x y : Operand} : effI E s (some d) (.mks k bytes z x y) = fMks E s d k bytes z (s.eval x) (s.eval y) := rfl
def fApp (E : Env) (s : St) (d k bytes : Nat) : Option T → Option T → Option (Prop × St)
 | some tx, some ty => bif sameB tx ty then appS s d k (lkT s tx) tx ty else appG E s d k bytes ty (baseT s k tx) (srcT s k ty)
 | _, _ => none
@[go_sem] theorem f_app {k bytes : Nat} {z : Value} {x y : Operand} : effI E s (some d) (.app k bytes z x y) = fApp E s d k bytes (s.eval x) (s.eval y) := by
 simp only [effI]
 cases s.eval x with
 | none => rfl
 | some tx => cases s.eval y <;> rfl
def fApz (E : Env) (s : St) (d k bytes : Nat) (z : Value) : Option T → Option T → Option (Prop × St)
 | some (.ref id lo n), some (.v (.int _ m)) => apzG E s d k bytes z id lo n m (lk id s.objs)
 | _, _ => none
@[go_sem] theorem f_apz {k bytes : Nat} {z : Value} {x y : Operand} : effI E s (some d) (.apz k bytes z x y) = fApz E s d k bytes z (s.eval x) (s.eval y) := rfl
def fClr (s : St) (k : Nat) (z : Value) : Option T → Option (Prop × St)
 | some (.ref id lo n) => clrG s k z id lo n (lk id s.objs)
 | _ => none
@[go_sem] theorem f_clr {k : Nat} {z : Value} {x : Operand} : effI E s none (.clr k z x) = fClr s k z (s.eval x) := rfl
def fCap (E : Env) (s : St) (d : Option Nat) : Option T → Option (Prop × St)
 | some (.ref id lo n) => capG E s d id lo n (lk id s.objs)
 | _ => none
@[go_sem] theorem f_capo {d : Option Nat} {x : Operand} : effI E s d (.capo x) = fCap E s d (s.eval x) := by cases d <;> rfl
def fCpy (s : St) (d : Option Nat) (k : Nat) : Option T → Option T → Option (Prop × St)
 | some (.ref id lo n), some ty => cpyG s d k id lo n ty (lk id s.objs) (srcT s k (srcN n ty))
 | _, _ => none
@[go_sem] theorem f_cpy {d : Option Nat} {k : Nat} {x y : Operand} : effI E s d (.cpy k x y) = fCpy s d k (s.eval x) (s.eval y) := by cases d <;> rfl
@[go_sem] theorem p_apz {k n : Nat} {z : Value} {x y : Operand} : pureI s (.apz k n z x y) = none := rfl
@[go_sem] theorem p_clr {k : Nat} {z : Value} {x : Operand} : pureI s (.clr k z x) = none := rfl
@[go_sem] theorem p_capo {x : Operand} : pureI s (.capo x) = none := rfl
@[go_sem] theorem p_cpy {k : Nat} {x y : Operand} : pureI s (.cpy k x y) = none := rfl
attribute [go_sem] mvC mvS mvP mvP1 mvOk T.mov sameB lkT appS appG clrG capG cpyG apzG fApp fApz fClr fCap fCpy srcN srcS srcLen trmT trm1 St.re anyRow true_or or_true
def fLd2 (E : Env) (s : St) (d : Nat) (m : Option Nat) (id i o : Nat) : Option Ob → Option (Prop × St)
 | some ob => ldE E s d m id i o (i < ob.rows.length) (takeRow m ((ob.rows.getD i []).drop o))
 | none => none
def fLd (E : Env) (s : St) (d : Nat) (m : Option Nat) : Option T → Option (Prop × St)
 | some (.ptr id i o) => fLd2 E s d m id i o (lk id s.objs)
 | _ => none
@[go_sem] theorem f_load {m : Option Nat} {x : Operand} : effI E s (some d) (.load m x) = fLd E s d m (s.eval x) := by
 simp only [effI]
 cases s.eval x with
 | none => rfl
 | some t =>
  cases t with
  | ptr id i o => simp only [fLd]; cases lk id s.objs <;> rfl
  | _ => rfl
attribute [go_sem] fLd fLd2 ldE Option.isNone_none Option.isNone_some
attribute [go_sem] fBox fBox0 fSto fSto2 fBsl fBsl2 fMks baseT srcT List.take_nil List.take_length
@[go_sem] theorem take_len_map {α β : Type} {f : α → β} {l : List α} : (l.map f).take l.length = l.map f := by
 rw [List.take_of_length_le (by simp)]
@[go_sem] theorem nbeq (a b : Nat) : Nat.beq a b = decide (a = b) := by
 rw [Bool.eq_iff_iff]; simp
@[go_sem] theorem nbne (a b : Nat) : (a != b) = !decide (a = b) := by
 rw [Bool.eq_iff_iff]; simp
@[go_sem] theorem nble (a b : Nat) : Nat.ble a b = decide (a ≤ b) := by
 rw [Bool.eq_iff_iff]; simp
@[go_sem] theorem nblt (a b : Nat) : Nat.blt a b = decide (a < b) := by
 rw [Bool.eq_iff_iff]; simp
attribute [go_sem] decide_true decide_false and_self Nat.zero_add Nat.add_zero Int.cast_ofNat_Int Int.toNat_natCast List.length_map List.length_replicate List.length_append forall_eq exists_eq_right List.drop_zero List.nil_append List.filter_nil List.filter_cons List.replicate_zero List.replicate_succ
theorem noMLL_nil {d : Nat} : noMLL d [] ↔ True := by simp [noMLL]
theorem noMLL_cons {d : Nat} {r : List T} {rs : List (List T)} : noMLL d (r :: rs) ↔ noML d r ∧ noMLL d rs := by simp [noMLL]
theorem noMLL_pk {d : Nat} {rows : List (List T)} (h : packedLL rows) : noMLL d rows ↔ True := ⟨fun _ => trivial, fun _ => noMLL_of_packed d h⟩
theorem pk_nil : packedLL [] ↔ True := by simp [packedLL]
theorem pk_cons {r : List T} {rs : List (List T)} : packedLL (r :: rs) ↔ packedL r ∧ packedLL rs := by simp [packedLL]
theorem pk_app {a b : List (List T)} : packedLL (a ++ b) ↔ packedLL a ∧ packedLL b := by
 simp only [packedLL, List.mem_append]
 exact ⟨fun h => ⟨fun r hr => h r (.inl hr), fun r hr => h r (.inr hr)⟩, fun h r hr => hr.elim (h.1 r) (h.2 r)⟩
theorem pk_map {α : Type} {f : α → List T} {l : List α} : packedLL (l.map f) ↔ ∀ x ∈ l, packedL (f x) := by simp [packedLL]
theorem pk_rep {n : Nat} {r : List T} : packedLL (List.replicate n r) ↔ n = 0 ∨ packedL r := by
 simp only [packedLL, List.mem_replicate]
 constructor
 ·intro h
  by_cases e : n = 0
  ·exact .inl e
  ·exact .inr (h r ⟨e, rfl⟩)
 ·rintro h x ⟨h1, rfl⟩
  exact h.resolve_left h1
theorem noMLL_app {d : Nat} {a b : List (List T)} : noMLL d (a ++ b) ↔ noMLL d a ∧ noMLL d b := by
 simp only [noMLL, List.mem_append]
 exact ⟨fun h => ⟨fun r hr => h r (.inl hr), fun r hr => h r (.inr hr)⟩, fun h r hr => hr.elim (h.1 r) (h.2 r)⟩
theorem noMLL_map {α : Type} {d : Nat} {f : α → List T} {l : List α} : noMLL d (l.map f) ↔ ∀ x ∈ l, noML d (f x) := by simp [noMLL]
theorem noMLL_rep {d n : Nat} {r : List T} : noMLL d (List.replicate n r) ↔ n = 0 ∨ noML d r := by
 simp only [noMLL, List.mem_replicate]
 constructor
 ·intro h
  by_cases e : n = 0
  ·exact .inl e
  ·exact .inr (h r ⟨e, rfl⟩)
 ·rintro h x ⟨h1, rfl⟩
  exact h.resolve_left h1
theorem noMLL_set {d : Nat} {rows : List (List T)} {i : Nat} {r : List T} (h1 : noMLL d rows) (h2 : noML d r) : noMLL d (rows.set i r) ↔ True := by
 refine ⟨fun _ => trivial, fun _ x hx => ?_⟩
 rcases List.mem_or_eq_of_mem_set hx with hx | rfl
 ·exact h1 x hx
 ·exact h2
theorem noMLL_take {d : Nat} {rows : List (List T)} {n : Nat} (h : noMLL d rows) : noMLL d (rows.take n) ↔ True := ⟨fun _ => trivial, fun _ x hx => h x (List.mem_of_mem_take hx)⟩
theorem noMLL_drop {d : Nat} {rows : List (List T)} {n : Nat} (h : noMLL d rows) : noMLL d (rows.drop n) ↔ True := ⟨fun _ => trivial, fun _ x hx => h x (List.mem_of_mem_drop hx)⟩
theorem lt_app {d : Nat} {a b : List (List T)} : ltLL d (a ++ b) ↔ ltLL d a ∧ ltLL d b := by
 simp only [ltLL, List.mem_append]
 exact ⟨fun h => ⟨fun r hr => h r (.inl hr), fun r hr => h r (.inr hr)⟩, fun h r hr => hr.elim (h.1 r) (h.2 r)⟩
theorem lt_map {α : Type} {d : Nat} {f : α → List T} {l : List α} : ltLL d (l.map f) ↔ ∀ x ∈ l, ltL d (f x) := by simp [ltLL]
theorem lt_rep {d n : Nat} {r : List T} : ltLL d (List.replicate n r) ↔ n = 0 ∨ ltL d r := by
 simp only [ltLL, List.mem_replicate]
 constructor
 ·intro h
  by_cases e : n = 0
  ·exact .inl e
  ·exact .inr (h r ⟨e, rfl⟩)
 ·rintro h x ⟨h1, rfl⟩
  exact h.resolve_left h1
theorem renLL_app {d d' : Nat} {a b : List (List T)} : renLL d d' (a ++ b) = renLL d d' a ++ renLL d d' b := by simp [renLL]
theorem renLL_map {α : Type} {d d' : Nat} {f : α → List T} {l : List α} : renLL d d' (l.map f) = l.map fun x => renL d d' (f x) := by simp [renLL, Function.comp_def]
theorem renLL_rep {d d' n : Nat} {r : List T} : renLL d d' (List.replicate n r) = List.replicate n (renL d d' r) := by simp [renLL]
theorem renLL_set {d d' : Nat} {rows : List (List T)} {i : Nat} {r : List T} : renLL d d' (rows.set i r) = (renLL d d' rows).set i (renL d d' r) := by simp [renLL, List.map_set]
theorem renLL_take {d d' n : Nat} {rows : List (List T)} : renLL d d' (rows.take n) = (renLL d d' rows).take n := by simp [renLL, List.map_take]
theorem renLL_drop {d d' n : Nat} {rows : List (List T)} : renLL d d' (rows.drop n) = (renLL d d' rows).drop n := by simp [renLL, List.map_drop]
@[go_sem] theorem put_one {r q : List T} : putRows [r] 0 (List.replicate 1 q) = [q] := rfl
@[go_sem] theorem noMLL_putR {d : Nat} {rows : List (List T)} {i n : Nat} {q : List T} : noMLL d (putRows rows i (List.replicate n q)) ↔ noMLL d (rows.take i) ∧ noMLL d (List.replicate n q) ∧ noMLL d (rows.drop (i + n)) := by
 unfold putRows noMLL
 simp only [List.length_replicate, List.mem_append, or_imp, forall_and, and_assoc]
attribute [go_sem] noMLL_app noMLL_map noMLL_rep noMLL_set noMLL_take noMLL_drop lt_app lt_map lt_rep renLL_app renLL_map renLL_rep renLL_set renLL_take renLL_drop implies_true or_true
theorem pk_set {rows : List (List T)} {i : Nat} {r : List T} (h1 : packedLL rows) (h2 : packedL r) : packedLL (rows.set i r) ↔ True := by
 refine ⟨fun _ => trivial, fun _ x hx => ?_⟩
 rcases List.mem_or_eq_of_mem_set hx with hx | rfl
 ·exact h1 x hx
 ·exact h2
theorem pk_take {rows : List (List T)} {n : Nat} (h : packedLL rows) : packedLL (rows.take n) ↔ True := ⟨fun _ => trivial, fun _ x hx => h x (List.mem_of_mem_take hx)⟩
theorem pk_drop {rows : List (List T)} {n : Nat} (h : packedLL rows) : packedLL (rows.drop n) ↔ True := ⟨fun _ => trivial, fun _ x hx => h x (List.mem_of_mem_drop hx)⟩
theorem lt_nil {B : Nat} : ltLL B [] ↔ True := by simp [ltLL]
theorem lt_cons {B : Nat} {r : List T} {rs : List (List T)} : ltLL B (r :: rs) ↔ ltL B r ∧ ltLL B rs := by simp [ltLL]
theorem lt_pk {B : Nat} {rows : List (List T)} (h : packedLL rows) : ltLL B rows ↔ True := ⟨fun _ => trivial, fun _ => ltLL_packed h⟩
attribute [go_sem] noMLL_nil noMLL_cons noMLL_pk pk_nil pk_cons pk_app pk_map pk_rep pk_set pk_take pk_drop lt_nil lt_cons lt_pk
attribute [go_sem] cv1 cv2 cm1 cm2 nodupB disB aftV_eq aftM_eq exists_eq_left' Option.map_some Option.map_none
attribute [go_sem] szTL szT1 List.length_cons List.length_nil objsLt T.lt ltL unpOk2 unpOkO2 entOk2 okdO2 vwOk ownOk aftM
@[go_sem] theorem nilR_eq {X r : T} {l : List T} : nilR (fun r _ => r = X) r l ↔ nilLe r X := by
 constructor
 ·rintro ⟨r', h, rfl⟩; exact h
 ·intro h; exact ⟨X, h, rfl⟩
@[go_sem] theorem nilR_eq2 {X r : T} {l : List T} {C : List T → Prop} : nilR (fun r l => r = X ∧ C l) r l ↔ nilLe r X ∧ C l := by
 constructor
 ·rintro ⟨r', h, rfl, h2⟩; exact ⟨h, h2⟩
 ·intro h; exact ⟨X, h.1, rfl, h.2⟩
@[go_sem] theorem nilR_ex {α : Type} {X : α → T} {C : α → Prop} {r : T} {l : List T} : nilR (fun r _ => ∃ n, r = X n ∧ C n) r l ↔ ∃ n, nilLe r (X n) ∧ C n := by
 constructor
 ·rintro ⟨r', h, n, rfl, h2⟩; exact ⟨n, h, h2⟩
 ·rintro ⟨n, h, h2⟩; exact ⟨X n, h, n, rfl, h2⟩
@[go_sem] theorem nle_nil {o : Bool} {k : Nat} {rows : List (List T)} : nilLe (.v (.slice none 0 0)) (.sl o k rows) ↔ rows = [] := by simp [nilLe]
@[go_sem] theorem nle_v {x y : Value} : nilLe (.v x) (.v y) ↔ T.v x = T.v y := by
 unfold nilLe; split <;> simp_all
@[go_sem] theorem nle_sl {o o' : Bool} {k k' : Nat} {rows rows' : List (List T)} : nilLe (.sl o k rows) (.sl o' k' rows') ↔ T.sl o k rows = T.sl o' k' rows' := by
 unfold nilLe; exact Iff.rfl
@[go_sem] theorem nle_bx {o o' : Bool} {q q' : Nat} {row row' : List T} : nilLe (.bo o row q) (.bo o' row' q') ↔ T.bo o row q = T.bo o' row' q' := by
 unfold nilLe; exact Iff.rfl
@[go_sem] theorem nle_agg {l l' : List T} : nilLe (.agg l) (.agg l') ↔ nilLeL l l' := by simp only [nilLe]
@[go_sem] theorem nle_tup {l l' : List T} : nilLe (.tup l) (.tup l') ↔ nilLeL l l' := by simp only [nilLe]
@[go_sem] theorem nleL_nil : nilLeL [] [] ↔ True := by simp only [nilLeL]
@[go_sem] theorem nleL_cons {t u : T} {ts us : List T} : nilLeL (t :: ts) (u :: us) ↔ nilLe t u ∧ nilLeL ts us := by simp only [nilLeL]
attribute [go_sem] ne_eq not_true_eq_false
@[go_sem] theorem dsh_nil : dshLL [] = [] := rfl
@[go_sem] theorem dsh_cons {r : List T} {rs : List (List T)} : dshLL (r :: rs) = dshL r :: dshLL rs := rfl
@[go_sem] theorem dsh_map {α : Type} {f : α → List T} {l : List α} : dshLL (l.map f) = l.map fun x => dshL (f x) := by
 rw [dshLL_eq, List.map_map]; rfl
@[go_sem] theorem dsh_app {a b : List (List T)} : dshLL (a ++ b) = dshLL a ++ dshLL b := by simp [dshLL_eq]
@[go_sem] theorem dsh_rep {n : Nat} {r : List T} : dshLL (List.replicate n r) = List.replicate n (dshL r) := by simp [dshLL_eq]
@[go_sem] theorem dsh_set {rows : List (List T)} {i : Nat} {r : List T} : dshLL (rows.set i r) = (dshLL rows).set i (dshL r) := by simp [dshLL_eq, List.map_set]
@[go_sem] theorem dsh_take {rows : List (List T)} {n : Nat} : dshLL (rows.take n) = (dshLL rows).take n := by simp [dshLL_eq]
@[go_sem] theorem dsh_drop {rows : List (List T)} {n : Nat} : dshLL (rows.drop n) = (dshLL rows).drop n := by simp [dshLL_eq]
@[go_sem] theorem dsh_len {rows : List (List T)} : (dshLL rows).length = rows.length := dshLL_length rows
attribute [go_sem] T.dsh dshL
@[go_sem] theorem take_len {α β : Type} {f : α → β} {l : List α} : (l.map f).take l.length = l.map f := by rw [← List.length_map (f := f), List.take_length]
@[go_sem] theorem take_rep {α : Type} {n : Nat} {r : α} : (List.replicate n r).take n = List.replicate n r := by simp
@[go_sem] theorem all_map2 {α β : Type} {f : α → β} {p : β → Bool} {l : List α} : (l.map f).all p = l.all fun x => p (f x) := by simp [List.all_map, Function.comp_def]
@[go_sem] theorem all_true {α : Type} {l : List α} : (l.all fun _ => true) = true := by simp
@[go_sem] theorem map_sh_map {α : Type} {f : α → List T} {l : List α} : (l.map f).map (fun r => r.map T.sh) = l.map fun x => (f x).map T.sh := by simp [List.map_map, Function.comp_def]
attribute [go_sem] canon canL canT canB canB2 canRow renC keepId nilC St.nilS St.ren renSl renOb renI T.ren renL St.fin keepS2 keepO idsS idsT idsB idsL dedup St.fin0 keepS
@[go_sem] theorem renLL_nil {d d' : Nat} : renLL d d' [] = [] := rfl
@[go_sem] theorem renLL_cons {d d' : Nat} {r : List T} {rs : List (List T)} : renLL d d' (r :: rs) = renL d d' r :: renLL d d' rs := rfl
@[go_sem] theorem renLL_pk {d d' : Nat} {rows : List (List T)} (h : packedLL rows) : renLL d d' rows = rows := renLL_packed d d' h
def nth {α : Type} [Inhabited α] (l : List α) (i : Nat) : α := l.getD i default
theorem nth_lt {α : Type} [Inhabited α] {l : List α} {i : Nat} (h : i < l.length) : nth l i = l[i] := by simp [nth, List.getD, h]
theorem nth_mem {α : Type} [Inhabited α] {l : List α} {i : Nat} (h : i < l.length) : nth l i ∈ l := by rw [nth_lt h]; exact List.getElem_mem h
theorem nth_cons_zero {α : Type} [Inhabited α] {x : α} {l : List α} : nth (x :: l) 0 = x := rfl
theorem nth_cons_succ {α : Type} [Inhabited α] {x : α} {l : List α} {i : Nat} : nth (x :: l) (i + 1) = nth l i := rfl
theorem drop_nth {α : Type} [Inhabited α] {l : List α} {i : Nat} (h : i < l.length) : l.drop i = nth l i :: l.drop (i + 1) := by rw [nth_lt h, List.drop_eq_getElem_cons h]
theorem take_nth {α : Type} [Inhabited α] {l : List α} {i : Nat} (h : i < l.length) : l.take (i + 1) = l.take i ++ [nth l i] := by rw [nth_lt h, List.take_succ_eq_append_getElem h]
theorem getD_map {α : Type} [Inhabited α] {f : α → List T} {l : List α} {i : Nat} (h : i < l.length) : (l.map f).getD i [] = f (nth l i) := by simp [nth, List.getD, h]
theorem getD_rep {n i : Nat} {r : List T} (h : i < n) : (List.replicate n r).getD i [] = r := by simp [List.getD, h]
end
abbrev i64 (n : Int) : T := .v (.int .i64 n)
abbrev u8 (n : Int) : T := .v (.int .u8 n)
abbrev bl (b : Bool) : T := .v (.bool b)
abbrev str (s : ByteArray) : T := .v (.string s)
abbrev nils : T := .v (.slice none 0 0)
abbrev ints (l : List Int) : List (List T) := l.map fun x => [i64 x]
abbrev strs (l : List ByteArray) : List (List T) := l.map fun x => [str x]
@[go_sem] theorem ints_set {l : List Int} {i : Nat} {y : Int} : (ints l).set i [i64 y] = ints (l.set i y) := by simp [ints, List.map_set]
@[go_sem] theorem strs_set {l : List ByteArray} {i : Nat} {y : ByteArray} : (strs l).set i [str y] = strs (l.set i y) := by simp [strs, List.map_set]
attribute [go_sem] Nat.le_refl
def mx : Nat := 9223372036854775807
theorem mx_eq : maxLen = 9223372036854775807 := by decide
theorem wrap_id {n : Int} (h0 : -9223372036854775808 ≤ n) (h1 : n ≤ 9223372036854775807) : IntKind.i64.wrap n = n := Go.IntWalk.i64_in _ (by omega)
@[go_sem] theorem strEq_dec (a b : ByteArray) : strEq a b = decide (a = b) := by
 unfold strEq
 rw [Bool.eq_iff_iff, beq_iff_eq, decide_eq_true_iff]
 exact ⟨fun h => ByteArray.ext (Array.ext' h), fun h => by rw [h]⟩
def allN (p : Nat → Bool) : Nat → Bool
 | 0 => true
 | n + 1 => allN p n && p n
theorem allN_iff {p : Nat → Bool} : ∀ {n : Nat}, allN p n = true ↔ ∀ i, i < n → p i = true
 | 0 => by simp [allN]
 | n + 1 => by
  simp only [allN, Bool.and_eq_true, allN_iff (n := n)]
  constructor
  ·rintro ⟨h1, h2⟩ i hi
   by_cases e : i = n
   ·rw [e]; exact h2
   ·exact h1 i (by omega)
  ·intro h
   exact ⟨fun i hi => h i (by omega), h n (by omega)⟩
theorem allN_no {p : Nat → Bool} {n j : Nat} (h : j < n) (hp : p j = false) : allN p n = false := by
 cases hb : allN p n with
 | false => rfl
 | true => rw [allN_iff.1 hb j h] at hp; cases hp
theorem allN_step {p : Nat → Bool} {j : Nat} (h : allN p j = true) (hp : p j = true) : allN p (j + 1) = true := by simp [allN, h, hp]
theorem allN_all {α : Type} [Inhabited α] {p : α → Bool} {l : List α} : allN (fun i => p (nth l i)) l.length = l.all p := by
 rw [Bool.eq_iff_iff, allN_iff, List.all_eq_true]
 constructor
 ·intro h x hx
  obtain ⟨i, hi, rfl⟩ := List.getElem_of_mem hx
  rw [← nth_lt hi]; exact h i hi
 ·intro h i hi
  exact h _ (nth_mem hi)
theorem allN_congr {p q : Nat → Bool} {n : Nat} (h : ∀ i, i < n → p i = q i) : allN p n = allN q n := by
 rw [Bool.eq_iff_iff, allN_iff, allN_iff]
 exact ⟨fun H i hi => by rw [← h i hi]; exact H i hi, fun H i hi => by rw [h i hi]; exact H i hi⟩
def psum {α : Type} (f : α → Nat) (l : List α) (j : Nat) : Nat := ((l.take j).map f).sum
def szL {α : Type} (f : α → Nat) (l : List α) : Nat := l.length + (l.map f).sum
def wfL {α : Type} (p : α → Prop) (l : List α) : Prop := l.length ≤ maxLen ∧ ∀ x ∈ l, p x
def limL {α : Type} (p : α → Prop) (l : List α) : Prop := l.length ≤ maxLen ∧ ∀ x ∈ l, p x
theorem psum_zero {α : Type} {f : α → Nat} {l : List α} : psum f l 0 = 0 := by simp [psum]
theorem psum_succ {α : Type} [Inhabited α] {f : α → Nat} {l : List α} {j : Nat} (h : j < l.length) : psum f l (j + 1) = psum f l j + f (nth l j) := by
 unfold psum
 rw [take_nth h, List.map_append, List.sum_append, List.map_cons, List.map_nil, List.sum_cons, List.sum_nil, Nat.add_zero]
theorem psum_all {α : Type} {f : α → Nat} {l : List α} {j : Nat} (h : l.length ≤ j) : psum f l j = (l.map f).sum := by
 unfold psum; rw [List.take_of_length_le h]
theorem szL_len {α : Type} {f : α → Nat} {l : List α} : l.length ≤ szL f l := by unfold szL; omega
theorem szL_mem {α : Type} {f : α → Nat} {l : List α} {x : α} (h : x ∈ l) : f x ≤ szL f l := by
 have key : ∀ l : List α, x ∈ l → f x ≤ (l.map f).sum := by
  intro l
  induction l with
  | nil => intro h; cases h
  | cons y l ih =>
   intro h
   simp only [List.map_cons, List.sum_cons]
   rcases List.mem_cons.1 h with rfl | h
   ·omega
   ·have := ih h; omega
 have := key l h
 simp only [szL]; omega
theorem mx62 : 2 ^ 62 ≤ maxLen := by rw [mx_eq]; decide
theorem szL_zero {α : Type} {l : List α} : szL (fun _ => 0) l = l.length := by
 induction l with
 | nil => rfl
 | cons x l ih => simp only [szL, List.map_cons, List.sum_cons, List.length_cons] at ih ⊢; omega
@[go_sem] theorem toNat_pred (j : Nat) : ((j : Int) - 1).toNat = j - 1 := by omega
@[go_sem] theorem toNat_succ1 (j : Nat) : ((j : Int) + 1).toNat = j + 1 := by omega
@[go_sem] theorem int_beq (a b : Int) : (a == b) = decide (a = b) := by rw [Bool.eq_iff_iff]; simp
@[go_sem] theorem int_bne (a b : Int) : (a != b) = !decide (a = b) := by rw [Bool.eq_iff_iff]; simp
theorem caps_bare {caps : List T} (h : caps.all T.cap = true) : caps.all T.bare0 = true := by
 rw [List.all_eq_true] at h ⊢
 intro t ht
 have := h t ht
 unfold T.cap at this
 split at this <;> first | rfl | cases this
theorem caps_pk : ∀ {caps : List T}, caps.all T.cap = true → packedL caps
 | [], _ => trivial
 | t :: ts, h => by
  simp only [List.all_cons, Bool.and_eq_true] at h
  refine ⟨?_, caps_pk h.2⟩
  have := h.1
  unfold T.cap at this
  split at this <;> first | exact trivial | (simp [T.packed]; done) | cases this
theorem caps_noM {caps : List T} (h : caps.all T.cap = true) (d : Nat) : noML d caps := noML_of_packed d (caps_pk h)
theorem caps_lt {caps : List T} (h : caps.all T.cap = true) (B : Nat) : ltL B caps := (ltL_iff B caps).2 fun i _ _ => caps_noM h i
theorem caps_ids : ∀ {caps : List T}, caps.all T.cap = true → idsL caps = []
 | [], _ => rfl
 | t :: ts, h => by
  simp only [List.all_cons, Bool.and_eq_true] at h
  have h1 := h.1
  cases t <;> first | (simp only [idsL]; exact caps_ids h.2) | (simp [T.cap] at h1)
def vwC : List T → Prop
 | [] => True
 | t :: ts => (t.packed ∧ t.bare = true) ∧ vwC ts
theorem vwC_ok : ∀ {caps : List T}, caps.all T.cap = true → vwC caps
 | [], _ => trivial
 | t :: ts, h => by
  have hb := caps_pk h
  simp only [List.all_cons, Bool.and_eq_true] at h
  refine ⟨⟨hb.1, ?_⟩, vwC_ok h.2⟩
  have h1 := h.1
  unfold T.cap at h1
  split at h1 <;> first | rfl | cases h1
theorem vwRow_caps {s : St} : ∀ {caps : List T}, caps.all T.cap = true → vwRow s caps = some (caps, [], vwC caps)
 | [], _ => rfl
 | t :: ts, h => by
  simp only [List.all_cons, Bool.and_eq_true] at h
  have h1 := h.1
  have ht : vwLeaf s t = some (t, [], t.packed ∧ t.bare = true) := by
   unfold T.cap at h1
   split at h1 <;> first | rfl | cases h1
  simp only [vwRow, ht, vwRow_caps h.2, vwC, List.nil_append]
def ixf {α : Type} (p : α → Bool) : List α → Int
 | [] => -1
 | x :: l => if p x then 0 else if ixf p l < 0 then -1 else ixf p l + 1
theorem ixf_lo {α : Type} {p : α → Bool} : ∀ {l : List α}, -1 ≤ ixf p l
 | [] => by simp [ixf]
 | x :: l => by have := ixf_lo (p := p) (l := l); simp only [ixf]; split <;> (try split) <;> omega
theorem ixf_any {α : Type} {p : α → Bool} : ∀ {l : List α}, decide (0 ≤ ixf p l) = l.any p
 | [] => by simp [ixf]
 | x :: l => by
  have h := ixf_any (p := p) (l := l)
  have := ixf_lo (p := p) (l := l)
  rw [Bool.eq_iff_iff, decide_eq_true_iff] at h ⊢
  simp only [ixf, List.any_cons, Bool.or_eq_true]
  by_cases hx : p x = true
  ·simp [hx]
  ·rw [if_neg hx, ← h]
   by_cases e : ixf p l < 0
   ·rw [if_pos e]; constructor
    ·intro h; omega
    ·rintro (h | h)
     ·exact absurd h hx
     ·omega
   ·rw [if_neg e]; constructor
    ·intro h; exact .inr (by omega)
    ·intro _; omega
theorem ixf_at {α : Type} [Inhabited α] {p : α → Bool} : ∀ {l : List α} {j : Nat}, j < l.length → allN (fun i => !p (nth l i)) j = true → p (nth l j) = true → ixf p l = j
 | [], j, h, _, _ => by simp at h
 | x :: l, 0, _, _, hp => by simp only [nth_cons_zero] at hp; simp [ixf, hp]
 | x :: l, j + 1, h, ha, hp => by
  have h0 : p x = false := by simpa [nth_cons_zero] using allN_iff.1 ha 0 (by omega)
  have ih := ixf_at (l := l) (j := j) (by simpa using h) (allN_iff.2 fun i hi => by simpa [nth_cons_succ] using allN_iff.1 ha (i + 1) (by omega)) (by simpa [nth_cons_succ] using hp)
  simp only [ixf, h0, ih]
  rw [if_neg (by simp), if_neg (by omega)]
  omega
theorem ixf_none {α : Type} [Inhabited α] {p : α → Bool} {l : List α} (h : allN (fun i => !p (nth l i)) l.length = true) : ixf p l = -1 := by
 have h1 : l.any p = false := by
  rw [List.any_eq_false]
  intro x hx
  obtain ⟨i, hi, rfl⟩ := List.getElem_of_mem hx
  have := allN_iff.1 h i hi
  rw [nth_lt hi] at this
  simpa using this
 rw [← ixf_any, decide_eq_false_iff_not] at h1
 have := ixf_lo (p := p) (l := l)
 omega
def cpy {α : Type} (f : α → List T) (z : List T) (l : List α) (j : Nat) : List (List T) := (l.take j).map f ++ List.replicate (l.length - j) z
theorem cpy_len {α : Type} {f : α → List T} {z : List T} {l : List α} {j : Nat} (hj : j ≤ l.length) : (cpy f z l j).length = l.length := by simp [cpy]; omega
theorem cpy_zero {α : Type} (f : α → List T) (z : List T) (l : List α) : List.replicate l.length z = cpy f z l 0 := by simp [cpy]
theorem cpy_end {α : Type} {f : α → List T} {z : List T} {l : List α} {j : Nat} (h : l.length ≤ j) : cpy f z l j = l.map f := by simp [cpy, List.take_of_length_le h, Nat.sub_eq_zero_of_le h]
theorem cpy_step {α : Type} [Inhabited α] {f : α → List T} {z : List T} {l : List α} {j : Nat} (hj : j < l.length) : (cpy f z l j).set j (f (nth l j)) = cpy f z l (j + 1) := by
 unfold cpy
 rw [List.set_append_right _ _ (by simp; omega)]
 have e1 : j - ((l.take j).map f).length = 0 := by simp; omega
 have e2 : l.length - j = (l.length - (j + 1)) + 1 := by omega
 rw [e1, e2, List.replicate_succ, List.set_cons_zero, take_nth hj, List.map_append, List.map_cons, List.map_nil, List.append_assoc, List.singleton_append]
theorem cpy_at {α : Type} {f : α → List T} {z : List T} {l : List α} {j : Nat} (hj : j < l.length) : (cpy f z l j).getD j [] = z := by
 unfold cpy
 rw [List.getD, List.getElem?_append_right (by simp; omega), List.getElem?_replicate, if_pos (by simp; omega)]
 rfl
theorem cpy_noM {α : Type} {f : α → List T} {z : List T} {l : List α} {j d : Nat} : noMLL d (cpy f z l j) ↔ (∀ x ∈ l.take j, noML d (f x)) ∧ (l.length - j = 0 ∨ noML d z) := by
 unfold cpy; rw [noMLL_app, noMLL_map, noMLL_rep]
theorem cpy_pk {α : Type} {f : α → List T} {z : List T} {l : List α} {j : Nat} : packedLL (cpy f z l j) ↔ (∀ x ∈ l.take j, packedL (f x)) ∧ (l.length - j = 0 ∨ packedL z) := by
 unfold cpy; rw [pk_app, pk_map, pk_rep]
theorem cpy_lt {α : Type} {f : α → List T} {z : List T} {l : List α} {j d : Nat} : ltLL d (cpy f z l j) ↔ (∀ x ∈ l.take j, ltL d (f x)) ∧ (l.length - j = 0 ∨ ltL d z) := by
 unfold cpy; rw [lt_app, lt_map, lt_rep]
theorem cpy_ren {α : Type} {f : α → List T} {z : List T} {l : List α} {j d d' : Nat} : renLL d d' (cpy f z l j) = cpy (fun x => renL d d' (f x)) (renL d d' z) l j := by
 unfold cpy; rw [renLL_app, renLL_map, renLL_rep]
attribute [go_sem] cpy_noM cpy_pk cpy_lt cpy_ren List.set_set
theorem len_set {α : Type} {l : List α} {i : Nat} {x : α} : (l.set i x).length = l.length := List.length_set
attribute [go_sem] len_set
theorem getD_ms {α : Type} {f : α → List T} {l : List α} {i : Nat} {r : List T} (h : i < l.length) : ((l.map f).set i r).getD i [] = r := by simp [List.getD, h]
theorem getD_cs {α : Type} {f : α → List T} {z : List T} {l : List α} {j : Nat} {r : List T} (h : j < l.length) : ((cpy f z l j).set j r).getD j [] = r := by
 have := cpy_len (f := f) (z := z) (l := l) (j := j) (by omega)
 simp [List.getD, this, h]
theorem getD_ma {α : Type} {f : α → List T} {l : List α} {r : List T} : (l.map f ++ [r]).getD l.length [] = r := by simp [List.getD]
theorem set_ma {α : Type} {f : α → List T} {l : List α} {r r' : List T} : (l.map f ++ [r]).set l.length r' = l.map f ++ [r'] := by
 rw [List.set_append_right _ _ (by simp)]; simp
theorem take_map {α β : Type} {f : α → β} {l : List α} {n : Nat} : (l.map f).take n = (l.take n).map f := by rw [List.map_take]
theorem drop_map {α β : Type} {f : α → β} {l : List α} {n : Nat} : (l.map f).drop n = (l.drop n).map f := by rw [List.map_drop]
attribute [go_sem] getD_ma set_ma Nat.add_sub_cancel Nat.sub_zero take_map drop_map
theorem drop_eq {α : Type} [Inhabited α] [DecidableEq α] {l m : List α} {j : Nat} (h1 : j < l.length) (h2 : j < m.length) : decide (l.drop j = m.drop j) = (decide (nth l j = nth m j) && decide (l.drop (j + 1) = m.drop (j + 1))) := by
 rw [Bool.eq_iff_iff, drop_nth h1, drop_nth h2, decide_eq_true_iff, Bool.and_eq_true, decide_eq_true_iff, decide_eq_true_iff, List.cons.injEq]
def byt (s : ByteArray) (i : Nat) : Int := ((s.data.toList.getD i 0).toNat : Nat)
@[go_sem] theorem byt_eq (s : ByteArray) (i : Nat) : (((s.data.toList.getD i 0).toNat : Nat) : Int) = byt s i := rfl
theorem bless_irr : ∀ a : List UInt8, Op.bytesLess a a = false
 | [] => rfl
 | x :: a => by simp [Op.bytesLess, bless_irr a]
theorem bless_cons {x y : UInt8} {a b : List UInt8} : Op.bytesLess (x :: a) (y :: b) = true ↔ x < y ∨ x = y ∧ Op.bytesLess a b = true := by
 simp [Op.bytesLess]
theorem bless_trans : ∀ {a b c : List UInt8}, Op.bytesLess a b = true → Op.bytesLess b c = true → Op.bytesLess a c = true
 | _, [], _, h, _ => by simp [Op.bytesLess] at h
 | _, _ :: _, [], _, h => by simp [Op.bytesLess] at h
 | [], _ :: _, _ :: _, _, _ => rfl
 | x :: a, y :: b, z :: c, h1, h2 => by
  rw [bless_cons] at h1 h2 ⊢
  rcases h1 with h1 | ⟨rfl, h1⟩
  ·rcases h2 with h2 | ⟨rfl, h2⟩
   ·exact .inl (UInt8.lt_trans h1 h2)
   ·exact .inl h1
  ·rcases h2 with h2 | ⟨rfl, h2⟩
   ·exact .inl h2
   ·exact .inr ⟨rfl, bless_trans h1 h2⟩
theorem bless_total : ∀ a b : List UInt8, Op.bytesLess a b = true ∨ a = b ∨ Op.bytesLess b a = true
 | [], [] => .inr (.inl rfl)
 | [], _ :: _ => .inl rfl
 | _ :: _, [] => .inr (.inr rfl)
 | x :: a, y :: b => by
  rw [bless_cons, bless_cons]
  rcases UInt8.lt_or_lt_of_ne (a := x) (b := y) |>.comp (fun (h : ¬ x = y) => h) |> fun f => (Classical.em (x = y)).imp_right f with h | h | h
  ·subst h
   rcases bless_total a b with h | h | h
   ·exact .inl (.inr ⟨rfl, h⟩)
   ·subst h; exact .inr (.inl rfl)
   ·exact .inr (.inr (.inr ⟨rfl, h⟩))
  ·exact .inl (.inl h)
  ·exact .inr (.inr (.inl h))
theorem strLt_irr (a : ByteArray) : strLt a a = false := bless_irr _
theorem strLt_trans {a b c : ByteArray} (h1 : strLt a b = true) (h2 : strLt b c = true) : strLt a c = true := bless_trans h1 h2
theorem strLt_total (a b : ByteArray) : strLt a b = true ∨ a = b ∨ strLt b a = true := by
 rcases bless_total a.data.toList b.data.toList with h | h | h
 ·exact .inl h
 ·exact .inr (.inl (ByteArray.ext (Array.ext' h)))
 ·exact .inr (.inr h)
theorem strLt_asymm {a b : ByteArray} (h : strLt a b = true) : strLt b a = false := by
 cases hb : strLt b a with
 | false => rfl
 | true => have := strLt_trans h hb; rw [strLt_irr] at this; cases this
theorem strLt_ne {a b : ByteArray} (h : strLt a b = true) : a ≠ b := by
 rintro rfl; rw [strLt_irr] at h; cases h
theorem not_strLt (a b : ByteArray) : (!strLt a b) = (strLt b a || decide (a = b)) := by
 rcases strLt_total a b with h | h | h
 ·rw [h, strLt_asymm h, decide_eq_false (strLt_ne h)]; rfl
 ·subst h; simp [strLt_irr]
 ·rw [h, strLt_asymm h]; rfl
@[go_sem] theorem strLe_eq (a b : ByteArray) : (strLt a b || decide (a = b)) = !strLt b a := by
 rw [not_strLt b a]
 congr 1
 rw [Bool.eq_iff_iff]; simp [eq_comm]
attribute [go_sem] Bool.not_not noShL
@[go_sem] theorem noShLL_nil : noShLL [] ↔ True := by simp [noShLL]
@[go_sem] theorem noShLL_cons {r : List T} {rs : List (List T)} : noShLL (r :: rs) ↔ noShL r ∧ noShLL rs := by simp [noShLL]
@[go_sem] theorem noShLL_map {α : Type} {f : α → List T} : ∀ {l : List α}, noShLL (l.map f) ↔ ∀ x ∈ l, noShL (f x)
 | [] => by simp [noShLL]
 | x :: l => by simp [noShLL, noShLL_map (l := l)]
def cntN (p : Nat → Bool) : Nat → Nat
 | 0 => 0
 | n + 1 => cntN p n + (if p n then 1 else 0)
theorem cntN_le {p : Nat → Bool} : ∀ {n : Nat}, cntN p n ≤ n
 | 0 => Nat.le_refl _
 | n + 1 => by have := cntN_le (p := p) (n := n); simp only [cntN]; split <;> omega
def mkL {α : Type} (f : α → Int → α × Int) : List α → Int → List α × Int
 | [], k => ([], k)
 | x :: l, k => ((f x k).1 :: (mkL f l (f x k).2).1, (mkL f l (f x k).2).2)
def mkP {α : Type} (f : α → Int → α × Int) (l : List α) (k : Int) (j : Nat) : List α := (mkL f (l.take j) k).1 ++ l.drop j
def mkN {α : Type} (f : α → Int → α × Int) (l : List α) (k : Int) (j : Nat) : Int := (mkL f (l.take j) k).2
def cntL {α : Type} (c : α → Nat) (l : List α) : Nat := (l.map c).sum
section
variable {α : Type} {f : α → Int → α × Int}
@[go_sem] theorem mkL_len : ∀ {l : List α} {k : Int}, (mkL f l k).1.length = l.length
 | [], _ => rfl
 | x :: l, k => by simp [mkL, mkL_len (l := l)]
@[go_sem] theorem mkL_take {l : List α} {k : Int} : (mkL f l k).1.take l.length = (mkL f l k).1 := List.take_of_length_le (by rw [mkL_len]; exact Nat.le_refl _)
theorem mkL_snoc : ∀ {l : List α} {x : α} {k : Int}, mkL f (l ++ [x]) k = ((mkL f l k).1 ++ [(f x (mkL f l k).2).1], (f x (mkL f l k).2).2)
 | [], x, k => by simp [mkL]
 | y :: l, x, k => by simp [mkL, mkL_snoc (l := l)]
theorem mkP_zero {l : List α} {k : Int} : mkP f l k 0 = l := by simp [mkP, mkL]
theorem mkN_zero {l : List α} {k : Int} : mkN f l k 0 = k := by simp [mkN, mkL]
theorem mkP_all {l : List α} {k : Int} {j : Nat} (h : l.length ≤ j) : mkP f l k j = (mkL f l k).1 := by simp [mkP, List.take_of_length_le h, List.drop_eq_nil_of_le h]
theorem mkN_all {l : List α} {k : Int} {j : Nat} (h : l.length ≤ j) : mkN f l k j = (mkL f l k).2 := by simp [mkN, List.take_of_length_le h]
theorem mkP_len {l : List α} {k : Int} {j : Nat} (h : j ≤ l.length) : (mkP f l k j).length = l.length := by simp [mkP, mkL_len]; omega
theorem nth_mkP [Inhabited α] {l : List α} {k : Int} {j : Nat} (h : j < l.length) : nth (mkP f l k j) j = nth l j := by
 have h1 : (mkL f (l.take j) k).1.length = j := by rw [mkL_len, List.length_take]; omega
 unfold mkP nth
 rw [List.getD, List.getElem?_append_right (by omega), h1, Nat.sub_self, drop_nth h]
 simp [nth]
theorem mkN_succ [Inhabited α] {l : List α} {k : Int} {j : Nat} (h : j < l.length) : mkN f l k (j + 1) = (f (nth l j) (mkN f l k j)).2 := by
 unfold mkN; rw [take_nth h, mkL_snoc]
theorem mkP_set [Inhabited α] {l : List α} {k : Int} {j : Nat} (h : j < l.length) : (mkP f l k j).set j (f (nth l j) (mkN f l k j)).1 = mkP f l k (j + 1) := by
 have h1 : (mkL f (l.take j) k).1.length = j := by rw [mkL_len, List.length_take]; omega
 unfold mkP mkN
 rw [List.set_append_right _ _ (by omega), h1, Nat.sub_self, drop_nth h, List.set_cons_zero, take_nth h, mkL_snoc]
 simp
theorem nth_mkL [Inhabited α] {l : List α} {k : Int} {j : Nat} (h : j < l.length) : nth (mkL f l k).1 j = (f (nth l j) (mkN f l k j)).1 := by
 have h1 : (mkL f (l.take j) k).1.length = j := by rw [mkL_len, List.length_take]; omega
 have h2 : (mkL f l k).1 = mkP f l k l.length := (mkP_all (Nat.le_refl _)).symm
 have h3 : ∀ n, j < n → n ≤ l.length → nth (mkP f l k n) j = (f (nth l j) (mkN f l k j)).1 := by
  intro n
  induction n with
  | zero => intro h; omega
  | succ n ih =>
   intro a b
   have hl := mkP_len (f := f) (k := k) (show n ≤ l.length by omega)
   rw [← mkP_set (by omega)]
   by_cases e : j = n
   ·subst e
    rw [nth_lt (by simp; omega)]; simp
   ·have := ih (by omega) (by omega)
    rw [nth_lt (by omega)] at this
    rw [nth_lt (by simp; omega), List.getElem_set_ne (by omega)]; exact this
 rw [h2]
 exact h3 _ h (Nat.le_refl _)
theorem mkN_cnt {c : α → Nat} (hc : ∀ x k, (f x k).2 = k + c x) : ∀ {l : List α} {k : Int}, (mkL f l k).2 = k + (cntL c l : Nat)
 | [], k => by simp [mkL, cntL]
 | x :: l, k => by
  have := mkN_cnt hc (l := l) (k := (f x k).2)
  show (mkL f l (f x k).2).2 = _
  rw [this, hc]
  simp only [cntL, List.map_cons, List.sum_cons]
  omega
theorem mkN_at {c : α → Nat} (hc : ∀ x k, (f x k).2 = k + c x) {l : List α} {k : Int} {j : Nat} : mkN f l k j = k + (psum c l j : Nat) := by
 unfold mkN; rw [mkN_cnt hc]; rfl
theorem psum_cnt [Inhabited α] {c : α → Nat} {l : List α} {j : Nat} (h : j < l.length) : psum c l j + c (nth l j) ≤ cntL c l := by
 have h1 := psum_succ (f := c) h
 have h2 : psum c l (j + 1) ≤ cntL c l := by
  have e : (l.map c).sum = ((l.take (j + 1)).map c).sum + ((l.drop (j + 1)).map c).sum := by
   conv => lhs; rw [← List.take_append_drop (j + 1) l]
   rw [List.map_append, List.sum_append]
  unfold psum cntL
  omega
 omega
end
theorem cntL_len {α : Type} {c : α → Nat} (h : ∀ x, 1 ≤ c x) : ∀ {l : List α}, l.length ≤ cntL c l
 | [] => by simp
 | x :: l => by
  have h1 := cntL_len h (l := l)
  have h2 := h x
  unfold cntL at h1 ⊢
  simp only [List.map_cons, List.sum_cons, List.length_cons]
  omega
theorem cntL_le {α : Type} {c s : α → Nat} {A : Nat} (h : ∀ x, c x ≤ A * (s x + 1)) : ∀ {l : List α}, cntL c l ≤ A * szL s l
 | [] => by simp [cntL]
 | x :: l => by
  have h1 := cntL_le h (l := l)
  have h2 := h x
  unfold cntL szL at h1 ⊢
  simp only [List.map_cons, List.sum_cons, List.length_cons]
  have e : A * (l.length + 1 + (s x + (l.map s).sum)) = A * (s x + 1) + A * (l.length + (l.map s).sum) := by rw [← Nat.mul_add]; congr 1; omega
  omega
theorem cntL_le1 {α : Type} {c : α → Nat} {A : Nat} (h : ∀ x, c x ≤ A) {l : List α} : cntL c l ≤ A * l.length := by
 have := cntL_le (s := fun _ => 0) (A := A) (c := c) (fun x => by simpa using h x) (l := l)
 rwa [szL_zero] at this
def mkI (_ : Int) (k : Int) : Int × Int := (k, k + 1)
def cp2 {α : Type} (f g : α → List T) (l : List α) (j : Nat) : List (List T) := (l.take j).map f ++ (l.drop j).map g
section
variable {α : Type} [Inhabited α] {f g : α → List T} {l : List α} {j : Nat}
theorem cp2_zero : cp2 f g l 0 = l.map g := by simp [cp2]
theorem cp2_end (h : j = l.length) : cp2 f g l j = l.map f := by subst h; simp [cp2]
theorem cp2_len : (cp2 f g l j).length = l.length := by simp [cp2]; omega
theorem cp2_get (h : j < l.length) : (cp2 f g l j).getD j [] = g (nth l j) := by
 simp [cp2, List.getD_eq_getElem?_getD, List.getElem?_append, Nat.min_eq_left (Nat.le_of_lt h), nth, List.getD, List.getElem?_eq_getElem h]
theorem cp2_gs {k : Nat} (h : j < l.length) {r : List T} : ((cp2 f g l k).set j r).getD j [] = r := by
 have : j < (cp2 f g l k).length := by rw [cp2_len]; exact h
 simp [List.getD_eq_getElem?_getD, this]
theorem cp2_set (h : j < l.length) {r : List T} (hr : r = f (nth l j)) : (cp2 f g l j).set j r = cp2 f g l (j + 1) := by
 subst hr
 have e : l.drop j = nth l j :: l.drop (j + 1) := by rw [nth_lt h]; exact List.drop_eq_getElem_cons h
 have e2 : l.take (j + 1) = l.take j ++ [nth l j] := take_nth h
 simp only [cp2, e, e2, List.map_append, List.map_cons, List.map_nil, List.append_assoc, List.singleton_append]
 rw [List.set_append_right _ _ (by simp; omega)]
 simp [Nat.min_eq_left (Nat.le_of_lt h)]
theorem cp2_noM {id : Nat} (hf : ∀ x, noML id (f x)) (hg : ∀ x, noML id (g x)) : noMLL id (cp2 f g l j) := by
 rw [cp2, noMLL_app, noMLL_map, noMLL_map]
 exact ⟨fun x _ => hf x, fun x _ => hg x⟩
end
theorem getD_set_map {α : Type} {f : α → List T} {l : List α} {k : Nat} {r : List T} (h : k < l.length) : ((l.map f).set k r).getD k [] = r := by
 simp [List.getD_eq_getElem?_getD, h]
attribute [go_sem] Nat.reduceEqDiff Nat.reduceAdd Nat.reduceSub Nat.reduceMul Nat.reduceLT Nat.reduceLeDiff Int.reduceToNat reduceCtorEq
attribute [go_sem] wrap_id getD_map getD_ms getD_cs cpy_len
attribute [go_sem ↓] reduceIte
theorem noMLL_sE {d : Nat} {rows : List (List T)} {i : Nat} {r : List T} (h1 : noMLL d rows) (h2 : noML d r) : noMLL d (rows.set i r) := (noMLL_set h1 h2).2 trivial
theorem pk_sE {rows : List (List T)} {i : Nat} {r : List T} (h1 : packedLL rows) (h2 : packedL r) : packedLL (rows.set i r) := (pk_set h1 h2).2 trivial
theorem nf : (∀ (p : Prop) [Decidable p], (decide p = true) = p) ∧ (∀ (p : Prop) [Decidable p], (decide p = false) = ¬p) ∧ (∀ a b : Int, (¬a < b) = (b ≤ a)) ∧ (∀ a b : Int, (¬a ≤ b) = (b < a)) ∧ (∀ a b : Int, (a ≥ b) = (b ≤ a)) ∧ (∀ a b : Int, (a > b) = (b < a)) ∧ (∀ a b : Nat, (a ≥ b) = (b ≤ a)) ∧ (∀ a b : Nat, (a > b) = (b < a)) ∧ (∀ b : Bool, ((!b) = true) = (b = false)) ∧ (∀ b : Bool, ((!b) = false) = (b = true)) ∧ (∀ m n : Nat, ((m : Int) < n) = (m < n)) ∧ (∀ m n : Nat, ((m : Int) ≤ n) = (m ≤ n)) ∧ (∀ (α : Type) [BEq α] [LawfulBEq α] (a b : α), ((a == b) = true) = (a = b)) ∧ (∀ (α : Type) [BEq α] [LawfulBEq α] (a b : α), ((a != b) = true) = (a ≠ b)) ∧ (∀ (α : Type) [BEq α] [LawfulBEq α] (a b : α), ((a == b) = false) = (a ≠ b)) ∧ (∀ (α : Type) [BEq α] [LawfulBEq α] (a b : α), ((a != b) = false) = (a = b)) := by
 refine ⟨fun p _ => ?_, fun p _ => ?_, fun a b => ?_, fun a b => ?_, fun a b => ?_, fun a b => ?_, fun a b => ?_, fun a b => ?_, fun b => ?_, fun b => ?_, fun m n => ?_, fun m n => ?_, fun α _ _ a b => ?_, fun α _ _ a b => ?_, fun α _ _ a b => ?_, fun α _ _ a b => ?_⟩ <;> simp
namespace K
def t (n : Nat) : Operand := .tmp n
def k (n : Int) : Operand := .const (.int .i64 n)
def ff : Operand := .const (.bool false)
def tt : Operand := .const (.bool true)
def o (d : Nat) (i : I) : IN := ⟨some d, none, i⟩
def g (d c : Nat) (b : Bool) (i : I) : IN := ⟨some d, some (c, b), i⟩
def u (i : I) : IN := ⟨none, none, i⟩
def m (d a : Nat) : IN := ⟨some d, none, .mv (.tmp a)⟩
def mg (d c : Nat) (b : Bool) (a : Nat) : IN := ⟨some d, some (c, b), .mv (.tmp a)⟩
@[go_sem] theorem t_eq (n : Nat) : t n = .tmp n := rfl
@[go_sem] theorem k_eq (n : Int) : k n = .const (.int .i64 n) := rfl
@[go_sem] theorem ff_eq : ff = .const (.bool false) := rfl
@[go_sem] theorem tt_eq : tt = .const (.bool true) := rfl
@[go_sem] theorem o_eq (d : Nat) (i : I) : o d i = ⟨some d, none, i⟩ := rfl
@[go_sem] theorem g_eq (d c : Nat) (b : Bool) (i : I) : g d c b i = ⟨some d, some (c, b), i⟩ := rfl
@[go_sem] theorem u_eq (i : I) : u i = ⟨none, none, i⟩ := rfl
@[go_sem] theorem m_eq (d a : Nat) : m d a = ⟨some d, none, .mv (.tmp a)⟩ := rfl
@[go_sem] theorem mg_eq (d c : Nat) (b : Bool) (a : Nat) : mg d c b a = ⟨some d, some (c, b), .mv (.tmp a)⟩ := rfl
abbrev hF (P : Program) (n : Nat) : Option Stmt := (P.funcs[n]?).bind (fun fn => fn.body.bind (comp P fn.ntmps))
abbrev rF (P : Program) (n : Nat) : Option (List ResultVar × Nat) := (P.funcs[n]?).map (fun fn => (fn.results.toList, fn.ntmps))
end K
end Go.Am

import Derived.Test.YthaildflhjfikaaGreatDoorAmAuto
import Derived.IntWalk
set_option linter.all false
namespace Go.Am
open Go Go.RowKit
section
variable {P : Program} {E : Env} {s : St} {d : Nat} {K : St → Prop} {Q : Exit → St → Prop}
@[go_sem] theorem zAfo : wsO P E [] K s = K s := rfl
@[go_sem] theorem zAcn {d : Option Nat} {i : I} {r : List IN} : wsO P E (⟨d, none, i⟩ :: r) K s = zD8 P E d none i (wsO P E r K) s (zAe s i) := rfl
@[go_sem] theorem zAco {d : Option Nat} {i : I} {r : List IN} {t : Nat} {b : Bool} : wsO P E (⟨d, some (t, b), i⟩ :: r) K s = grd (lk t s.slots) b (ws1 P E d (some (t, b)) i (wsO P E r K)) (skO (wsO P E r) d K) s := rfl
@[go_sem] theorem s_1 {d : Option Nat} {g : Option (Nat × Bool)} {i : I} : ws1 P E d g i K s = zD8 P E d g i K s (zAe s i) := rfl
@[go_sem] theorem zAbO {d : Option Nat} {g : Option (Nat × Bool)} {i : I} {p : Prop} {t : T} : zD8 P E d g i K s (some (p, t)) = (p ∧ K (s.put d t)) := rfl
@[go_sem] theorem zAbP {d : Option Nat} {g : Option (Nat × Bool)} {i : I} : zD8 P E d g i K s none = zPl P E d g i K s (zCb E s d i) := rfl
@[go_sem] theorem zAbh {d : Option Nat} {g : Option (Nat × Bool)} {i : I} {p : Prop} {s' : St} : zPl P E d g i K s (some (p, s')) = (p ∧ K s') := rfl
@[go_sem] theorem zAbi {d : Option Nat} {g : Option (Nat × Bool)} {i : I} : zPl P E d g i K s none = zAp P E ⟨d, g, i⟩ K s := rfl
@[go_sem] theorem zAfZ : wsS P E .skip Q s = Q .normal s := rfl
@[go_sem] theorem s_ops {l : List IN} : wsS P E (.ops l) Q s = wsO P E l (Q .normal) s := rfl
@[go_sem] theorem zAf0 {l : List IN} : wsS P E (.dops l) Q s = wpQ P l (Q .normal) s := rfl
@[go_sem] theorem zAf1 {Q : Bool → Prop} {neg own : Bool} {k : Nat} {rows : List (List T)} : zOP Q neg (some (.sl own k rows)) = ∀ b : Bool, (b = !neg → rows = []) → Q b := rfl
@[go_sem] theorem zAf2 {Q : Bool → Prop} {neg : Bool} {id lo n : Nat} : zOP Q neg (some (.ref id lo n)) = ∀ b : Bool, (b = !neg → n = 0) → Q b := rfl
@[go_sem] theorem zAf3 {Q : Bool → Prop} {neg : Bool} : zOP Q neg (some (.v (.slice none 0 0))) = Q (!neg) := rfl
attribute [go_sem] zCv
@[go_sem] theorem zAf4 {l : List (Option (List IN) × IN)} : wsS P E (.rops l) Q s = wsR P E l (Q .normal) s := rfl
@[go_sem] theorem zAfp : wsR P E [] K s = K s := rfl
@[go_sem] theorem zAcp {b : Option (List IN)} {d : Option Nat} {i : I} {r : List (Option (List IN) × IN)} : wsR P E ((b, ⟨d, none, i⟩) :: r) K s = zI7 P E b d none i (wsR P E r K) s := rfl
@[go_sem] theorem zAcq {b : Option (List IN)} {d : Option Nat} {i : I} {r : List (Option (List IN) × IN)} {t : Nat} {g : Bool} : wsR P E ((b, ⟨d, some (t, g), i⟩) :: r) K s = grd (lk t s.slots) g (zVR P E b d (some (t, g)) i (wsR P E r K)) (skR b (wsR P E r) d K) s := rfl
@[go_sem] theorem s_R1 {b : Option (List IN)} {d : Option Nat} {g : Option (Nat × Bool)} {i : I} : zVR P E b d g i K s = zI7 P E b d g i K s := rfl
@[go_sem] theorem zAcr {d : Option Nat} {g : Option (Nat × Bool)} {i : I} : zI7 P E none d g i K s = zKS d K s (zAe s i) := rfl
@[go_sem] theorem zAcs {l : List IN} {d : Option Nat} {g : Option (Nat × Bool)} {i : I} : zI7 P E (some l) d g i K s = zD8 P E d g i (rrK l K) s (zAe s i) := rfl
@[go_sem] theorem zAf5 {d : Option Nat} {p : Prop} {t : T} : zKS d K s (some (p, t)) = (p ∧ K (s.put d t)) := rfl
@[go_sem] theorem zAfq {f : (St → Prop) → St → Prop} {d : Option Nat} : skR none f d K s = f K (s.put d (.tup [])) := rfl
@[go_sem] theorem zAfr {l : List IN} {f : (St → Prop) → St → Prop} {d : Option Nat} : skR (some l) f d K s = rrK l (f K) (s.put d (.tup [])) := rfl
@[go_sem] theorem s_rrK {l : List IN} : rrK l K s = (rrL l s ∧ K s) := rfl
@[go_sem] theorem zAf6 : rrL [] s = True := rfl
@[go_sem] theorem zAf7 {d : Option Nat} {i : I} {l : List IN} : rrL (⟨d, none, i⟩ :: l) s = (rr1 d s (zAe s i) ∧ rrL l s) := rfl
@[go_sem] theorem zAf8 {d : Option Nat} {i : I} {t : Nat} {g : Bool} {l : List IN} : rrL (⟨d, some (t, g), i⟩ :: l) s = (grd (lk t s.slots) g (rrG d i) (same d (.tup [])) s ∧ rrL l s) := rfl
@[go_sem] theorem s_rrG {d : Option Nat} {i : I} : rrG d i s = rr1 d s (zAe s i) := rfl
@[go_sem] theorem s_rr1 {d : Option Nat} {p : Prop} {t : T} : rr1 d s (some (p, t)) = (p ∧ same d t s) := rfl
@[go_sem] theorem zAfs {t : T} : same none t s = True := rfl
@[go_sem] theorem zAft {n : Nat} {t : T} : same (some n) t s = (lk n s.slots = some t) := rfl
@[go_sem] theorem s_seq {a b : AS} : wsS P E (.seq a b) Q s = wsS P E a (zKD (wsS P E b) Q) s := rfl
@[go_sem] theorem s_cond {x : Operand} {a b : AS} : wsS P E (.cond x a b) Q s = grc (s.eval x) (wsS P E a Q) (wsS P E b Q) s := rfl
@[go_sem] theorem zAf9 {na : Nat} {L : List (Nat × Nat)} {b : AS} : wsS P E (.loop na L b) Q s = zVQ P E na L b Q (canon E na L s) := rfl
@[go_sem] theorem zAfu {id : Nat} {b : AS} : wsS P E (.block id b) Q s = wsS P E b (zD4 id Q) s := rfl
@[go_sem] theorem s_exit {id : Nat} : wsS P E (.exit id) Q s = Q (.exit id) s := rfl
@[go_sem] theorem s_ret : wsS P E .ret Q s = Q .ret s := rfl
@[go_sem] theorem zAga {L : List Nat} {b : AS} : wsS P E (.kept L b) Q s = wsS P E b Q (s.fin0 L) := rfl
@[go_sem] theorem zAgb {L : List (Nat × Nat)} {t : RT} : wsS P E (.tops L t) Q s = Jn (fun I => wsT P E t (zGy L I) s) (Q .normal) := rfl
@[go_sem] theorem zAct : wsT P E .done K s = K s := rfl
@[go_sem] theorem zAfv {d : Option Nat} {i : I} {r : RT} : wsT P E (.rd ⟨d, none, i⟩ r) K s = zKS d (wsT P E r K) s (zAe s i) := rfl
@[go_sem] theorem zAfw {d : Option Nat} {i : I} {r : RT} {t : Nat} {g : Bool} : wsT P E (.rd ⟨d, some (t, g), i⟩ r) K s = grd (lk t s.slots) g (zSp d i (wsT P E r K)) (skO (wsT P E r) d K) s := rfl
@[go_sem] theorem s_P1 {d : Option Nat} {i : I} : zSp d i K s = zKS d K s (zAe s i) := rfl
@[go_sem] theorem s_T1 {l : List IN} {d : Option Nat} {g : Option (Nat × Bool)} {i : I} : zMB P E l d g i K s = zD8 P E d g i (rrK l K) s (zAe s i) := rfl
@[go_sem] theorem s_skT {l : List IN} {f : (St → Prop) → St → Prop} {d : Option Nat} : skT l f d K s = rrK l (f K) (s.put d (.tup [])) := rfl
@[go_sem] theorem zAgc {l : List IN} {d : Option Nat} {i : I} {r : RT} : wsT P E (.alt l ⟨d, none, i⟩ r .none) K s = zD8 P E d none i (rrK l (wsT P E r K)) s (zAe s i) := by
 simp [wsT, Both, zMB]
@[go_sem] theorem zAgd {l : List IN} {d : Option Nat} {i : I} {r : RT} {t : Nat} {g : Bool} : wsT P E (.alt l ⟨d, some (t, g), i⟩ r .none) K s = grd (lk t s.slots) g (zMB P E l d (some (t, g)) i (wsT P E r K)) (skT l (wsT P E r) d K) s := by
 simp [wsT, Both]
@[go_sem] theorem zAge {l l2 : List IN} {d : Option Nat} {i : I} {r r2 o : RT} {x2 : IN} : wsT P E (.alt l ⟨d, none, i⟩ r (.alt l2 x2 r2 o)) K s = Both (zD8 P E d none i (rrK l (wsT P E r K)) s (zAe s i)) (wsT P E (.alt l2 x2 r2 o) K s) := rfl
@[go_sem] theorem zAgf {l l2 : List IN} {d : Option Nat} {i : I} {r r2 o : RT} {x2 : IN} {t : Nat} {g : Bool} : wsT P E (.alt l ⟨d, some (t, g), i⟩ r (.alt l2 x2 r2 o)) K s = Both (grd (lk t s.slots) g (zMB P E l d (some (t, g)) i (wsT P E r K)) (skT l (wsT P E r) d K) s) (wsT P E (.alt l2 x2 r2 o) K s) := rfl
@[go_sem] theorem zAgg {ms : List (Nat × Nat × List (Nat × Nat))} {a : AS} : wsS P E (.post ms a) Q s = wsS P E a (zLx ms Q) s := rfl
@[go_sem] theorem zAcu {ms : List (Nat × Nat × List (Nat × Nat))} : zLx ms Q .normal s = zI6 (Q .normal) (zDP ms (True, s)) := rfl
@[go_sem] theorem zAcv {ms : List (Nat × Nat × List (Nat × Nat))} : zLx ms Q .ret s = Q .ret s := rfl
@[go_sem] theorem zAcw {ms : List (Nat × Nat × List (Nat × Nat))} {id : Nat} : zLx ms Q (.exit id) s = Q (.exit id) s := rfl
@[go_sem] theorem s_pre {l : List IN} {x new : Nat} {a : AS} : wsS P E (.pre l x new a) Q s = zI6 (wsS P E a Q) (zMA E s l x new) := rfl
@[go_sem] theorem s_lay {ms : List (Nat × Nat × List (Nat × Nat))} {a : AS} : wsS P E (.lay ms a) Q s = zI6 (wsS P E a Q) (zDP ms (True, s)) := rfl
attribute [go_sem] zMA zSo zYA preO zVO Option.isSome_some
@[go_sem] theorem zAgh {p : Prop} {s' : St} : zI6 K (p, s') = (p ∧ K s') := rfl
attribute [go_sem] zYx zDP zMv zKH zIZ zO6 zVA zYs St.close1 St.nil1 zDg zDs zKG St.open1
@[go_sem] theorem zAgi {na : Nat} {L : List (Nat × Nat)} {b : AS} {p : Prop} {s' : St} : zVQ P E na L b Q (p, s') = (p ∧ zLy P E na L b Q s') := rfl
@[go_sem] theorem zAfx {σ : Type} {n j : Nat} {F : Nat → σ → St} {I : Nat → σ → Prop} {p : Prop} {s' : St} : zSq n F I j (p, s') = (p ∧ j < n ∧ ∃ x, s' = F (j + 1) x ∧ I (j + 1) x) := rfl
@[go_sem] theorem zAcx {σ : Type} {na : Nat} {L : List (Nat × Nat)} {n j : Nat} {F : Nat → σ → St} {I : Nat → σ → Prop} : zLz E na L n F I j Q .normal s = zSq n F I j (canon E na L s) := rfl
@[go_sem] theorem zAcy {σ : Type} {na : Nat} {L : List (Nat × Nat)} {n j : Nat} {F : Nat → σ → St} {I : Nat → σ → Prop} : zLz E na L n F I j Q .ret s = Q .ret s := rfl
@[go_sem] theorem zAcz {σ : Type} {na : Nat} {L : List (Nat × Nat)} {n j id : Nat} {F : Nat → σ → St} {I : Nat → σ → Prop} : zLz E na L n F I j Q (.exit id) s = Q (.exit id) s := rfl
@[go_sem] theorem zAfy {σ : Type} {x : σ} {m : σ → Nat} {F : σ → St} {I : σ → Prop} {p : Prop} {s' : St} : zSr F I m x (p, s') = (p ∧ ∃ y, s' = F y ∧ I y ∧ m y < m x) := rfl
@[go_sem] theorem zAb7 {σ : Type} {na : Nat} {L : List (Nat × Nat)} {x : σ} {m : σ → Nat} {F : σ → St} {I : σ → Prop} : zLA E na L F I m x Q .normal s = zSr F I m x (canon E na L s) := rfl
@[go_sem] theorem zAb8 {σ : Type} {na : Nat} {L : List (Nat × Nat)} {x : σ} {m : σ → Nat} {F : σ → St} {I : σ → Prop} : zLA E na L F I m x Q .ret s = Q .ret s := rfl
@[go_sem] theorem zAb9 {σ : Type} {na : Nat} {L : List (Nat × Nat)} {id : Nat} {x : σ} {m : σ → Nat} {F : σ → St} {I : σ → Prop} : zLA E na L F I m x Q (.exit id) s = Q (.exit id) s := rfl
@[go_sem] theorem zAgj {f : Nat} {xs : List Operand} : zAe s (.call f xs) = none := rfl
@[go_sem] theorem zAfz {f : Nat} {xs : List Operand} : zAe s (.xcall f xs) = none := rfl
@[go_sem] theorem p_bad {x : Operand} : zAe s (.bad x) = none := rfl
@[go_sem] theorem zAfA {x : Operand} {xs : List Operand} : zAe s (.callv x xs) = none := rfl
@[go_sem] theorem zAfB {z : Value} : zAe s (.alloc z) = none := rfl
@[go_sem] theorem p_box {x : Operand} : zAe s (.box x) = none := rfl
@[go_sem] theorem zAfC {m : Nat} {x v : Operand} : zAe s (.store m x v) = none := rfl
@[go_sem] theorem p_bsl {k n : Nat} {z : Value} {ps : List (Nat × Operand)} : zAe s (.bsl k z n ps) = none := rfl
@[go_sem] theorem p_mks {k n : Nat} {z : Value} {x y : Operand} : zAe s (.mks k n z x y) = none := rfl
@[go_sem] theorem p_app {k n : Nat} {z : Value} {x y : Operand} : zAe s (.app k n z x y) = none := rfl
@[go_sem] theorem zAgk {d : Option Nat} {f : Nat} {xs : List Operand} : zCb E s d (.call f xs) = none := by cases d <;> rfl
@[go_sem] theorem zAfD {d : Option Nat} {f : Nat} {xs : List Operand} : zCb E s d (.xcall f xs) = none := by cases d <;> rfl
@[go_sem] theorem f_bad {d : Option Nat} {x : Operand} : zCb E s d (.bad x) = none := by cases d <;> rfl
@[go_sem] theorem zAfE {d : Option Nat} {x : Operand} {xs : List Operand} : zCb E s d (.callv x xs) = none := by cases d <;> rfl
@[go_sem] theorem zAfF {z : Value} : zCb E s (some d) (.alloc z) = some (E.okd d ∧ zAk d s.objs, (s.new d ⟨(zAu z).length, [zAu z]⟩).set d (.ptr d 0 0)) := rfl
def zYB (E : Env) (s : St) (d : Nat) (t : T) : Option (List T) → Option (Prop × St)
 | some row => some (t.plainV = true ∧ E.okd d ∧ zAk d s.objs ∧ zAB d row, (s.new d ⟨row.length, [row]⟩).set d (.ptr d 0 0))
 | none => none
def zSu (E : Env) (s : St) (d : Nat) : Option T → Option (Prop × St)
 | some t => zYB E s d t t.cells
 | none => none
@[go_sem] theorem f_box {x : Operand} : zCb E s (some d) (.box x) = zSu E s d (s.eval x) := by
 simp only [zCb]
 cases s.eval x with
 | none => rfl
 | some t => simp only [zSu]; cases t.cells <;> rfl
def zWX (s : St) (id j q n : Nat) (t : T) : Option Ob → Option (List T) → Option (Prop × St)
 | some ob, some cs => some (cs.length = n ∧ t.plainV = true ∧ cs.all T.storable = true ∧ j < ob.rows.length ∧ q + n ≤ ob.k, s.upd id ⟨ob.k, zCP ob.rows j q cs⟩)
 | _, _ => none
def zVV (s : St) (n : Nat) : Option T → Option T → Option (Prop × St)
 | some (.ptr id j q), some t => zWX s id j q n t (lk id s.objs) t.cells
 | _, _ => none
@[go_sem] theorem zAfG {n : Nat} {x v : Operand} : zCb E s none (.store n x v) = zVV s n (s.eval x) (s.eval v) := by
 simp only [zCb]
 cases s.eval x with
 | none => rfl
 | some p => cases s.eval v with
  | none => cases p <;> rfl
  | some t =>
   cases p with
   | ptr id j q => simp only [zVV]; cases lk id s.objs <;> cases t.cells <;> rfl
   | _ => rfl
def zWY (E : Env) (s : St) (d k n : Nat) (l : List (Nat × Nat × T)) : Option (List T) → Option (Prop × St)
 | some flat => some (l.all (fun q => q.2.2.plainV) = true ∧ flat.length = n * k ∧ E.okd d ∧ zAk d s.objs ∧ zAt d (chunks k n flat), (s.new d ⟨k, chunks k n flat⟩).set d (.ref d 0 n))
 | none => none
def zVW (E : Env) (s : St) (d k n : Nat) : Option (List (Nat × Nat × T)) → Option (Prop × St)
 | some l => zWY E s d k n l (zDK (List.replicate (n * k) .any) l)
 | none => none
@[go_sem] theorem f_bsl {k n : Nat} {z : Value} {parts : List (Nat × Operand)} : zCb E s (some d) (.bsl k z n parts) = zVW E s d k n (zC5 s k parts) := by
 simp only [zCb]
 cases zC5 s k parts with
 | none => rfl
 | some l => simp only [zVW]; cases zDK (List.replicate (n * k) .any) l <;> rfl
def zYC (E : Env) (s : St) (d k bytes : Nat) (z : Value) : Option T → Option T → Option (Prop × St)
 | some (.v (.int _ l)), some (.v (.int _ c)) => some ((0 ≤ l ∧ l ≤ c ∧ c ≤ 9223372036854775807 ∧ bytes * c ≤ 281474976710656) ∧ (zAu z).length = k ∧ E.okd d ∧ zAk d s.objs, (s.new d ⟨k, List.replicate l.toNat (zAu z)⟩).set d (.ref d 0 l.toNat))
 | _, _ => none
@[go_sem] theorem f_mks {k bytes : Nat} {z : Value} {x y : Operand} : zCb E s (some d) (.mks k bytes z x y) = zYC E s d k bytes z (s.eval x) (s.eval y) := rfl
def zYD (E : Env) (s : St) (d k bytes : Nat) : Option T → Option T → Option (Prop × St)
 | some tx, some ty => bif zLv tx ty then zAU s d k (lkT s tx) tx ty else appG E s d k bytes ty (zHO s k tx) (zDO s k ty)
 | _, _ => none
@[go_sem] theorem f_app {k bytes : Nat} {z : Value} {x y : Operand} : zCb E s (some d) (.app k bytes z x y) = zYD E s d k bytes (s.eval x) (s.eval y) := by
 simp only [zCb]
 cases s.eval x with
 | none => rfl
 | some tx => cases s.eval y <;> rfl
def zYE (E : Env) (s : St) (d k bytes : Nat) (z : Value) : Option T → Option T → Option (Prop × St)
 | some (.ref id lo n), some (.v (.int _ m)) => zSl E s d k bytes z id lo n m (lk id s.objs)
 | _, _ => none
@[go_sem] theorem f_apz {k bytes : Nat} {z : Value} {x y : Operand} : zCb E s (some d) (.apz k bytes z x y) = zYE E s d k bytes z (s.eval x) (s.eval y) := rfl
def zYF (s : St) (k : Nat) (z : Value) : Option T → Option (Prop × St)
 | some (.ref id lo n) => zSi s k z id lo n (lk id s.objs)
 | _ => none
@[go_sem] theorem f_clr {k : Nat} {z : Value} {x : Operand} : zCb E s none (.clr k z x) = zYF s k z (s.eval x) := rfl
def zYG (E : Env) (s : St) (d : Option Nat) : Option T → Option (Prop × St)
 | some (.ref id lo n) => zSj E s d id lo n (lk id s.objs)
 | _ => none
@[go_sem] theorem zAgl {d : Option Nat} {x : Operand} : zCb E s d (.capo x) = zYG E s d (s.eval x) := by cases d <;> rfl
def zYH (s : St) (d : Option Nat) (k : Nat) : Option T → Option T → Option (Prop × St)
 | some (.ref id lo n), some ty => zSk s d k id lo n ty (lk id s.objs) (zDO s k (zKJ n ty))
 | _, _ => none
@[go_sem] theorem f_cpy {d : Option Nat} {k : Nat} {x y : Operand} : zCb E s d (.cpy k x y) = zYH s d k (s.eval x) (s.eval y) := by cases d <;> rfl
@[go_sem] theorem p_apz {k n : Nat} {z : Value} {x y : Operand} : zAe s (.apz k n z x y) = none := rfl
@[go_sem] theorem p_clr {k : Nat} {z : Value} {x : Operand} : zAe s (.clr k z x) = none := rfl
@[go_sem] theorem zAgm {x : Operand} : zAe s (.capo x) = none := rfl
@[go_sem] theorem p_cpy {k : Nat} {x y : Operand} : zAe s (.cpy k x y) = none := rfl
attribute [go_sem] mvC mvS mvP zVE zMk T.mov zLv lkT zAU appG zSi zSj zSk zSl zYD zYE zYF zYG zYH zKJ zKK zF0 zPb zYw St.re zBv true_or or_true
def zYI (E : Env) (s : St) (d : Nat) (m : Option Nat) (id i o : Nat) : Option Ob → Option (Prop × St)
 | some ob => ldE E s d m id i o (i < ob.rows.length) (zAM m ((ob.rows.getD i []).drop o))
 | none => none
def fLd (E : Env) (s : St) (d : Nat) (m : Option Nat) : Option T → Option (Prop × St)
 | some (.ptr id i o) => zYI E s d m id i o (lk id s.objs)
 | _ => none
@[go_sem] theorem zAgn {m : Option Nat} {x : Operand} : zCb E s (some d) (.load m x) = fLd E s d m (s.eval x) := by
 simp only [zCb]
 cases s.eval x with
 | none => rfl
 | some t =>
  cases t with
  | ptr id i o => simp only [fLd]; cases lk id s.objs <;> rfl
  | _ => rfl
attribute [go_sem] fLd zYI ldE Option.isNone_none Option.isNone_some
attribute [go_sem] zYB zSu zVV zWX zVW zWY zYC zHO zDO List.take_nil List.take_length
@[go_sem] theorem zYJ {α β : Type} {f : α → β} {l : List α} : (l.map f).take l.length = l.map f := by
 rw [List.take_of_length_le (by simp)]
@[go_sem] theorem nbeq (a b : Nat) : Nat.beq a b = decide (a = b) := by
 rw [Bool.eq_iff_iff]; simp
@[go_sem] theorem nbne (a b : Nat) : (a != b) = !decide (a = b) := by
 rw [Bool.eq_iff_iff]; simp
@[go_sem] theorem nble (a b : Nat) : Nat.ble a b = decide (a ≤ b) := by
 rw [Bool.eq_iff_iff]; simp
@[go_sem] theorem nblt (a b : Nat) : Nat.blt a b = decide (a < b) := by
 rw [Bool.eq_iff_iff]; simp
attribute [go_sem] decide_true decide_false and_self Nat.zero_add Nat.add_zero Int.cast_ofNat_Int Int.toNat_natCast List.length_map List.length_replicate List.length_append forall_eq exists_eq_right List.drop_zero List.nil_append List.filter_nil List.filter_cons List.replicate_zero List.replicate_succ
theorem zTY {d : Nat} : zAt d [] ↔ True := by simp [zAt]
theorem zSv {d : Nat} {r : List T} {rs : List (List T)} : zAt d (r :: rs) ↔ zAB d r ∧ zAt d rs := by simp [zAt]
theorem zVX {d : Nat} {rows : List (List T)} (h : zAr rows) : zAt d rows ↔ True := ⟨fun _ => trivial, fun _ => zCu d h⟩
theorem zYK : zAr [] ↔ True := by simp [zAr]
theorem zXq {r : List T} {rs : List (List T)} : zAr (r :: rs) ↔ zAw r ∧ zAr rs := by simp [zAr]
theorem zTZ {a b : List (List T)} : zAr (a ++ b) ↔ zAr a ∧ zAr b := by
 simp only [zAr, List.mem_append]
 exact ⟨fun h => ⟨fun r hr => h r (.inl hr), fun r hr => h r (.inr hr)⟩, fun h r hr => hr.elim (h.1 r) (h.2 r)⟩
theorem zHv {α : Type} {f : α → List T} {l : List α} : zAr (l.map f) ↔ ∀ x ∈ l, zAw (f x) := by simp [zAr]
theorem zT0 {n : Nat} {r : List T} : zAr (List.replicate n r) ↔ n = 0 ∨ zAw r := by
 simp only [zAr, List.mem_replicate]
 constructor
 ·intro h
  by_cases e : n = 0
  ·exact .inl e
  ·exact .inr (h r ⟨e, rfl⟩)
 ·rintro h x ⟨h1, rfl⟩
  exact h.resolve_left h1
theorem zJc {d : Nat} {a b : List (List T)} : zAt d (a ++ b) ↔ zAt d a ∧ zAt d b := by
 simp only [zAt, List.mem_append]
 exact ⟨fun h => ⟨fun r hr => h r (.inl hr), fun r hr => h r (.inr hr)⟩, fun h r hr => hr.elim (h.1 r) (h.2 r)⟩
theorem zGC {α : Type} {d : Nat} {f : α → List T} {l : List α} : zAt d (l.map f) ↔ ∀ x ∈ l, zAB d (f x) := by simp [zAt]
theorem zNA {d n : Nat} {r : List T} : zAt d (List.replicate n r) ↔ n = 0 ∨ zAB d r := by
 simp only [zAt, List.mem_replicate]
 constructor
 ·intro h
  by_cases e : n = 0
  ·exact .inl e
  ·exact .inr (h r ⟨e, rfl⟩)
 ·rintro h x ⟨h1, rfl⟩
  exact h.resolve_left h1
theorem zNB {d : Nat} {rows : List (List T)} {i : Nat} {r : List T} (h1 : zAt d rows) (h2 : zAB d r) : zAt d (rows.set i r) ↔ True := by
 refine ⟨fun _ => trivial, fun _ x hx => ?_⟩
 rcases List.mem_or_eq_of_mem_set hx with hx | rfl
 ·exact h1 x hx
 ·exact h2
theorem zSw {d : Nat} {rows : List (List T)} {n : Nat} (h : zAt d rows) : zAt d (rows.take n) ↔ True := ⟨fun _ => trivial, fun _ x hx => h x (List.mem_of_mem_take hx)⟩
theorem zSx {d : Nat} {rows : List (List T)} {n : Nat} (h : zAt d rows) : zAt d (rows.drop n) ↔ True := ⟨fun _ => trivial, fun _ x hx => h x (List.mem_of_mem_drop hx)⟩
theorem zT1 {d : Nat} {a b : List (List T)} : zCS d (a ++ b) ↔ zCS d a ∧ zCS d b := by
 simp only [zCS, List.mem_append]
 exact ⟨fun h => ⟨fun r hr => h r (.inl hr), fun r hr => h r (.inr hr)⟩, fun h r hr => hr.elim (h.1 r) (h.2 r)⟩
theorem zT2 {α : Type} {d : Nat} {f : α → List T} {l : List α} : zCS d (l.map f) ↔ ∀ x ∈ l, ltL d (f x) := by simp [zCS]
theorem zT3 {d n : Nat} {r : List T} : zCS d (List.replicate n r) ↔ n = 0 ∨ ltL d r := by
 simp only [zCS, List.mem_replicate]
 constructor
 ·intro h
  by_cases e : n = 0
  ·exact .inl e
  ·exact .inr (h r ⟨e, rfl⟩)
 ·rintro h x ⟨h1, rfl⟩
  exact h.resolve_left h1
theorem zNC {d d' : Nat} {a b : List (List T)} : zBc d d' (a ++ b) = zBc d d' a ++ zBc d d' b := by simp [zBc]
theorem zND {α : Type} {d d' : Nat} {f : α → List T} {l : List α} : zBc d d' (l.map f) = l.map fun x => zCR d d' (f x) := by simp [zBc, Function.comp_def]
theorem zNE {d d' n : Nat} {r : List T} : zBc d d' (List.replicate n r) = List.replicate n (zCR d d' r) := by simp [zBc]
theorem zT4 {d d' : Nat} {rows : List (List T)} {i : Nat} {r : List T} : zBc d d' (rows.set i r) = (zBc d d' rows).set i (zCR d d' r) := by simp [zBc, List.map_set]
theorem zSy {d d' n : Nat} {rows : List (List T)} : zBc d d' (rows.take n) = (zBc d d' rows).take n := by simp [zBc, List.map_take]
theorem zSz {d d' n : Nat} {rows : List (List T)} : zBc d d' (rows.drop n) = (zBc d d' rows).drop n := by simp [zBc, List.map_drop]
@[go_sem] theorem zAfH {r q : List T} : zAl [r] 0 (List.replicate 1 q) = [q] := rfl
@[go_sem] theorem zAbQ {d : Nat} {rows : List (List T)} {i n : Nat} {q : List T} : zAt d (zAl rows i (List.replicate n q)) ↔ zAt d (rows.take i) ∧ zAt d (List.replicate n q) ∧ zAt d (rows.drop (i + n)) := by
 unfold zAl zAt
 simp only [List.length_replicate, List.mem_append, or_imp, forall_and, and_assoc]
attribute [go_sem] zJc zGC zNA zNB zSw zSx zT1 zT2 zT3 zNC zND zNE zT4 zSy zSz implies_true or_true
theorem zT5 {rows : List (List T)} {i : Nat} {r : List T} (h1 : zAr rows) (h2 : zAw r) : zAr (rows.set i r) ↔ True := by
 refine ⟨fun _ => trivial, fun _ x hx => ?_⟩
 rcases List.mem_or_eq_of_mem_set hx with hx | rfl
 ·exact h1 x hx
 ·exact h2
theorem zXr {rows : List (List T)} {n : Nat} (h : zAr rows) : zAr (rows.take n) ↔ True := ⟨fun _ => trivial, fun _ x hx => h x (List.mem_of_mem_take hx)⟩
theorem zXs {rows : List (List T)} {n : Nat} (h : zAr rows) : zAr (rows.drop n) ↔ True := ⟨fun _ => trivial, fun _ x hx => h x (List.mem_of_mem_drop hx)⟩
theorem zYL {B : Nat} : zCS B [] ↔ True := by simp [zCS]
theorem zXt {B : Nat} {r : List T} {rs : List (List T)} : zCS B (r :: rs) ↔ ltL B r ∧ zCS B rs := by simp [zCS]
theorem zAbR {B : Nat} {rows : List (List T)} (h : zAr rows) : zCS B rows ↔ True := ⟨fun _ => trivial, fun _ => zQi h⟩
attribute [go_sem] zTY zSv zVX zYK zXq zTZ zHv zT0 zT5 zXr zXs zYL zXt zAbR
attribute [go_sem] cv1 cv2 cm1 cm2 nodupB zKF zXo zXp exists_eq_left' Option.map_some Option.map_none
attribute [go_sem] zMl zR7 List.length_cons List.length_nil zHt T.lt ltL zI8 zFJ zFf zGA zPn zOx zVT
@[go_sem] theorem zAfI {X r : T} {l : List T} : zEC (fun r _ => r = X) r l ↔ zAS r X := by
 constructor
 ·rintro ⟨r', h, rfl⟩; exact h
 ·intro h; exact ⟨X, h, rfl⟩
@[go_sem] theorem zAcA {X r : T} {l : List T} {C : List T → Prop} : zEC (fun r l => r = X ∧ C l) r l ↔ zAS r X ∧ C l := by
 constructor
 ·rintro ⟨r', h, rfl, h2⟩; exact ⟨h, h2⟩
 ·intro h; exact ⟨X, h.1, rfl, h.2⟩
@[go_sem] theorem zAfJ {α : Type} {X : α → T} {C : α → Prop} {r : T} {l : List T} : zEC (fun r _ => ∃ n, r = X n ∧ C n) r l ↔ ∃ n, zAS r (X n) ∧ C n := by
 constructor
 ·rintro ⟨r', h, n, rfl, h2⟩; exact ⟨n, h, h2⟩
 ·rintro ⟨n, h, h2⟩; exact ⟨X n, h, n, rfl, h2⟩
theorem zFg (t : T) : zAS t t := by
 have key : ∀ t : T, zAS t t := by
  intro t
  refine T.rec (motive_1 := fun t => zAS t t) (motive_2 := fun l => zBi l l) (motive_3 := fun _ => True) ?_ ?_ ?_ ?_ ?_ ?_ ?_ ?_ ?_ ?_ ?_ ?_ ?_ t
  ·simp [zAS]
  ·intro x; unfold zAS; split <;> simp_all
  ·intro row ih; simp only [zAS]; exact ih
  ·intro row ih; simp only [zAS]; exact ih
  ·intros; simp [zAS]
  ·intros; simp [zAS]
  ·intros; simp [zAS]
  ·intros; simp [zAS]
  ·intros; simp [zAS]
  ·simp [zBi]
  ·intro t ts h1 h2; simp only [zBi]; exact ⟨h1, h2⟩
  ·trivial
  ·intros; trivial
 exact key t
theorem zXu {R : T → List T → Prop} {r : T} {l : List T} (h : R r l) : zEC R r l := ⟨r, zFg r, h⟩
@[go_sem] theorem zAfK {o : Bool} {k : Nat} {rows : List (List T)} : zAS (.v (.slice none 0 0)) (.sl o k rows) ↔ rows = [] := by simp [zAS]
@[go_sem] theorem nle_v {x y : Value} : zAS (.v x) (.v y) ↔ T.v x = T.v y := by
 unfold zAS; split <;> simp_all
@[go_sem] theorem zAgo {o o' : Bool} {k k' : Nat} {rows rows' : List (List T)} : zAS (.sl o k rows) (.sl o' k' rows') ↔ T.sl o k rows = T.sl o' k' rows' := by
 unfold zAS; exact Iff.rfl
@[go_sem] theorem zAgp {o o' : Bool} {q q' : Nat} {row row' : List T} : zAS (.bo o row q) (.bo o' row' q') ↔ T.bo o row q = T.bo o' row' q' := by
 unfold zAS; exact Iff.rfl
@[go_sem] theorem zAfL {l l' : List T} : zAS (.agg l) (.agg l') ↔ zBi l l' := by simp only [zAS]
@[go_sem] theorem zAfM {l l' : List T} : zAS (.tup l) (.tup l') ↔ zBi l l' := by simp only [zAS]
@[go_sem] theorem zAcB : zBi [] [] ↔ True := by simp only [zBi]
@[go_sem] theorem zAca {t u : T} {ts us : List T} : zBi (t :: ts) (u :: us) ↔ zAS t u ∧ zBi ts us := by simp only [zBi]
attribute [go_sem] ne_eq not_true_eq_false
@[go_sem] theorem zAfN : zBb [] = [] := rfl
@[go_sem] theorem zAcC {r : List T} {rs : List (List T)} : zBb (r :: rs) = zCi r :: zBb rs := rfl
@[go_sem] theorem zAfO {α : Type} {f : α → List T} {l : List α} : zBb (l.map f) = l.map fun x => zCi (f x) := by
 rw [zCz, List.map_map]; rfl
@[go_sem] theorem zAfP {a b : List (List T)} : zBb (a ++ b) = zBb a ++ zBb b := by simp [zCz]
@[go_sem] theorem zAfQ {n : Nat} {r : List T} : zBb (List.replicate n r) = List.replicate n (zCi r) := by simp [zCz]
@[go_sem] theorem zAfR {rows : List (List T)} {i : Nat} {r : List T} : zBb (rows.set i r) = (zBb rows).set i (zCi r) := by simp [zCz, List.map_set]
@[go_sem] theorem zAcD {rows : List (List T)} {n : Nat} : zBb (rows.take n) = (zBb rows).take n := by simp [zCz]
@[go_sem] theorem zAcE {rows : List (List T)} {n : Nat} : zBb (rows.drop n) = (zBb rows).drop n := by simp [zCz]
@[go_sem] theorem zAfS {rows : List (List T)} : (zBb rows).length = rows.length := zDe rows
attribute [go_sem] T.dsh zCi
@[go_sem] theorem take_len {α β : Type} {f : α → β} {l : List α} : (l.map f).take l.length = l.map f := by rw [← List.length_map (f := f), List.take_length]
@[go_sem] theorem zAcF {α : Type} {n : Nat} {r : α} : (List.replicate n r).take n = List.replicate n r := by simp
@[go_sem] theorem zAcG {α β : Type} {f : α → β} {p : β → Bool} {l : List α} : (l.map f).all p = l.all fun x => p (f x) := by simp [List.all_map, Function.comp_def]
@[go_sem] theorem zAcH {α : Type} {l : List α} : (l.all fun _ => true) = true := by simp
@[go_sem] theorem zAbS {α : Type} {f : α → List T} {l : List α} : (l.map f).map (fun r => r.map T.sh) = l.map fun x => (f x).map T.sh := by simp [List.map_map, Function.comp_def]
attribute [go_sem] canon zKQ zPh zPi zLw zDF zKP zPf zPg St.nilS St.ren zJR zJS zG1 T.ren zCR St.fin zHr zHU zVL zYz zYy zH0 zSn St.fin0 zJP
@[go_sem] theorem zAcb {d d' : Nat} : zBc d d' [] = [] := rfl
@[go_sem] theorem zAbT {d d' : Nat} {r : List T} {rs : List (List T)} : zBc d d' (r :: rs) = zCR d d' r :: zBc d d' rs := rfl
@[go_sem] theorem zAcI {d d' : Nat} {rows : List (List T)} (h : zAr rows) : zBc d d' rows = rows := zPd d d' h
def nth {α : Type} [Inhabited α] (l : List α) (i : Nat) : α := l.getD i default
theorem zA6 {α : Type} [Inhabited α] {l : List α} {i : Nat} (h : i < l.length) : nth l i = l[i] := by simp [nth, List.getD, h]
theorem zAc {α : Type} [Inhabited α] {l : List α} {i : Nat} (h : i < l.length) : nth l i ∈ l := by rw [zA6 h]; exact List.getElem_mem h
theorem zIs {α : Type} [Inhabited α] {x : α} {l : List α} : nth (x :: l) 0 = x := rfl
theorem zIt {α : Type} [Inhabited α] {x : α} {l : List α} {i : Nat} : nth (x :: l) (i + 1) = nth l i := rfl
theorem zPo {α : Type} [Inhabited α] {l : List α} {i : Nat} (h : i < l.length) : l.drop i = nth l i :: l.drop (i + 1) := by rw [zA6 h, List.drop_eq_getElem_cons h]
theorem zAD {α : Type} [Inhabited α] {l : List α} {i : Nat} (h : i < l.length) : l.take (i + 1) = l.take i ++ [nth l i] := by rw [zA6 h, List.take_succ_eq_append_getElem h]
theorem getD_map {α : Type} [Inhabited α] {f : α → List T} {l : List α} {i : Nat} (h : i < l.length) : (l.map f).getD i [] = f (nth l i) := by simp [nth, List.getD, h]
end
abbrev i64 (n : Int) : T := .v (.int .i64 n)
abbrev u8 (n : Int) : T := .v (.int .u8 n)
abbrev bl (b : Bool) : T := .v (.bool b)
abbrev str (s : ByteArray) : T := .v (.string s)
abbrev zAI : T := .v (.slice none 0 0)
abbrev ints (l : List Int) : List (List T) := l.map fun x => [i64 x]
abbrev strs (l : List ByteArray) : List (List T) := l.map fun x => [str x]
@[go_sem] theorem ints_set {l : List Int} {i : Nat} {y : Int} : (ints l).set i [i64 y] = ints (l.set i y) := by simp [ints, List.map_set]
@[go_sem] theorem zAcJ {l : List ByteArray} {i : Nat} {y : ByteArray} : (strs l).set i [str y] = strs (l.set i y) := by simp [strs, List.map_set]
attribute [go_sem] Nat.le_refl
def mx : Nat := 9223372036854775807
theorem zAf : maxLen = 9223372036854775807 := by decide
theorem zXv {n : Int} (h0 : -9223372036854775808 ≤ n) (h1 : n ≤ 9223372036854775807) : IntKind.i64.wrap n = n := Go.IntWalk.i64_in _ (by omega)
@[go_sem] theorem zAcc (a b : ByteArray) : zFx a b = decide (a = b) := by
 unfold zFx
 rw [Bool.eq_iff_iff, beq_iff_eq, decide_eq_true_iff]
 exact ⟨fun h => ByteArray.ext (Array.ext' h), fun h => by rw [h]⟩
def zAq (p : Nat → Bool) : Nat → Bool
 | 0 => true
 | n + 1 => zAq p n && p n
theorem zAE {p : Nat → Bool} : ∀ {n : Nat}, zAq p n = true ↔ ∀ i, i < n → p i = true
 | 0 => by simp [zAq]
 | n + 1 => by
  simp only [zAq, Bool.and_eq_true, zAE (n := n)]
  constructor
  ·rintro ⟨h1, h2⟩ i hi
   by_cases e : i = n
   ·rw [e]; exact h2
   ·exact h1 i (by omega)
  ·intro h
   exact ⟨fun i hi => h i (by omega), h n (by omega)⟩
theorem zAz {p : Nat → Bool} {n j : Nat} (h : j < n) (hp : p j = false) : zAq p n = false := by
 cases hb : zAq p n with
 | false => rfl
 | true => rw [zAE.1 hb j h] at hp; cases hp
theorem zAd {p : Nat → Bool} {j : Nat} (h : zAq p j = true) (hp : p j = true) : zAq p (j + 1) = true := by simp [zAq, h, hp]
theorem zAQ {α : Type} [Inhabited α] {p : α → Bool} {l : List α} : zAq (fun i => p (nth l i)) l.length = l.all p := by
 rw [Bool.eq_iff_iff, zAE, List.all_eq_true]
 constructor
 ·intro h x hx
  obtain ⟨i, hi, rfl⟩ := List.getElem_of_mem hx
  rw [← zA6 hi]; exact h i hi
 ·intro h i hi
  exact h _ (zAc hi)
theorem zLD {p q : Nat → Bool} {n : Nat} (h : ∀ i, i < n → p i = q i) : zAq p n = zAq q n := by
 rw [Bool.eq_iff_iff, zAE, zAE]
 exact ⟨fun H i hi => by rw [← h i hi]; exact H i hi, fun H i hi => by rw [h i hi]; exact H i hi⟩
def zG2 {α : Type} (f : α → Nat) (l : List α) (j : Nat) : Nat := ((l.take j).map f).sum
def szL {α : Type} (f : α → Nat) (l : List α) : Nat := l.length + (l.map f).sum
def wfL {α : Type} (p : α → Prop) (l : List α) : Prop := l.length ≤ maxLen ∧ ∀ x ∈ l, p x
def zA1 {α : Type} (p : α → Prop) (l : List α) : Prop := l.length ≤ maxLen ∧ ∀ x ∈ l, p x
theorem zJd {α : Type} {f : α → Nat} {l : List α} : zG2 f l 0 = 0 := by simp [zG2]
theorem zJe {α : Type} [Inhabited α] {f : α → Nat} {l : List α} {j : Nat} (h : j < l.length) : zG2 f l (j + 1) = zG2 f l j + f (nth l j) := by
 unfold zG2
 rw [zAD h, List.map_append, List.sum_append, List.map_cons, List.map_nil, List.sum_cons, List.sum_nil, Nat.add_zero]
theorem zKV {α : Type} {f : α → Nat} {l : List α} {j : Nat} (h : l.length ≤ j) : zG2 f l j = (l.map f).sum := by
 unfold zG2; rw [List.take_of_length_le h]
theorem zCh {α : Type} {f : α → Nat} {l : List α} : l.length ≤ szL f l := by unfold szL; omega
theorem zCp {α : Type} {f : α → Nat} {l : List α} {x : α} (h : x ∈ l) : f x ≤ szL f l := by
 have key : ∀ l : List α, x ∈ l → f x ≤ (l.map f).sum := by
  intro l
  induction l with
  | nil => intro h; cases h
  | cons y l ih =>
   intro h
   simp only [List.map_cons, List.sum_cons]
   rcases List.mem_cons.1 h with rfl | h
   ·omega
   ·have := ih h; omega
 have := key l h
 simp only [szL]; omega
@[go_sem] theorem zAbU (j : Nat) : ((j : Int) - 1).toNat = j - 1 := by omega
@[go_sem] theorem zAbj (j : Nat) : ((j : Int) + 1).toNat = j + 1 := by omega
@[go_sem] theorem zAfT (a b : Int) : (a == b) = decide (a = b) := by rw [Bool.eq_iff_iff]; simp
@[go_sem] theorem zAfU (a b : Int) : (a != b) = !decide (a = b) := by rw [Bool.eq_iff_iff]; simp
theorem zAv {caps : List T} (h : caps.all T.cap = true) : caps.all T.bare0 = true := by
 rw [List.all_eq_true] at h ⊢
 intro t ht
 have := h t ht
 unfold T.cap at this
 split at this <;> first | rfl | cases this
theorem zAC : ∀ {caps : List T}, caps.all T.cap = true → zAw caps
 | [], _ => trivial
 | t :: ts, h => by
  simp only [List.all_cons, Bool.and_eq_true] at h
  refine ⟨?_, zAC h.2⟩
  have := h.1
  unfold T.cap at this
  split at this <;> first | exact trivial | (simp [T.packed]; done) | cases this
theorem zAx {caps : List T} (h : caps.all T.cap = true) (d : Nat) : zAB d caps := zBL d (zAC h)
theorem zAH {caps : List T} (h : caps.all T.cap = true) (B : Nat) : ltL B caps := (zDW B caps).2 fun i _ _ => zAx h i
theorem zAy : ∀ {caps : List T}, caps.all T.cap = true → zH0 caps = []
 | [], _ => rfl
 | t :: ts, h => by
  simp only [List.all_cons, Bool.and_eq_true] at h
  have h1 := h.1
  cases t <;> first | (simp only [zH0]; exact zAy h.2) | (simp [T.cap] at h1)
def vwC : List T → Prop
 | [] => True
 | t :: ts => (t.packed ∧ t.bare = true) ∧ vwC ts
theorem zT6 : ∀ {caps : List T}, caps.all T.cap = true → vwC caps
 | [], _ => trivial
 | t :: ts, h => by
  have hb := zAC h
  simp only [List.all_cons, Bool.and_eq_true] at h
  refine ⟨⟨hb.1, ?_⟩, zT6 h.2⟩
  have h1 := h.1
  unfold T.cap at h1
  split at h1 <;> first | rfl | cases h1
theorem zLE {s : St} : ∀ {caps : List T}, caps.all T.cap = true → zDL s caps = some (caps, [], vwC caps)
 | [], _ => rfl
 | t :: ts, h => by
  simp only [List.all_cons, Bool.and_eq_true] at h
  have h1 := h.1
  have ht : zD6 s t = some (t, [], t.packed ∧ t.bare = true) := by
   unfold T.cap at h1
   split at h1 <;> first | rfl | cases h1
  simp only [zDL, ht, zLE h.2, vwC, List.nil_append]
def ixf {α : Type} (p : α → Bool) : List α → Int
 | [] => -1
 | x :: l => if p x then 0 else if ixf p l < 0 then -1 else ixf p l + 1
theorem zPp {α : Type} {p : α → Bool} : ∀ {l : List α}, -1 ≤ ixf p l
 | [] => by simp [ixf]
 | x :: l => by have := zPp (p := p) (l := l); simp only [ixf]; split <;> (try split) <;> omega
theorem zJV {α : Type} {p : α → Bool} : ∀ {l : List α}, decide (0 ≤ ixf p l) = l.any p
 | [] => by simp [ixf]
 | x :: l => by
  have h := zJV (p := p) (l := l)
  have := zPp (p := p) (l := l)
  rw [Bool.eq_iff_iff, decide_eq_true_iff] at h ⊢
  simp only [ixf, List.any_cons, Bool.or_eq_true]
  by_cases hx : p x = true
  ·simp [hx]
  ·rw [if_neg hx, ← h]
   by_cases e : ixf p l < 0
   ·rw [if_pos e]; constructor
    ·intro h; omega
    ·rintro (h | h)
     ·exact absurd h hx
     ·omega
   ·rw [if_neg e]; constructor
    ·intro h; exact .inr (by omega)
    ·intro _; omega
theorem zLF {α : Type} [Inhabited α] {p : α → Bool} : ∀ {l : List α} {j : Nat}, j < l.length → zAq (fun i => !p (nth l i)) j = true → p (nth l j) = true → ixf p l = j
 | [], j, h, _, _ => by simp at h
 | x :: l, 0, _, _, hp => by simp only [zIs] at hp; simp [ixf, hp]
 | x :: l, j + 1, h, ha, hp => by
  have h0 : p x = false := by simpa [zIs] using zAE.1 ha 0 (by omega)
  have ih := zLF (l := l) (j := j) (by simpa using h) (zAE.2 fun i hi => by simpa [zIt] using zAE.1 ha (i + 1) (by omega)) (by simpa [zIt] using hp)
  simp only [ixf, h0, ih]
  rw [if_neg (by simp), if_neg (by omega)]
  omega
theorem zKW {α : Type} [Inhabited α] {p : α → Bool} {l : List α} (h : zAq (fun i => !p (nth l i)) l.length = true) : ixf p l = -1 := by
 have h1 : l.any p = false := by
  rw [List.any_eq_false]
  intro x hx
  obtain ⟨i, hi, rfl⟩ := List.getElem_of_mem hx
  have := zAE.1 h i hi
  rw [zA6 hi] at this
  simpa using this
 rw [← zJV, decide_eq_false_iff_not] at h1
 have := zPp (p := p) (l := l)
 omega
def cpy {α : Type} (f : α → List T) (z : List T) (l : List α) (j : Nat) : List (List T) := (l.take j).map f ++ List.replicate (l.length - j) z
theorem zAA {α : Type} {f : α → List T} {z : List T} {l : List α} {j : Nat} (hj : j ≤ l.length) : (cpy f z l j).length = l.length := by simp [cpy]; omega
theorem zB4 {α : Type} (f : α → List T) (z : List T) (l : List α) : List.replicate l.length z = cpy f z l 0 := by simp [cpy]
theorem zCq {α : Type} {f : α → List T} {z : List T} {l : List α} {j : Nat} (h : l.length ≤ j) : cpy f z l j = l.map f := by simp [cpy, List.take_of_length_le h, Nat.sub_eq_zero_of_le h]
theorem zB5 {α : Type} [Inhabited α] {f : α → List T} {z : List T} {l : List α} {j : Nat} (hj : j < l.length) : (cpy f z l j).set j (f (nth l j)) = cpy f z l (j + 1) := by
 unfold cpy
 rw [List.set_append_right _ _ (by simp; omega)]
 have e1 : j - ((l.take j).map f).length = 0 := by simp; omega
 have e2 : l.length - j = (l.length - (j + 1)) + 1 := by omega
 rw [e1, e2, List.replicate_succ, List.set_cons_zero, zAD hj, List.map_append, List.map_cons, List.map_nil, List.append_assoc, List.singleton_append]
theorem zAL {α : Type} {f : α → List T} {z : List T} {l : List α} {j : Nat} (hj : j < l.length) : (cpy f z l j).getD j [] = z := by
 unfold cpy
 rw [List.getD, List.getElem?_append_right (by simp; omega), List.getElem?_replicate, if_pos (by simp; omega)]
 rfl
theorem zXw {α : Type} {f : α → List T} {z : List T} {l : List α} {j d : Nat} : zAt d (cpy f z l j) ↔ (∀ x ∈ l.take j, zAB d (f x)) ∧ (l.length - j = 0 ∨ zAB d z) := by
 unfold cpy; rw [zJc, zGC, zNA]
theorem zYM {α : Type} {f : α → List T} {z : List T} {l : List α} {j : Nat} : zAr (cpy f z l j) ↔ (∀ x ∈ l.take j, zAw (f x)) ∧ (l.length - j = 0 ∨ zAw z) := by
 unfold cpy; rw [zTZ, zHv, zT0]
theorem zYN {α : Type} {f : α → List T} {z : List T} {l : List α} {j d : Nat} : zCS d (cpy f z l j) ↔ (∀ x ∈ l.take j, ltL d (f x)) ∧ (l.length - j = 0 ∨ ltL d z) := by
 unfold cpy; rw [zT1, zT2, zT3]
theorem zXx {α : Type} {f : α → List T} {z : List T} {l : List α} {j d d' : Nat} : zBc d d' (cpy f z l j) = cpy (fun x => zCR d d' (f x)) (zCR d d' z) l j := by
 unfold cpy; rw [zNC, zND, zNE]
attribute [go_sem] zXw zYM zYN zXx List.set_set
theorem zXy {α : Type} {l : List α} {i : Nat} {x : α} : (l.set i x).length = l.length := List.length_set
attribute [go_sem] zXy
theorem zXz {α : Type} {f : α → List T} {l : List α} {i : Nat} {r : List T} (h : i < l.length) : ((l.map f).set i r).getD i [] = r := by simp [List.getD, h]
theorem zXA {α : Type} {f : α → List T} {z : List T} {l : List α} {j : Nat} {r : List T} (h : j < l.length) : ((cpy f z l j).set j r).getD j [] = r := by
 have := zAA (f := f) (z := z) (l := l) (j := j) (by omega)
 simp [List.getD, this, h]
theorem zMC {α : Type} {f : α → List T} {l : List α} {r : List T} : (l.map f ++ [r]).getD l.length [] = r := by simp [List.getD]
theorem zYO {α : Type} {f : α → List T} {l : List α} {r r' : List T} : (l.map f ++ [r]).set l.length r' = l.map f ++ [r'] := by
 rw [List.set_append_right _ _ (by simp)]; simp
theorem zVY {α β : Type} {f : α → β} {l : List α} {n : Nat} : (l.map f).take n = (l.take n).map f := by rw [List.map_take]
theorem zVZ {α β : Type} {f : α → β} {l : List α} {n : Nat} : (l.map f).drop n = (l.drop n).map f := by rw [List.map_drop]
attribute [go_sem] zMC zYO Nat.add_sub_cancel Nat.sub_zero zVY zVZ
theorem zMD {α : Type} [Inhabited α] [DecidableEq α] {l m : List α} {j : Nat} (h1 : j < l.length) (h2 : j < m.length) : decide (l.drop j = m.drop j) = (decide (nth l j = nth m j) && decide (l.drop (j + 1) = m.drop (j + 1))) := by
 rw [Bool.eq_iff_iff, zPo h1, zPo h2, decide_eq_true_iff, Bool.and_eq_true, decide_eq_true_iff, decide_eq_true_iff, List.cons.injEq]
def byt (s : ByteArray) (i : Nat) : Int := ((s.data.toList.getD i 0).toNat : Nat)
@[go_sem] theorem zAgq (s : ByteArray) (i : Nat) : (((s.data.toList.getD i 0).toNat : Nat) : Int) = byt s i := rfl
theorem zNF : ∀ a : List UInt8, Op.bytesLess a a = false
 | [] => rfl
 | x :: a => by simp [Op.bytesLess, zNF a]
theorem zFC {x y : UInt8} {a b : List UInt8} : Op.bytesLess (x :: a) (y :: b) = true ↔ x < y ∨ x = y ∧ Op.bytesLess a b = true := by
 simp [Op.bytesLess]
theorem zKl : ∀ {a b c : List UInt8}, Op.bytesLess a b = true → Op.bytesLess b c = true → Op.bytesLess a c = true
 | _, [], _, h, _ => by simp [Op.bytesLess] at h
 | _, _ :: _, [], _, h => by simp [Op.bytesLess] at h
 | [], _ :: _, _ :: _, _, _ => rfl
 | x :: a, y :: b, z :: c, h1, h2 => by
  rw [zFC] at h1 h2 ⊢
  rcases h1 with h1 | ⟨rfl, h1⟩
  ·rcases h2 with h2 | ⟨rfl, h2⟩
   ·exact .inl (UInt8.lt_trans h1 h2)
   ·exact .inl h1
  ·rcases h2 with h2 | ⟨rfl, h2⟩
   ·exact .inl h2
   ·exact .inr ⟨rfl, zKl h1 h2⟩
theorem zKm : ∀ a b : List UInt8, Op.bytesLess a b = true ∨ a = b ∨ Op.bytesLess b a = true
 | [], [] => .inr (.inl rfl)
 | [], _ :: _ => .inl rfl
 | _ :: _, [] => .inr (.inr rfl)
 | x :: a, y :: b => by
  rw [zFC, zFC]
  rcases UInt8.lt_or_lt_of_ne (a := x) (b := y) |>.comp (fun (h : ¬ x = y) => h) |> fun f => (Classical.em (x = y)).imp_right f with h | h | h
  ·subst h
   rcases zKm a b with h | h | h
   ·exact .inl (.inr ⟨rfl, h⟩)
   ·subst h; exact .inr (.inl rfl)
   ·exact .inr (.inr (.inr ⟨rfl, h⟩))
  ·exact .inl (.inl h)
  ·exact .inr (.inr (.inl h))
theorem zBr (a : ByteArray) : zAj a a = false := zNF _
theorem zCB {a b c : ByteArray} (h1 : zAj a b = true) (h2 : zAj b c = true) : zAj a c = true := zKl h1 h2
theorem zBP (a b : ByteArray) : zAj a b = true ∨ a = b ∨ zAj b a = true := by
 rcases zKm a.data.toList b.data.toList with h | h | h
 ·exact .inl h
 ·exact .inr (.inl (ByteArray.ext (Array.ext' h)))
 ·exact .inr (.inr h)
theorem zCC {a b : ByteArray} (h : zAj a b = true) : zAj b a = false := by
 cases hb : zAj b a with
 | false => rfl
 | true => have := zCB h hb; rw [zBr] at this; cases this
theorem zH4 {a b : ByteArray} (h : zAj a b = true) : a ≠ b := by
 rintro rfl; rw [zBr] at h; cases h
theorem zT7 (a b : ByteArray) : (!zAj a b) = (zAj b a || decide (a = b)) := by
 rcases zBP a b with h | h | h
 ·rw [h, zCC h, decide_eq_false (zH4 h)]; rfl
 ·subst h; simp [zBr]
 ·rw [h, zCC h]; rfl
@[go_sem] theorem zAcK (a b : ByteArray) : (zAj a b || decide (a = b)) = !zAj b a := by
 rw [zT7 b a]
 congr 1
 rw [Bool.eq_iff_iff]; simp [eq_comm]
attribute [go_sem] Bool.not_not zDZ
@[go_sem] theorem zAbV : zCX [] ↔ True := by simp [zCX]
@[go_sem] theorem zAbk {r : List T} {rs : List (List T)} : zCX (r :: rs) ↔ zDZ r ∧ zCX rs := by simp [zCX]
@[go_sem] theorem zSA {α : Type} {f : α → List T} : ∀ {l : List α}, zCX (l.map f) ↔ ∀ x ∈ l, zDZ (f x)
 | [] => by simp [zCX]
 | x :: l => by simp [zCX, zSA (l := l)]
def zEa (p : Nat → Bool) : Nat → Nat
 | 0 => 0
 | n + 1 => zEa p n + (if p n then 1 else 0)
theorem zJW {p : Nat → Bool} : ∀ {n : Nat}, zEa p n ≤ n
 | 0 => Nat.le_refl _
 | n + 1 => by have := zJW (p := p) (n := n); simp only [zEa]; split <;> omega
theorem zF4 {p : Nat → Bool} : ∀ {n : Nat}, zAq p n = true → zEa p n = n
 | 0, _ => rfl
 | n + 1, h => by
  simp only [zAq, Bool.and_eq_true] at h
  simp only [zEa, zF4 h.1, h.2, if_true]
theorem zFh {p : Nat → Bool} {n : Nat} : ∀ {m : Nat}, n ≤ m → (∀ i, n ≤ i → i < m → p i = false) → zEa p m = zEa p n
 | 0, h, _ => by rw [show n = 0 by omega]
 | m + 1, h, hp => by
  by_cases e : n = m + 1
  ·rw [e]
  ·simp only [zEa]
   rw [zFh (m := m) (by omega) (fun i h1 h2 => hp i h1 (by omega)), hp m (by omega) (by omega)]
   rfl
theorem zAbW {n : Int} (h0 : 0 ≤ n) (h1 : n ≤ 18446744073709551615) : IntKind.u64.wrap n = n := by
 simp only [IntKind.wrap, IntKind.bits, IntKind.signed]
 simp
 omega
theorem shr1 : ((2 : Int) ^ (min 1 64)) = 2 := by decide
def bsI {α : Type} [Inhabited α] (c : α → Int) (l : List α) : Nat := zEa (fun i => decide (c (nth l i) < 0)) l.length
def bsF {α : Type} [Inhabited α] (c : α → Int) (l : List α) : Bool := decide (bsI c l < l.length) && decide (c (nth l (bsI c l)) = 0)
theorem zYP {α : Type} [Inhabited α] {c : α → Int} {l : List α} {n : Nat} (hn : n ≤ l.length) (h1 : ∀ i, i < n → c (nth l i) < 0) (h2 : ∀ i, n ≤ i → i < l.length → 0 ≤ c (nth l i)) : bsI c l = n := by
 unfold bsI
 rw [zFh hn (fun i a b => by have := h2 i a b; simp; omega), zF4 (zAE.2 fun i hi => by simp [h1 i hi])]
def mkL {α : Type} (f : α → Int → α × Int) : List α → Int → List α × Int
 | [], k => ([], k)
 | x :: l, k => ((f x k).1 :: (mkL f l (f x k).2).1, (mkL f l (f x k).2).2)
section
variable {α : Type} {f : α → Int → α × Int}
@[go_sem] theorem zQ5 : ∀ {l : List α} {k : Int}, (mkL f l k).1.length = l.length
 | [], _ => rfl
 | x :: l, k => by simp [mkL, zQ5 (l := l)]
@[go_sem] theorem zAcM {l : List α} {k : Int} : (mkL f l k).1.take l.length = (mkL f l k).1 := List.take_of_length_le (by rw [zQ5]; exact Nat.le_refl _)
end
def cp2 {α : Type} (f g : α → List T) (l : List α) (j : Nat) : List (List T) := (l.take j).map f ++ (l.drop j).map g
section
variable {α : Type} [Inhabited α] {f g : α → List T} {l : List α} {j : Nat}
theorem zV0 : cp2 f g l 0 = l.map g := by simp [cp2]
theorem zXB (h : j = l.length) : cp2 f g l j = l.map f := by subst h; simp [cp2]
theorem zQ6 : (cp2 f g l j).length = l.length := by simp [cp2]; omega
theorem zXC (h : j < l.length) : (cp2 f g l j).getD j [] = g (nth l j) := by
 simp [cp2, List.getD_eq_getElem?_getD, List.getElem?_append, Nat.min_eq_left (Nat.le_of_lt h), nth, List.getD, List.getElem?_eq_getElem h]
theorem zYQ {k : Nat} (h : j < l.length) {r : List T} : ((cp2 f g l k).set j r).getD j [] = r := by
 have : j < (cp2 f g l k).length := by rw [zQ6]; exact h
 simp [List.getD_eq_getElem?_getD, this]
theorem zXD (h : j < l.length) {r : List T} (hr : r = f (nth l j)) : (cp2 f g l j).set j r = cp2 f g l (j + 1) := by
 subst hr
 have e : l.drop j = nth l j :: l.drop (j + 1) := by rw [zA6 h]; exact List.drop_eq_getElem_cons h
 have e2 : l.take (j + 1) = l.take j ++ [nth l j] := zAD h
 simp only [cp2, e, e2, List.map_append, List.map_cons, List.map_nil, List.append_assoc, List.singleton_append]
 rw [List.set_append_right _ _ (by simp; omega)]
 simp [Nat.min_eq_left (Nat.le_of_lt h)]
theorem zXE {id : Nat} (hf : ∀ x, zAB id (f x)) (hg : ∀ x, zAB id (g x)) : zAt id (cp2 f g l j) := by
 rw [cp2, zJc, zGC, zGC]
 exact ⟨fun x _ => hf x, fun x _ => hg x⟩
end
theorem zEb {α : Type} {f : α → List T} {l : List α} {k : Nat} {r : List T} (h : k < l.length) : ((l.map f).set k r).getD k [] = r := by
 simp [List.getD_eq_getElem?_getD, h]
attribute [go_sem] Nat.reduceEqDiff Nat.reduceAdd Nat.reduceSub Nat.reduceMul Nat.reduceLT Nat.reduceLeDiff Int.reduceToNat reduceCtorEq
attribute [go_sem] zXv getD_map zXz zXA zAA
attribute [go_sem ↓] reduceIte
theorem zAN {d : Nat} {rows : List (List T)} {i : Nat} {r : List T} (h1 : zAt d rows) (h2 : zAB d r) : zAt d (rows.set i r) := (zNB h1 h2).2 trivial
theorem zBs {rows : List (List T)} {i : Nat} {r : List T} (h1 : zAr rows) (h2 : zAw r) : zAr (rows.set i r) := (zT5 h1 h2).2 trivial
theorem nf : (∀ (p : Prop) [Decidable p], (decide p = true) = p) ∧ (∀ (p : Prop) [Decidable p], (decide p = false) = ¬p) ∧ (∀ a b : Int, (¬a < b) = (b ≤ a)) ∧ (∀ a b : Int, (¬a ≤ b) = (b < a)) ∧ (∀ a b : Int, (a ≥ b) = (b ≤ a)) ∧ (∀ a b : Int, (a > b) = (b < a)) ∧ (∀ a b : Nat, (a ≥ b) = (b ≤ a)) ∧ (∀ a b : Nat, (a > b) = (b < a)) ∧ (∀ b : Bool, ((!b) = true) = (b = false)) ∧ (∀ b : Bool, ((!b) = false) = (b = true)) ∧ (∀ m n : Nat, ((m : Int) < n) = (m < n)) ∧ (∀ m n : Nat, ((m : Int) ≤ n) = (m ≤ n)) ∧ (∀ (α : Type) [BEq α] [LawfulBEq α] (a b : α), ((a == b) = true) = (a = b)) ∧ (∀ (α : Type) [BEq α] [LawfulBEq α] (a b : α), ((a != b) = true) = (a ≠ b)) ∧ (∀ (α : Type) [BEq α] [LawfulBEq α] (a b : α), ((a == b) = false) = (a ≠ b)) ∧ (∀ (α : Type) [BEq α] [LawfulBEq α] (a b : α), ((a != b) = false) = (a = b)) := by
 refine ⟨fun p _ => ?_, fun p _ => ?_, fun a b => ?_, fun a b => ?_, fun a b => ?_, fun a b => ?_, fun a b => ?_, fun a b => ?_, fun b => ?_, fun b => ?_, fun m n => ?_, fun m n => ?_, fun α _ _ a b => ?_, fun α _ _ a b => ?_, fun α _ _ a b => ?_, fun α _ _ a b => ?_⟩ <;> simp
namespace K
def t (n : Nat) : Operand := .tmp n
def k (n : Int) : Operand := .const (.int .i64 n)
def ff : Operand := .const (.bool false)
def tt : Operand := .const (.bool true)
def o (d : Nat) (i : I) : IN := ⟨some d, none, i⟩
def g (d c : Nat) (b : Bool) (i : I) : IN := ⟨some d, some (c, b), i⟩
def u (i : I) : IN := ⟨none, none, i⟩
def m (d a : Nat) : IN := ⟨some d, none, .mv (.tmp a)⟩
def mg (d c : Nat) (b : Bool) (a : Nat) : IN := ⟨some d, some (c, b), .mv (.tmp a)⟩
@[go_sem] theorem t_eq (n : Nat) : t n = .tmp n := rfl
@[go_sem] theorem k_eq (n : Int) : k n = .const (.int .i64 n) := rfl
@[go_sem] theorem ff_eq : ff = .const (.bool false) := rfl
@[go_sem] theorem tt_eq : tt = .const (.bool true) := rfl
@[go_sem] theorem o_eq (d : Nat) (i : I) : o d i = ⟨some d, none, i⟩ := rfl
@[go_sem] theorem g_eq (d c : Nat) (b : Bool) (i : I) : g d c b i = ⟨some d, some (c, b), i⟩ := rfl
@[go_sem] theorem u_eq (i : I) : u i = ⟨none, none, i⟩ := rfl
@[go_sem] theorem m_eq (d a : Nat) : m d a = ⟨some d, none, .mv (.tmp a)⟩ := rfl
@[go_sem] theorem mg_eq (d c : Nat) (b : Bool) (a : Nat) : mg d c b a = ⟨some d, some (c, b), .mv (.tmp a)⟩ := rfl
abbrev hF (P : Program) (n : Nat) : Option Stmt := (P.funcs[n]?).bind (fun fn => fn.body.bind (comp P fn.ntmps))
abbrev rF (P : Program) (n : Nat) : Option (List ResultVar × Nat) := (P.funcs[n]?).map (fun fn => (fn.results.toList, fn.ntmps))
end K
end Go.Am

import Derived.Test.YtbomnfkdccemmaaGreatAmAuto
import Derived.IntWalk
set_option linter.all false
namespace Go.Am
open Go Go.RowKit
section
variable {P : Program} {E : Env} {s : St} {d : Nat} {K : St → Prop} {Q : Exit → St → Prop}
@[go_sem] theorem zAfZ : wsO P E [] K s = K s := rfl
@[go_sem] theorem zAcS {d : Option Nat} {i : I} {r : List IN} : wsO P E (⟨d, none, i⟩ :: r) K s = zEg P E d none i (wsO P E r K) s (zAe s i) := rfl
@[go_sem] theorem zAcT {d : Option Nat} {i : I} {r : List IN} {t : Nat} {b : Bool} : wsO P E (⟨d, some (t, b), i⟩ :: r) K s = grd (lk t s.slots) b (ws1 P E d (some (t, b)) i (wsO P E r K)) (skO (wsO P E r) d K) s := rfl
@[go_sem] theorem s_1 {d : Option Nat} {g : Option (Nat × Bool)} {i : I} : ws1 P E d g i K s = zEg P E d g i K s (zAe s i) := rfl
@[go_sem] theorem zAcj {d : Option Nat} {g : Option (Nat × Bool)} {i : I} {p : Prop} {t : T} : zEg P E d g i K s (some (p, t)) = (p ∧ K (s.put d t)) := rfl
@[go_sem] theorem zAck {d : Option Nat} {g : Option (Nat × Bool)} {i : I} : zEg P E d g i K s none = zPy P E d g i K s (zCr E s d i) := rfl
@[go_sem] theorem zAbM {d : Option Nat} {g : Option (Nat × Bool)} {i : I} {p : Prop} {s' : St} : zPy P E d g i K s (some (p, s')) = (p ∧ K s') := rfl
@[go_sem] theorem zAbN {d : Option Nat} {g : Option (Nat × Bool)} {i : I} : zPy P E d g i K s none = zAp P E ⟨d, g, i⟩ K s := rfl
@[go_sem] theorem zAgz : wsS P E .skip Q s = Q .normal s := rfl
@[go_sem] theorem s_ops {l : List IN} : wsS P E (.ops l) Q s = wsO P E l (Q .normal) s := rfl
@[go_sem] theorem zAgA {l : List IN} : wsS P E (.dops l) Q s = wpQ P l (Q .normal) s := rfl
@[go_sem] theorem zAgB {Q : Bool → Prop} {neg own : Bool} {k : Nat} {rows : List (List T)} : zO2 Q neg (some (.sl own k rows)) = ∀ b : Bool, (b = !neg → rows = []) → Q b := rfl
@[go_sem] theorem zAgC {Q : Bool → Prop} {neg : Bool} {id lo n : Nat} : zO2 Q neg (some (.ref id lo n)) = ∀ b : Bool, (b = !neg → n = 0) → Q b := rfl
@[go_sem] theorem zAgD {Q : Bool → Prop} {neg : Bool} : zO2 Q neg (some (.v (.slice none 0 0))) = Q (!neg) := rfl
attribute [go_sem] zCB
@[go_sem] theorem zAgE {l : List (Option (List IN) × IN)} : wsS P E (.rops l) Q s = wsR P E l (Q .normal) s := rfl
@[go_sem] theorem zAf0 : wsR P E [] K s = K s := rfl
@[go_sem] theorem zAcU {b : Option (List IN)} {d : Option Nat} {i : I} {r : List (Option (List IN) × IN)} : wsR P E ((b, ⟨d, none, i⟩) :: r) K s = zJm P E b d none i (wsR P E r K) s := rfl
@[go_sem] theorem zAcV {b : Option (List IN)} {d : Option Nat} {i : I} {r : List (Option (List IN) × IN)} {t : Nat} {g : Bool} : wsR P E ((b, ⟨d, some (t, g), i⟩) :: r) K s = grd (lk t s.slots) g (zWl P E b d (some (t, g)) i (wsR P E r K)) (skR b (wsR P E r) d K) s := rfl
@[go_sem] theorem s_R1 {b : Option (List IN)} {d : Option Nat} {g : Option (Nat × Bool)} {i : I} : zWl P E b d g i K s = zJm P E b d g i K s := rfl
@[go_sem] theorem zAcW {d : Option Nat} {g : Option (Nat × Bool)} {i : I} : zJm P E none d g i K s = zK5 d K s (zAe s i) := rfl
@[go_sem] theorem zAcX {l : List IN} {d : Option Nat} {g : Option (Nat × Bool)} {i : I} : zJm P E (some l) d g i K s = zEg P E d g i (rrK l K) s (zAe s i) := rfl
@[go_sem] theorem zAgF {d : Option Nat} {p : Prop} {t : T} : zK5 d K s (some (p, t)) = (p ∧ K (s.put d t)) := rfl
@[go_sem] theorem zAf1 {f : (St → Prop) → St → Prop} {d : Option Nat} : skR none f d K s = f K (s.put d (.tup [])) := rfl
@[go_sem] theorem zAf2 {l : List IN} {f : (St → Prop) → St → Prop} {d : Option Nat} : skR (some l) f d K s = rrK l (f K) (s.put d (.tup [])) := rfl
@[go_sem] theorem s_rrK {l : List IN} : rrK l K s = (rrL l s ∧ K s) := rfl
@[go_sem] theorem zAgG : rrL [] s = True := rfl
@[go_sem] theorem zAgH {d : Option Nat} {i : I} {l : List IN} : rrL (⟨d, none, i⟩ :: l) s = (rr1 d s (zAe s i) ∧ rrL l s) := rfl
@[go_sem] theorem zAgI {d : Option Nat} {i : I} {t : Nat} {g : Bool} {l : List IN} : rrL (⟨d, some (t, g), i⟩ :: l) s = (grd (lk t s.slots) g (rrG d i) (same d (.tup [])) s ∧ rrL l s) := rfl
@[go_sem] theorem s_rrG {d : Option Nat} {i : I} : rrG d i s = rr1 d s (zAe s i) := rfl
@[go_sem] theorem s_rr1 {d : Option Nat} {p : Prop} {t : T} : rr1 d s (some (p, t)) = (p ∧ same d t s) := rfl
@[go_sem] theorem zAf3 {t : T} : same none t s = True := rfl
@[go_sem] theorem zAf4 {n : Nat} {t : T} : same (some n) t s = (lk n s.slots = some t) := rfl
@[go_sem] theorem s_seq {a b : AS} : wsS P E (.seq a b) Q s = wsS P E a (zKQ (wsS P E b) Q) s := rfl
@[go_sem] theorem s_cond {x : Operand} {a b : AS} : wsS P E (.cond x a b) Q s = grc (s.eval x) (wsS P E a Q) (wsS P E b Q) s := rfl
@[go_sem] theorem zAgJ {na : Nat} {L : List (Nat × Nat)} {b : AS} : wsS P E (.loop na L b) Q s = zWk P E na L b Q (canon E na L s) := rfl
@[go_sem] theorem zAf5 {id : Nat} {b : AS} : wsS P E (.block id b) Q s = wsS P E b (zEc id Q) s := rfl
@[go_sem] theorem s_exit {id : Nat} : wsS P E (.exit id) Q s = Q (.exit id) s := rfl
@[go_sem] theorem s_ret : wsS P E .ret Q s = Q .ret s := rfl
@[go_sem] theorem zAgK {L : List Nat} {b : AS} : wsS P E (.kept L b) Q s = wsS P E b Q (s.fin0 L) := rfl
@[go_sem] theorem zAgL {L : List (Nat × Nat)} {t : RT} : wsS P E (.tops L t) Q s = Jn (fun I => wsT P E t (zGL L I) s) (Q .normal) := rfl
@[go_sem] theorem zAcY : wsT P E .done K s = K s := rfl
@[go_sem] theorem zAf6 {d : Option Nat} {i : I} {r : RT} : wsT P E (.rd ⟨d, none, i⟩ r) K s = zK5 d (wsT P E r K) s (zAe s i) := rfl
@[go_sem] theorem zAf7 {d : Option Nat} {i : I} {r : RT} {t : Nat} {g : Bool} : wsT P E (.rd ⟨d, some (t, g), i⟩ r) K s = grd (lk t s.slots) g (zSH d i (wsT P E r K)) (skO (wsT P E r) d K) s := rfl
@[go_sem] theorem s_P1 {d : Option Nat} {i : I} : zSH d i K s = zK5 d K s (zAe s i) := rfl
@[go_sem] theorem s_T1 {l : List IN} {d : Option Nat} {g : Option (Nat × Bool)} {i : I} : zMM P E l d g i K s = zEg P E d g i (rrK l K) s (zAe s i) := rfl
@[go_sem] theorem s_skT {l : List IN} {f : (St → Prop) → St → Prop} {d : Option Nat} : skT l f d K s = rrK l (f K) (s.put d (.tup [])) := rfl
@[go_sem] theorem zAgM {l : List IN} {d : Option Nat} {i : I} {r : RT} : wsT P E (.alt l ⟨d, none, i⟩ r .none) K s = zEg P E d none i (rrK l (wsT P E r K)) s (zAe s i) := by
 simp [wsT, Both, zMM]
@[go_sem] theorem zAgN {l : List IN} {d : Option Nat} {i : I} {r : RT} {t : Nat} {g : Bool} : wsT P E (.alt l ⟨d, some (t, g), i⟩ r .none) K s = grd (lk t s.slots) g (zMM P E l d (some (t, g)) i (wsT P E r K)) (skT l (wsT P E r) d K) s := by
 simp [wsT, Both]
@[go_sem] theorem zAgO {l l2 : List IN} {d : Option Nat} {i : I} {r r2 o : RT} {x2 : IN} : wsT P E (.alt l ⟨d, none, i⟩ r (.alt l2 x2 r2 o)) K s = Both (zEg P E d none i (rrK l (wsT P E r K)) s (zAe s i)) (wsT P E (.alt l2 x2 r2 o) K s) := rfl
@[go_sem] theorem zAgP {l l2 : List IN} {d : Option Nat} {i : I} {r r2 o : RT} {x2 : IN} {t : Nat} {g : Bool} : wsT P E (.alt l ⟨d, some (t, g), i⟩ r (.alt l2 x2 r2 o)) K s = Both (grd (lk t s.slots) g (zMM P E l d (some (t, g)) i (wsT P E r K)) (skT l (wsT P E r) d K) s) (wsT P E (.alt l2 x2 r2 o) K s) := rfl
@[go_sem] theorem zAgQ {ms : List (Nat × Nat × List (Nat × Nat))} {a : AS} : wsS P E (.post ms a) Q s = wsS P E a (zLJ ms Q) s := rfl
@[go_sem] theorem zAcZ {ms : List (Nat × Nat × List (Nat × Nat))} : zLJ ms Q .normal s = zMK (Q .normal) (zEK ms (True, s)) := rfl
@[go_sem] theorem zAc0 {ms : List (Nat × Nat × List (Nat × Nat))} : zLJ ms Q .ret s = Q .ret s := rfl
@[go_sem] theorem zAc1 {ms : List (Nat × Nat × List (Nat × Nat))} {id : Nat} : zLJ ms Q (.exit id) s = Q (.exit id) s := rfl
@[go_sem] theorem s_pre {l : List IN} {x new : Nat} {a : AS} : wsS P E (.pre l x new a) Q s = zMK (wsS P E a Q) (zML E s l x new) := rfl
attribute [go_sem] zML zSG zY2 preO zWi Option.isSome_some
@[go_sem] theorem zAgR {p : Prop} {s' : St} : zMK K (p, s') = (p ∧ K s') := rfl
attribute [go_sem] zYZ zEK zMF zKU zJf zPj zV4 zYU St.close1 St.nil1 zDm zDE zKT St.open1
@[go_sem] theorem zAgS {na : Nat} {L : List (Nat × Nat)} {b : AS} {p : Prop} {s' : St} : zWk P E na L b Q (p, s') = (p ∧ zLK P E na L b Q s') := rfl
@[go_sem] theorem zAf8 {σ : Type} {n j : Nat} {F : Nat → σ → St} {I : Nat → σ → Prop} {p : Prop} {s' : St} : zSI n F I j (p, s') = (p ∧ j < n ∧ ∃ x, s' = F (j + 1) x ∧ I (j + 1) x) := rfl
@[go_sem] theorem zAc2 {σ : Type} {na : Nat} {L : List (Nat × Nat)} {n j : Nat} {F : Nat → σ → St} {I : Nat → σ → Prop} : zLL E na L n F I j Q .normal s = zSI n F I j (canon E na L s) := rfl
@[go_sem] theorem zAc3 {σ : Type} {na : Nat} {L : List (Nat × Nat)} {n j : Nat} {F : Nat → σ → St} {I : Nat → σ → Prop} : zLL E na L n F I j Q .ret s = Q .ret s := rfl
@[go_sem] theorem zAc4 {σ : Type} {na : Nat} {L : List (Nat × Nat)} {n j id : Nat} {F : Nat → σ → St} {I : Nat → σ → Prop} : zLL E na L n F I j Q (.exit id) s = Q (.exit id) s := rfl
@[go_sem] theorem zAf9 {σ : Type} {x : σ} {m : σ → Nat} {F : σ → St} {I : σ → Prop} {p : Prop} {s' : St} : zSJ F I m x (p, s') = (p ∧ ∃ y, s' = F y ∧ I y ∧ m y < m x) := rfl
@[go_sem] theorem zAcC {σ : Type} {na : Nat} {L : List (Nat × Nat)} {x : σ} {m : σ → Nat} {F : σ → St} {I : σ → Prop} : zLM E na L F I m x Q .normal s = zSJ F I m x (canon E na L s) := rfl
@[go_sem] theorem zAcD {σ : Type} {na : Nat} {L : List (Nat × Nat)} {x : σ} {m : σ → Nat} {F : σ → St} {I : σ → Prop} : zLM E na L F I m x Q .ret s = Q .ret s := rfl
@[go_sem] theorem zAcE {σ : Type} {na : Nat} {L : List (Nat × Nat)} {id : Nat} {x : σ} {m : σ → Nat} {F : σ → St} {I : σ → Prop} : zLM E na L F I m x Q (.exit id) s = Q (.exit id) s := rfl
@[go_sem] theorem zAgT {f : Nat} {xs : List Operand} : zAe s (.call f xs) = none := rfl
@[go_sem] theorem zAga {f : Nat} {xs : List Operand} : zAe s (.xcall f xs) = none := rfl
@[go_sem] theorem zAgb {x : Operand} {xs : List Operand} : zAe s (.callv x xs) = none := rfl
@[go_sem] theorem zAgc {z : Value} : zAe s (.alloc z) = none := rfl
@[go_sem] theorem p_box {x : Operand} : zAe s (.box x) = none := rfl
@[go_sem] theorem zAgd {m : Nat} {x v : Operand} : zAe s (.store m x v) = none := rfl
@[go_sem] theorem p_bsl {k n : Nat} {z : Value} {ps : List (Nat × Operand)} : zAe s (.bsl k z n ps) = none := rfl
@[go_sem] theorem p_mks {k n : Nat} {z : Value} {x y : Operand} : zAe s (.mks k n z x y) = none := rfl
@[go_sem] theorem p_app {k n : Nat} {z : Value} {x y : Operand} : zAe s (.app k n z x y) = none := rfl
@[go_sem] theorem zAgU {d : Option Nat} {f : Nat} {xs : List Operand} : zCr E s d (.call f xs) = none := by cases d <;> rfl
@[go_sem] theorem zAge {d : Option Nat} {f : Nat} {xs : List Operand} : zCr E s d (.xcall f xs) = none := by cases d <;> rfl
@[go_sem] theorem zAgf {d : Option Nat} {x : Operand} {xs : List Operand} : zCr E s d (.callv x xs) = none := by cases d <;> rfl
@[go_sem] theorem zAgg {z : Value} : zCr E s (some d) (.alloc z) = some (E.okd d ∧ zAk d s.objs, (s.new d ⟨(zAw z).length, [zAw z]⟩).set d (.ptr d 0 0)) := rfl
def zY3 (E : Env) (s : St) (d : Nat) (t : T) : Option (List T) → Option (Prop × St)
 | some row => some (t.plainV = true ∧ E.okd d ∧ zAk d s.objs ∧ zAH d row, (s.new d ⟨row.length, [row]⟩).set d (.ptr d 0 0))
 | none => none
def zSM (E : Env) (s : St) (d : Nat) : Option T → Option (Prop × St)
 | some t => zY3 E s d t t.cells
 | none => none
@[go_sem] theorem f_box {x : Operand} : zCr E s (some d) (.box x) = zSM E s d (s.eval x) := by
 simp only [zCr]
 cases s.eval x with
 | none => rfl
 | some t => simp only [zSM]; cases t.cells <;> rfl
def zXs (s : St) (id j q n : Nat) (t : T) : Option Ob → Option (List T) → Option (Prop × St)
 | some ob, some cs => some (cs.length = n ∧ t.plainV = true ∧ cs.all T.storable = true ∧ j < ob.rows.length ∧ q + n ≤ ob.k, s.upd id ⟨ob.k, zCR ob.rows j q cs⟩)
 | _, _ => none
def zWp (s : St) (n : Nat) : Option T → Option T → Option (Prop × St)
 | some (.ptr id j q), some t => zXs s id j q n t (lk id s.objs) t.cells
 | _, _ => none
@[go_sem] theorem zAgh {n : Nat} {x v : Operand} : zCr E s none (.store n x v) = zWp s n (s.eval x) (s.eval v) := by
 simp only [zCr]
 cases s.eval x with
 | none => rfl
 | some p => cases s.eval v with
  | none => cases p <;> rfl
  | some t =>
   cases p with
   | ptr id j q => simp only [zWp]; cases lk id s.objs <;> cases t.cells <;> rfl
   | _ => rfl
def zXt (E : Env) (s : St) (d k n : Nat) (l : List (Nat × Nat × T)) : Option (List T) → Option (Prop × St)
 | some flat => some (l.all (fun q => q.2.2.plainV) = true ∧ flat.length = n * k ∧ E.okd d ∧ zAk d s.objs ∧ zAv d (chunks k n flat), (s.new d ⟨k, chunks k n flat⟩).set d (.ref d 0 n))
 | none => none
def zWq (E : Env) (s : St) (d k n : Nat) : Option (List (Nat × Nat × T)) → Option (Prop × St)
 | some l => zXt E s d k n l (zDW (List.replicate (n * k) .any) l)
 | none => none
@[go_sem] theorem f_bsl {k n : Nat} {z : Value} {parts : List (Nat × Operand)} : zCr E s (some d) (.bsl k z n parts) = zWq E s d k n (zDc s k parts) := by
 simp only [zCr]
 cases zDc s k parts with
 | none => rfl
 | some l => simp only [zWq]; cases zDW (List.replicate (n * k) .any) l <;> rfl
def zY4 (E : Env) (s : St) (d k bytes : Nat) (z : Value) : Option T → Option T → Option (Prop × St)
 | some (.v (.int _ l)), some (.v (.int _ c)) => some ((0 ≤ l ∧ l ≤ c ∧ c ≤ 9223372036854775807 ∧ bytes * c ≤ 281474976710656) ∧ (zAw z).length = k ∧ E.okd d ∧ zAk d s.objs, (s.new d ⟨k, List.replicate l.toNat (zAw z)⟩).set d (.ref d 0 l.toNat))
 | _, _ => none
@[go_sem] theorem f_mks {k bytes : Nat} {z : Value} {x y : Operand} : zCr E s (some d) (.mks k bytes z x y) = zY4 E s d k bytes z (s.eval x) (s.eval y) := rfl
def zY5 (E : Env) (s : St) (d k bytes : Nat) : Option T → Option T → Option (Prop × St)
 | some tx, some ty => bif zLH tx ty then zAZ s d k (lkT s tx) tx ty else appG E s d k bytes ty (zH0 s k tx) (zD0 s k ty)
 | _, _ => none
@[go_sem] theorem f_app {k bytes : Nat} {z : Value} {x y : Operand} : zCr E s (some d) (.app k bytes z x y) = zY5 E s d k bytes (s.eval x) (s.eval y) := by
 simp only [zCr]
 cases s.eval x with
 | none => rfl
 | some tx => cases s.eval y <;> rfl
def zY6 (E : Env) (s : St) (d k bytes : Nat) (z : Value) : Option T → Option T → Option (Prop × St)
 | some (.ref id lo n), some (.v (.int _ m)) => zSD E s d k bytes z id lo n m (lk id s.objs)
 | _, _ => none
@[go_sem] theorem f_apz {k bytes : Nat} {z : Value} {x y : Operand} : zCr E s (some d) (.apz k bytes z x y) = zY6 E s d k bytes z (s.eval x) (s.eval y) := rfl
def zY7 (s : St) (k : Nat) (z : Value) : Option T → Option (Prop × St)
 | some (.ref id lo n) => zSA s k z id lo n (lk id s.objs)
 | _ => none
@[go_sem] theorem f_clr {k : Nat} {z : Value} {x : Operand} : zCr E s none (.clr k z x) = zY7 s k z (s.eval x) := rfl
def zY8 (E : Env) (s : St) (d : Option Nat) : Option T → Option (Prop × St)
 | some (.ref id lo n) => zSB E s d id lo n (lk id s.objs)
 | _ => none
@[go_sem] theorem zAgV {d : Option Nat} {x : Operand} : zCr E s d (.capo x) = zY8 E s d (s.eval x) := by cases d <;> rfl
def zY9 (s : St) (d : Option Nat) (k : Nat) : Option T → Option T → Option (Prop × St)
 | some (.ref id lo n), some ty => zSC s d k id lo n ty (lk id s.objs) (zD0 s k (zKW n ty))
 | _, _ => none
@[go_sem] theorem f_cpy {d : Option Nat} {k : Nat} {x y : Operand} : zCr E s d (.cpy k x y) = zY9 s d k (s.eval x) (s.eval y) := by cases d <;> rfl
@[go_sem] theorem p_apz {k n : Nat} {z : Value} {x y : Operand} : zAe s (.apz k n z x y) = none := rfl
@[go_sem] theorem p_clr {k : Nat} {z : Value} {x : Operand} : zAe s (.clr k z x) = none := rfl
@[go_sem] theorem zAgW {x : Operand} : zAe s (.capo x) = none := rfl
@[go_sem] theorem p_cpy {k : Nat} {x y : Operand} : zAe s (.cpy k x y) = none := rfl
attribute [go_sem] mvC mvS mvP zV8 zMu T.mov zLH lkT zAZ appG zSA zSB zSC zSD zY5 zY6 zY7 zY8 zY9 zKW zKX zGf zPo zYY St.re zBx true_or or_true
def zZa (E : Env) (s : St) (d : Nat) (m : Option Nat) (id i o : Nat) : Option Ob → Option (Prop × St)
 | some ob => ldE E s d m id i o (i < ob.rows.length) (zAT m ((ob.rows.getD i []).drop o))
 | none => none
def fLd (E : Env) (s : St) (d : Nat) (m : Option Nat) : Option T → Option (Prop × St)
 | some (.ptr id i o) => zZa E s d m id i o (lk id s.objs)
 | _ => none
@[go_sem] theorem zAgX {m : Option Nat} {x : Operand} : zCr E s (some d) (.load m x) = fLd E s d m (s.eval x) := by
 simp only [zCr]
 cases s.eval x with
 | none => rfl
 | some t =>
  cases t with
  | ptr id i o => simp only [fLd]; cases lk id s.objs <;> rfl
  | _ => rfl
attribute [go_sem] fLd zZa ldE Option.isNone_none Option.isNone_some
attribute [go_sem] zY3 zSM zWp zXs zWq zXt zY4 zH0 zD0 List.take_nil List.take_length
@[go_sem] theorem zZb {α β : Type} {f : α → β} {l : List α} : (l.map f).take l.length = l.map f := by
 rw [List.take_of_length_le (by simp)]
@[go_sem] theorem nbeq (a b : Nat) : Nat.beq a b = decide (a = b) := by
 rw [Bool.eq_iff_iff]; simp
@[go_sem] theorem nbne (a b : Nat) : (a != b) = !decide (a = b) := by
 rw [Bool.eq_iff_iff]; simp
@[go_sem] theorem nble (a b : Nat) : Nat.ble a b = decide (a ≤ b) := by
 rw [Bool.eq_iff_iff]; simp
@[go_sem] theorem nblt (a b : Nat) : Nat.blt a b = decide (a < b) := by
 rw [Bool.eq_iff_iff]; simp
attribute [go_sem] decide_true decide_false and_self Nat.zero_add Nat.add_zero Int.cast_ofNat_Int Int.toNat_natCast List.length_map List.length_replicate List.length_append forall_eq exists_eq_right List.drop_zero List.nil_append List.filter_nil List.filter_cons List.replicate_zero List.replicate_succ
theorem zUh {d : Nat} : zAv d [] ↔ True := by simp [zAv]
theorem zSN {d : Nat} {r : List T} {rs : List (List T)} : zAv d (r :: rs) ↔ zAH d r ∧ zAv d rs := by simp [zAv]
theorem zWr {d : Nat} {rows : List (List T)} (h : zAr rows) : zAv d rows ↔ True := ⟨fun _ => trivial, fun _ => zCA d h⟩
theorem zZc : zAr [] ↔ True := by simp [zAr]
theorem zXV {r : List T} {rs : List (List T)} : zAr (r :: rs) ↔ zAy r ∧ zAr rs := by simp [zAr]
theorem zUi {a b : List (List T)} : zAr (a ++ b) ↔ zAr a ∧ zAr b := by
 simp only [zAr, List.mem_append]
 exact ⟨fun h => ⟨fun r hr => h r (.inl hr), fun r hr => h r (.inr hr)⟩, fun h r hr => hr.elim (h.1 r) (h.2 r)⟩
theorem zHG {α : Type} {f : α → List T} {l : List α} : zAr (l.map f) ↔ ∀ x ∈ l, zAy (f x) := by simp [zAr]
theorem zUj {n : Nat} {r : List T} : zAr (List.replicate n r) ↔ n = 0 ∨ zAy r := by
 simp only [zAr, List.mem_replicate]
 constructor
 ·intro h
  by_cases e : n = 0
  ·exact .inl e
  ·exact .inr (h r ⟨e, rfl⟩)
 ·rintro h x ⟨h1, rfl⟩
  exact h.resolve_left h1
theorem zJr {d : Nat} {a b : List (List T)} : zAv d (a ++ b) ↔ zAv d a ∧ zAv d b := by
 simp only [zAv, List.mem_append]
 exact ⟨fun h => ⟨fun r hr => h r (.inl hr), fun r hr => h r (.inr hr)⟩, fun h r hr => hr.elim (h.1 r) (h.2 r)⟩
theorem zGP {α : Type} {d : Nat} {f : α → List T} {l : List α} : zAv d (l.map f) ↔ ∀ x ∈ l, zAH d (f x) := by simp [zAv]
theorem zNK {d n : Nat} {r : List T} : zAv d (List.replicate n r) ↔ n = 0 ∨ zAH d r := by
 simp only [zAv, List.mem_replicate]
 constructor
 ·intro h
  by_cases e : n = 0
  ·exact .inl e
  ·exact .inr (h r ⟨e, rfl⟩)
 ·rintro h x ⟨h1, rfl⟩
  exact h.resolve_left h1
theorem zNL {d : Nat} {rows : List (List T)} {i : Nat} {r : List T} (h1 : zAv d rows) (h2 : zAH d r) : zAv d (rows.set i r) ↔ True := by
 refine ⟨fun _ => trivial, fun _ x hx => ?_⟩
 rcases List.mem_or_eq_of_mem_set hx with hx | rfl
 ·exact h1 x hx
 ·exact h2
theorem zSO {d : Nat} {rows : List (List T)} {n : Nat} (h : zAv d rows) : zAv d (rows.take n) ↔ True := ⟨fun _ => trivial, fun _ x hx => h x (List.mem_of_mem_take hx)⟩
theorem zSP {d : Nat} {rows : List (List T)} {n : Nat} (h : zAv d rows) : zAv d (rows.drop n) ↔ True := ⟨fun _ => trivial, fun _ x hx => h x (List.mem_of_mem_drop hx)⟩
theorem zUk {d : Nat} {a b : List (List T)} : zCU d (a ++ b) ↔ zCU d a ∧ zCU d b := by
 simp only [zCU, List.mem_append]
 exact ⟨fun h => ⟨fun r hr => h r (.inl hr), fun r hr => h r (.inr hr)⟩, fun h r hr => hr.elim (h.1 r) (h.2 r)⟩
theorem zUl {α : Type} {d : Nat} {f : α → List T} {l : List α} : zCU d (l.map f) ↔ ∀ x ∈ l, ltL d (f x) := by simp [zCU]
theorem zUm {d n : Nat} {r : List T} : zCU d (List.replicate n r) ↔ n = 0 ∨ ltL d r := by
 simp only [zCU, List.mem_replicate]
 constructor
 ·intro h
  by_cases e : n = 0
  ·exact .inl e
  ·exact .inr (h r ⟨e, rfl⟩)
 ·rintro h x ⟨h1, rfl⟩
  exact h.resolve_left h1
theorem zNM {d d' : Nat} {a b : List (List T)} : zBh d d' (a ++ b) = zBh d d' a ++ zBh d d' b := by simp [zBh]
theorem zNN {α : Type} {d d' : Nat} {f : α → List T} {l : List α} : zBh d d' (l.map f) = l.map fun x => zCT d d' (f x) := by simp [zBh, Function.comp_def]
theorem zNO {d d' n : Nat} {r : List T} : zBh d d' (List.replicate n r) = List.replicate n (zCT d d' r) := by simp [zBh]
theorem zUn {d d' : Nat} {rows : List (List T)} {i : Nat} {r : List T} : zBh d d' (rows.set i r) = (zBh d d' rows).set i (zCT d d' r) := by simp [zBh, List.map_set]
theorem zSQ {d d' n : Nat} {rows : List (List T)} : zBh d d' (rows.take n) = (zBh d d' rows).take n := by simp [zBh, List.map_take]
theorem zSR {d d' n : Nat} {rows : List (List T)} : zBh d d' (rows.drop n) = (zBh d d' rows).drop n := by simp [zBh, List.map_drop]
@[go_sem] theorem zAgi {r q : List T} : zAl [r] 0 (List.replicate 1 q) = [q] := rfl
@[go_sem] theorem zAcl {d : Nat} {rows : List (List T)} {i n : Nat} {q : List T} : zAv d (zAl rows i (List.replicate n q)) ↔ zAv d (rows.take i) ∧ zAv d (List.replicate n q) ∧ zAv d (rows.drop (i + n)) := by
 unfold zAl zAv
 simp only [List.length_replicate, List.mem_append, or_imp, forall_and, and_assoc]
attribute [go_sem] zJr zGP zNK zNL zSO zSP zUk zUl zUm zNM zNN zNO zUn zSQ zSR implies_true or_true
theorem zUo {rows : List (List T)} {i : Nat} {r : List T} (h1 : zAr rows) (h2 : zAy r) : zAr (rows.set i r) ↔ True := by
 refine ⟨fun _ => trivial, fun _ x hx => ?_⟩
 rcases List.mem_or_eq_of_mem_set hx with hx | rfl
 ·exact h1 x hx
 ·exact h2
theorem zXW {rows : List (List T)} {n : Nat} (h : zAr rows) : zAr (rows.take n) ↔ True := ⟨fun _ => trivial, fun _ x hx => h x (List.mem_of_mem_take hx)⟩
theorem zXX {rows : List (List T)} {n : Nat} (h : zAr rows) : zAr (rows.drop n) ↔ True := ⟨fun _ => trivial, fun _ x hx => h x (List.mem_of_mem_drop hx)⟩
theorem zZd {B : Nat} : zCU B [] ↔ True := by simp [zCU]
theorem zXY {B : Nat} {r : List T} {rs : List (List T)} : zCU B (r :: rs) ↔ ltL B r ∧ zCU B rs := by simp [zCU]
theorem zAcm {B : Nat} {rows : List (List T)} (h : zAr rows) : zCU B rows ↔ True := ⟨fun _ => trivial, fun _ => zQC h⟩
attribute [go_sem] zUh zSN zWr zZc zXV zUi zHG zUj zUo zXW zXX zZd zXY zAcm
attribute [go_sem] cv1 cv2 cm1 cm2 nodupB zKS zXT zXU exists_eq_left' Option.map_some Option.map_none
attribute [go_sem] zMv zSp List.length_cons List.length_nil zHE T.lt ltL zJn zFX zFu zGN zPA zOK zWn
@[go_sem] theorem zAgj {X r : T} {l : List T} : zEN (fun r _ => r = X) r l ↔ zAX r X := by
 constructor
 ·rintro ⟨r', h, rfl⟩; exact h
 ·intro h; exact ⟨X, h, rfl⟩
@[go_sem] theorem zAc5 {X r : T} {l : List T} {C : List T → Prop} : zEN (fun r l => r = X ∧ C l) r l ↔ zAX r X ∧ C l := by
 constructor
 ·rintro ⟨r', h, rfl, h2⟩; exact ⟨h, h2⟩
 ·intro h; exact ⟨X, h.1, rfl, h.2⟩
@[go_sem] theorem zAgk {α : Type} {X : α → T} {C : α → Prop} {r : T} {l : List T} : zEN (fun r _ => ∃ n, r = X n ∧ C n) r l ↔ ∃ n, zAX r (X n) ∧ C n := by
 constructor
 ·rintro ⟨r', h, n, rfl, h2⟩; exact ⟨n, h, h2⟩
 ·rintro ⟨n, h, h2⟩; exact ⟨X n, h, n, rfl, h2⟩
theorem zFv (t : T) : zAX t t := by
 have key : ∀ t : T, zAX t t := by
  intro t
  refine T.rec (motive_1 := fun t => zAX t t) (motive_2 := fun l => zBn l l) (motive_3 := fun _ => True) ?_ ?_ ?_ ?_ ?_ ?_ ?_ ?_ ?_ ?_ ?_ ?_ ?_ t
  ·simp [zAX]
  ·intro x; unfold zAX; split <;> simp_all
  ·intro row ih; simp only [zAX]; exact ih
  ·intro row ih; simp only [zAX]; exact ih
  ·intros; simp [zAX]
  ·intros; simp [zAX]
  ·intros; simp [zAX]
  ·intros; simp [zAX]
  ·intros; simp [zAX]
  ·simp [zBn]
  ·intro t ts h1 h2; simp only [zBn]; exact ⟨h1, h2⟩
  ·trivial
  ·intros; trivial
 exact key t
theorem zXZ {R : T → List T → Prop} {r : T} {l : List T} (h : R r l) : zEN R r l := ⟨r, zFv r, h⟩
@[go_sem] theorem zAgl {o : Bool} {k : Nat} {rows : List (List T)} : zAX (.v (.slice none 0 0)) (.sl o k rows) ↔ rows = [] := by simp [zAX]
@[go_sem] theorem nle_v {x y : Value} : zAX (.v x) (.v y) ↔ T.v x = T.v y := by
 unfold zAX; split <;> simp_all
@[go_sem] theorem zAgY {o o' : Bool} {k k' : Nat} {rows rows' : List (List T)} : zAX (.sl o k rows) (.sl o' k' rows') ↔ T.sl o k rows = T.sl o' k' rows' := by
 unfold zAX; exact Iff.rfl
@[go_sem] theorem zAgZ {o o' : Bool} {row row' : List T} : zAX (.bx o row) (.bx o' row') ↔ T.bx o row = T.bx o' row' := by
 unfold zAX; exact Iff.rfl
@[go_sem] theorem zAgm {l l' : List T} : zAX (.agg l) (.agg l') ↔ zBn l l' := by simp only [zAX]
@[go_sem] theorem zAgn {l l' : List T} : zAX (.tup l) (.tup l') ↔ zBn l l' := by simp only [zAX]
@[go_sem] theorem zAc6 : zBn [] [] ↔ True := by simp only [zBn]
@[go_sem] theorem zAcF {t u : T} {ts us : List T} : zBn (t :: ts) (u :: us) ↔ zAX t u ∧ zBn ts us := by simp only [zBn]
attribute [go_sem] ne_eq not_true_eq_false
@[go_sem] theorem zAgo : zBg [] = [] := rfl
@[go_sem] theorem zAc7 {r : List T} {rs : List (List T)} : zBg (r :: rs) = zCo r :: zBg rs := rfl
@[go_sem] theorem zAgp {α : Type} {f : α → List T} {l : List α} : zBg (l.map f) = l.map fun x => zCo (f x) := by
 rw [zCE, List.map_map]; rfl
@[go_sem] theorem zAgq {a b : List (List T)} : zBg (a ++ b) = zBg a ++ zBg b := by simp [zCE]
@[go_sem] theorem zAgr {n : Nat} {r : List T} : zBg (List.replicate n r) = List.replicate n (zCo r) := by simp [zCE]
@[go_sem] theorem zAgs {rows : List (List T)} {i : Nat} {r : List T} : zBg (rows.set i r) = (zBg rows).set i (zCo r) := by simp [zCE, List.map_set]
@[go_sem] theorem zAc8 {rows : List (List T)} {n : Nat} : zBg (rows.take n) = (zBg rows).take n := by simp [zCE]
@[go_sem] theorem zAc9 {rows : List (List T)} {n : Nat} : zBg (rows.drop n) = (zBg rows).drop n := by simp [zCE]
@[go_sem] theorem zAgt {rows : List (List T)} : (zBg rows).length = rows.length := zDk rows
attribute [go_sem] T.dsh zCo
@[go_sem] theorem take_len {α β : Type} {f : α → β} {l : List α} : (l.map f).take l.length = l.map f := by rw [← List.length_map (f := f), List.take_length]
@[go_sem] theorem zAda {α : Type} {n : Nat} {r : α} : (List.replicate n r).take n = List.replicate n r := by simp
@[go_sem] theorem zAdb {α β : Type} {f : α → β} {p : β → Bool} {l : List α} : (l.map f).all p = l.all fun x => p (f x) := by simp [List.all_map, Function.comp_def]
@[go_sem] theorem zAdc {α : Type} {l : List α} : (l.all fun _ => true) = true := by simp
@[go_sem] theorem zAcn {α : Type} {f : α → List T} {l : List α} : (l.map f).map (fun r => r.map T.sh) = l.map fun x => (f x).map T.sh := by simp [List.map_map, Function.comp_def]
attribute [go_sem] canon zK3 zPu zPv zLI zDR zK2 zPs zPt St.nilS St.ren zJ3 zJ4 zHe T.ren zCT St.fin zHC zH6 zWf zY1 zY0 zIc zSF St.fin0 zJ1
@[go_sem] theorem zAcG {d d' : Nat} : zBh d d' [] = [] := rfl
@[go_sem] theorem zAco {d d' : Nat} {r : List T} {rs : List (List T)} : zBh d d' (r :: rs) = zCT d d' r :: zBh d d' rs := rfl
@[go_sem] theorem zAdd {d d' : Nat} {rows : List (List T)} (h : zAr rows) : zBh d d' rows = rows := zPq d d' h
def nth {α : Type} [Inhabited α] (l : List α) (i : Nat) : α := l.getD i default
theorem zA5 {α : Type} [Inhabited α] {l : List α} {i : Nat} (h : i < l.length) : nth l i = l[i] := by simp [nth, List.getD, h]
theorem zAd {α : Type} [Inhabited α] {l : List α} {i : Nat} (h : i < l.length) : nth l i ∈ l := by rw [zA5 h]; exact List.getElem_mem h
theorem zII {α : Type} [Inhabited α] {x : α} {l : List α} : nth (x :: l) 0 = x := rfl
theorem zIJ {α : Type} [Inhabited α] {x : α} {l : List α} {i : Nat} : nth (x :: l) (i + 1) = nth l i := rfl
theorem zIh {α : Type} [Inhabited α] {l : List α} {i : Nat} (h : i < l.length) : l.drop i = nth l i :: l.drop (i + 1) := by rw [zA5 h, List.drop_eq_getElem_cons h]
theorem zAE {α : Type} [Inhabited α] {l : List α} {i : Nat} (h : i < l.length) : l.take (i + 1) = l.take i ++ [nth l i] := by rw [zA5 h, List.take_succ_eq_append_getElem h]
theorem getD_map {α : Type} [Inhabited α] {f : α → List T} {l : List α} {i : Nat} (h : i < l.length) : (l.map f).getD i [] = f (nth l i) := by simp [nth, List.getD, h]
end
abbrev i64 (n : Int) : T := .v (.int .i64 n)
abbrev u8 (n : Int) : T := .v (.int .u8 n)
abbrev bl (b : Bool) : T := .v (.bool b)
abbrev str (s : ByteArray) : T := .v (.string s)
abbrev zAO : T := .v (.slice none 0 0)
abbrev ints (l : List Int) : List (List T) := l.map fun x => [i64 x]
abbrev strs (l : List ByteArray) : List (List T) := l.map fun x => [str x]
@[go_sem] theorem ints_set {l : List Int} {i : Nat} {y : Int} : (ints l).set i [i64 y] = ints (l.set i y) := by simp [ints, List.map_set]
@[go_sem] theorem zAde {l : List ByteArray} {i : Nat} {y : ByteArray} : (strs l).set i [str y] = strs (l.set i y) := by simp [strs, List.map_set]
attribute [go_sem] Nat.le_refl
def mx : Nat := 9223372036854775807
theorem zAf : maxLen = 9223372036854775807 := by decide
theorem zX0 {n : Int} (h0 : -9223372036854775808 ≤ n) (h1 : n ≤ 9223372036854775807) : IntKind.i64.wrap n = n := Go.IntWalk.i64_in _ (by omega)
@[go_sem] theorem zAcH (a b : ByteArray) : zFK a b = decide (a = b) := by
 unfold zFK
 rw [Bool.eq_iff_iff, beq_iff_eq, decide_eq_true_iff]
 exact ⟨fun h => ByteArray.ext (Array.ext' h), fun h => by rw [h]⟩
def zAt (p : Nat → Bool) : Nat → Bool
 | 0 => true
 | n + 1 => zAt p n && p n
theorem zAL {p : Nat → Bool} : ∀ {n : Nat}, zAt p n = true ↔ ∀ i, i < n → p i = true
 | 0 => by simp [zAt]
 | n + 1 => by
  simp only [zAt, Bool.and_eq_true, zAL (n := n)]
  constructor
  ·rintro ⟨h1, h2⟩ i hi
   by_cases e : i = n
   ·rw [e]; exact h2
   ·exact h1 i (by omega)
  ·intro h
   exact ⟨fun i hi => h i (by omega), h n (by omega)⟩
theorem zAF {p : Nat → Bool} {n j : Nat} (h : j < n) (hp : p j = false) : zAt p n = false := by
 cases hb : zAt p n with
 | false => rfl
 | true => rw [zAL.1 hb j h] at hp; cases hp
theorem zAc {p : Nat → Bool} {j : Nat} (h : zAt p j = true) (hp : p j = true) : zAt p (j + 1) = true := by simp [zAt, h, hp]
theorem zAW {α : Type} [Inhabited α] {p : α → Bool} {l : List α} : zAt (fun i => p (nth l i)) l.length = l.all p := by
 rw [Bool.eq_iff_iff, zAL, List.all_eq_true]
 constructor
 ·intro h x hx
  obtain ⟨i, hi, rfl⟩ := List.getElem_of_mem hx
  rw [← zA5 hi]; exact h i hi
 ·intro h i hi
  exact h _ (zAd hi)
theorem zLP {p q : Nat → Bool} {n : Nat} (h : ∀ i, i < n → p i = q i) : zAt p n = zAt q n := by
 rw [Bool.eq_iff_iff, zAL, zAL]
 exact ⟨fun H i hi => by rw [← h i hi]; exact H i hi, fun H i hi => by rw [h i hi]; exact H i hi⟩
def zEi {α : Type} (f : α → Nat) (l : List α) (j : Nat) : Nat := ((l.take j).map f).sum
def szL {α : Type} (f : α → Nat) (l : List α) : Nat := l.length + (l.map f).sum
def wfL {α : Type} (p : α → Prop) (l : List α) : Prop := l.length ≤ maxLen ∧ ∀ x ∈ l, p x
def zA6 {α : Type} (p : α → Prop) (l : List α) : Prop := l.length ≤ maxLen ∧ ∀ x ∈ l, p x
theorem zJs {α : Type} {f : α → Nat} {l : List α} : zEi f l 0 = 0 := by simp [zEi]
theorem zGQ {α : Type} [Inhabited α] {f : α → Nat} {l : List α} {j : Nat} (h : j < l.length) : zEi f l (j + 1) = zEi f l j + f (nth l j) := by
 unfold zEi
 rw [zAE h, List.map_append, List.sum_append, List.map_cons, List.map_nil, List.sum_cons, List.sum_nil, Nat.add_zero]
theorem zK8 {α : Type} {f : α → Nat} {l : List α} {j : Nat} (h : l.length ≤ j) : zEi f l j = (l.map f).sum := by
 unfold zEi; rw [List.take_of_length_le h]
theorem zB7 {α : Type} {f : α → Nat} {l : List α} : l.length ≤ szL f l := by unfold szL; omega
theorem zCv {α : Type} {f : α → Nat} {l : List α} {x : α} (h : x ∈ l) : f x ≤ szL f l := by
 have key : ∀ l : List α, x ∈ l → f x ≤ (l.map f).sum := by
  intro l
  induction l with
  | nil => intro h; cases h
  | cons y l ih =>
   intro h
   simp only [List.map_cons, List.sum_cons]
   rcases List.mem_cons.1 h with rfl | h
   ·omega
   ·have := ih h; omega
 have := key l h
 simp only [szL]; omega
theorem zWs {α : Type} {l : List α} : szL (fun _ => 0) l = l.length := by
 induction l with
 | nil => rfl
 | cons x l ih => simp only [szL, List.map_cons, List.sum_cons, List.length_cons] at ih ⊢; omega
@[go_sem] theorem zAcp (j : Nat) : ((j : Int) - 1).toNat = j - 1 := by omega
@[go_sem] theorem zAbO (j : Nat) : ((j : Int) + 1).toNat = j + 1 := by omega
@[go_sem] theorem zAgu (a b : Int) : (a == b) = decide (a = b) := by rw [Bool.eq_iff_iff]; simp
@[go_sem] theorem zAgv (a b : Int) : (a != b) = !decide (a = b) := by rw [Bool.eq_iff_iff]; simp
theorem zAx {caps : List T} (h : caps.all T.cap = true) : caps.all T.bare0 = true := by
 rw [List.all_eq_true] at h ⊢
 intro t ht
 have := h t ht
 unfold T.cap at this
 split at this <;> first | rfl | cases this
theorem zAJ : ∀ {caps : List T}, caps.all T.cap = true → zAy caps
 | [], _ => trivial
 | t :: ts, h => by
  simp only [List.all_cons, Bool.and_eq_true] at h
  refine ⟨?_, zAJ h.2⟩
  have := h.1
  unfold T.cap at this
  split at this <;> first | exact trivial | (simp [T.packed]; done) | cases this
theorem zAA {caps : List T} (h : caps.all T.cap = true) (d : Nat) : zAH d caps := zBR d (zAJ h)
theorem zAN {caps : List T} (h : caps.all T.cap = true) (B : Nat) : ltL B caps := (zD3 B caps).2 fun i _ _ => zAA h i
theorem zAB : ∀ {caps : List T}, caps.all T.cap = true → zIc caps = []
 | [], _ => rfl
 | t :: ts, h => by
  simp only [List.all_cons, Bool.and_eq_true] at h
  have h1 := h.1
  cases t <;> first | (simp only [zIc]; exact zAB h.2) | (simp [T.cap] at h1)
def vwC : List T → Prop
 | [] => True
 | t :: ts => (t.packed ∧ t.bare = true) ∧ vwC ts
theorem zUp : ∀ {caps : List T}, caps.all T.cap = true → vwC caps
 | [], _ => trivial
 | t :: ts, h => by
  have hb := zAJ h
  simp only [List.all_cons, Bool.and_eq_true] at h
  refine ⟨⟨hb.1, ?_⟩, zUp h.2⟩
  have h1 := h.1
  unfold T.cap at h1
  split at h1 <;> first | rfl | cases h1
theorem zLQ {s : St} : ∀ {caps : List T}, caps.all T.cap = true → zDX s caps = some (caps, [], vwC caps)
 | [], _ => rfl
 | t :: ts, h => by
  simp only [List.all_cons, Bool.and_eq_true] at h
  have h1 := h.1
  have ht : zEe s t = some (t, [], t.packed ∧ t.bare = true) := by
   unfold T.cap at h1
   split at h1 <;> first | rfl | cases h1
  simp only [zDX, ht, zLQ h.2, vwC, List.nil_append]
def ixf {α : Type} (p : α → Bool) : List α → Int
 | [] => -1
 | x :: l => if p x then 0 else if ixf p l < 0 then -1 else ixf p l + 1
theorem zPB {α : Type} {p : α → Bool} : ∀ {l : List α}, -1 ≤ ixf p l
 | [] => by simp [ixf]
 | x :: l => by have := zPB (p := p) (l := l); simp only [ixf]; split <;> (try split) <;> omega
theorem zJ6 {α : Type} {p : α → Bool} : ∀ {l : List α}, decide (0 ≤ ixf p l) = l.any p
 | [] => by simp [ixf]
 | x :: l => by
  have h := zJ6 (p := p) (l := l)
  have := zPB (p := p) (l := l)
  rw [Bool.eq_iff_iff, decide_eq_true_iff] at h ⊢
  simp only [ixf, List.any_cons, Bool.or_eq_true]
  by_cases hx : p x = true
  ·simp [hx]
  ·rw [if_neg hx, ← h]
   by_cases e : ixf p l < 0
   ·rw [if_pos e]; constructor
    ·intro h; omega
    ·rintro (h | h)
     ·exact absurd h hx
     ·omega
   ·rw [if_neg e]; constructor
    ·intro h; exact .inr (by omega)
    ·intro _; omega
theorem zLR {α : Type} [Inhabited α] {p : α → Bool} : ∀ {l : List α} {j : Nat}, j < l.length → zAt (fun i => !p (nth l i)) j = true → p (nth l j) = true → ixf p l = j
 | [], j, h, _, _ => by simp at h
 | x :: l, 0, _, _, hp => by simp only [zII] at hp; simp [ixf, hp]
 | x :: l, j + 1, h, ha, hp => by
  have h0 : p x = false := by simpa [zII] using zAL.1 ha 0 (by omega)
  have ih := zLR (l := l) (j := j) (by simpa using h) (zAL.2 fun i hi => by simpa [zIJ] using zAL.1 ha (i + 1) (by omega)) (by simpa [zIJ] using hp)
  simp only [ixf, h0, ih]
  rw [if_neg (by simp), if_neg (by omega)]
  omega
theorem zK9 {α : Type} [Inhabited α] {p : α → Bool} {l : List α} (h : zAt (fun i => !p (nth l i)) l.length = true) : ixf p l = -1 := by
 have h1 : l.any p = false := by
  rw [List.any_eq_false]
  intro x hx
  obtain ⟨i, hi, rfl⟩ := List.getElem_of_mem hx
  have := zAL.1 h i hi
  rw [zA5 hi] at this
  simpa using this
 rw [← zJ6, decide_eq_false_iff_not] at h1
 have := zPB (p := p) (l := l)
 omega
def cpy {α : Type} (f : α → List T) (z : List T) (l : List α) (j : Nat) : List (List T) := (l.take j).map f ++ List.replicate (l.length - j) z
theorem zAG {α : Type} {f : α → List T} {z : List T} {l : List α} {j : Nat} (hj : j ≤ l.length) : (cpy f z l j).length = l.length := by simp [cpy]; omega
theorem zCb {α : Type} (f : α → List T) (z : List T) (l : List α) : List.replicate l.length z = cpy f z l 0 := by simp [cpy]
theorem zCw {α : Type} {f : α → List T} {z : List T} {l : List α} {j : Nat} (h : l.length ≤ j) : cpy f z l j = l.map f := by simp [cpy, List.take_of_length_le h, Nat.sub_eq_zero_of_le h]
theorem zCc {α : Type} [Inhabited α] {f : α → List T} {z : List T} {l : List α} {j : Nat} (hj : j < l.length) : (cpy f z l j).set j (f (nth l j)) = cpy f z l (j + 1) := by
 unfold cpy
 rw [List.set_append_right _ _ (by simp; omega)]
 have e1 : j - ((l.take j).map f).length = 0 := by simp; omega
 have e2 : l.length - j = (l.length - (j + 1)) + 1 := by omega
 rw [e1, e2, List.replicate_succ, List.set_cons_zero, zAE hj, List.map_append, List.map_cons, List.map_nil, List.append_assoc, List.singleton_append]
theorem zAS {α : Type} {f : α → List T} {z : List T} {l : List α} {j : Nat} (hj : j < l.length) : (cpy f z l j).getD j [] = z := by
 unfold cpy
 rw [List.getD, List.getElem?_append_right (by simp; omega), List.getElem?_replicate, if_pos (by simp; omega)]
 rfl
theorem zX1 {α : Type} {f : α → List T} {z : List T} {l : List α} {j d : Nat} : zAv d (cpy f z l j) ↔ (∀ x ∈ l.take j, zAH d (f x)) ∧ (l.length - j = 0 ∨ zAH d z) := by
 unfold cpy; rw [zJr, zGP, zNK]
theorem zZe {α : Type} {f : α → List T} {z : List T} {l : List α} {j : Nat} : zAr (cpy f z l j) ↔ (∀ x ∈ l.take j, zAy (f x)) ∧ (l.length - j = 0 ∨ zAy z) := by
 unfold cpy; rw [zUi, zHG, zUj]
theorem zZf {α : Type} {f : α → List T} {z : List T} {l : List α} {j d : Nat} : zCU d (cpy f z l j) ↔ (∀ x ∈ l.take j, ltL d (f x)) ∧ (l.length - j = 0 ∨ ltL d z) := by
 unfold cpy; rw [zUk, zUl, zUm]
theorem zX2 {α : Type} {f : α → List T} {z : List T} {l : List α} {j d d' : Nat} : zBh d d' (cpy f z l j) = cpy (fun x => zCT d d' (f x)) (zCT d d' z) l j := by
 unfold cpy; rw [zNM, zNN, zNO]
attribute [go_sem] zX1 zZe zZf zX2 List.set_set
theorem zX3 {α : Type} {l : List α} {i : Nat} {x : α} : (l.set i x).length = l.length := List.length_set
attribute [go_sem] zX3
theorem zX4 {α : Type} {f : α → List T} {l : List α} {i : Nat} {r : List T} (h : i < l.length) : ((l.map f).set i r).getD i [] = r := by simp [List.getD, h]
theorem zX5 {α : Type} {f : α → List T} {z : List T} {l : List α} {j : Nat} {r : List T} (h : j < l.length) : ((cpy f z l j).set j r).getD j [] = r := by
 have := zAG (f := f) (z := z) (l := l) (j := j) (by omega)
 simp [List.getD, this, h]
theorem zMN {α : Type} {f : α → List T} {l : List α} {r : List T} : (l.map f ++ [r]).getD l.length [] = r := by simp [List.getD]
theorem zZg {α : Type} {f : α → List T} {l : List α} {r r' : List T} : (l.map f ++ [r]).set l.length r' = l.map f ++ [r'] := by
 rw [List.set_append_right _ _ (by simp)]; simp
theorem zWt {α β : Type} {f : α → β} {l : List α} {n : Nat} : (l.map f).take n = (l.take n).map f := by rw [List.map_take]
theorem zWu {α β : Type} {f : α → β} {l : List α} {n : Nat} : (l.map f).drop n = (l.drop n).map f := by rw [List.map_drop]
attribute [go_sem] zMN zZg Nat.add_sub_cancel Nat.sub_zero zWt zWu
theorem zMO {α : Type} [Inhabited α] [DecidableEq α] {l m : List α} {j : Nat} (h1 : j < l.length) (h2 : j < m.length) : decide (l.drop j = m.drop j) = (decide (nth l j = nth m j) && decide (l.drop (j + 1) = m.drop (j + 1))) := by
 rw [Bool.eq_iff_iff, zIh h1, zIh h2, decide_eq_true_iff, Bool.and_eq_true, decide_eq_true_iff, decide_eq_true_iff, List.cons.injEq]
def byt (s : ByteArray) (i : Nat) : Int := ((s.data.toList.getD i 0).toNat : Nat)
@[go_sem] theorem zAg0 (s : ByteArray) (i : Nat) : (((s.data.toList.getD i 0).toNat : Nat) : Int) = byt s i := rfl
theorem zNP : ∀ a : List UInt8, Op.bytesLess a a = false
 | [] => rfl
 | x :: a => by simp [Op.bytesLess, zNP a]
theorem zFP {x y : UInt8} {a b : List UInt8} : Op.bytesLess (x :: a) (y :: b) = true ↔ x < y ∨ x = y ∧ Op.bytesLess a b = true := by
 simp [Op.bytesLess]
theorem zKv : ∀ {a b c : List UInt8}, Op.bytesLess a b = true → Op.bytesLess b c = true → Op.bytesLess a c = true
 | _, [], _, h, _ => by simp [Op.bytesLess] at h
 | _, _ :: _, [], _, h => by simp [Op.bytesLess] at h
 | [], _ :: _, _ :: _, _, _ => rfl
 | x :: a, y :: b, z :: c, h1, h2 => by
  rw [zFP] at h1 h2 ⊢
  rcases h1 with h1 | ⟨rfl, h1⟩
  ·rcases h2 with h2 | ⟨rfl, h2⟩
   ·exact .inl (UInt8.lt_trans h1 h2)
   ·exact .inl h1
  ·rcases h2 with h2 | ⟨rfl, h2⟩
   ·exact .inl h2
   ·exact .inr ⟨rfl, zKv h1 h2⟩
theorem zKw : ∀ a b : List UInt8, Op.bytesLess a b = true ∨ a = b ∨ Op.bytesLess b a = true
 | [], [] => .inr (.inl rfl)
 | [], _ :: _ => .inl rfl
 | _ :: _, [] => .inr (.inr rfl)
 | x :: a, y :: b => by
  rw [zFP, zFP]
  rcases UInt8.lt_or_lt_of_ne (a := x) (b := y) |>.comp (fun (h : ¬ x = y) => h) |> fun f => (Classical.em (x = y)).imp_right f with h | h | h
  ·subst h
   rcases zKw a b with h | h | h
   ·exact .inl (.inr ⟨rfl, h⟩)
   ·subst h; exact .inr (.inl rfl)
   ·exact .inr (.inr (.inr ⟨rfl, h⟩))
  ·exact .inl (.inl h)
  ·exact .inr (.inr (.inl h))
theorem zBu (a : ByteArray) : zAj a a = false := zNP _
theorem zCG {a b c : ByteArray} (h1 : zAj a b = true) (h2 : zAj b c = true) : zAj a c = true := zKv h1 h2
theorem zBV (a b : ByteArray) : zAj a b = true ∨ a = b ∨ zAj b a = true := by
 rcases zKw a.data.toList b.data.toList with h | h | h
 ·exact .inl h
 ·exact .inr (.inl (ByteArray.ext (Array.ext' h)))
 ·exact .inr (.inr h)
theorem zCH {a b : ByteArray} (h : zAj a b = true) : zAj b a = false := by
 cases hb : zAj b a with
 | false => rfl
 | true => have := zCG h hb; rw [zBu] at this; cases this
theorem zIi {a b : ByteArray} (h : zAj a b = true) : a ≠ b := by
 rintro rfl; rw [zBu] at h; cases h
theorem zUq (a b : ByteArray) : (!zAj a b) = (zAj b a || decide (a = b)) := by
 rcases zBV a b with h | h | h
 ·rw [h, zCH h, decide_eq_false (zIi h)]; rfl
 ·subst h; simp [zBu]
 ·rw [h, zCH h]; rfl
@[go_sem] theorem zAdf (a b : ByteArray) : (zAj a b || decide (a = b)) = !zAj b a := by
 rw [zUq b a]
 congr 1
 rw [Bool.eq_iff_iff]; simp [eq_comm]
attribute [go_sem] Bool.not_not zD7
@[go_sem] theorem zAcq : zC5 [] ↔ True := by simp [zC5]
@[go_sem] theorem zAbP {r : List T} {rs : List (List T)} : zC5 (r :: rs) ↔ zD7 r ∧ zC5 rs := by simp [zC5]
@[go_sem] theorem zSS {α : Type} {f : α → List T} : ∀ {l : List α}, zC5 (l.map f) ↔ ∀ x ∈ l, zD7 (f x)
 | [] => by simp [zC5]
 | x :: l => by simp [zC5, zSS (l := l)]
def zEj (p : Nat → Bool) : Nat → Nat
 | 0 => 0
 | n + 1 => zEj p n + (if p n then 1 else 0)
theorem zJ7 {p : Nat → Bool} : ∀ {n : Nat}, zEj p n ≤ n
 | 0 => Nat.le_refl _
 | n + 1 => by have := zJ7 (p := p) (n := n); simp only [zEj]; split <;> omega
theorem zGk {p : Nat → Bool} : ∀ {n : Nat}, zAt p n = true → zEj p n = n
 | 0, _ => rfl
 | n + 1, h => by
  simp only [zAt, Bool.and_eq_true] at h
  simp only [zEj, zGk h.1, h.2, if_true]
theorem zFw {p : Nat → Bool} {n : Nat} : ∀ {m : Nat}, n ≤ m → (∀ i, n ≤ i → i < m → p i = false) → zEj p m = zEj p n
 | 0, h, _ => by rw [show n = 0 by omega]
 | m + 1, h, hp => by
  by_cases e : n = m + 1
  ·rw [e]
  ·simp only [zEj]
   rw [zFw (m := m) (by omega) (fun i h1 h2 => hp i h1 (by omega)), hp m (by omega) (by omega)]
   rfl
theorem zAcr {n : Int} (h0 : 0 ≤ n) (h1 : n ≤ 18446744073709551615) : IntKind.u64.wrap n = n := by
 simp only [IntKind.wrap, IntKind.bits, IntKind.signed]
 simp
 omega
theorem shr1 : ((2 : Int) ^ (min 1 64)) = 2 := by decide
def bsI {α : Type} [Inhabited α] (c : α → Int) (l : List α) : Nat := zEj (fun i => decide (c (nth l i) < 0)) l.length
def bsF {α : Type} [Inhabited α] (c : α → Int) (l : List α) : Bool := decide (bsI c l < l.length) && decide (c (nth l (bsI c l)) = 0)
theorem zZh {α : Type} [Inhabited α] {c : α → Int} {l : List α} {n : Nat} (hn : n ≤ l.length) (h1 : ∀ i, i < n → c (nth l i) < 0) (h2 : ∀ i, n ≤ i → i < l.length → 0 ≤ c (nth l i)) : bsI c l = n := by
 unfold bsI
 rw [zFw hn (fun i a b => by have := h2 i a b; simp; omega), zGk (zAL.2 fun i hi => by simp [h1 i hi])]
def mkL {α : Type} (f : α → Int → α × Int) : List α → Int → List α × Int
 | [], k => ([], k)
 | x :: l, k => ((f x k).1 :: (mkL f l (f x k).2).1, (mkL f l (f x k).2).2)
def mkP {α : Type} (f : α → Int → α × Int) (l : List α) (k : Int) (j : Nat) : List α := (mkL f (l.take j) k).1 ++ l.drop j
def mkN {α : Type} (f : α → Int → α × Int) (l : List α) (k : Int) (j : Nat) : Int := (mkL f (l.take j) k).2
def zAI {α : Type} (c : α → Nat) (l : List α) : Nat := (l.map c).sum
section
variable {α : Type} {f : α → Int → α × Int}
@[go_sem] theorem zAz : ∀ {l : List α} {k : Int}, (mkL f l k).1.length = l.length
 | [], _ => rfl
 | x :: l, k => by simp [mkL, zAz (l := l)]
@[go_sem] theorem zBt {l : List α} {k : Int} : (mkL f l k).1.take l.length = (mkL f l k).1 := List.take_of_length_le (by rw [zAz]; exact Nat.le_refl _)
theorem zLa : ∀ {l : List α} {x : α} {k : Int}, mkL f (l ++ [x]) k = ((mkL f l k).1 ++ [(f x (mkL f l k).2).1], (f x (mkL f l k).2).2)
 | [], x, k => by simp [mkL]
 | y :: l, x, k => by simp [mkL, zLa (l := l)]
theorem zCV {l : List α} {k : Int} : mkP f l k 0 = l := by simp [mkP, mkL]
theorem zCW {l : List α} {k : Int} : mkN f l k 0 = k := by simp [mkN, mkL]
theorem zDx {l : List α} {k : Int} {j : Nat} (h : l.length ≤ j) : mkP f l k j = (mkL f l k).1 := by simp [mkP, List.take_of_length_le h, List.drop_eq_nil_of_le h]
theorem zDy {l : List α} {k : Int} {j : Nat} (h : l.length ≤ j) : mkN f l k j = (mkL f l k).2 := by simp [mkN, List.take_of_length_le h]
theorem zDz {l : List α} {k : Int} {j : Nat} (h : j ≤ l.length) : (mkP f l k j).length = l.length := by simp [mkP, zAz]; omega
theorem zD4 [Inhabited α] {l : List α} {k : Int} {j : Nat} (h : j < l.length) : nth (mkP f l k j) j = nth l j := by
 have h1 : (mkL f (l.take j) k).1.length = j := by rw [zAz, List.length_take]; omega
 unfold mkP nth
 rw [List.getD, List.getElem?_append_right (by omega), h1, Nat.sub_self, zIh h]
 simp [nth]
theorem zCX [Inhabited α] {l : List α} {k : Int} {j : Nat} (h : j < l.length) : mkN f l k (j + 1) = (f (nth l j) (mkN f l k j)).2 := by
 unfold mkN; rw [zAE h, zLa]
theorem zDA [Inhabited α] {l : List α} {k : Int} {j : Nat} (h : j < l.length) : (mkP f l k j).set j (f (nth l j) (mkN f l k j)).1 = mkP f l k (j + 1) := by
 have h1 : (mkL f (l.take j) k).1.length = j := by rw [zAz, List.length_take]; omega
 unfold mkP mkN
 rw [List.set_append_right _ _ (by omega), h1, Nat.sub_self, zIh h, List.set_cons_zero, zAE h, zLa]
 simp
theorem zX6 [Inhabited α] {l : List α} {k : Int} {j : Nat} (h : j < l.length) : nth (mkL f l k).1 j = (f (nth l j) (mkN f l k j)).1 := by
 have h1 : (mkL f (l.take j) k).1.length = j := by rw [zAz, List.length_take]; omega
 have h2 : (mkL f l k).1 = mkP f l k l.length := (zDx (Nat.le_refl _)).symm
 have h3 : ∀ n, j < n → n ≤ l.length → nth (mkP f l k n) j = (f (nth l j) (mkN f l k j)).1 := by
  intro n
  induction n with
  | zero => intro h; omega
  | succ n ih =>
   intro a b
   have hl := zDz (f := f) (k := k) (show n ≤ l.length by omega)
   rw [← zDA (by omega)]
   by_cases e : j = n
   ·subst e
    rw [zA5 (by simp; omega)]; simp
   ·have := ih (by omega) (by omega)
    rw [zA5 (by omega)] at this
    rw [zA5 (by simp; omega), List.getElem_set_ne (by omega)]; exact this
 rw [h2]
 exact h3 _ h (Nat.le_refl _)
theorem zAs {c : α → Nat} (hc : ∀ x k, (f x k).2 = k + c x) : ∀ {l : List α} {k : Int}, (mkL f l k).2 = k + (zAI c l : Nat)
 | [], k => by simp [mkL, zAI]
 | x :: l, k => by
  have := zAs hc (l := l) (k := (f x k).2)
  show (mkL f l (f x k).2).2 = _
  rw [this, hc]
  simp only [zAI, List.map_cons, List.sum_cons]
  omega
theorem zEk {c : α → Nat} (hc : ∀ x k, (f x k).2 = k + c x) {l : List α} {k : Int} {j : Nat} : mkN f l k j = k + (zEi c l j : Nat) := by
 unfold mkN; rw [zAs hc]; rfl
theorem zCY [Inhabited α] {c : α → Nat} {l : List α} {j : Nat} (h : j < l.length) : zEi c l j + c (nth l j) ≤ zAI c l := by
 have h1 := zGQ (f := c) h
 have h2 : zEi c l (j + 1) ≤ zAI c l := by
  have e : (l.map c).sum = ((l.take (j + 1)).map c).sum + ((l.drop (j + 1)).map c).sum := by
   conv => lhs; rw [← List.take_append_drop (j + 1) l]
   rw [List.map_append, List.sum_append]
  unfold zEi zAI
  omega
 omega
end
theorem zCZ {α : Type} {c : α → Nat} (h : ∀ x, 1 ≤ c x) : ∀ {l : List α}, l.length ≤ zAI c l
 | [] => by simp
 | x :: l => by
  have h1 := zCZ h (l := l)
  have h2 := h x
  unfold zAI at h1 ⊢
  simp only [List.map_cons, List.sum_cons, List.length_cons]
  omega
theorem zA7 {α : Type} {c s : α → Nat} {A : Nat} (h : ∀ x, c x ≤ A * (s x + 1)) : ∀ {l : List α}, zAI c l ≤ A * szL s l
 | [] => by simp [zAI]
 | x :: l => by
  have h1 := zA7 h (l := l)
  have h2 := h x
  unfold zAI szL at h1 ⊢
  simp only [List.map_cons, List.sum_cons, List.length_cons]
  have e : A * (l.length + 1 + (s x + (l.map s).sum)) = A * (s x + 1) + A * (l.length + (l.map s).sum) := by rw [← Nat.mul_add]; congr 1; omega
  omega
theorem zIj {α : Type} {c : α → Nat} {A : Nat} (h : ∀ x, c x ≤ A) {l : List α} : zAI c l ≤ A * l.length := by
 have := zA7 (s := fun _ => 0) (A := A) (c := c) (fun x => by simpa using h x) (l := l)
 rwa [zWs] at this
def mkI (_ : Int) (k : Int) : Int × Int := (k, k + 1)
def cp2 {α : Type} (f g : α → List T) (l : List α) (j : Nat) : List (List T) := (l.take j).map f ++ (l.drop j).map g
section
variable {α : Type} [Inhabited α] {f g : α → List T} {l : List α} {j : Nat}
theorem zWv : cp2 f g l 0 = l.map g := by simp [cp2]
theorem zX7 (h : j = l.length) : cp2 f g l j = l.map f := by subst h; simp [cp2]
theorem zRm : (cp2 f g l j).length = l.length := by simp [cp2]; omega
theorem zX8 (h : j < l.length) : (cp2 f g l j).getD j [] = g (nth l j) := by
 simp [cp2, List.getD_eq_getElem?_getD, List.getElem?_append, Nat.min_eq_left (Nat.le_of_lt h), nth, List.getD, List.getElem?_eq_getElem h]
theorem zZi {k : Nat} (h : j < l.length) {r : List T} : ((cp2 f g l k).set j r).getD j [] = r := by
 have : j < (cp2 f g l k).length := by rw [zRm]; exact h
 simp [List.getD_eq_getElem?_getD, this]
theorem zX9 (h : j < l.length) {r : List T} (hr : r = f (nth l j)) : (cp2 f g l j).set j r = cp2 f g l (j + 1) := by
 subst hr
 have e : l.drop j = nth l j :: l.drop (j + 1) := by rw [zA5 h]; exact List.drop_eq_getElem_cons h
 have e2 : l.take (j + 1) = l.take j ++ [nth l j] := zAE h
 simp only [cp2, e, e2, List.map_append, List.map_cons, List.map_nil, List.append_assoc, List.singleton_append]
 rw [List.set_append_right _ _ (by simp; omega)]
 simp [Nat.min_eq_left (Nat.le_of_lt h)]
theorem zYa {id : Nat} (hf : ∀ x, zAH id (f x)) (hg : ∀ x, zAH id (g x)) : zAv id (cp2 f g l j) := by
 rw [cp2, zJr, zGP, zGP]
 exact ⟨fun x _ => hf x, fun x _ => hg x⟩
end
theorem zEl {α : Type} {f : α → List T} {l : List α} {k : Nat} {r : List T} (h : k < l.length) : ((l.map f).set k r).getD k [] = r := by
 simp [List.getD_eq_getElem?_getD, h]
attribute [go_sem] Nat.reduceEqDiff Nat.reduceAdd Nat.reduceSub Nat.reduceMul Nat.reduceLT Nat.reduceLeDiff Int.reduceToNat reduceCtorEq
attribute [go_sem] zX0 getD_map zX4 zX5 zAG
attribute [go_sem ↓] reduceIte
theorem zAC {d : Nat} {rows : List (List T)} {i : Nat} {r : List T} (h1 : zAv d rows) (h2 : zAH d r) : zAv d (rows.set i r) := (zNL h1 h2).2 trivial
theorem zA9 {rows : List (List T)} {i : Nat} {r : List T} (h1 : zAr rows) (h2 : zAy r) : zAr (rows.set i r) := (zUo h1 h2).2 trivial
theorem nf : (∀ (p : Prop) [Decidable p], (decide p = true) = p) ∧ (∀ (p : Prop) [Decidable p], (decide p = false) = ¬p) ∧ (∀ a b : Int, (¬a < b) = (b ≤ a)) ∧ (∀ a b : Int, (¬a ≤ b) = (b < a)) ∧ (∀ a b : Int, (a ≥ b) = (b ≤ a)) ∧ (∀ a b : Int, (a > b) = (b < a)) ∧ (∀ a b : Nat, (a ≥ b) = (b ≤ a)) ∧ (∀ a b : Nat, (a > b) = (b < a)) ∧ (∀ b : Bool, ((!b) = true) = (b = false)) ∧ (∀ b : Bool, ((!b) = false) = (b = true)) ∧ (∀ m n : Nat, ((m : Int) < n) = (m < n)) ∧ (∀ m n : Nat, ((m : Int) ≤ n) = (m ≤ n)) ∧ (∀ (α : Type) [BEq α] [LawfulBEq α] (a b : α), ((a == b) = true) = (a = b)) ∧ (∀ (α : Type) [BEq α] [LawfulBEq α] (a b : α), ((a != b) = true) = (a ≠ b)) ∧ (∀ (α : Type) [BEq α] [LawfulBEq α] (a b : α), ((a == b) = false) = (a ≠ b)) ∧ (∀ (α : Type) [BEq α] [LawfulBEq α] (a b : α), ((a != b) = false) = (a = b)) := by
 refine ⟨fun p _ => ?_, fun p _ => ?_, fun a b => ?_, fun a b => ?_, fun a b => ?_, fun a b => ?_, fun a b => ?_, fun a b => ?_, fun b => ?_, fun b => ?_, fun m n => ?_, fun m n => ?_, fun α _ _ a b => ?_, fun α _ _ a b => ?_, fun α _ _ a b => ?_, fun α _ _ a b => ?_⟩ <;> simp
namespace K
def t (n : Nat) : Operand := .tmp n
def k (n : Int) : Operand := .const (.int .i64 n)
def ff : Operand := .const (.bool false)
def tt : Operand := .const (.bool true)
def o (d : Nat) (i : I) : IN := ⟨some d, none, i⟩
def g (d c : Nat) (b : Bool) (i : I) : IN := ⟨some d, some (c, b), i⟩
def u (i : I) : IN := ⟨none, none, i⟩
def m (d a : Nat) : IN := ⟨some d, none, .mv (.tmp a)⟩
def mg (d c : Nat) (b : Bool) (a : Nat) : IN := ⟨some d, some (c, b), .mv (.tmp a)⟩
@[go_sem] theorem t_eq (n : Nat) : t n = .tmp n := rfl
@[go_sem] theorem k_eq (n : Int) : k n = .const (.int .i64 n) := rfl
@[go_sem] theorem ff_eq : ff = .const (.bool false) := rfl
@[go_sem] theorem tt_eq : tt = .const (.bool true) := rfl
@[go_sem] theorem o_eq (d : Nat) (i : I) : o d i = ⟨some d, none, i⟩ := rfl
@[go_sem] theorem g_eq (d c : Nat) (b : Bool) (i : I) : g d c b i = ⟨some d, some (c, b), i⟩ := rfl
@[go_sem] theorem u_eq (i : I) : u i = ⟨none, none, i⟩ := rfl
@[go_sem] theorem m_eq (d a : Nat) : m d a = ⟨some d, none, .mv (.tmp a)⟩ := rfl
@[go_sem] theorem mg_eq (d c : Nat) (b : Bool) (a : Nat) : mg d c b a = ⟨some d, some (c, b), .mv (.tmp a)⟩ := rfl
abbrev hF (P : Program) (n : Nat) : Option Stmt := (P.funcs[n]?).bind (fun fn => fn.body.bind (comp P fn.ntmps))
abbrev rF (P : Program) (n : Nat) : Option (List ResultVar × Nat) := (P.funcs[n]?).map (fun fn => (fn.results.toList, fn.ntmps))
end K
end Go.Am

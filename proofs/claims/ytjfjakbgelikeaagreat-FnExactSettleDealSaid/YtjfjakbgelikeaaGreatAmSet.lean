import Derived.Test.YtjfjakbgelikeaaGreatAmAuto
import Derived.IntWalk
set_option linter.all false
namespace Go.Am
open Go Go.RowKit
section
variable {P : Program} {E : Env} {s : St} {d : Nat} {K : St → Prop} {Q : Exit → St → Prop}
@[go_sem] theorem zAdO : wsO P E [] K s = K s := rfl
@[go_sem] theorem zAbz {d : Option Nat} {i : I} {r : List IN} : wsO P E (⟨d, none, i⟩ :: r) K s = zEr P E d none i (wsO P E r K) s (zAd s i) := rfl
@[go_sem] theorem zAbA {d : Option Nat} {i : I} {r : List IN} {t : Nat} {b : Bool} : wsO P E (⟨d, some (t, b), i⟩ :: r) K s = grd (lk t s.slots) b (ws1 P E d (some (t, b)) i (wsO P E r K)) (skO (wsO P E r) d K) s := rfl
@[go_sem] theorem s_1 {d : Option Nat} {g : Option (Nat × Bool)} {i : I} : ws1 P E d g i K s = zEr P E d g i K s (zAd s i) := rfl
@[go_sem] theorem zAaZ {d : Option Nat} {g : Option (Nat × Bool)} {i : I} {p : Prop} {t : T} : zEr P E d g i K s (some (p, t)) = (p ∧ K (s.put d t)) := rfl
@[go_sem] theorem zAa0 {d : Option Nat} {g : Option (Nat × Bool)} {i : I} : zEr P E d g i K s none = zPa P E d g i K s (zCk E s d i) := rfl
@[go_sem] theorem zAas {d : Option Nat} {g : Option (Nat × Bool)} {i : I} {p : Prop} {s' : St} : zPa P E d g i K s (some (p, s')) = (p ∧ K s') := rfl
@[go_sem] theorem zAat {d : Option Nat} {g : Option (Nat × Bool)} {i : I} : zPa P E d g i K s none = zAq P E ⟨d, g, i⟩ K s := rfl
@[go_sem] theorem zAep : wsS P E .skip Q s = Q .normal s := rfl
@[go_sem] theorem s_ops {l : List IN} : wsS P E (.ops l) Q s = wsO P E l (Q .normal) s := rfl
@[go_sem] theorem zAeq {l : List IN} : wsS P E (.dops l) Q s = wpQ P l (Q .normal) s := rfl
@[go_sem] theorem zAer {Q : Bool → Prop} {neg own : Bool} {k : Nat} {rows : List (List T)} : zOD Q neg (some (.sl own k rows)) = ∀ b : Bool, (b = !neg → rows = []) → Q b := rfl
@[go_sem] theorem zAes {Q : Bool → Prop} {neg : Bool} {id lo n : Nat} : zOD Q neg (some (.ref id lo n)) = ∀ b : Bool, (b = !neg → n = 0) → Q b := rfl
@[go_sem] theorem zAet {Q : Bool → Prop} {neg : Bool} : zOD Q neg (some (.v (.slice none 0 0))) = Q (!neg) := rfl
attribute [go_sem] zCG
@[go_sem] theorem zAeu {l : List (Option (List IN) × IN)} : wsS P E (.rops l) Q s = wsR P E l (Q .normal) s := rfl
@[go_sem] theorem zAdP : wsR P E [] K s = K s := rfl
@[go_sem] theorem zAbB {b : Option (List IN)} {d : Option Nat} {i : I} {r : List (Option (List IN) × IN)} : wsR P E ((b, ⟨d, none, i⟩) :: r) K s = zI6 P E b d none i (wsR P E r K) s := rfl
@[go_sem] theorem zAbC {b : Option (List IN)} {d : Option Nat} {i : I} {r : List (Option (List IN) × IN)} {t : Nat} {g : Bool} : wsR P E ((b, ⟨d, some (t, g), i⟩) :: r) K s = grd (lk t s.slots) g (zVT P E b d (some (t, g)) i (wsR P E r K)) (skR b (wsR P E r) d K) s := rfl
@[go_sem] theorem s_R1 {b : Option (List IN)} {d : Option Nat} {g : Option (Nat × Bool)} {i : I} : zVT P E b d g i K s = zI6 P E b d g i K s := rfl
@[go_sem] theorem zAbD {d : Option Nat} {g : Option (Nat × Bool)} {i : I} : zI6 P E none d g i K s = zK1 d K s (zAd s i) := rfl
@[go_sem] theorem zAbE {l : List IN} {d : Option Nat} {g : Option (Nat × Bool)} {i : I} : zI6 P E (some l) d g i K s = zEr P E d g i (rrK l K) s (zAd s i) := rfl
@[go_sem] theorem zAev {d : Option Nat} {p : Prop} {t : T} : zK1 d K s (some (p, t)) = (p ∧ K (s.put d t)) := rfl
@[go_sem] theorem zAdQ {f : (St → Prop) → St → Prop} {d : Option Nat} : skR none f d K s = f K (s.put d (.tup [])) := rfl
@[go_sem] theorem zAdR {l : List IN} {f : (St → Prop) → St → Prop} {d : Option Nat} : skR (some l) f d K s = rrK l (f K) (s.put d (.tup [])) := rfl
@[go_sem] theorem s_rrK {l : List IN} : rrK l K s = (rrL l s ∧ K s) := rfl
@[go_sem] theorem zAew : rrL [] s = True := rfl
@[go_sem] theorem zAex {d : Option Nat} {i : I} {l : List IN} : rrL (⟨d, none, i⟩ :: l) s = (rr1 d s (zAd s i) ∧ rrL l s) := rfl
@[go_sem] theorem zAey {d : Option Nat} {i : I} {t : Nat} {g : Bool} {l : List IN} : rrL (⟨d, some (t, g), i⟩ :: l) s = (grd (lk t s.slots) g (rrG d i) (same d (.tup [])) s ∧ rrL l s) := rfl
@[go_sem] theorem s_rrG {d : Option Nat} {i : I} : rrG d i s = rr1 d s (zAd s i) := rfl
@[go_sem] theorem s_rr1 {d : Option Nat} {p : Prop} {t : T} : rr1 d s (some (p, t)) = (p ∧ same d t s) := rfl
@[go_sem] theorem zAdS {t : T} : same none t s = True := rfl
@[go_sem] theorem zAdT {n : Nat} {t : T} : same (some n) t s = (lk n s.slots = some t) := rfl
@[go_sem] theorem s_seq {a b : AS} : wsS P E (.seq a b) Q s = wsS P E a (zKN (wsS P E b) Q) s := rfl
@[go_sem] theorem s_cond {x : Operand} {a b : AS} : wsS P E (.cond x a b) Q s = grc (s.eval x) (wsS P E a Q) (wsS P E b Q) s := rfl
@[go_sem] theorem zAez {na : Nat} {L : List (Nat × Nat)} {b : AS} : wsS P E (.loop na L b) Q s = zVS P E na L b Q (canon E na L s) := rfl
@[go_sem] theorem zAdU {id : Nat} {b : AS} : wsS P E (.block id b) Q s = wsS P E b (zEn id Q) s := rfl
@[go_sem] theorem s_exit {id : Nat} : wsS P E (.exit id) Q s = Q (.exit id) s := rfl
@[go_sem] theorem s_ret : wsS P E .ret Q s = Q .ret s := rfl
@[go_sem] theorem zAeA {L : List Nat} {b : AS} : wsS P E (.kept L b) Q s = wsS P E b Q (s.fin0 L) := rfl
@[go_sem] theorem zAeB {L : List (Nat × Nat)} {t : RT} : wsS P E (.tops L t) Q s = Jn (fun I => wsT P E t (zGN L I) s) (Q .normal) := rfl
@[go_sem] theorem zAbF : wsT P E .done K s = K s := rfl
@[go_sem] theorem zAdV {d : Option Nat} {i : I} {r : RT} : wsT P E (.rd ⟨d, none, i⟩ r) K s = zK1 d (wsT P E r K) s (zAd s i) := rfl
@[go_sem] theorem zAdW {d : Option Nat} {i : I} {r : RT} {t : Nat} {g : Bool} : wsT P E (.rd ⟨d, some (t, g), i⟩ r) K s = grd (lk t s.slots) g (zR5 d i (wsT P E r K)) (skO (wsT P E r) d K) s := rfl
@[go_sem] theorem s_P1 {d : Option Nat} {i : I} : zR5 d i K s = zK1 d K s (zAd s i) := rfl
@[go_sem] theorem s_T1 {l : List IN} {d : Option Nat} {g : Option (Nat × Bool)} {i : I} : zML P E l d g i K s = zEr P E d g i (rrK l K) s (zAd s i) := rfl
@[go_sem] theorem s_skT {l : List IN} {f : (St → Prop) → St → Prop} {d : Option Nat} : skT l f d K s = rrK l (f K) (s.put d (.tup [])) := rfl
@[go_sem] theorem zAeC {l : List IN} {d : Option Nat} {i : I} {r : RT} : wsT P E (.alt l ⟨d, none, i⟩ r .none) K s = zEr P E d none i (rrK l (wsT P E r K)) s (zAd s i) := by
 simp [wsT, Both, zML]
@[go_sem] theorem zAeD {l : List IN} {d : Option Nat} {i : I} {r : RT} {t : Nat} {g : Bool} : wsT P E (.alt l ⟨d, some (t, g), i⟩ r .none) K s = grd (lk t s.slots) g (zML P E l d (some (t, g)) i (wsT P E r K)) (skT l (wsT P E r) d K) s := by
 simp [wsT, Both]
@[go_sem] theorem zAeE {l l2 : List IN} {d : Option Nat} {i : I} {r r2 o : RT} {x2 : IN} : wsT P E (.alt l ⟨d, none, i⟩ r (.alt l2 x2 r2 o)) K s = Both (zEr P E d none i (rrK l (wsT P E r K)) s (zAd s i)) (wsT P E (.alt l2 x2 r2 o) K s) := rfl
@[go_sem] theorem zAeF {l l2 : List IN} {d : Option Nat} {i : I} {r r2 o : RT} {x2 : IN} {t : Nat} {g : Bool} : wsT P E (.alt l ⟨d, some (t, g), i⟩ r (.alt l2 x2 r2 o)) K s = Both (grd (lk t s.slots) g (zML P E l d (some (t, g)) i (wsT P E r K)) (skT l (wsT P E r) d K) s) (wsT P E (.alt l2 x2 r2 o) K s) := rfl
@[go_sem] theorem zAeG {ms : List (Nat × Nat × List (Nat × Nat))} {a : AS} : wsS P E (.post ms a) Q s = wsS P E a (zLK ms Q) s := rfl
@[go_sem] theorem zAbG {ms : List (Nat × Nat × List (Nat × Nat))} : zLK ms Q .normal s = zI5 (Q .normal) (zD5 ms (True, s)) := rfl
@[go_sem] theorem zAbH {ms : List (Nat × Nat × List (Nat × Nat))} : zLK ms Q .ret s = Q .ret s := rfl
@[go_sem] theorem zAbI {ms : List (Nat × Nat × List (Nat × Nat))} {id : Nat} : zLK ms Q (.exit id) s = Q (.exit id) s := rfl
@[go_sem] theorem s_pre {l : List IN} {x new : Nat} {a : AS} : wsS P E (.pre l x new a) Q s = zI5 (wsS P E a Q) (zMK E s l x new) := rfl
@[go_sem] theorem s_lay {ms : List (Nat × Nat × List (Nat × Nat))} {a : AS} : wsS P E (.lay ms a) Q s = zI5 (wsS P E a Q) (zD5 ms (True, s)) := rfl
attribute [go_sem] zMK zR4 zYl preO zVQ Option.isSome_some
@[go_sem] theorem zAeH {p : Prop} {s' : St} : zI5 K (p, s') = (p ∧ K s') := rfl
attribute [go_sem] zYi zD5 zMF zKQ zIY zOV zVC zYd St.close1 St.nil1 zDi zDE zKP St.open1
@[go_sem] theorem zAeI {na : Nat} {L : List (Nat × Nat)} {b : AS} {p : Prop} {s' : St} : zVS P E na L b Q (p, s') = (p ∧ zLL P E na L b Q s') := rfl
@[go_sem] theorem zAdX {σ : Type} {n j : Nat} {F : Nat → σ → St} {I : Nat → σ → Prop} {p : Prop} {s' : St} : zR6 n F I j (p, s') = (p ∧ j < n ∧ ∃ x, s' = F (j + 1) x ∧ I (j + 1) x) := rfl
@[go_sem] theorem zAbJ {σ : Type} {na : Nat} {L : List (Nat × Nat)} {n j : Nat} {F : Nat → σ → St} {I : Nat → σ → Prop} : zLM E na L n F I j Q .normal s = zR6 n F I j (canon E na L s) := rfl
@[go_sem] theorem zAbK {σ : Type} {na : Nat} {L : List (Nat × Nat)} {n j : Nat} {F : Nat → σ → St} {I : Nat → σ → Prop} : zLM E na L n F I j Q .ret s = Q .ret s := rfl
@[go_sem] theorem zAbL {σ : Type} {na : Nat} {L : List (Nat × Nat)} {n j id : Nat} {F : Nat → σ → St} {I : Nat → σ → Prop} : zLM E na L n F I j Q (.exit id) s = Q (.exit id) s := rfl
@[go_sem] theorem zAdY {σ : Type} {x : σ} {m : σ → Nat} {F : σ → St} {I : σ → Prop} {p : Prop} {s' : St} : zR7 F I m x (p, s') = (p ∧ ∃ y, s' = F y ∧ I y ∧ m y < m x) := rfl
@[go_sem] theorem zAbj {σ : Type} {na : Nat} {L : List (Nat × Nat)} {x : σ} {m : σ → Nat} {F : σ → St} {I : σ → Prop} : zLN E na L F I m x Q .normal s = zR7 F I m x (canon E na L s) := rfl
@[go_sem] theorem zAbk {σ : Type} {na : Nat} {L : List (Nat × Nat)} {x : σ} {m : σ → Nat} {F : σ → St} {I : σ → Prop} : zLN E na L F I m x Q .ret s = Q .ret s := rfl
@[go_sem] theorem zAbl {σ : Type} {na : Nat} {L : List (Nat × Nat)} {id : Nat} {x : σ} {m : σ → Nat} {F : σ → St} {I : σ → Prop} : zLN E na L F I m x Q (.exit id) s = Q (.exit id) s := rfl
@[go_sem] theorem zAeJ {f : Nat} {xs : List Operand} : zAd s (.call f xs) = none := rfl
@[go_sem] theorem zAdZ {f : Nat} {xs : List Operand} : zAd s (.xcall f xs) = none := rfl
@[go_sem] theorem p_bad {x : Operand} : zAd s (.bad x) = none := rfl
@[go_sem] theorem zAd0 {x : Operand} {xs : List Operand} : zAd s (.callv x xs) = none := rfl
@[go_sem] theorem zAd1 {z : Value} : zAd s (.alloc z) = none := rfl
@[go_sem] theorem p_box {x : Operand} : zAd s (.box x) = none := rfl
@[go_sem] theorem zAd2 {m : Nat} {x v : Operand} : zAd s (.store m x v) = none := rfl
@[go_sem] theorem p_bsl {k n : Nat} {z : Value} {ps : List (Nat × Operand)} : zAd s (.bsl k z n ps) = none := rfl
@[go_sem] theorem p_mks {k n : Nat} {z : Value} {x y : Operand} : zAd s (.mks k n z x y) = none := rfl
@[go_sem] theorem p_app {k n : Nat} {z : Value} {x y : Operand} : zAd s (.app k n z x y) = none := rfl
@[go_sem] theorem zAeK {d : Option Nat} {f : Nat} {xs : List Operand} : zCk E s d (.call f xs) = none := by cases d <;> rfl
@[go_sem] theorem zAd3 {d : Option Nat} {f : Nat} {xs : List Operand} : zCk E s d (.xcall f xs) = none := by cases d <;> rfl
@[go_sem] theorem f_bad {d : Option Nat} {x : Operand} : zCk E s d (.bad x) = none := by cases d <;> rfl
@[go_sem] theorem zAd4 {d : Option Nat} {x : Operand} {xs : List Operand} : zCk E s d (.callv x xs) = none := by cases d <;> rfl
@[go_sem] theorem zAd5 {z : Value} : zCk E s (some d) (.alloc z) = some (E.okd d ∧ zAk d s.objs, (s.new d ⟨(zAA z).length, [zAA z]⟩).set d (.ptr d 0 0)) := rfl
def zYm (E : Env) (s : St) (d : Nat) (t : T) : Option (List T) → Option (Prop × St)
 | some row => some (t.plainV = true ∧ E.okd d ∧ zAk d s.objs ∧ zAJ d row, (s.new d ⟨row.length, [row]⟩).set d (.ptr d 0 0))
 | none => none
def zSa (E : Env) (s : St) (d : Nat) : Option T → Option (Prop × St)
 | some t => zYm E s d t t.cells
 | none => none
@[go_sem] theorem f_box {x : Operand} : zCk E s (some d) (.box x) = zSa E s d (s.eval x) := by
 simp only [zCk]
 cases s.eval x with
 | none => rfl
 | some t => simp only [zSa]; cases t.cells <;> rfl
def zWR (s : St) (id j q n : Nat) (t : T) : Option Ob → Option (List T) → Option (Prop × St)
 | some ob, some cs => some (cs.length = n ∧ t.plainV = true ∧ cs.all T.storable = true ∧ j < ob.rows.length ∧ q + n ≤ ob.k, s.upd id ⟨ob.k, zCW ob.rows j q cs⟩)
 | _, _ => none
def zVV (s : St) (n : Nat) : Option T → Option T → Option (Prop × St)
 | some (.ptr id j q), some t => zWR s id j q n t (lk id s.objs) t.cells
 | _, _ => none
@[go_sem] theorem zAd6 {n : Nat} {x v : Operand} : zCk E s none (.store n x v) = zVV s n (s.eval x) (s.eval v) := by
 simp only [zCk]
 cases s.eval x with
 | none => rfl
 | some p => cases s.eval v with
  | none => cases p <;> rfl
  | some t =>
   cases p with
   | ptr id j q => simp only [zVV]; cases lk id s.objs <;> cases t.cells <;> rfl
   | _ => rfl
def zWS (E : Env) (s : St) (d k n : Nat) (l : List (Nat × Nat × T)) : Option (List T) → Option (Prop × St)
 | some flat => some (l.all (fun q => q.2.2.plainV) = true ∧ flat.length = n * k ∧ E.okd d ∧ zAk d s.objs ∧ zAx d (chunks k n flat), (s.new d ⟨k, chunks k n flat⟩).set d (.ref d 0 n))
 | none => none
def zVW (E : Env) (s : St) (d k n : Nat) : Option (List (Nat × Nat × T)) → Option (Prop × St)
 | some l => zWS E s d k n l (zDY (List.replicate (n * k) .any) l)
 | none => none
@[go_sem] theorem f_bsl {k n : Nat} {z : Value} {parts : List (Nat × Operand)} : zCk E s (some d) (.bsl k z n parts) = zVW E s d k n (zDa s k parts) := by
 simp only [zCk]
 cases zDa s k parts with
 | none => rfl
 | some l => simp only [zVW]; cases zDY (List.replicate (n * k) .any) l <;> rfl
def zYn (E : Env) (s : St) (d k bytes : Nat) (z : Value) : Option T → Option T → Option (Prop × St)
 | some (.v (.int _ l)), some (.v (.int _ c)) => some ((0 ≤ l ∧ l ≤ c ∧ c ≤ 9223372036854775807 ∧ bytes * c ≤ 281474976710656) ∧ (zAA z).length = k ∧ E.okd d ∧ zAk d s.objs, (s.new d ⟨k, List.replicate l.toNat (zAA z)⟩).set d (.ref d 0 l.toNat))
 | _, _ => none
@[go_sem] theorem f_mks {k bytes : Nat} {z : Value} {x y : Operand} : zCk E s (some d) (.mks k bytes z x y) = zYn E s d k bytes z (s.eval x) (s.eval y) := rfl
def zYo (E : Env) (s : St) (d k bytes : Nat) : Option T → Option T → Option (Prop × St)
 | some tx, some ty => bif zLI tx ty then zA7 s d k (lkT s tx) tx ty else appG E s d k bytes ty (zHO s k tx) (zD4 s k ty)
 | _, _ => none
@[go_sem] theorem f_app {k bytes : Nat} {z : Value} {x y : Operand} : zCk E s (some d) (.app k bytes z x y) = zYo E s d k bytes (s.eval x) (s.eval y) := by
 simp only [zCk]
 cases s.eval x with
 | none => rfl
 | some tx => cases s.eval y <;> rfl
def zYp (E : Env) (s : St) (d k bytes : Nat) (z : Value) : Option T → Option T → Option (Prop × St)
 | some (.ref id lo n), some (.v (.int _ m)) => zR1 E s d k bytes z id lo n m (lk id s.objs)
 | _, _ => none
@[go_sem] theorem f_apz {k bytes : Nat} {z : Value} {x y : Operand} : zCk E s (some d) (.apz k bytes z x y) = zYp E s d k bytes z (s.eval x) (s.eval y) := rfl
def zYq (s : St) (k : Nat) (z : Value) : Option T → Option (Prop × St)
 | some (.ref id lo n) => zRY s k z id lo n (lk id s.objs)
 | _ => none
@[go_sem] theorem f_clr {k : Nat} {z : Value} {x : Operand} : zCk E s none (.clr k z x) = zYq s k z (s.eval x) := rfl
def zYr (E : Env) (s : St) (d : Option Nat) : Option T → Option (Prop × St)
 | some (.ref id lo n) => zRZ E s d id lo n (lk id s.objs)
 | _ => none
@[go_sem] theorem zAeL {d : Option Nat} {x : Operand} : zCk E s d (.capo x) = zYr E s d (s.eval x) := by cases d <;> rfl
def zYs (s : St) (d : Option Nat) (k : Nat) : Option T → Option T → Option (Prop × St)
 | some (.ref id lo n), some ty => zR0 s d k id lo n ty (lk id s.objs) (zD4 s k (zKS n ty))
 | _, _ => none
@[go_sem] theorem f_cpy {d : Option Nat} {k : Nat} {x y : Operand} : zCk E s d (.cpy k x y) = zYs s d k (s.eval x) (s.eval y) := by cases d <;> rfl
@[go_sem] theorem p_apz {k n : Nat} {z : Value} {x y : Operand} : zAd s (.apz k n z x y) = none := rfl
@[go_sem] theorem p_clr {k : Nat} {z : Value} {x : Operand} : zAd s (.clr k z x) = none := rfl
@[go_sem] theorem zAeM {x : Operand} : zAd s (.capo x) = none := rfl
@[go_sem] theorem p_cpy {k : Nat} {x y : Operand} : zAd s (.cpy k x y) = none := rfl
attribute [go_sem] mvC mvS mvP zVG zMu T.mov zLI lkT zA7 appG zRY zRZ zR0 zR1 zYo zYp zYq zYr zYs zKS zKT zGn zO0 zYh St.re zBx true_or or_true
def zYt (E : Env) (s : St) (d : Nat) (m : Option Nat) (id i o : Nat) : Option Ob → Option (Prop × St)
 | some ob => ldE E s d m id i o (i < ob.rows.length) (zAT m ((ob.rows.getD i []).drop o))
 | none => none
def fLd (E : Env) (s : St) (d : Nat) (m : Option Nat) : Option T → Option (Prop × St)
 | some (.ptr id i o) => zYt E s d m id i o (lk id s.objs)
 | _ => none
@[go_sem] theorem zAeN {m : Option Nat} {x : Operand} : zCk E s (some d) (.load m x) = fLd E s d m (s.eval x) := by
 simp only [zCk]
 cases s.eval x with
 | none => rfl
 | some t =>
  cases t with
  | ptr id i o => simp only [fLd]; cases lk id s.objs <;> rfl
  | _ => rfl
attribute [go_sem] fLd zYt ldE Option.isNone_none Option.isNone_some
attribute [go_sem] zYm zSa zVV zWR zVW zWS zYn zHO zD4 List.take_nil List.take_length
@[go_sem] theorem zYu {α β : Type} {f : α → β} {l : List α} : (l.map f).take l.length = l.map f := by
 rw [List.take_of_length_le (by simp)]
@[go_sem] theorem nbeq (a b : Nat) : Nat.beq a b = decide (a = b) := by
 rw [Bool.eq_iff_iff]; simp
@[go_sem] theorem nbne (a b : Nat) : (a != b) = !decide (a = b) := by
 rw [Bool.eq_iff_iff]; simp
@[go_sem] theorem nble (a b : Nat) : Nat.ble a b = decide (a ≤ b) := by
 rw [Bool.eq_iff_iff]; simp
@[go_sem] theorem nblt (a b : Nat) : Nat.blt a b = decide (a < b) := by
 rw [Bool.eq_iff_iff]; simp
attribute [go_sem] decide_true decide_false and_self Nat.zero_add Nat.add_zero Int.cast_ofNat_Int Int.toNat_natCast List.length_map List.length_replicate List.length_append forall_eq exists_eq_right List.drop_zero List.nil_append List.filter_nil List.filter_cons List.replicate_zero List.replicate_succ
theorem zTN {d : Nat} : zAx d [] ↔ True := by simp [zAx]
theorem zSb {d : Nat} {r : List T} {rs : List (List T)} : zAx d (r :: rs) ↔ zAJ d r ∧ zAx d rs := by simp [zAx]
theorem zVX {d : Nat} {rows : List (List T)} (h : zAt rows) : zAx d rows ↔ True := ⟨fun _ => trivial, fun _ => zCF d h⟩
theorem zYv : zAt [] ↔ True := by simp [zAt]
theorem zXm {r : List T} {rs : List (List T)} : zAt (r :: rs) ↔ zAH r ∧ zAt rs := by simp [zAt]
theorem zTO {a b : List (List T)} : zAt (a ++ b) ↔ zAt a ∧ zAt b := by
 simp only [zAt, List.mem_append]
 exact ⟨fun h => ⟨fun r hr => h r (.inl hr), fun r hr => h r (.inr hr)⟩, fun h r hr => hr.elim (h.1 r) (h.2 r)⟩
theorem zTP {α : Type} {f : α → List T} {l : List α} : zAt (l.map f) ↔ ∀ x ∈ l, zAH (f x) := by simp [zAt]
theorem zTQ {n : Nat} {r : List T} : zAt (List.replicate n r) ↔ n = 0 ∨ zAH r := by
 simp only [zAt, List.mem_replicate]
 constructor
 ·intro h
  by_cases e : n = 0
  ·exact .inl e
  ·exact .inr (h r ⟨e, rfl⟩)
 ·rintro h x ⟨h1, rfl⟩
  exact h.resolve_left h1
theorem zJa {d : Nat} {a b : List (List T)} : zAx d (a ++ b) ↔ zAx d a ∧ zAx d b := by
 simp only [zAx, List.mem_append]
 exact ⟨fun h => ⟨fun r hr => h r (.inl hr), fun r hr => h r (.inr hr)⟩, fun h r hr => hr.elim (h.1 r) (h.2 r)⟩
theorem zGR {α : Type} {d : Nat} {f : α → List T} {l : List α} : zAx d (l.map f) ↔ ∀ x ∈ l, zAJ d (f x) := by simp [zAx]
theorem zNp {d n : Nat} {r : List T} : zAx d (List.replicate n r) ↔ n = 0 ∨ zAJ d r := by
 simp only [zAx, List.mem_replicate]
 constructor
 ·intro h
  by_cases e : n = 0
  ·exact .inl e
  ·exact .inr (h r ⟨e, rfl⟩)
 ·rintro h x ⟨h1, rfl⟩
  exact h.resolve_left h1
theorem zNq {d : Nat} {rows : List (List T)} {i : Nat} {r : List T} (h1 : zAx d rows) (h2 : zAJ d r) : zAx d (rows.set i r) ↔ True := by
 refine ⟨fun _ => trivial, fun _ x hx => ?_⟩
 rcases List.mem_or_eq_of_mem_set hx with hx | rfl
 ·exact h1 x hx
 ·exact h2
theorem zSc {d : Nat} {rows : List (List T)} {n : Nat} (h : zAx d rows) : zAx d (rows.take n) ↔ True := ⟨fun _ => trivial, fun _ x hx => h x (List.mem_of_mem_take hx)⟩
theorem zSd {d : Nat} {rows : List (List T)} {n : Nat} (h : zAx d rows) : zAx d (rows.drop n) ↔ True := ⟨fun _ => trivial, fun _ x hx => h x (List.mem_of_mem_drop hx)⟩
theorem zTR {d : Nat} {a b : List (List T)} : zCY d (a ++ b) ↔ zCY d a ∧ zCY d b := by
 simp only [zCY, List.mem_append]
 exact ⟨fun h => ⟨fun r hr => h r (.inl hr), fun r hr => h r (.inr hr)⟩, fun h r hr => hr.elim (h.1 r) (h.2 r)⟩
theorem zTS {α : Type} {d : Nat} {f : α → List T} {l : List α} : zCY d (l.map f) ↔ ∀ x ∈ l, ltL d (f x) := by simp [zCY]
theorem zTT {d n : Nat} {r : List T} : zCY d (List.replicate n r) ↔ n = 0 ∨ ltL d r := by
 simp only [zCY, List.mem_replicate]
 constructor
 ·intro h
  by_cases e : n = 0
  ·exact .inl e
  ·exact .inr (h r ⟨e, rfl⟩)
 ·rintro h x ⟨h1, rfl⟩
  exact h.resolve_left h1
theorem zNr {d d' : Nat} {a b : List (List T)} : zBe d d' (a ++ b) = zBe d d' a ++ zBe d d' b := by simp [zBe]
theorem zNs {α : Type} {d d' : Nat} {f : α → List T} {l : List α} : zBe d d' (l.map f) = l.map fun x => zCX d d' (f x) := by simp [zBe, Function.comp_def]
theorem zNt {d d' n : Nat} {r : List T} : zBe d d' (List.replicate n r) = List.replicate n (zCX d d' r) := by simp [zBe]
theorem zTU {d d' : Nat} {rows : List (List T)} {i : Nat} {r : List T} : zBe d d' (rows.set i r) = (zBe d d' rows).set i (zCX d d' r) := by simp [zBe, List.map_set]
theorem zSe {d d' n : Nat} {rows : List (List T)} : zBe d d' (rows.take n) = (zBe d d' rows).take n := by simp [zBe, List.map_take]
theorem zSf {d d' n : Nat} {rows : List (List T)} : zBe d d' (rows.drop n) = (zBe d d' rows).drop n := by simp [zBe, List.map_drop]
@[go_sem] theorem zAd7 {r q : List T} : zAm [r] 0 (List.replicate 1 q) = [q] := rfl
@[go_sem] theorem zAa1 {d : Nat} {rows : List (List T)} {i n : Nat} {q : List T} : zAx d (zAm rows i (List.replicate n q)) ↔ zAx d (rows.take i) ∧ zAx d (List.replicate n q) ∧ zAx d (rows.drop (i + n)) := by
 unfold zAm zAx
 simp only [List.length_replicate, List.mem_append, or_imp, forall_and, and_assoc]
attribute [go_sem] zJa zGR zNp zNq zSc zSd zTR zTS zTT zNr zNs zNt zTU zSe zSf implies_true or_true
theorem zTV {rows : List (List T)} {i : Nat} {r : List T} (h1 : zAt rows) (h2 : zAH r) : zAt (rows.set i r) ↔ True := by
 refine ⟨fun _ => trivial, fun _ x hx => ?_⟩
 rcases List.mem_or_eq_of_mem_set hx with hx | rfl
 ·exact h1 x hx
 ·exact h2
theorem zXn {rows : List (List T)} {n : Nat} (h : zAt rows) : zAt (rows.take n) ↔ True := ⟨fun _ => trivial, fun _ x hx => h x (List.mem_of_mem_take hx)⟩
theorem zXo {rows : List (List T)} {n : Nat} (h : zAt rows) : zAt (rows.drop n) ↔ True := ⟨fun _ => trivial, fun _ x hx => h x (List.mem_of_mem_drop hx)⟩
theorem zYw {B : Nat} : zCY B [] ↔ True := by simp [zCY]
theorem zXp {B : Nat} {r : List T} {rs : List (List T)} : zCY B (r :: rs) ↔ ltL B r ∧ zCY B rs := by simp [zCY]
theorem zAa2 {B : Nat} {rows : List (List T)} (h : zAt rows) : zCY B rows ↔ True := ⟨fun _ => trivial, fun _ => zQl h⟩
attribute [go_sem] zTN zSb zVX zYv zXm zTO zTP zTQ zTV zXn zXo zYw zXp zAa2
attribute [go_sem] cv1 cv2 cm1 cm2 nodupB zIR zXk zXl exists_eq_left' Option.map_some Option.map_none
attribute [go_sem] zMv zRN List.length_cons List.length_nil zHu T.lt ltL zI7 zGb zFz zF2 zPc zLP zR8
@[go_sem] theorem zAd8 {X r : T} {l : List T} : zEO (fun r _ => r = X) r l ↔ zAX r X := by
 constructor
 ·rintro ⟨r', h, rfl⟩; exact h
 ·intro h; exact ⟨X, h, rfl⟩
@[go_sem] theorem zAbM {X r : T} {l : List T} {C : List T → Prop} : zEO (fun r l => r = X ∧ C l) r l ↔ zAX r X ∧ C l := by
 constructor
 ·rintro ⟨r', h, rfl, h2⟩; exact ⟨h, h2⟩
 ·intro h; exact ⟨X, h.1, rfl, h.2⟩
@[go_sem] theorem zAd9 {α : Type} {X : α → T} {C : α → Prop} {r : T} {l : List T} : zEO (fun r _ => ∃ n, r = X n ∧ C n) r l ↔ ∃ n, zAX r (X n) ∧ C n := by
 constructor
 ·rintro ⟨r', h, n, rfl, h2⟩; exact ⟨n, h, h2⟩
 ·rintro ⟨n, h, h2⟩; exact ⟨X n, h, n, rfl, h2⟩
theorem zFA (t : T) : zAX t t := by
 have key : ∀ t : T, zAX t t := by
  intro t
  refine T.rec (motive_1 := fun t => zAX t t) (motive_2 := fun l => zBj l l) (motive_3 := fun _ => True) ?_ ?_ ?_ ?_ ?_ ?_ ?_ ?_ ?_ ?_ ?_ ?_ ?_ t
  ·simp [zAX]
  ·intro x; unfold zAX; split <;> simp_all
  ·intro row ih; simp only [zAX]; exact ih
  ·intro row ih; simp only [zAX]; exact ih
  ·intros; simp [zAX]
  ·intros; simp [zAX]
  ·intros; simp [zAX]
  ·intros; simp [zAX]
  ·intros; simp [zAX]
  ·simp [zBj]
  ·intro t ts h1 h2; simp only [zBj]; exact ⟨h1, h2⟩
  ·trivial
  ·intros; trivial
 exact key t
theorem zEP {R : T → List T → Prop} {r : T} {l : List T} (h : R r l) : zEO R r l := ⟨r, zFA r, h⟩
@[go_sem] theorem zAea {o : Bool} {k : Nat} {rows : List (List T)} : zAX (.v (.slice none 0 0)) (.sl o k rows) ↔ rows = [] := by simp [zAX]
@[go_sem] theorem nle_v {x y : Value} : zAX (.v x) (.v y) ↔ T.v x = T.v y := by
 unfold zAX; split <;> simp_all
@[go_sem] theorem zAeO {o o' : Bool} {k k' : Nat} {rows rows' : List (List T)} : zAX (.sl o k rows) (.sl o' k' rows') ↔ T.sl o k rows = T.sl o' k' rows' := by
 unfold zAX; exact Iff.rfl
@[go_sem] theorem zAeP {o o' : Bool} {q q' : Nat} {row row' : List T} : zAX (.bo o row q) (.bo o' row' q') ↔ T.bo o row q = T.bo o' row' q' := by
 unfold zAX; exact Iff.rfl
@[go_sem] theorem zAeb {l l' : List T} : zAX (.agg l) (.agg l') ↔ zBj l l' := by simp only [zAX]
@[go_sem] theorem zAec {l l' : List T} : zAX (.tup l) (.tup l') ↔ zBj l l' := by simp only [zAX]
@[go_sem] theorem zAbN : zBj [] [] ↔ True := by simp only [zBj]
@[go_sem] theorem zAbm {t u : T} {ts us : List T} : zBj (t :: ts) (u :: us) ↔ zAX t u ∧ zBj ts us := by simp only [zBj]
attribute [go_sem] ne_eq not_true_eq_false
@[go_sem] theorem zAed : zBd [] = [] := rfl
@[go_sem] theorem zAbO {r : List T} {rs : List (List T)} : zBd (r :: rs) = zCs r :: zBd rs := rfl
@[go_sem] theorem zAee {α : Type} {f : α → List T} {l : List α} : zBd (l.map f) = l.map fun x => zCs (f x) := by
 rw [zCJ, List.map_map]; rfl
@[go_sem] theorem zAef {a b : List (List T)} : zBd (a ++ b) = zBd a ++ zBd b := by simp [zCJ]
@[go_sem] theorem zAeg {n : Nat} {r : List T} : zBd (List.replicate n r) = List.replicate n (zCs r) := by simp [zCJ]
@[go_sem] theorem zAeh {rows : List (List T)} {i : Nat} {r : List T} : zBd (rows.set i r) = (zBd rows).set i (zCs r) := by simp [zCJ, List.map_set]
@[go_sem] theorem zAbP {rows : List (List T)} {n : Nat} : zBd (rows.take n) = (zBd rows).take n := by simp [zCJ]
@[go_sem] theorem zAbQ {rows : List (List T)} {n : Nat} : zBd (rows.drop n) = (zBd rows).drop n := by simp [zCJ]
@[go_sem] theorem zAei {rows : List (List T)} : (zBd rows).length = rows.length := zDg rows
attribute [go_sem] T.dsh zCs
@[go_sem] theorem take_len {α β : Type} {f : α → β} {l : List α} : (l.map f).take l.length = l.map f := by rw [← List.length_map (f := f), List.take_length]
@[go_sem] theorem zAbR {α : Type} {n : Nat} {r : α} : (List.replicate n r).take n = List.replicate n r := by simp
@[go_sem] theorem zAbS {α β : Type} {f : α → β} {p : β → Bool} {l : List α} : (l.map f).all p = l.all fun x => p (f x) := by simp [List.all_map, Function.comp_def]
@[go_sem] theorem zAbT {α : Type} {l : List α} : (l.all fun _ => true) = true := by simp
@[go_sem] theorem zAa3 {α : Type} {f : α → List T} {l : List α} : (l.map f).map (fun r => r.map T.sh) = l.map fun x => (f x).map T.sh := by simp [List.map_map, Function.comp_def]
attribute [go_sem] canon zKZ zO6 zO7 zLJ zDQ zKY zO4 zO5 St.nilS St.ren zJV zJW zG8 T.ren zCX St.fin zHs zHU zVN zYk zYj zH0 zR3 St.fin0 zJT
@[go_sem] theorem zAbn {d d' : Nat} : zBe d d' [] = [] := rfl
@[go_sem] theorem zAa4 {d d' : Nat} {r : List T} {rs : List (List T)} : zBe d d' (r :: rs) = zCX d d' r :: zBe d d' rs := rfl
@[go_sem] theorem zAbU {d d' : Nat} {rows : List (List T)} (h : zAt rows) : zBe d d' rows = rows := zO2 d d' h
def nth {α : Type} [Inhabited α] (l : List α) (i : Nat) : α := l.getD i default
theorem zAM {α : Type} [Inhabited α] {l : List α} {i : Nat} (h : i < l.length) : nth l i = l[i] := by simp [nth, List.getD, h]
theorem zAc {α : Type} [Inhabited α] {l : List α} {i : Nat} (h : i < l.length) : nth l i ∈ l := by rw [zAM h]; exact List.getElem_mem h
theorem zIr {α : Type} [Inhabited α] {x : α} {l : List α} : nth (x :: l) 0 = x := rfl
theorem zIs {α : Type} [Inhabited α] {x : α} {l : List α} {i : Nat} : nth (x :: l) (i + 1) = nth l i := rfl
theorem zH4 {α : Type} [Inhabited α] {l : List α} {i : Nat} (h : i < l.length) : l.drop i = nth l i :: l.drop (i + 1) := by rw [zAM h, List.drop_eq_getElem_cons h]
theorem zAp {α : Type} [Inhabited α] {l : List α} {i : Nat} (h : i < l.length) : l.take (i + 1) = l.take i ++ [nth l i] := by rw [zAM h, List.take_succ_eq_append_getElem h]
theorem getD_map {α : Type} [Inhabited α] {f : α → List T} {l : List α} {i : Nat} (h : i < l.length) : (l.map f).getD i [] = f (nth l i) := by simp [nth, List.getD, h]
end
abbrev i64 (n : Int) : T := .v (.int .i64 n)
abbrev u8 (n : Int) : T := .v (.int .u8 n)
abbrev bl (b : Bool) : T := .v (.bool b)
abbrev str (s : ByteArray) : T := .v (.string s)
abbrev zAy : T := .v (.slice none 0 0)
abbrev ints (l : List Int) : List (List T) := l.map fun x => [i64 x]
abbrev strs (l : List ByteArray) : List (List T) := l.map fun x => [str x]
@[go_sem] theorem ints_set {l : List Int} {i : Nat} {y : Int} : (ints l).set i [i64 y] = ints (l.set i y) := by simp [ints, List.map_set]
@[go_sem] theorem zAbV {l : List ByteArray} {i : Nat} {y : ByteArray} : (strs l).set i [str y] = strs (l.set i y) := by simp [strs, List.map_set]
attribute [go_sem] Nat.le_refl
def mx : Nat := 9223372036854775807
theorem zAh : maxLen = 9223372036854775807 := by decide
theorem zXq {n : Int} (h0 : -9223372036854775808 ≤ n) (h1 : n ≤ 9223372036854775807) : IntKind.i64.wrap n = n := Go.IntWalk.i64_in _ (by omega)
@[go_sem] theorem zAbo (a b : ByteArray) : zFW a b = decide (a = b) := by
 unfold zFW
 rw [Bool.eq_iff_iff, beq_iff_eq, decide_eq_true_iff]
 exact ⟨fun h => ByteArray.ext (Array.ext' h), fun h => by rw [h]⟩
def zAD (p : Nat → Bool) : Nat → Bool
 | 0 => true
 | n + 1 => zAD p n && p n
theorem zAv {p : Nat → Bool} : ∀ {n : Nat}, zAD p n = true ↔ ∀ i, i < n → p i = true
 | 0 => by simp [zAD]
 | n + 1 => by
  simp only [zAD, Bool.and_eq_true, zAv (n := n)]
  constructor
  ·rintro ⟨h1, h2⟩ i hi
   by_cases e : i = n
   ·rw [e]; exact h2
   ·exact h1 i (by omega)
  ·intro h
   exact ⟨fun i hi => h i (by omega), h n (by omega)⟩
theorem zBh {p : Nat → Bool} {n j : Nat} (h : j < n) (hp : p j = false) : zAD p n = false := by
 cases hb : zAD p n with
 | false => rfl
 | true => rw [zAv.1 hb j h] at hp; cases hp
theorem zAl {p : Nat → Bool} {j : Nat} (h : zAD p j = true) (hp : p j = true) : zAD p (j + 1) = true := by simp [zAD, h, hp]
theorem zBJ {α : Type} [Inhabited α] {p : α → Bool} {l : List α} : zAD (fun i => p (nth l i)) l.length = l.all p := by
 rw [Bool.eq_iff_iff, zAv, List.all_eq_true]
 constructor
 ·intro h x hx
  obtain ⟨i, hi, rfl⟩ := List.getElem_of_mem hx
  rw [← zAM hi]; exact h i hi
 ·intro h i hi
  exact h _ (zAc hi)
theorem zLR {p q : Nat → Bool} {n : Nat} (h : ∀ i, i < n → p i = q i) : zAD p n = zAD q n := by
 rw [Bool.eq_iff_iff, zAv, zAv]
 exact ⟨fun H i hi => by rw [← h i hi]; exact H i hi, fun H i hi => by rw [h i hi]; exact H i hi⟩
def zEQ {α : Type} (f : α → Nat) (l : List α) (j : Nat) : Nat := ((l.take j).map f).sum
def szL {α : Type} (f : α → Nat) (l : List α) : Nat := l.length + (l.map f).sum
def wfL {α : Type} (p : α → Prop) (l : List α) : Prop := l.length ≤ maxLen ∧ ∀ x ∈ l, p x
def zBN {α : Type} (p : α → Prop) (l : List α) : Prop := l.length ≤ maxLen ∧ ∀ x ∈ l, p x
theorem zNu {α : Type} {f : α → Nat} {l : List α} : zEQ f l 0 = 0 := by simp [zEQ]
theorem zJb {α : Type} [Inhabited α] {f : α → Nat} {l : List α} {j : Nat} (h : j < l.length) : zEQ f l (j + 1) = zEQ f l j + f (nth l j) := by
 unfold zEQ
 rw [zAp h, List.map_append, List.sum_append, List.map_cons, List.map_nil, List.sum_cons, List.sum_nil, Nat.add_zero]
theorem zPe {α : Type} {f : α → Nat} {l : List α} {j : Nat} (h : l.length ≤ j) : zEQ f l j = (l.map f).sum := by
 unfold zEQ; rw [List.take_of_length_le h]
theorem zA9 {α : Type} {f : α → Nat} {l : List α} : l.length ≤ szL f l := by unfold szL; omega
theorem zCq {α : Type} {f : α → Nat} {l : List α} {x : α} (h : x ∈ l) : f x ≤ szL f l := by
 have key : ∀ l : List α, x ∈ l → f x ≤ (l.map f).sum := by
  intro l
  induction l with
  | nil => intro h; cases h
  | cons y l ih =>
   intro h
   simp only [List.map_cons, List.sum_cons]
   rcases List.mem_cons.1 h with rfl | h
   ·omega
   ·have := ih h; omega
 have := key l h
 simp only [szL]; omega
theorem zH5 : 2 ^ 62 ≤ maxLen := by rw [zAh]; decide
theorem zVY {α : Type} {l : List α} : szL (fun _ => 0) l = l.length := by
 induction l with
 | nil => rfl
 | cons x l ih => simp only [szL, List.map_cons, List.sum_cons, List.length_cons] at ih ⊢; omega
@[go_sem] theorem zAa5 (j : Nat) : ((j : Int) - 1).toNat = j - 1 := by omega
@[go_sem] theorem zAau (j : Nat) : ((j : Int) + 1).toNat = j + 1 := by omega
@[go_sem] theorem zAej (a b : Int) : (a == b) = decide (a = b) := by rw [Bool.eq_iff_iff]; simp
@[go_sem] theorem zAek (a b : Int) : (a != b) = !decide (a = b) := by rw [Bool.eq_iff_iff]; simp
theorem zAB {caps : List T} (h : caps.all T.cap = true) : caps.all T.bare0 = true := by
 rw [List.all_eq_true] at h ⊢
 intro t ht
 have := h t ht
 unfold T.cap at this
 split at this <;> first | rfl | cases this
theorem zAL : ∀ {caps : List T}, caps.all T.cap = true → zAH caps
 | [], _ => trivial
 | t :: ts, h => by
  simp only [List.all_cons, Bool.and_eq_true] at h
  refine ⟨?_, zAL h.2⟩
  have := h.1
  unfold T.cap at this
  split at this <;> first | exact trivial | (simp [T.packed]; done) | cases this
theorem zAE {caps : List T} (h : caps.all T.cap = true) (d : Nat) : zAJ d caps := zBT d (zAL h)
theorem zAP {caps : List T} (h : caps.all T.cap = true) (B : Nat) : ltL B caps := (zEa B caps).2 fun i _ _ => zAE h i
theorem zAF : ∀ {caps : List T}, caps.all T.cap = true → zH0 caps = []
 | [], _ => rfl
 | t :: ts, h => by
  simp only [List.all_cons, Bool.and_eq_true] at h
  have h1 := h.1
  cases t <;> first | (simp only [zH0]; exact zAF h.2) | (simp [T.cap] at h1)
def vwC : List T → Prop
 | [] => True
 | t :: ts => (t.packed ∧ t.bare = true) ∧ vwC ts
theorem zTW : ∀ {caps : List T}, caps.all T.cap = true → vwC caps
 | [], _ => trivial
 | t :: ts, h => by
  have hb := zAL h
  simp only [List.all_cons, Bool.and_eq_true] at h
  refine ⟨⟨hb.1, ?_⟩, zTW h.2⟩
  have h1 := h.1
  unfold T.cap at h1
  split at h1 <;> first | rfl | cases h1
theorem zLS {s : St} : ∀ {caps : List T}, caps.all T.cap = true → zDZ s caps = some (caps, [], vwC caps)
 | [], _ => rfl
 | t :: ts, h => by
  simp only [List.all_cons, Bool.and_eq_true] at h
  have h1 := h.1
  have ht : zEp s t = some (t, [], t.packed ∧ t.bare = true) := by
   unfold T.cap at h1
   split at h1 <;> first | rfl | cases h1
  simp only [zDZ, ht, zLS h.2, vwC, List.nil_append]
def ixf {α : Type} (p : α → Bool) : List α → Int
 | [] => -1
 | x :: l => if p x then 0 else if ixf p l < 0 then -1 else ixf p l + 1
theorem zPf {α : Type} {p : α → Bool} : ∀ {l : List α}, -1 ≤ ixf p l
 | [] => by simp [ixf]
 | x :: l => by have := zPf (p := p) (l := l); simp only [ixf]; split <;> (try split) <;> omega
theorem zJY {α : Type} {p : α → Bool} : ∀ {l : List α}, decide (0 ≤ ixf p l) = l.any p
 | [] => by simp [ixf]
 | x :: l => by
  have h := zJY (p := p) (l := l)
  have := zPf (p := p) (l := l)
  rw [Bool.eq_iff_iff, decide_eq_true_iff] at h ⊢
  simp only [ixf, List.any_cons, Bool.or_eq_true]
  by_cases hx : p x = true
  ·simp [hx]
  ·rw [if_neg hx, ← h]
   by_cases e : ixf p l < 0
   ·rw [if_pos e]; constructor
    ·intro h; omega
    ·rintro (h | h)
     ·exact absurd h hx
     ·omega
   ·rw [if_neg e]; constructor
    ·intro h; exact .inr (by omega)
    ·intro _; omega
theorem zLT {α : Type} [Inhabited α] {p : α → Bool} : ∀ {l : List α} {j : Nat}, j < l.length → zAD (fun i => !p (nth l i)) j = true → p (nth l j) = true → ixf p l = j
 | [], j, h, _, _ => by simp at h
 | x :: l, 0, _, _, hp => by simp only [zIr] at hp; simp [ixf, hp]
 | x :: l, j + 1, h, ha, hp => by
  have h0 : p x = false := by simpa [zIr] using zAv.1 ha 0 (by omega)
  have ih := zLT (l := l) (j := j) (by simpa using h) (zAv.2 fun i hi => by simpa [zIs] using zAv.1 ha (i + 1) (by omega)) (by simpa [zIs] using hp)
  simp only [ixf, h0, ih]
  rw [if_neg (by simp), if_neg (by omega)]
  omega
theorem zK4 {α : Type} [Inhabited α] {p : α → Bool} {l : List α} (h : zAD (fun i => !p (nth l i)) l.length = true) : ixf p l = -1 := by
 have h1 : l.any p = false := by
  rw [List.any_eq_false]
  intro x hx
  obtain ⟨i, hi, rfl⟩ := List.getElem_of_mem hx
  have := zAv.1 h i hi
  rw [zAM hi] at this
  simpa using this
 rw [← zJY, decide_eq_false_iff_not] at h1
 have := zPf (p := p) (l := l)
 omega
def cpy {α : Type} (f : α → List T) (z : List T) (l : List α) (j : Nat) : List (List T) := (l.take j).map f ++ List.replicate (l.length - j) z
theorem zA5 {α : Type} {f : α → List T} {z : List T} {l : List α} {j : Nat} (hj : j ≤ l.length) : (cpy f z l j).length = l.length := by simp [cpy]; omega
theorem zDk {α : Type} (f : α → List T) (z : List T) (l : List α) : List.replicate l.length z = cpy f z l 0 := by simp [cpy]
theorem zEb {α : Type} {f : α → List T} {z : List T} {l : List α} {j : Nat} (h : l.length ≤ j) : cpy f z l j = l.map f := by simp [cpy, List.take_of_length_le h, Nat.sub_eq_zero_of_le h]
theorem zDl {α : Type} [Inhabited α] {f : α → List T} {z : List T} {l : List α} {j : Nat} (hj : j < l.length) : (cpy f z l j).set j (f (nth l j)) = cpy f z l (j + 1) := by
 unfold cpy
 rw [List.set_append_right _ _ (by simp; omega)]
 have e1 : j - ((l.take j).map f).length = 0 := by simp; omega
 have e2 : l.length - j = (l.length - (j + 1)) + 1 := by omega
 rw [e1, e2, List.replicate_succ, List.set_cons_zero, zAp hj, List.map_append, List.map_cons, List.map_nil, List.append_assoc, List.singleton_append]
theorem zBk {α : Type} {f : α → List T} {z : List T} {l : List α} {j : Nat} (hj : j < l.length) : (cpy f z l j).getD j [] = z := by
 unfold cpy
 rw [List.getD, List.getElem?_append_right (by simp; omega), List.getElem?_replicate, if_pos (by simp; omega)]
 rfl
theorem zXr {α : Type} {f : α → List T} {z : List T} {l : List α} {j d : Nat} : zAx d (cpy f z l j) ↔ (∀ x ∈ l.take j, zAJ d (f x)) ∧ (l.length - j = 0 ∨ zAJ d z) := by
 unfold cpy; rw [zJa, zGR, zNp]
theorem zYx {α : Type} {f : α → List T} {z : List T} {l : List α} {j : Nat} : zAt (cpy f z l j) ↔ (∀ x ∈ l.take j, zAH (f x)) ∧ (l.length - j = 0 ∨ zAH z) := by
 unfold cpy; rw [zTO, zTP, zTQ]
theorem zYy {α : Type} {f : α → List T} {z : List T} {l : List α} {j d : Nat} : zCY d (cpy f z l j) ↔ (∀ x ∈ l.take j, ltL d (f x)) ∧ (l.length - j = 0 ∨ ltL d z) := by
 unfold cpy; rw [zTR, zTS, zTT]
theorem zXs {α : Type} {f : α → List T} {z : List T} {l : List α} {j d d' : Nat} : zBe d d' (cpy f z l j) = cpy (fun x => zCX d d' (f x)) (zCX d d' z) l j := by
 unfold cpy; rw [zNr, zNs, zNt]
attribute [go_sem] zXr zYx zYy zXs List.set_set
theorem zXt {α : Type} {l : List α} {i : Nat} {x : α} : (l.set i x).length = l.length := List.length_set
attribute [go_sem] zXt
theorem zXu {α : Type} {f : α → List T} {l : List α} {i : Nat} {r : List T} (h : i < l.length) : ((l.map f).set i r).getD i [] = r := by simp [List.getD, h]
theorem zXv {α : Type} {f : α → List T} {z : List T} {l : List α} {j : Nat} {r : List T} (h : j < l.length) : ((cpy f z l j).set j r).getD j [] = r := by
 have := zA5 (f := f) (z := z) (l := l) (j := j) (by omega)
 simp [List.getD, this, h]
theorem zXw {α : Type} {f : α → List T} {l : List α} {r : List T} : (l.map f ++ [r]).getD l.length [] = r := by simp [List.getD]
theorem zYz {α : Type} {f : α → List T} {l : List α} {r r' : List T} : (l.map f ++ [r]).set l.length r' = l.map f ++ [r'] := by
 rw [List.set_append_right _ _ (by simp)]; simp
theorem zVZ {α β : Type} {f : α → β} {l : List α} {n : Nat} : (l.map f).take n = (l.take n).map f := by rw [List.map_take]
theorem zV0 {α β : Type} {f : α → β} {l : List α} {n : Nat} : (l.map f).drop n = (l.drop n).map f := by rw [List.map_drop]
attribute [go_sem] zXw zYz Nat.add_sub_cancel Nat.sub_zero zVZ zV0
theorem zQW {α : Type} [Inhabited α] [DecidableEq α] {l m : List α} {j : Nat} (h1 : j < l.length) (h2 : j < m.length) : decide (l.drop j = m.drop j) = (decide (nth l j = nth m j) && decide (l.drop (j + 1) = m.drop (j + 1))) := by
 rw [Bool.eq_iff_iff, zH4 h1, zH4 h2, decide_eq_true_iff, Bool.and_eq_true, decide_eq_true_iff, decide_eq_true_iff, List.cons.injEq]
def byt (s : ByteArray) (i : Nat) : Int := ((s.data.toList.getD i 0).toNat : Nat)
@[go_sem] theorem zAeQ (s : ByteArray) (i : Nat) : (((s.data.toList.getD i 0).toNat : Nat) : Int) = byt s i := rfl
theorem zNv : ∀ a : List UInt8, Op.bytesLess a a = false
 | [] => rfl
 | x :: a => by simp [Op.bytesLess, zNv a]
theorem zF3 {x y : UInt8} {a b : List UInt8} : Op.bytesLess (x :: a) (y :: b) = true ↔ x < y ∨ x = y ∧ Op.bytesLess a b = true := by
 simp [Op.bytesLess]
theorem zKm : ∀ {a b c : List UInt8}, Op.bytesLess a b = true → Op.bytesLess b c = true → Op.bytesLess a c = true
 | _, [], _, h, _ => by simp [Op.bytesLess] at h
 | _, _ :: _, [], _, h => by simp [Op.bytesLess] at h
 | [], _ :: _, _ :: _, _, _ => rfl
 | x :: a, y :: b, z :: c, h1, h2 => by
  rw [zF3] at h1 h2 ⊢
  rcases h1 with h1 | ⟨rfl, h1⟩
  ·rcases h2 with h2 | ⟨rfl, h2⟩
   ·exact .inl (UInt8.lt_trans h1 h2)
   ·exact .inl h1
  ·rcases h2 with h2 | ⟨rfl, h2⟩
   ·exact .inl h2
   ·exact .inr ⟨rfl, zKm h1 h2⟩
theorem zKn : ∀ a b : List UInt8, Op.bytesLess a b = true ∨ a = b ∨ Op.bytesLess b a = true
 | [], [] => .inr (.inl rfl)
 | [], _ :: _ => .inl rfl
 | _ :: _, [] => .inr (.inr rfl)
 | x :: a, y :: b => by
  rw [zF3, zF3]
  rcases UInt8.lt_or_lt_of_ne (a := x) (b := y) |>.comp (fun (h : ¬ x = y) => h) |> fun f => (Classical.em (x = y)).imp_right f with h | h | h
  ·subst h
   rcases zKn a b with h | h | h
   ·exact .inl (.inr ⟨rfl, h⟩)
   ·subst h; exact .inr (.inl rfl)
   ·exact .inr (.inr (.inr ⟨rfl, h⟩))
  ·exact .inl (.inl h)
  ·exact .inr (.inr (.inl h))
theorem zBM (a : ByteArray) : zAg a a = false := zNv _
theorem zBI {a b c : ByteArray} (h1 : zAg a b = true) (h2 : zAg b c = true) : zAg a c = true := zKm h1 h2
theorem zBZ (a b : ByteArray) : zAg a b = true ∨ a = b ∨ zAg b a = true := by
 rcases zKn a.data.toList b.data.toList with h | h | h
 ·exact .inl h
 ·exact .inr (.inl (ByteArray.ext (Array.ext' h)))
 ·exact .inr (.inr h)
theorem zDR {a b : ByteArray} (h : zAg a b = true) : zAg b a = false := by
 cases hb : zAg b a with
 | false => rfl
 | true => have := zBI h hb; rw [zBM] at this; cases this
theorem zH6 {a b : ByteArray} (h : zAg a b = true) : a ≠ b := by
 rintro rfl; rw [zBM] at h; cases h
theorem zTX (a b : ByteArray) : (!zAg a b) = (zAg b a || decide (a = b)) := by
 rcases zBZ a b with h | h | h
 ·rw [h, zDR h, decide_eq_false (zH6 h)]; rfl
 ·subst h; simp [zBM]
 ·rw [h, zDR h]; rfl
@[go_sem] theorem zAbW (a b : ByteArray) : (zAg a b || decide (a = b)) = !zAg b a := by
 rw [zTX b a]
 congr 1
 rw [Bool.eq_iff_iff]; simp [eq_comm]
attribute [go_sem] Bool.not_not zEi
@[go_sem] theorem zAa6 : zC3 [] ↔ True := by simp [zC3]
@[go_sem] theorem zAav {r : List T} {rs : List (List T)} : zC3 (r :: rs) ↔ zEi r ∧ zC3 rs := by simp [zC3]
@[go_sem] theorem zSg {α : Type} {f : α → List T} : ∀ {l : List α}, zC3 (l.map f) ↔ ∀ x ∈ l, zEi (f x)
 | [] => by simp [zC3]
 | x :: l => by simp [zC3, zSg (l := l)]
def zCl (p : Nat → Bool) : Nat → Nat
 | 0 => 0
 | n + 1 => zCl p n + (if p n then 1 else 0)
theorem zHw {p : Nat → Bool} : ∀ {n : Nat}, zCl p n ≤ n
 | 0 => Nat.le_refl _
 | n + 1 => by have := zHw (p := p) (n := n); simp only [zCl]; split <;> omega
theorem zGs {p : Nat → Bool} : ∀ {n : Nat}, zAD p n = true → zCl p n = n
 | 0, _ => rfl
 | n + 1, h => by
  simp only [zAD, Bool.and_eq_true] at h
  simp only [zCl, zGs h.1, h.2, if_true]
theorem zFB {p : Nat → Bool} {n : Nat} : ∀ {m : Nat}, n ≤ m → (∀ i, n ≤ i → i < m → p i = false) → zCl p m = zCl p n
 | 0, h, _ => by rw [show n = 0 by omega]
 | m + 1, h, hp => by
  by_cases e : n = m + 1
  ·rw [e]
  ·simp only [zCl]
   rw [zFB (m := m) (by omega) (fun i h1 h2 => hp i h1 (by omega)), hp m (by omega) (by omega)]
   rfl
theorem zAa7 {n : Int} (h0 : 0 ≤ n) (h1 : n ≤ 18446744073709551615) : IntKind.u64.wrap n = n := by
 simp only [IntKind.wrap, IntKind.bits, IntKind.signed]
 simp
 omega
theorem shr1 : ((2 : Int) ^ (min 1 64)) = 2 := by decide
def bsI {α : Type} [Inhabited α] (c : α → Int) (l : List α) : Nat := zCl (fun i => decide (c (nth l i) < 0)) l.length
def bsF {α : Type} [Inhabited α] (c : α → Int) (l : List α) : Bool := decide (bsI c l < l.length) && decide (c (nth l (bsI c l)) = 0)
theorem zYA {α : Type} [Inhabited α] {c : α → Int} {l : List α} {n : Nat} (hn : n ≤ l.length) (h1 : ∀ i, i < n → c (nth l i) < 0) (h2 : ∀ i, n ≤ i → i < l.length → 0 ≤ c (nth l i)) : bsI c l = n := by
 unfold bsI
 rw [zFB hn (fun i a b => by have := h2 i a b; simp; omega), zGs (zAv.2 fun i hi => by simp [h1 i hi])]
def mkL {α : Type} (f : α → Int → α × Int) : List α → Int → List α × Int
 | [], k => ([], k)
 | x :: l, k => ((f x k).1 :: (mkL f l (f x k).2).1, (mkL f l (f x k).2).2)
def mkP {α : Type} (f : α → Int → α × Int) (l : List α) (k : Int) (j : Nat) : List α := (mkL f (l.take j) k).1 ++ l.drop j
def mkN {α : Type} (f : α → Int → α × Int) (l : List α) (k : Int) (j : Nat) : Int := (mkL f (l.take j) k).2
def zAZ {α : Type} (c : α → Nat) (l : List α) : Nat := (l.map c).sum
section
variable {α : Type} {f : α → Int → α × Int}
@[go_sem] theorem zAs : ∀ {l : List α} {k : Int}, (mkL f l k).1.length = l.length
 | [], _ => rfl
 | x :: l, k => by simp [mkL, zAs (l := l)]
@[go_sem] theorem zCv {l : List α} {k : Int} : (mkL f l k).1.take l.length = (mkL f l k).1 := List.take_of_length_le (by rw [zAs]; exact Nat.le_refl _)
theorem zK5 : ∀ {l : List α} {x : α} {k : Int}, mkL f (l ++ [x]) k = ((mkL f l k).1 ++ [(f x (mkL f l k).2).1], (f x (mkL f l k).2).2)
 | [], x, k => by simp [mkL]
 | y :: l, x, k => by simp [mkL, zK5 (l := l)]
theorem zCc {l : List α} {k : Int} : mkP f l k 0 = l := by simp [mkP, mkL]
theorem zCd {l : List α} {k : Int} : mkN f l k 0 = k := by simp [mkN, mkL]
theorem zER {l : List α} {k : Int} {j : Nat} (h : l.length ≤ j) : mkP f l k j = (mkL f l k).1 := by simp [mkP, List.take_of_length_le h, List.drop_eq_nil_of_le h]
theorem zCB {l : List α} {k : Int} {j : Nat} (h : l.length ≤ j) : mkN f l k j = (mkL f l k).2 := by simp [mkN, List.take_of_length_le h]
theorem zES {l : List α} {k : Int} {j : Nat} (h : j ≤ l.length) : (mkP f l k j).length = l.length := by simp [mkP, zAs]; omega
theorem zGc [Inhabited α] {l : List α} {k : Int} {j : Nat} (h : j < l.length) : nth (mkP f l k j) j = nth l j := by
 have h1 : (mkL f (l.take j) k).1.length = j := by rw [zAs, List.length_take]; omega
 unfold mkP nth
 rw [List.getD, List.getElem?_append_right (by omega), h1, Nat.sub_self, zH4 h]
 simp [nth]
theorem zCe [Inhabited α] {l : List α} {k : Int} {j : Nat} (h : j < l.length) : mkN f l k (j + 1) = (f (nth l j) (mkN f l k j)).2 := by
 unfold mkN; rw [zAp h, zK5]
theorem zET [Inhabited α] {l : List α} {k : Int} {j : Nat} (h : j < l.length) : (mkP f l k j).set j (f (nth l j) (mkN f l k j)).1 = mkP f l k (j + 1) := by
 have h1 : (mkL f (l.take j) k).1.length = j := by rw [zAs, List.length_take]; omega
 unfold mkP mkN
 rw [List.set_append_right _ _ (by omega), h1, Nat.sub_self, zH4 h, List.set_cons_zero, zAp h, zK5]
 simp
theorem zGd [Inhabited α] {l : List α} {k : Int} {j : Nat} (h : j < l.length) : nth (mkL f l k).1 j = (f (nth l j) (mkN f l k j)).1 := by
 have h1 : (mkL f (l.take j) k).1.length = j := by rw [zAs, List.length_take]; omega
 have h2 : (mkL f l k).1 = mkP f l k l.length := (zER (Nat.le_refl _)).symm
 have h3 : ∀ n, j < n → n ≤ l.length → nth (mkP f l k n) j = (f (nth l j) (mkN f l k j)).1 := by
  intro n
  induction n with
  | zero => intro h; omega
  | succ n ih =>
   intro a b
   have hl := zES (f := f) (k := k) (show n ≤ l.length by omega)
   rw [← zET (by omega)]
   by_cases e : j = n
   ·subst e
    rw [zAM (by simp; omega)]; simp
   ·have := ih (by omega) (by omega)
    rw [zAM (by omega)] at this
    rw [zAM (by simp; omega), List.getElem_set_ne (by omega)]; exact this
 rw [h2]
 exact h3 _ h (Nat.le_refl _)
theorem zAw {c : α → Nat} (hc : ∀ x k, (f x k).2 = k + c x) : ∀ {l : List α} {k : Int}, (mkL f l k).2 = k + (zAZ c l : Nat)
 | [], k => by simp [mkL, zAZ]
 | x :: l, k => by
  have := zAw hc (l := l) (k := (f x k).2)
  show (mkL f l (f x k).2).2 = _
  rw [this, hc]
  simp only [zAZ, List.map_cons, List.sum_cons]
  omega
theorem zC7 {c : α → Nat} (hc : ∀ x k, (f x k).2 = k + c x) {l : List α} {k : Int} {j : Nat} : mkN f l k j = k + (zEQ c l j : Nat) := by
 unfold mkN; rw [zAw hc]; rfl
theorem zCf [Inhabited α] {c : α → Nat} {l : List α} {j : Nat} (h : j < l.length) : zEQ c l j + c (nth l j) ≤ zAZ c l := by
 have h1 := zJb (f := c) h
 have h2 : zEQ c l (j + 1) ≤ zAZ c l := by
  have e : (l.map c).sum = ((l.take (j + 1)).map c).sum + ((l.drop (j + 1)).map c).sum := by
   conv => lhs; rw [← List.take_append_drop (j + 1) l]
   rw [List.map_append, List.sum_append]
  unfold zEQ zAZ
  omega
 omega
end
theorem zBV {α : Type} {c : α → Nat} (h : ∀ x, 1 ≤ c x) : ∀ {l : List α}, l.length ≤ zAZ c l
 | [] => by simp
 | x :: l => by
  have h1 := zBV h (l := l)
  have h2 := h x
  unfold zAZ at h1 ⊢
  simp only [List.map_cons, List.sum_cons, List.length_cons]
  omega
theorem zCr {α : Type} {c s : α → Nat} {A : Nat} (h : ∀ x, c x ≤ A * (s x + 1)) : ∀ {l : List α}, zAZ c l ≤ A * szL s l
 | [] => by simp [zAZ]
 | x :: l => by
  have h1 := zCr h (l := l)
  have h2 := h x
  unfold zAZ szL at h1 ⊢
  simp only [List.map_cons, List.sum_cons, List.length_cons]
  have e : A * (l.length + 1 + (s x + (l.map s).sum)) = A * (s x + 1) + A * (l.length + (l.map s).sum) := by rw [← Nat.mul_add]; congr 1; omega
  omega
theorem zPg {α : Type} {c : α → Nat} {A : Nat} (h : ∀ x, c x ≤ A) {l : List α} : zAZ c l ≤ A * l.length := by
 have := zCr (s := fun _ => 0) (A := A) (c := c) (fun x => by simpa using h x) (l := l)
 rwa [zVY] at this
def cp2 {α : Type} (f g : α → List T) (l : List α) (j : Nat) : List (List T) := (l.take j).map f ++ (l.drop j).map g
section
variable {α : Type} [Inhabited α] {f g : α → List T} {l : List α} {j : Nat}
theorem zV1 : cp2 f g l 0 = l.map g := by simp [cp2]
theorem zXx (h : j = l.length) : cp2 f g l j = l.map f := by subst h; simp [cp2]
theorem zQX : (cp2 f g l j).length = l.length := by simp [cp2]; omega
theorem zXy (h : j < l.length) : (cp2 f g l j).getD j [] = g (nth l j) := by
 simp [cp2, List.getD_eq_getElem?_getD, List.getElem?_append, Nat.min_eq_left (Nat.le_of_lt h), nth, List.getD, List.getElem?_eq_getElem h]
theorem zYB {k : Nat} (h : j < l.length) {r : List T} : ((cp2 f g l k).set j r).getD j [] = r := by
 have : j < (cp2 f g l k).length := by rw [zQX]; exact h
 simp [List.getD_eq_getElem?_getD, this]
theorem zXz (h : j < l.length) {r : List T} (hr : r = f (nth l j)) : (cp2 f g l j).set j r = cp2 f g l (j + 1) := by
 subst hr
 have e : l.drop j = nth l j :: l.drop (j + 1) := by rw [zAM h]; exact List.drop_eq_getElem_cons h
 have e2 : l.take (j + 1) = l.take j ++ [nth l j] := zAp h
 simp only [cp2, e, e2, List.map_append, List.map_cons, List.map_nil, List.append_assoc, List.singleton_append]
 rw [List.set_append_right _ _ (by simp; omega)]
 simp [Nat.min_eq_left (Nat.le_of_lt h)]
theorem zXA {id : Nat} (hf : ∀ x, zAJ id (f x)) (hg : ∀ x, zAJ id (g x)) : zAx id (cp2 f g l j) := by
 rw [cp2, zJa, zGR, zGR]
 exact ⟨fun x _ => hf x, fun x _ => hg x⟩
end
theorem zEt {α : Type} {f : α → List T} {l : List α} {k : Nat} {r : List T} (h : k < l.length) : ((l.map f).set k r).getD k [] = r := by
 simp [List.getD_eq_getElem?_getD, h]
attribute [go_sem] Nat.reduceEqDiff Nat.reduceAdd Nat.reduceSub Nat.reduceMul Nat.reduceLT Nat.reduceLeDiff Int.reduceToNat reduceCtorEq
attribute [go_sem] zXq getD_map zXu zXv zA5
attribute [go_sem ↓] reduceIte
theorem zAj {d : Nat} {rows : List (List T)} {i : Nat} {r : List T} (h1 : zAx d rows) (h2 : zAJ d r) : zAx d (rows.set i r) := (zNq h1 h2).2 trivial
theorem zAC {rows : List (List T)} {i : Nat} {r : List T} (h1 : zAt rows) (h2 : zAH r) : zAt (rows.set i r) := (zTV h1 h2).2 trivial
theorem nf : (∀ (p : Prop) [Decidable p], (decide p = true) = p) ∧ (∀ (p : Prop) [Decidable p], (decide p = false) = ¬p) ∧ (∀ a b : Int, (¬a < b) = (b ≤ a)) ∧ (∀ a b : Int, (¬a ≤ b) = (b < a)) ∧ (∀ a b : Int, (a ≥ b) = (b ≤ a)) ∧ (∀ a b : Int, (a > b) = (b < a)) ∧ (∀ a b : Nat, (a ≥ b) = (b ≤ a)) ∧ (∀ a b : Nat, (a > b) = (b < a)) ∧ (∀ b : Bool, ((!b) = true) = (b = false)) ∧ (∀ b : Bool, ((!b) = false) = (b = true)) ∧ (∀ m n : Nat, ((m : Int) < n) = (m < n)) ∧ (∀ m n : Nat, ((m : Int) ≤ n) = (m ≤ n)) ∧ (∀ (α : Type) [BEq α] [LawfulBEq α] (a b : α), ((a == b) = true) = (a = b)) ∧ (∀ (α : Type) [BEq α] [LawfulBEq α] (a b : α), ((a != b) = true) = (a ≠ b)) ∧ (∀ (α : Type) [BEq α] [LawfulBEq α] (a b : α), ((a == b) = false) = (a ≠ b)) ∧ (∀ (α : Type) [BEq α] [LawfulBEq α] (a b : α), ((a != b) = false) = (a = b)) := by
 refine ⟨fun p _ => ?_, fun p _ => ?_, fun a b => ?_, fun a b => ?_, fun a b => ?_, fun a b => ?_, fun a b => ?_, fun a b => ?_, fun b => ?_, fun b => ?_, fun m n => ?_, fun m n => ?_, fun α _ _ a b => ?_, fun α _ _ a b => ?_, fun α _ _ a b => ?_, fun α _ _ a b => ?_⟩ <;> simp
namespace K
def t (n : Nat) : Operand := .tmp n
def k (n : Int) : Operand := .const (.int .i64 n)
def ff : Operand := .const (.bool false)
def tt : Operand := .const (.bool true)
def o (d : Nat) (i : I) : IN := ⟨some d, none, i⟩
def g (d c : Nat) (b : Bool) (i : I) : IN := ⟨some d, some (c, b), i⟩
def u (i : I) : IN := ⟨none, none, i⟩
def m (d a : Nat) : IN := ⟨some d, none, .mv (.tmp a)⟩
def mg (d c : Nat) (b : Bool) (a : Nat) : IN := ⟨some d, some (c, b), .mv (.tmp a)⟩
@[go_sem] theorem t_eq (n : Nat) : t n = .tmp n := rfl
@[go_sem] theorem k_eq (n : Int) : k n = .const (.int .i64 n) := rfl
@[go_sem] theorem ff_eq : ff = .const (.bool false) := rfl
@[go_sem] theorem tt_eq : tt = .const (.bool true) := rfl
@[go_sem] theorem o_eq (d : Nat) (i : I) : o d i = ⟨some d, none, i⟩ := rfl
@[go_sem] theorem g_eq (d c : Nat) (b : Bool) (i : I) : g d c b i = ⟨some d, some (c, b), i⟩ := rfl
@[go_sem] theorem u_eq (i : I) : u i = ⟨none, none, i⟩ := rfl
@[go_sem] theorem m_eq (d a : Nat) : m d a = ⟨some d, none, .mv (.tmp a)⟩ := rfl
@[go_sem] theorem mg_eq (d c : Nat) (b : Bool) (a : Nat) : mg d c b a = ⟨some d, some (c, b), .mv (.tmp a)⟩ := rfl
abbrev hF (P : Program) (n : Nat) : Option Stmt := (P.funcs[n]?).bind (fun fn => fn.body.bind (comp P fn.ntmps))
abbrev rF (P : Program) (n : Nat) : Option (List ResultVar × Nat) := (P.funcs[n]?).map (fun fn => (fn.results.toList, fn.ntmps))
end K
end Go.Am

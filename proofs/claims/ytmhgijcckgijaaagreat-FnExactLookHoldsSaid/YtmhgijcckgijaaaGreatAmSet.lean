import Derived.Test.YtmhgijcckgijaaaGreatAmAuto
import Derived.IntWalk
set_option linter.unusedSimpArgs false
set_option linter.unusedVariables false
set_option linter.unusedSectionVars false
namespace Go.Am
open Go Go.RowKit
section
variable {P : Program} {E : Env} {s : St} {d : Nat} {K : St → Prop} {Q : Exit → St → Prop}
@[go_sem] theorem zAdM : wsO P E [] K s = K s := rfl
@[go_sem] theorem zAaF {d : Option Nat} {i : I} {r : List IN} : wsO P E (⟨d, none, i⟩ :: r) K s = zDS P E d none i (wsO P E r K) s (zAg s i) := rfl
@[go_sem] theorem zAaG {d : Option Nat} {i : I} {r : List IN} {t : Nat} {b : Bool} : wsO P E (⟨d, some (t, b), i⟩ :: r) K s = grd (lk t s.slots) b (ws1 P E d (some (t, b)) i (wsO P E r K)) (skO (wsO P E r) d K) s := rfl
@[go_sem] theorem s_1 {d : Option Nat} {g : Option (Nat × Bool)} {i : I} : ws1 P E d g i K s = zDS P E d g i K s (zAg s i) := rfl
@[go_sem] theorem zZ6 {d : Option Nat} {g : Option (Nat × Bool)} {i : I} {p : Prop} {t : T} : zDS P E d g i K s (some (p, t)) = (p ∧ K (s.put d t)) := rfl
@[go_sem] theorem zZ7 {d : Option Nat} {g : Option (Nat × Bool)} {i : I} : zDS P E d g i K s none = zOg P E d g i K s (zCg E s d i) := rfl
@[go_sem] theorem zZz {d : Option Nat} {g : Option (Nat × Bool)} {i : I} {p : Prop} {s' : St} : zOg P E d g i K s (some (p, s')) = (p ∧ K s') := rfl
@[go_sem] theorem zZA {d : Option Nat} {g : Option (Nat × Bool)} {i : I} : zOg P E d g i K s none = zAt P E ⟨d, g, i⟩ K s := rfl
@[go_sem] theorem zAem : wsS P E .skip Q s = Q .normal s := rfl
@[go_sem] theorem s_ops {l : List IN} : wsS P E (.ops l) Q s = wsO P E l (Q .normal) s := rfl
@[go_sem] theorem zAen {l : List IN} : wsS P E (.dops l) Q s = wpQ P l (Q .normal) s := rfl
@[go_sem] theorem zAeo {Q : Bool → Prop} {neg own : Bool} {k : Nat} {rows : List (List T)} : zNK Q neg (some (.sl own k rows)) = ∀ b : Bool, (b = !neg → rows = []) → Q b := rfl
@[go_sem] theorem zAep {Q : Bool → Prop} {neg : Bool} {id lo n : Nat} : zNK Q neg (some (.ref id lo n)) = ∀ b : Bool, (b = !neg → n = 0) → Q b := rfl
@[go_sem] theorem zAeq {Q : Bool → Prop} {neg : Bool} : zNK Q neg (some (.v (.slice none 0 0))) = Q (!neg) := rfl
attribute [go_sem] zCo
@[go_sem] theorem zAer {l : List (Option (List IN) × IN)} : wsS P E (.rops l) Q s = wsR P E l (Q .normal) s := rfl
@[go_sem] theorem zAdN : wsR P E [] K s = K s := rfl
@[go_sem] theorem zAaH {b : Option (List IN)} {d : Option Nat} {i : I} {r : List (Option (List IN) × IN)} : wsR P E ((b, ⟨d, none, i⟩) :: r) K s = zIp P E b d none i (wsR P E r K) s := rfl
@[go_sem] theorem zAaI {b : Option (List IN)} {d : Option Nat} {i : I} {r : List (Option (List IN) × IN)} {t : Nat} {g : Bool} : wsR P E ((b, ⟨d, some (t, g), i⟩) :: r) K s = grd (lk t s.slots) g (zUq P E b d (some (t, g)) i (wsR P E r K)) (skR b (wsR P E r) d K) s := rfl
@[go_sem] theorem s_R1 {b : Option (List IN)} {d : Option Nat} {g : Option (Nat × Bool)} {i : I} : zUq P E b d g i K s = zIp P E b d g i K s := rfl
@[go_sem] theorem zAaJ {d : Option Nat} {g : Option (Nat × Bool)} {i : I} : zIp P E none d g i K s = zJY d K s (zAg s i) := rfl
@[go_sem] theorem zAaK {l : List IN} {d : Option Nat} {g : Option (Nat × Bool)} {i : I} : zIp P E (some l) d g i K s = zDS P E d g i (rrK l K) s (zAg s i) := rfl
@[go_sem] theorem zAes {d : Option Nat} {p : Prop} {t : T} : zJY d K s (some (p, t)) = (p ∧ K (s.put d t)) := rfl
@[go_sem] theorem zAdO {f : (St → Prop) → St → Prop} {d : Option Nat} : skR none f d K s = f K (s.put d (.tup [])) := rfl
@[go_sem] theorem zAdP {l : List IN} {f : (St → Prop) → St → Prop} {d : Option Nat} : skR (some l) f d K s = rrK l (f K) (s.put d (.tup [])) := rfl
@[go_sem] theorem s_rrK {l : List IN} : rrK l K s = (rrL l s ∧ K s) := rfl
@[go_sem] theorem zAet : rrL [] s = True := rfl
@[go_sem] theorem zAeu {d : Option Nat} {i : I} {l : List IN} : rrL (⟨d, none, i⟩ :: l) s = (rr1 d s (zAg s i) ∧ rrL l s) := rfl
@[go_sem] theorem zAev {d : Option Nat} {i : I} {t : Nat} {g : Bool} {l : List IN} : rrL (⟨d, some (t, g), i⟩ :: l) s = (grd (lk t s.slots) g (rrG d i) (same d (.tup [])) s ∧ rrL l s) := rfl
@[go_sem] theorem s_rrG {d : Option Nat} {i : I} : rrG d i s = rr1 d s (zAg s i) := rfl
@[go_sem] theorem s_rr1 {d : Option Nat} {p : Prop} {t : T} : rr1 d s (some (p, t)) = (p ∧ same d t s) := rfl
@[go_sem] theorem zAdQ {t : T} : same none t s = True := rfl
@[go_sem] theorem zAdR {n : Nat} {t : T} : same (some n) t s = (lk n s.slots = some t) := rfl
@[go_sem] theorem s_seq {a b : AS} : wsS P E (.seq a b) Q s = wsS P E a (zJK (wsS P E b) Q) s := rfl
@[go_sem] theorem s_cond {x : Operand} {a b : AS} : wsS P E (.cond x a b) Q s = grc (s.eval x) (wsS P E a Q) (wsS P E b Q) s := rfl
@[go_sem] theorem zAew {na : Nat} {L : List (Nat × Nat)} {b : AS} : wsS P E (.loop na L b) Q s = zUp P E na L b Q (canon E na L s) := rfl
@[go_sem] theorem zAdS {id : Nat} {b : AS} : wsS P E (.block id b) Q s = wsS P E b (zDO id Q) s := rfl
@[go_sem] theorem s_exit {id : Nat} : wsS P E (.exit id) Q s = Q (.exit id) s := rfl
@[go_sem] theorem s_ret : wsS P E .ret Q s = Q .ret s := rfl
@[go_sem] theorem zAex {L : List Nat} {b : AS} : wsS P E (.kept L b) Q s = wsS P E b Q (s.fin0 L) := rfl
@[go_sem] theorem zAey {L : List (Nat × Nat)} {t : RT} : wsS P E (.tops L t) Q s = Jn (fun I => wsT P E t (zFX L I) s) (Q .normal) := rfl
@[go_sem] theorem zAaL : wsT P E .done K s = K s := rfl
@[go_sem] theorem zAdT {d : Option Nat} {i : I} {r : RT} : wsT P E (.rd ⟨d, none, i⟩ r) K s = zJY d (wsT P E r K) s (zAg s i) := rfl
@[go_sem] theorem zAdU {d : Option Nat} {i : I} {r : RT} {t : Nat} {g : Bool} : wsT P E (.rd ⟨d, some (t, g), i⟩ r) K s = grd (lk t s.slots) g (zRg d i (wsT P E r K)) (skO (wsT P E r) d K) s := rfl
@[go_sem] theorem s_P1 {d : Option Nat} {i : I} : zRg d i K s = zJY d K s (zAg s i) := rfl
@[go_sem] theorem s_T1 {l : List IN} {d : Option Nat} {g : Option (Nat × Bool)} {i : I} : zLB P E l d g i K s = zDS P E d g i (rrK l K) s (zAg s i) := rfl
@[go_sem] theorem s_skT {l : List IN} {f : (St → Prop) → St → Prop} {d : Option Nat} : skT l f d K s = rrK l (f K) (s.put d (.tup [])) := rfl
@[go_sem] theorem zAez {l : List IN} {d : Option Nat} {i : I} {r : RT} : wsT P E (.alt l ⟨d, none, i⟩ r .none) K s = zDS P E d none i (rrK l (wsT P E r K)) s (zAg s i) := by
 simp [wsT, Both, zLB]
@[go_sem] theorem zAeA {l : List IN} {d : Option Nat} {i : I} {r : RT} {t : Nat} {g : Bool} : wsT P E (.alt l ⟨d, some (t, g), i⟩ r .none) K s = grd (lk t s.slots) g (zLB P E l d (some (t, g)) i (wsT P E r K)) (skT l (wsT P E r) d K) s := by
 simp [wsT, Both]
@[go_sem] theorem zAeB {l l2 : List IN} {d : Option Nat} {i : I} {r r2 o : RT} {x2 : IN} : wsT P E (.alt l ⟨d, none, i⟩ r (.alt l2 x2 r2 o)) K s = Both (zDS P E d none i (rrK l (wsT P E r K)) s (zAg s i)) (wsT P E (.alt l2 x2 r2 o) K s) := rfl
@[go_sem] theorem zAeC {l l2 : List IN} {d : Option Nat} {i : I} {r r2 o : RT} {x2 : IN} {t : Nat} {g : Bool} : wsT P E (.alt l ⟨d, some (t, g), i⟩ r (.alt l2 x2 r2 o)) K s = Both (grd (lk t s.slots) g (zLB P E l d (some (t, g)) i (wsT P E r K)) (skT l (wsT P E r) d K) s) (wsT P E (.alt l2 x2 r2 o) K s) := rfl
@[go_sem] theorem zAeD {ms : List (Nat × Nat × List (Nat × Nat))} {a : AS} : wsS P E (.post ms a) Q s = wsS P E a (zKy ms Q) s := rfl
@[go_sem] theorem zAaM {ms : List (Nat × Nat × List (Nat × Nat))} : zKy ms Q .normal s = zLz (Q .normal) (zEd ms (True, s)) := rfl
@[go_sem] theorem zAaN {ms : List (Nat × Nat × List (Nat × Nat))} : zKy ms Q .ret s = Q .ret s := rfl
@[go_sem] theorem zAaO {ms : List (Nat × Nat × List (Nat × Nat))} {id : Nat} : zKy ms Q (.exit id) s = Q (.exit id) s := rfl
@[go_sem] theorem s_pre {l : List IN} {x new : Nat} {a : AS} : wsS P E (.pre l x new a) Q s = zLz (wsS P E a Q) (zLA E s l x new) := rfl
attribute [go_sem] zLA zRf zWW preO zUn Option.isSome_some
@[go_sem] theorem zAeE {p : Prop} {s' : St} : zLz K (p, s') = (p ∧ K s') := rfl
attribute [go_sem] zWT zEd zLu zJN zIi zN1 zT9 zWO St.close1 St.nil1 zC6 zDi zJM St.open1
@[go_sem] theorem zAeF {na : Nat} {L : List (Nat × Nat)} {b : AS} {p : Prop} {s' : St} : zUp P E na L b Q (p, s') = (p ∧ zKz P E na L b Q s') := rfl
@[go_sem] theorem zAdV {σ : Type} {n j : Nat} {F : Nat → σ → St} {I : Nat → σ → Prop} {p : Prop} {s' : St} : zRh n F I j (p, s') = (p ∧ j < n ∧ ∃ x, s' = F (j + 1) x ∧ I (j + 1) x) := rfl
@[go_sem] theorem zAaP {σ : Type} {na : Nat} {L : List (Nat × Nat)} {n j : Nat} {F : Nat → σ → St} {I : Nat → σ → Prop} : zKA E na L n F I j Q .normal s = zRh n F I j (canon E na L s) := rfl
@[go_sem] theorem zAaQ {σ : Type} {na : Nat} {L : List (Nat × Nat)} {n j : Nat} {F : Nat → σ → St} {I : Nat → σ → Prop} : zKA E na L n F I j Q .ret s = Q .ret s := rfl
@[go_sem] theorem zAaR {σ : Type} {na : Nat} {L : List (Nat × Nat)} {n j id : Nat} {F : Nat → σ → St} {I : Nat → σ → Prop} : zKA E na L n F I j Q (.exit id) s = Q (.exit id) s := rfl
@[go_sem] theorem zAdW {σ : Type} {x : σ} {m : σ → Nat} {F : σ → St} {I : σ → Prop} {p : Prop} {s' : St} : zRi F I m x (p, s') = (p ∧ ∃ y, s' = F y ∧ I y ∧ m y < m x) := rfl
@[go_sem] theorem zAap {σ : Type} {na : Nat} {L : List (Nat × Nat)} {x : σ} {m : σ → Nat} {F : σ → St} {I : σ → Prop} : zKB E na L F I m x Q .normal s = zRi F I m x (canon E na L s) := rfl
@[go_sem] theorem zAaq {σ : Type} {na : Nat} {L : List (Nat × Nat)} {x : σ} {m : σ → Nat} {F : σ → St} {I : σ → Prop} : zKB E na L F I m x Q .ret s = Q .ret s := rfl
@[go_sem] theorem zAar {σ : Type} {na : Nat} {L : List (Nat × Nat)} {id : Nat} {x : σ} {m : σ → Nat} {F : σ → St} {I : σ → Prop} : zKB E na L F I m x Q (.exit id) s = Q (.exit id) s := rfl
@[go_sem] theorem zAeG {f : Nat} {xs : List Operand} : zAg s (.call f xs) = none := rfl
@[go_sem] theorem zAdX {f : Nat} {xs : List Operand} : zAg s (.xcall f xs) = none := rfl
@[go_sem] theorem zAdY {x : Operand} {xs : List Operand} : zAg s (.callv x xs) = none := rfl
@[go_sem] theorem zAdZ {z : Value} : zAg s (.alloc z) = none := rfl
@[go_sem] theorem p_box {x : Operand} : zAg s (.box x) = none := rfl
@[go_sem] theorem zAd0 {m : Nat} {x v : Operand} : zAg s (.store m x v) = none := rfl
@[go_sem] theorem p_bsl {k n : Nat} {z : Value} {ps : List (Nat × Operand)} : zAg s (.bsl k z n ps) = none := rfl
@[go_sem] theorem p_mks {k n : Nat} {z : Value} {x y : Operand} : zAg s (.mks k n z x y) = none := rfl
@[go_sem] theorem p_app {k n : Nat} {z : Value} {x y : Operand} : zAg s (.app k n z x y) = none := rfl
@[go_sem] theorem zAeH {d : Option Nat} {f : Nat} {xs : List Operand} : zCg E s d (.call f xs) = none := by cases d <;> rfl
@[go_sem] theorem zAd1 {d : Option Nat} {f : Nat} {xs : List Operand} : zCg E s d (.xcall f xs) = none := by cases d <;> rfl
@[go_sem] theorem zAd2 {d : Option Nat} {x : Operand} {xs : List Operand} : zCg E s d (.callv x xs) = none := by cases d <;> rfl
@[go_sem] theorem zAd3 {z : Value} : zCg E s (some d) (.alloc z) = some (E.okd d ∧ zAn d s.objs, (s.new d ⟨(zAB z).length, [zAB z]⟩).set d (.ptr d 0 0)) := rfl
def zWX (E : Env) (s : St) (d : Nat) (t : T) : Option (List T) → Option (Prop × St)
 | some row => some (t.plainV = true ∧ E.okd d ∧ zAn d s.objs ∧ zAH d row, (s.new d ⟨row.length, [row]⟩).set d (.ptr d 0 0))
 | none => none
def zRl (E : Env) (s : St) (d : Nat) : Option T → Option (Prop × St)
 | some t => zWX E s d t t.cells
 | none => none
@[go_sem] theorem f_box {x : Operand} : zCg E s (some d) (.box x) = zRl E s d (s.eval x) := by
 simp only [zCg]
 cases s.eval x with
 | none => rfl
 | some t => simp only [zRl]; cases t.cells <;> rfl
def zVo (s : St) (id j q n : Nat) (t : T) : Option Ob → Option (List T) → Option (Prop × St)
 | some ob, some cs => some (cs.length = n ∧ t.plainV = true ∧ cs.all T.storable = true ∧ j < ob.rows.length ∧ q + n ≤ ob.k, s.upd id ⟨ob.k, zCH ob.rows j q cs⟩)
 | _, _ => none
def zUu (s : St) (n : Nat) : Option T → Option T → Option (Prop × St)
 | some (.ptr id j q), some t => zVo s id j q n t (lk id s.objs) t.cells
 | _, _ => none
@[go_sem] theorem zAd4 {n : Nat} {x v : Operand} : zCg E s none (.store n x v) = zUu s n (s.eval x) (s.eval v) := by
 simp only [zCg]
 cases s.eval x with
 | none => rfl
 | some p => cases s.eval v with
  | none => cases p <;> rfl
  | some t =>
   cases p with
   | ptr id j q => simp only [zUu]; cases lk id s.objs <;> cases t.cells <;> rfl
   | _ => rfl
def zVp (E : Env) (s : St) (d k n : Nat) (l : List (Nat × Nat × T)) : Option (List T) → Option (Prop × St)
 | some flat => some (l.all (fun q => q.2.2.plainV) = true ∧ flat.length = n * k ∧ E.okd d ∧ zAn d s.objs ∧ zAA d (chunks k n flat), (s.new d ⟨k, chunks k n flat⟩).set d (.ref d 0 n))
 | none => none
def zUv (E : Env) (s : St) (d k n : Nat) : Option (List (Nat × Nat × T)) → Option (Prop × St)
 | some l => zVp E s d k n l (zDA (List.replicate (n * k) .any) l)
 | none => none
@[go_sem] theorem f_bsl {k n : Nat} {z : Value} {parts : List (Nat × Operand)} : zCg E s (some d) (.bsl k z n parts) = zUv E s d k n (zCW s k parts) := by
 simp only [zCg]
 cases zCW s k parts with
 | none => rfl
 | some l => simp only [zUv]; cases zDA (List.replicate (n * k) .any) l <;> rfl
def zWY (E : Env) (s : St) (d k bytes : Nat) (z : Value) : Option T → Option T → Option (Prop × St)
 | some (.v (.int _ l)), some (.v (.int _ c)) => some ((0 ≤ l ∧ l ≤ c ∧ c ≤ 9223372036854775807 ∧ bytes * c ≤ 281474976710656) ∧ (zAB z).length = k ∧ E.okd d ∧ zAn d s.objs, (s.new d ⟨k, List.replicate l.toNat (zAB z)⟩).set d (.ref d 0 l.toNat))
 | _, _ => none
@[go_sem] theorem f_mks {k bytes : Nat} {z : Value} {x y : Operand} : zCg E s (some d) (.mks k bytes z x y) = zWY E s d k bytes z (s.eval x) (s.eval y) := rfl
def zWZ (E : Env) (s : St) (d k bytes : Nat) : Option T → Option T → Option (Prop × St)
 | some tx, some ty => bif zKw tx ty then zAW s d k (lkT s tx) tx ty else appG E s d k bytes ty (zHc s k tx) (zDD s k ty)
 | _, _ => none
@[go_sem] theorem f_app {k bytes : Nat} {z : Value} {x y : Operand} : zCg E s (some d) (.app k bytes z x y) = zWZ E s d k bytes (s.eval x) (s.eval y) := by
 simp only [zCg]
 cases s.eval x with
 | none => rfl
 | some tx => cases s.eval y <;> rfl
def zW0 (E : Env) (s : St) (d k bytes : Nat) (z : Value) : Option T → Option T → Option (Prop × St)
 | some (.ref id lo n), some (.v (.int _ m)) => zRc E s d k bytes z id lo n m (lk id s.objs)
 | _, _ => none
@[go_sem] theorem f_apz {k bytes : Nat} {z : Value} {x y : Operand} : zCg E s (some d) (.apz k bytes z x y) = zW0 E s d k bytes z (s.eval x) (s.eval y) := rfl
def zW1 (s : St) (k : Nat) (z : Value) : Option T → Option (Prop × St)
 | some (.ref id lo n) => zQ9 s k z id lo n (lk id s.objs)
 | _ => none
@[go_sem] theorem f_clr {k : Nat} {z : Value} {x : Operand} : zCg E s none (.clr k z x) = zW1 s k z (s.eval x) := rfl
def zW2 (E : Env) (s : St) (d : Option Nat) : Option T → Option (Prop × St)
 | some (.ref id lo n) => zRa E s d id lo n (lk id s.objs)
 | _ => none
@[go_sem] theorem zAeI {d : Option Nat} {x : Operand} : zCg E s d (.capo x) = zW2 E s d (s.eval x) := by cases d <;> rfl
def zW3 (s : St) (d : Option Nat) (k : Nat) : Option T → Option T → Option (Prop × St)
 | some (.ref id lo n), some ty => zRb s d k id lo n ty (lk id s.objs) (zDD s k (zJP n ty))
 | _, _ => none
@[go_sem] theorem f_cpy {d : Option Nat} {k : Nat} {x y : Operand} : zCg E s d (.cpy k x y) = zW3 s d k (s.eval x) (s.eval y) := by cases d <;> rfl
@[go_sem] theorem p_apz {k n : Nat} {z : Value} {x y : Operand} : zAg s (.apz k n z x y) = none := rfl
@[go_sem] theorem p_clr {k : Nat} {z : Value} {x : Operand} : zAg s (.clr k z x) = none := rfl
@[go_sem] theorem zAeJ {x : Operand} : zAg s (.capo x) = none := rfl
@[go_sem] theorem p_cpy {k : Nat} {x y : Operand} : zAg s (.cpy k x y) = none := rfl
attribute [go_sem] mvC mvS mvP zUd zLi T.mov zKw lkT zAW appG zQ9 zRa zRb zRc zWZ zW0 zW1 zW2 zW3 zJP zJQ zFv zN6 zWS St.re zBs true_or or_true
def zW4 (E : Env) (s : St) (d : Nat) (m : Option Nat) (id i o : Nat) : Option Ob → Option (Prop × St)
 | some ob => ldE E s d m id i o (i < ob.rows.length) (zAO m ((ob.rows.getD i []).drop o))
 | none => none
def fLd (E : Env) (s : St) (d : Nat) (m : Option Nat) : Option T → Option (Prop × St)
 | some (.ptr id i o) => zW4 E s d m id i o (lk id s.objs)
 | _ => none
@[go_sem] theorem zAeK {m : Option Nat} {x : Operand} : zCg E s (some d) (.load m x) = fLd E s d m (s.eval x) := by
 simp only [zCg]
 cases s.eval x with
 | none => rfl
 | some t =>
  cases t with
  | ptr id i o => simp only [fLd]; cases lk id s.objs <;> rfl
  | _ => rfl
attribute [go_sem] fLd zW4 ldE Option.isNone_none Option.isNone_some
attribute [go_sem] zWX zRl zUu zVo zUv zVp zWY zHc zDD List.take_nil List.take_length
@[go_sem] theorem zW5 {α β : Type} {f : α → β} {l : List α} : (l.map f).take l.length = l.map f := by
 rw [List.take_of_length_le (by simp)]
@[go_sem] theorem nbeq (a b : Nat) : Nat.beq a b = decide (a = b) := by
 rw [Bool.eq_iff_iff]; simp
@[go_sem] theorem nbne (a b : Nat) : (a != b) = !decide (a = b) := by
 rw [Bool.eq_iff_iff]; simp
@[go_sem] theorem nble (a b : Nat) : Nat.ble a b = decide (a ≤ b) := by
 rw [Bool.eq_iff_iff]; simp
@[go_sem] theorem nblt (a b : Nat) : Nat.blt a b = decide (a < b) := by
 rw [Bool.eq_iff_iff]; simp
attribute [go_sem] decide_true decide_false and_self Nat.zero_add Nat.add_zero Int.cast_ofNat_Int Int.toNat_natCast List.length_map List.length_replicate List.length_append forall_eq exists_eq_right List.drop_zero List.nil_append List.filter_nil List.filter_cons List.replicate_zero List.replicate_succ
theorem zSE {d : Nat} : zAA d [] ↔ True := by simp [zAA]
theorem zRm {d : Nat} {r : List T} {rs : List (List T)} : zAA d (r :: rs) ↔ zAH d r ∧ zAA d rs := by simp [zAA]
theorem zUw {d : Nat} {rows : List (List T)} (h : zAy rows) : zAA d rows ↔ True := ⟨fun _ => trivial, fun _ => zCn d h⟩
theorem zW6 : zAy [] ↔ True := by simp [zAy]
theorem zVQ {r : List T} {rs : List (List T)} : zAy (r :: rs) ↔ zAD r ∧ zAy rs := by simp [zAy]
theorem zSF {a b : List (List T)} : zAy (a ++ b) ↔ zAy a ∧ zAy b := by
 simp only [zAy, List.mem_append]
 exact ⟨fun h => ⟨fun r hr => h r (.inl hr), fun r hr => h r (.inr hr)⟩, fun h r hr => hr.elim (h.1 r) (h.2 r)⟩
theorem zGR {α : Type} {f : α → List T} {l : List α} : zAy (l.map f) ↔ ∀ x ∈ l, zAD (f x) := by simp [zAy]
theorem zSG {n : Nat} {r : List T} : zAy (List.replicate n r) ↔ n = 0 ∨ zAD r := by
 simp only [zAy, List.mem_replicate]
 constructor
 ·intro h
  by_cases e : n = 0
  ·exact .inl e
  ·exact .inr (h r ⟨e, rfl⟩)
 ·rintro h x ⟨h1, rfl⟩
  exact h.resolve_left h1
theorem zIt {d : Nat} {a b : List (List T)} : zAA d (a ++ b) ↔ zAA d a ∧ zAA d b := by
 simp only [zAA, List.mem_append]
 exact ⟨fun h => ⟨fun r hr => h r (.inl hr), fun r hr => h r (.inr hr)⟩, fun h r hr => hr.elim (h.1 r) (h.2 r)⟩
theorem zF1 {α : Type} {d : Nat} {f : α → List T} {l : List α} : zAA d (l.map f) ↔ ∀ x ∈ l, zAH d (f x) := by simp [zAA]
theorem zMw {d n : Nat} {r : List T} : zAA d (List.replicate n r) ↔ n = 0 ∨ zAH d r := by
 simp only [zAA, List.mem_replicate]
 constructor
 ·intro h
  by_cases e : n = 0
  ·exact .inl e
  ·exact .inr (h r ⟨e, rfl⟩)
 ·rintro h x ⟨h1, rfl⟩
  exact h.resolve_left h1
theorem zMx {d : Nat} {rows : List (List T)} {i : Nat} {r : List T} (h1 : zAA d rows) (h2 : zAH d r) : zAA d (rows.set i r) ↔ True := by
 refine ⟨fun _ => trivial, fun _ x hx => ?_⟩
 rcases List.mem_or_eq_of_mem_set hx with hx | rfl
 ·exact h1 x hx
 ·exact h2
theorem zRn {d : Nat} {rows : List (List T)} {n : Nat} (h : zAA d rows) : zAA d (rows.take n) ↔ True := ⟨fun _ => trivial, fun _ x hx => h x (List.mem_of_mem_take hx)⟩
theorem zRo {d : Nat} {rows : List (List T)} {n : Nat} (h : zAA d rows) : zAA d (rows.drop n) ↔ True := ⟨fun _ => trivial, fun _ x hx => h x (List.mem_of_mem_drop hx)⟩
theorem zSH {d : Nat} {a b : List (List T)} : zCK d (a ++ b) ↔ zCK d a ∧ zCK d b := by
 simp only [zCK, List.mem_append]
 exact ⟨fun h => ⟨fun r hr => h r (.inl hr), fun r hr => h r (.inr hr)⟩, fun h r hr => hr.elim (h.1 r) (h.2 r)⟩
theorem zSI {α : Type} {d : Nat} {f : α → List T} {l : List α} : zCK d (l.map f) ↔ ∀ x ∈ l, ltL d (f x) := by simp [zCK]
theorem zSJ {d n : Nat} {r : List T} : zCK d (List.replicate n r) ↔ n = 0 ∨ ltL d r := by
 simp only [zCK, List.mem_replicate]
 constructor
 ·intro h
  by_cases e : n = 0
  ·exact .inl e
  ·exact .inr (h r ⟨e, rfl⟩)
 ·rintro h x ⟨h1, rfl⟩
  exact h.resolve_left h1
theorem zMy {d d' : Nat} {a b : List (List T)} : zBa d d' (a ++ b) = zBa d d' a ++ zBa d d' b := by simp [zBa]
theorem zMz {α : Type} {d d' : Nat} {f : α → List T} {l : List α} : zBa d d' (l.map f) = l.map fun x => zCJ d d' (f x) := by simp [zBa, Function.comp_def]
theorem zMA {d d' n : Nat} {r : List T} : zBa d d' (List.replicate n r) = List.replicate n (zCJ d d' r) := by simp [zBa]
theorem zSK {d d' : Nat} {rows : List (List T)} {i : Nat} {r : List T} : zBa d d' (rows.set i r) = (zBa d d' rows).set i (zCJ d d' r) := by simp [zBa, List.map_set]
theorem zRp {d d' n : Nat} {rows : List (List T)} : zBa d d' (rows.take n) = (zBa d d' rows).take n := by simp [zBa, List.map_take]
theorem zRq {d d' n : Nat} {rows : List (List T)} : zBa d d' (rows.drop n) = (zBa d d' rows).drop n := by simp [zBa, List.map_drop]
@[go_sem] theorem zAd5 {r q : List T} : zAo [r] 0 (List.replicate 1 q) = [q] := rfl
@[go_sem] theorem zZ8 {d : Nat} {rows : List (List T)} {i n : Nat} {q : List T} : zAA d (zAo rows i (List.replicate n q)) ↔ zAA d (rows.take i) ∧ zAA d (List.replicate n q) ∧ zAA d (rows.drop (i + n)) := by
 unfold zAo zAA
 simp only [List.length_replicate, List.mem_append, or_imp, forall_and, and_assoc]
attribute [go_sem] zIt zF1 zMw zMx zRn zRo zSH zSI zSJ zMy zMz zMA zSK zRp zRq implies_true or_true
theorem zSL {rows : List (List T)} {i : Nat} {r : List T} (h1 : zAy rows) (h2 : zAD r) : zAy (rows.set i r) ↔ True := by
 refine ⟨fun _ => trivial, fun _ x hx => ?_⟩
 rcases List.mem_or_eq_of_mem_set hx with hx | rfl
 ·exact h1 x hx
 ·exact h2
theorem zVR {rows : List (List T)} {n : Nat} (h : zAy rows) : zAy (rows.take n) ↔ True := ⟨fun _ => trivial, fun _ x hx => h x (List.mem_of_mem_take hx)⟩
theorem zVS {rows : List (List T)} {n : Nat} (h : zAy rows) : zAy (rows.drop n) ↔ True := ⟨fun _ => trivial, fun _ x hx => h x (List.mem_of_mem_drop hx)⟩
theorem zW7 {B : Nat} : zCK B [] ↔ True := by simp [zCK]
theorem zVT {B : Nat} {r : List T} {rs : List (List T)} : zCK B (r :: rs) ↔ ltL B r ∧ zCK B rs := by simp [zCK]
theorem zZ9 {B : Nat} {rows : List (List T)} (h : zAy rows) : zCK B rows ↔ True := ⟨fun _ => trivial, fun _ => zPh h⟩
attribute [go_sem] zSE zRm zUw zW6 zVQ zSF zGR zSG zSL zVR zVS zW7 zVT zZ9
attribute [go_sem] cv1 cv2 cm1 cm2 nodupB zJL zVO zVP exists_eq_left' Option.map_some Option.map_none
attribute [go_sem] zLj zQY List.length_cons List.length_nil zGP T.lt ltL zIq zFf zFA zFZ zOj zNt zUs
@[go_sem] theorem zAd6 {X r : T} {l : List T} : zE0 (fun r _ => r = X) r l ↔ zAU r X := by
 constructor
 ·rintro ⟨r', h, rfl⟩; exact h
 ·intro h; exact ⟨X, h, rfl⟩
@[go_sem] theorem zAaS {X r : T} {l : List T} {C : List T → Prop} : zE0 (fun r l => r = X ∧ C l) r l ↔ zAU r X ∧ C l := by
 constructor
 ·rintro ⟨r', h, rfl, h2⟩; exact ⟨h, h2⟩
 ·intro h; exact ⟨X, h.1, rfl, h.2⟩
@[go_sem] theorem zAd7 {α : Type} {X : α → T} {C : α → Prop} {r : T} {l : List T} : zE0 (fun r _ => ∃ n, r = X n ∧ C n) r l ↔ ∃ n, zAU r (X n) ∧ C n := by
 constructor
 ·rintro ⟨r', h, n, rfl, h2⟩; exact ⟨n, h, h2⟩
 ·rintro ⟨n, h, h2⟩; exact ⟨X n, h, n, rfl, h2⟩
theorem zEQ (t : T) : zAU t t := by
 have key : ∀ t : T, zAU t t := by
  intro t
  refine T.rec (motive_1 := fun t => zAU t t) (motive_2 := fun l => zBh l l) (motive_3 := fun _ => True) ?_ ?_ ?_ ?_ ?_ ?_ ?_ ?_ ?_ ?_ ?_ ?_ ?_ t
  ·simp [zAU]
  ·intro x; unfold zAU; split <;> simp_all
  ·intro row ih; simp only [zAU]; exact ih
  ·intro row ih; simp only [zAU]; exact ih
  ·intros; simp [zAU]
  ·intros; simp [zAU]
  ·intros; simp [zAU]
  ·intros; simp [zAU]
  ·intros; simp [zAU]
  ·simp [zBh]
  ·intro t ts h1 h2; simp only [zBh]; exact ⟨h1, h2⟩
  ·trivial
  ·intros; trivial
 exact key t
theorem zVU {R : T → List T → Prop} {r : T} {l : List T} (h : R r l) : zE0 R r l := ⟨r, zEQ r, h⟩
@[go_sem] theorem zAd8 {o : Bool} {k : Nat} {rows : List (List T)} : zAU (.v (.slice none 0 0)) (.sl o k rows) ↔ rows = [] := by simp [zAU]
@[go_sem] theorem nle_v {x y : Value} : zAU (.v x) (.v y) ↔ T.v x = T.v y := by
 unfold zAU; split <;> simp_all
@[go_sem] theorem zAeL {o o' : Bool} {k k' : Nat} {rows rows' : List (List T)} : zAU (.sl o k rows) (.sl o' k' rows') ↔ T.sl o k rows = T.sl o' k' rows' := by
 unfold zAU; exact Iff.rfl
@[go_sem] theorem zAeM {o o' : Bool} {row row' : List T} : zAU (.bx o row) (.bx o' row') ↔ T.bx o row = T.bx o' row' := by
 unfold zAU; exact Iff.rfl
@[go_sem] theorem zAd9 {l l' : List T} : zAU (.agg l) (.agg l') ↔ zBh l l' := by simp only [zAU]
@[go_sem] theorem zAea {l l' : List T} : zAU (.tup l) (.tup l') ↔ zBh l l' := by simp only [zAU]
@[go_sem] theorem zAaT : zBh [] [] ↔ True := by simp only [zBh]
@[go_sem] theorem zAas {t u : T} {ts us : List T} : zBh (t :: ts) (u :: us) ↔ zAU t u ∧ zBh ts us := by simp only [zBh]
attribute [go_sem] ne_eq not_true_eq_false
@[go_sem] theorem zAeb : zA9 [] = [] := rfl
@[go_sem] theorem zAaU {r : List T} {rs : List (List T)} : zA9 (r :: rs) = zCd r :: zA9 rs := rfl
@[go_sem] theorem zAec {α : Type} {f : α → List T} {l : List α} : zA9 (l.map f) = l.map fun x => zCd (f x) := by
 rw [zCr, List.map_map]; rfl
@[go_sem] theorem zAed {a b : List (List T)} : zA9 (a ++ b) = zA9 a ++ zA9 b := by simp [zCr]
@[go_sem] theorem zAee {n : Nat} {r : List T} : zA9 (List.replicate n r) = List.replicate n (zCd r) := by simp [zCr]
@[go_sem] theorem zAef {rows : List (List T)} {i : Nat} {r : List T} : zA9 (rows.set i r) = (zA9 rows).set i (zCd r) := by simp [zCr, List.map_set]
@[go_sem] theorem zAaV {rows : List (List T)} {n : Nat} : zA9 (rows.take n) = (zA9 rows).take n := by simp [zCr]
@[go_sem] theorem zAaW {rows : List (List T)} {n : Nat} : zA9 (rows.drop n) = (zA9 rows).drop n := by simp [zCr]
@[go_sem] theorem zAeg {rows : List (List T)} : (zA9 rows).length = rows.length := zC4 rows
attribute [go_sem] T.dsh zCd
@[go_sem] theorem take_len {α β : Type} {f : α → β} {l : List α} : (l.map f).take l.length = l.map f := by rw [← List.length_map (f := f), List.take_length]
@[go_sem] theorem zAaX {α : Type} {n : Nat} {r : α} : (List.replicate n r).take n = List.replicate n r := by simp
@[go_sem] theorem zAaY {α β : Type} {f : α → β} {p : β → Bool} {l : List α} : (l.map f).all p = l.all fun x => p (f x) := by simp [List.all_map, Function.comp_def]
@[go_sem] theorem zAaZ {α : Type} {l : List α} : (l.all fun _ => true) = true := by simp
@[go_sem] theorem zAaa {α : Type} {f : α → List T} {l : List α} : (l.map f).map (fun r => r.map T.sh) = l.map fun x => (f x).map T.sh := by simp [List.map_map, Function.comp_def]
attribute [go_sem] canon zJW zOc zOd zKx zDu zJV zOa zOb St.nilS St.ren zIZ zI0 zGp T.ren zCJ St.fin zGN zHi zUk zWV zWU zHo zRe St.fin0 zIX
@[go_sem] theorem zAat {d d' : Nat} : zBa d d' [] = [] := rfl
@[go_sem] theorem zAab {d d' : Nat} {r : List T} {rs : List (List T)} : zBa d d' (r :: rs) = zCJ d d' r :: zBa d d' rs := rfl
@[go_sem] theorem zAa0 {d d' : Nat} {rows : List (List T)} (h : zAy rows) : zBa d d' rows = rows := zN8 d d' h
def nth {α : Type} [Inhabited α] (l : List α) (i : Nat) : α := l.getD i default
theorem zBd {α : Type} [Inhabited α] {l : List α} {i : Nat} (h : i < l.length) : nth l i = l[i] := by simp [nth, List.getD, h]
theorem zAh {α : Type} [Inhabited α] {l : List α} {i : Nat} (h : i < l.length) : nth l i ∈ l := by rw [zBd h]; exact List.getElem_mem h
theorem zHM {α : Type} [Inhabited α] {x : α} {l : List α} : nth (x :: l) 0 = x := rfl
theorem zHN {α : Type} [Inhabited α] {x : α} {l : List α} {i : Nat} : nth (x :: l) (i + 1) = nth l i := rfl
theorem zOk {α : Type} [Inhabited α] {l : List α} {i : Nat} (h : i < l.length) : l.drop i = nth l i :: l.drop (i + 1) := by rw [zBd h, List.drop_eq_getElem_cons h]
theorem zAI {α : Type} [Inhabited α] {l : List α} {i : Nat} (h : i < l.length) : l.take (i + 1) = l.take i ++ [nth l i] := by rw [zBd h, List.take_succ_eq_append_getElem h]
theorem getD_map {α : Type} [Inhabited α] {f : α → List T} {l : List α} {i : Nat} (h : i < l.length) : (l.map f).getD i [] = f (nth l i) := by simp [nth, List.getD, h]
end
abbrev i64 (n : Int) : T := .v (.int .i64 n)
abbrev u8 (n : Int) : T := .v (.int .u8 n)
abbrev bl (b : Bool) : T := .v (.bool b)
abbrev str (s : ByteArray) : T := .v (.string s)
abbrev zAL : T := .v (.slice none 0 0)
abbrev ints (l : List Int) : List (List T) := l.map fun x => [i64 x]
abbrev strs (l : List ByteArray) : List (List T) := l.map fun x => [str x]
@[go_sem] theorem ints_set {l : List Int} {i : Nat} {y : Int} : (ints l).set i [i64 y] = ints (l.set i y) := by simp [ints, List.map_set]
@[go_sem] theorem zAa1 {l : List ByteArray} {i : Nat} {y : ByteArray} : (strs l).set i [str y] = strs (l.set i y) := by simp [strs, List.map_set]
attribute [go_sem] Nat.le_refl
def mx : Nat := 9223372036854775807
theorem zAi : maxLen = 9223372036854775807 := by decide
theorem zVV {n : Int} (h0 : -9223372036854775808 ≤ n) (h1 : n ≤ 9223372036854775807) : IntKind.i64.wrap n = n := Go.IntWalk.i64_in _ (by omega)
@[go_sem] theorem zAau (a b : ByteArray) : zE3 a b = decide (a = b) := by
 unfold zE3
 rw [Bool.eq_iff_iff, beq_iff_eq, decide_eq_true_iff]
 exact ⟨fun h => ByteArray.ext (Array.ext' h), fun h => by rw [h]⟩
def zAu (p : Nat → Bool) : Nat → Bool
 | 0 => true
 | n + 1 => zAu p n && p n
theorem zAE {p : Nat → Bool} : ∀ {n : Nat}, zAu p n = true ↔ ∀ i, i < n → p i = true
 | 0 => by simp [zAu]
 | n + 1 => by
  simp only [zAu, Bool.and_eq_true, zAE (n := n)]
  constructor
  ·rintro ⟨h1, h2⟩ i hi
   by_cases e : i = n
   ·rw [e]; exact h2
   ·exact h1 i (by omega)
  ·intro h
   exact ⟨fun i hi => h i (by omega), h n (by omega)⟩
theorem zAF {p : Nat → Bool} {n j : Nat} (h : j < n) (hp : p j = false) : zAu p n = false := by
 cases hb : zAu p n with
 | false => rfl
 | true => rw [zAE.1 hb j h] at hp; cases hp
theorem zAf {p : Nat → Bool} {j : Nat} (h : zAu p j = true) (hp : p j = true) : zAu p (j + 1) = true := by simp [zAu, h, hp]
theorem zAS {α : Type} [Inhabited α] {p : α → Bool} {l : List α} : zAu (fun i => p (nth l i)) l.length = l.all p := by
 rw [Bool.eq_iff_iff, zAE, List.all_eq_true]
 constructor
 ·intro h x hx
  obtain ⟨i, hi, rfl⟩ := List.getElem_of_mem hx
  rw [← zBd hi]; exact h i hi
 ·intro h i hi
  exact h _ (zAh hi)
theorem zHs {p q : Nat → Bool} {n : Nat} (h : ∀ i, i < n → p i = q i) : zAu p n = zAu q n := by
 rw [Bool.eq_iff_iff, zAE, zAE]
 exact ⟨fun H i hi => by rw [← h i hi]; exact H i hi, fun H i hi => by rw [h i hi]; exact H i hi⟩
def zGq {α : Type} (f : α → Nat) (l : List α) (j : Nat) : Nat := ((l.take j).map f).sum
def szL {α : Type} (f : α → Nat) (l : List α) : Nat := l.length + (l.map f).sum
def wfL {α : Type} (p : α → Prop) (l : List α) : Prop := l.length ≤ maxLen ∧ ∀ x ∈ l, p x
def zA0 {α : Type} (p : α → Prop) (l : List α) : Prop := l.length ≤ maxLen ∧ ∀ x ∈ l, p x
theorem zIu {α : Type} {f : α → Nat} {l : List α} : zGq f l 0 = 0 := by simp [zGq]
theorem zIv {α : Type} [Inhabited α] {f : α → Nat} {l : List α} {j : Nat} (h : j < l.length) : zGq f l (j + 1) = zGq f l j + f (nth l j) := by
 unfold zGq
 rw [zAI h, List.map_append, List.sum_append, List.map_cons, List.map_nil, List.sum_cons, List.sum_nil, Nat.add_zero]
theorem zJ1 {α : Type} {f : α → Nat} {l : List α} {j : Nat} (h : l.length ≤ j) : zGq f l j = (l.map f).sum := by
 unfold zGq; rw [List.take_of_length_le h]
theorem zCc {α : Type} {f : α → Nat} {l : List α} : l.length ≤ szL f l := by unfold szL; omega
theorem zCj {α : Type} {f : α → Nat} {l : List α} {x : α} (h : x ∈ l) : f x ≤ szL f l := by
 have key : ∀ l : List α, x ∈ l → f x ≤ (l.map f).sum := by
  intro l
  induction l with
  | nil => intro h; cases h
  | cons y l ih =>
   intro h
   simp only [List.map_cons, List.sum_cons]
   rcases List.mem_cons.1 h with rfl | h
   ·omega
   ·have := ih h; omega
 have := key l h
 simp only [szL]; omega
@[go_sem] theorem zAac (j : Nat) : ((j : Int) - 1).toNat = j - 1 := by omega
@[go_sem] theorem zZB (j : Nat) : ((j : Int) + 1).toNat = j + 1 := by omega
@[go_sem] theorem zAeh (a b : Int) : (a == b) = decide (a = b) := by rw [Bool.eq_iff_iff]; simp
@[go_sem] theorem zAei (a b : Int) : (a != b) = !decide (a = b) := by rw [Bool.eq_iff_iff]; simp
theorem zAp {caps : List T} (h : caps.all T.cap = true) : caps.all T.bare0 = true := by
 rw [List.all_eq_true] at h ⊢
 intro t ht
 have := h t ht
 unfold T.cap at this
 split at this <;> first | rfl | cases this
theorem zAz : ∀ {caps : List T}, caps.all T.cap = true → zAD caps
 | [], _ => trivial
 | t :: ts, h => by
  simp only [List.all_cons, Bool.and_eq_true] at h
  refine ⟨?_, zAz h.2⟩
  have := h.1
  unfold T.cap at this
  split at this <;> first | exact trivial | (simp [T.packed]; done) | cases this
theorem zAv {caps : List T} (h : caps.all T.cap = true) (d : Nat) : zAH d caps := zBG d (zAz h)
theorem zAC {caps : List T} (h : caps.all T.cap = true) (B : Nat) : ltL B caps := (zDG B caps).2 fun i _ _ => zAv h i
theorem zAw : ∀ {caps : List T}, caps.all T.cap = true → zHo caps = []
 | [], _ => rfl
 | t :: ts, h => by
  simp only [List.all_cons, Bool.and_eq_true] at h
  have h1 := h.1
  cases t <;> first | (simp only [zHo]; exact zAw h.2) | (simp [T.cap] at h1)
def vwC : List T → Prop
 | [] => True
 | t :: ts => (t.packed ∧ t.bare = true) ∧ vwC ts
theorem zSM : ∀ {caps : List T}, caps.all T.cap = true → vwC caps
 | [], _ => trivial
 | t :: ts, h => by
  have hb := zAz h
  simp only [List.all_cons, Bool.and_eq_true] at h
  refine ⟨⟨hb.1, ?_⟩, zSM h.2⟩
  have h1 := h.1
  unfold T.cap at h1
  split at h1 <;> first | rfl | cases h1
theorem zKE {s : St} : ∀ {caps : List T}, caps.all T.cap = true → zDB s caps = some (caps, [], vwC caps)
 | [], _ => rfl
 | t :: ts, h => by
  simp only [List.all_cons, Bool.and_eq_true] at h
  have h1 := h.1
  have ht : zDQ s t = some (t, [], t.packed ∧ t.bare = true) := by
   unfold T.cap at h1
   split at h1 <;> first | rfl | cases h1
  simp only [zDB, ht, zKE h.2, vwC, List.nil_append]
def ixf {α : Type} (p : α → Bool) : List α → Int
 | [] => -1
 | x :: l => if p x then 0 else if ixf p l < 0 then -1 else ixf p l + 1
theorem zOl {α : Type} {p : α → Bool} : ∀ {l : List α}, -1 ≤ ixf p l
 | [] => by simp [ixf]
 | x :: l => by have := zOl (p := p) (l := l); simp only [ixf]; split <;> (try split) <;> omega
theorem zI3 {α : Type} {p : α → Bool} : ∀ {l : List α}, decide (0 ≤ ixf p l) = l.any p
 | [] => by simp [ixf]
 | x :: l => by
  have h := zI3 (p := p) (l := l)
  have := zOl (p := p) (l := l)
  rw [Bool.eq_iff_iff, decide_eq_true_iff] at h ⊢
  simp only [ixf, List.any_cons, Bool.or_eq_true]
  by_cases hx : p x = true
  ·simp [hx]
  ·rw [if_neg hx, ← h]
   by_cases e : ixf p l < 0
   ·rw [if_pos e]; constructor
    ·intro h; omega
    ·rintro (h | h)
     ·exact absurd h hx
     ·omega
   ·rw [if_neg e]; constructor
    ·intro h; exact .inr (by omega)
    ·intro _; omega
theorem zKF {α : Type} [Inhabited α] {p : α → Bool} : ∀ {l : List α} {j : Nat}, j < l.length → zAu (fun i => !p (nth l i)) j = true → p (nth l j) = true → ixf p l = j
 | [], j, h, _, _ => by simp at h
 | x :: l, 0, _, _, hp => by simp only [zHM] at hp; simp [ixf, hp]
 | x :: l, j + 1, h, ha, hp => by
  have h0 : p x = false := by simpa [zHM] using zAE.1 ha 0 (by omega)
  have ih := zKF (l := l) (j := j) (by simpa using h) (zAE.2 fun i hi => by simpa [zHN] using zAE.1 ha (i + 1) (by omega)) (by simpa [zHN] using hp)
  simp only [ixf, h0, ih]
  rw [if_neg (by simp), if_neg (by omega)]
  omega
theorem zJ2 {α : Type} [Inhabited α] {p : α → Bool} {l : List α} (h : zAu (fun i => !p (nth l i)) l.length = true) : ixf p l = -1 := by
 have h1 : l.any p = false := by
  rw [List.any_eq_false]
  intro x hx
  obtain ⟨i, hi, rfl⟩ := List.getElem_of_mem hx
  have := zAE.1 h i hi
  rw [zBd hi] at this
  simpa using this
 rw [← zI3, decide_eq_false_iff_not] at h1
 have := zOl (p := p) (l := l)
 omega
def cpy {α : Type} (f : α → List T) (z : List T) (l : List α) (j : Nat) : List (List T) := (l.take j).map f ++ List.replicate (l.length - j) z
theorem zAG {α : Type} {f : α → List T} {z : List T} {l : List α} {j : Nat} (hj : j ≤ l.length) : (cpy f z l j).length = l.length := by simp [cpy]; omega
theorem zB1 {α : Type} (f : α → List T) (z : List T) (l : List α) : List.replicate l.length z = cpy f z l 0 := by simp [cpy]
theorem zCk {α : Type} {f : α → List T} {z : List T} {l : List α} {j : Nat} (h : l.length ≤ j) : cpy f z l j = l.map f := by simp [cpy, List.take_of_length_le h, Nat.sub_eq_zero_of_le h]
theorem zB2 {α : Type} [Inhabited α] {f : α → List T} {z : List T} {l : List α} {j : Nat} (hj : j < l.length) : (cpy f z l j).set j (f (nth l j)) = cpy f z l (j + 1) := by
 unfold cpy
 rw [List.set_append_right _ _ (by simp; omega)]
 have e1 : j - ((l.take j).map f).length = 0 := by simp; omega
 have e2 : l.length - j = (l.length - (j + 1)) + 1 := by omega
 rw [e1, e2, List.replicate_succ, List.set_cons_zero, zAI hj, List.map_append, List.map_cons, List.map_nil, List.append_assoc, List.singleton_append]
theorem zAN {α : Type} {f : α → List T} {z : List T} {l : List α} {j : Nat} (hj : j < l.length) : (cpy f z l j).getD j [] = z := by
 unfold cpy
 rw [List.getD, List.getElem?_append_right (by simp; omega), List.getElem?_replicate, if_pos (by simp; omega)]
 rfl
theorem zVW {α : Type} {f : α → List T} {z : List T} {l : List α} {j d : Nat} : zAA d (cpy f z l j) ↔ (∀ x ∈ l.take j, zAH d (f x)) ∧ (l.length - j = 0 ∨ zAH d z) := by
 unfold cpy; rw [zIt, zF1, zMw]
theorem zW8 {α : Type} {f : α → List T} {z : List T} {l : List α} {j : Nat} : zAy (cpy f z l j) ↔ (∀ x ∈ l.take j, zAD (f x)) ∧ (l.length - j = 0 ∨ zAD z) := by
 unfold cpy; rw [zSF, zGR, zSG]
theorem zW9 {α : Type} {f : α → List T} {z : List T} {l : List α} {j d : Nat} : zCK d (cpy f z l j) ↔ (∀ x ∈ l.take j, ltL d (f x)) ∧ (l.length - j = 0 ∨ ltL d z) := by
 unfold cpy; rw [zSH, zSI, zSJ]
theorem zVX {α : Type} {f : α → List T} {z : List T} {l : List α} {j d d' : Nat} : zBa d d' (cpy f z l j) = cpy (fun x => zCJ d d' (f x)) (zCJ d d' z) l j := by
 unfold cpy; rw [zMy, zMz, zMA]
attribute [go_sem] zVW zW8 zW9 zVX List.set_set
theorem zVY {α : Type} {l : List α} {i : Nat} {x : α} : (l.set i x).length = l.length := List.length_set
attribute [go_sem] zVY
theorem zVZ {α : Type} {f : α → List T} {l : List α} {i : Nat} {r : List T} (h : i < l.length) : ((l.map f).set i r).getD i [] = r := by simp [List.getD, h]
theorem zV0 {α : Type} {f : α → List T} {z : List T} {l : List α} {j : Nat} {r : List T} (h : j < l.length) : ((cpy f z l j).set j r).getD j [] = r := by
 have := zAG (f := f) (z := z) (l := l) (j := j) (by omega)
 simp [List.getD, this, h]
theorem zLC {α : Type} {f : α → List T} {l : List α} {r : List T} : (l.map f ++ [r]).getD l.length [] = r := by simp [List.getD]
theorem zXa {α : Type} {f : α → List T} {l : List α} {r r' : List T} : (l.map f ++ [r]).set l.length r' = l.map f ++ [r'] := by
 rw [List.set_append_right _ _ (by simp)]; simp
theorem zUx {α β : Type} {f : α → β} {l : List α} {n : Nat} : (l.map f).take n = (l.take n).map f := by rw [List.map_take]
theorem zUy {α β : Type} {f : α → β} {l : List α} {n : Nat} : (l.map f).drop n = (l.drop n).map f := by rw [List.map_drop]
attribute [go_sem] zLC zXa Nat.add_sub_cancel Nat.sub_zero zUx zUy
theorem zLD {α : Type} [Inhabited α] [DecidableEq α] {l m : List α} {j : Nat} (h1 : j < l.length) (h2 : j < m.length) : decide (l.drop j = m.drop j) = (decide (nth l j = nth m j) && decide (l.drop (j + 1) = m.drop (j + 1))) := by
 rw [Bool.eq_iff_iff, zOk h1, zOk h2, decide_eq_true_iff, Bool.and_eq_true, decide_eq_true_iff, decide_eq_true_iff, List.cons.injEq]
def byt (s : ByteArray) (i : Nat) : Int := ((s.data.toList.getD i 0).toNat : Nat)
@[go_sem] theorem zAeN (s : ByteArray) (i : Nat) : (((s.data.toList.getD i 0).toNat : Nat) : Int) = byt s i := rfl
theorem zMB : ∀ a : List UInt8, Op.bytesLess a a = false
 | [] => rfl
 | x :: a => by simp [Op.bytesLess, zMB a]
theorem zE8 {x y : UInt8} {a b : List UInt8} : Op.bytesLess (x :: a) (y :: b) = true ↔ x < y ∨ x = y ∧ Op.bytesLess a b = true := by
 simp [Op.bytesLess]
theorem zJq : ∀ {a b c : List UInt8}, Op.bytesLess a b = true → Op.bytesLess b c = true → Op.bytesLess a c = true
 | _, [], _, h, _ => by simp [Op.bytesLess] at h
 | _, _ :: _, [], _, h => by simp [Op.bytesLess] at h
 | [], _ :: _, _ :: _, _, _ => rfl
 | x :: a, y :: b, z :: c, h1, h2 => by
  rw [zE8] at h1 h2 ⊢
  rcases h1 with h1 | ⟨rfl, h1⟩
  ·rcases h2 with h2 | ⟨rfl, h2⟩
   ·exact .inl (UInt8.lt_trans h1 h2)
   ·exact .inl h1
  ·rcases h2 with h2 | ⟨rfl, h2⟩
   ·exact .inl h2
   ·exact .inr ⟨rfl, zJq h1 h2⟩
theorem zJr : ∀ a b : List UInt8, Op.bytesLess a b = true ∨ a = b ∨ Op.bytesLess b a = true
 | [], [] => .inr (.inl rfl)
 | [], _ :: _ => .inl rfl
 | _ :: _, [] => .inr (.inr rfl)
 | x :: a, y :: b => by
  rw [zE8, zE8]
  rcases UInt8.lt_or_lt_of_ne (a := x) (b := y) |>.comp (fun (h : ¬ x = y) => h) |> fun f => (Classical.em (x = y)).imp_right f with h | h | h
  ·subst h
   rcases zJr a b with h | h | h
   ·exact .inl (.inr ⟨rfl, h⟩)
   ·subst h; exact .inr (.inl rfl)
   ·exact .inr (.inr (.inr ⟨rfl, h⟩))
  ·exact .inl (.inl h)
  ·exact .inr (.inr (.inl h))
theorem zBP (a : ByteArray) : zAm a a = false := zMB _
theorem zCt {a b c : ByteArray} (h1 : zAm a b = true) (h2 : zAm b c = true) : zAm a c = true := zJq h1 h2
theorem zCu (a b : ByteArray) : zAm a b = true ∨ a = b ∨ zAm b a = true := by
 rcases zJr a.data.toList b.data.toList with h | h | h
 ·exact .inl h
 ·exact .inr (.inl (ByteArray.ext (Array.ext' h)))
 ·exact .inr (.inr h)
theorem zDv {a b : ByteArray} (h : zAm a b = true) : zAm b a = false := by
 cases hb : zAm b a with
 | false => rfl
 | true => have := zCt h hb; rw [zBP] at this; cases this
theorem zHt {a b : ByteArray} (h : zAm a b = true) : a ≠ b := by
 rintro rfl; rw [zBP] at h; cases h
theorem zSN (a b : ByteArray) : (!zAm a b) = (zAm b a || decide (a = b)) := by
 rcases zCu a b with h | h | h
 ·rw [h, zDv h, decide_eq_false (zHt h)]; rfl
 ·subst h; simp [zBP]
 ·rw [h, zDv h]; rfl
@[go_sem] theorem zAa2 (a b : ByteArray) : (zAm a b || decide (a = b)) = !zAm b a := by
 rw [zSN b a]
 congr 1
 rw [Bool.eq_iff_iff]; simp [eq_comm]
attribute [go_sem] Bool.not_not zDJ
@[go_sem] theorem zAad : zCO [] ↔ True := by simp [zCO]
@[go_sem] theorem zZC {r : List T} {rs : List (List T)} : zCO (r :: rs) ↔ zDJ r ∧ zCO rs := by simp [zCO]
@[go_sem] theorem zRr {α : Type} {f : α → List T} : ∀ {l : List α}, zCO (l.map f) ↔ ∀ x ∈ l, zDJ (f x)
 | [] => by simp [zCO]
 | x :: l => by simp [zCO, zRr (l := l)]
def zCE (p : Nat → Bool) : Nat → Nat
 | 0 => 0
 | n + 1 => zCE p n + (if p n then 1 else 0)
theorem zGS {p : Nat → Bool} : ∀ {n : Nat}, zCE p n ≤ n
 | 0 => Nat.le_refl _
 | n + 1 => by have := zGS (p := p) (n := n); simp only [zCE]; split <;> omega
theorem zFB {p : Nat → Bool} : ∀ {n : Nat}, zAu p n = true → zCE p n = n
 | 0, _ => rfl
 | n + 1, h => by
  simp only [zAu, Bool.and_eq_true] at h
  simp only [zCE, zFB h.1, h.2, if_true]
theorem zER {p : Nat → Bool} {n : Nat} : ∀ {m : Nat}, n ≤ m → (∀ i, n ≤ i → i < m → p i = false) → zCE p m = zCE p n
 | 0, h, _ => by rw [show n = 0 by omega]
 | m + 1, h, hp => by
  by_cases e : n = m + 1
  ·rw [e]
  ·simp only [zCE]
   rw [zER (m := m) (by omega) (fun i h1 h2 => hp i h1 (by omega)), hp m (by omega) (by omega)]
   rfl
theorem zAae {n : Int} (h0 : 0 ≤ n) (h1 : n ≤ 18446744073709551615) : IntKind.u64.wrap n = n := by
 simp only [IntKind.wrap, IntKind.bits, IntKind.signed]
 simp
 omega
theorem shr1 : ((2 : Int) ^ (min 1 64)) = 2 := by decide
def bsI {α : Type} [Inhabited α] (c : α → Int) (l : List α) : Nat := zCE (fun i => decide (c (nth l i) < 0)) l.length
def bsF {α : Type} [Inhabited α] (c : α → Int) (l : List α) : Bool := decide (bsI c l < l.length) && decide (c (nth l (bsI c l)) = 0)
theorem zXb {α : Type} [Inhabited α] {c : α → Int} {l : List α} {n : Nat} (hn : n ≤ l.length) (h1 : ∀ i, i < n → c (nth l i) < 0) (h2 : ∀ i, n ≤ i → i < l.length → 0 ≤ c (nth l i)) : bsI c l = n := by
 unfold bsI
 rw [zER hn (fun i a b => by have := h2 i a b; simp; omega), zFB (zAE.2 fun i hi => by simp [h1 i hi])]
def mkL {α : Type} (f : α → Int → α × Int) : List α → Int → List α × Int
 | [], k => ([], k)
 | x :: l, k => ((f x k).1 :: (mkL f l (f x k).2).1, (mkL f l (f x k).2).2)
section
variable {α : Type} {f : α → Int → α × Int}
@[go_sem] theorem zP1 : ∀ {l : List α} {k : Int}, (mkL f l k).1.length = l.length
 | [], _ => rfl
 | x :: l, k => by simp [mkL, zP1 (l := l)]
@[go_sem] theorem zAa4 {l : List α} {k : Int} : (mkL f l k).1.take l.length = (mkL f l k).1 := List.take_of_length_le (by rw [zP1]; exact Nat.le_refl _)
end
def cp2 {α : Type} (f g : α → List T) (l : List α) (j : Nat) : List (List T) := (l.take j).map f ++ (l.drop j).map g
section
variable {α : Type} [Inhabited α] {f g : α → List T} {l : List α} {j : Nat}
theorem zUz : cp2 f g l 0 = l.map g := by simp [cp2]
theorem zV1 (h : j = l.length) : cp2 f g l j = l.map f := by subst h; simp [cp2]
theorem zP2 : (cp2 f g l j).length = l.length := by simp [cp2]; omega
theorem zV2 (h : j < l.length) : (cp2 f g l j).getD j [] = g (nth l j) := by
 simp [cp2, List.getD_eq_getElem?_getD, List.getElem?_append, Nat.min_eq_left (Nat.le_of_lt h), nth, List.getD, List.getElem?_eq_getElem h]
theorem zXc {k : Nat} (h : j < l.length) {r : List T} : ((cp2 f g l k).set j r).getD j [] = r := by
 have : j < (cp2 f g l k).length := by rw [zP2]; exact h
 simp [List.getD_eq_getElem?_getD, this]
theorem zV3 (h : j < l.length) {r : List T} (hr : r = f (nth l j)) : (cp2 f g l j).set j r = cp2 f g l (j + 1) := by
 subst hr
 have e : l.drop j = nth l j :: l.drop (j + 1) := by rw [zBd h]; exact List.drop_eq_getElem_cons h
 have e2 : l.take (j + 1) = l.take j ++ [nth l j] := zAI h
 simp only [cp2, e, e2, List.map_append, List.map_cons, List.map_nil, List.append_assoc, List.singleton_append]
 rw [List.set_append_right _ _ (by simp; omega)]
 simp [Nat.min_eq_left (Nat.le_of_lt h)]
theorem zV4 {id : Nat} (hf : ∀ x, zAH id (f x)) (hg : ∀ x, zAH id (g x)) : zAA id (cp2 f g l j) := by
 rw [cp2, zIt, zF1, zF1]
 exact ⟨fun x _ => hf x, fun x _ => hg x⟩
end
theorem zDU {α : Type} {f : α → List T} {l : List α} {k : Nat} {r : List T} (h : k < l.length) : ((l.map f).set k r).getD k [] = r := by
 simp [List.getD_eq_getElem?_getD, h]
attribute [go_sem] Nat.reduceEqDiff Nat.reduceAdd Nat.reduceSub Nat.reduceMul Nat.reduceLT Nat.reduceLeDiff Int.reduceToNat reduceCtorEq
attribute [go_sem] zVV getD_map zVZ zV0 zAG
attribute [go_sem ↓] reduceIte
theorem zAe {d : Nat} {rows : List (List T)} {i : Nat} {r : List T} (h1 : zAA d rows) (h2 : zAH d r) : zAA d (rows.set i r) := (zMx h1 h2).2 trivial
theorem zAl {rows : List (List T)} {i : Nat} {r : List T} (h1 : zAy rows) (h2 : zAD r) : zAy (rows.set i r) := (zSL h1 h2).2 trivial
theorem nf : (∀ (p : Prop) [Decidable p], (decide p = true) = p) ∧ (∀ (p : Prop) [Decidable p], (decide p = false) = ¬p) ∧ (∀ a b : Int, (¬a < b) = (b ≤ a)) ∧ (∀ a b : Int, (¬a ≤ b) = (b < a)) ∧ (∀ a b : Int, (a ≥ b) = (b ≤ a)) ∧ (∀ a b : Int, (a > b) = (b < a)) ∧ (∀ a b : Nat, (a ≥ b) = (b ≤ a)) ∧ (∀ a b : Nat, (a > b) = (b < a)) ∧ (∀ b : Bool, ((!b) = true) = (b = false)) ∧ (∀ b : Bool, ((!b) = false) = (b = true)) ∧ (∀ m n : Nat, ((m : Int) < n) = (m < n)) ∧ (∀ m n : Nat, ((m : Int) ≤ n) = (m ≤ n)) ∧ (∀ (α : Type) [BEq α] [LawfulBEq α] (a b : α), ((a == b) = true) = (a = b)) ∧ (∀ (α : Type) [BEq α] [LawfulBEq α] (a b : α), ((a != b) = true) = (a ≠ b)) ∧ (∀ (α : Type) [BEq α] [LawfulBEq α] (a b : α), ((a == b) = false) = (a ≠ b)) ∧ (∀ (α : Type) [BEq α] [LawfulBEq α] (a b : α), ((a != b) = false) = (a = b)) := by
 refine ⟨fun p _ => ?_, fun p _ => ?_, fun a b => ?_, fun a b => ?_, fun a b => ?_, fun a b => ?_, fun a b => ?_, fun a b => ?_, fun b => ?_, fun b => ?_, fun m n => ?_, fun m n => ?_, fun α _ _ a b => ?_, fun α _ _ a b => ?_, fun α _ _ a b => ?_, fun α _ _ a b => ?_⟩ <;> simp
namespace K
def t (n : Nat) : Operand := .tmp n
def k (n : Int) : Operand := .const (.int .i64 n)
def ff : Operand := .const (.bool false)
def tt : Operand := .const (.bool true)
def o (d : Nat) (i : I) : IN := ⟨some d, none, i⟩
def g (d c : Nat) (b : Bool) (i : I) : IN := ⟨some d, some (c, b), i⟩
def u (i : I) : IN := ⟨none, none, i⟩
def m (d a : Nat) : IN := ⟨some d, none, .mv (.tmp a)⟩
def mg (d c : Nat) (b : Bool) (a : Nat) : IN := ⟨some d, some (c, b), .mv (.tmp a)⟩
@[go_sem] theorem t_eq (n : Nat) : t n = .tmp n := rfl
@[go_sem] theorem k_eq (n : Int) : k n = .const (.int .i64 n) := rfl
@[go_sem] theorem ff_eq : ff = .const (.bool false) := rfl
@[go_sem] theorem tt_eq : tt = .const (.bool true) := rfl
@[go_sem] theorem o_eq (d : Nat) (i : I) : o d i = ⟨some d, none, i⟩ := rfl
@[go_sem] theorem g_eq (d c : Nat) (b : Bool) (i : I) : g d c b i = ⟨some d, some (c, b), i⟩ := rfl
@[go_sem] theorem u_eq (i : I) : u i = ⟨none, none, i⟩ := rfl
@[go_sem] theorem m_eq (d a : Nat) : m d a = ⟨some d, none, .mv (.tmp a)⟩ := rfl
@[go_sem] theorem mg_eq (d c : Nat) (b : Bool) (a : Nat) : mg d c b a = ⟨some d, some (c, b), .mv (.tmp a)⟩ := rfl
abbrev hF (P : Program) (n : Nat) : Option Stmt := (P.funcs[n]?).bind (fun fn => fn.body.bind (comp P fn.ntmps))
abbrev rF (P : Program) (n : Nat) : Option (List ResultVar × Nat) := (P.funcs[n]?).map (fun fn => (fn.results.toList, fn.ntmps))
end K
end Go.Am

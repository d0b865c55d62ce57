import Derived.Test.YthaildflhjfikaaGreatDoorAmQuiet
set_option linter.all false
namespace Go.Am
open Go Go.RowKit
def wp1 (P : Program) (E : Env) (i : IN) (K : St → Prop) (s : St) : Prop :=
 match zAe s i.i with
 | some (p, t) => p ∧ K (s.put i.dst t)
 | none => zAp P E i K s
def gd (c b : Bool) (A B : St → Prop) (s : St) : Prop := (c = b → A s) ∧ ((!c) = b → B s)
def skO (f : (St → Prop) → St → Prop) (d : Option Nat) (K : St → Prop) (s : St) : Prop := f K (s.put d (.tup []))
def wpO (P : Program) (E : Env) : List IN → (St → Prop) → St → Prop
 | [], K, s => K s
 | i :: r, K, s =>
  match i.g with
  | none => wp1 P E i (wpO P E r K) s
  | some (t, b) =>
   match lk t s.slots with
   | some (.v (.bool c)) => gd c b (wp1 P E i (wpO P E r K)) (skO (wpO P E r) i.dst K) s
   | some (.tup []) => skO (wpO P E r) i.dst K s
   | _ => False
def zKD (f : (Exit → St → Prop) → St → Prop) (Q : Exit → St → Prop) : Exit → St → Prop
 | .normal, s => f Q s
 | e, s => Q e s
def zMo (P : Program) (i : IN) (K : St → Prop) (s : St) : Prop :=
 match zAe s i.i with
 | some (p, t) => p ∧ K (s.put i.dst t)
 | none => zHT P i K s
def wpQ (P : Program) : List IN → (St → Prop) → St → Prop
 | [], K, s => K s
 | i :: r, K, s =>
  match i.g with
  | none => zMo P i (wpQ P r K) s
  | some (t, b) =>
   match lk t s.slots with
   | some (.v (.bool c)) => gd c b (zMo P i (wpQ P r K)) (skO (wpQ P r) i.dst K) s
   | some (.tup []) => skO (wpQ P r) i.dst K s
   | _ => False
def wpS (P : Program) (E : Env) : Stmt → (Exit → St → Prop) → St → Prop
 | .skip, Q, s => Q .normal s
 | .ops l, Q, s => wpO P E l (Q .normal) s
 | .dops l, Q, s => wpQ P l (Q .normal) s
 | .rops _, _, _ => False
 | .tops _, _, _ => False
 | .seq a b, Q, s => wpS P E a (zKD (wpS P E b) Q) s
 | .cond x a b, Q, s =>
  match s.eval x with
  | some (.v (.bool t)) => gd t true (wpS P E a Q) (wpS P E b Q) s
  | _ => False
 | .loop b, Q, s => zCY P E b Q s
 | .block id b, Q, s => wpS P E b (zD4 id Q) s
 | .exit id, Q, s => Q (.exit id) s
 | .ret, Q, s => Q .ret s
def zR9 (P : Program) (E : Env) (b : Stmt) (Q : Exit → St → Prop) : Exit → St → Prop
 | .normal, s => zCY P E b Q s
 | e, s => Q e s
def zFY (P : Program) (rvs : List ResultVar) (us : List T) (R : T → List T → Prop) (s : St) : Prop :=
 match zHS P s rvs with
 | some rs =>
  match pkL s (rs ++ us) with
  | some (l, ids, c) => c ∧ ids.Nodup ∧ R (zFA (l.take rs.length)) (l.drop rs.length)
  | none => False
 | none => False
section
variable {P : Program} {E : Env} {s : St}
theorem zLn {i : IN} {K K' : St → Prop} (hK : ∀ s, K s → K' s) (h : zMo P i K s) : zHT P i K' s := by
 unfold zMo at h
 split at h
 ·rename_i p t hp
  exact .inl ⟨p, t, hp, h.1, hK _ h.2⟩
 ·rcases h with ⟨p, t, h1, h2, h3⟩ | ⟨f, xs, ts, us, vw, c, x, h1, h2, h3, h4, h5, h6⟩
  ·exact .inl ⟨p, t, h1, h2, hK _ h3⟩
  ·exact .inr ⟨f, xs, ts, us, vw, c, x, h1, h2, h3, h4, h5, hK _ h6⟩
theorem zFb : ∀ {l : List IN} {K : St → Prop} {s : St}, wpQ P l K s → OkQ P l K s
 | [], K, s, h => h
 | i :: r, K, s, h => by
  simp only [wpQ] at h
  simp only [OkQ]
  split at h
  ·rename_i hg
   simp only [hg]
   exact zLn (fun _ h => zFb h) h
  ·rename_i t b hg
   simp only [hg]
   split at h
   ·rename_i c hl
    refine .inl ⟨c, hl, fun e => zLn (fun _ h => zFb h) (h.1 e), fun e => zFb (h.2 ?_)⟩
    cases c <;> cases b <;> simp at e ⊢
   ·rename_i hl
    exact .inr ⟨hl, zFb h⟩
   ·exact h.elim
theorem zFY.ok {rvs : List ResultVar} {us : List T} {R : T → List T → Prop} (h : zFY P rvs us R s) : zOu P rvs us R s := by
 unfold zFY at h
 split at h
 ·rename_i rs h1
  split at h
  ·rename_i l ids c h2
   exact ⟨rs, l, ids, c, h1, h2, h.1, h.2.1, h.2.2⟩
  ·exact h.elim
 ·exact h.elim
def zKE (P : Program) (rvs : List ResultVar) (us : List T) (R : T → List T → Prop) : Exit → St → Prop
 | .normal, s => zFY P rvs us R s
 | .ret, s => zFY P rvs us R s
 | _, _ => False
def zAJ (s : St) (j : Nat) : List T → List T
 | [] => []
 | _ :: ts => (match lk j s.slots with | some t => t | none => .any) :: zAJ s (j + 1) ts
theorem zE0 : ∀ (args : List T) (s : St) (j : Nat), zAJ s j args = (List.range args.length).map fun i => (lk (j + i) s.slots).getD .any
 | [], s, j => rfl
 | t :: ts, s, j => by
  simp only [zAJ, List.length_cons, List.range_succ_eq_map, List.map_cons, List.map_map, Nat.add_zero]
  rw [zE0 ts s (j + 1)]
  congr 1
  ·cases lk j s.slots <;> rfl
  ·apply List.map_congr_left
   intro i _
   simp only [Function.comp]
   rw [show j + 1 + i = j + (i + 1) from by omega]
theorem zAbv {A B : St → Prop} : gd true true A B s = A s := by simp [gd]
theorem zAbw {A B : St → Prop} : gd false true A B s = B s := by simp [gd]
theorem zAbx {A B : St → Prop} : gd true false A B s = B s := by simp [gd]
theorem zAby {A B : St → Prop} : gd false false A B s = A s := by simp [gd]
theorem zAg {c : Bool} {A B : St → Prop} (h1 : c = true → A s) (h2 : c = false → B s) : gd c true A B s := ⟨h1, fun e => h2 (by cases c <;> simp at e ⊢)⟩
theorem zAh {c : Bool} {A B : St → Prop} (h1 : c = true → B s) (h2 : c = false → A s) : gd c false A B s := ⟨h2, fun e => h1 (by cases c <;> simp at e ⊢)⟩
attribute [go_sem] zAbv zAbw zAbx zAby
def aft (P : Program) (E : Env) (i : IN) (K : St → Prop) (s : St) : Option (Prop × T) → Prop
 | some (p, t) => p ∧ K (s.put i.dst t)
 | none => zAp P E i K s
def zSa (P : Program) (i : IN) (K : St → Prop) (s : St) : Option (Prop × T) → Prop
 | some (p, t) => p ∧ K (s.put i.dst t)
 | none => zHT P i K s
def grd (o : Option T) (b : Bool) (A B : St → Prop) (s : St) : Prop :=
 match o with
 | some (.v (.bool c)) => gd c b A B s
 | some (.tup []) => B s
 | _ => False
def grc (o : Option T) (A B : St → Prop) (s : St) : Prop :=
 match o with
 | some (.v (.bool c)) => gd c true A B s
 | _ => False
@[go_sem] theorem e_grc {c : Bool} {A B : St → Prop} {s : St} : grc (some (.v (.bool c))) A B s = gd c true A B s := rfl
@[go_sem] theorem zAfX {b : Bool} {A B : St → Prop} {s : St} : grd (some (.tup [])) b A B s = B s := rfl
def zSb (R : T → List T → Prop) (n : Nat) : Option (List T × List Nat × Prop) → Prop
 | some (l, ids, c) => c ∧ ids.Nodup ∧ R (zFA (l.take n)) (l.drop n)
 | none => False
def zSc (us : List T) (R : T → List T → Prop) (s : St) : Option (List T) → Prop
 | some rs => zSb R rs.length (pkL s (rs ++ us))
 | none => False
@[go_sem] theorem zAbZ {P : Program} {E : Env} {s : St} {K : St → Prop} {Q : Exit → St → Prop} : wpO P E [] K s = K s := rfl
@[go_sem] theorem zAbz {P : Program} {E : Env} {s : St} {K : St → Prop} {Q : Exit → St → Prop} {d : Option Nat} {i : I} {r : List IN} : wpO P E (⟨d, none, i⟩ :: r) K s = aft P E ⟨d, none, i⟩ (wpO P E r K) s (zAe s i) := rfl
@[go_sem] theorem zAbA {P : Program} {E : Env} {s : St} {K : St → Prop} {Q : Exit → St → Prop} {d : Option Nat} {i : I} {r : List IN} {t : Nat} {b : Bool} : wpO P E (⟨d, some (t, b), i⟩ :: r) K s = grd (lk t s.slots) b (wp1 P E ⟨d, some (t, b), i⟩ (wpO P E r K)) (skO (wpO P E r) d K) s := rfl
@[go_sem] theorem e_wp1 {P : Program} {E : Env} {s : St} {K : St → Prop} {i : IN} : wp1 P E i K s = aft P E i K s (zAe s i.i) := rfl
@[go_sem] theorem zAfY {P : Program} {s : St} {K : St → Prop} {i : IN} : zMo P i K s = zSa P i K s (zAe s i.i) := rfl
@[go_sem] theorem e_skO {f : (St → Prop) → St → Prop} {d : Option Nat} {K : St → Prop} {s : St} : skO f d K s = f K (s.put d (.tup [])) := rfl
@[go_sem] theorem e_grd {c b : Bool} {A B : St → Prop} {s : St} : grd (some (.v (.bool c))) b A B s = gd c b A B s := rfl
@[go_sem] theorem zAbB {P : Program} {E : Env} {s : St} {K : St → Prop} {Q : Exit → St → Prop} {i : IN} {p : Prop} {t : T} : aft P E i K s (some (p, t)) = (p ∧ K (s.put i.dst t)) := rfl
@[go_sem] theorem zAbC {P : Program} {E : Env} {s : St} {K : St → Prop} {Q : Exit → St → Prop} {i : IN} : aft P E i K s none = zAp P E i K s := rfl
@[go_sem] theorem zAb0 {P : Program} {E : Env} {s : St} {K : St → Prop} {Q : Exit → St → Prop} : wpQ P [] K s = K s := rfl
@[go_sem] theorem zAbD {P : Program} {E : Env} {s : St} {K : St → Prop} {Q : Exit → St → Prop} {d : Option Nat} {i : I} {r : List IN} : wpQ P (⟨d, none, i⟩ :: r) K s = zSa P ⟨d, none, i⟩ (wpQ P r K) s (zAe s i) := rfl
@[go_sem] theorem zAbE {P : Program} {E : Env} {s : St} {K : St → Prop} {Q : Exit → St → Prop} {d : Option Nat} {i : I} {r : List IN} {t : Nat} {b : Bool} : wpQ P (⟨d, some (t, b), i⟩ :: r) K s = grd (lk t s.slots) b (zMo P ⟨d, some (t, b), i⟩ (wpQ P r K)) (skO (wpQ P r) d K) s := rfl
@[go_sem] theorem zAbe {P : Program} {E : Env} {s : St} {K : St → Prop} {Q : Exit → St → Prop} {i : IN} {p : Prop} {t : T} : zSa P i K s (some (p, t)) = (p ∧ K (s.put i.dst t)) := rfl
@[go_sem] theorem zAbf {P : Program} {E : Env} {s : St} {K : St → Prop} {Q : Exit → St → Prop} {i : IN} : zSa P i K s none = zHT P i K s := rfl
@[go_sem] theorem zAbF {P : Program} {E : Env} {s : St} {K : St → Prop} {Q : Exit → St → Prop} : wpS P E (.skip) Q s = Q .normal s := rfl
@[go_sem] theorem zAb1 {P : Program} {E : Env} {s : St} {K : St → Prop} {Q : Exit → St → Prop} {l : List IN} : wpS P E (.ops l) Q s = wpO P E l (Q .normal) s := rfl
@[go_sem] theorem zAbG {P : Program} {E : Env} {s : St} {K : St → Prop} {Q : Exit → St → Prop} {l : List IN} : wpS P E (.dops l) Q s = wpQ P l (Q .normal) s := rfl
@[go_sem] theorem zAb2 {P : Program} {E : Env} {s : St} {K : St → Prop} {Q : Exit → St → Prop} {a b : Am.Stmt} : wpS P E (.seq a b) Q s = wpS P E a (zKD (wpS P E b) Q) s := rfl
@[go_sem] theorem zAbH {P : Program} {E : Env} {s : St} {K : St → Prop} {Q : Exit → St → Prop} {x : Operand} {a b : Am.Stmt} : wpS P E (.cond x a b) Q s = grc (s.eval x) (wpS P E a Q) (wpS P E b Q) s := rfl
@[go_sem] theorem zAbI {P : Program} {E : Env} {s : St} {K : St → Prop} {Q : Exit → St → Prop} {b : Am.Stmt} : wpS P E (.loop b) Q s = zCY P E b Q s := rfl
@[go_sem] theorem zAbg {P : Program} {E : Env} {s : St} {K : St → Prop} {Q : Exit → St → Prop} {id : Nat} {b : Am.Stmt} : wpS P E (.block id b) Q s = wpS P E b (zD4 id Q) s := rfl
@[go_sem] theorem zAbJ {P : Program} {E : Env} {s : St} {K : St → Prop} {Q : Exit → St → Prop} {id : Nat} : wpS P E (.exit id) Q s = Q (.exit id) s := rfl
@[go_sem] theorem zAb3 {P : Program} {E : Env} {s : St} {K : St → Prop} {Q : Exit → St → Prop} : wpS P E (.ret) Q s = Q .ret s := rfl
@[go_sem] theorem zAcf {P : Program} {E : Env} {s : St} {K : St → Prop} {Q : Exit → St → Prop} {f : (Exit → St → Prop) → St → Prop} : zKD f Q .normal s = f Q s := rfl
@[go_sem] theorem zAcg {P : Program} {E : Env} {s : St} {K : St → Prop} {Q : Exit → St → Prop} {f : (Exit → St → Prop) → St → Prop} : zKD f Q .ret s = Q .ret s := rfl
@[go_sem] theorem zAch {P : Program} {E : Env} {s : St} {K : St → Prop} {Q : Exit → St → Prop} {f : (Exit → St → Prop) → St → Prop} {id : Nat} : zKD f Q (.exit id) s = Q (.exit id) s := rfl
@[go_sem] theorem zAb4 {P : Program} {E : Env} {s : St} {K : St → Prop} {Q : Exit → St → Prop} {b : Am.Stmt} : zR9 P E b Q .normal s = zCY P E b Q s := rfl
@[go_sem] theorem zAb5 {P : Program} {E : Env} {s : St} {K : St → Prop} {Q : Exit → St → Prop} {b : Am.Stmt} : zR9 P E b Q .ret s = Q .ret s := rfl
@[go_sem] theorem zAb6 {P : Program} {E : Env} {s : St} {K : St → Prop} {Q : Exit → St → Prop} {b : Am.Stmt} {id : Nat} : zR9 P E b Q (.exit id) s = Q (.exit id) s := rfl
@[go_sem] theorem zAbK {P : Program} {E : Env} {s : St} {K : St → Prop} {Q : Exit → St → Prop} {id : Nat} : zD4 id Q .normal s = Q .normal s := rfl
@[go_sem] theorem zAbL {P : Program} {E : Env} {s : St} {K : St → Prop} {Q : Exit → St → Prop} {id : Nat} : zD4 id Q .ret s = Q .ret s := rfl
@[go_sem] theorem zAbM {P : Program} {E : Env} {s : St} {K : St → Prop} {Q : Exit → St → Prop} {id id' : Nat} : zD4 id Q (.exit id') s = if id' = id then Q .normal s else Q (.exit id') s := rfl
@[go_sem] theorem zAci {P : Program} {E : Env} {s : St} {K : St → Prop} {Q : Exit → St → Prop} {rvs : List ResultVar} {us : List T} {R : T → List T → Prop} : zKE P rvs us R .normal s = zSc us R s (zHS P s rvs) := rfl
@[go_sem] theorem zAcj {P : Program} {E : Env} {s : St} {K : St → Prop} {Q : Exit → St → Prop} {rvs : List ResultVar} {us : List T} {R : T → List T → Prop} : zKE P rvs us R .ret s = zSc us R s (zHS P s rvs) := rfl
@[go_sem] theorem zAfm {s : St} {us : List T} {R : T → List T → Prop} {rs : List T} : zSc us R s (some rs) = zSb R rs.length (pkL s (rs ++ us)) := rfl
@[go_sem] theorem zAfn {R : T → List T → Prop} {n : Nat} {l : List T} {ids : List Nat} {c : Prop} : zSb R n (some (l, ids, c)) = (c ∧ ids.Nodup ∧ R (zFA (l.take n)) (l.drop n)) := rfl
theorem zYq {us : List T} (h : E.pins.map (·.1) = us) {d : Nat} (hd : zAB d us) : E.okd d := by
 intro p hp
 have : p.1 ∈ us := by rw [← h]; exact List.mem_map.2 ⟨p, hp, rfl⟩
 revert this
 generalize p.1 = t
 clear h hp
 induction us with
 | nil => intro h; cases h
 | cons u us ih =>
  intro ht
  simp only [zAB] at hd
  rcases List.mem_cons.1 ht with rfl | ht
  ·exact hd.1
  ·exact ih hd.2 ht
attribute [go_sem] zAe ldT St.eval St.put St.set lk T.ofV T.ofV1 zOJ zHS zR8 pkL pkT zDA zGt zFA T.packed zAw T.bare T.bare0 zBo zAM zBt bound zHJ eqV zCe zDK T.cells T.plainV zAu
def zDa : List T → List (Bool × T)
 | [] => []
 | t :: ts => (false, t) :: zDa ts
theorem zMp : ∀ ts : List T, zDa ts = (ts.map fun _ => false).zip ts
 | [] => rfl
 | t :: ts => by simp [zDa, zMp ts]
theorem zNt {s0 s : St} : ∀ (ts : List T) (l : List T), bkL s0 s ((ts.map fun _ => false).zip ts) l = (s, True ∧ True) ∨ bkL s0 s ((ts.map fun _ => false).zip ts) l = (s, True) ∨ ((bkL s0 s ((ts.map fun _ => false).zip ts) l).1 = s ∧ (bkL s0 s ((ts.map fun _ => false).zip ts) l).2)
 | [], l => by simp [bkL]
 | t :: ts, [] => by simp [bkL]
 | t :: ts, u :: us => by
  right; right
  simp only [List.map_cons, List.zip_cons_cons, bkL]
  rcases zNt (s0 := s0) (s := s) ts us with h | h | h
  ·simp [h]
  ·simp [h]
  ·simp only [Bool.false_eq_true, if_false]; exact ⟨h.1, trivial, h.2⟩
theorem zLo {s0 s : St} (ts l : List T) : (bkL s0 s ((ts.map fun _ => false).zip ts) l).1 = s ∧ (bkL s0 s ((ts.map fun _ => false).zip ts) l).2 := by
 rcases zNt (s0 := s0) (s := s) ts l with h | h | h
 ·simp [h]
 ·simp [h]
 ·exact h
theorem zFq : ∀ (ts l : List T), zBM (ts.map fun _ => false) l
 | [], _ => by simp [zBM]
 | t :: ts, [] => by simp [zBM]
 | t :: ts, u :: us => by simp only [List.map_cons, zBM]; exact zFq ts us
theorem zVs {d : Option Nat} {g : Option (Nat × Bool)} {K : St → Prop} {f : Nat} {xs : List Operand} {ts us : List T} {vw : List Nat} {c : Prop} {R : T → List T → Prop} (hev : zBo s xs = some ts) (hp : zBB s (zDa ts) = some (us, [], vw, c)) (hc : c) (hC : ACall P f us R) (hokd : E.okdO d)
  (hK : ∀ r l, R r l → (vw = [] ∨ r.noSh) ∧ zFa s d r ∧ K (s.unpO d r)) : zAp P E ⟨d, g, .call f xs⟩ K s := by
 rw [zMp] at hp
 refine zQY (ts.map fun _ => false) rfl hev (by simp) hp hc (by simp) (by simp) hC hokd fun r l hR => ?_
 obtain ⟨k1, k2, k3⟩ := hK r l hR
 obtain ⟨b1, b2⟩ := zLo (s0 := s) (s := delL s []) ts l
 refine ⟨k1.imp id (fun h => ⟨h, zFq ts l⟩), b2, ?_, ?_⟩
 ·rw [b1]; exact k2
 ·rw [b1]; exact k3
theorem zXd {d : Nat} {g : Option (Nat × Bool)} {K : St → Prop} {x : Operand} {t : T} {row : List T} (hx : s.eval x = some t) (hc : t.cells = some row) (hp : t.plainV = true) (hpi : E.okd d) (hno : zAk d s.objs) (hself : zAB d row)
  (hK : K ((s.new d ⟨row.length, [row]⟩).set d (.ptr d 0 0))) : zAp P E ⟨some d, g, .box x⟩ K s := zYj rfl rfl hx hc hp hpi hno hself hK
theorem zTS {d : Nat} {g : Option (Nat × Bool)} {K : St → Prop} {z : Value} (hpi : E.okd d) (hno : zAk d s.objs)
  (hK : K ((s.new d ⟨(zAu z).length, [zAu z]⟩).set d (.ptr d 0 0))) : zAp P E ⟨some d, g, .alloc z⟩ K s := zVo rfl rfl hpi hno (zGW d z) hK
theorem zTT {g : Option (Nat × Bool)} {K : St → Prop} {n : Nat} {x v : Operand} {id j q : Nat} {ob : Ob} {t : T} {cs : List T} (hx : s.eval x = some (.ptr id j q)) (ho : lk id s.objs = some ob) (hv : s.eval v = some t) (hc : t.cells = some cs)
  (hn : cs.length = n) (hp : t.plainV = true) (hs : cs.all T.storable = true) (hj : j < ob.rows.length) (hq : q + n ≤ ob.k)
  (hK : K (s.upd id ⟨ob.k, zCP ob.rows j q cs⟩)) : zAp P E ⟨none, g, .store n x v⟩ K s := zVp rfl hx ho hv hc hn hp hs hj hq rfl hK
theorem zXe {g : Option (Nat × Bool)} {K : St → Prop} {k n d : Nat} {z : Value} {parts : List (Nat × Operand)} {l : List (Nat × Nat × T)} {flat : List T} (hl : zC5 s k parts = some l) (hv : l.all (fun q => q.2.2.plainV) = true)
  (hf : zDK (List.replicate (n * k) .any) l = some flat) (hlen : flat.length = n * k) (hpi : E.okd d) (hno : zAk d s.objs) (hself : zAt d (chunks k n flat)) (hK : K ((s.new d ⟨k, chunks k n flat⟩).set d (.ref d 0 n))) : zAp P E ⟨some d, g, .bsl k z n parts⟩ K s :=
 zYk rfl rfl hl hv hf hlen hpi hno hself hK
attribute [go_sem] zDa zBB St.new kill T.noMb zGr zAk St.del Am.del St.upd zCP chunks zC5 List.length_set List.getD_cons_zero List.getD_cons_succ List.set_cons_zero List.set_cons_succ bne_self_eq_false vwT zDL zD6 vwO zDB T.opn zMm zAB T.noM St.unpO zFa zHP
attribute [go_sem] zAJ st0 zLm St.unp zAo zCk zA9 zBf List.map_cons List.map_nil Option.getD_some Option.getD_none
attribute [go_sem] List.all_cons List.all_nil Bool.and_self List.singleton_append T.storable T.leaf T.sh T.okLeaf T.okT
attribute [go_sem] List.take_succ_cons List.take_zero List.drop_succ_cons List.drop_zero List.length_cons List.length_nil List.append_nil List.nil_append List.cons_append List.nodup_nil List.nodup_cons Option.map_some Option.map_none true_and and_true cond_true cond_false Bool.not_true Bool.not_false Bool.true_and Bool.and_true Bool.false_and Bool.and_false Bool.true_or Bool.or_true Bool.false_or Bool.or_false
def zCN : List Bool → List T → List (Bool × T)
 | m :: ms, t :: ts => (m, t) :: zCN ms ts
 | _, _ => []
theorem zHq : ∀ (ms : List Bool) (ts : List T), zCN ms ts = ms.zip ts
 | [], ts => by simp [zCN]
 | m :: ms, [] => by simp [zCN]
 | m :: ms, t :: ts => by simp [zCN, zHq ms ts]
def zKF (ow vw : List Nat) : Bool := ow.all fun i => vw.all fun j => i != j
def nodupB : List Nat → Bool
 | [] => true
 | i :: l => l.all (fun j => i != j) && nodupB l
theorem zIT : ∀ {l : List Nat}, nodupB l = true → l.Nodup
 | [], _ => List.nodup_nil
 | i :: l, h => by
  simp only [nodupB, Bool.and_eq_true, List.all_eq_true, bne_iff_ne] at h
  exact List.nodup_cons.2 ⟨fun hm => h.1 i hm rfl, zIT h.2⟩
theorem zVt (modes : List Bool) {d : Option Nat} {g : Option (Nat × Bool)} {K : St → Prop} {f : Nat} {xs : List Operand} {ts us : List T} {ow vw : List Nat} {c : Prop} {R : T → List T → Prop} (hev : zBo s xs = some ts) (hp : zBB s (zCN modes ts) = some (us, ow, vw, c)) (hm : Nat.beq modes.length ts.length = true) (hnd : nodupB ow = true) (hdis : zKF ow vw = true) (hc : c) (hokd : E.okdO d) (hC : ACall P f us R)
  (hK : ∀ r l, R r l → (vw = [] ∨ (r.noSh ∧ zBM modes l)) ∧ (bkL s (delL s ow) (zCN modes ts) l).2 ∧ zFa (bkL s (delL s ow) (zCN modes ts) l).1 d r ∧ K ((bkL s (delL s ow) (zCN modes ts) l).1.unpO d r)) : zAp P E ⟨d, g, .call f xs⟩ K s := by
 rw [zHq] at hp
 refine zQY modes rfl hev (Nat.eq_of_beq_eq_true hm) hp hc (zIT hnd) ?_ hC hokd fun r l hR => ?_
 ·intro i hi hj
  simp only [zKF, List.all_eq_true, bne_iff_ne] at hdis
  exact hdis i hi i hj rfl
 ·have := hK r l hR
  rwa [zHq] at this
def zVu (I : St → Prop) (Q : Exit → St → Prop) : Exit → St → Prop
 | .normal, s => I s
 | e, s => Q e s
@[go_sem] theorem zAck {I : St → Prop} {Q : Exit → St → Prop} : zVu I Q .normal s = I s := rfl
@[go_sem] theorem zAcl {I : St → Prop} {Q : Exit → St → Prop} : zVu I Q .ret s = Q .ret s := rfl
@[go_sem] theorem zAcm {I : St → Prop} {Q : Exit → St → Prop} {id : Nat} : zVu I Q (.exit id) s = Q (.exit id) s := rfl
attribute [go_sem] List.not_mem_nil not_false_eq_true true_or List.mem_cons or_self or_false false_or Nat.blt_eq List.getElem?_cons_zero List.getElem?_cons_succ implies_true beq_self_eq_true bne_self_eq_false
attribute [go_sem] zCN delL bkL bkT zE9 zGu zBM St.unpO zFa zHP zAo T.noSh
end
end Go.Am

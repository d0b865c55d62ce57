/- Short forms of the steps of a walk, and of compiled statements. -/
import Derived.Test.YthaildflhjfikaaGreatDoorAmRaw
set_option linter.all false
namespace Go.Am
open Go K
instance (n : Nat) : OfNat Operand n := ⟨.tmp (OfNat.ofNat n)⟩
@[go_sem] theorem ofT (n : Nat) : (OfNat.ofNat n : Operand) = .tmp (OfNat.ofNat n) := rfl
namespace K
def L (d x : Nat) : IN := ⟨some d, none, .load none (.tmp x)⟩
def F (d n x : Nat) : IN := ⟨some d, none, .fa n (.tmp x)⟩
def A (d k x i : Nat) : IN := ⟨some d, none, .ia k (.tmp x) (.tmp i)⟩
def W (n x v : Nat) : IN := ⟨none, none, .store n (.tmp x) (.tmp v)⟩
def Y (d x : Nat) : IN := ⟨some d, none, .lens (.tmp x)⟩
def v (d : Nat) (x : Operand) : IN := ⟨some d, none, .mv x⟩
def q (l : List IN) (b : AS) : AS := .seq (.ops l) b
@[go_sem] theorem L_eq (d x : Nat) : L d x = ⟨some d, none, .load none (.tmp x)⟩ := rfl
@[go_sem] theorem F_eq (d n x : Nat) : F d n x = ⟨some d, none, .fa n (.tmp x)⟩ := rfl
@[go_sem] theorem A_eq (d k x i : Nat) : A d k x i = ⟨some d, none, .ia k (.tmp x) (.tmp i)⟩ := rfl
@[go_sem] theorem W_eq (n x v : Nat) : W n x v = ⟨none, none, .store n (.tmp x) (.tmp v)⟩ := rfl
@[go_sem] theorem Y_eq (d x : Nat) : Y d x = ⟨some d, none, .lens (.tmp x)⟩ := rfl
@[go_sem] theorem v_eq (d : Nat) (x : Operand) : v d x = ⟨some d, none, .mv x⟩ := rfl
@[go_sem] theorem q_eq (l : List IN) (b : AS) : q l b = .seq (.ops l) b := rfl
def gF (d s : Nat) (b : Bool) (n x : Nat) : IN := ⟨some d, some (s, b), .fa n (.tmp x)⟩
def gA (d s : Nat) (b : Bool) (k x i : Nat) : IN := ⟨some d, some (s, b), .ia k (.tmp x) (.tmp i)⟩
def gL (d s : Nat) (b : Bool) (x : Nat) : IN := ⟨some d, some (s, b), .load none (.tmp x)⟩
def gB (d s : Nat) (b : Bool) (op : BinOp) (x y : Operand) : IN := ⟨some d, some (s, b), .bin op x y⟩
def gC (d s : Nat) (b : Bool) (f : Nat) (l : List Operand) : IN := ⟨some d, some (s, b), .call f l⟩
def B (d : Nat) (op : BinOp) (x y : Operand) : IN := ⟨some d, none, .bin op x y⟩
def c (d f : Nat) (l : List Operand) : IN := ⟨some d, none, .call f l⟩
@[go_sem] theorem gF_eq (d s : Nat) (b : Bool) (n x : Nat) : gF d s b n x = ⟨some d, some (s, b), .fa n (.tmp x)⟩ := rfl
@[go_sem] theorem gA_eq (d s : Nat) (b : Bool) (k x i : Nat) : gA d s b k x i = ⟨some d, some (s, b), .ia k (.tmp x) (.tmp i)⟩ := rfl
@[go_sem] theorem gL_eq (d s : Nat) (b : Bool) (x : Nat) : gL d s b x = ⟨some d, some (s, b), .load none (.tmp x)⟩ := rfl
@[go_sem] theorem gB_eq (d s : Nat) (b : Bool) (op : BinOp) (x y : Operand) : gB d s b op x y = ⟨some d, some (s, b), .bin op x y⟩ := rfl
@[go_sem] theorem gC_eq (d s : Nat) (b : Bool) (f : Nat) (l : List Operand) : gC d s b f l = ⟨some d, some (s, b), .call f l⟩ := rfl
@[go_sem] theorem B_eq (d : Nat) (op : BinOp) (x y : Operand) : B d op x y = ⟨some d, none, .bin op x y⟩ := rfl
@[go_sem] theorem c_eq (d f : Nat) (l : List Operand) : c d f l = ⟨some d, none, .call f l⟩ := rfl
def hr (P : Program) (n : Nat) : Option (Stmt × List ResultVar × Nat) := (P.funcs[n]?).bind fun fn => (fn.body.bind (comp P fn.ntmps)).map fun s => (s, fn.results.toList, fn.ntmps)
abbrev ho (c : AS) (r : List ResultVar) (k : Nat) : Option (Stmt × List ResultVar × Nat) := some (c.strip, r, k)
end K
theorem hqA {P : Program} {n k : Nat} {c : Stmt} {r : List ResultVar} (h : hr P n = some (c, r, k)) : hF P n = some c := by
  unfold hr at h; unfold hF
  cases e : P.funcs[n]? with
  | none => rw [e] at h; cases h
  | some fn => rw [e] at h; simp only [Option.bind_some, Option.map_eq_some_iff, Prod.mk.injEq] at h ⊢; obtain ⟨s, h1, rfl, -⟩ := h; exact h1
theorem hqB {P : Program} {n k : Nat} {c : Stmt} {r : List ResultVar} (h : hr P n = some (c, r, k)) : rF P n = some (r, k) := by
  unfold hr at h; unfold rF
  cases e : P.funcs[n]? with
  | none => rw [e] at h; cases h
  | some fn => rw [e] at h; simp only [Option.bind_some, Option.map_eq_some_iff, Prod.mk.injEq, Option.map_some, Option.some.injEq] at h ⊢; obtain ⟨s, h1, -, h2, h3⟩ := h; exact ⟨h2, h3⟩
theorem fi {P : Program} {f : Nat} {st : AS} {rvs : List ResultVar} {nt : Nat} {args : List T} {R : T → List T → Prop} (h : hr P f = some (st.strip, rvs, nt)) (H : ∀ E : Env, (∀ d, E.okd d ↔ zAB d (zAJ (st0 args) 0 args)) → (∀ B, E.okHi B ↔ ltL B (zAJ (st0 args) 0 args)) → wsS P E st (zKE P rvs (zAJ (st0 args) 0 args) (zEC R)) (st0 args)) (g : args.length ≤ nt ∧ zFf ⟨[], []⟩ 0 args := by simp only [go_sem]) : ACall P f args R := zLB (hqA h) (hqB h) ⟨g, H⟩
theorem st {p q : Prop} (h : q) (e : p = q := by simp (disch := omega) only [go_sem, hE, hH]; rfl) : p := e ▸ h
theorem sb {p q : Prop} (h : q) (e : p = q := by simp (disch := omega) only [go_sem, hE, hH, hb]; rfl) : p := e ▸ h
theorem gs {p Q a b : Prop} (h1 : Q → b) (q : p = Q := by first | (simp only [nf]; rfl) | rfl) (e : p → a = b := by intro hb; have h := hb; (try simp only [nf] at h); simp (disch := omega) only [go_sem, hE, hH, hb]; rfl) : p → a := fun x => (e x).symm ▸ h1 (q ▸ x)
attribute [go_sem] cond_true cond_false
theorem ga {c b : Bool} {A B : St → Prop} {s : St} (h1 : c = true → cond b (A s) (B s)) (h2 : c = false → cond b (B s) (A s)) : gd c b A B s := by cases b <;> cases c <;> simp [gd] at h1 h2 ⊢ <;> assumption
theorem ti : True := True.intro
theorem fg {P : Program} {f : Nat} {st : AS} {rvs : List ResultVar} {nt : Nat} {args : List T} {R : T → List T → Prop} {o1 o2 : Nat → Prop} (h : hr P f = some (st.strip, rvs, nt)) (H : ∀ E : Env, (∀ d, E.okd d ↔ o1 d) → (∀ B, E.okHi B ↔ o2 B) → wsS P E st (zKE P rvs (zAJ (st0 args) 0 args) (zEC R)) (st0 args)) (g : args.length ≤ nt ∧ zFf ⟨[], []⟩ 0 args := by simp only [go_sem]) (e1 : ∀ d, zAB d (zAJ (st0 args) 0 args) = o1 d := by intro d; simp only [go_sem]; rfl) (e2 : ∀ B, ltL B (zAJ (st0 args) 0 args) = o2 B := by intro B; simp only [go_sem]; rfl) : ACall P f args R := fi h (fun E a b => H E (fun d => (a d).trans (e1 d ▸ Iff.rfl)) (fun B => (b B).trans (e2 B ▸ Iff.rfl))) g
theorem an {p q : Prop} (h : p) (k : q) : p ∧ q := ⟨h, k⟩
theorem sh {p q : Prop} (k : q) (e : p = q := by simp (disch := omega) only [go_sem, hE, hH, h]; rfl) : p := e ▸ k
theorem s1 {p q : Prop} (h : q) (e : p = q := by simp only [go_sem, hE, hH]; rfl) : p := e ▸ h
theorem fe {p : Prop} (h : p := by refine zA4 ?_; (try (simp (disch := omega) only [go_sem, hE, hH])); first | done | rfl) : p := h
theorem fj {p : Prop} (h : p := by (with_reducible apply zA4); (try (simp (disch := omega) only [go_sem, hE, hH])); first | done | rfl) : p := h
theorem fm {p : Prop} (h : p := by (first | apply zAN | apply zBs) <;> (simp only [go_sem, hE, hH]; done)) : p := h
theorem zWM {p q : Prop} (h : q) (e : p = q := by simp (disch := omega) only [go_sem, hE, hH, zAv hcap, zAC hcap, zAx hcap, zAH hcap, zAy hcap]; rfl) : p := e ▸ h
theorem zWN {p Q a b : Prop} (h1 : Q → b) (q : p = Q := by first | (simp only [nf]; rfl) | rfl) (e : p → a = b := by intro hb; have h := hb; (try simp only [nf] at h); simp (disch := omega) only [go_sem, hE, hH, zAv hcap, zAC hcap, zAx hcap, zAH hcap, zAy hcap, hb]; rfl) : p → a := fun x => (e x).symm ▸ h1 (q ▸ x)
theorem zWO {p q : Prop} (h : q) (e : p = q := by simp only [go_sem, hE, hH, zAv hcap, zAC hcap, zAx hcap, zAH hcap, zAy hcap]; rfl) : p := e ▸ h
theorem zWP {p : Prop} (h : p := by refine zA4 ?_; (try (simp (disch := omega) only [go_sem, hE, hH, zAv hcap, zAC hcap, zAx hcap, zAH hcap, zAy hcap])); first | done | rfl) : p := h
theorem fj1_ {p : Prop} (h : p := by (with_reducible apply zA4); (try (simp (disch := omega) only [go_sem, hE, hH, zAv hcap, zAC hcap, zAx hcap, zAH hcap, zAy hcap])); first | done | rfl) : p := h
theorem zWQ {p : Prop} (h : p := by (first | apply zAN | apply zBs) <;> (simp only [go_sem, hE, hH, zAv hcap, zAC hcap, zAx hcap, zAH hcap, zAy hcap]; done)) : p := h
theorem zTv {p q : Prop} (h : q) (e : p = q := by simp (disch := omega) only [go_sem, hE, hH, y1_, y2_, y3_, y4_, y5_, hF, y6_, y7_, y8_, y9_, y10_, y11_, y12_, y13_, y14_, y15_, y16_, y17_, y18_, y19_, y20_, y21_, y22_, y23_, y24_, y25_, List.take_length, List.length_drop, Nat.add_sub_cancel_left, List.length_take, Nat.min_eq_left hn, Nat.min_self]; rfl) : p := e ▸ h
theorem zTw {p Q a b : Prop} (h1 : Q → b) (q : p = Q := by first | (simp only [nf]; rfl) | rfl) (e : p → a = b := by intro hb; have h := hb; (try simp only [nf] at h); simp (disch := omega) only [go_sem, hE, hH, y1_, y2_, y3_, y4_, y5_, hF, y6_, y7_, y8_, y9_, y10_, y11_, y12_, y13_, y14_, y15_, y16_, y17_, y18_, y19_, y20_, y21_, y22_, y23_, y24_, y25_, List.take_length, List.length_drop, Nat.add_sub_cancel_left, List.length_take, Nat.min_eq_left hn, Nat.min_self, hb]; rfl) : p → a := fun x => (e x).symm ▸ h1 (q ▸ x)
theorem zTx {p q : Prop} (h : q) (e : p = q := by simp only [go_sem, hE, hH, y1_, y2_, y3_, y4_, y5_, hF, y6_, y7_, y8_, y9_, y10_, y11_, y12_, y13_, y14_, y15_, y16_, y17_, y18_, y19_, y20_, y21_, y22_, y23_, y24_, y25_, List.take_length, List.length_drop, Nat.add_sub_cancel_left, List.length_take, Nat.min_eq_left hn, Nat.min_self]; rfl) : p := e ▸ h
theorem zTy {p : Prop} (h : p := by refine zA4 ?_; (try (simp (disch := omega) only [go_sem, hE, hH, y1_, y2_, y3_, y4_, y5_, hF, y6_, y7_, y8_, y9_, y10_, y11_, y12_, y13_, y14_, y15_, y16_, y17_, y18_, y19_, y20_, y21_, y22_, y23_, y24_, y25_, List.take_length, List.length_drop, Nat.add_sub_cancel_left, List.length_take, Nat.min_eq_left hn, Nat.min_self])); first | done | rfl) : p := h
theorem fj2_ {p : Prop} (h : p := by (with_reducible apply zA4); (try (simp (disch := omega) only [go_sem, hE, hH, y1_, y2_, y3_, y4_, y5_, hF, y6_, y7_, y8_, y9_, y10_, y11_, y12_, y13_, y14_, y15_, y16_, y17_, y18_, y19_, y20_, y21_, y22_, y23_, y24_, y25_, List.take_length, List.length_drop, Nat.add_sub_cancel_left, List.length_take, Nat.min_eq_left hn, Nat.min_self])); first | done | rfl) : p := h
theorem zTz {p : Prop} (h : p := by (first | apply zAN | apply zBs) <;> (simp only [go_sem, hE, hH, y1_, y2_, y3_, y4_, y5_, hF, y6_, y7_, y8_, y9_, y10_, y11_, y12_, y13_, y14_, y15_, y16_, y17_, y18_, y19_, y20_, y21_, y22_, y23_, y24_, y25_, List.take_length, List.length_drop, Nat.add_sub_cancel_left, List.length_take, Nat.min_eq_left hn, Nat.min_self]; done)) : p := h
theorem st3_ {p q : Prop} (h : q) (e : p = q := by simp (disch := omega) only [go_sem, hE, hH, y1_, hF, y2_, y3_, y4_, y5_, y6_, y7_, y8_, y9_, y10_, y11_, y12_, y13_, y14_, y15_, y16_, y17_, y18_, y19_, y20_, y21_, List.take_length, List.length_drop, Nat.add_sub_cancel_left, List.length_take, Nat.min_eq_left hn, Nat.min_self]; rfl) : p := e ▸ h
theorem gs3_ {p Q a b : Prop} (h1 : Q → b) (q : p = Q := by first | (simp only [nf]; rfl) | rfl) (e : p → a = b := by intro hb; have h := hb; (try simp only [nf] at h); simp (disch := omega) only [go_sem, hE, hH, y1_, hF, y2_, y3_, y4_, y5_, y6_, y7_, y8_, y9_, y10_, y11_, y12_, y13_, y14_, y15_, y16_, y17_, y18_, y19_, y20_, y21_, List.take_length, List.length_drop, Nat.add_sub_cancel_left, List.length_take, Nat.min_eq_left hn, Nat.min_self, hb]; rfl) : p → a := fun x => (e x).symm ▸ h1 (q ▸ x)
theorem s13_ {p q : Prop} (h : q) (e : p = q := by simp only [go_sem, hE, hH, y1_, hF, y2_, y3_, y4_, y5_, y6_, y7_, y8_, y9_, y10_, y11_, y12_, y13_, y14_, y15_, y16_, y17_, y18_, y19_, y20_, y21_, List.take_length, List.length_drop, Nat.add_sub_cancel_left, List.length_take, Nat.min_eq_left hn, Nat.min_self]; rfl) : p := e ▸ h
theorem fe3_ {p : Prop} (h : p := by refine zA4 ?_; (try (simp (disch := omega) only [go_sem, hE, hH, y1_, hF, y2_, y3_, y4_, y5_, y6_, y7_, y8_, y9_, y10_, y11_, y12_, y13_, y14_, y15_, y16_, y17_, y18_, y19_, y20_, y21_, List.take_length, List.length_drop, Nat.add_sub_cancel_left, List.length_take, Nat.min_eq_left hn, Nat.min_self])); first | done | rfl) : p := h
theorem fj3_ {p : Prop} (h : p := by (with_reducible apply zA4); (try (simp (disch := omega) only [go_sem, hE, hH, y1_, hF, y2_, y3_, y4_, y5_, y6_, y7_, y8_, y9_, y10_, y11_, y12_, y13_, y14_, y15_, y16_, y17_, y18_, y19_, y20_, y21_, List.take_length, List.length_drop, Nat.add_sub_cancel_left, List.length_take, Nat.min_eq_left hn, Nat.min_self])); first | done | rfl) : p := h
theorem fm3_ {p : Prop} (h : p := by (first | apply zAN | apply zBs) <;> (simp only [go_sem, hE, hH, y1_, hF, y2_, y3_, y4_, y5_, y6_, y7_, y8_, y9_, y10_, y11_, y12_, y13_, y14_, y15_, y16_, y17_, y18_, y19_, y20_, y21_, List.take_length, List.length_drop, Nat.add_sub_cancel_left, List.length_take, Nat.min_eq_left hn, Nat.min_self]; done)) : p := h
theorem zAR {p q : Prop} (h : q) (e : p = q := by simp (disch := omega) only [go_sem, hE, hH, y1_]; rfl) : p := e ▸ h
theorem zCO {p Q a b : Prop} (h1 : Q → b) (q : p = Q := by first | (simp only [nf]; rfl) | rfl) (e : p → a = b := by intro hb; have h := hb; (try simp only [nf] at h); simp (disch := omega) only [go_sem, hE, hH, y1_, hb]; rfl) : p → a := fun x => (e x).symm ▸ h1 (q ▸ x)
theorem zCG {p q : Prop} (h : q) (e : p = q := by simp only [go_sem, hE, hH, y1_]; rfl) : p := e ▸ h
theorem zJE {p : Prop} (h : p := by refine zA4 ?_; (try (simp (disch := omega) only [go_sem, hE, hH, y1_])); first | done | rfl) : p := h
theorem zES {p : Prop} (h : p := by (with_reducible apply zA4); (try (simp (disch := omega) only [go_sem, hE, hH, y1_])); first | done | rfl) : p := h
theorem zCH {p : Prop} (h : p := by (first | apply zAN | apply zBs) <;> (simp only [go_sem, hE, hH, y1_]; done)) : p := h
theorem zB7 {p q : Prop} (h : q) (e : p = q := by simp (disch := omega) only [go_sem, hE, hH, y1_, y2_, y3_]; rfl) : p := e ▸ h
theorem zGn {p Q a b : Prop} (h1 : Q → b) (q : p = Q := by first | (simp only [nf]; rfl) | rfl) (e : p → a = b := by intro hb; have h := hb; (try simp only [nf] at h); simp (disch := omega) only [go_sem, hE, hH, y1_, y2_, y3_, hb]; rfl) : p → a := fun x => (e x).symm ▸ h1 (q ▸ x)
theorem zGo {p q : Prop} (h : q) (e : p = q := by simp only [go_sem, hE, hH, y1_, y2_, y3_]; rfl) : p := e ▸ h
theorem fe5_ {p : Prop} (h : p := by refine zA4 ?_; (try (simp (disch := omega) only [go_sem, hE, hH, y1_, y2_, y3_])); first | done | rfl) : p := h
theorem zHj {p : Prop} (h : p := by (with_reducible apply zA4); (try (simp (disch := omega) only [go_sem, hE, hH, y1_, y2_, y3_])); first | done | rfl) : p := h
theorem zGp {p : Prop} (h : p := by (first | apply zAN | apply zBs) <;> (simp only [go_sem, hE, hH, y1_, y2_, y3_]; done)) : p := h
theorem zDb {p q : Prop} (h : q) (e : p = q := by simp (disch := omega) only [go_sem, hE, hH, y1_, y2_, y3_, y4_, y5_]; rfl) : p := e ▸ h
theorem zK8 {p Q a b : Prop} (h1 : Q → b) (q : p = Q := by first | (simp only [nf]; rfl) | rfl) (e : p → a = b := by intro hb; have h := hb; (try simp only [nf] at h); simp (disch := omega) only [go_sem, hE, hH, y1_, y2_, y3_, y4_, y5_, hb]; rfl) : p → a := fun x => (e x).symm ▸ h1 (q ▸ x)
theorem zK9 {p q : Prop} (h : q) (e : p = q := by simp only [go_sem, hE, hH, y1_, y2_, y3_, y4_, y5_]; rfl) : p := e ▸ h
theorem fe6_ {p : Prop} (h : p := by refine zA4 ?_; (try (simp (disch := omega) only [go_sem, hE, hH, y1_, y2_, y3_, y4_, y5_])); first | done | rfl) : p := h
theorem zLa {p : Prop} (h : p := by (with_reducible apply zA4); (try (simp (disch := omega) only [go_sem, hE, hH, y1_, y2_, y3_, y4_, y5_])); first | done | rfl) : p := h
theorem zLb {p : Prop} (h : p := by (first | apply zAN | apply zBs) <;> (simp only [go_sem, hE, hH, y1_, y2_, y3_, y4_, y5_]; done)) : p := h
theorem zTA {p q : Prop} (h : q) (e : p = q := by simp (disch := omega) only [go_sem, hE, hH, y1_, y2_, y3_, y4_, y5_, y6_, y7_, y8_, y9_, y10_, y11_, y12_, y13_, y14_, y15_, y16_, y17_, y18_, y19_, y20_]; rfl) : p := e ▸ h
theorem zTB {p Q a b : Prop} (h1 : Q → b) (q : p = Q := by first | (simp only [nf]; rfl) | rfl) (e : p → a = b := by intro hb; have h := hb; (try simp only [nf] at h); simp (disch := omega) only [go_sem, hE, hH, y1_, y2_, y3_, y4_, y5_, y6_, y7_, y8_, y9_, y10_, y11_, y12_, y13_, y14_, y15_, y16_, y17_, y18_, y19_, y20_, hb]; rfl) : p → a := fun x => (e x).symm ▸ h1 (q ▸ x)
theorem zTC {p q : Prop} (h : q) (e : p = q := by simp only [go_sem, hE, hH, y1_, y2_, y3_, y4_, y5_, y6_, y7_, y8_, y9_, y10_, y11_, y12_, y13_, y14_, y15_, y16_, y17_, y18_, y19_, y20_]; rfl) : p := e ▸ h
theorem fe7_ {p : Prop} (h : p := by refine zA4 ?_; (try (simp (disch := omega) only [go_sem, hE, hH, y1_, y2_, y3_, y4_, y5_, y6_, y7_, y8_, y9_, y10_, y11_, y12_, y13_, y14_, y15_, y16_, y17_, y18_, y19_, y20_])); first | done | rfl) : p := h
theorem zTD {p : Prop} (h : p := by (with_reducible apply zA4); (try (simp (disch := omega) only [go_sem, hE, hH, y1_, y2_, y3_, y4_, y5_, y6_, y7_, y8_, y9_, y10_, y11_, y12_, y13_, y14_, y15_, y16_, y17_, y18_, y19_, y20_])); first | done | rfl) : p := h
theorem zTE {p : Prop} (h : p := by (first | apply zAN | apply zBs) <;> (simp only [go_sem, hE, hH, y1_, y2_, y3_, y4_, y5_, y6_, y7_, y8_, y9_, y10_, y11_, y12_, y13_, y14_, y15_, y16_, y17_, y18_, y19_, y20_]; done)) : p := h
theorem zFu {p q : Prop} (h : q) (e : p = q := by simp (disch := omega) only [go_sem, hE, hH, y1_, y2_, y3_, y4_]; rfl) : p := e ▸ h
theorem zJF {p Q a b : Prop} (h1 : Q → b) (q : p = Q := by first | (simp only [nf]; rfl) | rfl) (e : p → a = b := by intro hb; have h := hb; (try simp only [nf] at h); simp (disch := omega) only [go_sem, hE, hH, y1_, y2_, y3_, y4_, hb]; rfl) : p → a := fun x => (e x).symm ▸ h1 (q ▸ x)
theorem zJG {p q : Prop} (h : q) (e : p = q := by simp only [go_sem, hE, hH, y1_, y2_, y3_, y4_]; rfl) : p := e ▸ h
theorem fe8_ {p : Prop} (h : p := by refine zA4 ?_; (try (simp (disch := omega) only [go_sem, hE, hH, y1_, y2_, y3_, y4_])); first | done | rfl) : p := h
theorem zJH {p : Prop} (h : p := by (with_reducible apply zA4); (try (simp (disch := omega) only [go_sem, hE, hH, y1_, y2_, y3_, y4_])); first | done | rfl) : p := h
theorem zJI {p : Prop} (h : p := by (first | apply zAN | apply zBs) <;> (simp only [go_sem, hE, hH, y1_, y2_, y3_, y4_]; done)) : p := h
theorem zBn {p q : Prop} (h : q) (e : p = q := by simp (disch := omega) only [go_sem, hE, hH, y1_, y2_]; rfl) : p := e ▸ h
theorem zDR {p Q a b : Prop} (h1 : Q → b) (q : p = Q := by first | (simp only [nf]; rfl) | rfl) (e : p → a = b := by intro hb; have h := hb; (try simp only [nf] at h); simp (disch := omega) only [go_sem, hE, hH, y1_, y2_, hb]; rfl) : p → a := fun x => (e x).symm ▸ h1 (q ▸ x)
theorem zDS {p q : Prop} (h : q) (e : p = q := by simp only [go_sem, hE, hH, y1_, y2_]; rfl) : p := e ▸ h
theorem fe9_ {p : Prop} (h : p := by refine zA4 ?_; (try (simp (disch := omega) only [go_sem, hE, hH, y1_, y2_])); first | done | rfl) : p := h
theorem zDT {p : Prop} (h : p := by (with_reducible apply zA4); (try (simp (disch := omega) only [go_sem, hE, hH, y1_, y2_])); first | done | rfl) : p := h
theorem zDU {p : Prop} (h : p := by (first | apply zAN | apply zBs) <;> (simp only [go_sem, hE, hH, y1_, y2_]; done)) : p := h
theorem zDd {p q : Prop} (h : q) (e : p = q := by simp (disch := omega) only [go_sem, hE, hH, y1_, y2_, y3_, y4_, y5_, y6_]; rfl) : p := e ▸ h
theorem zIi {p Q a b : Prop} (h1 : Q → b) (q : p = Q := by first | (simp only [nf]; rfl) | rfl) (e : p → a = b := by intro hb; have h := hb; (try simp only [nf] at h); simp (disch := omega) only [go_sem, hE, hH, y1_, y2_, y3_, y4_, y5_, y6_, hb]; rfl) : p → a := fun x => (e x).symm ▸ h1 (q ▸ x)
theorem zIj {p q : Prop} (h : q) (e : p = q := by simp only [go_sem, hE, hH, y1_, y2_, y3_, y4_, y5_, y6_]; rfl) : p := e ▸ h
theorem fe10_ {p : Prop} (h : p := by refine zA4 ?_; (try (simp (disch := omega) only [go_sem, hE, hH, y1_, y2_, y3_, y4_, y5_, y6_])); first | done | rfl) : p := h
theorem zIk {p : Prop} (h : p := by (with_reducible apply zA4); (try (simp (disch := omega) only [go_sem, hE, hH, y1_, y2_, y3_, y4_, y5_, y6_])); first | done | rfl) : p := h
theorem zIl {p : Prop} (h : p := by (first | apply zAN | apply zBs) <;> (simp only [go_sem, hE, hH, y1_, y2_, y3_, y4_, y5_, y6_]; done)) : p := h
def k1_ : Nat := 1
@[go_sem, simp] theorem k1_eq : k1_ = 1 := rfl
def k2_ : Nat := 2
@[go_sem, simp] theorem k2_eq : k2_ = 2 := rfl
def k3_ : Nat := 3
@[go_sem, simp] theorem k3_eq : k3_ = 3 := rfl
def k4_ : Nat := 4
@[go_sem, simp] theorem k4_eq : k4_ = 4 := rfl
def k5_ : Nat := 5
@[go_sem, simp] theorem k5_eq : k5_ = 5 := rfl
def k6_ : Nat := 6
@[go_sem, simp] theorem k6_eq : k6_ = 6 := rfl
def k8_ : Nat := 8
@[go_sem, simp] theorem k8_eq : k8_ = 8 := rfl
def zTF : Nat := 10
@[go_sem, simp] theorem zAgt : zTF = 10 := rfl
set_option maxRecDepth 20000 in
theorem Q1_ {p : Prop} (h : p := by
 obtain ⟨w_Key, w_Val⟩ := hw
 have hm := zAf
 refine fg z0_ fun E hE hH => ?_; simp only [go_sem, hE, hH, zLK]
 try refine st ?_; try exact ⟨⟩
 first | refine zAg (fun h => ?_) (fun h => ?_) | refine zAh (fun h => ?_) (fun h => ?_)
 ·have hb := h
  simp only [nf] at h
  try refine sb ?_; try exact ⟨⟩
  exact ⟨_, rfl, by omega, by omega⟩
 have hb := h
 simp only [nf] at h
 try refine sb ?_; try exact ⟨⟩
 have p0 : 0 ≤ left - (x.Key.size : Int) := by omega
 clear h hb
 try refine st ?_; try exact ⟨⟩
 first | refine zAg (fun h => ?_) (fun h => ?_) | refine zAh (fun h => ?_) (fun h => ?_)
 ·have hb := h
  simp only [nf] at h
  try refine sb ?_; try exact ⟨⟩
  exact ⟨_, rfl, by omega, by omega⟩
 have hb := h
 simp only [nf] at h
 try refine sb ?_; try exact ⟨⟩
 have p1 : 0 ≤ (left - (x.Key.size : Int)) - (x.Val.size : Int) := by omega
 clear h hb
 exact ⟨_, rfl, by omega, fun _ => by unfold z1_; omega⟩) : p := h
set_option maxRecDepth 20000 in
theorem Q2_ {p : Prop} (h : p := by
 obtain ⟨hl, hx⟩ := hw
 have hm := zAf
 refine fg z0_ fun E hE hH => ?_; simp only [go_sem, hE, hH, z1_]
 try refine st ?_; try exact ⟨⟩
 repeat' (first | ((with_reducible apply ga) <;> refine gs fun h => ?_) | ((with_reducible apply an); · omega) | refine jn _ ?_ ?_ | (with_reducible first | apply both | apply an | exact ti) | exact fe | refine st ?_ | exact fm | refine s1 ?_)
 ·exact ⟨_, rfl, by omega, by omega⟩
 ·exact ⟨_, rfl, by omega, by omega⟩) : p := h
set_option maxRecDepth 20000 in
theorem Q3_ {p : Prop} (h : p := by
 obtain ⟨hl, hx⟩ := hw
 have hm := zAf
 refine fg z0_ fun E hE hH => ?_; simp only [go_sem, hE, hH, z1_]
 try refine st ?_; try exact ⟨⟩
 repeat' (first | ((with_reducible apply ga) <;> refine gs fun h => ?_) | ((with_reducible apply an); · omega) | refine jn _ ?_ ?_ | (with_reducible first | apply both | apply an | exact ti) | exact fe | refine st ?_ | exact fm | refine s1 ?_)
 ·exact ⟨_, rfl, by omega, by omega⟩
 refine zAs l.length (fun j (n : Int) => ⟨[(0, .sl false z2_ (l.map (z3_ false))), (1, i64 n), (5, i64 j)], []⟩) (fun j n => 0 ≤ n ∧ n ≤ left ∧ n + l.length + zG2 (z4_) l j = left) (left - (l.length : Int)) (by rw [zJd]; omega) ?_
 intro j n hj hI
 obtain ⟨i1, i0, i2⟩ := hI
 try simp only [go_sem, hE, hH, z5_]
 first | refine zAg (fun h => ?_) (fun h => ?_) | refine zAh (fun h => ?_) (fun h => ?_)
 ·have hb := h
  simp only [nf] at h
  have hlt := h; clear h
  have hs := hx _ (zAc hlt)
  try refine sb ?_; try exact ⟨⟩
  repeat refine And.intro (by omega) ?_
  refine zAa ?_; simp (disch := omega) only [go_sem, hE, hH]; refine cvA (z6_ (nth l j) n i1 (by omega) hs) ?_
  try simp only [go_sem, hE, hH]
  refine zAF ?_
  rintro r k ⟨q, rfl, q1, q2⟩
  try refine st ?_; try exact ⟨⟩
  repeat' (first | ((with_reducible apply ga) <;> refine gs fun h => ?_) | ((with_reducible apply an); · omega) | refine jn _ ?_ ?_ | (with_reducible first | apply both | apply an | exact ti) | exact fe | refine st ?_ | exact fm | refine s1 ?_)
  ·exact ⟨_, rfl, by omega, by omega⟩
  ·exact ⟨_, rfl, by omega, by omega, by have q2 := q2 (by omega); rw [zJe hlt]; omega⟩
 ·have hb := h
  simp only [nf] at h
  try refine sb ?_; try exact ⟨⟩
  exact ⟨_, rfl, by omega, fun _ => by rw [zKV (by omega)] at i2; rw [show szL (z4_) l = l.length + (l.map (z4_)).sum from rfl]; omega⟩) : p := h
set_option maxRecDepth 20000 in
theorem Q4_ {p : Prop} (h : p := by
 unfold z0_ at hs
 refine fg z1_ fun E hE hH => ?_; simp only [go_sem, hE, hH, z2_]
 repeat' (first | ((with_reducible apply ga) <;> refine gs fun h => ?_) | ((with_reducible apply an); · omega) | refine jn _ ?_ ?_ | (with_reducible first | apply both | apply an | exact ti) | exact fe | refine st ?_ | exact fm | refine s1 ?_)) : p := h
set_option maxRecDepth 20000 in
theorem Q5_ {p : Prop} (h : p := by
 have hl0 : l.length ≤ 2 ^ 20 := Nat.le_trans zCh hl
 refine fg z0_ fun E hE hH => ?_; simp only [go_sem, hE, hH, zH5]
 refine And.intro (by omega) ?_
 rw [zB4 (z1_ true)]
 refine zAs l.length (fun j (_ : Unit) => ⟨[(0, .sl false 3 (l.map (z1_ false))), (3, .ref 4000000 0 l.length), (4, i64 j)], [(4000000, ⟨3, cpy (z1_ true) [str ⟨⟨[]⟩⟩, str ⟨⟨[]⟩⟩, bl false] l j⟩)]⟩) (fun _ _ => True) () trivial ?_
 intro j _ hj _
 try simp only [go_sem, hE, hH, zHx]
 first | refine zAg (fun h => ?_) (fun h => ?_) | refine zAh (fun h => ?_) (fun h => ?_)
 ·have hb := h
  simp only [nf] at h
  have hlt := h; clear h
  have hs := Nat.le_trans (zCp (f := z2_) (zAc hlt)) hl
  try simp (disch := omega) only [go_sem, hE, hH, hb, zAL, zAA]
  repeat' (first | ((with_reducible apply ga) <;> refine gs fun h => ?_) | ((with_reducible apply an); · omega) | ((first | refine zAa ?_ | refine cvA (z3_ _ (by assumption)) ?_); refine st ?_) | refine jn _ ?_ ?_ | (with_reducible first | apply both | apply an | exact ti) | exact fe | refine st ?_ | exact fm | refine s1 ?_)
  try simp (disch := omega) only [go_sem, hE, hH, zAL, zAA]
  repeat refine And.intro (by omega) ?_
  try simp (disch := omega) only [go_sem, hE, hH, zAL, zAA]
  repeat refine And.intro (by omega) ?_
  first | refine ⟨(), ?_, trivial⟩ | refine ⟨(), ?_⟩ | skip
  have hc := zB5 (f := z1_ true) (z := [str ⟨⟨[]⟩⟩, str ⟨⟨[]⟩⟩, bl false]) hlt
  simp only [z4_] at hc ⊢
  rw [hc]
  rfl
 ·have hb := h
  simp only [nf] at h
  try simp (disch := omega) only [go_sem, hE, hH, hb, zCq]) : p := h
set_option maxRecDepth 20000 in
theorem Q6_ {p : Prop} (h : p := by
 unfold z0_ at hs
 refine fg z1_ fun E hE hH => ?_; simp only [go_sem, hE, hH, z2_]
 repeat' (first | ((with_reducible apply ga) <;> refine gs fun h => ?_) | ((with_reducible apply an); · omega) | ((first | refine zAa ?_ | refine cvA (zJg _ (by omega)) ?_ | refine cvA (z3_ _ (by omega)) ?_); refine st ?_) | refine jn _ ?_ ?_ | (with_reducible first | apply both | apply an | exact ti) | exact fe | refine st ?_ | exact fm | refine s1 ?_)) : p := h
set_option maxRecDepth 20000 in
theorem Q7_ {p : Prop} (h : p := by
 unfold z0_ at hs
 refine fg z1_ fun E hE hH => ?_; simp only [go_sem, hE, hH, z2_]
 repeat' (first | ((with_reducible apply ga) <;> refine gs fun h => ?_) | ((with_reducible apply an); · omega) | ((first | refine zAa ?_ | refine cvA (z3_ _ (by omega)) ?_); refine st ?_) | refine jn _ ?_ ?_ | (with_reducible first | apply both | apply an | exact ti) | exact fe | refine st ?_ | exact fm | refine s1 ?_)) : p := h
set_option maxRecDepth 20000 in
theorem Q8_ {p : Prop} (h : p := by
 obtain ⟨hl, hx⟩ := hl
 have hm := zAf
 refine fg z0_ fun E hE hH => ?_; simp only [go_sem, hE, hH, zV4]
 repeat' (first | ((with_reducible apply ga) <;> refine gs fun h => ?_) | ((with_reducible apply an); · omega) | refine jn _ ?_ ?_ | (with_reducible first | apply both | apply an | exact ti) | exact fe | refine st ?_ | exact fm | refine s1 ?_)
 ·rw [decide_eq_false (fun e => h (by rw [e]))]
 have hlen : l.length = m.length := by omega
 clear h
 refine zAs l.length (fun j (_ : Unit) => ⟨[(0, .sl false 1 (z1_ l)), (1, .sl false 1 (z1_ m)), (5, i64 j)], []⟩) (fun j _ => decide (l = m) = decide (l.drop j = m.drop j)) () (by simp) ?_
 intro j _ hj hI
 try simp only [go_sem, hE, hH, zQ7]
 first | refine zAg (fun h => ?_) (fun h => ?_) | refine zAh (fun h => ?_) (fun h => ?_)
 ·have hb := h
  simp only [nf] at h
  have hlt := h; clear h
  have hlm : j < m.length := by omega
  rw [zMD hlt hlm] at hI
  try refine sb ?_; try exact ⟨⟩
  repeat' (first | ((with_reducible apply ga) <;> refine gs fun h => ?_) | ((with_reducible apply an); · omega) | refine jn _ ?_ ?_ | (with_reducible first | apply both | apply an | exact ti) | exact fe | refine st ?_ | exact fm | refine s1 ?_)
  ·rw [hI]; simp [h]
  ·exact ⟨(), rfl, by rw [hI]; simp [h]⟩
 ·have hb := h
  simp only [nf] at h
  try refine sb ?_; try exact ⟨⟩
  rw [hI, List.drop_of_length_le (by omega), List.drop_of_length_le (by omega)]
  rfl) : p := h
set_option maxRecDepth 20000 in
theorem Q9_ {p : Prop} (h : p := by
 obtain ⟨hl, hx⟩ := hl
 have hm := zAf
 refine fg z0_ fun E hE hH => ?_; simp only [go_sem, hE, hH, z1_]
 repeat' (first | ((with_reducible apply ga) <;> refine gs fun h => ?_) | ((with_reducible apply an); · omega) | refine jn _ ?_ ?_ | (with_reducible first | apply both | apply an | exact ti) | exact fe | refine st ?_ | exact fm | refine s1 ?_)
 ·rw [decide_eq_false (fun e => h (by rw [e]))]
 have hlen : l.length = m.length := by omega
 clear h
 refine zAs l.length (fun j (_ : Unit) => ⟨[(0, .sl false z2_ (l.map (z3_ false))), (1, .sl false z2_ (m.map (z3_ false))), (5, i64 j)], []⟩) (fun j _ => decide (l = m) = decide (l.drop j = m.drop j)) () (by simp) ?_
 intro j _ hj hI
 try simp only [go_sem, hE, hH, z4_]
 first | refine zAg (fun h => ?_) (fun h => ?_) | refine zAh (fun h => ?_) (fun h => ?_)
 ·have hb := h
  simp only [nf] at h
  have hlt := h; clear h
  have hlm : j < m.length := by omega
  rw [zMD hlt hlm] at hI
  have hs := hx _ (zAc hlt)
  try refine sb ?_; try exact ⟨⟩
  repeat' (first | ((with_reducible apply ga) <;> refine gs fun h => ?_) | ((with_reducible apply an); · omega) | ((first | refine zAa ?_ | refine cvA (z5_ _ _ (by assumption)) ?_); refine st ?_) | refine jn _ ?_ ?_ | (with_reducible first | apply both | apply an | exact ti) | exact fe | refine st ?_ | exact fm | refine s1 ?_)
  ·rw [hI]; simp [h]
  ·exact ⟨(), rfl, by rw [hI]; simp [h]⟩
 ·have hb := h
  simp only [nf] at h
  try refine sb ?_; try exact ⟨⟩
  rw [hI, List.drop_of_length_le (by omega), List.drop_of_length_le (by omega)]
  rfl) : p := h
set_option maxRecDepth 20000 in
theorem zTG {p : Prop} (h : p := by
 refine zLB (hqA z0_) (hqB z0_) ⟨by simp only [go_sem, zAv hcap, zAC hcap, zAx hcap, zAH hcap, zAy hcap], fun E hE hH => ?_⟩; simp only [go_sem, zAv hcap, zAC hcap, zAx hcap, zAH hcap, zAy hcap] at hE hH; simp only [go_sem, hE, hH, zAv hcap, zAC hcap, zAx hcap, zAH hcap, zAy hcap, z1_]
 refine zJU (fun (x : Nat × Nat) => ⟨[(0, .sl false z2_ (l.map (z3_ false))), (1, z4_ key), (2, .fn f caps), (8, i64 l.length), (9, i64 x.1), (10, i64 x.2)], []⟩) (fun x => x.1 ≤ x.2 ∧ x.2 ≤ l.length ∧ (∀ i, i < x.1 → c (nth l i) < 0) ∧ ∀ i, x.2 ≤ i → i < l.length → 0 ≤ c (nth l i)) (fun x => x.2 - x.1) (0, l.length) ⟨by simp, by simp, by simp, by simp; omega⟩ ?_
 rintro ⟨lo, hi⟩ ⟨i1, i2, i3, i4⟩
 simp only at i1 i2 i3 i4
 try simp only [go_sem, hE, hH, zAv hcap, zAC hcap, zAx hcap, zAH hcap, zAy hcap, z5_]
 first | refine zAg (fun h => ?_) (fun h => ?_) | refine zAh (fun h => ?_) (fun h => ?_)
 ·have hb := h
  simp only [nf] at h
  have hlt := h; clear h
  have e1 : IntKind.u64.wrap (lo + hi) = lo + hi := zAbW (by omega) (by omega)
  have e2 : Int.fdiv ((lo : Int) + hi) 2 = (((lo + hi) / 2 : Nat) : Int) := by rw [Int.fdiv_eq_ediv_of_nonneg _ (by omega)]; omega
  have hM : (lo + hi) / 2 < l.length := by omega
  try simp (disch := omega) only [go_sem, hE, hH, zAv hcap, zAC hcap, zAx hcap, zAH hcap, zAy hcap, hb, e1, shr1, e2]
  repeat refine And.intro (by omega) ?_
  refine zLC rfl rfl rfl (hent) (hcap) (hp _ (zAc hM)) ?_
  try simp (disch := omega) only [go_sem, hE, hH, zAv hcap, zAC hcap, zAx hcap, zAH hcap, zAy hcap]
  repeat' (first | ((with_reducible apply ga) <;> refine zWN fun h => ?_) | ((with_reducible apply an); · omega) | refine jn _ ?_ ?_ | (with_reducible first | apply both | apply an | exact ti) | exact zWP | refine zWM ?_ | exact zWQ | refine zWO ?_)
  ·refine ⟨((lo + hi) / 2 + 1, hi), rfl, ⟨by simp only; omega, i2, fun i hi' => ?_, i4⟩, by simp only; omega⟩
   simp only at hi'
   by_cases e : i = (lo + hi) / 2
   ·rw [e]; exact h
   ·have := hm i ((lo + hi) / 2) (by omega) hM
    omega
  ·refine ⟨(lo, (lo + hi) / 2), rfl, ⟨by simp only; omega, by simp only; omega, i3, fun i h1 h2 => ?_⟩, by simp only; omega⟩
   simp only at h1
   by_cases e : i = (lo + hi) / 2
   ·rw [e]; exact h
   ·exact hm ((lo + hi) / 2) i (by omega) h2 h
 ·have hb := h
  simp only [nf] at h
  have e0 : hi = lo := by omega
  subst e0
  have e3 := zYP i2 i3 i4
  try simp (disch := omega) only [go_sem, hE, hH, zAv hcap, zAC hcap, zAx hcap, zAH hcap, zAy hcap, hb]
  first | refine zAg (fun h2 => ?_) (fun h2 => ?_) | refine zAh (fun h2 => ?_) (fun h2 => ?_)
  ·have hb2 := h2
   simp only [nf] at h2
   have hlt : hi < l.length := by omega
   try simp (disch := omega) only [go_sem, hE, hH, zAv hcap, zAC hcap, zAx hcap, zAH hcap, zAy hcap, hb2]
   repeat refine And.intro (by omega) ?_
   refine zLC rfl rfl rfl (hent) (hcap) (hp _ (zAc hlt)) ?_
   try simp (disch := omega) only [go_sem, hE, hH, zAv hcap, zAC hcap, zAx hcap, zAH hcap, zAy hcap]
   simp [bsF, e3, hlt]
  ·try simp (disch := omega) only [go_sem, hE, hH, zAv hcap, zAC hcap, zAx hcap, zAH hcap, zAy hcap, h2]
   simp only [nf] at h2
   simp [bsF, e3]
   omega) : p := h
set_option maxRecDepth 20000 in
theorem zNf {p : Prop} (h : p := by
 refine fg z0_ fun E hE hH => ?_; simp only [go_sem, hE, hH, z1_]
 refine zYi ?_
 try refine st ?_; try exact ⟨⟩
 intro b hb
 cases b <;> try simp (disch := omega) only [go_sem, hE, hH]
 all_goals first | omega | (simp_all; done) | (simp_all; exact ⟨by omega, fun a _ => rfl⟩)) : p := h
set_option maxRecDepth 20000 in
theorem zIm {p : Prop} (h : p := by
 have hmx := zAf
 refine zLB (hqA z0_) (hqB z0_) ⟨by simp only [go_sem, zAv hcap, zAC hcap, zAx hcap, zAH hcap, zAy hcap], fun E hE hH => ?_⟩; simp only [go_sem, zAv hcap, zAC hcap, zAx hcap, zAH hcap, zAy hcap] at hE hH; simp only [go_sem, hE, hH, zAv hcap, zAC hcap, zAx hcap, zAH hcap, zAy hcap, z1_]
 refine zAs l.length (fun j (_ : Unit) => ⟨[(0, .sl false z2_ (l.map (z3_ false))), (1, .fn f caps), (7, i64 l.length), (8, i64 j)], []⟩) (fun j _ => zAq (fun i => !p (nth l i)) j = true) () rfl ?_
 intro j _ hj hI
 try simp only [go_sem, hE, hH, zAv hcap, zAC hcap, zAx hcap, zAH hcap, zAy hcap, z4_]
 first | refine zAg (fun h => ?_) (fun h => ?_) | refine zAh (fun h => ?_) (fun h => ?_)
 ·have hb := h
  simp only [nf] at h
  have hlt := h; clear h
  try simp (disch := omega) only [go_sem, hE, hH, zAv hcap, zAC hcap, zAx hcap, zAH hcap, zAy hcap, hb]
  refine And.intro (by omega) ?_
  refine zLC rfl rfl rfl (hent) (hcap) (hp _ (zAc hlt)) ?_
  try simp (disch := omega) only [go_sem, hE, hH, zAv hcap, zAC hcap, zAx hcap, zAH hcap, zAy hcap]
  repeat' (first | ((with_reducible apply ga) <;> refine zWN fun h => ?_) | ((with_reducible apply an); · omega) | refine jn _ ?_ ?_ | (with_reducible first | apply both | apply an | exact ti) | exact zWP | refine zWM ?_ | exact zWQ | refine zWO ?_)
  ·rw [zLF hlt hI h]
  ·exact ⟨(), rfl, zAd hI (by simp [h])⟩
 ·try simp (disch := omega) only [go_sem, hE, hH, zAv hcap, zAC hcap, zAx hcap, zAH hcap, zAy hcap, h]
  simp only [nf] at h
  rw [show j = l.length by omega] at hI
  rw [zKW hI]) : p := h
set_option maxRecDepth 20000 in
theorem Q13_ {p : Prop} (h : p := by
 have hmx := zAf
 refine zPm [true, false, false] 0 3 (l.map (z0_ true)) (hqA z1_) (hqB z1_) (by simp only [go_sem, List.mem_cons, true_or, or_true]) (by simp only [go_sem]) ⟨by simp only [go_sem], fun E hE hH c hc hF => ?_⟩; simp only [go_sem] at hE hH hc hF; simp only [go_sem, hE, hH, z2_]
 have e0 : l.length + (c - l.length) = c := by omega
 have hn : i.toNat ≤ l.length := by omega
 have t1 : ((l.length : Int) + v.length - i).toNat = l.length + v.length - i.toNat := by omega
 have t2 : (i + (v.length : Int)).toNat = i.toNat + v.length := by omega
 have t3 : ((l.length : Int) + v.length).toNat = l.length + v.length := by omega
 have t4 : i.toNat + (l.length + v.length - i.toNat) = l.length + v.length := by omega
 have t5 : l.length + v.length - (i.toNat + v.length) = l.length - i.toNat := by omega
 have t6 : min (l.length - i.toNat) (l.length + v.length - i.toNat) = l.length - i.toNat := by omega
 have t7 : i.toNat + (l.length - i.toNat) = l.length := by omega
 have a1 := zDQ (f := z0_ true) (l := l) (G := List.replicate (c - l.length) (zBv 3)) (Nat.le_refl l.length)
 have a2 := zDQ (f := z0_ true) (l := l) (G := List.replicate (c - l.length) (zBv 3)) hn
 have a3 := zMx (f := z0_ true) (l := l) (G := List.replicate (c - l.length) (zBv 3)) hn
 have a4 : v.take (l.length + v.length - i.toNat) = v := List.take_of_length_le (by omega)
 have b1 := fun z => zEA (f := z0_ true) (g := fun x => (z0_ true) x) (v := v) (z := z) hn
 have b2 := fun z => zKL (f := z0_ true) (g := fun x => (z0_ true) x) (v := v) (z := z) hn
 have b3 := fun z => zI3 (f := z0_ true) (v := v) (z := z) hn
 have b4 := zMy (f := z0_ true) (v := v) (l := l)
 have d1 := fun z hc => zF2 (f := z0_ true) (m := v.length) (c := c) (z := z) hn hc
 have d2 := fun z hc => zKM (f := z0_ true) (g := fun x => (z0_ true) x) (v := v) (c := c) (z := z) hn hc
 have d3 := fun z hc => zKN (f := z0_ true) (v := v) (c := c) (z := z) hn hc
 have t8 : min (l.length + v.length - i.toNat) v.length = v.length := by omega
 have t9 : i.toNat + v.length + (l.length - i.toNat) = l.length + v.length := by omega
 simp only [go_sem] at a1 a2 a3 b1 b2 b3 b4 d1 d2 d3
 all_goals (have y1_ := e0; have y2_ := t1; have y3_ := t2; have y4_ := t3; have y5_ := t4; have y6_ := t5; have y7_ := t6; have y8_ := t7; have y9_ := t8; have y10_ := t9; have y11_ := d1; have y12_ := d2; have y13_ := d3; have y14_ := a1; have y15_ := a2; have y16_ := a3; have y17_ := a4; have y18_ := b1; have y19_ := b2; have y20_ := b3; have y21_ := b4; repeat' (first | ((with_reducible apply ga) <;> refine gs3_ fun h => ?_) | ((with_reducible apply an); · omega) | refine jn _ ?_ ?_ | (with_reducible first | apply both | apply an | exact ti) | exact fe3_ | refine st3_ ?_ | exact fm3_ | refine s13_ ?_))
 all_goals try (refine zPa rfl rfl rfl z3_ z4_ z5_ (by decide) (by simp only [List.length_map]; omega) (by simp only [go_sem]; omega) ?_)
 all_goals (have y1_ := e0; have y2_ := t1; have y3_ := t2; have y4_ := t3; have y5_ := t4; have y6_ := t5; have y7_ := t6; have y8_ := t7; have y9_ := t8; have y10_ := t9; have y11_ := d1; have y12_ := d2; have y13_ := d3; have y14_ := a1; have y15_ := a2; have y16_ := a3; have y17_ := a4; have y18_ := b1; have y19_ := b2; have y20_ := b3; have y21_ := b4; repeat' (first | ((with_reducible apply ga) <;> refine gs3_ fun h => ?_) | ((with_reducible apply an); · omega) | refine jn _ ?_ ?_ | (with_reducible first | apply both | apply an | exact ti) | exact fe3_ | refine st3_ ?_ | exact fm3_ | refine s13_ ?_))
 ·have e : v = [] := List.length_eq_zero_iff.1 (by omega)
  subst e
  rw [List.append_nil, List.take_append_drop]
 ·have e : i.toNat = l.length := by omega
  rw [e, List.take_length, List.drop_length, List.append_nil, List.map_append]
  try rfl
 all_goals omega) : p := h
set_option maxRecDepth 20000 in
theorem zHk {p : Prop} (h : p := by
 refine zLB (hqA z0_) (hqB z0_) ⟨by simp only [go_sem, zAv hcap, zAC hcap, zAx hcap, zAH hcap, zAy hcap], fun E hE hH => ?_⟩; simp only [go_sem, zAv hcap, zAC hcap, zAx hcap, zAH hcap, zAy hcap] at hE hH; simp only [go_sem, hE, hH, zAv hcap, zAC hcap, zAx hcap, zAH hcap, zAy hcap, zDp]
 refine zWW rfl (by simp only [zDa, zBB, vwT, zD6, zLE hcap, Bool.false_eq_true, if_false]; rfl) (z1_ l f caps p hent hcap hl hp) ?_
 try simp (disch := omega) only [go_sem, hE, hH, zAv hcap, zAC hcap, zAx hcap, zAH hcap, zAy hcap, zJV, zT6 hcap]) : p := h
set_option maxRecDepth 20000 in
theorem Q15_ {p : Prop} (h : p := by
 refine fg z0_ fun E hE hH => ?_; simp only [go_sem, hE, hH, z1_]
 repeat' (first | ((with_reducible apply ga) <;> refine gs fun h => ?_) | ((with_reducible apply an); · omega) | refine jn _ ?_ ?_ | (with_reducible first | apply both | apply an | exact ti) | exact fe | refine st ?_ | exact fm | refine s1 ?_)
 all_goals (simp_all [rng]; try omega)) : p := h
set_option maxRecDepth 20000 in
theorem zP9 {p : Prop} (h : p := by
 refine fg z0_ fun E hE hH => ?_; simp only [go_sem, hE, hH, z1_]
 repeat' (first | ((with_reducible apply ga) <;> refine gs fun h => ?_) | ((with_reducible apply an); · omega) | ((first | refine zAa ?_ | refine cvA (z2_ _ _) ?_); refine st ?_) | refine jn _ ?_ ?_ | (with_reducible first | apply both | apply an | exact ti) | exact fe | refine st ?_ | exact fm | refine s1 ?_)) : p := h
set_option maxRecDepth 20000 in
theorem zNg {p : Prop} (h : p := by
 refine fg z0_ fun E hE hH => ?_; simp only [go_sem, hE, hH, z1_]
 repeat' (first | ((with_reducible apply ga) <;> refine gs fun h => ?_) | ((with_reducible apply an); · omega) | ((first | refine zAa ?_ | refine cvA (z2_ _ _ _) ?_); refine st ?_) | refine jn _ ?_ ?_ | (with_reducible first | apply both | apply an | exact ti) | exact fe | refine st ?_ | exact fm | refine s1 ?_)) : p := h
set_option maxRecDepth 20000 in
theorem Q18_ {p : Prop} (h : p := by
 have hmx := zAf
 refine fg z0_ fun E hE hH => ?_; simp only [go_sem, hE, hH, z1_]
 repeat' (first | ((with_reducible apply ga) <;> refine gs fun h => ?_) | ((with_reducible apply an); · omega) | ((first | refine zAa ?_ | refine cvA (zBa _ _ _) ?_); refine st ?_) | refine jn _ ?_ ?_ | (with_reducible first | apply both | apply an | exact ti) | exact fe | refine st ?_ | exact fm | refine s1 ?_)) : p := h
set_option maxRecDepth 20000 in
theorem Q19_ {p : Prop} (h : p := by
 refine fg z0_ fun E hE hH => ?_; simp only [go_sem, hE, hH, z1_]
 repeat' (first | ((with_reducible apply ga) <;> refine gs fun h => ?_) | ((with_reducible apply an); · omega) | ((first | refine zAa ?_ | refine cvA (z2_ _ _ _) ?_); refine st ?_) | refine jn _ ?_ ?_ | (with_reducible first | apply both | apply an | exact ti) | exact fe | refine st ?_ | exact fm | refine s1 ?_)
 rfl) : p := h
set_option maxRecDepth 20000 in
theorem Q20_ {p : Prop} (h : p := by
 refine fg z0_ fun E hE hH => ?_; simp only [go_sem, hE, hH, zSC]
 repeat' (first | ((with_reducible apply ga) <;> refine gs fun h => ?_) | ((with_reducible apply an); · omega) | (with_reducible first | apply jn | apply both | apply an | exact ti) | exact fj | refine st ?_ | exact fm | refine s1 ?_)
 all_goals (first | (simp_all [zJu]; done) | (simp_all [zJu] <;> first | omega | (intros; omega)))) : p := h
set_option maxRecDepth 20000 in
theorem Q21_ {p : Prop} (h : p := by
 refine fg z0_ fun E hE hH => ?_; simp only [go_sem, hE, hH, z1_]
 repeat' (first | ((with_reducible apply ga) <;> refine gs fun h => ?_) | ((with_reducible apply an); · omega) | (with_reducible first | apply jn | apply both | apply an | exact ti) | exact fj | refine st ?_ | exact fm | refine s1 ?_)
 all_goals (first | (simp_all []; done) | (simp_all [] <;> first | omega | (intros; omega)))) : p := h
set_option maxRecDepth 20000 in
theorem Q22_ {p : Prop} (h : p := by
 have hmx := zAf
 have hl' := hl.1
 refine fg z0_ fun E hE hH => ?_; simp only [go_sem, hE, hH, z1_]
 repeat' (first | ((with_reducible apply ga) <;> refine gs fun h => ?_) | ((with_reducible apply an); · omega) | ((first | refine zAa ?_ | refine cvA (z2_ l hl) ?_); refine st ?_) | (with_reducible first | apply jn | apply both | apply an | exact ti) | exact fj | refine st ?_ | exact fm | refine s1 ?_)
 all_goals (first | (simp_all [z3_]; done) | (simp_all [z3_] <;> first | omega | (intros; omega)))) : p := h
set_option maxRecDepth 20000 in
theorem Q23_ {p : Prop} (h : p := by
 refine fg z0_ fun E hE hH => ?_; simp only [go_sem, hE, hH, z1_]
 repeat' (first | ((with_reducible apply ga) <;> refine gs fun h => ?_) | ((with_reducible apply an); · omega) | ((first | refine zAa ?_ | refine cvA (z2_ w t hw ht) ?_); refine st ?_) | refine jn _ ?_ ?_ | (with_reducible first | apply both | apply an | exact ti) | exact fe | refine st ?_ | exact fm | refine s1 ?_)) : p := h
end Go.Am

/- Short forms of the steps of a walk, and of compiled statements. -/
import Derived.Test.YtjfjakbgelikeaaGreatAmRaw
set_option linter.all false
namespace Go.Am
open Go K
instance (n : Nat) : OfNat Operand n := ⟨.tmp (OfNat.ofNat n)⟩
@[go_sem] theorem ofT (n : Nat) : (OfNat.ofNat n : Operand) = .tmp (OfNat.ofNat n) := rfl
namespace K
def L (d x : Nat) : IN := ⟨some d, none, .load none (.tmp x)⟩
def F (d n x : Nat) : IN := ⟨some d, none, .fa n (.tmp x)⟩
def A (d k x i : Nat) : IN := ⟨some d, none, .ia k (.tmp x) (.tmp i)⟩
def W (n x v : Nat) : IN := ⟨none, none, .store n (.tmp x) (.tmp v)⟩
def Y (d x : Nat) : IN := ⟨some d, none, .lens (.tmp x)⟩
def v (d : Nat) (x : Operand) : IN := ⟨some d, none, .mv x⟩
def q (l : List IN) (b : AS) : AS := .seq (.ops l) b
@[go_sem] theorem L_eq (d x : Nat) : L d x = ⟨some d, none, .load none (.tmp x)⟩ := rfl
@[go_sem] theorem F_eq (d n x : Nat) : F d n x = ⟨some d, none, .fa n (.tmp x)⟩ := rfl
@[go_sem] theorem A_eq (d k x i : Nat) : A d k x i = ⟨some d, none, .ia k (.tmp x) (.tmp i)⟩ := rfl
@[go_sem] theorem W_eq (n x v : Nat) : W n x v = ⟨none, none, .store n (.tmp x) (.tmp v)⟩ := rfl
@[go_sem] theorem Y_eq (d x : Nat) : Y d x = ⟨some d, none, .lens (.tmp x)⟩ := rfl
@[go_sem] theorem v_eq (d : Nat) (x : Operand) : v d x = ⟨some d, none, .mv x⟩ := rfl
@[go_sem] theorem q_eq (l : List IN) (b : AS) : q l b = .seq (.ops l) b := rfl
def hr (P : Program) (n : Nat) : Option (Stmt × List ResultVar × Nat) := (P.funcs[n]?).bind fun fn => (fn.body.bind (comp P fn.ntmps)).map fun s => (s, fn.results.toList, fn.ntmps)
end K
theorem hqA {P : Program} {n k : Nat} {c : Stmt} {r : List ResultVar} (h : hr P n = some (c, r, k)) : hF P n = some c := by
  unfold hr at h; unfold hF
  cases e : P.funcs[n]? with
  | none => rw [e] at h; cases h
  | some fn => rw [e] at h; simp only [Option.bind_some, Option.map_eq_some_iff, Prod.mk.injEq] at h ⊢; obtain ⟨s, h1, rfl, -⟩ := h; exact h1
theorem hqB {P : Program} {n k : Nat} {c : Stmt} {r : List ResultVar} (h : hr P n = some (c, r, k)) : rF P n = some (r, k) := by
  unfold hr at h; unfold rF
  cases e : P.funcs[n]? with
  | none => rw [e] at h; cases h
  | some fn => rw [e] at h; simp only [Option.bind_some, Option.map_eq_some_iff, Prod.mk.injEq, Option.map_some, Option.some.injEq] at h ⊢; obtain ⟨s, h1, -, h2, h3⟩ := h; exact ⟨h2, h3⟩
theorem fi {P : Program} {f : Nat} {st : AS} {rvs : List ResultVar} {nt : Nat} {args : List T} {R : T → List T → Prop} (h : hr P f = some (st.strip, rvs, nt)) (H : ∀ E : Env, (∀ d, E.okd d ↔ zAJ d (zAR (st0 args) 0 args)) → (∀ B, E.okHi B ↔ ltL B (zAR (st0 args) 0 args)) → wsS P E st (zKO P rvs (zAR (st0 args) 0 args) (zEO R)) (st0 args)) (g : args.length ≤ nt ∧ zFz ⟨[], []⟩ 0 args := by simp only [go_sem]) : ACall P f args R := zLO (hqA h) (hqB h) ⟨g, H⟩
theorem st {p q : Prop} (h : q) (e : p = q := by simp (disch := omega) only [go_sem, hE, hH]; rfl) : p := e ▸ h
theorem sb {p q : Prop} (h : q) (e : p = q := by simp (disch := omega) only [go_sem, hE, hH, hb]; rfl) : p := e ▸ h
theorem gs {p Q a b : Prop} (h1 : Q → b) (q : p = Q := by first | (simp only [nf]; rfl) | rfl) (e : p → a = b := by intro hb; have h := hb; (try simp only [nf] at h); simp (disch := omega) only [go_sem, hE, hH, hb]; rfl) : p → a := fun x => (e x).symm ▸ h1 (q ▸ x)
attribute [go_sem] cond_true cond_false
theorem ga {c b : Bool} {A B : St → Prop} {s : St} (h1 : c = true → cond b (A s) (B s)) (h2 : c = false → cond b (B s) (A s)) : gd c b A B s := by cases b <;> cases c <;> simp [gd] at h1 h2 ⊢ <;> assumption
theorem ti : True := True.intro
theorem fg {P : Program} {f : Nat} {st : AS} {rvs : List ResultVar} {nt : Nat} {args : List T} {R : T → List T → Prop} {o1 o2 : Nat → Prop} (h : hr P f = some (st.strip, rvs, nt)) (H : ∀ E : Env, (∀ d, E.okd d ↔ o1 d) → (∀ B, E.okHi B ↔ o2 B) → wsS P E st (zKO P rvs (zAR (st0 args) 0 args) (zEO R)) (st0 args)) (g : args.length ≤ nt ∧ zFz ⟨[], []⟩ 0 args := by simp only [go_sem]) (e1 : ∀ d, zAJ d (zAR (st0 args) 0 args) = o1 d := by intro d; simp only [go_sem]; rfl) (e2 : ∀ B, ltL B (zAR (st0 args) 0 args) = o2 B := by intro B; simp only [go_sem]; rfl) : ACall P f args R := fi h (fun E a b => H E (fun d => (a d).trans (e1 d ▸ Iff.rfl)) (fun B => (b B).trans (e2 B ▸ Iff.rfl))) g
theorem an {p q : Prop} (h : p) (k : q) : p ∧ q := ⟨h, k⟩
theorem sh {p q : Prop} (k : q) (e : p = q := by simp (disch := omega) only [go_sem, hE, hH, h]; rfl) : p := e ▸ k
theorem s1 {p q : Prop} (h : q) (e : p = q := by simp only [go_sem, hE, hH]; rfl) : p := e ▸ h
theorem fe {p : Prop} (h : p := by refine zAz ?_; (try (simp (disch := omega) only [go_sem, hE, hH])); first | done | rfl) : p := h
theorem fj {p : Prop} (h : p := by (with_reducible apply zAz); (try (simp (disch := omega) only [go_sem, hE, hH])); first | done | rfl) : p := h
theorem fm {p : Prop} (h : p := by (first | apply zAj | apply zAC) <;> (simp only [go_sem, hE, hH]; done)) : p := h
theorem zAu {p q : Prop} (h : q) (e : p = q := by simp (disch := omega) only [go_sem, hE, hH, y1_]; rfl) : p := e ▸ h
theorem zBC {p Q a b : Prop} (h1 : Q → b) (q : p = Q := by first | (simp only [nf]; rfl) | rfl) (e : p → a = b := by intro hb; have h := hb; (try simp only [nf] at h); simp (disch := omega) only [go_sem, hE, hH, y1_, hb]; rfl) : p → a := fun x => (e x).symm ▸ h1 (q ▸ x)
theorem zBD {p q : Prop} (h : q) (e : p = q := by simp only [go_sem, hE, hH, y1_]; rfl) : p := e ▸ h
theorem zDu {p : Prop} (h : p := by refine zAz ?_; (try (simp (disch := omega) only [go_sem, hE, hH, y1_])); first | done | rfl) : p := h
theorem zED {p : Prop} (h : p := by (with_reducible apply zAz); (try (simp (disch := omega) only [go_sem, hE, hH, y1_])); first | done | rfl) : p := h
theorem zBE {p : Prop} (h : p := by (first | apply zAj | apply zAC) <;> (simp only [go_sem, hE, hH, y1_]; done)) : p := h
theorem zWG {p q : Prop} (h : q) (e : p = q := by simp (disch := omega) only [go_sem, hE, hH, zAB hcap, zAL hcap, zAE hcap, zAP hcap, zAF hcap]; rfl) : p := e ▸ h
theorem zWH {p Q a b : Prop} (h1 : Q → b) (q : p = Q := by first | (simp only [nf]; rfl) | rfl) (e : p → a = b := by intro hb; have h := hb; (try simp only [nf] at h); simp (disch := omega) only [go_sem, hE, hH, zAB hcap, zAL hcap, zAE hcap, zAP hcap, zAF hcap, hb]; rfl) : p → a := fun x => (e x).symm ▸ h1 (q ▸ x)
theorem zWI {p q : Prop} (h : q) (e : p = q := by simp only [go_sem, hE, hH, zAB hcap, zAL hcap, zAE hcap, zAP hcap, zAF hcap]; rfl) : p := e ▸ h
theorem zWJ {p : Prop} (h : p := by refine zAz ?_; (try (simp (disch := omega) only [go_sem, hE, hH, zAB hcap, zAL hcap, zAE hcap, zAP hcap, zAF hcap])); first | done | rfl) : p := h
theorem fj2_ {p : Prop} (h : p := by (with_reducible apply zAz); (try (simp (disch := omega) only [go_sem, hE, hH, zAB hcap, zAL hcap, zAE hcap, zAP hcap, zAF hcap])); first | done | rfl) : p := h
theorem zWK {p : Prop} (h : p := by (first | apply zAj | apply zAC) <;> (simp only [go_sem, hE, hH, zAB hcap, zAL hcap, zAE hcap, zAP hcap, zAF hcap]; done)) : p := h
theorem zTg {p q : Prop} (h : q) (e : p = q := by simp (disch := omega) only [go_sem, hE, hH, y1_, y2_, y3_, y4_, y5_, hF, y6_, y7_, y8_, y9_, y10_, y11_, y12_, y13_, y14_, y15_, y16_, y17_, y18_, y19_, y20_, y21_, y22_, y23_, y24_, y25_, List.take_length, List.length_drop, Nat.add_sub_cancel_left, List.length_take, Nat.min_eq_left hn, Nat.min_self]; rfl) : p := e ▸ h
theorem zTh {p Q a b : Prop} (h1 : Q → b) (q : p = Q := by first | (simp only [nf]; rfl) | rfl) (e : p → a = b := by intro hb; have h := hb; (try simp only [nf] at h); simp (disch := omega) only [go_sem, hE, hH, y1_, y2_, y3_, y4_, y5_, hF, y6_, y7_, y8_, y9_, y10_, y11_, y12_, y13_, y14_, y15_, y16_, y17_, y18_, y19_, y20_, y21_, y22_, y23_, y24_, y25_, List.take_length, List.length_drop, Nat.add_sub_cancel_left, List.length_take, Nat.min_eq_left hn, Nat.min_self, hb]; rfl) : p → a := fun x => (e x).symm ▸ h1 (q ▸ x)
theorem zTi {p q : Prop} (h : q) (e : p = q := by simp only [go_sem, hE, hH, y1_, y2_, y3_, y4_, y5_, hF, y6_, y7_, y8_, y9_, y10_, y11_, y12_, y13_, y14_, y15_, y16_, y17_, y18_, y19_, y20_, y21_, y22_, y23_, y24_, y25_, List.take_length, List.length_drop, Nat.add_sub_cancel_left, List.length_take, Nat.min_eq_left hn, Nat.min_self]; rfl) : p := e ▸ h
theorem zTj {p : Prop} (h : p := by refine zAz ?_; (try (simp (disch := omega) only [go_sem, hE, hH, y1_, y2_, y3_, y4_, y5_, hF, y6_, y7_, y8_, y9_, y10_, y11_, y12_, y13_, y14_, y15_, y16_, y17_, y18_, y19_, y20_, y21_, y22_, y23_, y24_, y25_, List.take_length, List.length_drop, Nat.add_sub_cancel_left, List.length_take, Nat.min_eq_left hn, Nat.min_self])); first | done | rfl) : p := h
theorem fj3_ {p : Prop} (h : p := by (with_reducible apply zAz); (try (simp (disch := omega) only [go_sem, hE, hH, y1_, y2_, y3_, y4_, y5_, hF, y6_, y7_, y8_, y9_, y10_, y11_, y12_, y13_, y14_, y15_, y16_, y17_, y18_, y19_, y20_, y21_, y22_, y23_, y24_, y25_, List.take_length, List.length_drop, Nat.add_sub_cancel_left, List.length_take, Nat.min_eq_left hn, Nat.min_self])); first | done | rfl) : p := h
theorem zTk {p : Prop} (h : p := by (first | apply zAj | apply zAC) <;> (simp only [go_sem, hE, hH, y1_, y2_, y3_, y4_, y5_, hF, y6_, y7_, y8_, y9_, y10_, y11_, y12_, y13_, y14_, y15_, y16_, y17_, y18_, y19_, y20_, y21_, y22_, y23_, y24_, y25_, List.take_length, List.length_drop, Nat.add_sub_cancel_left, List.length_take, Nat.min_eq_left hn, Nat.min_self]; done)) : p := h
theorem st4_ {p q : Prop} (h : q) (e : p = q := by simp (disch := omega) only [go_sem, hE, hH, y1_, hF, y2_, y3_, y4_, y5_, y6_, y7_, y8_, y9_, y10_, y11_, y12_, y13_, y14_, y15_, y16_, y17_, y18_, y19_, y20_, y21_, List.take_length, List.length_drop, Nat.add_sub_cancel_left, List.length_take, Nat.min_eq_left hn, Nat.min_self]; rfl) : p := e ▸ h
theorem gs4_ {p Q a b : Prop} (h1 : Q → b) (q : p = Q := by first | (simp only [nf]; rfl) | rfl) (e : p → a = b := by intro hb; have h := hb; (try simp only [nf] at h); simp (disch := omega) only [go_sem, hE, hH, y1_, hF, y2_, y3_, y4_, y5_, y6_, y7_, y8_, y9_, y10_, y11_, y12_, y13_, y14_, y15_, y16_, y17_, y18_, y19_, y20_, y21_, List.take_length, List.length_drop, Nat.add_sub_cancel_left, List.length_take, Nat.min_eq_left hn, Nat.min_self, hb]; rfl) : p → a := fun x => (e x).symm ▸ h1 (q ▸ x)
theorem s14_ {p q : Prop} (h : q) (e : p = q := by simp only [go_sem, hE, hH, y1_, hF, y2_, y3_, y4_, y5_, y6_, y7_, y8_, y9_, y10_, y11_, y12_, y13_, y14_, y15_, y16_, y17_, y18_, y19_, y20_, y21_, List.take_length, List.length_drop, Nat.add_sub_cancel_left, List.length_take, Nat.min_eq_left hn, Nat.min_self]; rfl) : p := e ▸ h
theorem fe4_ {p : Prop} (h : p := by refine zAz ?_; (try (simp (disch := omega) only [go_sem, hE, hH, y1_, hF, y2_, y3_, y4_, y5_, y6_, y7_, y8_, y9_, y10_, y11_, y12_, y13_, y14_, y15_, y16_, y17_, y18_, y19_, y20_, y21_, List.take_length, List.length_drop, Nat.add_sub_cancel_left, List.length_take, Nat.min_eq_left hn, Nat.min_self])); first | done | rfl) : p := h
theorem fj4_ {p : Prop} (h : p := by (with_reducible apply zAz); (try (simp (disch := omega) only [go_sem, hE, hH, y1_, hF, y2_, y3_, y4_, y5_, y6_, y7_, y8_, y9_, y10_, y11_, y12_, y13_, y14_, y15_, y16_, y17_, y18_, y19_, y20_, y21_, List.take_length, List.length_drop, Nat.add_sub_cancel_left, List.length_take, Nat.min_eq_left hn, Nat.min_self])); first | done | rfl) : p := h
theorem fm4_ {p : Prop} (h : p := by (first | apply zAj | apply zAC) <;> (simp only [go_sem, hE, hH, y1_, hF, y2_, y3_, y4_, y5_, y6_, y7_, y8_, y9_, y10_, y11_, y12_, y13_, y14_, y15_, y16_, y17_, y18_, y19_, y20_, y21_, List.take_length, List.length_drop, Nat.add_sub_cancel_left, List.length_take, Nat.min_eq_left hn, Nat.min_self]; done)) : p := h
theorem zBY {p q : Prop} (h : q) (e : p = q := by simp (disch := omega) only [go_sem, hE, hH, y1_, y2_, y3_]; rfl) : p := e ▸ h
theorem zFQ {p Q a b : Prop} (h1 : Q → b) (q : p = Q := by first | (simp only [nf]; rfl) | rfl) (e : p → a = b := by intro hb; have h := hb; (try simp only [nf] at h); simp (disch := omega) only [go_sem, hE, hH, y1_, y2_, y3_, hb]; rfl) : p → a := fun x => (e x).symm ▸ h1 (q ▸ x)
theorem zFR {p q : Prop} (h : q) (e : p = q := by simp only [go_sem, hE, hH, y1_, y2_, y3_]; rfl) : p := e ▸ h
theorem fe5_ {p : Prop} (h : p := by refine zAz ?_; (try (simp (disch := omega) only [go_sem, hE, hH, y1_, y2_, y3_])); first | done | rfl) : p := h
theorem zGF {p : Prop} (h : p := by (with_reducible apply zAz); (try (simp (disch := omega) only [go_sem, hE, hH, y1_, y2_, y3_])); first | done | rfl) : p := h
theorem zFS {p : Prop} (h : p := by (first | apply zAj | apply zAC) <;> (simp only [go_sem, hE, hH, y1_, y2_, y3_]; done)) : p := h
theorem zDv {p q : Prop} (h : q) (e : p = q := by simp (disch := omega) only [go_sem, hE, hH, y1_, y2_, y3_, y4_, y5_]; rfl) : p := e ▸ h
theorem zJF {p Q a b : Prop} (h1 : Q → b) (q : p = Q := by first | (simp only [nf]; rfl) | rfl) (e : p → a = b := by intro hb; have h := hb; (try simp only [nf] at h); simp (disch := omega) only [go_sem, hE, hH, y1_, y2_, y3_, y4_, y5_, hb]; rfl) : p → a := fun x => (e x).symm ▸ h1 (q ▸ x)
theorem zJG {p q : Prop} (h : q) (e : p = q := by simp only [go_sem, hE, hH, y1_, y2_, y3_, y4_, y5_]; rfl) : p := e ▸ h
theorem fe6_ {p : Prop} (h : p := by refine zAz ?_; (try (simp (disch := omega) only [go_sem, hE, hH, y1_, y2_, y3_, y4_, y5_])); first | done | rfl) : p := h
theorem zJH {p : Prop} (h : p := by (with_reducible apply zAz); (try (simp (disch := omega) only [go_sem, hE, hH, y1_, y2_, y3_, y4_, y5_])); first | done | rfl) : p := h
theorem zJI {p : Prop} (h : p := by (first | apply zAj | apply zAC) <;> (simp only [go_sem, hE, hH, y1_, y2_, y3_, y4_, y5_]; done)) : p := h
theorem zTl {p q : Prop} (h : q) (e : p = q := by simp (disch := omega) only [go_sem, hE, hH, y1_, y2_, y3_, y4_, y5_, y6_, y7_, y8_, y9_, y10_, y11_, y12_, y13_, y14_, y15_, y16_, y17_, y18_, y19_, y20_]; rfl) : p := e ▸ h
theorem zTm {p Q a b : Prop} (h1 : Q → b) (q : p = Q := by first | (simp only [nf]; rfl) | rfl) (e : p → a = b := by intro hb; have h := hb; (try simp only [nf] at h); simp (disch := omega) only [go_sem, hE, hH, y1_, y2_, y3_, y4_, y5_, y6_, y7_, y8_, y9_, y10_, y11_, y12_, y13_, y14_, y15_, y16_, y17_, y18_, y19_, y20_, hb]; rfl) : p → a := fun x => (e x).symm ▸ h1 (q ▸ x)
theorem zTn {p q : Prop} (h : q) (e : p = q := by simp only [go_sem, hE, hH, y1_, y2_, y3_, y4_, y5_, y6_, y7_, y8_, y9_, y10_, y11_, y12_, y13_, y14_, y15_, y16_, y17_, y18_, y19_, y20_]; rfl) : p := e ▸ h
theorem fe7_ {p : Prop} (h : p := by refine zAz ?_; (try (simp (disch := omega) only [go_sem, hE, hH, y1_, y2_, y3_, y4_, y5_, y6_, y7_, y8_, y9_, y10_, y11_, y12_, y13_, y14_, y15_, y16_, y17_, y18_, y19_, y20_])); first | done | rfl) : p := h
theorem zTo {p : Prop} (h : p := by (with_reducible apply zAz); (try (simp (disch := omega) only [go_sem, hE, hH, y1_, y2_, y3_, y4_, y5_, y6_, y7_, y8_, y9_, y10_, y11_, y12_, y13_, y14_, y15_, y16_, y17_, y18_, y19_, y20_])); first | done | rfl) : p := h
theorem zTp {p : Prop} (h : p := by (first | apply zAj | apply zAC) <;> (simp only [go_sem, hE, hH, y1_, y2_, y3_, y4_, y5_, y6_, y7_, y8_, y9_, y10_, y11_, y12_, y13_, y14_, y15_, y16_, y17_, y18_, y19_, y20_]; done)) : p := h
theorem zCV {p q : Prop} (h : q) (e : p = q := by simp (disch := omega) only [go_sem, hE, hH, y1_, y2_, y3_, y4_]; rfl) : p := e ▸ h
theorem zJJ {p Q a b : Prop} (h1 : Q → b) (q : p = Q := by first | (simp only [nf]; rfl) | rfl) (e : p → a = b := by intro hb; have h := hb; (try simp only [nf] at h); simp (disch := omega) only [go_sem, hE, hH, y1_, y2_, y3_, y4_, hb]; rfl) : p → a := fun x => (e x).symm ▸ h1 (q ▸ x)
theorem zJK {p q : Prop} (h : q) (e : p = q := by simp only [go_sem, hE, hH, y1_, y2_, y3_, y4_]; rfl) : p := e ▸ h
theorem fe8_ {p : Prop} (h : p := by refine zAz ?_; (try (simp (disch := omega) only [go_sem, hE, hH, y1_, y2_, y3_, y4_])); first | done | rfl) : p := h
theorem zJL {p : Prop} (h : p := by (with_reducible apply zAz); (try (simp (disch := omega) only [go_sem, hE, hH, y1_, y2_, y3_, y4_])); first | done | rfl) : p := h
theorem zJM {p : Prop} (h : p := by (first | apply zAj | apply zAC) <;> (simp only [go_sem, hE, hH, y1_, y2_, y3_, y4_]; done)) : p := h
theorem zCA {p q : Prop} (h : q) (e : p = q := by simp (disch := omega) only [go_sem, hE, hH, y1_, y2_]; rfl) : p := e ▸ h
theorem zHi {p Q a b : Prop} (h1 : Q → b) (q : p = Q := by first | (simp only [nf]; rfl) | rfl) (e : p → a = b := by intro hb; have h := hb; (try simp only [nf] at h); simp (disch := omega) only [go_sem, hE, hH, y1_, y2_, hb]; rfl) : p → a := fun x => (e x).symm ▸ h1 (q ▸ x)
theorem zHj {p q : Prop} (h : q) (e : p = q := by simp only [go_sem, hE, hH, y1_, y2_]; rfl) : p := e ▸ h
theorem fe9_ {p : Prop} (h : p := by refine zAz ?_; (try (simp (disch := omega) only [go_sem, hE, hH, y1_, y2_])); first | done | rfl) : p := h
theorem zHk {p : Prop} (h : p := by (with_reducible apply zAz); (try (simp (disch := omega) only [go_sem, hE, hH, y1_, y2_])); first | done | rfl) : p := h
theorem zHl {p : Prop} (h : p := by (first | apply zAj | apply zAC) <;> (simp only [go_sem, hE, hH, y1_, y2_]; done)) : p := h
theorem zOq {p q : Prop} (h : q) (e : p = q := by simp (disch := omega) only [go_sem, hE, hH, y1_, y2_, y3_, y4_, y5_, y6_]; rfl) : p := e ▸ h
theorem zTq {p Q a b : Prop} (h1 : Q → b) (q : p = Q := by first | (simp only [nf]; rfl) | rfl) (e : p → a = b := by intro hb; have h := hb; (try simp only [nf] at h); simp (disch := omega) only [go_sem, hE, hH, y1_, y2_, y3_, y4_, y5_, y6_, hb]; rfl) : p → a := fun x => (e x).symm ▸ h1 (q ▸ x)
theorem zTr {p q : Prop} (h : q) (e : p = q := by simp only [go_sem, hE, hH, y1_, y2_, y3_, y4_, y5_, y6_]; rfl) : p := e ▸ h
theorem fe10_ {p : Prop} (h : p := by refine zAz ?_; (try (simp (disch := omega) only [go_sem, hE, hH, y1_, y2_, y3_, y4_, y5_, y6_])); first | done | rfl) : p := h
theorem zTs {p : Prop} (h : p := by (with_reducible apply zAz); (try (simp (disch := omega) only [go_sem, hE, hH, y1_, y2_, y3_, y4_, y5_, y6_])); first | done | rfl) : p := h
theorem zTt {p : Prop} (h : p := by (first | apply zAj | apply zAC) <;> (simp only [go_sem, hE, hH, y1_, y2_, y3_, y4_, y5_, y6_]; done)) : p := h
def k2_ : Nat := 2
@[go_sem, simp] theorem k2_eq : k2_ = 2 := rfl
def k3_ : Nat := 3
@[go_sem, simp] theorem k3_eq : k3_ = 3 := rfl
def k4_ : Nat := 4
@[go_sem, simp] theorem k4_eq : k4_ = 4 := rfl
def k5_ : Nat := 5
@[go_sem, simp] theorem k5_eq : k5_ = 5 := rfl
set_option maxRecDepth 20000 in
theorem Q1_ {p : Prop} (h : p := by
 unfold z0_ at h
 exact ⟨⟨Nat.le_trans (zA9 (f := ByteArray.size)) (Nat.le_trans (by omega) zH5), fun y hy => trivial⟩, ⟨Nat.le_trans (zA9 (f := Write.sz)) (Nat.le_trans (by omega) zH5), fun y hy => trivial⟩⟩) : p := h
set_option maxRecDepth 20000 in
theorem Q2_ {p : Prop} (h : p := by
 obtain ⟨hl, hx⟩ := hw
 have hm := zAh
 refine fg z0_ fun E hE hH => ?_; simp only [go_sem, hE, hH, z1_]
 try refine st ?_; try exact ⟨⟩
 repeat' (first | ((with_reducible apply ga) <;> refine gs fun h => ?_) | ((with_reducible apply an); · omega) | refine jn _ ?_ ?_ | (with_reducible first | apply both | apply an | exact ti) | exact fe | refine st ?_ | exact fm | refine s1 ?_)
 ·exact ⟨_, rfl, by omega, by omega⟩
 refine zAK l.length (fun j (n : Int) => ⟨[(0, .sl false z2_ (l.map (z3_ false))), (1, i64 n), (5, i64 j)], []⟩) (fun j n => 0 ≤ n ∧ n ≤ left ∧ n + l.length + zEQ (z4_) l j = left) (left - (l.length : Int)) (by rw [zNu]; omega) ?_
 intro j n hj hI
 obtain ⟨i1, i0, i2⟩ := hI
 try simp only [go_sem, hE, hH, z5_]
 first | refine zAe (fun h => ?_) (fun h => ?_) | refine zAf (fun h => ?_) (fun h => ?_)
 ·have hb := h
  simp only [nf] at h
  have hlt := h; clear h
  have hs := hx _ (zAc hlt)
  try refine sb ?_; try exact ⟨⟩
  repeat refine And.intro (by omega) ?_
  refine zAa ?_; simp (disch := omega) only [go_sem, hE, hH]; refine cvA (z6_ (nth l j) n i1 (by omega) hs) ?_
  try simp only [go_sem, hE, hH]
  refine zBf ?_
  rintro r k ⟨q, rfl, q1, q2⟩
  try refine st ?_; try exact ⟨⟩
  repeat' (first | ((with_reducible apply ga) <;> refine gs fun h => ?_) | ((with_reducible apply an); · omega) | refine jn _ ?_ ?_ | (with_reducible first | apply both | apply an | exact ti) | exact fe | refine st ?_ | exact fm | refine s1 ?_)
  ·exact ⟨_, rfl, by omega, by omega⟩
  ·exact ⟨_, rfl, by omega, by omega, by have q2 := q2 (by omega); rw [zJb hlt]; omega⟩
 ·have hb := h
  simp only [nf] at h
  try refine sb ?_; try exact ⟨⟩
  exact ⟨_, rfl, by omega, fun _ => by rw [zPe (by omega)] at i2; rw [show szL (z4_) l = l.length + (l.map (z4_)).sum from rfl]; omega⟩) : p := h
set_option maxRecDepth 20000 in
theorem Q3_ {p : Prop} (h : p := by
 unfold z0_ at hs
 refine fg z1_ fun E hE hH => ?_; simp only [go_sem, hE, hH, z2_]
 repeat' (first | ((with_reducible apply ga) <;> refine gs fun h => ?_) | ((with_reducible apply an); · omega) | ((first | refine zAa ?_ | refine cvA (zJg _ (by omega)) ?_ | refine cvA (zQo _ (by omega)) ?_); refine st ?_) | refine jn _ ?_ ?_ | (with_reducible first | apply both | apply an | exact ti) | exact fe | refine st ?_ | exact fm | refine s1 ?_)) : p := h
set_option maxRecDepth 20000 in
theorem Q4_ {p : Prop} (h : p := by
 unfold z0_ at hs
 refine fg z1_ fun E hE hH => ?_; simp only [go_sem, hE, hH, z2_]
 repeat' (first | ((with_reducible apply ga) <;> refine gs fun h => ?_) | ((with_reducible apply an); · omega) | ((first | refine zAa ?_ | refine cvA (z3_ _ (by omega)) ?_ | refine cvA (z4_ _ (by omega)) ?_ | refine cvA (z5_ _ (by omega)) ?_); refine st ?_) | refine jn _ ?_ ?_ | (with_reducible first | apply both | apply an | exact ti) | exact fe | refine st ?_ | exact fm | refine s1 ?_)) : p := h
set_option maxRecDepth 20000 in
theorem Q5_ {p : Prop} (h : p := by
 obtain ⟨hl, hx⟩ := hl
 have hm := zAh
 refine fg z0_ fun E hE hH => ?_; simp only [go_sem, hE, hH, z1_]
 repeat' (first | ((with_reducible apply ga) <;> refine gs fun h => ?_) | ((with_reducible apply an); · omega) | refine jn _ ?_ ?_ | (with_reducible first | apply both | apply an | exact ti) | exact fe | refine st ?_ | exact fm | refine s1 ?_)
 ·rw [decide_eq_false (fun e => h (by rw [e]))]
 have hlen : l.length = m.length := by omega
 clear h
 refine zAK l.length (fun j (_ : Unit) => ⟨[(0, .sl false z2_ (l.map (z3_ false))), (1, .sl false z2_ (m.map (z3_ false))), (5, i64 j)], []⟩) (fun j _ => decide (l = m) = decide (l.drop j = m.drop j)) () (by simp) ?_
 intro j _ hj hI
 try simp only [go_sem, hE, hH, z4_]
 first | refine zAe (fun h => ?_) (fun h => ?_) | refine zAf (fun h => ?_) (fun h => ?_)
 ·have hb := h
  simp only [nf] at h
  have hlt := h; clear h
  have hlm : j < m.length := by omega
  rw [zQW hlt hlm] at hI
  have hs := hx _ (zAc hlt)
  try refine sb ?_; try exact ⟨⟩
  repeat' (first | ((with_reducible apply ga) <;> refine gs fun h => ?_) | ((with_reducible apply an); · omega) | ((first | refine zAa ?_ | refine cvA (z5_ _ _ (by assumption)) ?_); refine st ?_) | refine jn _ ?_ ?_ | (with_reducible first | apply both | apply an | exact ti) | exact fe | refine st ?_ | exact fm | refine s1 ?_)
  ·rw [hI]; simp [h]
  ·exact ⟨(), rfl, by rw [hI]; simp [h]⟩
 ·have hb := h
  simp only [nf] at h
  try refine sb ?_; try exact ⟨⟩
  rw [hI, List.drop_of_length_le (by omega), List.drop_of_length_le (by omega)]
  rfl) : p := h
set_option maxRecDepth 20000 in
theorem Q6_ {p : Prop} (h : p := by
 have c_Reads := zCr (c := fun _ => 1) (s := ByteArray.size) (A := 1) (fun x => by omega) (l := x.Reads)
 have c_Writes := zCr (c := Write.cnt) (s := Write.sz) (A := 3) Write.cnt_le (l := x.Writes)
 simp only [z0_, z1_]
 try omega) : p := h
set_option maxRecDepth 20000 in
theorem Q7_ {p : Prop} (h : p := by
 have c_Cuts := zCr (c := fun _ => 1) (s := ByteArray.size) (A := 1) (fun x => by omega) (l := x.Cuts)
 have c_States := zCr (c := State.cnt) (s := State.sz) (A := 15) State.cnt_le (l := x.States)
 have c_Orders := zCr (c := Order.cnt) (s := Order.sz) (A := 5) Order.cnt_le (l := x.Orders)
 simp only [z0_, Deal.sz]
 try omega) : p := h
set_option maxRecDepth 20000 in
theorem Q8_ {p : Prop} (h : p := by
 refine fg z0_ fun E hE hH => ?_; simp only [go_sem, hE, hH, z1_]
 refine zAG l.length (fun j (_ : Unit) => ⟨[(0, .ref 0 0 l.length), (1, i64 (mkN (z2_) l k j)), (5, i64 j)], [(0, ⟨3, (mkP (z2_) l k j).map (z3_ true)⟩)]⟩) (fun _ _ => True) () (by simp [zCc, zCd]) trivial ?_
 intro j _ hj _
 have hpl := zES (f := z2_) (k := k) hj
 have hN := zC7 (f := z2_) (c := z4_) (z5_) (l := l) (k := k) (j := j)
 have hlen := zBV (c := z4_) (l := l) (fun x => by simp only [z4_]; omega)
 try simp only [go_sem, hE, hH, z6_]
 first | refine zAe (fun h => ?_) (fun h => ?_) | refine zAf (fun h => ?_) (fun h => ?_)
 ·have hb := h
  simp only [nf] at h
  have hlt := h
  have hc := zCf (c := z4_) hlt
  have e0 := zGc (f := z2_) (k := k) hlt
  have e1 := zET (f := z2_) (k := k) hlt
  have e2 := zCe (f := z2_) (k := k) hlt
  simp only [z2_] at e1 e2
  simp only [z4_] at hc
  generalize hk : mkN (z2_) l k j = q at *
  try simp (disch := omega) only [go_sem, hE, hH, e0, hb, hpl, e0]
  all_goals (have y1_ := e0; repeat' (first | ((with_reducible apply ga) <;> refine zBC fun h => ?_) | ((with_reducible apply an); · omega) | ((first | refine zAa ?_ | refine cvA (zBp _ (by omega)) ?_); refine zAu ?_) | refine jn _ ?_ ?_ | (with_reducible first | apply both | apply an | exact ti) | exact zDu | refine zAu ?_ | exact zBE | refine zBD ?_))
  try simp (disch := omega) only [go_sem, hE, hH, e0, hpl, e0]
  repeat' (first | (refine both ?_ ?_) | omega | ((first | apply zAj | apply zAC) <;> (simp only [go_sem, hE, hH, e0]; done)) | fail)
  refine ⟨(), ?_⟩
  rw [e2, ← e1, List.map_set]
  rfl
 ·have hb := h
  simp only [nf] at h
  try refine sb ?_; try exact ⟨⟩
  have e3 : j = l.length := by first | omega | (rw [zAs] at h; omega)
  subst e3
  rw [zCB (Nat.le_refl _), zER (Nat.le_refl _)]
  exact ⟨zAs.symm, rfl, rfl⟩) : p := h
set_option maxRecDepth 20000 in
theorem Q9_ {p : Prop} (h : p := by
 refine fg z0_ fun E hE hH => ?_; simp only [go_sem, hE, hH, z1_]
 refine zAG l.length (fun j (_ : Unit) => ⟨[(0, .sl false 3 ((mkL (z2_) l k).1.map (z3_ false))), (1, i64 (mkN (z2_) l k j)), (5, i64 j)], []⟩) (fun _ _ => True) () (by simp [zCc, zCd]) trivial ?_
 intro j _ hj _
 have hpl := zAs (f := z2_) (k := k) (l := l)
 have hN := zC7 (f := z2_) (c := z4_) (z5_) (l := l) (k := k) (j := j)
 have hlen := zBV (c := z4_) (l := l) (fun x => by simp only [z4_]; omega)
 try simp only [go_sem, hE, hH, z6_]
 first | refine zAe (fun h => ?_) (fun h => ?_) | refine zAf (fun h => ?_) (fun h => ?_)
 ·have hb := h
  simp only [nf] at h
  have hlt : j < l.length := by first | exact h | (rw [zAs] at h; exact h)
  have hc := zCf (c := z4_) hlt
  have e0 := zGd (f := z2_) (k := k) hlt
  have e2 := zCe (f := z2_) (k := k) hlt
  simp only [z2_] at e0 e2
  simp only [z4_] at hc
  generalize hk : mkN (z2_) l k j = q at *
  try simp (disch := omega) only [go_sem, hE, hH, e0, hb, hpl, e0]
  all_goals (have y1_ := e0; repeat' (first | ((with_reducible apply ga) <;> refine zBC fun h => ?_) | ((with_reducible apply an); · omega) | ((first | refine zAa ?_ | refine cvA (zBp _ (by omega)) ?_); refine zAu ?_) | refine jn _ ?_ ?_ | (with_reducible first | apply both | apply an | exact ti) | exact zDu | refine zAu ?_ | exact zBE | refine zBD ?_))
  try simp (disch := omega) only [go_sem, hE, hH, e0, hpl, e0]
  repeat' (first | (refine both ?_ ?_) | omega | ((first | apply zAj | apply zAC) <;> (simp only [go_sem, hE, hH, e0]; done)) | fail)
  refine ⟨(), ?_⟩
  rw [e2]
  rfl
 ·have hb := h
  simp only [nf] at h
  try refine sb ?_; try exact ⟨⟩
  have e3 : j = l.length := by first | omega | (rw [zAs] at h; omega)
  subst e3
  rw [zCB (Nat.le_refl _)]) : p := h
set_option maxRecDepth 20000 in
theorem zTu {p : Prop} (h : p := by
 refine zLO (hqA z0_) (hqB z0_) ⟨by simp only [go_sem, zAB hcap, zAL hcap, zAE hcap, zAP hcap, zAF hcap], fun E hE hH => ?_⟩; simp only [go_sem, zAB hcap, zAL hcap, zAE hcap, zAP hcap, zAF hcap] at hE hH; simp only [go_sem, hE, hH, zAB hcap, zAL hcap, zAE hcap, zAP hcap, zAF hcap, z1_]
 refine zGO (fun (x : Nat × Nat) => ⟨[(0, .sl false z2_ (l.map (z3_ false))), (1, z4_ key), (2, .fn f caps), (8, i64 l.length), (9, i64 x.1), (10, i64 x.2)], []⟩) (fun x => x.1 ≤ x.2 ∧ x.2 ≤ l.length ∧ (∀ i, i < x.1 → c (nth l i) < 0) ∧ ∀ i, x.2 ≤ i → i < l.length → 0 ≤ c (nth l i)) (fun x => x.2 - x.1) (0, l.length) ⟨by simp, by simp, by simp, by simp; omega⟩ ?_
 rintro ⟨lo, hi⟩ ⟨i1, i2, i3, i4⟩
 simp only at i1 i2 i3 i4
 try simp only [go_sem, hE, hH, zAB hcap, zAL hcap, zAE hcap, zAP hcap, zAF hcap, z5_]
 first | refine zAe (fun h => ?_) (fun h => ?_) | refine zAf (fun h => ?_) (fun h => ?_)
 ·have hb := h
  simp only [nf] at h
  have hlt := h; clear h
  have e1 : IntKind.u64.wrap (lo + hi) = lo + hi := zAa7 (by omega) (by omega)
  have e2 : Int.fdiv ((lo : Int) + hi) 2 = (((lo + hi) / 2 : Nat) : Int) := by rw [Int.fdiv_eq_ediv_of_nonneg _ (by omega)]; omega
  have hM : (lo + hi) / 2 < l.length := by omega
  try simp (disch := omega) only [go_sem, hE, hH, zAB hcap, zAL hcap, zAE hcap, zAP hcap, zAF hcap, hb, e1, shr1, e2]
  repeat refine And.intro (by omega) ?_
  refine zLQ rfl rfl rfl (hent) (hcap) (hp _ (zAc hM)) ?_
  try simp (disch := omega) only [go_sem, hE, hH, zAB hcap, zAL hcap, zAE hcap, zAP hcap, zAF hcap]
  repeat' (first | ((with_reducible apply ga) <;> refine zWH fun h => ?_) | ((with_reducible apply an); · omega) | refine jn _ ?_ ?_ | (with_reducible first | apply both | apply an | exact ti) | exact zWJ | refine zWG ?_ | exact zWK | refine zWI ?_)
  ·refine ⟨((lo + hi) / 2 + 1, hi), rfl, ⟨by simp only; omega, i2, fun i hi' => ?_, i4⟩, by simp only; omega⟩
   simp only at hi'
   by_cases e : i = (lo + hi) / 2
   ·rw [e]; exact h
   ·have := hm i ((lo + hi) / 2) (by omega) hM
    omega
  ·refine ⟨(lo, (lo + hi) / 2), rfl, ⟨by simp only; omega, by simp only; omega, i3, fun i h1 h2 => ?_⟩, by simp only; omega⟩
   simp only at h1
   by_cases e : i = (lo + hi) / 2
   ·rw [e]; exact h
   ·exact hm ((lo + hi) / 2) i (by omega) h2 h
 ·have hb := h
  simp only [nf] at h
  have e0 : hi = lo := by omega
  subst e0
  have e3 := zYA i2 i3 i4
  try simp (disch := omega) only [go_sem, hE, hH, zAB hcap, zAL hcap, zAE hcap, zAP hcap, zAF hcap, hb]
  first | refine zAe (fun h2 => ?_) (fun h2 => ?_) | refine zAf (fun h2 => ?_) (fun h2 => ?_)
  ·have hb2 := h2
   simp only [nf] at h2
   have hlt : hi < l.length := by omega
   try simp (disch := omega) only [go_sem, hE, hH, zAB hcap, zAL hcap, zAE hcap, zAP hcap, zAF hcap, hb2]
   repeat refine And.intro (by omega) ?_
   refine zLQ rfl rfl rfl (hent) (hcap) (hp _ (zAc hlt)) ?_
   try simp (disch := omega) only [go_sem, hE, hH, zAB hcap, zAL hcap, zAE hcap, zAP hcap, zAF hcap]
   simp [bsF, e3, hlt]
  ·try simp (disch := omega) only [go_sem, hE, hH, zAB hcap, zAL hcap, zAE hcap, zAP hcap, zAF hcap, h2]
   simp only [nf] at h2
   simp [bsF, e3]
   omega) : p := h
set_option maxRecDepth 20000 in
theorem zM5 {p : Prop} (h : p := by
 refine fg z0_ fun E hE hH => ?_; simp only [go_sem, hE, hH, z1_]
 refine zX3 ?_
 try refine st ?_; try exact ⟨⟩
 intro b hb
 cases b <;> try simp (disch := omega) only [go_sem, hE, hH]
 all_goals first | omega | (simp_all; done) | (simp_all; exact ⟨by omega, fun a _ => rfl⟩)) : p := h
set_option maxRecDepth 20000 in
theorem zTv {p : Prop} (h : p := by
 have hmx := zAh
 refine zLO (hqA z0_) (hqB z0_) ⟨by simp only [go_sem, zAB hcap, zAL hcap, zAE hcap, zAP hcap, zAF hcap], fun E hE hH => ?_⟩; simp only [go_sem, zAB hcap, zAL hcap, zAE hcap, zAP hcap, zAF hcap] at hE hH; simp only [go_sem, hE, hH, zAB hcap, zAL hcap, zAE hcap, zAP hcap, zAF hcap, z1_]
 refine zAK l.length (fun j (_ : Unit) => ⟨[(0, .sl false z2_ (l.map (z3_ false))), (1, .fn f caps), (7, i64 l.length), (8, i64 j)], []⟩) (fun j _ => zAD (fun i => !p (nth l i)) j = true) () rfl ?_
 intro j _ hj hI
 try simp only [go_sem, hE, hH, zAB hcap, zAL hcap, zAE hcap, zAP hcap, zAF hcap, z4_]
 first | refine zAe (fun h => ?_) (fun h => ?_) | refine zAf (fun h => ?_) (fun h => ?_)
 ·have hb := h
  simp only [nf] at h
  have hlt := h; clear h
  try simp (disch := omega) only [go_sem, hE, hH, zAB hcap, zAL hcap, zAE hcap, zAP hcap, zAF hcap, hb]
  refine And.intro (by omega) ?_
  refine zLQ rfl rfl rfl (hent) (hcap) (hp _ (zAc hlt)) ?_
  try simp (disch := omega) only [go_sem, hE, hH, zAB hcap, zAL hcap, zAE hcap, zAP hcap, zAF hcap]
  repeat' (first | ((with_reducible apply ga) <;> refine zWH fun h => ?_) | ((with_reducible apply an); · omega) | refine jn _ ?_ ?_ | (with_reducible first | apply both | apply an | exact ti) | exact zWJ | refine zWG ?_ | exact zWK | refine zWI ?_)
  ·rw [zLT hlt hI h]
  ·exact ⟨(), rfl, zAl hI (by simp [h])⟩
 ·try simp (disch := omega) only [go_sem, hE, hH, zAB hcap, zAL hcap, zAE hcap, zAP hcap, zAF hcap, h]
  simp only [nf] at h
  rw [show j = l.length by omega] at hI
  rw [zK4 hI]) : p := h
set_option maxRecDepth 20000 in
theorem Q13_ {p : Prop} (h : p := by
 have hmx := zAh
 refine fg z0_ fun E hE hH => ?_; simp only [go_sem, hE, hH, zSl]
 refine zAK l.length (fun j (_ : Unit) => ⟨[(0, .sl false 1 (z1_ l)), (1, z2_ v), (7, i64 l.length), (8, i64 j)], []⟩) (fun j _ => zAD (fun i => !decide (v = nth l i)) j = true) () rfl ?_
 intro j _ hj hI
 try simp only [go_sem, hE, hH, zPo]
 first | refine zAe (fun h => ?_) (fun h => ?_) | refine zAf (fun h => ?_) (fun h => ?_)
 ·have hb := h
  simp only [nf] at h
  have hlt := h; clear h
  try refine sb ?_; try exact ⟨⟩
  refine And.intro (by omega) ?_
  repeat' (first | ((with_reducible apply ga) <;> refine gs fun h => ?_) | ((with_reducible apply an); · omega) | refine jn _ ?_ ?_ | (with_reducible first | apply both | apply an | exact ti) | exact fe | refine st ?_ | exact fm | refine s1 ?_)
  ·rw [zLT (p := fun x => decide (v = x)) hlt hI (by simp [h])]
  ·exact ⟨(), rfl, zAl hI (by simp [h])⟩
 ·try simp (disch := omega) only [go_sem, hE, hH, h]
  simp only [nf] at h
  rw [show j = l.length by omega] at hI
  rw [zK4 (p := fun x => decide (v = x)) hI]) : p := h
set_option maxRecDepth 20000 in
theorem zQa {p : Prop} (h : p := by
 refine zLO (hqA z0_) (hqB z0_) ⟨by simp only [go_sem, zAB hcap, zAL hcap, zAE hcap, zAP hcap, zAF hcap], fun E hE hH => ?_⟩; simp only [go_sem, zAB hcap, zAL hcap, zAE hcap, zAP hcap, zAF hcap] at hE hH; simp only [go_sem, hE, hH, zAB hcap, zAL hcap, zAE hcap, zAP hcap, zAF hcap, zH7]
 refine zWQ rfl (by simp only [zDb, zBB, vwT, zEp, zLS hcap, Bool.false_eq_true, if_false]; rfl) (z1_ l f caps p hent hcap hl hp) ?_
 try simp (disch := omega) only [go_sem, hE, hH, zAB hcap, zAL hcap, zAE hcap, zAP hcap, zAF hcap, zJY, zTW hcap]) : p := h
set_option maxRecDepth 20000 in
theorem Q15_ {p : Prop} (h : p := by
 refine fg z0_ fun E hE hH => ?_; simp only [go_sem, hE, hH, zH7]
 repeat' (first | ((with_reducible apply ga) <;> refine gs fun h => ?_) | ((with_reducible apply an); · omega) | ((first | refine zAa ?_ | refine cvA (z1_ _ _ hl) ?_); refine st ?_) | refine jn _ ?_ ?_ | (with_reducible first | apply both | apply an | exact ti) | exact fe | refine st ?_ | exact fm | refine s1 ?_)
 rw [zJY]) : p := h
set_option maxRecDepth 20000 in
theorem zQb {p : Prop} (h : p := by
 refine fg z0_ fun E hE hH => ?_; simp only [go_sem, hE, hH, z1_]
 repeat' (first | ((with_reducible apply ga) <;> refine gs fun h => ?_) | ((with_reducible apply an); · omega) | ((first | refine zAa ?_ | refine cvA (z2_ _ _) ?_); refine st ?_) | refine jn _ ?_ ?_ | (with_reducible first | apply both | apply an | exact ti) | exact fe | refine st ?_ | exact fm | refine s1 ?_)) : p := h
set_option maxRecDepth 20000 in
theorem zQc {p : Prop} (h : p := by
 refine fg z0_ fun E hE hH => ?_; simp only [go_sem, hE, hH, z1_]
 repeat' (first | ((with_reducible apply ga) <;> refine gs fun h => ?_) | ((with_reducible apply an); · omega) | ((first | refine zAa ?_ | refine cvA (z2_ _ _ _) ?_); refine st ?_) | refine jn _ ?_ ?_ | (with_reducible first | apply both | apply an | exact ti) | exact fe | refine st ?_ | exact fm | refine s1 ?_)) : p := h
end Go.Am

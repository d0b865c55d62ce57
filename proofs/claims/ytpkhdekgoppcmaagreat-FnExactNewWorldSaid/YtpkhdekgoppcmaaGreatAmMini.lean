/- Short forms of the steps of a walk, and of compiled statements. -/
import Derived.Test.YtpkhdekgoppcmaaGreatAmRaw
set_option linter.all false
namespace Go.Am
open Go K
instance (n : Nat) : OfNat Operand n := ⟨.tmp (OfNat.ofNat n)⟩
@[go_sem] theorem ofT (n : Nat) : (OfNat.ofNat n : Operand) = .tmp (OfNat.ofNat n) := rfl
namespace K
def L (d x : Nat) : IN := ⟨some d, none, .load none (.tmp x)⟩
def F (d n x : Nat) : IN := ⟨some d, none, .fa n (.tmp x)⟩
def A (d k x i : Nat) : IN := ⟨some d, none, .ia k (.tmp x) (.tmp i)⟩
def W (n x v : Nat) : IN := ⟨none, none, .store n (.tmp x) (.tmp v)⟩
def Y (d x : Nat) : IN := ⟨some d, none, .lens (.tmp x)⟩
def v (d : Nat) (x : Operand) : IN := ⟨some d, none, .mv x⟩
def q (l : List IN) (b : AS) : AS := .seq (.ops l) b
@[go_sem] theorem L_eq (d x : Nat) : L d x = ⟨some d, none, .load none (.tmp x)⟩ := rfl
@[go_sem] theorem F_eq (d n x : Nat) : F d n x = ⟨some d, none, .fa n (.tmp x)⟩ := rfl
@[go_sem] theorem A_eq (d k x i : Nat) : A d k x i = ⟨some d, none, .ia k (.tmp x) (.tmp i)⟩ := rfl
@[go_sem] theorem W_eq (n x v : Nat) : W n x v = ⟨none, none, .store n (.tmp x) (.tmp v)⟩ := rfl
@[go_sem] theorem Y_eq (d x : Nat) : Y d x = ⟨some d, none, .lens (.tmp x)⟩ := rfl
@[go_sem] theorem v_eq (d : Nat) (x : Operand) : v d x = ⟨some d, none, .mv x⟩ := rfl
@[go_sem] theorem q_eq (l : List IN) (b : AS) : q l b = .seq (.ops l) b := rfl
def hr (P : Program) (n : Nat) : Option (Stmt × List ResultVar × Nat) := (P.funcs[n]?).bind fun fn => (fn.body.bind (comp P fn.ntmps)).map fun s => (s, fn.results.toList, fn.ntmps)
end K
theorem hqA {P : Program} {n k : Nat} {c : Stmt} {r : List ResultVar} (h : hr P n = some (c, r, k)) : hF P n = some c := by
  unfold hr at h; unfold hF
  cases e : P.funcs[n]? with
  | none => rw [e] at h; cases h
  | some fn => rw [e] at h; simp only [Option.bind_some, Option.map_eq_some_iff, Prod.mk.injEq] at h ⊢; obtain ⟨s, h1, rfl, -⟩ := h; exact h1
theorem hqB {P : Program} {n k : Nat} {c : Stmt} {r : List ResultVar} (h : hr P n = some (c, r, k)) : rF P n = some (r, k) := by
  unfold hr at h; unfold rF
  cases e : P.funcs[n]? with
  | none => rw [e] at h; cases h
  | some fn => rw [e] at h; simp only [Option.bind_some, Option.map_eq_some_iff, Prod.mk.injEq, Option.map_some, Option.some.injEq] at h ⊢; obtain ⟨s, h1, -, h2, h3⟩ := h; exact ⟨h2, h3⟩
theorem fi {P : Program} {f : Nat} {st : AS} {rvs : List ResultVar} {nt : Nat} {args : List T} {R : T → List T → Prop} (h : hr P f = some (st.strip, rvs, nt)) (H : ∀ E : Env, (∀ d, E.okd d ↔ noML d (pinsFrom (st0 args) 0 args)) → (∀ B, E.okHi B ↔ ltL B (pinsFrom (st0 args) 0 args)) → wsS P E st (retQ P rvs (pinsFrom (st0 args) 0 args) (nilR R)) (st0 args)) (g : args.length ≤ nt ∧ entOk2 ⟨[], []⟩ 0 args := by simp only [go_sem]) : ACall P f args R := fn_in (hqA h) (hqB h) ⟨g, H⟩
theorem st {p q : Prop} (h : q) (e : p = q := by simp (disch := omega) only [go_sem, hE, hH]; rfl) : p := e ▸ h
theorem sb {p q : Prop} (h : q) (e : p = q := by simp (disch := omega) only [go_sem, hE, hH, hb]; rfl) : p := e ▸ h
theorem gs {p Q a b : Prop} (h1 : Q → b) (q : p = Q := by first | (simp only [nf]; rfl) | rfl) (e : p → a = b := by intro hb; have h := hb; (try simp only [nf] at h); simp (disch := omega) only [go_sem, hE, hH, hb]; rfl) : p → a := fun x => (e x).symm ▸ h1 (q ▸ x)
attribute [go_sem] cond_true cond_false
theorem ga {c b : Bool} {A B : St → Prop} {s : St} (h1 : c = true → cond b (A s) (B s)) (h2 : c = false → cond b (B s) (A s)) : gd c b A B s := by cases b <;> cases c <;> simp [gd] at h1 h2 ⊢ <;> assumption
theorem ti : True := True.intro
theorem fg {P : Program} {f : Nat} {st : AS} {rvs : List ResultVar} {nt : Nat} {args : List T} {R : T → List T → Prop} {o1 o2 : Nat → Prop} (h : hr P f = some (st.strip, rvs, nt)) (H : ∀ E : Env, (∀ d, E.okd d ↔ o1 d) → (∀ B, E.okHi B ↔ o2 B) → wsS P E st (retQ P rvs (pinsFrom (st0 args) 0 args) (nilR R)) (st0 args)) (g : args.length ≤ nt ∧ entOk2 ⟨[], []⟩ 0 args := by simp only [go_sem]) (e1 : ∀ d, noML d (pinsFrom (st0 args) 0 args) = o1 d := by intro d; simp only [go_sem]; rfl) (e2 : ∀ B, ltL B (pinsFrom (st0 args) 0 args) = o2 B := by intro B; simp only [go_sem]; rfl) : ACall P f args R := fi h (fun E a b => H E (fun d => (a d).trans (e1 d ▸ Iff.rfl)) (fun B => (b B).trans (e2 B ▸ Iff.rfl))) g
theorem an {p q : Prop} (h : p) (k : q) : p ∧ q := ⟨h, k⟩
theorem sh {p q : Prop} (k : q) (e : p = q := by simp (disch := omega) only [go_sem, hE, hH, h]; rfl) : p := e ▸ k
theorem s1 {p q : Prop} (h : q) (e : p = q := by simp only [go_sem, hE, hH]; rfl) : p := e ▸ h
theorem fe {p : Prop} (h : p := by refine fin_eq ?_; (try (simp (disch := omega) only [go_sem, hE, hH])); first | done | rfl) : p := h
theorem fj {p : Prop} (h : p := by (with_reducible apply fin_eq); (try (simp (disch := omega) only [go_sem, hE, hH])); first | done | rfl) : p := h
theorem fm {p : Prop} (h : p := by (first | apply noMLL_sE | apply pk_sE) <;> (simp only [go_sem, hE, hH]; done)) : p := h
theorem st1_ {p q : Prop} (h : q) (e : p = q := by simp (disch := omega) only [go_sem, hE, hH, y1_]; rfl) : p := e ▸ h
theorem gs1_ {p Q a b : Prop} (h1 : Q → b) (q : p = Q := by first | (simp only [nf]; rfl) | rfl) (e : p → a = b := by intro hb; have h := hb; (try simp only [nf] at h); simp (disch := omega) only [go_sem, hE, hH, y1_, hb]; rfl) : p → a := fun x => (e x).symm ▸ h1 (q ▸ x)
theorem s11_ {p q : Prop} (h : q) (e : p = q := by simp only [go_sem, hE, hH, y1_]; rfl) : p := e ▸ h
theorem fe1_ {p : Prop} (h : p := by refine fin_eq ?_; (try (simp (disch := omega) only [go_sem, hE, hH, y1_])); first | done | rfl) : p := h
theorem fj1_ {p : Prop} (h : p := by (with_reducible apply fin_eq); (try (simp (disch := omega) only [go_sem, hE, hH, y1_])); first | done | rfl) : p := h
theorem fm1_ {p : Prop} (h : p := by (first | apply noMLL_sE | apply pk_sE) <;> (simp only [go_sem, hE, hH, y1_]; done)) : p := h
theorem st2_ {p q : Prop} (h : q) (e : p = q := by simp (disch := omega) only [go_sem, hE, hH, caps_bare hcap, caps_pk hcap, caps_noM hcap, caps_lt hcap, caps_ids hcap]; rfl) : p := e ▸ h
theorem gs2_ {p Q a b : Prop} (h1 : Q → b) (q : p = Q := by first | (simp only [nf]; rfl) | rfl) (e : p → a = b := by intro hb; have h := hb; (try simp only [nf] at h); simp (disch := omega) only [go_sem, hE, hH, caps_bare hcap, caps_pk hcap, caps_noM hcap, caps_lt hcap, caps_ids hcap, hb]; rfl) : p → a := fun x => (e x).symm ▸ h1 (q ▸ x)
theorem s12_ {p q : Prop} (h : q) (e : p = q := by simp only [go_sem, hE, hH, caps_bare hcap, caps_pk hcap, caps_noM hcap, caps_lt hcap, caps_ids hcap]; rfl) : p := e ▸ h
theorem fe2_ {p : Prop} (h : p := by refine fin_eq ?_; (try (simp (disch := omega) only [go_sem, hE, hH, caps_bare hcap, caps_pk hcap, caps_noM hcap, caps_lt hcap, caps_ids hcap])); first | done | rfl) : p := h
theorem fj2_ {p : Prop} (h : p := by (with_reducible apply fin_eq); (try (simp (disch := omega) only [go_sem, hE, hH, caps_bare hcap, caps_pk hcap, caps_noM hcap, caps_lt hcap, caps_ids hcap])); first | done | rfl) : p := h
theorem fm2_ {p : Prop} (h : p := by (first | apply noMLL_sE | apply pk_sE) <;> (simp only [go_sem, hE, hH, caps_bare hcap, caps_pk hcap, caps_noM hcap, caps_lt hcap, caps_ids hcap]; done)) : p := h
theorem st3_ {p q : Prop} (h : q) (e : p = q := by simp (disch := omega) only [go_sem, hE, hH, y1_, y2_, y3_, y4_]; rfl) : p := e ▸ h
theorem gs3_ {p Q a b : Prop} (h1 : Q → b) (q : p = Q := by first | (simp only [nf]; rfl) | rfl) (e : p → a = b := by intro hb; have h := hb; (try simp only [nf] at h); simp (disch := omega) only [go_sem, hE, hH, y1_, y2_, y3_, y4_, hb]; rfl) : p → a := fun x => (e x).symm ▸ h1 (q ▸ x)
theorem s13_ {p q : Prop} (h : q) (e : p = q := by simp only [go_sem, hE, hH, y1_, y2_, y3_, y4_]; rfl) : p := e ▸ h
theorem fe3_ {p : Prop} (h : p := by refine fin_eq ?_; (try (simp (disch := omega) only [go_sem, hE, hH, y1_, y2_, y3_, y4_])); first | done | rfl) : p := h
theorem fj3_ {p : Prop} (h : p := by (with_reducible apply fin_eq); (try (simp (disch := omega) only [go_sem, hE, hH, y1_, y2_, y3_, y4_])); first | done | rfl) : p := h
theorem fm3_ {p : Prop} (h : p := by (first | apply noMLL_sE | apply pk_sE) <;> (simp only [go_sem, hE, hH, y1_, y2_, y3_, y4_]; done)) : p := h
theorem st4_ {p q : Prop} (h : q) (e : p = q := by simp (disch := omega) only [go_sem, hE, hH, y1_, y2_, y3_]; rfl) : p := e ▸ h
theorem gs4_ {p Q a b : Prop} (h1 : Q → b) (q : p = Q := by first | (simp only [nf]; rfl) | rfl) (e : p → a = b := by intro hb; have h := hb; (try simp only [nf] at h); simp (disch := omega) only [go_sem, hE, hH, y1_, y2_, y3_, hb]; rfl) : p → a := fun x => (e x).symm ▸ h1 (q ▸ x)
theorem s14_ {p q : Prop} (h : q) (e : p = q := by simp only [go_sem, hE, hH, y1_, y2_, y3_]; rfl) : p := e ▸ h
theorem fe4_ {p : Prop} (h : p := by refine fin_eq ?_; (try (simp (disch := omega) only [go_sem, hE, hH, y1_, y2_, y3_])); first | done | rfl) : p := h
theorem fj4_ {p : Prop} (h : p := by (with_reducible apply fin_eq); (try (simp (disch := omega) only [go_sem, hE, hH, y1_, y2_, y3_])); first | done | rfl) : p := h
theorem fm4_ {p : Prop} (h : p := by (first | apply noMLL_sE | apply pk_sE) <;> (simp only [go_sem, hE, hH, y1_, y2_, y3_]; done)) : p := h
theorem st5_ {p q : Prop} (h : q) (e : p = q := by simp (disch := omega) only [go_sem, hE, hH, caps_bare hcap, caps_pk hcap, caps_noM hcap, caps_lt hcap, caps_ids hcap, caps_nmb hcap, caps_ren hcap]; rfl) : p := e ▸ h
theorem gs5_ {p Q a b : Prop} (h1 : Q → b) (q : p = Q := by first | (simp only [nf]; rfl) | rfl) (e : p → a = b := by intro hb; have h := hb; (try simp only [nf] at h); simp (disch := omega) only [go_sem, hE, hH, caps_bare hcap, caps_pk hcap, caps_noM hcap, caps_lt hcap, caps_ids hcap, caps_nmb hcap, caps_ren hcap, hb]; rfl) : p → a := fun x => (e x).symm ▸ h1 (q ▸ x)
theorem s15_ {p q : Prop} (h : q) (e : p = q := by simp only [go_sem, hE, hH, caps_bare hcap, caps_pk hcap, caps_noM hcap, caps_lt hcap, caps_ids hcap, caps_nmb hcap, caps_ren hcap]; rfl) : p := e ▸ h
theorem fe5_ {p : Prop} (h : p := by refine fin_eq ?_; (try (simp (disch := omega) only [go_sem, hE, hH, caps_bare hcap, caps_pk hcap, caps_noM hcap, caps_lt hcap, caps_ids hcap, caps_nmb hcap, caps_ren hcap])); first | done | rfl) : p := h
theorem fj5_ {p : Prop} (h : p := by (with_reducible apply fin_eq); (try (simp (disch := omega) only [go_sem, hE, hH, caps_bare hcap, caps_pk hcap, caps_noM hcap, caps_lt hcap, caps_ids hcap, caps_nmb hcap, caps_ren hcap])); first | done | rfl) : p := h
theorem fm5_ {p : Prop} (h : p := by (first | apply noMLL_sE | apply pk_sE) <;> (simp only [go_sem, hE, hH, caps_bare hcap, caps_pk hcap, caps_noM hcap, caps_lt hcap, caps_ids hcap, caps_nmb hcap, caps_ren hcap]; done)) : p := h
theorem st6_ {p q : Prop} (h : q) (e : p = q := by simp (disch := omega) only [go_sem, hE, hH, y1_, y2_, y3_, y4_, y5_]; rfl) : p := e ▸ h
theorem gs6_ {p Q a b : Prop} (h1 : Q → b) (q : p = Q := by first | (simp only [nf]; rfl) | rfl) (e : p → a = b := by intro hb; have h := hb; (try simp only [nf] at h); simp (disch := omega) only [go_sem, hE, hH, y1_, y2_, y3_, y4_, y5_, hb]; rfl) : p → a := fun x => (e x).symm ▸ h1 (q ▸ x)
theorem s16_ {p q : Prop} (h : q) (e : p = q := by simp only [go_sem, hE, hH, y1_, y2_, y3_, y4_, y5_]; rfl) : p := e ▸ h
theorem fe6_ {p : Prop} (h : p := by refine fin_eq ?_; (try (simp (disch := omega) only [go_sem, hE, hH, y1_, y2_, y3_, y4_, y5_])); first | done | rfl) : p := h
theorem fj6_ {p : Prop} (h : p := by (with_reducible apply fin_eq); (try (simp (disch := omega) only [go_sem, hE, hH, y1_, y2_, y3_, y4_, y5_])); first | done | rfl) : p := h
theorem fm6_ {p : Prop} (h : p := by (first | apply noMLL_sE | apply pk_sE) <;> (simp only [go_sem, hE, hH, y1_, y2_, y3_, y4_, y5_]; done)) : p := h
theorem st7_ {p q : Prop} (h : q) (e : p = q := by simp (disch := omega) only [go_sem, hE, hH, y1_, y2_, y3_, y4_, y5_, y6_, y7_, List.getD_cons_zero]; rfl) : p := e ▸ h
theorem gs7_ {p Q a b : Prop} (h1 : Q → b) (q : p = Q := by first | (simp only [nf]; rfl) | rfl) (e : p → a = b := by intro hb; have h := hb; (try simp only [nf] at h); simp (disch := omega) only [go_sem, hE, hH, y1_, y2_, y3_, y4_, y5_, y6_, y7_, List.getD_cons_zero, hb]; rfl) : p → a := fun x => (e x).symm ▸ h1 (q ▸ x)
theorem s17_ {p q : Prop} (h : q) (e : p = q := by simp only [go_sem, hE, hH, y1_, y2_, y3_, y4_, y5_, y6_, y7_, List.getD_cons_zero]; rfl) : p := e ▸ h
theorem fe7_ {p : Prop} (h : p := by refine fin_eq ?_; (try (simp (disch := omega) only [go_sem, hE, hH, y1_, y2_, y3_, y4_, y5_, y6_, y7_, List.getD_cons_zero])); first | done | rfl) : p := h
theorem fj7_ {p : Prop} (h : p := by (with_reducible apply fin_eq); (try (simp (disch := omega) only [go_sem, hE, hH, y1_, y2_, y3_, y4_, y5_, y6_, y7_, List.getD_cons_zero])); first | done | rfl) : p := h
theorem fm7_ {p : Prop} (h : p := by (first | apply noMLL_sE | apply pk_sE) <;> (simp only [go_sem, hE, hH, y1_, y2_, y3_, y4_, y5_, y6_, y7_, List.getD_cons_zero]; done)) : p := h
theorem st8_ {p q : Prop} (h : q) (e : p = q := by simp (disch := omega) only [go_sem, hE, hH, y1_, y2_, y3_, y4_, y5_, y6_, List.take_succ_cons, List.take_zero, List.take_nil]; rfl) : p := e ▸ h
theorem gs8_ {p Q a b : Prop} (h1 : Q → b) (q : p = Q := by first | (simp only [nf]; rfl) | rfl) (e : p → a = b := by intro hb; have h := hb; (try simp only [nf] at h); simp (disch := omega) only [go_sem, hE, hH, y1_, y2_, y3_, y4_, y5_, y6_, List.take_succ_cons, List.take_zero, List.take_nil, hb]; rfl) : p → a := fun x => (e x).symm ▸ h1 (q ▸ x)
theorem s18_ {p q : Prop} (h : q) (e : p = q := by simp only [go_sem, hE, hH, y1_, y2_, y3_, y4_, y5_, y6_, List.take_succ_cons, List.take_zero, List.take_nil]; rfl) : p := e ▸ h
theorem fe8_ {p : Prop} (h : p := by refine fin_eq ?_; (try (simp (disch := omega) only [go_sem, hE, hH, y1_, y2_, y3_, y4_, y5_, y6_, List.take_succ_cons, List.take_zero, List.take_nil])); first | done | rfl) : p := h
theorem fj8_ {p : Prop} (h : p := by (with_reducible apply fin_eq); (try (simp (disch := omega) only [go_sem, hE, hH, y1_, y2_, y3_, y4_, y5_, y6_, List.take_succ_cons, List.take_zero, List.take_nil])); first | done | rfl) : p := h
theorem fm8_ {p : Prop} (h : p := by (first | apply noMLL_sE | apply pk_sE) <;> (simp only [go_sem, hE, hH, y1_, y2_, y3_, y4_, y5_, y6_, List.take_succ_cons, List.take_zero, List.take_nil]; done)) : p := h
theorem st9_ {p q : Prop} (h : q) (e : p = q := by simp (disch := omega) only [go_sem, hE, hH, y1_, y2_, y3_, y4_, y5_, y6_, y7_, y8_, y9_]; rfl) : p := e ▸ h
theorem gs9_ {p Q a b : Prop} (h1 : Q → b) (q : p = Q := by first | (simp only [nf]; rfl) | rfl) (e : p → a = b := by intro hb; have h := hb; (try simp only [nf] at h); simp (disch := omega) only [go_sem, hE, hH, y1_, y2_, y3_, y4_, y5_, y6_, y7_, y8_, y9_, hb]; rfl) : p → a := fun x => (e x).symm ▸ h1 (q ▸ x)
theorem s19_ {p q : Prop} (h : q) (e : p = q := by simp only [go_sem, hE, hH, y1_, y2_, y3_, y4_, y5_, y6_, y7_, y8_, y9_]; rfl) : p := e ▸ h
theorem fe9_ {p : Prop} (h : p := by refine fin_eq ?_; (try (simp (disch := omega) only [go_sem, hE, hH, y1_, y2_, y3_, y4_, y5_, y6_, y7_, y8_, y9_])); first | done | rfl) : p := h
theorem fj9_ {p : Prop} (h : p := by (with_reducible apply fin_eq); (try (simp (disch := omega) only [go_sem, hE, hH, y1_, y2_, y3_, y4_, y5_, y6_, y7_, y8_, y9_])); first | done | rfl) : p := h
theorem fm9_ {p : Prop} (h : p := by (first | apply noMLL_sE | apply pk_sE) <;> (simp only [go_sem, hE, hH, y1_, y2_, y3_, y4_, y5_, y6_, y7_, y8_, y9_]; done)) : p := h
theorem st10_ {p q : Prop} (h : q) (e : p = q := by simp (disch := omega) only [go_sem, hE, hH, y1_, y2_, y3_, y4_, y5_, y6_]; rfl) : p := e ▸ h
theorem gs10_ {p Q a b : Prop} (h1 : Q → b) (q : p = Q := by first | (simp only [nf]; rfl) | rfl) (e : p → a = b := by intro hb; have h := hb; (try simp only [nf] at h); simp (disch := omega) only [go_sem, hE, hH, y1_, y2_, y3_, y4_, y5_, y6_, hb]; rfl) : p → a := fun x => (e x).symm ▸ h1 (q ▸ x)
theorem s110_ {p q : Prop} (h : q) (e : p = q := by simp only [go_sem, hE, hH, y1_, y2_, y3_, y4_, y5_, y6_]; rfl) : p := e ▸ h
theorem fe10_ {p : Prop} (h : p := by refine fin_eq ?_; (try (simp (disch := omega) only [go_sem, hE, hH, y1_, y2_, y3_, y4_, y5_, y6_])); first | done | rfl) : p := h
theorem fj10_ {p : Prop} (h : p := by (with_reducible apply fin_eq); (try (simp (disch := omega) only [go_sem, hE, hH, y1_, y2_, y3_, y4_, y5_, y6_])); first | done | rfl) : p := h
theorem fm10_ {p : Prop} (h : p := by (first | apply noMLL_sE | apply pk_sE) <;> (simp only [go_sem, hE, hH, y1_, y2_, y3_, y4_, y5_, y6_]; done)) : p := h
def k1_ : Nat := 1
@[go_sem, simp] theorem k1_eq : k1_ = 1 := rfl
def k3_ : Nat := 3
@[go_sem, simp] theorem k3_eq : k3_ = 3 := rfl
def k4_ : Nat := 4
@[go_sem, simp] theorem k4_eq : k4_ = 4 := rfl
def k6_ : Nat := 6
@[go_sem, simp] theorem k6_eq : k6_ = 6 := rfl
def k8_ : Nat := 8
@[go_sem, simp] theorem k8_eq : k8_ = 8 := rfl
def k10_ : Nat := 10
@[go_sem, simp] theorem k10_eq : k10_ = 10 := rfl
set_option maxRecDepth 20000 in
theorem Q1_ {p : Prop} (h : p := by
 unfold z0_ at h
 exact ⟨⟨Nat.le_trans (szL_len (f := ByteArray.size)) (Nat.le_trans (by omega) mx62), fun y hy => trivial⟩, ⟨Nat.le_trans (szL_len (f := z1_)) (Nat.le_trans (by omega) mx62), fun y hy => trivial⟩⟩) : p := h
set_option maxRecDepth 20000 in
theorem Q2_ {p : Prop} (h : p := by
 obtain ⟨hl, hx⟩ := hl
 have hm := mx_eq
 refine fg z0_ fun E hE hH => ?_; simp only [go_sem, hE, hH, T3_x]
 repeat' (first | ((with_reducible apply ga) <;> refine gs fun h => ?_) | ((with_reducible apply an); · omega) | refine jn _ ?_ ?_ | (with_reducible first | apply both | apply an | exact ti) | exact fe | refine st ?_ | exact fm | refine s1 ?_)
 ·rw [decide_eq_false (fun e => h (by rw [e]))]
 have hlen : l.length = m.length := by omega
 clear h
 refine loopN l.length (fun j (_ : Unit) => ⟨[(0, .sl false 1 (z1_ l)), (1, .sl false 1 (z1_ m)), (5, i64 j)], []⟩) (fun j _ => decide (l = m) = decide (l.drop j = m.drop j)) () (by simp) ?_
 intro j _ hj hI
 try simp only [go_sem, hE, hH, T3_x_l1]
 first | refine gd_t (fun h => ?_) (fun h => ?_) | refine gd_f (fun h => ?_) (fun h => ?_)
 ·have hb := h
  simp only [nf] at h
  have hlt := h; clear h
  have hlm : j < m.length := by omega
  rw [drop_eq hlt hlm] at hI
  try refine sb ?_; try exact ⟨⟩
  repeat' (first | ((with_reducible apply ga) <;> refine gs fun h => ?_) | ((with_reducible apply an); · omega) | refine jn _ ?_ ?_ | (with_reducible first | apply both | apply an | exact ti) | exact fe | refine st ?_ | exact fm | refine s1 ?_)
  ·rw [hI]; simp [h]
  ·exact ⟨(), rfl, by rw [hI]; simp [h]⟩
 ·have hb := h
  simp only [nf] at h
  try refine sb ?_; try exact ⟨⟩
  rw [hI, List.drop_of_length_le (by omega), List.drop_of_length_le (by omega)]
  rfl) : p := h
set_option maxRecDepth 20000 in
theorem Q3_ {p : Prop} (h : p := by
 obtain ⟨hl, hx⟩ := hl
 have hm := mx_eq
 refine fg z0_ fun E hE hH => ?_; simp only [go_sem, hE, hH, z1_]
 repeat' (first | ((with_reducible apply ga) <;> refine gs fun h => ?_) | ((with_reducible apply an); · omega) | refine jn _ ?_ ?_ | (with_reducible first | apply both | apply an | exact ti) | exact fe | refine st ?_ | exact fm | refine s1 ?_)
 ·rw [decide_eq_false (fun e => h (by rw [e]))]
 have hlen : l.length = m.length := by omega
 clear h
 refine loopN l.length (fun j (_ : Unit) => ⟨[(0, .sl false z2_ (l.map (z3_ false))), (1, .sl false z2_ (m.map (z3_ false))), (5, i64 j)], []⟩) (fun j _ => decide (l = m) = decide (l.drop j = m.drop j)) () (by simp) ?_
 intro j _ hj hI
 try simp only [go_sem, hE, hH, z4_]
 first | refine gd_t (fun h => ?_) (fun h => ?_) | refine gd_f (fun h => ?_) (fun h => ?_)
 ·have hb := h
  simp only [nf] at h
  have hlt := h; clear h
  have hlm : j < m.length := by omega
  rw [drop_eq hlt hlm] at hI
  have hs := hx _ (nth_mem hlt)
  try refine sb ?_; try exact ⟨⟩
  repeat' (first | ((with_reducible apply ga) <;> refine gs fun h => ?_) | ((with_reducible apply an); · omega) | ((first | refine ok_view ?_ | refine cvA (z5_ _ _ (by assumption)) ?_); refine st ?_) | refine jn _ ?_ ?_ | (with_reducible first | apply both | apply an | exact ti) | exact fe | refine st ?_ | exact fm | refine s1 ?_)
  ·rw [hI]; simp [h]
  ·exact ⟨(), rfl, by rw [hI]; simp [h]⟩
 ·have hb := h
  simp only [nf] at h
  try refine sb ?_; try exact ⟨⟩
  rw [hI, List.drop_of_length_le (by omega), List.drop_of_length_le (by omega)]
  rfl) : p := h
set_option maxRecDepth 20000 in
theorem Q4_ {p : Prop} (h : p := by
 obtain ⟨hl, hx⟩ := hl
 have hm := mx_eq
 refine fg z0_ fun E hE hH => ?_; simp only [go_sem, hE, hH, T4_x]
 repeat' (first | ((with_reducible apply ga) <;> refine gs fun h => ?_) | ((with_reducible apply an); · omega) | refine jn _ ?_ ?_ | (with_reducible first | apply both | apply an | exact ti) | exact fe | refine st ?_ | exact fm | refine s1 ?_)
 ·rw [decide_eq_false (fun e => h (by rw [e]))]
 have hlen : l.length = m.length := by omega
 clear h
 refine loopN l.length (fun j (_ : Unit) => ⟨[(0, .sl false 1 (l.map fun y => [.sl false z1_ (y.map (z2_ false))])), (1, .sl false 1 (m.map fun y => [.sl false z1_ (y.map (z2_ false))])), (5, i64 j)], []⟩) (fun j _ => decide (l = m) = decide (l.drop j = m.drop j)) () (by simp) ?_
 intro j _ hj hI
 try simp only [go_sem, hE, hH, T4_x_l1]
 first | refine gd_t (fun h => ?_) (fun h => ?_) | refine gd_f (fun h => ?_) (fun h => ?_)
 ·have hb := h
  simp only [nf] at h
  have hlt := h; clear h
  have hlm : j < m.length := by omega
  rw [drop_eq hlt hlm] at hI
  have hs := hx _ (nth_mem hlt)
  try refine sb ?_; try exact ⟨⟩
  repeat' (first | ((with_reducible apply ga) <;> refine gs fun h => ?_) | ((with_reducible apply an); · omega) | ((first | refine ok_view ?_ | refine cvA (z3_ _ _ (by assumption)) ?_); refine st ?_) | refine jn _ ?_ ?_ | (with_reducible first | apply both | apply an | exact ti) | exact fe | refine st ?_ | exact fm | refine s1 ?_)
  ·rw [hI]; simp [h]
  ·exact ⟨(), rfl, by rw [hI]; simp [h]⟩
 ·have hb := h
  simp only [nf] at h
  try refine sb ?_; try exact ⟨⟩
  rw [hI, List.drop_of_length_le (by omega), List.drop_of_length_le (by omega)]
  rfl) : p := h
set_option maxRecDepth 20000 in
theorem Q5_ {p : Prop} (h : p := by
 simp only [z0_, z1_, mkN_cnt (f := Clock.mk2) (c := Clock.cnt) (Clock.mk2_cnt), mkN_cnt (f := mkS) (c := fun _ => 1) (fun _ _ => rfl), mkN_cnt (f := Group.mk2) (c := Group.cnt) (Group.mk2_cnt), mkN_cnt (f := mkL (Lock.mk2)) (c := cntL (Lock.cnt)) (fun _ _ => mkN_cnt (f := Lock.mk2) (c := Lock.cnt) (Lock.mk2_cnt)), mkN_cnt (f := mkI) (c := fun _ => 1) (fun _ _ => rfl), mkN_cnt (f := WorldTxn.mk2) (c := WorldTxn.cnt) (WorldTxn.mk2_cnt), mkN_cnt (f := WorldLook.mk2) (c := WorldLook.cnt) (WorldLook.mk2_cnt)]
 try omega) : p := h
set_option maxRecDepth 20000 in
theorem Q6_ {p : Prop} (h : p := by
 have c_Clocks := cntL_le1 (c := Clock.cnt) (A := 1) (fun x => by have := Clock.cnt_le x; omega) (l := x.Clocks)
 have c_Cuts := cntL_le (c := fun _ => 1) (s := ByteArray.size) (A := 1) (fun x => by omega) (l := x.Cuts)
 have c_Groups := cntL_le (c := Group.cnt) (s := Group.sz) (A := 14) Group.cnt_le (l := x.Groups)
 have c_Locks := cntL_le (c := cntL (Lock.cnt)) (s := szL (Lock.sz)) (A := 3) (fun x => by have := cntL_le (c := Lock.cnt) (s := Lock.sz) (A := 3) Lock.cnt_le (l := x); omega) (l := x.Locks)
 have c_Promised := cntL_le1 (c := fun _ => 1) (A := 1) (fun x => by simp) (l := x.Promised)
 have c_Txns := cntL_le (c := WorldTxn.cnt) (s := WorldTxn.sz) (A := 15) WorldTxn.cnt_le (l := x.Txns)
 have c_Looks := cntL_le (c := WorldLook.cnt) (s := WorldLook.sz) (A := 8) WorldLook.cnt_le (l := x.Looks)
 simp only [z0_, World.sz]
 try omega) : p := h
set_option maxRecDepth 20000 in
theorem Q7_ {p : Prop} (h : p := by
 refine fg z0_ fun E hE hH => ?_; simp only [go_sem, hE, hH, z1_]
 refine loopNe l.length (fun j (_ : Unit) => ⟨[(0, .ref 0 0 l.length), (1, i64 (mkN (z2_) l k j)), (5, i64 j)], [(0, ⟨1, z3_ (mkP (z2_) l k j)⟩)]⟩) (fun _ _ => True) () (by simp [mkP_zero, mkN_zero]) trivial ?_
 intro j _ hj _
 have hpl := mkP_len (f := z2_) (k := k) hj
 have hN := mkN_at (f := z2_) (c := fun _ => 1) (fun _ _ => rfl) (l := l) (k := k) (j := j)
 have hlen := cntL_len (c := fun _ => 1) (l := l) (fun x => by simp)
 try simp only [go_sem, hE, hH, z4_]
 first | refine gd_t (fun h => ?_) (fun h => ?_) | refine gd_f (fun h => ?_) (fun h => ?_)
 ·have hb := h
  simp only [nf] at h
  have hlt := h
  have hc := psum_cnt (c := fun _ => 1) hlt
  have e0 := nth_mkP (f := z2_) (k := k) hlt
  have e1 := mkP_set (f := z2_) (k := k) hlt
  have e2 := mkN_succ (f := z2_) (k := k) hlt
  simp only [z2_] at e1 e2
  generalize hk : mkN (z2_) l k j = q at *
  try simp (disch := omega) only [go_sem, hE, hH, e0, hb, hpl, e0]
  all_goals (have y1_ := e0; repeat' (first | ((with_reducible apply ga) <;> refine gs1_ fun h => ?_) | ((with_reducible apply an); · omega) | ((first | refine ok_view ?_ | refine cvA (markText_ok _ (by omega)) ?_); refine st1_ ?_) | refine jn _ ?_ ?_ | (with_reducible first | apply both | apply an | exact ti) | exact fe1_ | refine st1_ ?_ | exact fm1_ | refine s11_ ?_))
  try simp (disch := omega) only [go_sem, hE, hH, e0, hpl, e0]
  repeat' (first | (refine both ?_ ?_) | omega | ((first | apply noMLL_sE | apply pk_sE) <;> (simp only [go_sem, hE, hH, e0]; done)) | fail)
  refine ⟨(), ?_⟩
  rw [e2, ← e1]
  rfl
 ·have hb := h
  simp only [nf] at h
  try refine sb ?_; try exact ⟨⟩
  have e3 : j = l.length := by first | omega | (rw [mkL_len] at h; omega)
  subst e3
  rw [mkN_all (Nat.le_refl _), mkP_all (Nat.le_refl _)]
  exact ⟨mkL_len.symm, rfl, rfl⟩) : p := h
set_option maxRecDepth 20000 in
theorem Q8_ {p : Prop} (h : p := by
 refine fg z0_ fun E hE hH => ?_; simp only [go_sem, hE, hH, z1_]
 refine loopNe l.length (fun j (_ : Unit) => ⟨[(0, .ref 0 0 l.length), (1, i64 (mkN (z2_) l k j)), (5, i64 j)], [(0, ⟨z3_, (mkP (z2_) l k j).map (z4_ true)⟩)]⟩) (fun _ _ => True) () (by simp [mkP_zero, mkN_zero]) trivial ?_
 intro j _ hj _
 have hpl := mkP_len (f := z2_) (k := k) hj
 have hN := mkN_at (f := z2_) (c := z5_) (z6_) (l := l) (k := k) (j := j)
 have hlen := cntL_len (c := z5_) (l := l) (fun x => by simp only [z5_]; omega)
 try simp only [go_sem, hE, hH, z7_]
 first | refine gd_t (fun h => ?_) (fun h => ?_) | refine gd_f (fun h => ?_) (fun h => ?_)
 ·have hb := h
  simp only [nf] at h
  have hlt := h
  have hc := psum_cnt (c := z5_) hlt
  have e0 := nth_mkP (f := z2_) (k := k) hlt
  have e1 := mkP_set (f := z2_) (k := k) hlt
  have e2 := mkN_succ (f := z2_) (k := k) hlt
  simp only [z2_] at e1 e2
  simp only [z5_] at hc
  generalize hk : mkN (z2_) l k j = q at *
  try simp (disch := omega) only [go_sem, hE, hH, e0, hb, hpl, e0]
  all_goals (have y1_ := e0; repeat' (first | ((with_reducible apply ga) <;> refine gs1_ fun h => ?_) | ((with_reducible apply an); · omega) | ((first | refine ok_view ?_ | refine cvA (markText_ok _ (by omega)) ?_); refine st1_ ?_) | refine jn _ ?_ ?_ | (with_reducible first | apply both | apply an | exact ti) | exact fe1_ | refine st1_ ?_ | exact fm1_ | refine s11_ ?_))
  try simp (disch := omega) only [go_sem, hE, hH, e0, hpl, e0]
  repeat' (first | (refine both ?_ ?_) | omega | ((first | apply noMLL_sE | apply pk_sE) <;> (simp only [go_sem, hE, hH, e0]; done)) | fail)
  refine ⟨(), ?_⟩
  rw [e2, ← e1, List.map_set]
  rfl
 ·have hb := h
  simp only [nf] at h
  try refine sb ?_; try exact ⟨⟩
  have e3 : j = l.length := by first | omega | (rw [mkL_len] at h; omega)
  subst e3
  rw [mkN_all (Nat.le_refl _), mkP_all (Nat.le_refl _)]
  exact ⟨mkL_len.symm, rfl, rfl⟩) : p := h
set_option maxRecDepth 20000 in
theorem Q9_ {p : Prop} (h : p := by
 refine fg z0_ fun E hE hH => ?_; simp only [go_sem, hE, hH, T5_x]
 refine loopNe l.length (fun j (_ : Unit) => ⟨[(0, .ref 0 0 l.length), (1, i64 (mkN (mkL (z1_)) l k j)), (5, i64 j)], [(0, ⟨1, (mkP (mkL (z1_)) l k j).map fun y => [.sl true z2_ (y.map (z3_ true))]⟩)]⟩) (fun _ _ => True) () (by simp [mkP_zero, mkN_zero]) trivial ?_
 intro j _ hj _
 have hpl := mkP_len (f := mkL (z1_)) (k := k) hj
 have hN := mkN_at (f := mkL (z1_)) (c := cntL (z4_)) (fun _ _ => mkN_cnt (f := z1_) (c := z4_) (z5_)) (l := l) (k := k) (j := j)
 try simp only [go_sem, hE, hH, T5_x_l1]
 first | refine gd_t (fun h => ?_) (fun h => ?_) | refine gd_f (fun h => ?_) (fun h => ?_)
 ·have hb := h
  simp only [nf] at h
  have hlt := h
  have hc := psum_cnt (c := cntL (z4_)) hlt
  have e0 := nth_mkP (f := mkL (z1_)) (k := k) hlt
  have e1 := mkP_set (f := mkL (z1_)) (k := k) hlt
  have e2 := mkN_succ (f := mkL (z1_)) (k := k) hlt
  generalize hk : mkN (mkL (z1_)) l k j = q at *
  have m_0 := mkN_cnt (f := z1_) (c := z4_) (z5_) (l := nth l j) (k := q)
  try simp (disch := omega) only [go_sem, hE, hH, e0, hb, hpl, e0]
  all_goals (have y1_ := e0; repeat' (first | ((with_reducible apply ga) <;> refine gs1_ fun h => ?_) | ((with_reducible apply an); · omega) | (refine ok_lend [true, false] ?_; refine st1_ ?_; refine cmA (z6_ (nth l j) (q) (by omega) (by omega)) ?_; refine st1_ ?_) | ((first | refine ok_view ?_ | refine cvA (markText_ok _ (by omega)) ?_); refine st1_ ?_) | refine jn _ ?_ ?_ | (with_reducible first | apply both | apply an | exact ti) | exact fe1_ | refine st1_ ?_ | exact fm1_ | refine s11_ ?_))
  try simp (disch := omega) only [go_sem, hE, hH, e0, hpl, e0]
  repeat' (first | (refine both ?_ ?_) | omega | ((first | apply noMLL_sE | apply pk_sE) <;> (simp only [go_sem, hE, hH, e0]; done)) | fail)
  refine ⟨(), ?_⟩
  rw [e2, ← e1, List.map_set]
  rfl
 ·have hb := h
  simp only [nf] at h
  try refine sb ?_; try exact ⟨⟩
  have e3 : j = l.length := by first | omega | (rw [mkL_len] at h; omega)
  subst e3
  rw [mkN_all (Nat.le_refl _), mkP_all (Nat.le_refl _)]
  exact ⟨mkL_len.symm, rfl, rfl⟩) : p := h
set_option maxRecDepth 20000 in
theorem Q10_ {p : Prop} (h : p := by
 refine fg z0_ fun E hE hH => ?_; simp only [go_sem, hE, hH, z1_]
 refine loopNe l.length (fun j (_ : Unit) => ⟨[(0, .sl false 1 (z2_ (mkL (z3_) l k).1)), (1, i64 (mkN (z3_) l k j)), (5, i64 j)], []⟩) (fun _ _ => True) () (by simp [mkP_zero, mkN_zero]) trivial ?_
 intro j _ hj _
 have hpl := mkL_len (f := z3_) (k := k) (l := l)
 have hN := mkN_at (f := z3_) (c := fun _ => 1) (fun _ _ => rfl) (l := l) (k := k) (j := j)
 have hlen := cntL_len (c := fun _ => 1) (l := l) (fun x => by simp)
 try simp only [go_sem, hE, hH, z4_]
 first | refine gd_t (fun h => ?_) (fun h => ?_) | refine gd_f (fun h => ?_) (fun h => ?_)
 ·have hb := h
  simp only [nf] at h
  have hlt : j < l.length := by first | exact h | (rw [mkL_len] at h; exact h)
  have hc := psum_cnt (c := fun _ => 1) hlt
  have e0 := nth_mkL (f := z3_) (k := k) hlt
  have e2 := mkN_succ (f := z3_) (k := k) hlt
  simp only [z3_] at e0 e2
  generalize hk : mkN (z3_) l k j = q at *
  try simp (disch := omega) only [go_sem, hE, hH, e0, hb, hpl, e0]
  all_goals (have y1_ := e0; repeat' (first | ((with_reducible apply ga) <;> refine gs1_ fun h => ?_) | ((with_reducible apply an); · omega) | ((first | refine ok_view ?_ | refine cvA (markText_ok _ (by omega)) ?_); refine st1_ ?_) | refine jn _ ?_ ?_ | (with_reducible first | apply both | apply an | exact ti) | exact fe1_ | refine st1_ ?_ | exact fm1_ | refine s11_ ?_))
  try simp (disch := omega) only [go_sem, hE, hH, e0, hpl, e0]
  repeat' (first | (refine both ?_ ?_) | omega | ((first | apply noMLL_sE | apply pk_sE) <;> (simp only [go_sem, hE, hH, e0]; done)) | fail)
  refine ⟨(), ?_⟩
  rw [e2]
  rfl
 ·have hb := h
  simp only [nf] at h
  try refine sb ?_; try exact ⟨⟩
  have e3 : j = l.length := by first | omega | (rw [mkL_len] at h; omega)
  subst e3
  rw [mkN_all (Nat.le_refl _)]) : p := h
set_option maxRecDepth 20000 in
theorem Q11_ {p : Prop} (h : p := by
 refine fg z0_ fun E hE hH => ?_; simp only [go_sem, hE, hH, z1_]
 refine loopNe l.length (fun j (_ : Unit) => ⟨[(0, .sl false z2_ ((mkL (z3_) l k).1.map (z4_ false))), (1, i64 (mkN (z3_) l k j)), (5, i64 j)], []⟩) (fun _ _ => True) () (by simp [mkP_zero, mkN_zero]) trivial ?_
 intro j _ hj _
 have hpl := mkL_len (f := z3_) (k := k) (l := l)
 have hN := mkN_at (f := z3_) (c := z5_) (z6_) (l := l) (k := k) (j := j)
 have hlen := cntL_len (c := z5_) (l := l) (fun x => by simp only [z5_]; omega)
 try simp only [go_sem, hE, hH, z7_]
 first | refine gd_t (fun h => ?_) (fun h => ?_) | refine gd_f (fun h => ?_) (fun h => ?_)
 ·have hb := h
  simp only [nf] at h
  have hlt : j < l.length := by first | exact h | (rw [mkL_len] at h; exact h)
  have hc := psum_cnt (c := z5_) hlt
  have e0 := nth_mkL (f := z3_) (k := k) hlt
  have e2 := mkN_succ (f := z3_) (k := k) hlt
  simp only [z3_] at e0 e2
  simp only [z5_] at hc
  generalize hk : mkN (z3_) l k j = q at *
  try simp (disch := omega) only [go_sem, hE, hH, e0, hb, hpl, e0]
  all_goals (have y1_ := e0; repeat' (first | ((with_reducible apply ga) <;> refine gs1_ fun h => ?_) | ((with_reducible apply an); · omega) | ((first | refine ok_view ?_ | refine cvA (markText_ok _ (by omega)) ?_); refine st1_ ?_) | refine jn _ ?_ ?_ | (with_reducible first | apply both | apply an | exact ti) | exact fe1_ | refine st1_ ?_ | exact fm1_ | refine s11_ ?_))
  try simp (disch := omega) only [go_sem, hE, hH, e0, hpl, e0]
  repeat' (first | (refine both ?_ ?_) | omega | ((first | apply noMLL_sE | apply pk_sE) <;> (simp only [go_sem, hE, hH, e0]; done)) | fail)
  refine ⟨(), ?_⟩
  rw [e2]
  rfl
 ·have hb := h
  simp only [nf] at h
  try refine sb ?_; try exact ⟨⟩
  have e3 : j = l.length := by first | omega | (rw [mkL_len] at h; omega)
  subst e3
  rw [mkN_all (Nat.le_refl _)]) : p := h
set_option maxRecDepth 20000 in
theorem Q12_ {p : Prop} (h : p := by
 refine fg z0_ fun E hE hH => ?_; simp only [go_sem, hE, hH, z1_]
 refine ok_isn ?_
 try refine st ?_; try exact ⟨⟩
 intro b hb
 cases b <;> try simp (disch := omega) only [go_sem, hE, hH]
 all_goals first | omega | (simp_all; done) | (simp_all; exact ⟨by omega, fun a _ => rfl⟩)) : p := h
set_option maxRecDepth 20000 in
theorem Q13_ {p : Prop} (h : p := by
 have hmx := mx_eq
 refine fn_in (hqA z0_) (hqB z0_) ⟨by simp only [go_sem, caps_bare hcap, caps_pk hcap, caps_noM hcap, caps_lt hcap, caps_ids hcap], fun E hE hH => ?_⟩; simp only [go_sem, caps_bare hcap, caps_pk hcap, caps_noM hcap, caps_lt hcap, caps_ids hcap] at hE hH; simp only [go_sem, hE, hH, caps_bare hcap, caps_pk hcap, caps_noM hcap, caps_lt hcap, caps_ids hcap, z1_]
 refine loopN l.length (fun j (_ : Unit) => ⟨[(0, .sl false z2_ (l.map (z3_ false))), (1, .fn f caps), (7, i64 l.length), (8, i64 j)], []⟩) (fun j _ => allN (fun i => !p (nth l i)) j = true) () rfl ?_
 intro j _ hj hI
 try simp only [go_sem, hE, hH, caps_bare hcap, caps_pk hcap, caps_noM hcap, caps_lt hcap, caps_ids hcap, z4_]
 first | refine gd_t (fun h => ?_) (fun h => ?_) | refine gd_f (fun h => ?_) (fun h => ?_)
 ·have hb := h
  simp only [nf] at h
  have hlt := h; clear h
  try simp (disch := omega) only [go_sem, hE, hH, caps_bare hcap, caps_pk hcap, caps_noM hcap, caps_lt hcap, caps_ids hcap, hb]
  refine And.intro (by omega) ?_
  refine ok_cfv rfl rfl rfl (hent) (hcap) (hp _ (nth_mem hlt)) ?_
  try simp (disch := omega) only [go_sem, hE, hH, caps_bare hcap, caps_pk hcap, caps_noM hcap, caps_lt hcap, caps_ids hcap]
  repeat' (first | ((with_reducible apply ga) <;> refine gs2_ fun h => ?_) | ((with_reducible apply an); · omega) | refine jn _ ?_ ?_ | (with_reducible first | apply both | apply an | exact ti) | exact fe2_ | refine st2_ ?_ | exact fm2_ | refine s12_ ?_)
  ·rw [ixf_at hlt hI h]
  ·exact ⟨(), rfl, allN_step hI (by simp [h])⟩
 ·try simp (disch := omega) only [go_sem, hE, hH, caps_bare hcap, caps_pk hcap, caps_noM hcap, caps_lt hcap, caps_ids hcap, h]
  simp only [nf] at h
  rw [show j = l.length by omega] at hI
  rw [ixf_none hI]) : p := h
set_option maxRecDepth 20000 in
theorem Q14_ {p : Prop} (h : p := by
 refine fn_in (hqA z0_) (hqB z0_) ⟨by simp only [go_sem, caps_bare hcap, caps_pk hcap, caps_noM hcap, caps_lt hcap, caps_ids hcap], fun E hE hH => ?_⟩; simp only [go_sem, caps_bare hcap, caps_pk hcap, caps_noM hcap, caps_lt hcap, caps_ids hcap] at hE hH; simp only [go_sem, hE, hH, caps_bare hcap, caps_pk hcap, caps_noM hcap, caps_lt hcap, caps_ids hcap, T6_x]
 refine ok_cv rfl (by simp only [zipF, argL, vwT, vwLeaf, vwRow_caps hcap, Bool.false_eq_true, if_false]; rfl) (z1_ l f caps p hent hcap hl hp) ?_
 try simp (disch := omega) only [go_sem, hE, hH, caps_bare hcap, caps_pk hcap, caps_noM hcap, caps_lt hcap, caps_ids hcap, ixf_any, vwC_ok hcap]) : p := h
set_option maxRecDepth 20000 in
theorem Q15_ {p : Prop} (h : p := by
 refine fg z0_ fun E hE hH => ?_; simp only [go_sem, hE, hH, z1_]
 repeat' (first | ((with_reducible apply ga) <;> refine gs fun h => ?_) | ((with_reducible apply an); · omega) | refine jn _ ?_ ?_ | (with_reducible first | apply both | apply an | exact ti) | exact fe | refine st ?_ | exact fm | refine s1 ?_)
 all_goals (simp_all [rng]; try omega)) : p := h
set_option maxRecDepth 20000 in
theorem Q16_ {p : Prop} (h : p := by
 refine fg z0_ fun E hE hH => ?_; simp only [go_sem, hE, hH, z1_]
 repeat' (first | ((with_reducible apply ga) <;> refine gs fun h => ?_) | ((with_reducible apply an); · omega) | ((first | refine ok_view ?_ | refine cvA (z2_ _ _ _) ?_); refine st ?_) | refine jn _ ?_ ?_ | (with_reducible first | apply both | apply an | exact ti) | exact fe | refine st ?_ | exact fm | refine s1 ?_)) : p := h
set_option maxRecDepth 20000 in
theorem Q17_ {p : Prop} (h : p := by
 refine fg z0_ fun E hE hH => ?_; simp only [go_sem, hE, hH, z1_]
 repeat' (first | ((with_reducible apply ga) <;> refine gs fun h => ?_) | ((with_reducible apply an); · omega) | (with_reducible first | apply jn | apply both | apply an | exact ti) | exact fj | refine st ?_ | exact fm | refine s1 ?_)
 all_goals (first | (simp_all []; done) | (simp_all [] <;> first | omega | (intros; omega)))) : p := h
set_option maxRecDepth 20000 in
theorem Q18_ {p : Prop} (h : p := by
 have hmx := mx_eq
 have hl' := hl.1
 refine fg z0_ fun E hE hH => ?_; simp only [go_sem, hE, hH, z1_]
 repeat' (first | ((with_reducible apply ga) <;> refine gs fun h => ?_) | ((with_reducible apply an); · omega) | ((first | refine ok_view ?_ | refine cvA (z2_ l hl) ?_); refine st ?_) | (with_reducible first | apply jn | apply both | apply an | exact ti) | exact fj | refine st ?_ | exact fm | refine s1 ?_)
 all_goals (first | (simp_all [z3_]; done) | (simp_all [z3_] <;> first | omega | (intros; omega)))) : p := h
set_option maxRecDepth 20000 in
theorem Q19_ {p : Prop} (h : p := by
 have hmx := mx_eq
 refine fg z0_ fun E hE hH => ?_; simp only [go_sem, hE, hH, z1_]
 repeat' (first | ((with_reducible apply ga) <;> refine gs fun h => ?_) | ((with_reducible apply an); · omega) | (with_reducible first | apply jn | apply both | apply an | exact ti) | exact fj | refine st ?_ | exact fm | refine s1 ?_)
 all_goals first | omega | (rw [lastT, if_pos (by omega)]; done) | (rw [lastT, if_neg (by omega)]; done) | (simp [lastT, *]; done)) : p := h
set_option maxRecDepth 20000 in
theorem Q20_ {p : Prop} (h : p := by
 have hmx := mx_eq
 refine fg z0_ fun E hE hH => ?_; simp only [go_sem, hE, hH, z1_]
 repeat' (first | ((with_reducible apply ga) <;> refine gs fun h => ?_) | ((with_reducible apply an); · omega) | ((first | refine ok_view ?_ | refine cvA (z2_ a ha) ?_ | refine cvA (z2_ b hb0) ?_); refine st ?_) | (with_reducible first | apply jn | apply both | apply an | exact ti) | exact fj | refine st ?_ | exact fm | refine s1 ?_)
 all_goals first | (simp_all [newerE]; done) | (simp_all [newerE]; omega)) : p := h
set_option maxRecDepth 20000 in
theorem Q21_ {p : Prop} (h : p := by
 have hmx := mx_eq
 have c1 := z0_ ⟨0⟩ 0 (by decide) (by decide) (by decide) (by decide)
 rw [show ((0 : Int) + (⟨0⟩ : Clock).Off - 5) = -5 from rfl, show ((0 : Int) + (⟨0⟩ : Clock).Off + 5) = 5 from rfl] at c1
 have n1 := fun d => noML_of_packed d hX1
 have n2 := fun d => noML_of_packed d hL1
 have l1 : ∀ B, ltL B X := fun B => (ltL_iff B X).2 fun i _ _ => n1 i
 have l2 : ∀ B, ltL B L := fun B => (ltL_iff B L).2 fun i _ _ => n2 i
 have hg := getD_rep (r := [i64 0]) hi
 refine fn_in (hqA z1_) (hqB z1_) ⟨by simp only [go_sem, hX1, hX2, hL1, hL2, n1, n2, l1, l2, hg], fun E hE hH => ?_⟩; simp only [go_sem, hX1, hX2, hL1, hL2, n1, n2, l1, l2, hg] at hE hH; simp only [go_sem, hE, hH, hX1, hX2, hL1, hL2, n1, n2, l1, l2, hg, z2_]
 all_goals (have y1_ := hX1; have y2_ := hX2; have y3_ := hL1; have y4_ := hL2; have y5_ := n1; have y6_ := n2; have y7_ := l1; have y8_ := l2; have y9_ := hg; repeat' (first | ((with_reducible apply ga) <;> refine gs9_ fun h => ?_) | ((with_reducible apply an); · omega) | ((first | refine ok_view ?_ | refine cvA (c1) ?_); refine st9_ ?_) | (with_reducible first | apply jn | apply both | apply an | exact ti) | exact fj9_ | refine st9_ ?_ | exact fm9_ | refine s19_ ?_))
 all_goals first | omega | rfl) : p := h
set_option maxRecDepth 20000 in
theorem Q22_ {p : Prop} (h : p := by
 have hmx := mx_eq
 refine fg z0_ fun E hE hH => ?_; simp only [go_sem, hE, hH, z1_]
 repeat' (first | ((with_reducible apply ga) <;> refine gs fun h => ?_) | ((with_reducible apply an); · omega) | ((first | refine ok_view ?_ | refine cvA (z2_ l hl) ?_); refine st ?_) | (with_reducible first | apply jn | apply both | apply an | exact ti) | exact fj | refine st ?_ | exact fm | refine s1 ?_)
 all_goals first | rfl) : p := h
end Go.Am

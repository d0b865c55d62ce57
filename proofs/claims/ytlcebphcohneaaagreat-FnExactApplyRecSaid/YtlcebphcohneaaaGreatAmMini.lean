/- Short forms of the steps of a walk, and of compiled statements. -/
import Derived.Test.YtlcebphcohneaaaGreatAmRaw
set_option linter.unusedSimpArgs false
set_option linter.unusedVariables false
namespace Go.Am
open Go K
instance (n : Nat) : OfNat Operand n := ⟨.tmp (OfNat.ofNat n)⟩
@[go_sem] theorem ofT (n : Nat) : (OfNat.ofNat n : Operand) = .tmp (OfNat.ofNat n) := rfl
namespace K
def L (d x : Nat) : IN := ⟨some d, none, .load none (.tmp x)⟩
def F (d n x : Nat) : IN := ⟨some d, none, .fa n (.tmp x)⟩
def A (d k x i : Nat) : IN := ⟨some d, none, .ia k (.tmp x) (.tmp i)⟩
def W (n x v : Nat) : IN := ⟨none, none, .store n (.tmp x) (.tmp v)⟩
def Y (d x : Nat) : IN := ⟨some d, none, .lens (.tmp x)⟩
def v (d : Nat) (x : Operand) : IN := ⟨some d, none, .mv x⟩
def q (l : List IN) (b : AS) : AS := .seq (.ops l) b
@[go_sem] theorem L_eq (d x : Nat) : L d x = ⟨some d, none, .load none (.tmp x)⟩ := rfl
@[go_sem] theorem F_eq (d n x : Nat) : F d n x = ⟨some d, none, .fa n (.tmp x)⟩ := rfl
@[go_sem] theorem A_eq (d k x i : Nat) : A d k x i = ⟨some d, none, .ia k (.tmp x) (.tmp i)⟩ := rfl
@[go_sem] theorem W_eq (n x v : Nat) : W n x v = ⟨none, none, .store n (.tmp x) (.tmp v)⟩ := rfl
@[go_sem] theorem Y_eq (d x : Nat) : Y d x = ⟨some d, none, .lens (.tmp x)⟩ := rfl
@[go_sem] theorem v_eq (d : Nat) (x : Operand) : v d x = ⟨some d, none, .mv x⟩ := rfl
@[go_sem] theorem q_eq (l : List IN) (b : AS) : q l b = .seq (.ops l) b := rfl
def hr (P : Program) (n : Nat) : Option (Stmt × List ResultVar × Nat) := (P.funcs[n]?).bind fun fn => (fn.body.bind (comp P fn.ntmps)).map fun s => (s, fn.results.toList, fn.ntmps)
end K
theorem hqA {P : Program} {n k : Nat} {c : Stmt} {r : List ResultVar} (h : hr P n = some (c, r, k)) : hF P n = some c := by
  unfold hr at h; unfold hF
  cases e : P.funcs[n]? with
  | none => rw [e] at h; cases h
  | some fn => rw [e] at h; simp only [Option.bind_some, Option.map_eq_some_iff, Prod.mk.injEq] at h ⊢; obtain ⟨s, h1, rfl, -⟩ := h; exact h1
theorem hqB {P : Program} {n k : Nat} {c : Stmt} {r : List ResultVar} (h : hr P n = some (c, r, k)) : rF P n = some (r, k) := by
  unfold hr at h; unfold rF
  cases e : P.funcs[n]? with
  | none => rw [e] at h; cases h
  | some fn => rw [e] at h; simp only [Option.bind_some, Option.map_eq_some_iff, Prod.mk.injEq, Option.map_some, Option.some.injEq] at h ⊢; obtain ⟨s, h1, -, h2, h3⟩ := h; exact ⟨h2, h3⟩
theorem fi {P : Program} {f : Nat} {st : AS} {rvs : List ResultVar} {nt : Nat} {args : List T} {R : T → List T → Prop} (h : hr P f = some (st.strip, rvs, nt)) (H : ∀ E : Env, (∀ d, E.okd d ↔ noML d (pinsFrom (st0 args) 0 args)) → (∀ B, E.okHi B ↔ ltL B (pinsFrom (st0 args) 0 args)) → wsS P E st (retQ P rvs (pinsFrom (st0 args) 0 args) (nilR R)) (st0 args)) (g : args.length ≤ nt ∧ entOk2 ⟨[], []⟩ 0 args := by simp only [go_sem]) : ACall P f args R := fn_in (hqA h) (hqB h) ⟨g, H⟩
theorem st {p q : Prop} (h : q) (e : p = q := by simp (disch := omega) only [go_sem, hE, hH]; rfl) : p := e ▸ h
theorem sb {p q : Prop} (h : q) (e : p = q := by simp (disch := omega) only [go_sem, hE, hH, hb]; rfl) : p := e ▸ h
theorem s1 {p q : Prop} (h : q) (e : p = q := by simp only [go_sem, hE, hH]; rfl) : p := e ▸ h
theorem fe {p : Prop} (h : p := by refine fin_eq ?_; (try (simp (disch := omega) only [go_sem, hE, hH])); first | done | rfl) : p := h
theorem fj {p : Prop} (h : p := by (with_reducible apply fin_eq); (try (simp (disch := omega) only [go_sem, hE, hH])); first | done | rfl) : p := h
theorem fm {p : Prop} (h : p := by (first | apply noMLL_sE | apply pk_sE) <;> (simp only [go_sem, hE, hH]; done)) : p := h
end Go.Am

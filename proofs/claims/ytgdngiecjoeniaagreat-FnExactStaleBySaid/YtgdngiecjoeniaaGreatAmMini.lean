/- Short forms of the steps of a walk, and of compiled statements. -/
import Derived.Test.YtgdngiecjoeniaaGreatAmRaw
set_option linter.unusedSimpArgs false
set_option linter.unusedVariables false
namespace Go.Am
open Go K
instance (n : Nat) : OfNat Operand n := ⟨.tmp (OfNat.ofNat n)⟩
@[go_sem] theorem ofT (n : Nat) : (OfNat.ofNat n : Operand) = .tmp (OfNat.ofNat n) := rfl
namespace K
def L (d x : Nat) : IN := ⟨some d, none, .load none (.tmp x)⟩
def F (d n x : Nat) : IN := ⟨some d, none, .fa n (.tmp x)⟩
def A (d k x i : Nat) : IN := ⟨some d, none, .ia k (.tmp x) (.tmp i)⟩
def W (n x v : Nat) : IN := ⟨none, none, .store n (.tmp x) (.tmp v)⟩
def Y (d x : Nat) : IN := ⟨some d, none, .lens (.tmp x)⟩
def v (d : Nat) (x : Operand) : IN := ⟨some d, none, .mv x⟩
def q (l : List IN) (b : AS) : AS := .seq (.ops l) b
@[go_sem] theorem L_eq (d x : Nat) : L d x = ⟨some d, none, .load none (.tmp x)⟩ := rfl
@[go_sem] theorem F_eq (d n x : Nat) : F d n x = ⟨some d, none, .fa n (.tmp x)⟩ := rfl
@[go_sem] theorem A_eq (d k x i : Nat) : A d k x i = ⟨some d, none, .ia k (.tmp x) (.tmp i)⟩ := rfl
@[go_sem] theorem W_eq (n x v : Nat) : W n x v = ⟨none, none, .store n (.tmp x) (.tmp v)⟩ := rfl
@[go_sem] theorem Y_eq (d x : Nat) : Y d x = ⟨some d, none, .lens (.tmp x)⟩ := rfl
@[go_sem] theorem v_eq (d : Nat) (x : Operand) : v d x = ⟨some d, none, .mv x⟩ := rfl
@[go_sem] theorem q_eq (l : List IN) (b : AS) : q l b = .seq (.ops l) b := rfl
def hr (P : Program) (n : Nat) : Option (Stmt × List ResultVar × Nat) := (P.funcs[n]?).bind fun fn => (fn.body.bind (comp P fn.ntmps)).map fun s => (s, fn.results.toList, fn.ntmps)
end K
theorem hqA {P : Program} {n k : Nat} {c : Stmt} {r : List ResultVar} (h : hr P n = some (c, r, k)) : hF P n = some c := by
  unfold hr at h; unfold hF
  cases e : P.funcs[n]? with
  | none => rw [e] at h; cases h
  | some fn => rw [e] at h; simp only [Option.bind_some, Option.map_eq_some_iff, Prod.mk.injEq] at h ⊢; obtain ⟨s, h1, rfl, -⟩ := h; exact h1
theorem hqB {P : Program} {n k : Nat} {c : Stmt} {r : List ResultVar} (h : hr P n = some (c, r, k)) : rF P n = some (r, k) := by
  unfold hr at h; unfold rF
  cases e : P.funcs[n]? with
  | none => rw [e] at h; cases h
  | some fn => rw [e] at h; simp only [Option.bind_some, Option.map_eq_some_iff, Prod.mk.injEq, Option.map_some, Option.some.injEq] at h ⊢; obtain ⟨s, h1, -, h2, h3⟩ := h; exact ⟨h2, h3⟩
theorem fi {P : Program} {f : Nat} {st : AS} {rvs : List ResultVar} {nt : Nat} {args : List T} {R : T → List T → Prop} (h : hr P f = some (st.strip, rvs, nt)) (H : ∀ E : Env, (∀ d, E.okd d ↔ noML d (pinsFrom (st0 args) 0 args)) → (∀ B, E.okHi B ↔ ltL B (pinsFrom (st0 args) 0 args)) → wsS P E st (retQ P rvs (pinsFrom (st0 args) 0 args) (nilR R)) (st0 args)) (g : args.length ≤ nt ∧ entOk2 ⟨[], []⟩ 0 args := by simp only [go_sem]) : ACall P f args R := fn_in (hqA h) (hqB h) ⟨g, H⟩
theorem st {p q : Prop} (h : q) (e : p = q := by simp (disch := omega) only [go_sem, hE, hH]; rfl) : p := e ▸ h
theorem sb {p q : Prop} (h : q) (e : p = q := by simp (disch := omega) only [go_sem, hE, hH, hb]; rfl) : p := e ▸ h
theorem s1 {p q : Prop} (h : q) (e : p = q := by simp only [go_sem, hE, hH]; rfl) : p := e ▸ h
theorem fe {p : Prop} (h : p := by refine fin_eq ?_; (try (simp (disch := omega) only [go_sem, hE, hH])); first | done | rfl) : p := h
theorem fj {p : Prop} (h : p := by (with_reducible apply fin_eq); (try (simp (disch := omega) only [go_sem, hE, hH])); first | done | rfl) : p := h
theorem fm {p : Prop} (h : p := by (first | apply noMLL_sE | apply pk_sE) <;> (simp only [go_sem, hE, hH]; done)) : p := h
def k1_ : Nat := 1
@[go_sem] theorem k1_eq : k1_ = 1 := rfl
def k2_ : Nat := 2
@[go_sem] theorem k2_eq : k2_ = 2 := rfl
def k3_ : Nat := 3
@[go_sem] theorem k3_eq : k3_ = 3 := rfl
def k4_ : Nat := 4
@[go_sem] theorem k4_eq : k4_ = 4 := rfl
def k5_ : Nat := 5
@[go_sem] theorem k5_eq : k5_ = 5 := rfl
def k6_ : Nat := 6
@[go_sem] theorem k6_eq : k6_ = 6 := rfl
def k8_ : Nat := 8
@[go_sem] theorem k8_eq : k8_ = 8 := rfl
def k10_ : Nat := 10
@[go_sem] theorem k10_eq : k10_ = 10 := rfl
set_option maxRecDepth 20000 in
theorem Q1_ {p : Prop} (h : p := by
 obtain ⟨w_Key, w_Val⟩ := hw
 have hm := mx_eq
 refine fi z0_ fun E hE hH => ?_; simp only [go_sem] at hE hH; simp only [go_sem, hE, hH, T15_x]
 try simp (disch := omega) only [go_sem, hE, hH]
 first | refine gd_t (fun h => ?_) (fun h => ?_) | refine gd_f (fun h => ?_) (fun h => ?_)
 ·have hb := h
  simp only [nf] at h
  try simp (disch := omega) only [go_sem, hE, hH, hb]
  exact ⟨_, rfl, by omega, by omega⟩
 have hb := h
 simp only [nf] at h
 try simp (disch := omega) only [go_sem, hE, hH, hb]
 have p0 : 0 ≤ left - (x.Key.size : Int) := by omega
 clear h hb
 try simp (disch := omega) only [go_sem, hE, hH]
 first | refine gd_t (fun h => ?_) (fun h => ?_) | refine gd_f (fun h => ?_) (fun h => ?_)
 ·have hb := h
  simp only [nf] at h
  try simp (disch := omega) only [go_sem, hE, hH, hb]
  exact ⟨_, rfl, by omega, by omega⟩
 have hb := h
 simp only [nf] at h
 try simp (disch := omega) only [go_sem, hE, hH, hb]
 have p1 : 0 ≤ (left - (x.Key.size : Int)) - (x.Val.size : Int) := by omega
 clear h hb
 exact ⟨_, rfl, by omega, fun _ => by unfold z1_; omega⟩) : p := h
set_option maxRecDepth 20000 in
theorem Q2_ {p : Prop} (h : p := by
 obtain ⟨hl, hx⟩ := hw
 have hm := mx_eq
 refine fi z0_ fun E hE hH => ?_; simp only [go_sem] at hE hH; simp only [go_sem, hE, hH, z1_]
 try simp (disch := omega) only [go_sem, hE, hH]
 repeat' (first | ((with_reducible first | refine gd_t ?_ ?_ | refine gd_f ?_ ?_) <;> (intro h; have hb := h; (try simp only [nf] at h); refine sb ?_; (try clear hb))) | ((with_reducible refine And.intro ?_ ?_); · omega) | refine jn _ ?_ ?_ | (with_reducible first | refine both ?_ ?_ | refine And.intro ?_ ?_) | exact fe | refine st ?_ | exact fm | refine s1 ?_ | (with_reducible exact True.intro) | fail)
 ·exact ⟨_, rfl, by omega, by omega⟩
 ·exact ⟨_, rfl, by omega, by omega⟩) : p := h
set_option maxRecDepth 20000 in
theorem Q3_ {p : Prop} (h : p := by
 obtain ⟨hl, hx⟩ := hw
 have hm := mx_eq
 refine fi z0_ fun E hE hH => ?_; simp only [go_sem] at hE hH; simp only [go_sem, hE, hH, z1_]
 try simp (disch := omega) only [go_sem, hE, hH]
 repeat' (first | ((with_reducible first | refine gd_t ?_ ?_ | refine gd_f ?_ ?_) <;> (intro h; have hb := h; (try simp only [nf] at h); refine sb ?_; (try clear hb))) | ((with_reducible refine And.intro ?_ ?_); · omega) | refine jn _ ?_ ?_ | (with_reducible first | refine both ?_ ?_ | refine And.intro ?_ ?_) | exact fe | refine st ?_ | exact fm | refine s1 ?_ | (with_reducible exact True.intro) | fail)
 ·exact ⟨_, rfl, by omega, by omega⟩
 refine loopN l.length (fun j (n : Int) => ⟨[(0, .sl false z2_ (l.map (z3_ false))), (1, i64 n), (5, i64 j)], []⟩) (fun j n => 0 ≤ n ∧ n ≤ left ∧ n + l.length + psum (z4_) l j = left) (left - (l.length : Int)) (by rw [psum_zero]; omega) ?_
 intro j n hj hI
 obtain ⟨i1, i0, i2⟩ := hI
 try simp only [go_sem, hE, hH, z5_]
 first | refine gd_t (fun h => ?_) (fun h => ?_) | refine gd_f (fun h => ?_) (fun h => ?_)
 ·have hb := h
  simp only [nf] at h
  have hlt := h; clear h
  have hs := hx _ (nth_mem hlt)
  try simp (disch := omega) only [go_sem, hE, hH, hb]
  repeat refine And.intro (by omega) ?_
  refine ok_view ?_; simp (disch := omega) only [go_sem, hE, hH]; refine cvA (z6_ (nth l j) n i1 (by omega) hs) ?_
  try simp only [go_sem, hE, hH]
  refine aftV_intro ?_
  rintro r k ⟨q, rfl, q1, q2⟩
  try simp (disch := omega) only [go_sem, hE, hH]
  repeat' (first | ((with_reducible first | refine gd_t ?_ ?_ | refine gd_f ?_ ?_) <;> (intro h; have hb := h; (try simp only [nf] at h); refine sb ?_; (try clear hb))) | ((with_reducible refine And.intro ?_ ?_); · omega) | refine jn _ ?_ ?_ | (with_reducible first | refine both ?_ ?_ | refine And.intro ?_ ?_) | exact fe | refine st ?_ | exact fm | refine s1 ?_ | (with_reducible exact True.intro) | fail)
  ·exact ⟨_, rfl, by omega, by omega⟩
  ·exact ⟨_, rfl, by omega, by omega, by have q2 := q2 (by omega); rw [psum_succ hlt]; omega⟩
 ·have hb := h
  simp only [nf] at h
  try simp (disch := omega) only [go_sem, hE, hH, hb]
  exact ⟨_, rfl, by omega, fun _ => by rw [psum_all (by omega)] at i2; rw [show szL (z4_) l = l.length + (l.map (z4_)).sum from rfl]; omega⟩) : p := h
set_option maxRecDepth 20000 in
theorem Q4_ {p : Prop} (h : p := by
 unfold z0_ at hs
 refine fi z1_ fun E hE hH => ?_; simp only [go_sem] at hE hH; simp only [go_sem, hE, hH, z2_]
 repeat' (first | ((with_reducible first | refine gd_t ?_ ?_ | refine gd_f ?_ ?_) <;> (intro h; have hb := h; (try simp only [nf] at h); refine sb ?_; (try clear hb))) | ((with_reducible refine And.intro ?_ ?_); · omega) | refine jn _ ?_ ?_ | (with_reducible first | refine both ?_ ?_ | refine And.intro ?_ ?_) | exact fe | refine st ?_ | exact fm | refine s1 ?_ | (with_reducible exact True.intro) | fail)) : p := h
set_option maxRecDepth 20000 in
theorem Q5_ {p : Prop} (h : p := by
 have hl0 : l.length ≤ 2 ^ 20 := Nat.le_trans szL_len hl
 refine fi z0_ fun E hE hH => ?_; simp only [go_sem] at hE hH; simp only [go_sem, hE, hH, T2_x]
 refine And.intro (by omega) ?_
 rw [cpy_zero (z1_ true)]
 refine loopN l.length (fun j (_ : Unit) => ⟨[(0, .sl false 3 (l.map (z1_ false))), (3, .ref 4000000 0 l.length), (4, i64 j)], [(4000000, ⟨3, cpy (z1_ true) [str ⟨⟨[]⟩⟩, str ⟨⟨[]⟩⟩, bl false] l j⟩)]⟩) (fun _ _ => True) () trivial ?_
 intro j _ hj _
 try simp only [go_sem, hE, hH, T2_x_l1]
 first | refine gd_t (fun h => ?_) (fun h => ?_) | refine gd_f (fun h => ?_) (fun h => ?_)
 ·have hb := h
  simp only [nf] at h
  have hlt := h; clear h
  have hs := Nat.le_trans (szL_mem (f := z2_) (nth_mem hlt)) hl
  try simp (disch := omega) only [go_sem, hE, hH, hb, cpy_at, cpy_len]
  repeat' (first | ((with_reducible first | refine gd_t ?_ ?_ | refine gd_f ?_ ?_) <;> (intro h; have hb := h; (try simp only [nf] at h); refine sb ?_; (try clear hb))) | ((with_reducible refine And.intro ?_ ?_); · omega) | ((first | refine ok_view ?_ | refine cvA (z3_ _ (by assumption)) ?_); refine st ?_) | refine jn _ ?_ ?_ | (with_reducible first | refine both ?_ ?_ | refine And.intro ?_ ?_) | exact fe | refine st ?_ | exact fm | refine s1 ?_ | (with_reducible exact True.intro) | fail)
  try try simp (disch := omega) only [go_sem, hE, hH, cpy_at, cpy_len]
  repeat refine And.intro (by omega) ?_
  try try simp (disch := omega) only [go_sem, hE, hH, cpy_at, cpy_len]
  repeat refine And.intro (by omega) ?_
  first | refine ⟨(), ?_, trivial⟩ | refine ⟨(), ?_⟩ | skip
  have hc := cpy_step (f := z1_ true) (z := [str ⟨⟨[]⟩⟩, str ⟨⟨[]⟩⟩, bl false]) hlt
  simp only [z4_] at hc ⊢
  rw [hc]
  rfl
 ·have hb := h
  simp only [nf] at h
  try simp (disch := omega) only [go_sem, hE, hH, hb, cpy_end]) : p := h
set_option maxRecDepth 20000 in
theorem Q6_ {p : Prop} (h : p := by
 unfold z0_ at hs
 refine fi z1_ fun E hE hH => ?_; simp only [go_sem] at hE hH; simp only [go_sem, hE, hH, z2_]
 repeat' (first | ((with_reducible first | refine gd_t ?_ ?_ | refine gd_f ?_ ?_) <;> (intro h; have hb := h; (try simp only [nf] at h); refine sb ?_; (try clear hb))) | ((with_reducible refine And.intro ?_ ?_); · omega) | ((first | refine ok_view ?_ | refine cvA (toStringS_ok _ (by omega)) ?_ | refine cvA (z3_ _ (by omega)) ?_); refine st ?_) | refine jn _ ?_ ?_ | (with_reducible first | refine both ?_ ?_ | refine And.intro ?_ ?_) | exact fe | refine st ?_ | exact fm | refine s1 ?_ | (with_reducible exact True.intro) | fail)) : p := h
set_option maxRecDepth 20000 in
theorem Q7_ {p : Prop} (h : p := by
 unfold z0_ at hs
 refine fi z1_ fun E hE hH => ?_; simp only [go_sem] at hE hH; simp only [go_sem, hE, hH, z2_]
 repeat' (first | ((with_reducible first | refine gd_t ?_ ?_ | refine gd_f ?_ ?_) <;> (intro h; have hb := h; (try simp only [nf] at h); refine sb ?_; (try clear hb))) | ((with_reducible refine And.intro ?_ ?_); · omega) | ((first | refine ok_view ?_ | refine cvA (z3_ _ (by omega)) ?_); refine st ?_) | refine jn _ ?_ ?_ | (with_reducible first | refine both ?_ ?_ | refine And.intro ?_ ?_) | exact fe | refine st ?_ | exact fm | refine s1 ?_ | (with_reducible exact True.intro) | fail)) : p := h
set_option maxRecDepth 20000 in
theorem Q8_ {p : Prop} (h : p := by
 obtain ⟨hl, hx⟩ := hl
 have hm := mx_eq
 refine fi z0_ fun E hE hH => ?_; simp only [go_sem] at hE hH; simp only [go_sem, hE, hH, T5_x]
 repeat' (first | ((with_reducible first | refine gd_t ?_ ?_ | refine gd_f ?_ ?_) <;> (intro h; have hb := h; (try simp only [nf] at h); refine sb ?_; (try clear hb))) | ((with_reducible refine And.intro ?_ ?_); · omega) | refine jn _ ?_ ?_ | (with_reducible first | refine both ?_ ?_ | refine And.intro ?_ ?_) | exact fe | refine st ?_ | exact fm | refine s1 ?_ | (with_reducible exact True.intro) | fail)
 ·rw [decide_eq_false (fun e => h (by rw [e]))]
 have hlen : l.length = m.length := by omega
 clear h
 refine loopN l.length (fun j (_ : Unit) => ⟨[(0, .sl false 1 (z1_ l)), (1, .sl false 1 (z1_ m)), (5, i64 j)], []⟩) (fun j _ => decide (l = m) = decide (l.drop j = m.drop j)) () (by simp) ?_
 intro j _ hj hI
 try simp only [go_sem, hE, hH, T5_x_l1]
 first | refine gd_t (fun h => ?_) (fun h => ?_) | refine gd_f (fun h => ?_) (fun h => ?_)
 ·have hb := h
  simp only [nf] at h
  have hlt := h; clear h
  have hlm : j < m.length := by omega
  rw [drop_eq hlt hlm] at hI
  try simp (disch := omega) only [go_sem, hE, hH, hb]
  repeat' (first | ((with_reducible first | refine gd_t ?_ ?_ | refine gd_f ?_ ?_) <;> (intro h; have hb := h; (try simp only [nf] at h); refine sb ?_; (try clear hb))) | ((with_reducible refine And.intro ?_ ?_); · omega) | refine jn _ ?_ ?_ | (with_reducible first | refine both ?_ ?_ | refine And.intro ?_ ?_) | exact fe | refine st ?_ | exact fm | refine s1 ?_ | (with_reducible exact True.intro) | fail)
  ·rw [hI]; simp [h]
  ·exact ⟨(), rfl, by rw [hI]; simp [h]⟩
 ·have hb := h
  simp only [nf] at h
  try simp (disch := omega) only [go_sem, hE, hH, hb]
  rw [hI, List.drop_of_length_le (by omega), List.drop_of_length_le (by omega)]
  rfl) : p := h
set_option maxRecDepth 20000 in
theorem Q9_ {p : Prop} (h : p := by
 obtain ⟨hl, hx⟩ := hl
 have hm := mx_eq
 refine fi z0_ fun E hE hH => ?_; simp only [go_sem] at hE hH; simp only [go_sem, hE, hH, z1_]
 repeat' (first | ((with_reducible first | refine gd_t ?_ ?_ | refine gd_f ?_ ?_) <;> (intro h; have hb := h; (try simp only [nf] at h); refine sb ?_; (try clear hb))) | ((with_reducible refine And.intro ?_ ?_); · omega) | refine jn _ ?_ ?_ | (with_reducible first | refine both ?_ ?_ | refine And.intro ?_ ?_) | exact fe | refine st ?_ | exact fm | refine s1 ?_ | (with_reducible exact True.intro) | fail)
 ·rw [decide_eq_false (fun e => h (by rw [e]))]
 have hlen : l.length = m.length := by omega
 clear h
 refine loopN l.length (fun j (_ : Unit) => ⟨[(0, .sl false z2_ (l.map (z3_ false))), (1, .sl false z2_ (m.map (z3_ false))), (5, i64 j)], []⟩) (fun j _ => decide (l = m) = decide (l.drop j = m.drop j)) () (by simp) ?_
 intro j _ hj hI
 try simp only [go_sem, hE, hH, z4_]
 first | refine gd_t (fun h => ?_) (fun h => ?_) | refine gd_f (fun h => ?_) (fun h => ?_)
 ·have hb := h
  simp only [nf] at h
  have hlt := h; clear h
  have hlm : j < m.length := by omega
  rw [drop_eq hlt hlm] at hI
  have hs := hx _ (nth_mem hlt)
  try simp (disch := omega) only [go_sem, hE, hH, hb]
  repeat' (first | ((with_reducible first | refine gd_t ?_ ?_ | refine gd_f ?_ ?_) <;> (intro h; have hb := h; (try simp only [nf] at h); refine sb ?_; (try clear hb))) | ((with_reducible refine And.intro ?_ ?_); · omega) | ((first | refine ok_view ?_ | refine cvA (z5_ _ _ (by assumption)) ?_); refine st ?_) | refine jn _ ?_ ?_ | (with_reducible first | refine both ?_ ?_ | refine And.intro ?_ ?_) | exact fe | refine st ?_ | exact fm | refine s1 ?_ | (with_reducible exact True.intro) | fail)
  ·rw [hI]; simp [h]
  ·exact ⟨(), rfl, by rw [hI]; simp [h]⟩
 ·have hb := h
  simp only [nf] at h
  try simp (disch := omega) only [go_sem, hE, hH, hb]
  rw [hI, List.drop_of_length_le (by omega), List.drop_of_length_le (by omega)]
  rfl) : p := h
set_option maxRecDepth 20000 in
theorem Q10_ {p : Prop} (h : p := by
 refine fn_in (hqA z0_) (hqB z0_) ⟨by simp only [go_sem, caps_bare hcap, caps_pk hcap, caps_noM hcap, caps_lt hcap, caps_ids hcap], fun E hE hH => ?_⟩; simp only [go_sem, caps_bare hcap, caps_pk hcap, caps_noM hcap, caps_lt hcap, caps_ids hcap] at hE hH; simp only [go_sem, hE, hH, caps_bare hcap, caps_pk hcap, caps_noM hcap, caps_lt hcap, caps_ids hcap, z1_]
 refine loopM (fun (x : Nat × Nat) => ⟨[(0, .sl false z2_ (l.map (z3_ false))), (1, z4_ key), (2, .fn f caps), (8, i64 l.length), (9, i64 x.1), (10, i64 x.2)], []⟩) (fun x => x.1 ≤ x.2 ∧ x.2 ≤ l.length ∧ (∀ i, i < x.1 → c (nth l i) < 0) ∧ ∀ i, x.2 ≤ i → i < l.length → 0 ≤ c (nth l i)) (fun x => x.2 - x.1) (0, l.length) ⟨by simp, by simp, by simp, by simp; omega⟩ ?_
 rintro ⟨lo, hi⟩ ⟨i1, i2, i3, i4⟩
 simp only at i1 i2 i3 i4
 try simp only [go_sem, hE, hH, caps_bare hcap, caps_pk hcap, caps_noM hcap, caps_lt hcap, caps_ids hcap, z5_]
 first | refine gd_t (fun h => ?_) (fun h => ?_) | refine gd_f (fun h => ?_) (fun h => ?_)
 ·have hb := h
  simp only [nf] at h
  have hlt := h; clear h
  have e1 : IntKind.u64.wrap (lo + hi) = lo + hi := wrapU (by omega) (by omega)
  have e2 : Int.fdiv ((lo : Int) + hi) 2 = (((lo + hi) / 2 : Nat) : Int) := by rw [Int.fdiv_eq_ediv_of_nonneg _ (by omega)]; omega
  have hM : (lo + hi) / 2 < l.length := by omega
  try simp (disch := omega) only [go_sem, hE, hH, caps_bare hcap, caps_pk hcap, caps_noM hcap, caps_lt hcap, caps_ids hcap, hb, e1, shr1, e2]
  repeat refine And.intro (by omega) ?_
  refine ok_cfv rfl rfl rfl (hent) (hcap) (hp _ (nth_mem hM)) ?_
  try simp (disch := omega) only [go_sem, hE, hH, caps_bare hcap, caps_pk hcap, caps_noM hcap, caps_lt hcap, caps_ids hcap]
  repeat' (first | ((with_reducible first | refine gd_t ?_ ?_ | refine gd_f ?_ ?_) <;> (intro h; have hb := h; (try simp only [nf] at h); simp (disch := omega) only [go_sem, hE, hH, caps_bare hcap, caps_pk hcap, caps_noM hcap, caps_lt hcap, caps_ids hcap, hb]; (try clear hb))) | ((with_reducible refine And.intro ?_ ?_); · omega) | refine jn _ ?_ ?_ | (with_reducible first | refine both ?_ ?_ | refine And.intro ?_ ?_) | (refine fin_eq ?_; (try (simp (disch := omega) only [go_sem, hE, hH, caps_bare hcap, caps_pk hcap, caps_noM hcap, caps_lt hcap, caps_ids hcap])); first | done | rfl) | (simp (disch := omega) only [go_sem, hE, hH, caps_bare hcap, caps_pk hcap, caps_noM hcap, caps_lt hcap, caps_ids hcap]) | ((first | apply noMLL_sE | apply pk_sE) <;> (simp only [go_sem, hE, hH, caps_bare hcap, caps_pk hcap, caps_noM hcap, caps_lt hcap, caps_ids hcap]; done)) | (simp only [go_sem, hE, hH, caps_bare hcap, caps_pk hcap, caps_noM hcap, caps_lt hcap, caps_ids hcap]) | fail)
  ·refine ⟨((lo + hi) / 2 + 1, hi), rfl, ⟨by simp only; omega, i2, fun i hi' => ?_, i4⟩, by simp only; omega⟩
   simp only at hi'
   by_cases e : i = (lo + hi) / 2
   ·rw [e]; exact h
   ·have := hm i ((lo + hi) / 2) (by omega) hM
    omega
  ·refine ⟨(lo, (lo + hi) / 2), rfl, ⟨by simp only; omega, by simp only; omega, i3, fun i h1 h2 => ?_⟩, by simp only; omega⟩
   simp only at h1
   by_cases e : i = (lo + hi) / 2
   ·rw [e]; exact h
   ·exact hm ((lo + hi) / 2) i (by omega) h2 h
 ·have hb := h
  simp only [nf] at h
  have e0 : hi = lo := by omega
  subst e0
  have e3 := bs_end i2 i3 i4
  try simp (disch := omega) only [go_sem, hE, hH, caps_bare hcap, caps_pk hcap, caps_noM hcap, caps_lt hcap, caps_ids hcap, hb]
  first | refine gd_t (fun h2 => ?_) (fun h2 => ?_) | refine gd_f (fun h2 => ?_) (fun h2 => ?_)
  ·have hb2 := h2
   simp only [nf] at h2
   have hlt : hi < l.length := by omega
   try simp (disch := omega) only [go_sem, hE, hH, caps_bare hcap, caps_pk hcap, caps_noM hcap, caps_lt hcap, caps_ids hcap, hb2]
   repeat refine And.intro (by omega) ?_
   refine ok_cfv rfl rfl rfl (hent) (hcap) (hp _ (nth_mem hlt)) ?_
   try simp (disch := omega) only [go_sem, hE, hH, caps_bare hcap, caps_pk hcap, caps_noM hcap, caps_lt hcap, caps_ids hcap]
   simp [bsF, e3, hlt]
  ·try simp (disch := omega) only [go_sem, hE, hH, caps_bare hcap, caps_pk hcap, caps_noM hcap, caps_lt hcap, caps_ids hcap, h2]
   simp only [nf] at h2
   simp [bsF, e3]
   omega) : p := h
set_option maxRecDepth 20000 in
theorem Q11_ {p : Prop} (h : p := by
 refine fi z0_ fun E hE hH => ?_; simp only [go_sem] at hE hH; simp only [go_sem, hE, hH, z1_]
 refine ok_isn ?_
 try simp (disch := omega) only [go_sem, hE, hH]
 intro b hb
 cases b <;> try simp (disch := omega) only [go_sem, hE, hH]
 all_goals first | omega | (simp_all; done) | (simp_all; exact ⟨by omega, fun a _ => rfl⟩)) : p := h
set_option maxRecDepth 20000 in
theorem Q12_ {p : Prop} (h : p := by
 have hmx := mx_eq
 refine fn_in (hqA z0_) (hqB z0_) ⟨by simp only [go_sem, caps_bare hcap, caps_pk hcap, caps_noM hcap, caps_lt hcap, caps_ids hcap], fun E hE hH => ?_⟩; simp only [go_sem, caps_bare hcap, caps_pk hcap, caps_noM hcap, caps_lt hcap, caps_ids hcap] at hE hH; simp only [go_sem, hE, hH, caps_bare hcap, caps_pk hcap, caps_noM hcap, caps_lt hcap, caps_ids hcap, z1_]
 refine loopN l.length (fun j (_ : Unit) => ⟨[(0, .sl false z2_ (l.map (z3_ false))), (1, .fn f caps), (7, i64 l.length), (8, i64 j)], []⟩) (fun j _ => allN (fun i => !p (nth l i)) j = true) () rfl ?_
 intro j _ hj hI
 try simp only [go_sem, hE, hH, caps_bare hcap, caps_pk hcap, caps_noM hcap, caps_lt hcap, caps_ids hcap, z4_]
 first | refine gd_t (fun h => ?_) (fun h => ?_) | refine gd_f (fun h => ?_) (fun h => ?_)
 ·have hb := h
  simp only [nf] at h
  have hlt := h; clear h
  try simp (disch := omega) only [go_sem, hE, hH, caps_bare hcap, caps_pk hcap, caps_noM hcap, caps_lt hcap, caps_ids hcap, hb]
  refine And.intro (by omega) ?_
  refine ok_cfv rfl rfl rfl (hent) (hcap) (hp _ (nth_mem hlt)) ?_
  try simp (disch := omega) only [go_sem, hE, hH, caps_bare hcap, caps_pk hcap, caps_noM hcap, caps_lt hcap, caps_ids hcap]
  repeat' (first | ((with_reducible first | refine gd_t ?_ ?_ | refine gd_f ?_ ?_) <;> (intro h; have hb := h; (try simp only [nf] at h); simp (disch := omega) only [go_sem, hE, hH, caps_bare hcap, caps_pk hcap, caps_noM hcap, caps_lt hcap, caps_ids hcap, hb]; (try clear hb))) | ((with_reducible refine And.intro ?_ ?_); · omega) | refine jn _ ?_ ?_ | (with_reducible first | refine both ?_ ?_ | refine And.intro ?_ ?_) | (refine fin_eq ?_; (try (simp (disch := omega) only [go_sem, hE, hH, caps_bare hcap, caps_pk hcap, caps_noM hcap, caps_lt hcap, caps_ids hcap])); first | done | rfl) | (simp (disch := omega) only [go_sem, hE, hH, caps_bare hcap, caps_pk hcap, caps_noM hcap, caps_lt hcap, caps_ids hcap]) | ((first | apply noMLL_sE | apply pk_sE) <;> (simp only [go_sem, hE, hH, caps_bare hcap, caps_pk hcap, caps_noM hcap, caps_lt hcap, caps_ids hcap]; done)) | (simp only [go_sem, hE, hH, caps_bare hcap, caps_pk hcap, caps_noM hcap, caps_lt hcap, caps_ids hcap]) | fail)
  ·rw [ixf_at hlt hI h]
  ·exact ⟨(), rfl, allN_step hI (by simp [h])⟩
 ·try simp (disch := omega) only [go_sem, hE, hH, caps_bare hcap, caps_pk hcap, caps_noM hcap, caps_lt hcap, caps_ids hcap, h]
  simp only [nf] at h
  rw [show j = l.length by omega] at hI
  rw [ixf_none hI]) : p := h
set_option maxRecDepth 20000 in
theorem Q13_ {p : Prop} (h : p := by
 refine fn_in (hqA z0_) (hqB z0_) ⟨by simp only [go_sem, caps_bare hcap, caps_pk hcap, caps_noM hcap, caps_lt hcap, caps_ids hcap], fun E hE hH => ?_⟩; simp only [go_sem, caps_bare hcap, caps_pk hcap, caps_noM hcap, caps_lt hcap, caps_ids hcap] at hE hH; simp only [go_sem, hE, hH, caps_bare hcap, caps_pk hcap, caps_noM hcap, caps_lt hcap, caps_ids hcap, T9_x]
 refine ok_cv rfl (by simp only [zipF, argL, vwT, vwLeaf, vwRow_caps hcap, Bool.false_eq_true, if_false]; rfl) (z1_ l f caps p hent hcap hl hp) ?_
 try simp (disch := omega) only [go_sem, hE, hH, caps_bare hcap, caps_pk hcap, caps_noM hcap, caps_lt hcap, caps_ids hcap, ixf_any, vwC_ok hcap]) : p := h
set_option maxRecDepth 20000 in
theorem Q14_ {p : Prop} (h : p := by
 refine fi z0_ fun E hE hH => ?_; simp only [go_sem] at hE hH; simp only [go_sem, hE, hH, z1_]
 repeat' (first | ((with_reducible first | refine gd_t ?_ ?_ | refine gd_f ?_ ?_) <;> (intro h; have hb := h; (try simp only [nf] at h); refine sb ?_; (try clear hb))) | ((with_reducible refine And.intro ?_ ?_); · omega) | refine jn _ ?_ ?_ | (with_reducible first | refine both ?_ ?_ | refine And.intro ?_ ?_) | exact fe | refine st ?_ | exact fm | refine s1 ?_ | (with_reducible exact True.intro) | fail)
 all_goals (simp_all [rng]; try omega)) : p := h
set_option maxRecDepth 20000 in
theorem Q15_ {p : Prop} (h : p := by
 refine fi z0_ fun E hE hH => ?_; simp only [go_sem] at hE hH; simp only [go_sem, hE, hH, z1_]
 repeat' (first | ((with_reducible first | refine gd_t ?_ ?_ | refine gd_f ?_ ?_) <;> (intro h; have hb := h; (try simp only [nf] at h); refine sb ?_; (try clear hb))) | ((with_reducible refine And.intro ?_ ?_); · omega) | ((first | refine ok_view ?_ | refine cvA (z2_ _ _) ?_); refine st ?_) | refine jn _ ?_ ?_ | (with_reducible first | refine both ?_ ?_ | refine And.intro ?_ ?_) | exact fe | refine st ?_ | exact fm | refine s1 ?_ | (with_reducible exact True.intro) | fail)) : p := h
set_option maxRecDepth 20000 in
theorem Q16_ {p : Prop} (h : p := by
 refine fi z0_ fun E hE hH => ?_; simp only [go_sem] at hE hH; simp only [go_sem, hE, hH, z1_]
 repeat' (first | ((with_reducible first | refine gd_t ?_ ?_ | refine gd_f ?_ ?_) <;> (intro h; have hb := h; (try simp only [nf] at h); refine sb ?_; (try clear hb))) | ((with_reducible refine And.intro ?_ ?_); · omega) | ((first | refine ok_view ?_ | refine cvA (z2_ _ _ _) ?_); refine st ?_) | refine jn _ ?_ ?_ | (with_reducible first | refine both ?_ ?_ | refine And.intro ?_ ?_) | exact fe | refine st ?_ | exact fm | refine s1 ?_ | (with_reducible exact True.intro) | fail)) : p := h
set_option maxRecDepth 20000 in
theorem Q17_ {p : Prop} (h : p := by
 have hmx := mx_eq
 refine fi z0_ fun E hE hH => ?_; simp only [go_sem] at hE hH; simp only [go_sem, hE, hH, z1_]
 repeat' (first | ((with_reducible first | refine gd_t ?_ ?_ | refine gd_f ?_ ?_) <;> (intro h; have hb := h; (try simp only [nf] at h); refine sb ?_; (try clear hb))) | ((with_reducible refine And.intro ?_ ?_); · omega) | ((first | refine ok_view ?_ | refine cvA (within_ok _ _ _) ?_); refine st ?_) | refine jn _ ?_ ?_ | (with_reducible first | refine both ?_ ?_ | refine And.intro ?_ ?_) | exact fe | refine st ?_ | exact fm | refine s1 ?_ | (with_reducible exact True.intro) | fail)) : p := h
set_option maxRecDepth 20000 in
theorem Q18_ {p : Prop} (h : p := by
 refine fi z0_ fun E hE hH => ?_; simp only [go_sem] at hE hH; simp only [go_sem, hE, hH, z1_]
 repeat' (first | ((with_reducible first | refine gd_t ?_ ?_ | refine gd_f ?_ ?_) <;> (intro h; have hb := h; (try simp only [nf] at h); refine sb ?_; (try clear hb))) | ((with_reducible refine And.intro ?_ ?_); · omega) | ((first | refine ok_view ?_ | refine cvA (z2_ _ _ _) ?_); refine st ?_) | refine jn _ ?_ ?_ | (with_reducible first | refine both ?_ ?_ | refine And.intro ?_ ?_) | exact fe | refine st ?_ | exact fm | refine s1 ?_ | (with_reducible exact True.intro) | fail)
 rfl) : p := h
set_option maxRecDepth 20000 in
theorem Q19_ {p : Prop} (h : p := by
 refine fi z0_ fun E hE hH => ?_; simp only [go_sem] at hE hH; simp only [go_sem, hE, hH, T10_x]
 repeat' (first | ((with_reducible first | refine gd_t ?_ ?_ | refine gd_f ?_ ?_) <;> (intro h; have hb := h; (try simp only [nf] at h); refine sb ?_; (try clear hb))) | ((with_reducible refine And.intro ?_ ?_); · omega) | (with_reducible apply jn) | (with_reducible apply both) | (with_reducible refine And.intro ?_ ?_) | exact fj | refine st ?_ | exact fm | refine s1 ?_ | (with_reducible exact True.intro) | fail)
 all_goals (first | (simp_all [clashL]; done) | (simp_all [clashL] <;> first | omega | (intros; omega)))) : p := h
set_option maxRecDepth 20000 in
theorem Q20_ {p : Prop} (h : p := by
 refine fi z0_ fun E hE hH => ?_; simp only [go_sem] at hE hH; simp only [go_sem, hE, hH, z1_]
 repeat' (first | ((with_reducible first | refine gd_t ?_ ?_ | refine gd_f ?_ ?_) <;> (intro h; have hb := h; (try simp only [nf] at h); refine sb ?_; (try clear hb))) | ((with_reducible refine And.intro ?_ ?_); · omega) | (with_reducible apply jn) | (with_reducible apply both) | (with_reducible refine And.intro ?_ ?_) | exact fj | refine st ?_ | exact fm | refine s1 ?_ | (with_reducible exact True.intro) | fail)
 all_goals (first | (simp_all []; done) | (simp_all [] <;> first | omega | (intros; omega)))) : p := h
set_option maxRecDepth 20000 in
theorem Q21_ {p : Prop} (h : p := by
 have hmx := mx_eq
 have hl' := hl.1
 refine fi z0_ fun E hE hH => ?_; simp only [go_sem] at hE hH; simp only [go_sem, hE, hH, z1_]
 repeat' (first | ((with_reducible first | refine gd_t ?_ ?_ | refine gd_f ?_ ?_) <;> (intro h; have hb := h; (try simp only [nf] at h); refine sb ?_; (try clear hb))) | ((with_reducible refine And.intro ?_ ?_); · omega) | ((first | refine ok_view ?_ | refine cvA (z2_ l hl) ?_); refine st ?_) | (with_reducible apply jn) | (with_reducible apply both) | (with_reducible refine And.intro ?_ ?_) | exact fj | refine st ?_ | exact fm | refine s1 ?_ | (with_reducible exact True.intro) | fail)
 all_goals (first | (simp_all [z3_]; done) | (simp_all [z3_] <;> first | omega | (intros; omega)))) : p := h
set_option maxRecDepth 20000 in
theorem Q22_ {p : Prop} (h : p := by
 refine fi z0_ fun E hE hH => ?_; simp only [go_sem] at hE hH; simp only [go_sem, hE, hH, z1_]
 repeat' (first | ((with_reducible first | refine gd_t ?_ ?_ | refine gd_f ?_ ?_) <;> (intro h; have hb := h; (try simp only [nf] at h); refine sb ?_; (try clear hb))) | ((with_reducible refine And.intro ?_ ?_); · omega) | ((first | refine ok_view ?_ | refine cvA (z2_ w t hw ht) ?_); refine st ?_) | refine jn _ ?_ ?_ | (with_reducible first | refine both ?_ ?_ | refine And.intro ?_ ?_) | exact fe | refine st ?_ | exact fm | refine s1 ?_ | (with_reducible exact True.intro) | fail)) : p := h
end Go.Am

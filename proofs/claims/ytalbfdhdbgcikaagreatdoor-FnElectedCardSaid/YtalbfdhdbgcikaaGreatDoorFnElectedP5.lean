import Derived.Test.YtalbfdhdbgcikaaGreatDoorFnElectedK7
import Derived.Laws.Externs
set_option linter.unusedSimpArgs false
set_option linter.unusedVariables false
set_option linter.unusedSectionVars false
namespace Go.Proofs.Wb
open Go Go.Am
structure FairV (p : Poll) (V : Nat → Int → Int → Prop) : Prop where
  fn : ∀ w t c c', V w t c → V w t c' → c = c'
  pos : ∀ w t c, V w t c → 0 ≤ c
  cur : ∀ w, w < p.Voters.length → (nth p.Voters w).For ≠ -1 → V w (nth p.Voters w).Term (nth p.Voters w).For
  le : ∀ w t c, w < p.Voters.length → V w t c → t ≤ (nth p.Voters w).Term
  eq : ∀ w c, w < p.Voters.length → V w (nth p.Voters w).Term c → (nth p.Voters w).For = c
  ltr : ∀ l ∈ p.Net.Under, ∀ t : Nat, 1 ≤ t → t ≤ 200 → l.Body = askB 121 t → V l.From.toNat t l.To
  yes : ∀ c : Nat, c < p.Voters.length → ∀ x ∈ (nth p.Voters c).Yes, V x.toNat (nth p.Voters c).Term c
  won : ∀ w ∈ p.Won, ∃ L : List Int, srtK L ∧ (∀ x ∈ L, 0 ≤ x ∧ x ≤ (p.Voters.length : Int) - 1) ∧ p.Voters.length < 2 * L.length ∧ ∀ x ∈ L, V x.toNat w.Term w.Who
def FairE (p : Poll) (V : Nat → Int → Int → Prop) : Prop := ∃ V', FairV p V' ∧ ∀ w t c, V w t c → V' w t c
theorem meet {n : Nat} {L M : List Int} (hL : srtK L) (hM : srtK M) (bL : ∀ x ∈ L, 0 ≤ x ∧ x ≤ (n : Int) - 1) (bM : ∀ x ∈ M, 0 ≤ x ∧ x ≤ (n : Int) - 1) (cL : n < 2 * L.length) (cM : n < 2 * M.length) : ∃ x, x ∈ L ∧ x ∈ M := by
  by_cases h : ∃ x, x ∈ L ∧ x ∈ M
  · exact h
  · exfalso
    have hn : (L ++ M).Nodup := List.nodup_append.2 ⟨srtK_nodup hL, srtK_nodup hM, fun x hx y hy e => h ⟨x, hx, e ▸ hy⟩⟩
    have := nodup_len n (L ++ M) hn fun x hx => by
      rcases List.mem_append.1 hx with hx | hx
      · have := bL x hx; omega
      · have := bM x hx; omega
    rw [List.length_append] at this
    omega
theorem FairV.one {p : Poll} {V : Nat → Int → Int → Prop} (h : FairV p V) {a b : Won} (ha : a ∈ p.Won) (hb : b ∈ p.Won) (e : a.Term = b.Term) : a.Who = b.Who := by
  obtain ⟨L, l1, l2, l3, l4⟩ := h.won a ha
  obtain ⟨M, m1, m2, m3, m4⟩ := h.won b hb
  obtain ⟨x, x1, x2⟩ := meet l1 m1 l2 m2 l3 m3
  exact h.fn _ _ _ _ (l4 x x1) (by rw [e]; exact m4 x x2)
theorem FairV.later {p : Poll} {V : Nat → Int → Int → Prop} (h : FairV p V) {i : Nat} {y : Voter} (hi : i < p.Voters.length) (h1 : (nth p.Voters i).Term < y.Term) (h2 : (y.For = -1 ∧ y.Yes = []) ∨ (y.For = i ∧ ∀ x ∈ y.Yes, x = i)) : FairE ⟨p.Voters.set i y, p.Net, p.Won⟩ V := by
  have hlt : ∀ t c, V i t c → t < y.Term := fun t c hv => by have := h.le i t c hi hv; omega
  rcases h2 with ⟨h2, h3⟩ | ⟨h2, h3⟩
  · refine ⟨V, ⟨h.fn, h.pos, fun w hw => ?_, fun w t c hw hv => ?_, fun w c hw hv => ?_, h.ltr, fun c hc x hx => ?_, ?_⟩, fun _ _ _ h => h⟩
    · simp only [List.length_set] at hw ⊢
      rw [nthSet hi]
      split
      · rename_i e; subst e; intro hh; exact absurd h2 hh
      · exact h.cur w hw
    · simp only [List.length_set] at hw ⊢
      rw [nthSet hi]
      split
      · rename_i e; subst e; have := hlt _ _ hv; omega
      · exact h.le w t c hw hv
    · simp only [List.length_set] at hw hv ⊢
      rw [nthSet hi] at hv ⊢
      split at hv
      · rename_i e; subst e; have := hlt _ _ hv; omega
      · rename_i e; rw [if_neg e]; exact h.eq w c hw hv
    · simp only [List.length_set] at hc hx ⊢
      rw [nthSet hi] at hx ⊢
      split at hx
      · rw [h3] at hx; cases hx
      · rename_i e; rw [if_neg e]; exact h.yes c hc x hx
    · simp only [List.length_set]; exact h.won
  · refine ⟨fun w t c => V w t c ∨ (w = i ∧ t = y.Term ∧ c = i), ⟨fun w t c c' a b => ?_, fun w t c a => ?_, fun w hw => ?_, fun w t c hw hv => ?_, fun w c hw hv => ?_, fun l hl t a b e => .inl (h.ltr l hl t a b e), fun c hc x hx => ?_, ?_⟩, fun _ _ _ h => .inl h⟩
    · rcases a with a | ⟨rfl, rfl, rfl⟩
      · rcases b with b | ⟨rfl, rfl, rfl⟩
        · exact h.fn _ _ _ _ a b
        · have := hlt _ _ a; omega
      · rcases b with b | ⟨_, _, rfl⟩
        · have := hlt _ _ b; omega
        · rfl
    · rcases a with a | ⟨_, _, rfl⟩
      · exact h.pos _ _ _ a
      · omega
    · simp only [List.length_set] at hw ⊢
      rw [nthSet hi]
      split
      · rename_i e; intro _; exact .inr ⟨e, rfl, h2⟩
      · intro hh; exact .inl (h.cur w hw hh)
    · simp only [List.length_set] at hw ⊢
      rw [nthSet hi]
      split
      · rename_i e; subst e
        rcases hv with hv | ⟨_, rfl, _⟩
        · have := hlt _ _ hv; omega
        · omega
      · rename_i e
        rcases hv with hv | ⟨rfl, _, _⟩
        · exact h.le w t c hw hv
        · exact absurd rfl e
    · simp only [List.length_set] at hw hv ⊢
      rw [nthSet hi] at hv ⊢
      split at hv
      · rename_i e; subst e; rw [if_pos rfl]
        rcases hv with hv | ⟨_, _, rfl⟩
        · have := hlt _ _ hv; omega
        · exact h2
      · rename_i e; rw [if_neg e]
        rcases hv with hv | ⟨rfl, _, _⟩
        · exact h.eq w c hw hv
        · exact absurd rfl e
    · simp only [List.length_set] at hc hx ⊢
      rw [nthSet hi] at hx ⊢
      split at hx
      · rename_i e; subst e; rw [if_pos rfl, h3 x hx]; exact .inr ⟨by omega, rfl, rfl⟩
      · rename_i e; rw [if_neg e]; exact .inl (h.yes c hc x hx)
    · simp only [List.length_set]
      intro w hw
      obtain ⟨L, a, b, c, d⟩ := h.won w hw
      exact ⟨L, a, b, c, fun x hx => .inl (d x hx)⟩
theorem FairV.net {p : Poll} {V : Nat → Int → Int → Prop} (h : FairV p V) {n : Net} (hn : ∀ l ∈ n.Under, ∀ t : Nat, 1 ≤ t → t ≤ 200 → l.Body = askB 121 t → V l.From.toNat t l.To) : FairV ⟨p.Voters, n, p.Won⟩ V := ⟨h.fn, h.pos, h.cur, h.le, h.eq, hn, h.yes, h.won⟩
def newV : Voter := ⟨true, 0, -1, [], false⟩
def newPo (h : List Int) (f : Int) : Poll := ⟨[newV, newV, newV], ⟨0, h, f, []⟩, []⟩
theorem newPo_good {h : List Int} {f : Int} (h3 : h.length = 3) (hg : goodHomes h f = true) : Good (newPo h f) := by
  refine good_iff.1 ?_
  have e1 : goodNet ⟨0, h, f, []⟩ = true := by simp [goodNet, rng, allN, hg]
  have e2 : ∀ i : Nat, i < 3 → voterOk newV i 3 = true := by decide
  simp only [goodPoll, newPo, e1, h3, List.length_cons, List.length_nil, Bool.true_and, Bool.and_eq_true, allN_iff]
  refine ⟨⟨⟨⟨by simp, by simp⟩, by simp⟩, fun i hi => ?_⟩, rfl⟩
  have hn : nth [newV, newV, newV] i = newV := by
    obtain rfl | rfl | rfl : i = 0 ∨ i = 1 ∨ i = 2 := by omega
    all_goals rfl
  rw [hn]; exact e2 i hi
theorem homes3 {a b c f : Int} (a0 : 0 ≤ a) (a1 : a ≤ 2) (b0 : 0 ≤ b) (b1 : b ≤ 2) (c0 : 0 ≤ c) (c1 : c ≤ 2) (f0 : 0 ≤ f) (f1 : f ≤ 20) : goodHomes [a, b, c] f = true := by
  simp only [goodHomes, Bool.and_eq_true, rng_iff, allR, allN_iff]
  refine ⟨⟨by simp, fun i hi => ?_⟩, by omega⟩
  obtain rfl | rfl | rfl : i = 0 ∨ i = 1 ∨ i = 2 := by simp at hi; omega
  · exact ⟨a0, a1⟩
  · exact ⟨b0, b1⟩
  · exact ⟨c0, c1⟩
theorem mul64_13 : ACall Tryz.prog n_math_bits_Mul64 [.v (.int .u64 1), .v (.int .u64 3)] (fun r _ => r = .tup [.v (.int .u64 0), .v (.int .u64 3)]) := by
  refine fn_in h_math_bits_Mul64 r_math_bits_Mul64 ⟨by simp only [go_sem], fun E hE hH => ?_⟩; simp only [go_sem] at hE hH; simp only [go_sem, hE, hH, c_math_bits_Mul64]
  repeat' (first | ((with_reducible first | refine gd_t ?_ ?_ | refine gd_f ?_ ?_) <;> (intro h; have hb := h; (try simp only [nf] at h); simp (disch := omega) only [go_sem, hE, hH, hb]; (try clear hb))) | ((with_reducible refine And.intro ?_ ?_); · omega) | (with_reducible apply jn) | (with_reducible apply both) | (with_reducible refine And.intro ?_ ?_) | ((with_reducible apply fin_eq); (try (simp (disch := omega) only [go_sem, hE, hH])); first | done | rfl) | (simp (disch := omega) only [go_sem, hE, hH]) | ((first | apply noMLL_sE | apply pk_sE) <;> (simp only [go_sem, hE, hH]; done)) | (simp only [go_sem, hE, hH]) | fail)
  all_goals first | rfl | decide | trace_state
theorem mul_13 : ACall Tryz.prog n_math_bits_Mul [.v (.int .u64 1), .v (.int .u64 3)] (fun r _ => r = .tup [.v (.int .u64 0), .v (.int .u64 3)]) := by
  refine fn_in h_math_bits_Mul r_math_bits_Mul ⟨by simp only [go_sem], fun E hE hH => ?_⟩; simp only [go_sem] at hE hH; simp only [go_sem, hE, hH, c_math_bits_Mul]
  repeat' (first | ((with_reducible first | refine gd_t ?_ ?_ | refine gd_f ?_ ?_) <;> (intro h; have hb := h; (try simp only [nf] at h); simp (disch := omega) only [go_sem, hE, hH, hb]; (try clear hb))) | ((with_reducible refine And.intro ?_ ?_); · omega) | ((first | refine ok_view ?_ | refine cvA (mul64_13) ?_); simp (disch := omega) only [go_sem, hE, hH]) | (with_reducible apply jn) | (with_reducible apply both) | (with_reducible refine And.intro ?_ ?_) | ((with_reducible apply fin_eq); (try (simp (disch := omega) only [go_sem, hE, hH])); first | done | rfl) | (simp (disch := omega) only [go_sem, hE, hH]) | ((first | apply noMLL_sE | apply pk_sE) <;> (simp only [go_sem, hE, hH]; done)) | (simp only [go_sem, hE, hH]) | fail)
  all_goals first | rfl | decide | trace_state
def nvR : List T := [bl true, i64 0, i64 (-1), nils, bl false]
def nvZ : List T := [bl false, i64 0, i64 0, nils, bl false]
def repR : Nat → List (List T)
  | 0 => [nvR, nvZ, nvZ]
  | 1 => [nvR, nvR, nvZ]
  | _ => [nvR, nvR, nvR]
set_option maxHeartbeats 4000000 in
theorem repeat3_ok : ACall Tryz.prog n_slices_Repeat___impl_Voter_impl_Voter_ [.sl false 5 [[bl true, i64 0, i64 (-1), nils, bl false]], i64 3] (fun r _ => r = .sl true 5 [[bl true, i64 0, i64 (-1), nils, bl false], [bl true, i64 0, i64 (-1), nils, bl false], [bl true, i64 0, i64 (-1), nils, bl false]]) := by
  have hmx := mx_eq
  have m1 : min 3 1 = 1 := rfl
  have m2 : min 2 1 = 1 := rfl
  have m3 : min 1 2 = 1 := rfl
  have p1 : putRows [[bl false, i64 0, i64 0, nils, bl false], [bl false, i64 0, i64 0, nils, bl false], [bl false, i64 0, i64 0, nils, bl false]] 0 [[bl true, i64 0, i64 (-1), nils, bl false]] = [[bl true, i64 0, i64 (-1), nils, bl false], [bl false, i64 0, i64 0, nils, bl false], [bl false, i64 0, i64 0, nils, bl false]] := rfl
  have p2 : putRows [[bl true, i64 0, i64 (-1), nils, bl false], [bl false, i64 0, i64 0, nils, bl false], [bl false, i64 0, i64 0, nils, bl false]] 1 [[bl true, i64 0, i64 (-1), nils, bl false]] = [[bl true, i64 0, i64 (-1), nils, bl false], [bl true, i64 0, i64 (-1), nils, bl false], [bl false, i64 0, i64 0, nils, bl false]] := rfl
  have p3 : putRows [[bl true, i64 0, i64 (-1), nils, bl false], [bl true, i64 0, i64 (-1), nils, bl false], [bl false, i64 0, i64 0, nils, bl false]] 2 [[bl true, i64 0, i64 (-1), nils, bl false]] = [[bl true, i64 0, i64 (-1), nils, bl false], [bl true, i64 0, i64 (-1), nils, bl false], [bl true, i64 0, i64 (-1), nils, bl false]] := rfl
  refine fn_in h_slices_Repeat___impl_Voter_impl_Voter_ r_slices_Repeat___impl_Voter_impl_Voter_ ⟨by simp only [go_sem], fun E hE hH => ?_⟩; simp only [go_sem] at hE hH; simp only [go_sem, hE, hH, c_slices_Repeat___impl_Voter_impl_Voter_]
  repeat' (first | ((with_reducible first | refine gd_t ?_ ?_ | refine gd_f ?_ ?_) <;> (intro h; have hb := h; (try simp only [nf] at h); simp (disch := omega) only [go_sem, hE, hH, m1, m2, m3, p1, p2, p3, List.take_succ_cons, List.take_zero, List.take_nil, hb]; (try clear hb))) | ((with_reducible refine And.intro ?_ ?_); · omega) | ((first | refine ok_view ?_ | refine cvA (mul_13) ?_); simp (disch := omega) only [go_sem, hE, hH, m1, m2, m3, p1, p2, p3, List.take_succ_cons, List.take_zero, List.take_nil]) | (with_reducible apply jn) | (with_reducible apply both) | (with_reducible refine And.intro ?_ ?_) | ((with_reducible apply fin_eq); (try (simp (disch := omega) only [go_sem, hE, hH, m1, m2, m3, p1, p2, p3, List.take_succ_cons, List.take_zero, List.take_nil])); first | done | rfl) | (simp (disch := omega) only [go_sem, hE, hH, m1, m2, m3, p1, p2, p3, List.take_succ_cons, List.take_zero, List.take_nil]) | ((first | apply noMLL_sE | apply pk_sE) <;> (simp only [go_sem, hE, hH, m1, m2, m3, p1, p2, p3, List.take_succ_cons, List.take_zero, List.take_nil]; done)) | (simp only [go_sem, hE, hH, m1, m2, m3, p1, p2, p3, List.take_succ_cons, List.take_zero, List.take_nil]) | fail)
  all_goals try (exfalso; omega)
  all_goals try (first | rfl | decide | (simp; done))
  refine loopNe 2 (fun j (_ : Unit) => ⟨[(7, .ref 8000000 0 3), (8, i64 (j + 1))], [(8000000, ⟨5, repR j⟩)]⟩) (fun _ _ => True) () rfl trivial ?_
  intro j _ hj _
  obtain rfl | rfl | rfl : j = 0 ∨ j = 1 ∨ j = 2 := by omega
  all_goals
    simp only [repR, nvR, nvZ]
    try simp only [go_sem, hE, hH, c_slices_Repeat___impl_Voter_impl_Voter__l1]
    repeat' (first | ((with_reducible first | refine gd_t ?_ ?_ | refine gd_f ?_ ?_) <;> (intro h; have hb := h; (try simp only [nf] at h); simp (disch := omega) only [go_sem, hE, hH, m1, m2, m3, p1, p2, p3, List.take_succ_cons, List.take_zero, List.take_nil, hb]; (try clear hb))) | ((with_reducible refine And.intro ?_ ?_); · omega) | (with_reducible apply jn) | (with_reducible apply both) | (with_reducible refine And.intro ?_ ?_) | ((with_reducible apply fin_eq); (try (simp (disch := omega) only [go_sem, hE, hH, m1, m2, m3, p1, p2, p3, List.take_succ_cons, List.take_zero, List.take_nil])); first | done | rfl) | (simp (disch := omega) only [go_sem, hE, hH, m1, m2, m3, p1, p2, p3, List.take_succ_cons, List.take_zero, List.take_nil]) | ((first | apply noMLL_sE | apply pk_sE) <;> (simp only [go_sem, hE, hH, m1, m2, m3, p1, p2, p3, List.take_succ_cons, List.take_zero, List.take_nil]; done)) | (simp only [go_sem, hE, hH, m1, m2, m3, p1, p2, p3, List.take_succ_cons, List.take_zero, List.take_nil]) | fail)
  all_goals first | omega | exact ⟨(), rfl⟩ | rfl | decide | trace_state
set_option maxHeartbeats 4000000 in
theorem NewPoll_ok (a b c f : Int) (hg : goodHomes [a, b, c] f = true) : ACall Tryz.prog n_impl_NewPoll [.sl false 1 (ints [a, b, c]), i64 f] (fun r _ => r = .tup [.agg (Poll.row true (newPo [a, b, c] f)), bl true]) := by
  have hmx := mx_eq
  have e : newN [a, b, c] f = (⟨0, [a, b, c], f, []⟩, true) := by simp [newN, hg]
  have e3 : (([a, b, c] : List Int).length : Int) = 3 := rfl
  refine fn_in h_impl_NewPoll r_impl_NewPoll ⟨by simp only [go_sem], fun E hE hH => ?_⟩; simp only [go_sem] at hE hH; simp only [go_sem, hE, hH, c_impl_NewPoll]
  repeat' (first | ((with_reducible first | refine gd_t ?_ ?_ | refine gd_f ?_ ?_) <;> (intro h; have hb := h; (try simp only [nf] at h); simp (disch := omega) only [go_sem, hE, hH, e, hb]; (try clear hb))) | ((with_reducible refine And.intro ?_ ?_); · omega) | ((first | refine ok_view ?_ | refine cvA (NewNet_ok [a, b, c] f (by simp)) ?_ | refine cvA (isMany_ok 3) ?_ | refine cvA (repeat3_ok) ?_); simp (disch := omega) only [go_sem, hE, hH, e]) | (with_reducible apply jn) | (with_reducible apply both) | (with_reducible refine And.intro ?_ ?_) | ((with_reducible apply fin_eq); (try (simp (disch := omega) only [go_sem, hE, hH, e])); first | done | rfl) | (simp (disch := omega) only [go_sem, hE, hH, e]) | ((first | apply noMLL_sE | apply pk_sE) <;> (simp only [go_sem, hE, hH, e]; done)) | (simp only [go_sem, hE, hH, e]) | fail)
  all_goals first | rfl | decide | trace_state
set_option maxHeartbeats 4000000 in
theorem vPoll_ok (p : Poll) (hq : pollSm p) : ACall Tryz.prog n_laws_vPoll [.agg (Poll.row false p), .agg (Poll.row false p)] (fun r _ => r = bl true) := by
  have hmx := mx_eq
  obtain ⟨h1, h2, h3, h4, h5⟩ := hq
  refine fn_in h_laws_vPoll r_laws_vPoll ⟨by simp only [go_sem], fun E hE hH => ?_⟩; simp only [go_sem] at hE hH; simp only [go_sem, hE, hH, c_laws_vPoll]
  repeat' (first | ((with_reducible first | refine gd_t ?_ ?_ | refine gd_f ?_ ?_) <;> (intro h; have hb := h; (try simp only [nf] at h); simp (disch := omega) only [go_sem, hE, hH, hb]; (try clear hb))) | ((with_reducible refine And.intro ?_ ?_); · omega) | ((first | refine ok_view ?_ | refine cvA (vNet_ok p.Net (by omega) (by omega)) ?_); simp (disch := omega) only [go_sem, hE, hH]) | (with_reducible apply jn) | (with_reducible apply both) | (with_reducible refine And.intro ?_ ?_) | ((with_reducible apply fin_eq); (try (simp (disch := omega) only [go_sem, hE, hH])); first | done | rfl) | (simp (disch := omega) only [go_sem, hE, hH]) | ((first | apply noMLL_sE | apply pk_sE) <;> (simp only [go_sem, hE, hH]; done)) | (simp only [go_sem, hE, hH]) | fail)
  all_goals try omega
  refine loopNe p.Voters.length (fun j (_ : Unit) => ⟨[(2, .ptr 3000000 0 0), (3, .ptr 4000000 0 0), (5, i64 j)], [(3000000, ⟨6, [Poll.row false p]⟩), (4000000, ⟨6, [Poll.row false p]⟩)]⟩) (fun _ _ => True) () rfl trivial ?_
  intro j _ hj _
  try simp only [go_sem, hE, hH, c_laws_vPoll_l1]
  first | refine gd_t (fun h => ?_) (fun h => ?_) | refine gd_f (fun h => ?_) (fun h => ?_)
  · have hb := h
    simp only [nf] at h
    have hlt := h; clear h
    have hy := h5 _ (nth_mem hlt)
    try simp (disch := omega) only [go_sem, hE, hH, hb]
    repeat' (first | ((with_reducible first | refine gd_t ?_ ?_ | refine gd_f ?_ ?_) <;> (intro h; have hb := h; (try simp only [nf] at h); simp (disch := omega) only [go_sem, hE, hH, hb]; (try clear hb))) | ((with_reducible refine And.intro ?_ ?_); · omega) | ((first | refine ok_view ?_ | refine cvA (vInts_ok (nth p.Voters j).Yes (by omega)) ?_); simp (disch := omega) only [go_sem, hE, hH]) | (with_reducible apply jn) | (with_reducible apply both) | (with_reducible refine And.intro ?_ ?_) | ((with_reducible apply fin_eq); (try (simp (disch := omega) only [go_sem, hE, hH])); first | done | rfl) | (simp (disch := omega) only [go_sem, hE, hH]) | ((first | apply noMLL_sE | apply pk_sE) <;> (simp only [go_sem, hE, hH]; done)) | (simp only [go_sem, hE, hH]) | fail)
    all_goals first | omega | exact ⟨(), rfl⟩ | trace_state
  · try simp (disch := omega) only [go_sem, hE, hH, h]
    simp only [nf] at h
    repeat' (first | ((with_reducible first | refine gd_t ?_ ?_ | refine gd_f ?_ ?_) <;> (intro h; have hb := h; (try simp only [nf] at h); simp (disch := omega) only [go_sem, hE, hH, hb]; (try clear hb))) | ((with_reducible refine And.intro ?_ ?_); · omega) | (with_reducible apply jn) | (with_reducible apply both) | (with_reducible refine And.intro ?_ ?_) | ((with_reducible apply fin_eq); (try (simp (disch := omega) only [go_sem, hE, hH])); first | done | rfl) | (simp (disch := omega) only [go_sem, hE, hH]) | ((first | apply noMLL_sE | apply pk_sE) <;> (simp only [go_sem, hE, hH]; done)) | (simp only [go_sem, hE, hH]) | fail)
    all_goals try omega
    refine loopNe p.Won.length (fun j (_ : Unit) => ⟨[(2, .ptr 3000000 0 0), (3, .ptr 4000000 0 0), (8, i64 j)], [(3000000, ⟨6, [Poll.row false p]⟩), (4000000, ⟨6, [Poll.row false p]⟩)]⟩) (fun _ _ => True) () rfl trivial ?_
    intro k _ hk _
    try simp only [go_sem, hE, hH, c_laws_vPoll_l2]
    first | refine gd_t (fun h6 => ?_) (fun h6 => ?_) | refine gd_f (fun h6 => ?_) (fun h6 => ?_)
    · have hb := h6
      simp only [nf] at h6
      have hlt := h6; clear h6
      try simp (disch := omega) only [go_sem, hE, hH, hb]
      repeat' (first | ((with_reducible first | refine gd_t ?_ ?_ | refine gd_f ?_ ?_) <;> (intro h; have hb := h; (try simp only [nf] at h); simp (disch := omega) only [go_sem, hE, hH, hb]; (try clear hb))) | ((with_reducible refine And.intro ?_ ?_); · omega) | (with_reducible apply jn) | (with_reducible apply both) | (with_reducible refine And.intro ?_ ?_) | ((with_reducible apply fin_eq); (try (simp (disch := omega) only [go_sem, hE, hH])); first | done | rfl) | (simp (disch := omega) only [go_sem, hE, hH]) | ((first | apply noMLL_sE | apply pk_sE) <;> (simp only [go_sem, hE, hH]; done)) | (simp only [go_sem, hE, hH]) | fail)
      all_goals first | omega | exact ⟨(), rfl⟩ | trace_state
    · try simp (disch := omega) only [go_sem, hE, hH, h6]
theorem tm_rg {x m : Int} (h0 : 0 ≤ x) (hm : 0 < m) : 0 ≤ x.tmod m ∧ x.tmod m < m := ⟨Int.tmod_nonneg _ h0, Int.tmod_lt_of_pos _ hm⟩
def elF (v : Int) (q : Poll) : Bool := decide (leaderOf q 1 = (v, true)) && !(leaderOf q 2).2 && decide (q.Voters.length = 3) && (nth q.Voters v.toNat).Leads && decide (q.Won.length = 1)
def elR (v : Int) : Nat → Poll → Bool
  | 0, q => elF v q
  | n + 1, q => (tickP q).2 && elR v n (tickP q).1
def elC (a b c f v : Nat) : Bool := (standV (newPo [a, b, c] f) v).2 && elR v (2 * (1 + 2 * f)) (standV (newPo [a, b, c] f) v).1
set_option maxRecDepth 100000 in
theorem el_all : ∀ f < 6, ∀ a < 3, ∀ b < 3, ∀ c < 3, ∀ v < 3, elC a b c f v = true := by decide +kernel
theorem el_int {a b c f v : Int} (a0 : 0 ≤ a) (a1 : a < 3) (b0 : 0 ≤ b) (b1 : b < 3) (c0 : 0 ≤ c) (c1 : c < 3) (f0 : 0 ≤ f) (f1 : f < 6) (v0 : 0 ≤ v) (v1 : v < 3) : (standV (newPo [a, b, c] f) v).2 = true ∧ elR v (2 * (1 + 2 * f)).toNat (standV (newPo [a, b, c] f) v).1 = true := by
  obtain ⟨a, rfl⟩ := Int.eq_ofNat_of_zero_le a0
  obtain ⟨b, rfl⟩ := Int.eq_ofNat_of_zero_le b0
  obtain ⟨c, rfl⟩ := Int.eq_ofNat_of_zero_le c0
  obtain ⟨f, rfl⟩ := Int.eq_ofNat_of_zero_le f0
  obtain ⟨v, rfl⟩ := Int.eq_ofNat_of_zero_le v0
  have h := el_all f (by omega) a (by omega) b (by omega) c (by omega) v (by omega)
  simp only [elC, Bool.and_eq_true] at h
  have e : (2 * (1 + 2 * (f : Int))).toNat = 2 * (1 + 2 * f) := by omega
  rw [e]; exact h
def elI (v : Int) (n j : Nat) (x : Poll) : Prop := Good x ∧ elR v (n - j) x = true
theorem elI_step {v : Int} {n j : Nat} {x : Poll} (hj : j < n) (h : elI v n j x) : (tickP x).2 = true ∧ elI v n (j + 1) (tickP x).1 := by
  obtain ⟨h1, h2⟩ := h
  obtain ⟨m, hm⟩ : ∃ m, n - j = m + 1 := ⟨n - j - 1, by omega⟩
  rw [hm, elR, Bool.and_eq_true] at h2
  exact ⟨h2.1, (tick_good h2.1).2.1, by rw [show n - (j + 1) = m by omega]; exact h2.2⟩
theorem elI_end {v : Int} {n : Nat} {x : Poll} (h : elI v n n x) : Good x ∧ leaderOf x 1 = (v, true) ∧ (leaderOf x 2).2 = false ∧ x.Voters.length = 3 ∧ (nth x.Voters v.toNat).Leads = true ∧ x.Won.length = 1 := by
  obtain ⟨h1, h2⟩ := h
  rw [Nat.sub_self, elR, elF] at h2
  simp only [Bool.and_eq_true, decide_eq_true_eq, Bool.not_eq_true'] at h2
  exact ⟨h1, h2.1.1.1.1, h2.1.1.1.2, h2.1.1.2, h2.1.2, h2.2⟩
set_option maxHeartbeats 8000000 in
theorem FnElected_ok (hI : ItoaH) (hR : ReadIntH) (vc : List Int) (wc : vc.length ≤ maxLen ∧ ∀ y ∈ vc, 0 ≤ y ∧ y ≤ 255) : ACall Tryz.prog n_laws_FnElected [.sl false 1 (bys vc)] (fun r _ => r = bl true) := by
  have hmx := mx_eq
  cases hB : vBigB vc
  · have hc := isB_ofv hB wc.2
    have hcl := hc.1
    have r0 := vatF_rng hc (i := 0) (by omega) (by omega)
    have r1 := vatF_rng hc (i := 1) (by omega) (by omega)
    have r2 := vatF_rng hc (i := 2) (by omega) (by omega)
    have r3 := vatF_rng hc (i := 3) (by omega) (by omega)
    have r4 := vatF_rng hc (i := 4) (by omega) (by omega)
    obtain ⟨a, hae, ha0, ha1⟩ : ∃ a, (vatF vc 0).tmod 3 = a ∧ 0 ≤ a ∧ a < 3 := ⟨_, rfl, tm_rg r0.1 (by omega)⟩
    obtain ⟨b, hbe, hb0, hb1⟩ : ∃ a, (vatF vc 1).tmod 3 = a ∧ 0 ≤ a ∧ a < 3 := ⟨_, rfl, tm_rg r1.1 (by omega)⟩
    obtain ⟨c, hce, hc0, hc1⟩ : ∃ a, (vatF vc 2).tmod 3 = a ∧ 0 ≤ a ∧ a < 3 := ⟨_, rfl, tm_rg r2.1 (by omega)⟩
    obtain ⟨f, hfe, hf0, hf1⟩ : ∃ a, (vatF vc 3).tmod 6 = a ∧ 0 ≤ a ∧ a < 6 := ⟨_, rfl, tm_rg r3.1 (by omega)⟩
    obtain ⟨v, hve, hv0, hv1⟩ : ∃ a, (vatF vc 4).tmod 3 = a ∧ 0 ≤ a ∧ a < 3 := ⟨_, rfl, tm_rg r4.1 (by omega)⟩
    have hg : goodHomes [a, b, c] f = true := homes3 ha0 (by omega) hb0 (by omega) hc0 (by omega) hf0 (by omega)
    have hG := newPo_good (h := [a, b, c]) (f := f) rfl hg
    have hN := NewPoll_ok a b c f hg
    obtain ⟨hS2, hE0⟩ := el_int ha0 ha1 hb0 hb1 hc0 hc1 hf0 hf1 hv0 hv1
    obtain ⟨_, hG1, _⟩ := stand_good hS2
    obtain ⟨p, hp⟩ : ∃ p, newPo [a, b, c] f = p := ⟨_, rfl⟩
    rw [hp] at hN hG hS2 hE0 hG1
    have hSt := StandUp_ok hI p v (good_pollOk hG).1 (good_pollOk hG).2
    have hSs := sStandUp_ok p v (good_pollOk hG).1 (good_pollOk hG).2
    obtain ⟨q, hq⟩ : ∃ q, (standV p v).1 = q := ⟨_, rfl⟩
    rw [hq] at hE0 hG1 hSt hSs
    have hq2 := (good_pollOk hG1).2
    refine fn_in h_laws_FnElected r_laws_FnElected ⟨by simp only [go_sem], fun E hE hH => ?_⟩; simp only [go_sem] at hE hH; simp only [go_sem, hE, hH, c_laws_FnElected]
    repeat' (first | ((with_reducible first | refine gd_t ?_ ?_ | refine gd_f ?_ ?_) <;> (intro h; have hb := h; (try simp only [nf] at h); simp (disch := omega) only [go_sem, hE, hH, hB, hae, hbe, hce, hfe, hve, hS2, hb]; (try clear hb))) | ((with_reducible refine And.intro ?_ ?_); · omega) | ((first | refine ok_view ?_ | refine cvA (vBig_ok vc wc.1) ?_ | refine cvA (vAt_ok vc hc 0 (by omega) (by omega)) ?_ | refine cvA (vAt_ok vc hc 1 (by omega) (by omega)) ?_ | refine cvA (vAt_ok vc hc 2 (by omega) (by omega)) ?_ | refine cvA (vAt_ok vc hc 3 (by omega) (by omega)) ?_ | refine cvA (vAt_ok vc hc 4 (by omega) (by omega)) ?_ | refine cvA (hN) ?_ | refine cvA (hSt) ?_ | refine cvA (hSs) ?_ | refine cvA (vPoll_ok q hq2) ?_); simp (disch := omega) only [go_sem, hE, hH, hB, hae, hbe, hce, hfe, hve, hS2]) | (with_reducible apply jn) | (with_reducible apply both) | (with_reducible refine And.intro ?_ ?_) | ((with_reducible apply fin_eq); (try (simp (disch := omega) only [go_sem, hE, hH, hB, hae, hbe, hce, hfe, hve, hS2])); first | done | rfl) | (simp (disch := omega) only [go_sem, hE, hH, hB, hae, hbe, hce, hfe, hve, hS2]) | ((first | apply noMLL_sE | apply pk_sE) <;> (simp only [go_sem, hE, hH, hB, hae, hbe, hce, hfe, hve, hS2]; done)) | (simp only [go_sem, hE, hH, hB, hae, hbe, hce, hfe, hve, hS2]) | fail)
    all_goals try decide
    refine loopNe (2 * (1 + 2 * f)).toNat (fun j (x : Poll) => ⟨[(4, i64 f), (5, i64 v), (8, .ptr 9000000 0 0), (12, i64 j)], [(9000000, ⟨6, [[.ref 9000001 0 x.Voters.length, i64 x.Net.Now, .ref 9000003 0 x.Net.Homes.length, i64 x.Net.Far, .ref 9000005 0 x.Net.Under.length, .ref 9000006 0 x.Won.length]]⟩), (9000001, ⟨5, x.Voters.map (Voter.row true)⟩), (9000003, ⟨1, ints x.Net.Homes⟩), (9000005, ⟨4, x.Net.Under.map (Letter.row true)⟩), (9000006, ⟨2, x.Won.map (Won.row true)⟩)]⟩) (fun j x => elI v (2 * (1 + 2 * f)).toNat j x) q rfl ⟨hG1, hE0⟩ ?_
    have hw : IntKind.i64.wrap (2 * IntKind.i64.wrap (1 + IntKind.i64.wrap (2 * f))) = 2 * (1 + 2 * f) := by simp (disch := omega) only [go_sem]
    intro j x hj hx
    have hxp := good_pollOk hx.1
    try simp only [go_sem, hE, hH, c_laws_FnElected_l1]
    first | refine gd_t (fun h => ?_) (fun h => ?_) | refine gd_f (fun h => ?_) (fun h => ?_)
    · have hb := h
      simp only [nf] at h
      try rw [hw] at h
      obtain ⟨s1, s2⟩ := elI_step (by omega) hx
      try simp (disch := omega) only [go_sem, hE, hH, hb]
      repeat' (first | ((with_reducible first | refine gd_t ?_ ?_ | refine gd_f ?_ ?_) <;> (intro h; have hb := h; (try simp only [nf] at h); simp (disch := omega) only [go_sem, hE, hH, hb]; (try clear hb))) | ((with_reducible refine And.intro ?_ ?_); · omega) | ((first | refine ok_view ?_ | refine cvA (TickPoll_ok hI hR x hxp.1 hxp.2) ?_); simp (disch := omega) only [go_sem, hE, hH]) | (with_reducible apply jn) | (with_reducible apply both) | (with_reducible refine And.intro ?_ ?_) | ((with_reducible apply fin_eq); (try (simp (disch := omega) only [go_sem, hE, hH])); first | done | rfl) | (simp (disch := omega) only [go_sem, hE, hH]) | ((first | apply noMLL_sE | apply pk_sE) <;> (simp only [go_sem, hE, hH]; done)) | (simp only [go_sem, hE, hH]) | fail)
      all_goals first | omega | exact ⟨_, rfl, s2⟩ | trace_state
    · try simp (disch := omega) only [go_sem, hE, hH, h]
      simp only [nf] at h
      try rw [hw] at h
      obtain rfl : j = (2 * (1 + 2 * f)).toNat := by omega
      obtain ⟨_, e1, e2, e3, e4, e5⟩ := elI_end hx
      have e1a : (leaderOf x 1).1 = v := by rw [e1]
      have e1b : (leaderOf x 1).2 = true := by rw [e1]
      have d3 : (x.Voters.length : Int) = 3 := by omega
      have d5 : (x.Won.length : Int) = 1 := by omega
      repeat' (first | ((with_reducible first | refine gd_t ?_ ?_ | refine gd_f ?_ ?_) <;> (intro h; have hb := h; (try simp only [nf] at h); simp (disch := omega) only [go_sem, hE, hH, e1a, e1b, e2, d3, e4, d5, hb]; (try clear hb))) | ((with_reducible refine And.intro ?_ ?_); · omega) | ((first | refine ok_view ?_ | refine cvA (LeaderOf_ok x 1 hxp.1) ?_ | refine cvA (LeaderOf_ok x 2 hxp.1) ?_); simp (disch := omega) only [go_sem, hE, hH, e1a, e1b, e2, d3, e4, d5]) | (with_reducible apply jn) | (with_reducible apply both) | (with_reducible refine And.intro ?_ ?_) | ((with_reducible apply fin_eq); (try (simp (disch := omega) only [go_sem, hE, hH, e1a, e1b, e2, d3, e4, d5])); first | done | rfl) | (simp (disch := omega) only [go_sem, hE, hH, e1a, e1b, e2, d3, e4, d5]) | ((first | apply noMLL_sE | apply pk_sE) <;> (simp only [go_sem, hE, hH, e1a, e1b, e2, d3, e4, d5]; done)) | (simp only [go_sem, hE, hH, e1a, e1b, e2, d3, e4, d5]) | fail)
      all_goals first | omega | rfl | trace_state
  · refine fn_in h_laws_FnElected r_laws_FnElected ⟨by simp only [go_sem], fun E hE hH => ?_⟩; simp only [go_sem] at hE hH; simp only [go_sem, hE, hH, c_laws_FnElected]
    repeat' (first | ((with_reducible first | refine gd_t ?_ ?_ | refine gd_f ?_ ?_) <;> (intro h; have hb := h; (try simp only [nf] at h); simp (disch := omega) only [go_sem, hE, hH, hB, hb]; (try clear hb))) | ((with_reducible refine And.intro ?_ ?_); · omega) | ((first | refine ok_view ?_ | refine cvA (vBig_ok vc wc.1) ?_); simp (disch := omega) only [go_sem, hE, hH, hB]) | (refine jn _ ?_ ?_) | (with_reducible refine both ?_ ?_) | (with_reducible refine And.intro ?_ ?_) | (refine fin_eq ?_; (try (simp (disch := omega) only [go_sem, hE, hH, hB])); first | done | rfl) | (simp (disch := omega) only [go_sem, hE, hH, hB]) | ((first | apply noMLL_sE | apply pk_sE) <;> (simp only [go_sem, hE, hH, hB]; done)) | (simp only [go_sem, hE, hH, hB]) | fail)
    all_goals first | rfl | trace_state
end Go.Proofs.Wb

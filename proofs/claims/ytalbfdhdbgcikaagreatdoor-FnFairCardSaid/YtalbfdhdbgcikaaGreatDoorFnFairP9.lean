import Derived.Test.YtalbfdhdbgcikaaGreatDoorFnFairP4
import Derived.Laws.Externs
set_option linter.unusedSimpArgs false
set_option linter.unusedVariables false
set_option linter.unusedSectionVars false
namespace Go.Proofs.Wb
open Go Go.Am
def newV : Voter := ⟨true, 0, -1, [], false⟩
def newPo (h : List Int) (f : Int) : Poll := ⟨[newV, newV, newV], ⟨0, h, f, []⟩, []⟩
theorem newPo_good {h : List Int} {f : Int} (h3 : h.length = 3) (hg : goodHomes h f = true) : Good (newPo h f) := by
  refine good_iff.1 ?_
  have e1 : goodNet ⟨0, h, f, []⟩ = true := by simp [goodNet, rng, allN, hg]
  have e2 : ∀ i : Nat, i < 3 → voterOk newV i 3 = true := by decide
  simp only [goodPoll, newPo, e1, h3, List.length_cons, List.length_nil, Bool.true_and, Bool.and_eq_true, allN_iff]
  refine ⟨⟨⟨⟨by simp, by simp⟩, by simp⟩, fun i hi => ?_⟩, rfl⟩
  have hn : nth [newV, newV, newV] i = newV := by
    obtain rfl | rfl | rfl : i = 0 ∨ i = 1 ∨ i = 2 := by omega
    all_goals rfl
  rw [hn]; exact e2 i hi
theorem newPo_fair (h : List Int) (f : Int) : FairV (newPo h f) fun _ _ _ => False := by
  have hn : ∀ w, w < 3 → nth [newV, newV, newV] w = newV := fun i hi => by
    obtain rfl | rfl | rfl : i = 0 ∨ i = 1 ∨ i = 2 := by omega
    all_goals rfl
  refine ⟨fun _ _ _ _ h => h.elim, fun _ _ _ h => h.elim, fun w hw hf => ?_, fun _ _ _ _ h => h.elim, fun _ _ _ h => h.elim, fun l hl => ?_, fun c hc x hx => ?_, fun w hw => ?_⟩
  · exact hf (by show (nth [newV, newV, newV] w).For = -1; rw [hn w hw]; rfl)
  · cases hl
  · have : x ∈ (nth [newV, newV, newV] c).Yes := hx
    rw [hn c hc] at this; cases this
  · cases hw
theorem fairV_all {p : Poll} {V : Nat → Int → Int → Prop} (h : FairV p V) : fairAll p.Won = true := by
  unfold fairAll
  rw [allN_iff]
  intro i hi
  rw [allN_iff]
  intro k hk
  have := fun e => h.one (nth_mem hi) (nth_mem (show k < p.Won.length by omega)) e
  unfold fairAt
  by_cases e : (nth p.Won i).Term = (nth p.Won k).Term
  · have := this e; simp_all
  · simp_all
theorem play_one {p : Poll} (hp : Good p) (a : PollAct) : playP p [a] = (stepP p a, true) := by
  rw [playP_yes (by simp [playC, good_iff.2 hp])]; rfl
def runI (x : Poll) : Prop := Good x ∧ x.Voters.length = 3 ∧ ∃ V, FairV x V
theorem run_new {h : List Int} {f : Int} (h3 : h.length = 3) (hg : goodHomes h f = true) : runI (newPo h f) := ⟨newPo_good h3 hg, rfl, _, newPo_fair h f⟩
theorem run_step {x : Poll} (h : runI x) (a : PollAct) : runI (stepP x a) ∧ goodPoll (stepP x a) = true ∧ fairL (stepP x a) = true := by
  obtain ⟨h1, h2, V, h3⟩ := h
  obtain ⟨g1, g2⟩ := step_good h1 a
  obtain ⟨V', h4, _⟩ := step_fair a h3
  have hg := good_iff.2 g1
  exact ⟨⟨g1, by rw [g1.v, g2, ← h1.v, h2], V', h4⟩, hg, by rw [← fair_eq hg]; exact fairV_all h4⟩
theorem homes3 {a b c f : Int} (a0 : 0 ≤ a) (a1 : a ≤ 2) (b0 : 0 ≤ b) (b1 : b ≤ 2) (c0 : 0 ≤ c) (c1 : c ≤ 2) (f0 : 0 ≤ f) (f1 : f ≤ 20) : goodHomes [a, b, c] f = true := by
  simp only [goodHomes, Bool.and_eq_true, rng_iff, allR, allN_iff]
  refine ⟨⟨by simp, fun i hi => ?_⟩, by omega⟩
  obtain rfl | rfl | rfl : i = 0 ∨ i = 1 ∨ i = 2 := by simp at hi; omega
  · exact ⟨a0, a1⟩
  · exact ⟨b0, b1⟩
  · exact ⟨c0, c1⟩
theorem mul64_13 : ACall Tryz.prog n_math_bits_Mul64 [.v (.int .u64 1), .v (.int .u64 3)] (fun r _ => r = .tup [.v (.int .u64 0), .v (.int .u64 3)]) := by
  refine fn_in h_math_bits_Mul64 r_math_bits_Mul64 ⟨by simp only [go_sem], fun E hE hH => ?_⟩; simp only [go_sem] at hE hH; simp only [go_sem, hE, hH, c_math_bits_Mul64]
  repeat' (first | ((with_reducible first | refine gd_t ?_ ?_ | refine gd_f ?_ ?_) <;> (intro h; have hb := h; (try simp only [nf] at h); simp (disch := omega) only [go_sem, hE, hH, hb]; (try clear hb))) | ((with_reducible refine And.intro ?_ ?_); · omega) | (with_reducible apply jn) | (with_reducible apply both) | (with_reducible refine And.intro ?_ ?_) | ((with_reducible apply fin_eq); (try (simp (disch := omega) only [go_sem, hE, hH])); first | done | rfl) | (simp (disch := omega) only [go_sem, hE, hH]) | ((first | apply noMLL_sE | apply pk_sE) <;> (simp only [go_sem, hE, hH]; done)) | (simp only [go_sem, hE, hH]) | fail)
  all_goals first | rfl | decide | trace_state
theorem mul_13 : ACall Tryz.prog n_math_bits_Mul [.v (.int .u64 1), .v (.int .u64 3)] (fun r _ => r = .tup [.v (.int .u64 0), .v (.int .u64 3)]) := by
  refine fn_in h_math_bits_Mul r_math_bits_Mul ⟨by simp only [go_sem], fun E hE hH => ?_⟩; simp only [go_sem] at hE hH; simp only [go_sem, hE, hH, c_math_bits_Mul]
  repeat' (first | ((with_reducible first | refine gd_t ?_ ?_ | refine gd_f ?_ ?_) <;> (intro h; have hb := h; (try simp only [nf] at h); simp (disch := omega) only [go_sem, hE, hH, hb]; (try clear hb))) | ((with_reducible refine And.intro ?_ ?_); · omega) | ((first | refine ok_view ?_ | refine cvA (mul64_13) ?_); simp (disch := omega) only [go_sem, hE, hH]) | (with_reducible apply jn) | (with_reducible apply both) | (with_reducible refine And.intro ?_ ?_) | ((with_reducible apply fin_eq); (try (simp (disch := omega) only [go_sem, hE, hH])); first | done | rfl) | (simp (disch := omega) only [go_sem, hE, hH]) | ((first | apply noMLL_sE | apply pk_sE) <;> (simp only [go_sem, hE, hH]; done)) | (simp only [go_sem, hE, hH]) | fail)
  all_goals first | rfl | decide | trace_state
def nvR : List T := [bl true, i64 0, i64 (-1), nils, bl false]
def nvZ : List T := [bl false, i64 0, i64 0, nils, bl false]
def repR : Nat → List (List T)
  | 0 => [nvR, nvZ, nvZ]
  | 1 => [nvR, nvR, nvZ]
  | _ => [nvR, nvR, nvR]
set_option maxHeartbeats 4000000 in
theorem repeat3_ok : ACall Tryz.prog n_slices_Repeat___impl_Voter_impl_Voter_ [.sl false 5 [[bl true, i64 0, i64 (-1), nils, bl false]], i64 3] (fun r _ => r = .sl true 5 [[bl true, i64 0, i64 (-1), nils, bl false], [bl true, i64 0, i64 (-1), nils, bl false], [bl true, i64 0, i64 (-1), nils, bl false]]) := by
  have hmx := mx_eq
  have m1 : min 3 1 = 1 := rfl
  have m2 : min 2 1 = 1 := rfl
  have m3 : min 1 2 = 1 := rfl
  have p1 : putRows [[bl false, i64 0, i64 0, nils, bl false], [bl false, i64 0, i64 0, nils, bl false], [bl false, i64 0, i64 0, nils, bl false]] 0 [[bl true, i64 0, i64 (-1), nils, bl false]] = [[bl true, i64 0, i64 (-1), nils, bl false], [bl false, i64 0, i64 0, nils, bl false], [bl false, i64 0, i64 0, nils, bl false]] := rfl
  have p2 : putRows [[bl true, i64 0, i64 (-1), nils, bl false], [bl false, i64 0, i64 0, nils, bl false], [bl false, i64 0, i64 0, nils, bl false]] 1 [[bl true, i64 0, i64 (-1), nils, bl false]] = [[bl true, i64 0, i64 (-1), nils, bl false], [bl true, i64 0, i64 (-1), nils, bl false], [bl false, i64 0, i64 0, nils, bl false]] := rfl
  have p3 : putRows [[bl true, i64 0, i64 (-1), nils, bl false], [bl true, i64 0, i64 (-1), nils, bl false], [bl false, i64 0, i64 0, nils, bl false]] 2 [[bl true, i64 0, i64 (-1), nils, bl false]] = [[bl true, i64 0, i64 (-1), nils, bl false], [bl true, i64 0, i64 (-1), nils, bl false], [bl true, i64 0, i64 (-1), nils, bl false]] := rfl
  refine fn_in h_slices_Repeat___impl_Voter_impl_Voter_ r_slices_Repeat___impl_Voter_impl_Voter_ ⟨by simp only [go_sem], fun E hE hH => ?_⟩; simp only [go_sem] at hE hH; simp only [go_sem, hE, hH, c_slices_Repeat___impl_Voter_impl_Voter_]
  repeat' (first | ((with_reducible first | refine gd_t ?_ ?_ | refine gd_f ?_ ?_) <;> (intro h; have hb := h; (try simp only [nf] at h); simp (disch := omega) only [go_sem, hE, hH, m1, m2, m3, p1, p2, p3, List.take_succ_cons, List.take_zero, List.take_nil, hb]; (try clear hb))) | ((with_reducible refine And.intro ?_ ?_); · omega) | ((first | refine ok_view ?_ | refine cvA (mul_13) ?_); simp (disch := omega) only [go_sem, hE, hH, m1, m2, m3, p1, p2, p3, List.take_succ_cons, List.take_zero, List.take_nil]) | (with_reducible apply jn) | (with_reducible apply both) | (with_reducible refine And.intro ?_ ?_) | ((with_reducible apply fin_eq); (try (simp (disch := omega) only [go_sem, hE, hH, m1, m2, m3, p1, p2, p3, List.take_succ_cons, List.take_zero, List.take_nil])); first | done | rfl) | (simp (disch := omega) only [go_sem, hE, hH, m1, m2, m3, p1, p2, p3, List.take_succ_cons, List.take_zero, List.take_nil]) | ((first | apply noMLL_sE | apply pk_sE) <;> (simp only [go_sem, hE, hH, m1, m2, m3, p1, p2, p3, List.take_succ_cons, List.take_zero, List.take_nil]; done)) | (simp only [go_sem, hE, hH, m1, m2, m3, p1, p2, p3, List.take_succ_cons, List.take_zero, List.take_nil]) | fail)
  all_goals try (exfalso; omega)
  all_goals try (first | rfl | decide | (simp; done))
  refine loopNe 2 (fun j (_ : Unit) => ⟨[(7, .ref 8000000 0 3), (8, i64 (j + 1))], [(8000000, ⟨5, repR j⟩)]⟩) (fun _ _ => True) () rfl trivial ?_
  intro j _ hj _
  obtain rfl | rfl | rfl : j = 0 ∨ j = 1 ∨ j = 2 := by omega
  all_goals
    simp only [repR, nvR, nvZ]
    try simp only [go_sem, hE, hH, c_slices_Repeat___impl_Voter_impl_Voter__l1]
    repeat' (first | ((with_reducible first | refine gd_t ?_ ?_ | refine gd_f ?_ ?_) <;> (intro h; have hb := h; (try simp only [nf] at h); simp (disch := omega) only [go_sem, hE, hH, m1, m2, m3, p1, p2, p3, List.take_succ_cons, List.take_zero, List.take_nil, hb]; (try clear hb))) | ((with_reducible refine And.intro ?_ ?_); · omega) | (with_reducible apply jn) | (with_reducible apply both) | (with_reducible refine And.intro ?_ ?_) | ((with_reducible apply fin_eq); (try (simp (disch := omega) only [go_sem, hE, hH, m1, m2, m3, p1, p2, p3, List.take_succ_cons, List.take_zero, List.take_nil])); first | done | rfl) | (simp (disch := omega) only [go_sem, hE, hH, m1, m2, m3, p1, p2, p3, List.take_succ_cons, List.take_zero, List.take_nil]) | ((first | apply noMLL_sE | apply pk_sE) <;> (simp only [go_sem, hE, hH, m1, m2, m3, p1, p2, p3, List.take_succ_cons, List.take_zero, List.take_nil]; done)) | (simp only [go_sem, hE, hH, m1, m2, m3, p1, p2, p3, List.take_succ_cons, List.take_zero, List.take_nil]) | fail)
  all_goals first | omega | exact ⟨(), rfl⟩ | rfl | decide | trace_state
set_option maxHeartbeats 4000000 in
theorem NewPoll_ok (a b c f : Int) (hg : goodHomes [a, b, c] f = true) : ACall Tryz.prog n_impl_NewPoll [.sl false 1 (ints [a, b, c]), i64 f] (fun r _ => r = .tup [.agg (Poll.row true (newPo [a, b, c] f)), bl true]) := by
  have hmx := mx_eq
  have e : newN [a, b, c] f = (⟨0, [a, b, c], f, []⟩, true) := by simp [newN, hg]
  have e3 : (([a, b, c] : List Int).length : Int) = 3 := rfl
  refine fn_in h_impl_NewPoll r_impl_NewPoll ⟨by simp only [go_sem], fun E hE hH => ?_⟩; simp only [go_sem] at hE hH; simp only [go_sem, hE, hH, c_impl_NewPoll]
  repeat' (first | ((with_reducible first | refine gd_t ?_ ?_ | refine gd_f ?_ ?_) <;> (intro h; have hb := h; (try simp only [nf] at h); simp (disch := omega) only [go_sem, hE, hH, e, hb]; (try clear hb))) | ((with_reducible refine And.intro ?_ ?_); · omega) | ((first | refine ok_view ?_ | refine cvA (NewNet_ok [a, b, c] f (by simp)) ?_ | refine cvA (isMany_ok 3) ?_ | refine cvA (repeat3_ok) ?_); simp (disch := omega) only [go_sem, hE, hH, e]) | (with_reducible apply jn) | (with_reducible apply both) | (with_reducible refine And.intro ?_ ?_) | ((with_reducible apply fin_eq); (try (simp (disch := omega) only [go_sem, hE, hH, e])); first | done | rfl) | (simp (disch := omega) only [go_sem, hE, hH, e]) | ((first | apply noMLL_sE | apply pk_sE) <;> (simp only [go_sem, hE, hH, e]; done)) | (simp only [go_sem, hE, hH, e]) | fail)
  all_goals first | rfl | decide | trace_state
def repV (j : Nat) (vs : List Voter) : Prop := vs = List.replicate j newV
set_option maxHeartbeats 4000000 in
theorem sNewPoll_ok (a b c f : Int) (hg : goodHomes [a, b, c] f = true) : ACall Tryz.prog n_spec_NewPoll [.sl false 1 (ints [a, b, c]), i64 f] (fun r _ => r = .tup [.agg (Poll.row true (newPo [a, b, c] f)), bl true]) := by
  have hmx := mx_eq
  have e : newN [a, b, c] f = (⟨0, [a, b, c], f, []⟩, true) := by simp [newN, hg]
  refine fn_in h_spec_NewPoll r_spec_NewPoll ⟨by simp only [go_sem], fun E hE hH => ?_⟩; simp only [go_sem] at hE hH; simp only [go_sem, hE, hH, c_spec_NewPoll]
  repeat' (first | ((with_reducible first | refine gd_t ?_ ?_ | refine gd_f ?_ ?_) <;> (intro h; have hb := h; (try simp only [nf] at h); simp (disch := omega) only [go_sem, hE, hH, e, hb]; (try clear hb))) | ((with_reducible refine And.intro ?_ ?_); · omega) | ((first | refine ok_view ?_ | refine cvA (sNewNet_ok [a, b, c] f (by simp)) ?_); simp (disch := omega) only [go_sem, hE, hH, e]) | (with_reducible apply jn) | (with_reducible apply both) | (with_reducible refine And.intro ?_ ?_) | ((with_reducible apply fin_eq); (try (simp (disch := omega) only [go_sem, hE, hH, e])); first | done | rfl) | (simp (disch := omega) only [go_sem, hE, hH, e]) | ((first | apply noMLL_sE | apply pk_sE) <;> (simp only [go_sem, hE, hH, e]; done)) | (simp only [go_sem, hE, hH, e]) | fail)
  refine loopNe 3 (fun j (vs : List Voter) => ⟨[(0, .sl false 1 [[i64 a], [i64 b], [i64 c]]), (4, .ptr 5000000 0 0), (8, .ptr 9000000 0 0), (9, i64 j)], [(5000000, ⟨6, [[nils, i64 0, nils, i64 0, nils, nils]]⟩), (9000000, ⟨6, [[.ref 9000001 0 vs.length, i64 0, .ref 9000003 0 3, i64 f, .ref 9000005 0 0, .ref 9000006 0 0]]⟩), (9000001, ⟨5, vs.map (Voter.row true)⟩), (9000003, ⟨1, [[i64 a], [i64 b], [i64 c]]⟩), (9000005, ⟨4, []⟩), (9000006, ⟨2, []⟩)]⟩) (fun j vs => repV j vs) [] rfl rfl ?_
  intro j vs hj hvs
  have hl : vs.length = j := by rw [show vs = _ from hvs, List.length_replicate]
  try simp only [go_sem, hE, hH, c_spec_NewPoll_l1]
  first | refine gd_t (fun h => ?_) (fun h => ?_) | refine gd_f (fun h => ?_) (fun h => ?_)
  · have hb := h
    simp only [nf] at h
    try simp (disch := omega) only [go_sem, hE, hH, hb]
    repeat' (first | ((with_reducible first | refine gd_t ?_ ?_ | refine gd_f ?_ ?_) <;> (intro h; have hb := h; (try simp only [nf] at h); simp (disch := omega) only [go_sem, hE, hH, hb]; (try clear hb))) | ((with_reducible refine And.intro ?_ ?_); · omega) | (with_reducible apply jn) | (with_reducible apply both) | (with_reducible refine And.intro ?_ ?_) | ((with_reducible apply fin_eq); (try (simp (disch := omega) only [go_sem, hE, hH])); first | done | rfl) | (simp (disch := omega) only [go_sem, hE, hH]) | ((first | apply noMLL_sE | apply pk_sE) <;> (simp only [go_sem, hE, hH]; done)) | (simp only [go_sem, hE, hH]) | fail)
    all_goals first | omega | exact ⟨vs ++ [newV], by simp [newV, Voter.row, ints], by unfold repV at hvs ⊢; rw [List.replicate_succ', hvs]⟩ | trace_state
  · try simp (disch := omega) only [go_sem, hE, hH, h]
    simp only [nf] at h
    obtain rfl : j = 3 := by omega
    have e9 : vs = [newV, newV, newV] := hvs
    all_goals first | (rw [e9]; exact ⟨rfl, rfl, rfl, rfl, rfl, rfl⟩) | trace_state
set_option maxHeartbeats 4000000 in
theorem vPoll_ok (p : Poll) (hq : pollSm p) : ACall Tryz.prog n_laws_vPoll [.agg (Poll.row false p), .agg (Poll.row false p)] (fun r _ => r = bl true) := by
  have hmx := mx_eq
  obtain ⟨h1, h2, h3, h4, h5⟩ := hq
  refine fn_in h_laws_vPoll r_laws_vPoll ⟨by simp only [go_sem], fun E hE hH => ?_⟩; simp only [go_sem] at hE hH; simp only [go_sem, hE, hH, c_laws_vPoll]
  repeat' (first | ((with_reducible first | refine gd_t ?_ ?_ | refine gd_f ?_ ?_) <;> (intro h; have hb := h; (try simp only [nf] at h); simp (disch := omega) only [go_sem, hE, hH, hb]; (try clear hb))) | ((with_reducible refine And.intro ?_ ?_); · omega) | ((first | refine ok_view ?_ | refine cvA (vNet_ok p.Net (by omega) (by omega)) ?_); simp (disch := omega) only [go_sem, hE, hH]) | (with_reducible apply jn) | (with_reducible apply both) | (with_reducible refine And.intro ?_ ?_) | ((with_reducible apply fin_eq); (try (simp (disch := omega) only [go_sem, hE, hH])); first | done | rfl) | (simp (disch := omega) only [go_sem, hE, hH]) | ((first | apply noMLL_sE | apply pk_sE) <;> (simp only [go_sem, hE, hH]; done)) | (simp only [go_sem, hE, hH]) | fail)
  all_goals try omega
  refine loopNe p.Voters.length (fun j (_ : Unit) => ⟨[(2, .ptr 3000000 0 0), (3, .ptr 4000000 0 0), (5, i64 j)], [(3000000, ⟨6, [Poll.row false p]⟩), (4000000, ⟨6, [Poll.row false p]⟩)]⟩) (fun _ _ => True) () rfl trivial ?_
  intro j _ hj _
  try simp only [go_sem, hE, hH, c_laws_vPoll_l1]
  first | refine gd_t (fun h => ?_) (fun h => ?_) | refine gd_f (fun h => ?_) (fun h => ?_)
  · have hb := h
    simp only [nf] at h
    have hlt := h; clear h
    have hy := h5 _ (nth_mem hlt)
    try simp (disch := omega) only [go_sem, hE, hH, hb]
    repeat' (first | ((with_reducible first | refine gd_t ?_ ?_ | refine gd_f ?_ ?_) <;> (intro h; have hb := h; (try simp only [nf] at h); simp (disch := omega) only [go_sem, hE, hH, hb]; (try clear hb))) | ((with_reducible refine And.intro ?_ ?_); · omega) | ((first | refine ok_view ?_ | refine cvA (vInts_ok (nth p.Voters j).Yes (by omega)) ?_); simp (disch := omega) only [go_sem, hE, hH]) | (with_reducible apply jn) | (with_reducible apply both) | (with_reducible refine And.intro ?_ ?_) | ((with_reducible apply fin_eq); (try (simp (disch := omega) only [go_sem, hE, hH])); first | done | rfl) | (simp (disch := omega) only [go_sem, hE, hH]) | ((first | apply noMLL_sE | apply pk_sE) <;> (simp only [go_sem, hE, hH]; done)) | (simp only [go_sem, hE, hH]) | fail)
    all_goals first | omega | exact ⟨(), rfl⟩ | trace_state
  · try simp (disch := omega) only [go_sem, hE, hH, h]
    simp only [nf] at h
    repeat' (first | ((with_reducible first | refine gd_t ?_ ?_ | refine gd_f ?_ ?_) <;> (intro h; have hb := h; (try simp only [nf] at h); simp (disch := omega) only [go_sem, hE, hH, hb]; (try clear hb))) | ((with_reducible refine And.intro ?_ ?_); · omega) | (with_reducible apply jn) | (with_reducible apply both) | (with_reducible refine And.intro ?_ ?_) | ((with_reducible apply fin_eq); (try (simp (disch := omega) only [go_sem, hE, hH])); first | done | rfl) | (simp (disch := omega) only [go_sem, hE, hH]) | ((first | apply noMLL_sE | apply pk_sE) <;> (simp only [go_sem, hE, hH]; done)) | (simp only [go_sem, hE, hH]) | fail)
    all_goals try omega
    refine loopNe p.Won.length (fun j (_ : Unit) => ⟨[(2, .ptr 3000000 0 0), (3, .ptr 4000000 0 0), (8, i64 j)], [(3000000, ⟨6, [Poll.row false p]⟩), (4000000, ⟨6, [Poll.row false p]⟩)]⟩) (fun _ _ => True) () rfl trivial ?_
    intro k _ hk _
    try simp only [go_sem, hE, hH, c_laws_vPoll_l2]
    first | refine gd_t (fun h6 => ?_) (fun h6 => ?_) | refine gd_f (fun h6 => ?_) (fun h6 => ?_)
    · have hb := h6
      simp only [nf] at h6
      have hlt := h6; clear h6
      try simp (disch := omega) only [go_sem, hE, hH, hb]
      repeat' (first | ((with_reducible first | refine gd_t ?_ ?_ | refine gd_f ?_ ?_) <;> (intro h; have hb := h; (try simp only [nf] at h); simp (disch := omega) only [go_sem, hE, hH, hb]; (try clear hb))) | ((with_reducible refine And.intro ?_ ?_); · omega) | (with_reducible apply jn) | (with_reducible apply both) | (with_reducible refine And.intro ?_ ?_) | ((with_reducible apply fin_eq); (try (simp (disch := omega) only [go_sem, hE, hH])); first | done | rfl) | (simp (disch := omega) only [go_sem, hE, hH]) | ((first | apply noMLL_sE | apply pk_sE) <;> (simp only [go_sem, hE, hH]; done)) | (simp only [go_sem, hE, hH]) | fail)
      all_goals first | omega | exact ⟨(), rfl⟩ | trace_state
    · try simp (disch := omega) only [go_sem, hE, hH, h6]
theorem tm_rg {x m : Int} (h0 : 0 ≤ x) (hm : 0 < m) : 0 ≤ x.tmod m ∧ x.tmod m < m := ⟨Int.tmod_nonneg _ h0, Int.tmod_lt_of_pos _ hm⟩
set_option maxHeartbeats 16000000 in
theorem FnFair_ok (hI : ItoaH) (hR : ReadIntH) (vc : List Int) (wc : vc.length ≤ maxLen ∧ ∀ y ∈ vc, 0 ≤ y ∧ y ≤ 255) : ACall Tryz.prog n_laws_FnFair [.sl false 1 (bys vc)] (fun r _ => r = bl true) := by
  have hmx := mx_eq
  cases hB : vBigB vc
  · have hc := isB_ofv hB wc.2
    have hcl := hc.1
    have r0 := vatF_rng hc (i := 0) (by omega) (by omega)
    have r1 := vatF_rng hc (i := 1) (by omega) (by omega)
    have r2 := vatF_rng hc (i := 2) (by omega) (by omega)
    obtain ⟨a, hae, ha0, ha1⟩ : ∃ a, (vatF vc 0).tmod 3 = a ∧ 0 ≤ a ∧ a < 3 := ⟨_, rfl, tm_rg r0.1 (by omega)⟩
    obtain ⟨b, hbe, hb0, hb1⟩ : ∃ a, (vatF vc 1).tmod 3 = a ∧ 0 ≤ a ∧ a < 3 := ⟨_, rfl, tm_rg r1.1 (by omega)⟩
    obtain ⟨f, hfe, hf0, hf1⟩ : ∃ a, (vatF vc 2).tmod 4 = a ∧ 0 ≤ a ∧ a < 4 := ⟨_, rfl, tm_rg r2.1 (by omega)⟩
    have hg : goodHomes [0, a, b] f = true := homes3 (by omega) (by omega) ha0 (by omega) hb0 (by omega) hf0 (by omega)
    have hG := run_new (h := [0, a, b]) (f := f) rfl hg
    have hN := NewPoll_ok 0 a b f hg
    have hNs := sNewPoll_ok 0 a b f hg
    obtain ⟨p, hp⟩ : ∃ p, newPo [0, a, b] f = p := ⟨_, rfl⟩
    rw [hp] at hN hNs hG
    have hpp := good_pollOk hG.1
    refine fn_in h_laws_FnFair r_laws_FnFair ⟨by simp only [go_sem], fun E hE hH => ?_⟩; simp only [go_sem] at hE hH; simp only [go_sem, hE, hH, c_laws_FnFair]
    repeat' (first | ((with_reducible first | refine gd_t ?_ ?_ | refine gd_f ?_ ?_) <;> (intro h; have hb := h; (try simp only [nf] at h); simp (disch := omega) only [go_sem, hE, hH, hB, hae, hbe, hfe, hb]; (try clear hb))) | ((with_reducible refine And.intro ?_ ?_); · omega) | ((first | refine ok_view ?_ | refine cvA (vBig_ok vc wc.1) ?_ | refine cvA (vAt_ok vc hc 0 (by omega) (by omega)) ?_ | refine cvA (vAt_ok vc hc 1 (by omega) (by omega)) ?_ | refine cvA (vAt_ok vc hc 2 (by omega) (by omega)) ?_ | refine cvA (hN) ?_ | refine cvA (hNs) ?_ | refine cvA (vPoll_ok p hpp.2) ?_); simp (disch := omega) only [go_sem, hE, hH, hB, hae, hbe, hfe]) | (with_reducible apply jn) | (with_reducible apply both) | (with_reducible refine And.intro ?_ ?_) | ((with_reducible apply fin_eq); (try (simp (disch := omega) only [go_sem, hE, hH, hB, hae, hbe, hfe])); first | done | rfl) | (simp (disch := omega) only [go_sem, hE, hH, hB, hae, hbe, hfe]) | ((first | apply noMLL_sE | apply pk_sE) <;> (simp only [go_sem, hE, hH, hB, hae, hbe, hfe]; done)) | (simp only [go_sem, hE, hH, hB, hae, hbe, hfe]) | fail)
    all_goals try decide
    refine loopNe 60 (fun i (x : Poll) => ⟨[(0, .sl false 1 (bys vc)), (3, .ptr 4000000 0 0), (7, i64 i)], [(4000000, ⟨6, [[.ref 4000001 0 x.Voters.length, i64 x.Net.Now, .ref 4000003 0 x.Net.Homes.length, i64 x.Net.Far, .ref 4000005 0 x.Net.Under.length, .ref 4000006 0 x.Won.length]]⟩), (4000001, ⟨5, x.Voters.map (Voter.row true)⟩), (4000003, ⟨1, ints x.Net.Homes⟩), (4000005, ⟨4, x.Net.Under.map (Letter.row true)⟩), (4000006, ⟨2, x.Won.map (Won.row true)⟩)]⟩) (fun _ x => runI x) p rfl hG ?_
    rintro i x hi hx
    have hxp := good_pollOk hx.1
    try simp only [go_sem, hE, hH, c_laws_FnFair_l1]
    first | refine gd_t (fun h => ?_) (fun h => ?_) | refine gd_f (fun h => ?_) (fun h => ?_)
    · have hb := h
      simp only [nf] at h
      have r3 := vatF_rng hc (i := (i : Int) + 3) (by omega) (by omega)
      have r4 := vatF_rng hc (i := (i : Int) + 4) (by omega) (by omega)
      have r5 := vatF_rng hc (i := (i : Int) + 5) (by omega) (by omega)
      obtain ⟨k, hke, hk0, hk1⟩ : ∃ a, (vatF vc ((i : Int) + 3)).tmod 11 = a ∧ 0 ≤ a ∧ a < 11 := ⟨_, rfl, tm_rg r3.1 (by omega)⟩
      obtain ⟨w, hwe, hw0, hw1⟩ : ∃ a, (vatF vc ((i : Int) + 4)).tmod 3 = a ∧ 0 ≤ a ∧ a < 3 := ⟨_, rfl, tm_rg r4.1 (by omega)⟩
      obtain ⟨y, hye, hy0, hy1⟩ : ∃ a, (vatF vc ((i : Int) + 5)).tmod 9 = a ∧ 0 ≤ a ∧ a < 9 := ⟨_, rfl, tm_rg r5.1 (by omega)⟩
      obtain ⟨kd, hkd⟩ : ∃ kd, ([[i64 1], [i64 1], [i64 2], [i64 3], [i64 3], [i64 3], [i64 3], [i64 3], [i64 4], [i64 5], [i64 6]] : List (List T)).getD k.toNat [] = [i64 kd] := by
        obtain ⟨m, rfl⟩ := Int.eq_ofNat_of_zero_le hk0
        have : m < 11 := by omega
        obtain rfl | rfl | rfl | rfl | rfl | rfl | rfl | rfl | rfl | rfl | rfl : m = 0 ∨ m = 1 ∨ m = 2 ∨ m = 3 ∨ m = 4 ∨ m = 5 ∨ m = 6 ∨ m = 7 ∨ m = 8 ∨ m = 9 ∨ m = 10 := by omega
        all_goals exact ⟨_, rfl⟩
      obtain ⟨z, hz⟩ : ∃ z, stepP x ⟨kd, w, 1 + y⟩ = z := ⟨_, rfl⟩
      obtain ⟨g1, g2, g3⟩ := run_step hx ⟨kd, w, 1 + y⟩
      have e1 := play_one hx.1 ⟨kd, w, 1 + y⟩
      rw [hz] at g1 g2 g3 e1
      have hzp := good_pollOk g1.1
      have hP := PlayPoll_ok hI hR x [⟨kd, w, 1 + y⟩] hxp.1 hxp.2 (by rw [hmx]; simp)
      have hPs := sPlayPoll_ok x [⟨kd, w, 1 + y⟩] hxp.1 hxp.2 (by rw [hmx]; simp)
      have hF := IsFair_ok z hzp.1
      have hGd := GoodPoll_ok z hzp.1
      rw [e1] at hP hPs
      rw [g2, g3] at hF
      rw [g2] at hGd
      try simp (disch := omega) only [go_sem, hE, hH, hb]
      repeat' (first | ((with_reducible first | refine gd_t ?_ ?_ | refine gd_f ?_ ?_) <;> (intro h; have hb := h; (try simp only [nf] at h); simp (disch := omega) only [go_sem, hE, hH, hke, hwe, hye, hkd, hb]; (try clear hb))) | ((with_reducible refine And.intro ?_ ?_); · omega) | ((first | refine ok_view ?_ | refine cvA (vAt_ok vc hc ((i : Int) + 3) (by omega) (by omega)) ?_ | refine cvA (vAt_ok vc hc ((i : Int) + 4) (by omega) (by omega)) ?_ | refine cvA (vAt_ok vc hc ((i : Int) + 5) (by omega) (by omega)) ?_ | refine cvA (hP) ?_ | refine cvA (hPs) ?_ | refine cvA (vPoll_ok z hzp.2) ?_ | refine cvA (hF) ?_ | refine cvA (hGd) ?_); simp (disch := omega) only [go_sem, hE, hH, hke, hwe, hye, hkd]) | (with_reducible apply jn) | (with_reducible apply both) | (with_reducible refine And.intro ?_ ?_) | ((with_reducible apply fin_eq); (try (simp (disch := omega) only [go_sem, hE, hH, hke, hwe, hye, hkd])); first | done | rfl) | (simp (disch := omega) only [go_sem, hE, hH, hke, hwe, hye, hkd]) | ((first | apply noMLL_sE | apply pk_sE) <;> (simp only [go_sem, hE, hH, hke, hwe, hye, hkd]; done)) | (simp only [go_sem, hE, hH, hke, hwe, hye, hkd]) | fail)
      all_goals first | omega | exact ⟨z, rfl, g1⟩ | trace_state
    · try simp (disch := omega) only [go_sem, hE, hH, h]
  · refine fn_in h_laws_FnFair r_laws_FnFair ⟨by simp only [go_sem], fun E hE hH => ?_⟩; simp only [go_sem] at hE hH; simp only [go_sem, hE, hH, c_laws_FnFair]
    repeat' (first | ((with_reducible first | refine gd_t ?_ ?_ | refine gd_f ?_ ?_) <;> (intro h; have hb := h; (try simp only [nf] at h); simp (disch := omega) only [go_sem, hE, hH, hB, hb]; (try clear hb))) | ((with_reducible refine And.intro ?_ ?_); · omega) | ((first | refine ok_view ?_ | refine cvA (vBig_ok vc wc.1) ?_); simp (disch := omega) only [go_sem, hE, hH, hB]) | (refine jn _ ?_ ?_) | (with_reducible refine both ?_ ?_) | (with_reducible refine And.intro ?_ ?_) | (refine fin_eq ?_; (try (simp (disch := omega) only [go_sem, hE, hH, hB])); first | done | rfl) | (simp (disch := omega) only [go_sem, hE, hH, hB]) | ((first | apply noMLL_sE | apply pk_sE) <;> (simp only [go_sem, hE, hH, hB]; done)) | (simp only [go_sem, hE, hH, hB]) | fail)
    all_goals first | rfl | trace_state
end Go.Proofs.Wb

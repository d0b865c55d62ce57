import Derived.Test.YtalbfdhdbgcikaaGreatDoorFnFairD1
import Derived.Laws.Externs
set_option linter.unusedSimpArgs false
set_option linter.unusedVariables false
set_option linter.unusedSectionVars false
namespace Go.Proofs.Wb
open Go Go.Am
theorem goodNet_tick {n : Net} (h : goodNet n = true) : goodNet ⟨n.Now + 1, n.Homes, n.Far, n.Under⟩ = !decide (n.Now = 100000) := by
  rw [goodNet_u] at h ⊢
  simp only [Bool.and_eq_true, rng_iff] at h
  obtain ⟨⟨⟨h1, h2⟩, h3⟩, h4⟩ := h
  by_cases hc : n.Now = 100000
  · have : rng (n.Now + 1) 0 100000 = false := by
      cases hr : rng (n.Now + 1) 0 100000
      · rfl
      · have := rng_iff.1 hr; omega
    rw [this, decide_eq_true hc]; rfl
  · have : rng (n.Now + 1) 0 100000 = true := rng_iff.2 (by omega)
    simp only [this, h2, h3, h4, hc]; rfl
theorem sTickNet_ok (n : Net) (hm : n.Homes.length ≤ maxLen) : ACall Tryz.prog n_spec_TickNet [.agg (Net.row false n)] (fun r _ => r = .tup [.agg (Net.row true (tickN n).1), bl (tickN n).2]) := by
  have hmx := mx_eq
  have hi := l7Good_ok n hm
  cases h1 : goodNet n with
  | false =>
    rw [h1] at hi
    have e : tickN n = (zeroN, false) := by simp [tickN, h1]
    refine fn_in h_spec_TickNet r_spec_TickNet ⟨by simp only [go_sem], fun E hE hH => ?_⟩; simp only [go_sem] at hE hH; simp only [go_sem, hE, hH, c_spec_TickNet]
    repeat' (first | ((with_reducible first | refine gd_t ?_ ?_ | refine gd_f ?_ ?_) <;> (intro h; have hb := h; (try simp only [nf] at h); simp (disch := omega) only [go_sem, hE, hH, e, hb]; (try clear hb))) | ((with_reducible refine And.intro ?_ ?_); · omega) | ((first | refine ok_view ?_ | refine cvA (hi) ?_); simp (disch := omega) only [go_sem, hE, hH, e]) | (with_reducible apply jn) | (with_reducible apply both) | (with_reducible refine And.intro ?_ ?_) | ((with_reducible apply fin_eq); (try (simp (disch := omega) only [go_sem, hE, hH, e])); first | done | rfl) | (simp (disch := omega) only [go_sem, hE, hH, e]) | ((first | apply noMLL_sE | apply pk_sE) <;> (simp only [go_sem, hE, hH, e]; done)) | (simp only [go_sem, hE, hH, e]) | fail)
    all_goals first | rfl | trace_state
  | true =>
    rw [h1] at hi
    have gl := goodNet_len h1
    have h2 := h1
    simp only [goodNet, Bool.and_eq_true, rng_iff] at h2
    have e : tickN n = ifN ⟨n.Now + 1, n.Homes, n.Far, n.Under⟩ := by
      unfold ifN tickN
      rw [goodNet_tick h1, h1, Bool.true_and]
    rw [e]
    refine fn_in h_spec_TickNet r_spec_TickNet ⟨by simp only [go_sem], fun E hE hH => ?_⟩; simp only [go_sem] at hE hH; simp only [go_sem, hE, hH, c_spec_TickNet]
    repeat' (first | ((with_reducible first | refine gd_t ?_ ?_ | refine gd_f ?_ ?_) <;> (intro h; have hb := h; (try simp only [nf] at h); simp (disch := omega) only [go_sem, hE, hH, hb]; (try clear hb))) | ((with_reducible refine And.intro ?_ ?_); · omega) | (refine ok_lend [true] ?_; simp (disch := omega) only [go_sem, hE, hH]; refine cmA (l7If_ok ⟨n.Now + 1, n.Homes, n.Far, n.Under⟩ hm) ?_; simp (disch := omega) only [go_sem, hE, hH]) | ((first | refine ok_view ?_ | refine cvA (hi) ?_ | refine cvA (l7Own_ok n _ (by omega) (by omega)) ?_); simp (disch := omega) only [go_sem, hE, hH]) | (with_reducible apply jn) | (with_reducible apply both) | (with_reducible refine And.intro ?_ ?_) | ((with_reducible apply fin_eq); (try (simp (disch := omega) only [go_sem, hE, hH])); first | done | rfl) | (simp (disch := omega) only [go_sem, hE, hH]) | ((first | apply noMLL_sE | apply pk_sE) <;> (simp only [go_sem, hE, hH]; done)) | (simp only [go_sem, hE, hH]) | fail)
    all_goals first | omega | rfl | trace_state
set_option maxHeartbeats 4000000 in
theorem askVote_ok (hI : ItoaH) (p : Poll) (l : Letter) (t : Nat) (hg : Good p) (hl : LOk p.Net.Homes.length l) (t1 : 1 ≤ t) (t2 : t ≤ 200) : ACall Tryz.prog n_pimpl_Poll_askVote [.bx true (Poll.row true p), .agg (Letter.row false l), i64 t] (fun r q => r = .tup [] ∧ q = [.bx true (Poll.row true (askP p l t)), .agg (Letter.row false l), i64 t]) := by
  have hmx := mx_eq
  have hv := hg.v
  have hn5 := hg.n
  have b1 := hl.t
  have b2 := hl.f
  have hk : l.To.toNat < p.Voters.length := by omega
  have hs := fun r => getD_set_map (f := Voter.row true) (r := r) hk
  have hdl := dgt_len t
  have q9 : 10 ^ 18 = 1000000000000000000 := by decide
  have hsend := fun y : Voter => send_ok ⟨p.Voters.set l.To.toNat y, p.Net, p.Won⟩ l.To l.From ⟨⟨[121] ++ dgt t⟩⟩ hg.net
  have hss : ∀ (a b : List T), ((p.Voters.map (Voter.row true)).set l.To.toNat a).set l.To.toNat b = (p.Voters.map (Voter.row true)).set l.To.toNat b := fun a b => List.set_set ..
  simp only [Poll.row_eq, List.map_set, netP] at hsend
  have hx := (hg.vs _ hk).t
  by_cases hlt : (nth p.Voters l.To.toNat).Term < t
  · have e1 : askX (nth p.Voters l.To.toNat) t = ⟨true, t, -1, [], false⟩ := if_pos hlt
    have eP : askP p l t = ⟨p.Voters.set l.To.toNat ⟨true, t, l.From, [], false⟩, sendP p.Net l.To l.From (askB 121 t), p.Won⟩ := by
      unfold askP
      rw [e1, if_pos (by simp [askC])]; rfl
    rw [eP]
    refine fn_in h_pimpl_Poll_askVote r_pimpl_Poll_askVote ⟨by simp only [go_sem], fun E hE hH => ?_⟩; simp only [go_sem] at hE hH; simp only [go_sem, hE, hH, c_pimpl_Poll_askVote]
    repeat' (first | ((with_reducible first | refine gd_t ?_ ?_ | refine gd_f ?_ ?_) <;> (intro h; have hb := h; (try simp only [nf] at h); simp (disch := omega) only [go_sem, hE, hH, hs, hlt, hss, hb]; (try clear hb))) | ((with_reducible refine And.intro ?_ ?_); · omega) | (refine ok_lend [true, false, false, false] ?_; simp (disch := omega) only [go_sem, hE, hH, hs, hlt, hss]; refine cmA (hsend ⟨true, t, l.From, [], false⟩) ?_; simp (disch := omega) only [go_sem, hE, hH, hs, hlt, hss]) | ((first | refine ok_view ?_ | refine cvA (hI t (by omega)) ?_); simp (disch := omega) only [go_sem, hE, hH, hs, hlt, hss]) | (with_reducible apply jn) | (with_reducible apply both) | (with_reducible refine And.intro ?_ ?_) | ((with_reducible apply fin_eq); (try (simp (disch := omega) only [go_sem, hE, hH, hs, hlt, hss])); first | done | rfl) | (simp (disch := omega) only [go_sem, hE, hH, hs, hlt, hss]) | ((first | apply noMLL_sE | apply pk_sE) <;> (simp only [go_sem, hE, hH, hs, hlt, hss]; done)) | (simp only [go_sem, hE, hH, hs, hlt, hss]) | fail)
    all_goals first | omega | rfl | (rw [List.map_set]; rfl) | trace_state
  · have e1 : askX (nth p.Voters l.To.toNat) t = nth p.Voters l.To.toNat := if_neg hlt
    cases hc : askC (nth p.Voters l.To.toNat) t l.From with
    | true =>
      have eP : askP p l t = ⟨p.Voters.set l.To.toNat (forV (nth p.Voters l.To.toNat) l.From), sendP p.Net l.To l.From (askB 121 t), p.Won⟩ := by
        unfold askP
        rw [e1, if_pos hc]
      rw [eP]
      simp only [askC, Bool.and_eq_true, Bool.or_eq_true, decide_eq_true_eq] at hc
      refine fn_in h_pimpl_Poll_askVote r_pimpl_Poll_askVote ⟨by simp only [go_sem], fun E hE hH => ?_⟩; simp only [go_sem] at hE hH; simp only [go_sem, hE, hH, c_pimpl_Poll_askVote]
      repeat' (first | ((with_reducible first | refine gd_t ?_ ?_ | refine gd_f ?_ ?_) <;> (intro h; have hb := h; (try simp only [nf] at h); simp (disch := omega) only [go_sem, hE, hH, hs, hss, hb]; (try clear hb))) | ((with_reducible refine And.intro ?_ ?_); · omega) | (refine ok_lend [true, false, false, false] ?_; simp (disch := omega) only [go_sem, hE, hH, hs, hss]; refine cmA (hsend (forV (nth p.Voters l.To.toNat) l.From)) ?_; simp (disch := omega) only [go_sem, hE, hH, hs, hss]) | ((first | refine ok_view ?_ | refine cvA (hI t (by omega)) ?_); simp (disch := omega) only [go_sem, hE, hH, hs, hss]) | (with_reducible apply jn) | (with_reducible apply both) | (with_reducible refine And.intro ?_ ?_) | ((with_reducible apply fin_eq); (try (simp (disch := omega) only [go_sem, hE, hH, hs, hss])); first | done | rfl) | (simp (disch := omega) only [go_sem, hE, hH, hs, hss]) | ((first | apply noMLL_sE | apply pk_sE) <;> (simp only [go_sem, hE, hH, hs, hss]; done)) | (simp only [go_sem, hE, hH, hs, hss]) | fail)
      all_goals first | omega | rfl | (rw [List.map_set]; rfl) | (exfalso; omega) | trace_state
    | false =>
      have eP : askP p l t = p := by
        unfold askP
        rw [e1, if_neg (by simp [hc]), nth_lt hk, List.set_getElem_self]
      rw [eP]
      simp only [askC, Bool.and_eq_false_iff, Bool.or_eq_false_iff, decide_eq_false_iff_not] at hc
      refine fn_in h_pimpl_Poll_askVote r_pimpl_Poll_askVote ⟨by simp only [go_sem], fun E hE hH => ?_⟩; simp only [go_sem] at hE hH; simp only [go_sem, hE, hH, c_pimpl_Poll_askVote]
      repeat' (first | ((with_reducible first | refine gd_t ?_ ?_ | refine gd_f ?_ ?_) <;> (intro h; have hb := h; (try simp only [nf] at h); simp (disch := omega) only [go_sem, hE, hH, hs, hss, hb]; (try clear hb))) | ((with_reducible refine And.intro ?_ ?_); · omega) | (with_reducible apply jn) | (with_reducible apply both) | (with_reducible refine And.intro ?_ ?_) | ((with_reducible apply fin_eq); (try (simp (disch := omega) only [go_sem, hE, hH, hs, hss])); first | done | rfl) | (simp (disch := omega) only [go_sem, hE, hH, hs, hss]) | ((first | apply noMLL_sE | apply pk_sE) <;> (simp only [go_sem, hE, hH, hs, hss]; done)) | (simp only [go_sem, hE, hH, hs, hss]) | fail)
      all_goals first | omega | rfl | (rw [List.map_set]; rfl) | (exfalso; omega) | trace_state
theorem isNaNK_ok (x : Int) : ACall Tryz.prog n_cmp_isNaN_int_ [i64 x] (fun r _ => r = bl false) := by
  refine fn_in h_cmp_isNaN_int_ r_cmp_isNaN_int_ ⟨by simp only [go_sem], fun E hE hH => ?_⟩; simp only [go_sem] at hE hH; simp only [go_sem, hE, hH, c_cmp_isNaN_int_]
  try simp (disch := omega) only [go_sem, hE, hH]
theorem Less_int_ok (a b : Int) : ACall Tryz.prog n_cmp_Less_int_ [i64 a, i64 b] (fun r _ => r = bl (decide (a < b))) := by
  refine fn_in h_cmp_Less_int_ r_cmp_Less_int_ ⟨by simp only [go_sem], fun E hE hH => ?_⟩; simp only [go_sem] at hE hH; simp only [go_sem, hE, hH, c_cmp_Less_int_]
  repeat' (first | ((with_reducible first | refine gd_t ?_ ?_ | refine gd_f ?_ ?_) <;> (intro h; have hb := h; (try simp only [nf] at h); simp (disch := omega) only [go_sem, hE, hH, hb]; (try clear hb))) | ((with_reducible refine And.intro ?_ ?_); · omega) | ((first | refine ok_view ?_ | refine cvA (isNaNK_ok _) ?_); simp (disch := omega) only [go_sem, hE, hH]) | (refine jn _ ?_ ?_) | (with_reducible refine both ?_ ?_) | (with_reducible refine And.intro ?_ ?_) | (refine fin_eq ?_; (try (simp (disch := omega) only [go_sem, hE, hH])); first | done | rfl) | (simp (disch := omega) only [go_sem, hE, hH]) | ((first | apply noMLL_sE | apply pk_sE) <;> (simp only [go_sem, hE, hH]; done)) | (simp only [go_sem, hE, hH]) | fail)
  all_goals first | rfl | trace_state
theorem sisNaN_ok (x : Int) : ACall Tryz.prog n_slices_isNaN_int_ [i64 x] (fun r _ => r = bl false) := by
  refine fn_in h_slices_isNaN_int_ r_slices_isNaN_int_ ⟨by simp only [go_sem], fun E hE hH => ?_⟩; simp only [go_sem] at hE hH; simp only [go_sem, hE, hH, c_slices_isNaN_int_]
  try simp (disch := omega) only [go_sem, hE, hH]
theorem iK_at {l : List Int} {x : Int} (hs : srtK l) {k : Nat} (hk : k ≤ l.length) (h1 : ∀ i, i < k → nth l i < x) (h2 : ∀ i, k ≤ i → i < l.length → x ≤ nth l i) : iK l x = k := by
  have lo : ∀ i, i < l.length → (i < iK l x ↔ nth l i < x) := fun i hi => by
    have := fxI_lo (k := x) ordK hs hi
    simpa only [ltI, decide_eq_true_eq] using this
  have hle : iK l x ≤ l.length := fxI_le
  rcases Nat.lt_trichotomy (iK l x) k with h | h | h
  · have := (lo (iK l x) (by omega)).2 (h1 _ h); omega
  · exact h
  · have := (lo k (by omega)).1 h
    have := h2 k (Nat.le_refl _) (by omega)
    omega
theorem fK_at {l : List Int} {x : Int} (hs : srtK l) {k : Nat} (hk : k < l.length) (h : nth l k = x) : fK l x = true := fxF_iff.2 ⟨k, hk, h⟩
theorem fK_not {l : List Int} {x : Int} (hs : srtK l) {k : Nat} (hi : iK l x = k) (h : k < l.length → nth l k ≠ x) : fK l x = false := by
  cases hf : fK l x with
  | false => rfl
  | true =>
    obtain ⟨a, b⟩ := fxF_here ordK hs hf
    rw [show fxI ltI (fun x : Int => x) l x = k from hi] at a b
    exact absurd b (h a)
set_option maxHeartbeats 1000000 in
theorem BinarySearch_Int_ok (l : List Int) (key : Int) (hl : l.length ≤ 2 ^ 60) (hs : srtK l) : ACall Tryz.prog n_slices_BinarySearch___int_int_ [.sl false 1 (ints l), i64 key] (fun r _ => r = .tup [i64 (iK l key), bl (fK l key)]) := by
  have hmx := mx_eq
  have mono : ∀ i j, i < j → j < l.length → nth l i < nth l j := fun i j a b => by
    have := hs i j a b
    simpa only [ltI, decide_eq_true_eq] using this
  refine fn_in h_slices_BinarySearch___int_int_ r_slices_BinarySearch___int_int_ ⟨by simp only [go_sem], fun E hE hH => ?_⟩; simp only [go_sem] at hE hH; simp only [go_sem, hE, hH, c_slices_BinarySearch___int_int_]
  refine loopM (fun (x : Nat × Nat) => ⟨[(0, .sl false 1 (ints l)), (1, i64 key), (6, i64 l.length), (7, i64 x.1), (8, i64 x.2)], []⟩) (fun x => x.1 ≤ x.2 ∧ x.2 ≤ l.length ∧ (∀ i, i < x.1 → nth l i < key) ∧ ∀ i, x.2 ≤ i → i < l.length → key ≤ nth l i) (fun x => x.2 - x.1) (0, l.length) ⟨by simp, by simp, by simp, by simp; omega⟩ ?_
  rintro ⟨lo, hi⟩ ⟨i1, i2, i3, i4⟩
  simp only at i1 i2 i3 i4
  try simp only [go_sem, hE, hH, c_slices_BinarySearch___int_int__l1]
  first | refine gd_t (fun h => ?_) (fun h => ?_) | refine gd_f (fun h => ?_) (fun h => ?_)
  · have hb := h
    simp only [nf] at h
    have hlt := h; clear h
    have e1 : IntKind.u64.wrap (lo + hi) = lo + hi := wrapU (by omega) (by omega)
    have e2 : Int.fdiv ((lo : Int) + hi) 2 = (((lo + hi) / 2 : Nat) : Int) := by rw [Int.fdiv_eq_ediv_of_nonneg _ (by omega)]; omega
    have hM : (lo + hi) / 2 < l.length := by omega
    try simp (disch := omega) only [go_sem, hE, hH, hb, e1, shr1, e2]
    repeat refine And.intro (by omega) ?_
    repeat' (first | ((with_reducible first | refine gd_t ?_ ?_ | refine gd_f ?_ ?_) <;> (intro h; have hb := h; (try simp only [nf] at h); simp (disch := omega) only [go_sem, hE, hH, hb]; (try clear hb))) | ((with_reducible refine And.intro ?_ ?_); · omega) | ((first | refine ok_view ?_ | refine cvA (Less_int_ok _ _) ?_); simp (disch := omega) only [go_sem, hE, hH]) | (refine jn _ ?_ ?_) | (with_reducible refine both ?_ ?_) | (with_reducible refine And.intro ?_ ?_) | (refine fin_eq ?_; (try (simp (disch := omega) only [go_sem, hE, hH])); first | done | rfl) | (simp (disch := omega) only [go_sem, hE, hH]) | ((first | apply noMLL_sE | apply pk_sE) <;> (simp only [go_sem, hE, hH]; done)) | (simp only [go_sem, hE, hH]) | fail)
    all_goals try omega
    · refine ⟨((lo + hi) / 2 + 1, hi), rfl, ⟨by simp only; omega, i2, fun i hi' => ?_, i4⟩, by simp only; omega⟩
      simp only at hi'
      by_cases e : i = (lo + hi) / 2
      · rw [e]; exact h
      · have := mono i ((lo + hi) / 2) (by omega) hM
        omega
    · refine ⟨(lo, (lo + hi) / 2), rfl, ⟨by simp only; omega, by simp only; omega, i3, fun i h1 h2 => ?_⟩, by simp only; omega⟩
      simp only at h1
      by_cases e : i = (lo + hi) / 2
      · rw [e]; exact h
      · have := mono ((lo + hi) / 2) i (by omega) h2
        omega
  · have hb := h
    simp only [nf] at h
    have e0 : hi = lo := by omega
    subst e0
    have e3 : iK l key = hi := iK_at hs i2 i3 i4
    by_cases hq : hi < l.length
    · by_cases hk : nth l hi = key
      · have e4 := fK_at hs hq hk
        rw [e3, e4]
        try simp (disch := omega) only [go_sem, hE, hH, hb]
        repeat' (first | ((with_reducible first | refine gd_t ?_ ?_ | refine gd_f ?_ ?_) <;> (intro h; have hb := h; (try simp only [nf] at h); simp (disch := omega) only [go_sem, hE, hH, hb]; (try clear hb))) | ((with_reducible refine And.intro ?_ ?_); · omega) | ((first | refine ok_view ?_ | refine cvA (sisNaN_ok _) ?_); simp (disch := omega) only [go_sem, hE, hH]) | (refine jn _ ?_ ?_) | (with_reducible refine both ?_ ?_) | (with_reducible refine And.intro ?_ ?_) | (refine fin_eq ?_; (try (simp (disch := omega) only [go_sem, hE, hH])); first | done | rfl) | (simp (disch := omega) only [go_sem, hE, hH]) | ((first | apply noMLL_sE | apply pk_sE) <;> (simp only [go_sem, hE, hH]; done)) | (simp only [go_sem, hE, hH]) | fail)
        all_goals first | omega | rfl | (exfalso; omega) | trace_state
      · have e4 := fK_not hs e3 (fun _ => hk)
        rw [e3, e4]
        try simp (disch := omega) only [go_sem, hE, hH, hb]
        repeat' (first | ((with_reducible first | refine gd_t ?_ ?_ | refine gd_f ?_ ?_) <;> (intro h; have hb := h; (try simp only [nf] at h); simp (disch := omega) only [go_sem, hE, hH, hb]; (try clear hb))) | ((with_reducible refine And.intro ?_ ?_); · omega) | ((first | refine ok_view ?_ | refine cvA (sisNaN_ok _) ?_); simp (disch := omega) only [go_sem, hE, hH]) | (refine jn _ ?_ ?_) | (with_reducible refine both ?_ ?_) | (with_reducible refine And.intro ?_ ?_) | (refine fin_eq ?_; (try (simp (disch := omega) only [go_sem, hE, hH])); first | done | rfl) | (simp (disch := omega) only [go_sem, hE, hH]) | ((first | apply noMLL_sE | apply pk_sE) <;> (simp only [go_sem, hE, hH]; done)) | (simp only [go_sem, hE, hH]) | fail)
        all_goals first | omega | rfl | (exfalso; omega) | trace_state
    · have e4 := fK_not hs e3 (fun h => absurd h hq)
      rw [e3, e4]
      try simp (disch := omega) only [go_sem, hE, hH, hb]
      repeat' (first | ((with_reducible first | refine gd_t ?_ ?_ | refine gd_f ?_ ?_) <;> (intro h; have hb := h; (try simp only [nf] at h); simp (disch := omega) only [go_sem, hE, hH, hb]; (try clear hb))) | ((with_reducible refine And.intro ?_ ?_); · omega) | ((first | refine ok_view ?_ | refine cvA (sisNaN_ok _) ?_); simp (disch := omega) only [go_sem, hE, hH]) | (refine jn _ ?_ ?_) | (with_reducible refine both ?_ ?_) | (with_reducible refine And.intro ?_ ?_) | (refine fin_eq ?_; (try (simp (disch := omega) only [go_sem, hE, hH])); first | done | rfl) | (simp (disch := omega) only [go_sem, hE, hH]) | ((first | apply noMLL_sE | apply pk_sE) <;> (simp only [go_sem, hE, hH]; done)) | (simp only [go_sem, hE, hH]) | fail)
      all_goals first | omega | rfl | (exfalso; omega) | trace_state
theorem insK_ok (l : List Int) (x : Int) (hl : l.length ≤ 2 ^ 20) (hf : fK l x = false) : ACall Tryz.prog n_slices_Insert___int_int_ [.sl true 1 (ints l), i64 (iK l x), .sl false 1 [[i64 x]]] (fun r a => r = .sl true 1 (ints (yesPut l x)) ∧ a = [.any, i64 (iK l x), .sl false 1 [[i64 x]]]) := by
  have hi : iK l x ≤ l.length := fxI_le
  have q := Insert_Int_ok l [x] (iK l x) (by omega) (by omega) hl (by simp)
  rwa [show l.take ((iK l x : Nat) : Int).toNat ++ [x] ++ l.drop ((iK l x : Nat) : Int).toNat = yesPut l x by unfold yesPut putAt; rw [if_neg (by simp [hf])]; simp] at q
theorem set_sameK {α : Type} [Inhabited α] {f : α → List T} {l : List α} {k : Nat} (h : k < l.length) : (l.map f).set k (f (nth l k)) = l.map f := by
  rw [← List.map_set, nth_lt h, List.set_getElem_self]
theorem lt_setK {d : Nat} {rows : List (List T)} {i : Nat} {r : List T} (h1 : ltLL d rows) (h2 : ltL d r) : ltLL d (rows.set i r) := fun x hx => (List.mem_or_eq_of_mem_set hx).elim (h1 x) fun e => e ▸ h2
set_option maxHeartbeats 8000000 in
theorem countVote_ok (p : Poll) (l : Letter) (t : Nat) (hg : Good p) (hl : LOk p.Net.Homes.length l) : ACall Tryz.prog n_pimpl_Poll_countVote [.bx true (Poll.row true p), .agg (Letter.row false l), i64 t] (fun r q => r = .tup [] ∧ q = [.bx true (Poll.row true (cntP p l t)), .agg (Letter.row false l), i64 t]) := by
  have hmx := mx_eq
  have hv := hg.v
  have hn5 := hg.n
  have hw := hg.w
  have b1 := hl.t
  have b2 := hl.f
  have hk : l.To.toNat < p.Voters.length := by omega
  have hx := hg.vs _ hk
  have hyl := vok_len hx
  have hys := hx.y.2
  have hs := fun r => getD_set_map (f := Voter.row true) (r := r) hk
  have hss : ∀ (a b : List T), ((p.Voters.map (Voter.row true)).set l.To.toNat a).set l.To.toNat b = (p.Voters.map (Voter.row true)).set l.To.toNat b := fun a b => List.set_set ..
  have hsame : (p.Voters.map (Voter.row true)).set l.To.toNat (Voter.row true (nth p.Voters l.To.toNat)) = p.Voters.map (Voter.row true) := set_sameK hk
  cases hc : cntC (nth p.Voters l.To.toNat) l t with
  | false =>
    have eP : cntP p l t = p := by unfold cntP; rw [if_neg (by simp [hc])]
    rw [eP]
    simp only [cntC, Bool.and_eq_false_iff, decide_eq_false_iff_not] at hc
    refine fn_in h_pimpl_Poll_countVote r_pimpl_Poll_countVote ⟨by simp only [go_sem], fun E hE hH => ?_⟩; simp only [go_sem] at hE hH; simp only [go_sem, hE, hH, c_pimpl_Poll_countVote]
    repeat' (first | ((with_reducible first | refine gd_t ?_ ?_ | refine gd_f ?_ ?_) <;> (intro h; have hb := h; (try simp only [nf] at h); simp (disch := omega) only [go_sem, hE, hH, hs, hss, hb]; (try clear hb))) | ((with_reducible refine And.intro ?_ ?_); · omega) | (with_reducible apply jn) | (with_reducible apply both) | (with_reducible refine And.intro ?_ ?_) | ((with_reducible apply fin_eq); (try (simp (disch := omega) only [go_sem, hE, hH, hs, hss])); first | done | rfl) | (simp (disch := omega) only [go_sem, hE, hH, hs, hss]) | ((first | apply noMLL_sE | apply pk_sE) <;> (simp only [go_sem, hE, hH, hs, hss]; done)) | (simp only [go_sem, hE, hH, hs, hss]) | fail)
    all_goals first | omega | rfl | (exfalso; omega) | (refine lt_setK ?_ ?_ <;> simp only [go_sem] <;> omega) | (refine lt_setK ?_ ?_ <;> simp only [go_sem]; done) | (exfalso; rcases hW with hW | hW <;> first | omega | exact absurd (hW.symm.trans (by assumption : (nth p.Voters l.To.toNat).Leads = false)) (by decide)) | trace_state
  | true =>
    have hyp := yesPut_len (l := (nth p.Voters l.To.toNat).Yes) (x := l.From)
    cases hf : fK (nth p.Voters l.To.toNat).Yes l.From with
    | true =>
      have eY : yesPut (nth p.Voters l.To.toNat).Yes l.From = (nth p.Voters l.To.toNat).Yes := by unfold yesPut; rw [if_pos hf]
      cases hW : winC p (nth p.Voters l.To.toNat) (yesPut (nth p.Voters l.To.toNat).Yes l.From) with
      | false =>
        have eP : cntP p l t = ⟨p.Voters.set l.To.toNat (yesV (nth p.Voters l.To.toNat) (yesPut (nth p.Voters l.To.toNat).Yes l.From) (nth p.Voters l.To.toNat).Leads), p.Net, p.Won⟩ := by unfold cntP; rw [if_pos hc, if_neg (by simp [hW])]
        rw [eP]
        rw [eY] at hW
        rw [eY]
        simp only [cntC, Bool.and_eq_true, decide_eq_true_eq] at hc
        simp only [winC, Bool.and_eq_false_iff, decide_eq_false_iff_not, Bool.not_eq_false'] at hW
        refine fn_in h_pimpl_Poll_countVote r_pimpl_Poll_countVote ⟨by simp only [go_sem], fun E hE hH => ?_⟩; simp only [go_sem] at hE hH; simp only [go_sem, hE, hH, c_pimpl_Poll_countVote]
        repeat' (first | ((with_reducible first | refine gd_t ?_ ?_ | refine gd_f ?_ ?_) <;> (intro h; have hb := h; (try simp only [nf] at h); simp (disch := omega) only [go_sem, hE, hH, hs, hss, hf, hb]; (try clear hb))) | ((with_reducible refine And.intro ?_ ?_); · omega) | ((first | refine ok_view ?_ | refine cvA (BinarySearch_Int_ok _ l.From (by omega) hys) ?_); simp (disch := omega) only [go_sem, hE, hH, hs, hss, hf]) | (with_reducible apply jn) | (with_reducible apply both) | (with_reducible refine And.intro ?_ ?_) | ((with_reducible apply fin_eq); (try (simp (disch := omega) only [go_sem, hE, hH, hs, hss, hf])); first | done | rfl) | (simp (disch := omega) only [go_sem, hE, hH, hs, hss, hf]) | ((first | apply noMLL_sE | apply pk_sE) <;> (simp only [go_sem, hE, hH, hs, hss, hf]; done)) | (simp only [go_sem, hE, hH, hs, hss, hf]) | fail)
        all_goals first | omega | rfl | (rw [List.map_set]; rfl) | (exfalso; omega) | (refine lt_setK ?_ ?_ <;> simp only [go_sem] <;> omega) | (refine lt_setK ?_ ?_ <;> simp only [go_sem]; done) | (exfalso; rcases hW with hW | hW <;> first | omega | exact absurd (hW.symm.trans (by assumption : (nth p.Voters l.To.toNat).Leads = false)) (by decide)) | trace_state
      | true =>
        have eP : cntP p l t = ⟨p.Voters.set l.To.toNat (yesV (nth p.Voters l.To.toNat) (yesPut (nth p.Voters l.To.toNat).Yes l.From) true), p.Net, wonP p l t⟩ := by unfold cntP; rw [if_pos hc, if_pos hW]
        rw [eP]
        rw [eY] at hW
        rw [eY]
        simp only [cntC, Bool.and_eq_true, decide_eq_true_eq] at hc
        simp only [winC, Bool.and_eq_true, decide_eq_true_eq, Bool.not_eq_true'] at hW
        refine fn_in h_pimpl_Poll_countVote r_pimpl_Poll_countVote ⟨by simp only [go_sem], fun E hE hH => ?_⟩; simp only [go_sem] at hE hH; simp only [go_sem, hE, hH, c_pimpl_Poll_countVote]
        repeat' (first | ((with_reducible first | refine gd_t ?_ ?_ | refine gd_f ?_ ?_) <;> (intro h; have hb := h; (try simp only [nf] at h); simp (disch := omega) only [go_sem, hE, hH, hs, hss, hf, hb]; (try clear hb))) | ((with_reducible refine And.intro ?_ ?_); · omega) | ((first | refine ok_view ?_ | refine cvA (BinarySearch_Int_ok _ l.From (by omega) hys) ?_); simp (disch := omega) only [go_sem, hE, hH, hs, hss, hf]) | (with_reducible apply jn) | (with_reducible apply both) | (with_reducible refine And.intro ?_ ?_) | ((with_reducible apply fin_eq); (try (simp (disch := omega) only [go_sem, hE, hH, hs, hss, hf])); first | done | rfl) | (simp (disch := omega) only [go_sem, hE, hH, hs, hss, hf]) | ((first | apply noMLL_sE | apply pk_sE) <;> (simp only [go_sem, hE, hH, hs, hss, hf]; done)) | (simp only [go_sem, hE, hH, hs, hss, hf]) | fail)
        all_goals first | omega | rfl | (rw [List.map_set]; rfl) | (exfalso; omega) | (refine lt_setK ?_ ?_ <;> simp only [go_sem] <;> omega) | (refine lt_setK ?_ ?_ <;> simp only [go_sem]; done) | (rw [wonP, if_pos (by omega), List.map_set, List.map_append]; rfl) | (rw [wonP, if_neg (by omega), List.map_set]; rfl) | exact absurd ((by assumption : (nth p.Voters l.To.toNat).Leads = true).symm.trans hW.2) (by decide) | trace_state
    | false =>
      cases hW : winC p (nth p.Voters l.To.toNat) (yesPut (nth p.Voters l.To.toNat).Yes l.From) with
      | false =>
        have eP : cntP p l t = ⟨p.Voters.set l.To.toNat (yesV (nth p.Voters l.To.toNat) (yesPut (nth p.Voters l.To.toNat).Yes l.From) (nth p.Voters l.To.toNat).Leads), p.Net, p.Won⟩ := by unfold cntP; rw [if_pos hc, if_neg (by simp [hW])]
        rw [eP]
        simp only [cntC, Bool.and_eq_true, decide_eq_true_eq] at hc
        simp only [winC, Bool.and_eq_false_iff, decide_eq_false_iff_not, Bool.not_eq_false'] at hW
        refine fn_in h_pimpl_Poll_countVote r_pimpl_Poll_countVote ⟨by simp only [go_sem], fun E hE hH => ?_⟩; simp only [go_sem] at hE hH; simp only [go_sem, hE, hH, c_pimpl_Poll_countVote]
        repeat' (first | ((with_reducible first | refine gd_t ?_ ?_ | refine gd_f ?_ ?_) <;> (intro h; have hb := h; (try simp only [nf] at h); simp (disch := omega) only [go_sem, hE, hH, hs, hss, hf, hb]; (try clear hb))) | ((with_reducible refine And.intro ?_ ?_); · omega) | (refine ok_lend [true, false, false] ?_; simp (disch := omega) only [go_sem, hE, hH, hs, hss, hf]; refine cmA (insK_ok _ l.From (by omega) hf) ?_; simp (disch := omega) only [go_sem, hE, hH, hs, hss, hf]) | ((first | refine ok_view ?_ | refine cvA (BinarySearch_Int_ok _ l.From (by omega) hys) ?_); simp (disch := omega) only [go_sem, hE, hH, hs, hss, hf]) | (with_reducible apply jn) | (with_reducible apply both) | (with_reducible refine And.intro ?_ ?_) | ((with_reducible apply fin_eq); (try (simp (disch := omega) only [go_sem, hE, hH, hs, hss, hf])); first | done | rfl) | (simp (disch := omega) only [go_sem, hE, hH, hs, hss, hf]) | ((first | apply noMLL_sE | apply pk_sE) <;> (simp only [go_sem, hE, hH, hs, hss, hf]; done)) | (simp only [go_sem, hE, hH, hs, hss, hf]) | fail)
        all_goals first | omega | rfl | (rw [List.map_set]; rfl) | (exfalso; omega) | (refine lt_setK ?_ ?_ <;> simp only [go_sem] <;> omega) | (refine lt_setK ?_ ?_ <;> simp only [go_sem]; done) | (exfalso; rcases hW with hW | hW <;> first | omega | exact absurd (hW.symm.trans (by assumption : (nth p.Voters l.To.toNat).Leads = false)) (by decide)) | trace_state
      | true =>
        have eP : cntP p l t = ⟨p.Voters.set l.To.toNat (yesV (nth p.Voters l.To.toNat) (yesPut (nth p.Voters l.To.toNat).Yes l.From) true), p.Net, wonP p l t⟩ := by unfold cntP; rw [if_pos hc, if_pos hW]
        rw [eP]
        simp only [cntC, Bool.and_eq_true, decide_eq_true_eq] at hc
        simp only [winC, Bool.and_eq_true, decide_eq_true_eq, Bool.not_eq_true'] at hW
        refine fn_in h_pimpl_Poll_countVote r_pimpl_Poll_countVote ⟨by simp only [go_sem], fun E hE hH => ?_⟩; simp only [go_sem] at hE hH; simp only [go_sem, hE, hH, c_pimpl_Poll_countVote]
        repeat' (first | ((with_reducible first | refine gd_t ?_ ?_ | refine gd_f ?_ ?_) <;> (intro h; have hb := h; (try simp only [nf] at h); simp (disch := omega) only [go_sem, hE, hH, hs, hss, hf, hb]; (try clear hb))) | ((with_reducible refine And.intro ?_ ?_); · omega) | (refine ok_lend [true, false, false] ?_; simp (disch := omega) only [go_sem, hE, hH, hs, hss, hf]; refine cmA (insK_ok _ l.From (by omega) hf) ?_; simp (disch := omega) only [go_sem, hE, hH, hs, hss, hf]) | ((first | refine ok_view ?_ | refine cvA (BinarySearch_Int_ok _ l.From (by omega) hys) ?_); simp (disch := omega) only [go_sem, hE, hH, hs, hss, hf]) | (with_reducible apply jn) | (with_reducible apply both) | (with_reducible refine And.intro ?_ ?_) | ((with_reducible apply fin_eq); (try (simp (disch := omega) only [go_sem, hE, hH, hs, hss, hf])); first | done | rfl) | (simp (disch := omega) only [go_sem, hE, hH, hs, hss, hf]) | ((first | apply noMLL_sE | apply pk_sE) <;> (simp only [go_sem, hE, hH, hs, hss, hf]; done)) | (simp only [go_sem, hE, hH, hs, hss, hf]) | fail)
        all_goals first | omega | rfl | (rw [List.map_set]; rfl) | (exfalso; omega) | (refine lt_setK ?_ ?_ <;> simp only [go_sem] <;> omega) | (refine lt_setK ?_ ?_ <;> simp only [go_sem]; done) | (rw [wonP, if_pos (by omega), List.map_set, List.map_append]; rfl) | (rw [wonP, if_neg (by omega), List.map_set]; rfl) | exact absurd ((by assumption : (nth p.Voters l.To.toNat).Leads = true).symm.trans hW.2) (by decide) | trace_state
theorem l1Put_ok (l : List Int) (n : Int) (hl : l.length ≤ 2 ^ 20) (hs : srtK l) : ACall Tryz.prog n_spec_l1Put [.sl true 1 (ints l), i64 n] (fun r a => r = .sl true 1 (ints (yesPut l n)) ∧ a = [.any, i64 n]) := by
  have hmx := mx_eq
  have mono : ∀ i j, i < j → j < l.length → nth l i < nth l j := fun i j a b => by
    have := hs i j a b
    simpa only [ltI, decide_eq_true_eq] using this
  refine fn_inD [true, false] h_spec_l1Put r_spec_l1Put ⟨by simp only [go_sem], fun E hE hH => ?_⟩; simp only [go_sem] at hE hH; simp only [go_sem, hE, hH, c_spec_l1Put]
  refine loopM (fun (k : Nat) => ⟨[(0, .ref 0 0 l.length), (1, i64 n), (5, i64 k)], [(0, ⟨1, ints l⟩)]⟩) (fun k => k ≤ l.length ∧ ∀ i, i < k → nth l i < n) (fun k => l.length - k) 0 ⟨Nat.zero_le _, fun i h => absurd h (by omega)⟩ ?_
  rintro k ⟨hk, hK⟩
  by_cases hgo : k < l.length ∧ nth l k < n
  · obtain ⟨g1, g2⟩ := hgo
    try simp only [go_sem, hE, hH, c_spec_l1Put_l1]
    repeat' (first | ((with_reducible first | refine gd_t ?_ ?_ | refine gd_f ?_ ?_) <;> (intro h; have hb := h; (try simp only [nf] at h); simp (disch := omega) only [go_sem, hE, hH, hb]; (try clear hb))) | ((with_reducible refine And.intro ?_ ?_); · omega) | (with_reducible apply jn) | (with_reducible apply both) | (with_reducible refine And.intro ?_ ?_) | ((with_reducible apply fin_eq); (try (simp (disch := omega) only [go_sem, hE, hH])); first | done | rfl) | (simp (disch := omega) only [go_sem, hE, hH]) | ((first | apply noMLL_sE | apply pk_sE) <;> (simp only [go_sem, hE, hH]; done)) | (simp only [go_sem, hE, hH]) | fail)
    all_goals first | omega | (refine ⟨k + 1, rfl, ⟨by omega, fun i hi => ?_⟩, by omega⟩; by_cases e : i = k; (rw [e]; exact g2); exact hK i (by omega)) | trace_state
  · have h2 : ∀ i, k ≤ i → i < l.length → n ≤ nth l i := fun i a b => by
      by_cases e : i = k
      · subst e; omega
      · have := mono k i (by omega) b
        omega
    have e3 : iK l n = k := iK_at hs hk hK h2
    by_cases hf : k < l.length ∧ nth l k = n
    · have eY : yesPut l n = l := by unfold yesPut; rw [if_pos (fK_at hs hf.1 hf.2)]
      obtain ⟨g1, g2⟩ := hf
      rw [eY]
      try simp only [go_sem, hE, hH, c_spec_l1Put_l1]
      repeat' (first | ((with_reducible first | refine gd_t ?_ ?_ | refine gd_f ?_ ?_) <;> (intro h; have hb := h; (try simp only [nf] at h); simp (disch := omega) only [go_sem, hE, hH, hb]; (try clear hb))) | ((with_reducible refine And.intro ?_ ?_); · omega) | (with_reducible apply jn) | (with_reducible apply both) | (with_reducible refine And.intro ?_ ?_) | ((with_reducible apply fin_eq); (try (simp (disch := omega) only [go_sem, hE, hH])); first | done | rfl) | (simp (disch := omega) only [go_sem, hE, hH]) | ((first | apply noMLL_sE | apply pk_sE) <;> (simp only [go_sem, hE, hH]; done)) | (simp only [go_sem, hE, hH]) | fail)
      all_goals first | omega | rfl | (exfalso; omega) | trace_state
    · have eY : yesPut l n = l.take k ++ n :: l.drop k := by
        unfold yesPut putAt
        rw [if_neg (by simp [fK_not hs e3 (fun h e => hf ⟨h, e⟩)]), e3]
      rw [eY]
      have d1 : (l.drop k).take (l.length - k) = l.drop k := List.take_of_length_le (by simp)
      have lt1 : (l.take k).length = k := by rw [List.length_take]; omega
      have d2 : (l.take k).take k = l.take k := by rw [List.take_take, Nat.min_self]
      have hdx : (l.drop k).length = l.length - k := by simp
      have d3 : ∀ q : List T, ((l.take k).map (fun x : Int => [i64 x]) ++ [q]).take (k + 1) = (l.take k).map (fun x : Int => [i64 x]) ++ [q] := fun q => List.take_of_length_le (by simp; omega)
      try simp only [go_sem, hE, hH, c_spec_l1Put_l1]
      repeat' (first | ((with_reducible first | refine gd_t ?_ ?_ | refine gd_f ?_ ?_) <;> (intro h; have hb := h; (try simp only [nf] at h); simp (disch := omega) only [go_sem, hE, hH, d1, d2, lt1, hdx, d3, hb]; (try clear hb))) | ((with_reducible refine And.intro ?_ ?_); · omega) | (with_reducible apply jn) | (with_reducible apply both) | (with_reducible refine And.intro ?_ ?_) | ((with_reducible apply fin_eq); (try (simp (disch := omega) only [go_sem, hE, hH, d1, d2, lt1, hdx, d3])); first | done | rfl) | (simp (disch := omega) only [go_sem, hE, hH, d1, d2, lt1, hdx, d3]) | ((first | apply noMLL_sE | apply pk_sE) <;> (simp only [go_sem, hE, hH, d1, d2, lt1, hdx, d3]; done)) | (simp only [go_sem, hE, hH, d1, d2, lt1, hdx, d3]) | fail)
      all_goals first | omega | rfl | (exfalso; omega) | (simp [ints]; done) | trace_state
set_option maxHeartbeats 8000000 in
theorem l8Ask_ok (p : Poll) (l : Letter) (t : Nat) (hg : Good p) (hl : LOk p.Net.Homes.length l) (t1 : 1 ≤ t) (t2 : t ≤ 200) : ACall Tryz.prog n_spec_l8Ask [.agg (Poll.row true p), .agg (Letter.row false l), i64 t] (fun r q => r = .agg (Poll.row true (askP p l t)) ∧ q = [.any, .agg (Letter.row false l), i64 t]) := by
  have hmx := mx_eq
  have hv := hg.v
  have hn5 := hg.n
  have b1 := hl.t
  have b2 := hl.f
  have hmn : p.Net.Homes.length ≤ maxLen := by omega
  have hk : l.To.toNat < p.Voters.length := by omega
  have hs := fun r => getD_set_map (f := Voter.row true) (r := r) hk
  have hss : ∀ (a b : List T), ((p.Voters.map (Voter.row true)).set l.To.toNat a).set l.To.toNat b = (p.Voters.map (Voter.row true)).set l.To.toNat b := fun a b => List.set_set ..
  have hdl := dgt_len t
  have q9 : 10 ^ 18 = 1000000000000000000 := by decide
  have hx := (hg.vs _ hk).t
  by_cases hlt : (nth p.Voters l.To.toNat).Term < t
  · have e1 : askX (nth p.Voters l.To.toNat) t = ⟨true, t, -1, [], false⟩ := if_pos hlt
    have eP : askP p l t = ⟨p.Voters.set l.To.toNat ⟨true, t, l.From, [], false⟩, sendP p.Net l.To l.From (askB 121 t), p.Won⟩ := by
      unfold askP
      rw [e1, if_pos (by simp [askC])]; rfl
    rw [eP]
    refine fn_inD [true, false, false] h_spec_l8Ask r_spec_l8Ask ⟨by simp only [go_sem], fun E hE hH => ?_⟩; simp only [go_sem] at hE hH; simp only [go_sem, hE, hH, c_spec_l8Ask]
    repeat' (first | ((with_reducible first | refine gd_t ?_ ?_ | refine gd_f ?_ ?_) <;> (intro h; have hb := h; (try simp only [nf] at h); simp (disch := omega) only [go_sem, hE, hH, hs, hlt, hss, hb]; (try clear hb))) | ((with_reducible refine And.intro ?_ ?_); · omega) | (refine ok_lend [true, false, false, false] ?_; simp (disch := omega) only [go_sem, hE, hH, hs, hlt, hss]; refine cmA (l8Send_ok p.Net l.To l.From ⟨⟨121 :: dgt t⟩⟩ hmn) ?_; simp (disch := omega) only [go_sem, hE, hH, hs, hlt, hss]) | ((first | refine ok_view ?_ | refine cvA (l1Num_ok t (by omega)) ?_); simp (disch := omega) only [go_sem, hE, hH, hs, hlt, hss]) | (with_reducible apply jn) | (with_reducible apply both) | (with_reducible refine And.intro ?_ ?_) | ((with_reducible apply fin_eq); (try (simp (disch := omega) only [go_sem, hE, hH, hs, hlt, hss])); first | done | rfl) | (simp (disch := omega) only [go_sem, hE, hH, hs, hlt, hss]) | ((first | apply noMLL_sE | apply pk_sE) <;> (simp only [go_sem, hE, hH, hs, hlt, hss]; done)) | (simp only [go_sem, hE, hH, hs, hlt, hss]) | fail)
    all_goals first | omega | rfl | (rw [List.map_set]; rfl) | (refine lt_setK ?_ ?_ <;> simp only [go_sem]; done) | trace_state
  · have e1 : askX (nth p.Voters l.To.toNat) t = nth p.Voters l.To.toNat := if_neg hlt
    cases hc : askC (nth p.Voters l.To.toNat) t l.From with
    | true =>
      have eP : askP p l t = ⟨p.Voters.set l.To.toNat (forV (nth p.Voters l.To.toNat) l.From), sendP p.Net l.To l.From (askB 121 t), p.Won⟩ := by
        unfold askP
        rw [e1, if_pos hc]
      rw [eP]
      simp only [askC, Bool.and_eq_true, Bool.or_eq_true, decide_eq_true_eq] at hc
      refine fn_inD [true, false, false] h_spec_l8Ask r_spec_l8Ask ⟨by simp only [go_sem], fun E hE hH => ?_⟩; simp only [go_sem] at hE hH; simp only [go_sem, hE, hH, c_spec_l8Ask]
      repeat' (first | ((with_reducible first | refine gd_t ?_ ?_ | refine gd_f ?_ ?_) <;> (intro h; have hb := h; (try simp only [nf] at h); simp (disch := omega) only [go_sem, hE, hH, hs, hss, hb]; (try clear hb))) | ((with_reducible refine And.intro ?_ ?_); · omega) | (refine ok_lend [true, false, false, false] ?_; simp (disch := omega) only [go_sem, hE, hH, hs, hss]; refine cmA (l8Send_ok p.Net l.To l.From ⟨⟨121 :: dgt t⟩⟩ hmn) ?_; simp (disch := omega) only [go_sem, hE, hH, hs, hss]) | ((first | refine ok_view ?_ | refine cvA (l1Num_ok t (by omega)) ?_); simp (disch := omega) only [go_sem, hE, hH, hs, hss]) | (with_reducible apply jn) | (with_reducible apply both) | (with_reducible refine And.intro ?_ ?_) | ((with_reducible apply fin_eq); (try (simp (disch := omega) only [go_sem, hE, hH, hs, hss])); first | done | rfl) | (simp (disch := omega) only [go_sem, hE, hH, hs, hss]) | ((first | apply noMLL_sE | apply pk_sE) <;> (simp only [go_sem, hE, hH, hs, hss]; done)) | (simp only [go_sem, hE, hH, hs, hss]) | fail)
      all_goals first | omega | rfl | (rw [List.map_set]; rfl) | (refine lt_setK ?_ ?_ <;> simp only [go_sem]; done) | (exfalso; omega) | trace_state
    | false =>
      have eP : askP p l t = ⟨p.Voters.set l.To.toNat (nth p.Voters l.To.toNat), p.Net, p.Won⟩ := by
        unfold askP
        rw [e1, if_neg (by simp [hc])]
      rw [eP]
      simp only [askC, Bool.and_eq_false_iff, Bool.or_eq_false_iff, decide_eq_false_iff_not] at hc
      refine fn_inD [true, false, false] h_spec_l8Ask r_spec_l8Ask ⟨by simp only [go_sem], fun E hE hH => ?_⟩; simp only [go_sem] at hE hH; simp only [go_sem, hE, hH, c_spec_l8Ask]
      repeat' (first | ((with_reducible first | refine gd_t ?_ ?_ | refine gd_f ?_ ?_) <;> (intro h; have hb := h; (try simp only [nf] at h); simp (disch := omega) only [go_sem, hE, hH, hs, hss, hb]; (try clear hb))) | ((with_reducible refine And.intro ?_ ?_); · omega) | (with_reducible apply jn) | (with_reducible apply both) | (with_reducible refine And.intro ?_ ?_) | ((with_reducible apply fin_eq); (try (simp (disch := omega) only [go_sem, hE, hH, hs, hss])); first | done | rfl) | (simp (disch := omega) only [go_sem, hE, hH, hs, hss]) | ((first | apply noMLL_sE | apply pk_sE) <;> (simp only [go_sem, hE, hH, hs, hss]; done)) | (simp only [go_sem, hE, hH, hs, hss]) | fail)
      all_goals first | omega | rfl | (rw [List.map_set]; rfl) | (refine lt_setK ?_ ?_ <;> simp only [go_sem]; done) | (exfalso; omega) | trace_state
set_option maxHeartbeats 8000000 in
theorem l8Yes_ok (p : Poll) (l : Letter) (t : Nat) (hg : Good p) (hl : LOk p.Net.Homes.length l) : ACall Tryz.prog n_spec_l8Yes [.agg (Poll.row true p), .agg (Letter.row false l), i64 t] (fun r q => r = .agg (Poll.row true (cntP p l t)) ∧ q = [.any, .agg (Letter.row false l), i64 t]) := by
  have hmx := mx_eq
  have hv := hg.v
  have hn5 := hg.n
  have hw := hg.w
  have b1 := hl.t
  have b2 := hl.f
  have hk : l.To.toNat < p.Voters.length := by omega
  have hx := hg.vs _ hk
  have hyl := vok_len hx
  have hys := hx.y.2
  have hs := fun r => getD_set_map (f := Voter.row true) (r := r) hk
  have hss : ∀ (a b : List T), ((p.Voters.map (Voter.row true)).set l.To.toNat a).set l.To.toNat b = (p.Voters.map (Voter.row true)).set l.To.toNat b := fun a b => List.set_set ..
  have hsame : p.Voters.set l.To.toNat (nth p.Voters l.To.toNat) = p.Voters := by rw [nth_lt hk, List.set_getElem_self]
  have hyp := yesPut_len (l := (nth p.Voters l.To.toNat).Yes) (x := l.From)
  cases hc : cntC (nth p.Voters l.To.toNat) l t with
  | false =>
    have eP : cntP p l t = ⟨p.Voters.set l.To.toNat (nth p.Voters l.To.toNat), p.Net, p.Won⟩ := by unfold cntP; rw [if_neg (by simp [hc]), hsame]
    rw [eP]
    simp only [cntC, Bool.and_eq_false_iff, decide_eq_false_iff_not] at hc
    refine fn_inD [true, false, false] h_spec_l8Yes r_spec_l8Yes ⟨by simp only [go_sem], fun E hE hH => ?_⟩; simp only [go_sem] at hE hH; simp only [go_sem, hE, hH, c_spec_l8Yes]
    repeat' (first | ((with_reducible first | refine gd_t ?_ ?_ | refine gd_f ?_ ?_) <;> (intro h; have hb := h; (try simp only [nf] at h); simp (disch := omega) only [go_sem, hE, hH, hs, hss, hb]; (try clear hb))) | ((with_reducible refine And.intro ?_ ?_); · omega) | (with_reducible apply jn) | (with_reducible apply both) | (with_reducible refine And.intro ?_ ?_) | ((with_reducible apply fin_eq); (try (simp (disch := omega) only [go_sem, hE, hH, hs, hss])); first | done | rfl) | (simp (disch := omega) only [go_sem, hE, hH, hs, hss]) | ((first | apply noMLL_sE | apply pk_sE) <;> (simp only [go_sem, hE, hH, hs, hss]; done)) | (simp only [go_sem, hE, hH, hs, hss]) | fail)
    all_goals first | omega | rfl | (rw [List.map_set]; rfl) | (exfalso; omega) | (refine lt_setK ?_ ?_ <;> simp only [go_sem]; done) | trace_state
  | true =>
    cases hW : winC p (nth p.Voters l.To.toNat) (yesPut (nth p.Voters l.To.toNat).Yes l.From) with
    | false =>
      have eP : cntP p l t = ⟨p.Voters.set l.To.toNat (yesV (nth p.Voters l.To.toNat) (yesPut (nth p.Voters l.To.toNat).Yes l.From) (nth p.Voters l.To.toNat).Leads), p.Net, p.Won⟩ := by unfold cntP; rw [if_pos hc, if_neg (by simp [hW])]
      rw [eP]
      simp only [cntC, Bool.and_eq_true, decide_eq_true_eq] at hc
      simp only [winC, Bool.and_eq_false_iff, decide_eq_false_iff_not, Bool.not_eq_false'] at hW
      refine fn_inD [true, false, false] h_spec_l8Yes r_spec_l8Yes ⟨by simp only [go_sem], fun E hE hH => ?_⟩; simp only [go_sem] at hE hH; simp only [go_sem, hE, hH, c_spec_l8Yes]
      repeat' (first | ((with_reducible first | refine gd_t ?_ ?_ | refine gd_f ?_ ?_) <;> (intro h; have hb := h; (try simp only [nf] at h); simp (disch := omega) only [go_sem, hE, hH, hs, hss, hb]; (try clear hb))) | ((with_reducible refine And.intro ?_ ?_); · omega) | (refine ok_lend [true, false] ?_; simp (disch := omega) only [go_sem, hE, hH, hs, hss]; refine cmA (l1Put_ok _ l.From (by omega) hys) ?_; simp (disch := omega) only [go_sem, hE, hH, hs, hss]) | ((first | refine ok_view ?_ | refine cvA (l1Own_ok _ (by omega)) ?_); simp (disch := omega) only [go_sem, hE, hH, hs, hss]) | (with_reducible apply jn) | (with_reducible apply both) | (with_reducible refine And.intro ?_ ?_) | ((with_reducible apply fin_eq); (try (simp (disch := omega) only [go_sem, hE, hH, hs, hss])); first | done | rfl) | (simp (disch := omega) only [go_sem, hE, hH, hs, hss]) | ((first | apply noMLL_sE | apply pk_sE) <;> (simp only [go_sem, hE, hH, hs, hss]; done)) | (simp only [go_sem, hE, hH, hs, hss]) | fail)
      all_goals first | omega | rfl | (rw [List.map_set]; rfl) | (exfalso; omega) | (refine lt_setK ?_ ?_ <;> simp only [go_sem]; done) | (exfalso; rcases hW with hW | hW <;> first | omega | exact absurd (hW.symm.trans (by assumption : (nth p.Voters l.To.toNat).Leads = false)) (by decide)) | trace_state
    | true =>
      have eP : cntP p l t = ⟨p.Voters.set l.To.toNat (yesV (nth p.Voters l.To.toNat) (yesPut (nth p.Voters l.To.toNat).Yes l.From) true), p.Net, wonP p l t⟩ := by unfold cntP; rw [if_pos hc, if_pos hW]
      rw [eP]
      simp only [cntC, Bool.and_eq_true, decide_eq_true_eq] at hc
      simp only [winC, Bool.and_eq_true, decide_eq_true_eq, Bool.not_eq_true'] at hW
      refine fn_inD [true, false, false] h_spec_l8Yes r_spec_l8Yes ⟨by simp only [go_sem], fun E hE hH => ?_⟩; simp only [go_sem] at hE hH; simp only [go_sem, hE, hH, c_spec_l8Yes]
      repeat' (first | ((with_reducible first | refine gd_t ?_ ?_ | refine gd_f ?_ ?_) <;> (intro h; have hb := h; (try simp only [nf] at h); simp (disch := omega) only [go_sem, hE, hH, hs, hss, hb]; (try clear hb))) | ((with_reducible refine And.intro ?_ ?_); · omega) | (refine ok_lend [true, false] ?_; simp (disch := omega) only [go_sem, hE, hH, hs, hss]; refine cmA (l1Put_ok _ l.From (by omega) hys) ?_; simp (disch := omega) only [go_sem, hE, hH, hs, hss]) | ((first | refine ok_view ?_ | refine cvA (l1Own_ok _ (by omega)) ?_); simp (disch := omega) only [go_sem, hE, hH, hs, hss]) | (with_reducible apply jn) | (with_reducible apply both) | (with_reducible refine And.intro ?_ ?_) | ((with_reducible apply fin_eq); (try (simp (disch := omega) only [go_sem, hE, hH, hs, hss])); first | done | rfl) | (simp (disch := omega) only [go_sem, hE, hH, hs, hss]) | ((first | apply noMLL_sE | apply pk_sE) <;> (simp only [go_sem, hE, hH, hs, hss]; done)) | (simp only [go_sem, hE, hH, hs, hss]) | fail)
      all_goals first | omega | rfl | (rw [List.map_set]; rfl) | (exfalso; omega) | (refine lt_setK ?_ ?_ <;> simp only [go_sem]; done) | (rw [wonP, if_pos (by omega), List.map_set, List.map_append]; rfl) | (rw [wonP, if_neg (by omega), List.map_set]; rfl) | (rw [wonP, if_pos (by omega), List.map_append]; rfl) | (rw [wonP, if_neg (by omega)]; done) | exact absurd ((by assumption : (nth p.Voters l.To.toNat).Leads = true).symm.trans hW.2) (by decide) | trace_state
theorem hearP_none {p : Poll} {l : Letter} (h : rdT (tailB l.Body) = none) : hearP p l = p := by simp [hearP, h]
theorem hearP_down {p : Poll} {l : Letter} (h : (nth p.Voters l.To.toNat).Up = false) : hearP p l = p := by
  unfold hearP; split
  · rfl
  · rw [if_neg (by simp [h])]
theorem hearP_a {p : Poll} {l : Letter} {t : Nat} (h : rdT (tailB l.Body) = some t) (hu : (nth p.Voters l.To.toNat).Up = true) (hb : byt l.Body 0 = 97) : hearP p l = askP p l t := by simp [hearP, h, hu, hb]
theorem hearP_y {p : Poll} {l : Letter} {t : Nat} (h : rdT (tailB l.Body) = some t) (hu : (nth p.Voters l.To.toNat).Up = true) (hb : byt l.Body 0 = 121) : hearP p l = cntP p l t := by simp [hearP, h, hu, hb]
theorem hearP_o {p : Poll} {l : Letter} {t : Nat} (h : rdT (tailB l.Body) = some t) (hb : byt l.Body 0 ≠ 97) (hc : byt l.Body 0 ≠ 121) : hearP p l = p := by simp [hearP, h, hb, hc]
theorem tail_len {b : ByteArray} : (tailB b).length = b.size - 1 := by
  simp only [tailB, List.length_drop, Array.length_toList]; rfl
theorem tail_take {b : ByteArray} : List.take (b.size - 1) (List.drop 1 b.data.toList) = tailB b := List.take_of_length_le (by rw [← tail_len]; exact Nat.le_refl _)
set_option maxHeartbeats 8000000 in
theorem l8Hear_ok (p : Poll) (l : Letter) (hg : Good p) (hl : LOk p.Net.Homes.length l) : ACall Tryz.prog n_spec_l8Hear [.agg (Poll.row true p), .agg (Letter.row false l)] (fun r q => r = .agg (Poll.row true (hearP p l)) ∧ q = [.any, .agg (Letter.row false l)]) := by
  have hmx := mx_eq
  have hv := hg.v
  have hn5 := hg.n
  have b1 := hl.t
  have b3 := hl.b
  have hk : l.To.toNat < p.Voters.length := by omega
  have htl := tail_len (b := l.Body)
  have ht := tail_take (b := l.Body)
  have hR := l1Read_ok (tailB l.Body) (by omega)
  cases hu : (nth p.Voters l.To.toNat).Up with
  | false =>
    rw [hearP_down hu]
    refine fn_inD [true, false] h_spec_l8Hear r_spec_l8Hear ⟨by simp only [go_sem], fun E hE hH => ?_⟩; simp only [go_sem] at hE hH; simp only [go_sem, hE, hH, c_spec_l8Hear]
    repeat' (first | ((with_reducible first | refine gd_t ?_ ?_ | refine gd_f ?_ ?_) <;> (intro h; have hb := h; (try simp only [nf] at h); simp (disch := omega) only [go_sem, hE, hH, ht, hu, hb]; (try clear hb))) | ((with_reducible refine And.intro ?_ ?_); · omega) | ((first | refine ok_view ?_ | refine cvA (hR) ?_ | refine cvA (l1In_ok _ _ _) ?_); simp (disch := omega) only [go_sem, hE, hH, ht, hu]) | (with_reducible apply jn) | (with_reducible apply both) | (with_reducible refine And.intro ?_ ?_) | ((with_reducible apply fin_eq); (try (simp (disch := omega) only [go_sem, hE, hH, ht, hu])); first | done | rfl) | (simp (disch := omega) only [go_sem, hE, hH, ht, hu]) | ((first | apply noMLL_sE | apply pk_sE) <;> (simp only [go_sem, hE, hH, ht, hu]; done)) | (simp only [go_sem, hE, hH, ht, hu]) | fail)
    all_goals first | omega | rfl | trace_state
  | true =>
    rcases rdI_rdT (tailB l.Body) with ⟨h1, h2⟩ | ⟨t, h1, h2, h3, h4⟩
    · have e : rng (rdI (tailB l.Body)) 1 200 = false := rng_no.2 (by omega)
      rw [hearP_none h1]
      refine fn_inD [true, false] h_spec_l8Hear r_spec_l8Hear ⟨by simp only [go_sem], fun E hE hH => ?_⟩; simp only [go_sem] at hE hH; simp only [go_sem, hE, hH, c_spec_l8Hear]
      repeat' (first | ((with_reducible first | refine gd_t ?_ ?_ | refine gd_f ?_ ?_) <;> (intro h; have hb := h; (try simp only [nf] at h); simp (disch := omega) only [go_sem, hE, hH, ht, hu, e, hb]; (try clear hb))) | ((with_reducible refine And.intro ?_ ?_); · omega) | ((first | refine ok_view ?_ | refine cvA (hR) ?_ | refine cvA (l1In_ok _ _ _) ?_); simp (disch := omega) only [go_sem, hE, hH, ht, hu, e]) | (with_reducible apply jn) | (with_reducible apply both) | (with_reducible refine And.intro ?_ ?_) | ((with_reducible apply fin_eq); (try (simp (disch := omega) only [go_sem, hE, hH, ht, hu, e])); first | done | rfl) | (simp (disch := omega) only [go_sem, hE, hH, ht, hu, e]) | ((first | apply noMLL_sE | apply pk_sE) <;> (simp only [go_sem, hE, hH, ht, hu, e]; done)) | (simp only [go_sem, hE, hH, ht, hu, e]) | fail)
      all_goals first | omega | rfl | trace_state
    · rw [h2] at hR
      have e : rng (t : Int) 1 200 = true := rng_iff.2 (by omega)
      have hb0 := byt_lo l.Body 0
      by_cases ha : byt l.Body 0 = 97
      · rw [hearP_a h1 hu ha]
        refine fn_inD [true, false] h_spec_l8Hear r_spec_l8Hear ⟨by simp only [go_sem], fun E hE hH => ?_⟩; simp only [go_sem] at hE hH; simp only [go_sem, hE, hH, c_spec_l8Hear]
        repeat' (first | ((with_reducible first | refine gd_t ?_ ?_ | refine gd_f ?_ ?_) <;> (intro h; have hb := h; (try simp only [nf] at h); simp (disch := omega) only [go_sem, hE, hH, ht, hu, e, ha, hb]; (try clear hb))) | ((with_reducible refine And.intro ?_ ?_); · omega) | (refine ok_lend [true, false, false] ?_; simp (disch := omega) only [go_sem, hE, hH, ht, hu, e, ha]; refine cmA (l8Ask_ok p l t hg hl h3 h4) ?_; simp (disch := omega) only [go_sem, hE, hH, ht, hu, e, ha]) | ((first | refine ok_view ?_ | refine cvA (hR) ?_ | refine cvA (l1In_ok _ _ _) ?_); simp (disch := omega) only [go_sem, hE, hH, ht, hu, e, ha]) | (with_reducible apply jn) | (with_reducible apply both) | (with_reducible refine And.intro ?_ ?_) | ((with_reducible apply fin_eq); (try (simp (disch := omega) only [go_sem, hE, hH, ht, hu, e, ha])); first | done | rfl) | (simp (disch := omega) only [go_sem, hE, hH, ht, hu, e, ha]) | ((first | apply noMLL_sE | apply pk_sE) <;> (simp only [go_sem, hE, hH, ht, hu, e, ha]; done)) | (simp only [go_sem, hE, hH, ht, hu, e, ha]) | fail)
        all_goals first | omega | rfl | trace_state
      · by_cases hy : byt l.Body 0 = 121
        · rw [hearP_y h1 hu hy]
          refine fn_inD [true, false] h_spec_l8Hear r_spec_l8Hear ⟨by simp only [go_sem], fun E hE hH => ?_⟩; simp only [go_sem] at hE hH; simp only [go_sem, hE, hH, c_spec_l8Hear]
          repeat' (first | ((with_reducible first | refine gd_t ?_ ?_ | refine gd_f ?_ ?_) <;> (intro h; have hb := h; (try simp only [nf] at h); simp (disch := omega) only [go_sem, hE, hH, ht, hu, e, hy, hb]; (try clear hb))) | ((with_reducible refine And.intro ?_ ?_); · omega) | (refine ok_lend [true, false, false] ?_; simp (disch := omega) only [go_sem, hE, hH, ht, hu, e, hy]; refine cmA (l8Yes_ok p l t hg hl) ?_; simp (disch := omega) only [go_sem, hE, hH, ht, hu, e, hy]) | ((first | refine ok_view ?_ | refine cvA (hR) ?_ | refine cvA (l1In_ok _ _ _) ?_); simp (disch := omega) only [go_sem, hE, hH, ht, hu, e, hy]) | (with_reducible apply jn) | (with_reducible apply both) | (with_reducible refine And.intro ?_ ?_) | ((with_reducible apply fin_eq); (try (simp (disch := omega) only [go_sem, hE, hH, ht, hu, e, hy])); first | done | rfl) | (simp (disch := omega) only [go_sem, hE, hH, ht, hu, e, hy]) | ((first | apply noMLL_sE | apply pk_sE) <;> (simp only [go_sem, hE, hH, ht, hu, e, hy]; done)) | (simp only [go_sem, hE, hH, ht, hu, e, hy]) | fail)
          all_goals first | omega | rfl | trace_state
        · rw [hearP_o h1 ha hy]
          refine fn_inD [true, false] h_spec_l8Hear r_spec_l8Hear ⟨by simp only [go_sem], fun E hE hH => ?_⟩; simp only [go_sem] at hE hH; simp only [go_sem, hE, hH, c_spec_l8Hear]
          repeat' (first | ((with_reducible first | refine gd_t ?_ ?_ | refine gd_f ?_ ?_) <;> (intro h; have hb := h; (try simp only [nf] at h); simp (disch := omega) only [go_sem, hE, hH, ht, hu, e, hb]; (try clear hb))) | ((with_reducible refine And.intro ?_ ?_); · omega) | ((first | refine ok_view ?_ | refine cvA (hR) ?_ | refine cvA (l1In_ok _ _ _) ?_); simp (disch := omega) only [go_sem, hE, hH, ht, hu, e]) | (with_reducible apply jn) | (with_reducible apply both) | (with_reducible refine And.intro ?_ ?_) | ((with_reducible apply fin_eq); (try (simp (disch := omega) only [go_sem, hE, hH, ht, hu, e])); first | done | rfl) | (simp (disch := omega) only [go_sem, hE, hH, ht, hu, e]) | ((first | apply noMLL_sE | apply pk_sE) <;> (simp only [go_sem, hE, hH, ht, hu, e]; done)) | (simp only [go_sem, hE, hH, ht, hu, e]) | fail)
          all_goals first | omega | rfl | (exfalso; omega) | trace_state
def heard (p : Poll) (j : Nat) : Poll := ((tickL p).take j).foldl hearP (tick0 p)
theorem heard_succ {p : Poll} {j : Nat} (h : j < (tickL p).length) : heard p (j + 1) = hearP (heard p j) (nth (tickL p) j) := by
  unfold heard
  rw [take_nth h, List.foldl_append]; rfl
theorem tick_at {p : Poll} (h : tickC p = true) : Good p ∧ (tickN p.Net).2 = true ∧ Good (tick0 p) ∧ (tick0 p).Net.Homes = p.Net.Homes ∧ (∀ l ∈ tickL p, LOk p.Net.Homes.length l) ∧ goodNet (tickN1 p) = true := by
  simp only [tickC, Bool.and_eq_true] at h
  have hp := good_iff.1 h.1
  obtain ⟨h1, h2, h3⟩ := tickN_good h.2
  have hh : (tickN1 p).Homes = p.Net.Homes := by unfold tickN1; rw [h3]
  have hg : goodNet (tickN1 p) = true := h2
  refine ⟨hp, h.2, hp.netP (good_drop h2 _) hh, hh, fun l hl => ?_, hg⟩
  rw [← hh]; exact good_u hg l (List.mem_of_mem_take hl)
theorem heard_good {p : Poll} (h : tickC p = true) (j : Nat) : Good (heard p j) ∧ (heard p j).Net.Homes = p.Net.Homes := by
  obtain ⟨_, _, h3, h4, h5, _⟩ := tick_at h
  obtain ⟨a, b⟩ := hears_good h3 (L := (tickL p).take j) (fun l hl => by rw [h4]; exact h5 l (List.mem_of_mem_take hl))
  exact ⟨a, b.trans h4⟩
theorem tickP_yes {p : Poll} (h : tickC p = true) : tickP p = (heard p (tickL p).length, true) := by
  unfold tickP heard
  rw [if_pos h, List.take_length]
theorem tickP_no {p : Poll} (h : tickC p = false) : tickP p = (zeroP, false) := by simp [tickP, h]
theorem tickL_len {p : Poll} (h : tickC p = true) : (tickL p).length ≤ 60 := by
  obtain ⟨_, _, _, _, _, h6⟩ := tick_at h
  have := goodNet_len h6
  simp only [tickL, List.length_take]; omega
set_option maxHeartbeats 8000000 in
theorem TickPoll_ok (hI : ItoaH) (hR : ReadIntH) (p : Poll) (hp : pollOk p) (hq : pollSm p) : ACall Tryz.prog n_impl_TickPoll [.agg (Poll.row false p)] (fun r _ => r = .tup [.agg (Poll.row true (tickP p).1), bl (tickP p).2]) := by
  have hmx := mx_eq
  obtain ⟨h1, h2, h3, h4, h5⟩ := hq
  have hi := GoodPoll_ok p hp
  cases hg : goodPoll p with
  | false =>
    have e := tickP_no (p := p) (by simp [tickC, hg])
    rw [hg] at hi
    refine fn_in h_impl_TickPoll r_impl_TickPoll ⟨by simp only [go_sem], fun E hE hH => ?_⟩; simp only [go_sem] at hE hH; simp only [go_sem, hE, hH, c_impl_TickPoll]
    repeat' (first | ((with_reducible first | refine gd_t ?_ ?_ | refine gd_f ?_ ?_) <;> (intro h; have hb := h; (try simp only [nf] at h); simp (disch := omega) only [go_sem, hE, hH, e, hb]; (try clear hb))) | ((with_reducible refine And.intro ?_ ?_); · omega) | ((first | refine ok_view ?_ | refine cvA (hi) ?_); simp (disch := omega) only [go_sem, hE, hH, e]) | (refine jn _ ?_ ?_) | (with_reducible refine both ?_ ?_) | (with_reducible refine And.intro ?_ ?_) | (refine fin_eq ?_; (try (simp (disch := omega) only [go_sem, hE, hH, e])); first | done | rfl) | (simp (disch := omega) only [go_sem, hE, hH, e]) | ((first | apply noMLL_sE | apply pk_sE) <;> (simp only [go_sem, hE, hH, e]; done)) | (simp only [go_sem, hE, hH, e]) | fail)
    all_goals first | rfl | trace_state
  | true =>
    rw [hg] at hi
    have hn := TickNet_ok p.Net (by omega)
    cases hc : (tickN p.Net).2 with
    | false =>
      have e := tickP_no (p := p) (by simp [tickC, hc])
      rw [hc] at hn
      refine fn_in h_impl_TickPoll r_impl_TickPoll ⟨by simp only [go_sem], fun E hE hH => ?_⟩; simp only [go_sem] at hE hH; simp only [go_sem, hE, hH, c_impl_TickPoll]
      repeat' (first | ((with_reducible first | refine gd_t ?_ ?_ | refine gd_f ?_ ?_) <;> (intro h; have hb := h; (try simp only [nf] at h); simp (disch := omega) only [go_sem, hE, hH, e, hb]; (try clear hb))) | ((with_reducible refine And.intro ?_ ?_); · omega) | ((first | refine ok_view ?_ | refine cvA (hi) ?_ | refine cvA (hn) ?_); simp (disch := omega) only [go_sem, hE, hH, e]) | (refine jn _ ?_ ?_) | (with_reducible refine both ?_ ?_) | (with_reducible refine And.intro ?_ ?_) | (refine fin_eq ?_; (try (simp (disch := omega) only [go_sem, hE, hH, e])); first | done | rfl) | (simp (disch := omega) only [go_sem, hE, hH, e]) | ((first | apply noMLL_sE | apply pk_sE) <;> (simp only [go_sem, hE, hH, e]; done)) | (simp only [go_sem, hE, hH, e]) | fail)
      all_goals first | rfl | trace_state
    | true =>
      rw [hc] at hn
      have hC : tickC p = true := by simp [tickC, hg, hc]
      obtain ⟨gp, _, g0, gh, gl, gn⟩ := tick_at hC
      have ln := goodNet_len gn
      have hll := tickL_len hC
      rw [tickP_yes hC]
      have hd := delivered_ok (tickN1 p) (by omega) (by omega)
      change ACall Tryz.prog n_impl_TickNet _ (fun r _ => r = .tup [.agg (Net.row true (tickN1 p)), bl true]) at hn
      change ACall Tryz.prog _ _ (fun r _ => r = .tup [.agg (Net.row true (tick0 p).Net), .sl true 4 ((tickL p).map (Letter.row true))]) at hd
      refine fn_in h_impl_TickPoll r_impl_TickPoll ⟨by simp only [go_sem], fun E hE hH => ?_⟩; simp only [go_sem] at hE hH; simp only [go_sem, hE, hH, c_impl_TickPoll]
      repeat' (first | ((with_reducible first | refine gd_t ?_ ?_ | refine gd_f ?_ ?_) <;> (intro h; have hb := h; (try simp only [nf] at h); simp (disch := omega) only [go_sem, hE, hH, hb]; (try clear hb))) | ((with_reducible refine And.intro ?_ ?_); · omega) | ((first | refine ok_view ?_ | refine cvA (hi) ?_ | refine cvA (hn) ?_ | refine cvA (copyPoll_ok p h1 h2 h3 h4 h5) ?_ | refine cvA (hd) ?_); simp (disch := omega) only [go_sem, hE, hH]) | (refine jn _ ?_ ?_) | (with_reducible refine both ?_ ?_) | (with_reducible refine And.intro ?_ ?_) | (refine fin_eq ?_; (try (simp (disch := omega) only [go_sem, hE, hH])); first | done | rfl) | (simp (disch := omega) only [go_sem, hE, hH]) | ((first | apply noMLL_sE | apply pk_sE) <;> (simp only [go_sem, hE, hH]; done)) | (simp only [go_sem, hE, hH]) | fail)
      refine loopNe (tickL p).length (fun j (_ : Unit) => ⟨[(2, .ptr 3000000 0 0), (6, .ptr 7000000 0 0), (35, .ref 36000000 0 (tickL p).length), (36, i64 (tickL p).length), (37, i64 j)], [(3000000, ⟨6, [[nils, i64 0, nils, i64 0, nils, nils]]⟩), (7000000, ⟨6, [Poll.row true (heard p j)]⟩), (36000000, ⟨4, (tickL p).map (Letter.row true)⟩)]⟩) (fun _ _ => True) () rfl trivial ?_
      intro j _ hj _
      try simp only [go_sem, hE, hH, c_impl_TickPoll_l1]
      first | refine gd_t (fun h => ?_) (fun h => ?_) | refine gd_f (fun h => ?_) (fun h => ?_)
      · have hb := h
        simp only [nf] at h
        have hlt := h; clear h
        try simp (disch := omega) only [go_sem, hE, hH, hb]
        obtain ⟨hq, hqh⟩ := heard_good hC j
        have hlk : LOk (heard p j).Net.Homes.length (nth (tickL p) j) := by rw [hqh]; exact gl _ (nth_mem hlt)
        have es := heard_succ hlt
        have hv := hq.v
        have hn5 := hq.n
        have b1 := hlk.t
        have b3 := hlk.b
        have ht := tail_take (b := (nth (tickL p) j).Body)
        have htl := tail_len (b := (nth (tickL p) j).Body)
        have hr := hR (tailB (nth (tickL p) j).Body) (by omega)
        have hk : (nth (tickL p) j).To.toNat < (heard p j).Voters.length := by omega
        have hb0 := byt_lo (nth (tickL p) j).Body 0
        cases hd : rdT (tailB (nth (tickL p) j).Body) with
        | none =>
          rw [hd] at hr
          rw [hearP_none hd] at es
          repeat' (first | ((with_reducible first | refine gd_t ?_ ?_ | refine gd_f ?_ ?_) <;> (intro h; have hb := h; (try simp only [nf] at h); simp (disch := omega) only [go_sem, hE, hH, ht, hb]; (try clear hb))) | ((with_reducible refine And.intro ?_ ?_); · omega) | ((first | refine ok_view ?_ | refine cvA (hr) ?_); simp (disch := omega) only [go_sem, hE, hH, ht]) | (with_reducible apply jn) | (with_reducible apply both) | (with_reducible refine And.intro ?_ ?_) | ((with_reducible apply fin_eq); (try (simp (disch := omega) only [go_sem, hE, hH, ht])); first | done | rfl) | (simp (disch := omega) only [go_sem, hE, hH, ht]) | ((first | apply noMLL_sE | apply pk_sE) <;> (simp only [go_sem, hE, hH, ht]; done)) | (simp only [go_sem, hE, hH, ht]) | fail)
          all_goals first | omega | (rw [es]; exact ⟨(), rfl⟩) | trace_state
        | some t =>
          obtain ⟨t1, t2, _⟩ := rdT_some.1 hd
          rw [hd] at hr
          cases hu : (nth (heard p j).Voters (nth (tickL p) j).To.toNat).Up with
          | false =>
            rw [hearP_down hu] at es
            repeat' (first | ((with_reducible first | refine gd_t ?_ ?_ | refine gd_f ?_ ?_) <;> (intro h; have hb := h; (try simp only [nf] at h); simp (disch := omega) only [go_sem, hE, hH, ht, hu, hb]; (try clear hb))) | ((with_reducible refine And.intro ?_ ?_); · omega) | ((first | refine ok_view ?_ | refine cvA (hr) ?_); simp (disch := omega) only [go_sem, hE, hH, ht, hu]) | (with_reducible apply jn) | (with_reducible apply both) | (with_reducible refine And.intro ?_ ?_) | ((with_reducible apply fin_eq); (try (simp (disch := omega) only [go_sem, hE, hH, ht, hu])); first | done | rfl) | (simp (disch := omega) only [go_sem, hE, hH, ht, hu]) | ((first | apply noMLL_sE | apply pk_sE) <;> (simp only [go_sem, hE, hH, ht, hu]; done)) | (simp only [go_sem, hE, hH, ht, hu]) | fail)
            all_goals first | omega | (rw [es]; exact ⟨(), rfl⟩) | trace_state
          | true =>
            by_cases ha : byt (nth (tickL p) j).Body 0 = 97
            · rw [hearP_a hd hu ha] at es
              repeat' (first | ((with_reducible first | refine gd_t ?_ ?_ | refine gd_f ?_ ?_) <;> (intro h; have hb := h; (try simp only [nf] at h); simp (disch := omega) only [go_sem, hE, hH, ht, hu, ha, hb]; (try clear hb))) | ((with_reducible refine And.intro ?_ ?_); · omega) | (refine ok_lend [true, false, false] ?_; simp (disch := omega) only [go_sem, hE, hH, ht, hu, ha]; refine cmA (askVote_ok hI (heard p j) (nth (tickL p) j) t hq hlk t1 t2) ?_; simp (disch := omega) only [go_sem, hE, hH, ht, hu, ha]) | ((first | refine ok_view ?_ | refine cvA (hr) ?_); simp (disch := omega) only [go_sem, hE, hH, ht, hu, ha]) | (with_reducible apply jn) | (with_reducible apply both) | (with_reducible refine And.intro ?_ ?_) | ((with_reducible apply fin_eq); (try (simp (disch := omega) only [go_sem, hE, hH, ht, hu, ha])); first | done | rfl) | (simp (disch := omega) only [go_sem, hE, hH, ht, hu, ha]) | ((first | apply noMLL_sE | apply pk_sE) <;> (simp only [go_sem, hE, hH, ht, hu, ha]; done)) | (simp only [go_sem, hE, hH, ht, hu, ha]) | fail)
              all_goals first | omega | (rw [es]; exact ⟨(), rfl⟩) | trace_state
            · by_cases hy : byt (nth (tickL p) j).Body 0 = 121
              · rw [hearP_y hd hu hy] at es
                repeat' (first | ((with_reducible first | refine gd_t ?_ ?_ | refine gd_f ?_ ?_) <;> (intro h; have hb := h; (try simp only [nf] at h); simp (disch := omega) only [go_sem, hE, hH, ht, hu, hy, hb]; (try clear hb))) | ((with_reducible refine And.intro ?_ ?_); · omega) | (refine ok_lend [true, false, false] ?_; simp (disch := omega) only [go_sem, hE, hH, ht, hu, hy]; refine cmA (countVote_ok (heard p j) (nth (tickL p) j) t hq hlk) ?_; simp (disch := omega) only [go_sem, hE, hH, ht, hu, hy]) | ((first | refine ok_view ?_ | refine cvA (hr) ?_); simp (disch := omega) only [go_sem, hE, hH, ht, hu, hy]) | (with_reducible apply jn) | (with_reducible apply both) | (with_reducible refine And.intro ?_ ?_) | ((with_reducible apply fin_eq); (try (simp (disch := omega) only [go_sem, hE, hH, ht, hu, hy])); first | done | rfl) | (simp (disch := omega) only [go_sem, hE, hH, ht, hu, hy]) | ((first | apply noMLL_sE | apply pk_sE) <;> (simp only [go_sem, hE, hH, ht, hu, hy]; done)) | (simp only [go_sem, hE, hH, ht, hu, hy]) | fail)
                all_goals first | omega | (rw [es]; exact ⟨(), rfl⟩) | trace_state
              · rw [hearP_o hd ha hy] at es
                repeat' (first | ((with_reducible first | refine gd_t ?_ ?_ | refine gd_f ?_ ?_) <;> (intro h; have hb := h; (try simp only [nf] at h); simp (disch := omega) only [go_sem, hE, hH, ht, hu, hb]; (try clear hb))) | ((with_reducible refine And.intro ?_ ?_); · omega) | ((first | refine ok_view ?_ | refine cvA (hr) ?_); simp (disch := omega) only [go_sem, hE, hH, ht, hu]) | (with_reducible apply jn) | (with_reducible apply both) | (with_reducible refine And.intro ?_ ?_) | ((with_reducible apply fin_eq); (try (simp (disch := omega) only [go_sem, hE, hH, ht, hu])); first | done | rfl) | (simp (disch := omega) only [go_sem, hE, hH, ht, hu]) | ((first | apply noMLL_sE | apply pk_sE) <;> (simp only [go_sem, hE, hH, ht, hu]; done)) | (simp only [go_sem, hE, hH, ht, hu]) | fail)
                all_goals first | omega | (rw [es]; exact ⟨(), rfl⟩) | (exfalso; omega) | trace_state
      · try simp (disch := omega) only [go_sem, hE, hH, h]
        simp only [nf] at h
        have ej : j = (tickL p).length := by omega
        subst ej
        repeat' (first | ((with_reducible first | refine gd_t ?_ ?_ | refine gd_f ?_ ?_) <;> (intro h; have hb := h; (try simp only [nf] at h); simp (disch := omega) only [go_sem, hE, hH, hb]; (try clear hb))) | ((with_reducible refine And.intro ?_ ?_); · omega) | (with_reducible apply jn) | (with_reducible apply both) | (with_reducible refine And.intro ?_ ?_) | ((with_reducible apply fin_eq); (try (simp (disch := omega) only [go_sem, hE, hH])); first | done | rfl) | (simp (disch := omega) only [go_sem, hE, hH]) | ((first | apply noMLL_sE | apply pk_sE) <;> (simp only [go_sem, hE, hH]; done)) | (simp only [go_sem, hE, hH]) | fail)
        all_goals first | rfl | exact ⟨rfl, rfl, rfl, rfl, rfl, rfl⟩ | trace_state
set_option maxHeartbeats 8000000 in
theorem sTickPoll_ok (p : Poll) (hp : pollOk p) (hq : pollSm p) : ACall Tryz.prog n_spec_TickPoll [.agg (Poll.row false p)] (fun r _ => r = .tup [.agg (Poll.row true (tickP p).1), bl (tickP p).2]) := by
  have hmx := mx_eq
  obtain ⟨h1, h2, h3, h4, h5⟩ := hq
  have hi := l8Good_ok p hp
  have hn := sTickNet_ok p.Net (by omega)
  cases hg : goodPoll p with
  | false =>
    have e := tickP_no (p := p) (by simp [tickC, hg])
    rw [hg] at hi
    refine fn_in h_spec_TickPoll r_spec_TickPoll ⟨by simp only [go_sem], fun E hE hH => ?_⟩; simp only [go_sem] at hE hH; simp only [go_sem, hE, hH, c_spec_TickPoll]
    repeat' (first | ((with_reducible first | refine gd_t ?_ ?_ | refine gd_f ?_ ?_) <;> (intro h; have hb := h; (try simp only [nf] at h); simp (disch := omega) only [go_sem, hE, hH, e, hb]; (try clear hb))) | ((with_reducible refine And.intro ?_ ?_); · omega) | ((first | refine ok_view ?_ | refine cvA (hn) ?_ | refine cvA (hi) ?_); simp (disch := omega) only [go_sem, hE, hH, e]) | (with_reducible apply jn) | (with_reducible apply both) | (with_reducible refine And.intro ?_ ?_) | ((with_reducible apply fin_eq); (try (simp (disch := omega) only [go_sem, hE, hH, e])); first | done | rfl) | (simp (disch := omega) only [go_sem, hE, hH, e]) | ((first | apply noMLL_sE | apply pk_sE) <;> (simp only [go_sem, hE, hH, e]; done)) | (simp only [go_sem, hE, hH, e]) | fail)
    all_goals first | rfl | trace_state
  | true =>
    rw [hg] at hi
    cases hc : (tickN p.Net).2 with
    | false =>
      have e := tickP_no (p := p) (by simp [tickC, hc])
      rw [hc] at hn
      refine fn_in h_spec_TickPoll r_spec_TickPoll ⟨by simp only [go_sem], fun E hE hH => ?_⟩; simp only [go_sem] at hE hH; simp only [go_sem, hE, hH, c_spec_TickPoll]
      repeat' (first | ((with_reducible first | refine gd_t ?_ ?_ | refine gd_f ?_ ?_) <;> (intro h; have hb := h; (try simp only [nf] at h); simp (disch := omega) only [go_sem, hE, hH, e, hb]; (try clear hb))) | ((with_reducible refine And.intro ?_ ?_); · omega) | ((first | refine ok_view ?_ | refine cvA (hn) ?_ | refine cvA (hi) ?_); simp (disch := omega) only [go_sem, hE, hH, e]) | (with_reducible apply jn) | (with_reducible apply both) | (with_reducible refine And.intro ?_ ?_) | ((with_reducible apply fin_eq); (try (simp (disch := omega) only [go_sem, hE, hH, e])); first | done | rfl) | (simp (disch := omega) only [go_sem, hE, hH, e]) | ((first | apply noMLL_sE | apply pk_sE) <;> (simp only [go_sem, hE, hH, e]; done)) | (simp only [go_sem, hE, hH, e]) | fail)
      all_goals first | rfl | trace_state
    | true =>
      rw [hc] at hn
      have hC : tickC p = true := by simp [tickC, hg, hc]
      obtain ⟨gp, _, g0, gh, gl, gn⟩ := tick_at hC
      have ln := goodNet_len gn
      have hll := tickL_len hC
      rw [tickP_yes hC]
      have hd := sDeliver_ok (tickN1 p) (by omega)
      have ed : deliverN (tickN1 p) = ((tick0 p).Net, tickL p, true) := if_pos gn
      rw [ed] at hd
      change ACall Tryz.prog n_spec_TickNet _ (fun r _ => r = .tup [.agg (Net.row true (tickN1 p)), bl true]) at hn
      refine fn_in h_spec_TickPoll r_spec_TickPoll ⟨by simp only [go_sem], fun E hE hH => ?_⟩; simp only [go_sem] at hE hH; simp only [go_sem, hE, hH, c_spec_TickPoll]
      repeat' (first | ((with_reducible first | refine gd_t ?_ ?_ | refine gd_f ?_ ?_) <;> (intro h; have hb := h; (try simp only [nf] at h); simp (disch := omega) only [go_sem, hE, hH, hb]; (try clear hb))) | ((with_reducible refine And.intro ?_ ?_); · omega) | ((first | refine ok_view ?_ | refine cvA (hn) ?_ | refine cvA (hi) ?_ | refine cvA (l8Own_ok p h1 h2 h3 h4 h5) ?_ | refine cvA (hd) ?_); simp (disch := omega) only [go_sem, hE, hH]) | (with_reducible apply jn) | (with_reducible apply both) | (with_reducible refine And.intro ?_ ?_) | ((with_reducible apply fin_eq); (try (simp (disch := omega) only [go_sem, hE, hH])); first | done | rfl) | (simp (disch := omega) only [go_sem, hE, hH]) | ((first | apply noMLL_sE | apply pk_sE) <;> (simp only [go_sem, hE, hH]; done)) | (simp only [go_sem, hE, hH]) | fail)
      refine loopN (tickL p).length (fun j (x : Poll) => ⟨[(2, .ptr 3000000 0 0), (6, .ptr 7000000 0 0), (8, .ref 9000000 0 (tickL p).length), (10, i64 j)], [(3000000, ⟨6, [[nils, i64 0, nils, i64 0, nils, nils]]⟩), (7000000, ⟨6, [[.ref 7000001 0 x.Voters.length, i64 x.Net.Now, .ref 7000003 0 x.Net.Homes.length, i64 x.Net.Far, .ref 7000005 0 x.Net.Under.length, .ref 7000006 0 x.Won.length]]⟩), (7000001, ⟨5, x.Voters.map (Voter.row true)⟩), (7000003, ⟨1, ints x.Net.Homes⟩), (7000005, ⟨4, x.Net.Under.map (Letter.row true)⟩), (7000006, ⟨2, x.Won.map (Won.row true)⟩), (9000000, ⟨4, (tickL p).map (Letter.row true)⟩)]⟩) (fun j x => x = heard p j) (tick0 p) rfl ?_
      rintro j x hj hx
      try simp only [go_sem, hE, hH, c_spec_TickPoll_l1]
      first | refine gd_t (fun h => ?_) (fun h => ?_) | refine gd_f (fun h => ?_) (fun h => ?_)
      · have hb := h
        simp only [nf] at h
        have hlt := h; clear h
        try simp (disch := omega) only [go_sem, hE, hH, hb]
        obtain ⟨hq, hqh⟩ := heard_good hC j
        rw [← hx] at hq hqh
        have hlk : LOk x.Net.Homes.length (nth (tickL p) j) := by rw [hqh]; exact gl _ (nth_mem hlt)
        have es := heard_succ hlt
        rw [← hx] at es
        repeat' (first | ((with_reducible first | refine gd_t ?_ ?_ | refine gd_f ?_ ?_) <;> (intro h; have hb := h; (try simp only [nf] at h); simp (disch := omega) only [go_sem, hE, hH, hb]; (try clear hb))) | ((with_reducible refine And.intro ?_ ?_); · omega) | (refine ok_lend [true, false] ?_; simp (disch := omega) only [go_sem, hE, hH]; refine cmA (l8Hear_ok x (nth (tickL p) j) hq hlk) ?_; simp (disch := omega) only [go_sem, hE, hH]) | (with_reducible apply jn) | (with_reducible apply both) | (with_reducible refine And.intro ?_ ?_) | ((with_reducible apply fin_eq); (try (simp (disch := omega) only [go_sem, hE, hH])); first | done | rfl) | (simp (disch := omega) only [go_sem, hE, hH]) | ((first | apply noMLL_sE | apply pk_sE) <;> (simp only [go_sem, hE, hH]; done)) | (simp only [go_sem, hE, hH]) | fail)
        all_goals first | omega | exact ⟨hearP x (nth (tickL p) j), rfl, es.symm⟩ | (rw [es]; rfl) | trace_state
      · try simp (disch := omega) only [go_sem, hE, hH, h]
        simp only [nf] at h
        have ej : j = (tickL p).length := by omega
        subst ej
        rw [← hx]
        repeat' (first | ((with_reducible first | refine gd_t ?_ ?_ | refine gd_f ?_ ?_) <;> (intro h; have hb := h; (try simp only [nf] at h); simp (disch := omega) only [go_sem, hE, hH, hb]; (try clear hb))) | ((with_reducible refine And.intro ?_ ?_); · omega) | (with_reducible apply jn) | (with_reducible apply both) | (with_reducible refine And.intro ?_ ?_) | ((with_reducible apply fin_eq); (try (simp (disch := omega) only [go_sem, hE, hH])); first | done | rfl) | (simp (disch := omega) only [go_sem, hE, hH]) | ((first | apply noMLL_sE | apply pk_sE) <;> (simp only [go_sem, hE, hH]; done)) | (simp only [go_sem, hE, hH]) | fail)
        all_goals first | rfl | exact ⟨rfl, rfl, rfl, rfl, rfl, rfl⟩ | trace_state
theorem good_pollOk {p : Poll} (h : Good p) : pollOk p ∧ pollSm p := by
  have := good_sz h
  exact ⟨pollOk_of (by omega), pollSm_of (by omega)⟩
theorem foldl_succ {p : Poll} {l : List PollAct} {j : Nat} (h : j < l.length) : (l.take (j + 1)).foldl stepP p = stepP ((l.take j).foldl stepP p) (nth l j) := by
  rw [take_nth h, List.foldl_append]; rfl
theorem playP_no {p : Poll} {l : List PollAct} (h : playC p l = false) : playP p l = (zeroP, false) := by simp [playP, h]
theorem playP_yes {p : Poll} {l : List PollAct} (h : playC p l = true) : playP p l = (l.foldl stepP p, true) := by simp [playP, h]
theorem doP1 {p : Poll} {a : PollAct} (h : a.Kind = 1) : doP p a = standV p a.Who := if_pos h
theorem doP2 {p : Poll} {a : PollAct} (h : a.Kind = 2) : doP p a = fallV p a.Who := by unfold doP; rw [if_neg (by omega), if_pos h]
theorem doP3 {p : Poll} {a : PollAct} (h : a.Kind = 3) : doP p a = tickP p := by unfold doP; rw [if_neg (by omega), if_neg (by omega), if_pos h]
theorem doP4 {p : Poll} {a : PollAct} (h : a.Kind = 4) : doP p a = netV p (loseN p.Net a.Who) := by unfold doP; rw [if_neg (by omega), if_neg (by omega), if_neg (by omega), if_pos h]
theorem doP5 {p : Poll} {a : PollAct} (h : a.Kind = 5) : doP p a = netV p (dblN p.Net a.Who) := by unfold doP; rw [if_neg (by omega), if_neg (by omega), if_neg (by omega), if_neg (by omega), if_pos h]
theorem doP6 {p : Poll} {a : PollAct} (h : a.Kind = 6) : doP p a = netV p (delN p.Net a.Who a.By) := by unfold doP; rw [if_neg (by omega), if_neg (by omega), if_neg (by omega), if_neg (by omega), if_neg (by omega), if_pos h]
theorem doP0 {p : Poll} {a : PollAct} (h1 : a.Kind ≠ 1) (h2 : a.Kind ≠ 2) (h3 : a.Kind ≠ 3) (h4 : a.Kind ≠ 4) (h5 : a.Kind ≠ 5) (h6 : a.Kind ≠ 6) : doP p a = (zeroP, false) := by unfold doP; simp [h1, h2, h3, h4, h5, h6]
theorem netQ_2 {p : Poll} {n : Net × Bool} : (netV p n).2 = n.2 := by
  unfold netV; cases n.2 <;> rfl
theorem netQ_1 {p : Poll} {n : Net × Bool} (h : n.2 = true) : (netV p n).1 = netP p n.1 := by
  unfold netV; rw [if_pos h]
set_option maxHeartbeats 8000000 in
theorem doPoll_ok (hI : ItoaH) (hR : ReadIntH) (p : Poll) (a : PollAct) (hg : Good p) : ACall Tryz.prog n_impl_doPoll [.agg (Poll.row false p), .agg (PollAct.row false a)] (fun r _ => ∃ q, r = .tup [.agg (Poll.row true q), bl (doP p a).2] ∧ ((doP p a).2 = true → q = (doP p a).1)) := by
  have hmx := mx_eq
  obtain ⟨hp, hq⟩ := good_pollOk hg
  obtain ⟨h1, h2, h3, h4, h5⟩ := hq
  have hm : p.Net.Homes.length ≤ maxLen := by omega
  by_cases k1 : a.Kind = 1
  · rw [doP1 k1]
    refine fn_in h_impl_doPoll r_impl_doPoll ⟨by simp only [go_sem], fun E hE hH => ?_⟩; simp only [go_sem] at hE hH; simp only [go_sem, hE, hH, c_impl_doPoll]
    repeat' (first | ((with_reducible first | refine gd_t ?_ ?_ | refine gd_f ?_ ?_) <;> (intro h; have hb := h; (try simp only [nf] at h); simp (disch := omega) only [go_sem, hE, hH, k1, hb]; (try clear hb))) | ((with_reducible refine And.intro ?_ ?_); · omega) | ((first | refine ok_view ?_ | refine cvA (StandUp_ok hI p a.Who hp ⟨h1, h2, h3, h4, h5⟩) ?_); simp (disch := omega) only [go_sem, hE, hH, k1]) | (with_reducible apply jn) | (with_reducible apply both) | (with_reducible refine And.intro ?_ ?_) | ((with_reducible apply fin_eq); (try (simp (disch := omega) only [go_sem, hE, hH, k1])); first | done | rfl) | (simp (disch := omega) only [go_sem, hE, hH, k1]) | ((first | apply noMLL_sE | apply pk_sE) <;> (simp only [go_sem, hE, hH, k1]; done)) | (simp only [go_sem, hE, hH, k1]) | fail)
    all_goals first | omega | exact nilR_of ⟨_, rfl, fun _ => rfl⟩ | exact ⟨(standV p a.Who).1, ⟨rfl, rfl, rfl, rfl, rfl, rfl⟩, fun _ => rfl⟩ | exact ⟨(fallV p a.Who).1, ⟨rfl, rfl, rfl, rfl, rfl, rfl⟩, fun _ => rfl⟩ | exact ⟨(tickP p).1, ⟨rfl, rfl, rfl, rfl, rfl, rfl⟩, fun _ => rfl⟩ | trace_state
  · by_cases k2 : a.Kind = 2
    · rw [doP2 k2]
      refine fn_in h_impl_doPoll r_impl_doPoll ⟨by simp only [go_sem], fun E hE hH => ?_⟩; simp only [go_sem] at hE hH; simp only [go_sem, hE, hH, c_impl_doPoll]
      repeat' (first | ((with_reducible first | refine gd_t ?_ ?_ | refine gd_f ?_ ?_) <;> (intro h; have hb := h; (try simp only [nf] at h); simp (disch := omega) only [go_sem, hE, hH, k2, hb]; (try clear hb))) | ((with_reducible refine And.intro ?_ ?_); · omega) | ((first | refine ok_view ?_ | refine cvA (FallVoter_ok p a.Who hp ⟨h1, h2, h3, h4, h5⟩) ?_); simp (disch := omega) only [go_sem, hE, hH, k2]) | (with_reducible apply jn) | (with_reducible apply both) | (with_reducible refine And.intro ?_ ?_) | ((with_reducible apply fin_eq); (try (simp (disch := omega) only [go_sem, hE, hH, k2])); first | done | rfl) | (simp (disch := omega) only [go_sem, hE, hH, k2]) | ((first | apply noMLL_sE | apply pk_sE) <;> (simp only [go_sem, hE, hH, k2]; done)) | (simp only [go_sem, hE, hH, k2]) | fail)
      all_goals first | omega | exact nilR_of ⟨_, rfl, fun _ => rfl⟩ | exact ⟨(standV p a.Who).1, ⟨rfl, rfl, rfl, rfl, rfl, rfl⟩, fun _ => rfl⟩ | exact ⟨(fallV p a.Who).1, ⟨rfl, rfl, rfl, rfl, rfl, rfl⟩, fun _ => rfl⟩ | exact ⟨(tickP p).1, ⟨rfl, rfl, rfl, rfl, rfl, rfl⟩, fun _ => rfl⟩ | trace_state
    · by_cases k3 : a.Kind = 3
      · rw [doP3 k3]
        refine fn_in h_impl_doPoll r_impl_doPoll ⟨by simp only [go_sem], fun E hE hH => ?_⟩; simp only [go_sem] at hE hH; simp only [go_sem, hE, hH, c_impl_doPoll]
        repeat' (first | ((with_reducible first | refine gd_t ?_ ?_ | refine gd_f ?_ ?_) <;> (intro h; have hb := h; (try simp only [nf] at h); simp (disch := omega) only [go_sem, hE, hH, k3, hb]; (try clear hb))) | ((with_reducible refine And.intro ?_ ?_); · omega) | ((first | refine ok_view ?_ | refine cvA (TickPoll_ok hI hR p hp ⟨h1, h2, h3, h4, h5⟩) ?_); simp (disch := omega) only [go_sem, hE, hH, k3]) | (with_reducible apply jn) | (with_reducible apply both) | (with_reducible refine And.intro ?_ ?_) | ((with_reducible apply fin_eq); (try (simp (disch := omega) only [go_sem, hE, hH, k3])); first | done | rfl) | (simp (disch := omega) only [go_sem, hE, hH, k3]) | ((first | apply noMLL_sE | apply pk_sE) <;> (simp only [go_sem, hE, hH, k3]; done)) | (simp only [go_sem, hE, hH, k3]) | fail)
        all_goals first | omega | exact nilR_of ⟨_, rfl, fun _ => rfl⟩ | exact ⟨(standV p a.Who).1, ⟨rfl, rfl, rfl, rfl, rfl, rfl⟩, fun _ => rfl⟩ | exact ⟨(fallV p a.Who).1, ⟨rfl, rfl, rfl, rfl, rfl, rfl⟩, fun _ => rfl⟩ | exact ⟨(tickP p).1, ⟨rfl, rfl, rfl, rfl, rfl, rfl⟩, fun _ => rfl⟩ | trace_state
      · by_cases k4 : a.Kind = 4
        · rw [doP4 k4, netQ_2]
          refine fn_in h_impl_doPoll r_impl_doPoll ⟨by simp only [go_sem], fun E hE hH => ?_⟩; simp only [go_sem] at hE hH; simp only [go_sem, hE, hH, c_impl_doPoll]
          repeat' (first | ((with_reducible first | refine gd_t ?_ ?_ | refine gd_f ?_ ?_) <;> (intro h; have hb := h; (try simp only [nf] at h); simp (disch := omega) only [go_sem, hE, hH, k4, hb]; (try clear hb))) | ((with_reducible refine And.intro ?_ ?_); · omega) | ((first | refine ok_view ?_ | refine cvA (LoseOne_ok p.Net a.Who hm) ?_ | refine cvA (copyPoll_ok p h1 h2 h3 h4 h5) ?_); simp (disch := omega) only [go_sem, hE, hH, k4]) | (with_reducible apply jn) | (with_reducible apply both) | (with_reducible refine And.intro ?_ ?_) | ((with_reducible apply fin_eq); (try (simp (disch := omega) only [go_sem, hE, hH, k4])); first | done | rfl) | (simp (disch := omega) only [go_sem, hE, hH, k4]) | ((first | apply noMLL_sE | apply pk_sE) <;> (simp only [go_sem, hE, hH, k4]; done)) | (simp only [go_sem, hE, hH, k4]) | fail)
          all_goals first | omega | exact ⟨netP p (loseN p.Net a.Who).1, ⟨rfl, rfl, rfl, rfl, rfl, rfl⟩, fun h => (netQ_1 h).symm⟩ | trace_state
        · by_cases k5 : a.Kind = 5
          · rw [doP5 k5, netQ_2]
            refine fn_in h_impl_doPoll r_impl_doPoll ⟨by simp only [go_sem], fun E hE hH => ?_⟩; simp only [go_sem] at hE hH; simp only [go_sem, hE, hH, c_impl_doPoll]
            repeat' (first | ((with_reducible first | refine gd_t ?_ ?_ | refine gd_f ?_ ?_) <;> (intro h; have hb := h; (try simp only [nf] at h); simp (disch := omega) only [go_sem, hE, hH, k5, hb]; (try clear hb))) | ((with_reducible refine And.intro ?_ ?_); · omega) | ((first | refine ok_view ?_ | refine cvA (DoubleOne_ok p.Net a.Who hm) ?_ | refine cvA (copyPoll_ok p h1 h2 h3 h4 h5) ?_); simp (disch := omega) only [go_sem, hE, hH, k5]) | (with_reducible apply jn) | (with_reducible apply both) | (with_reducible refine And.intro ?_ ?_) | ((with_reducible apply fin_eq); (try (simp (disch := omega) only [go_sem, hE, hH, k5])); first | done | rfl) | (simp (disch := omega) only [go_sem, hE, hH, k5]) | ((first | apply noMLL_sE | apply pk_sE) <;> (simp only [go_sem, hE, hH, k5]; done)) | (simp only [go_sem, hE, hH, k5]) | fail)
            all_goals first | omega | exact ⟨netP p (dblN p.Net a.Who).1, ⟨rfl, rfl, rfl, rfl, rfl, rfl⟩, fun h => (netQ_1 h).symm⟩ | trace_state
          · by_cases k6 : a.Kind = 6
            · rw [doP6 k6, netQ_2]
              refine fn_in h_impl_doPoll r_impl_doPoll ⟨by simp only [go_sem], fun E hE hH => ?_⟩; simp only [go_sem] at hE hH; simp only [go_sem, hE, hH, c_impl_doPoll]
              repeat' (first | ((with_reducible first | refine gd_t ?_ ?_ | refine gd_f ?_ ?_) <;> (intro h; have hb := h; (try simp only [nf] at h); simp (disch := omega) only [go_sem, hE, hH, k6, hb]; (try clear hb))) | ((with_reducible refine And.intro ?_ ?_); · omega) | ((first | refine ok_view ?_ | refine cvA (DelayOne_ok p.Net a.Who a.By hm) ?_ | refine cvA (copyPoll_ok p h1 h2 h3 h4 h5) ?_); simp (disch := omega) only [go_sem, hE, hH, k6]) | (with_reducible apply jn) | (with_reducible apply both) | (with_reducible refine And.intro ?_ ?_) | ((with_reducible apply fin_eq); (try (simp (disch := omega) only [go_sem, hE, hH, k6])); first | done | rfl) | (simp (disch := omega) only [go_sem, hE, hH, k6]) | ((first | apply noMLL_sE | apply pk_sE) <;> (simp only [go_sem, hE, hH, k6]; done)) | (simp only [go_sem, hE, hH, k6]) | fail)
              all_goals first | omega | exact ⟨netP p (delN p.Net a.Who a.By).1, ⟨rfl, rfl, rfl, rfl, rfl, rfl⟩, fun h => (netQ_1 h).symm⟩ | trace_state
            · rw [doP0 k1 k2 k3 k4 k5 k6]
              refine fn_in h_impl_doPoll r_impl_doPoll ⟨by simp only [go_sem], fun E hE hH => ?_⟩; simp only [go_sem] at hE hH; simp only [go_sem, hE, hH, c_impl_doPoll]
              repeat' (first | ((with_reducible first | refine gd_t ?_ ?_ | refine gd_f ?_ ?_) <;> (intro h; have hb := h; (try simp only [nf] at h); simp (disch := omega) only [go_sem, hE, hH, hb]; (try clear hb))) | ((with_reducible refine And.intro ?_ ?_); · omega) | ((first | refine ok_view ?_ | refine cvA (copyPoll_ok p h1 h2 h3 h4 h5) ?_); simp (disch := omega) only [go_sem, hE, hH]) | (with_reducible apply jn) | (with_reducible apply both) | (with_reducible refine And.intro ?_ ?_) | ((with_reducible apply fin_eq); (try (simp (disch := omega) only [go_sem, hE, hH])); first | done | rfl) | (simp (disch := omega) only [go_sem, hE, hH]) | ((first | apply noMLL_sE | apply pk_sE) <;> (simp only [go_sem, hE, hH]; done)) | (simp only [go_sem, hE, hH]) | fail)
              all_goals first | omega | exact ⟨netP p zeroN, ⟨rfl, rfl, rfl, rfl, rfl, rfl⟩, fun h => by cases h⟩ | exact ⟨netP p zeroN, ⟨rfl, rfl, rfl, rfl, rfl, rfl⟩⟩ | (exfalso; omega) | trace_state
theorem l8Net_ok (p : Poll) (n : Net) (b : Bool) (h : pollSm p) : ACall Tryz.prog n_spec_l8Net [.agg (Poll.row false p), .agg (Net.row true n), bl b] (fun r l => r = .tup [.agg (Poll.row true (netV p (n, b)).1), bl (netV p (n, b)).2] ∧ l = [.agg (Poll.row false p), .any, bl b]) := by
  have hmx := mx_eq
  obtain ⟨h1, h2, h3, h4, h5⟩ := h
  cases b with
  | false =>
    have e : netV p (n, false) = (zeroP, false) := rfl
    refine fn_inD [false, true, false] h_spec_l8Net r_spec_l8Net ⟨by simp only [go_sem], fun E hE hH => ?_⟩; simp only [go_sem] at hE hH; simp only [go_sem, hE, hH, c_spec_l8Net]
    repeat' (first | ((with_reducible first | refine gd_t ?_ ?_ | refine gd_f ?_ ?_) <;> (intro h; have hb := h; (try simp only [nf] at h); simp (disch := omega) only [go_sem, hE, hH, e, hb]; (try clear hb))) | ((with_reducible refine And.intro ?_ ?_); · omega) | ((first | refine ok_view ?_ | refine cvA (l8Own_ok p h1 h2 h3 h4 h5) ?_); simp (disch := omega) only [go_sem, hE, hH, e]) | (with_reducible apply jn) | (with_reducible apply both) | (with_reducible refine And.intro ?_ ?_) | ((with_reducible apply fin_eq); (try (simp (disch := omega) only [go_sem, hE, hH, e])); first | done | rfl) | (simp (disch := omega) only [go_sem, hE, hH, e]) | ((first | apply noMLL_sE | apply pk_sE) <;> (simp only [go_sem, hE, hH, e]; done)) | (simp only [go_sem, hE, hH, e]) | fail)
    all_goals first | omega | rfl | trace_state
  | true =>
    have e : netV p (n, true) = (netP p n, true) := rfl
    refine fn_inD [false, true, false] h_spec_l8Net r_spec_l8Net ⟨by simp only [go_sem], fun E hE hH => ?_⟩; simp only [go_sem] at hE hH; simp only [go_sem, hE, hH, c_spec_l8Net]
    repeat' (first | ((with_reducible first | refine gd_t ?_ ?_ | refine gd_f ?_ ?_) <;> (intro h; have hb := h; (try simp only [nf] at h); simp (disch := omega) only [go_sem, hE, hH, e, hb]; (try clear hb))) | ((with_reducible refine And.intro ?_ ?_); · omega) | ((first | refine ok_view ?_ | refine cvA (l8Own_ok p h1 h2 h3 h4 h5) ?_); simp (disch := omega) only [go_sem, hE, hH, e]) | (with_reducible apply jn) | (with_reducible apply both) | (with_reducible refine And.intro ?_ ?_) | ((with_reducible apply fin_eq); (try (simp (disch := omega) only [go_sem, hE, hH, e])); first | done | rfl) | (simp (disch := omega) only [go_sem, hE, hH, e]) | ((first | apply noMLL_sE | apply pk_sE) <;> (simp only [go_sem, hE, hH, e]; done)) | (simp only [go_sem, hE, hH, e]) | fail)
    all_goals first | omega | rfl | trace_state
set_option maxHeartbeats 8000000 in
theorem l8Do_ok (p : Poll) (a : PollAct) (hg : Good p) : ACall Tryz.prog n_spec_l8Do [.agg (Poll.row false p), .agg (PollAct.row false a)] (fun r _ => r = .tup [.agg (Poll.row true (doP p a).1), bl (doP p a).2]) := by
  have hmx := mx_eq
  obtain ⟨hp, hq⟩ := good_pollOk hg
  have hm : p.Net.Homes.length ≤ maxLen := by have := hq.1; omega
  by_cases k1 : a.Kind = 1
  · rw [doP1 k1]
    refine fn_in h_spec_l8Do r_spec_l8Do ⟨by simp only [go_sem], fun E hE hH => ?_⟩; simp only [go_sem] at hE hH; simp only [go_sem, hE, hH, c_spec_l8Do]
    repeat' (first | ((with_reducible first | refine gd_t ?_ ?_ | refine gd_f ?_ ?_) <;> (intro h; have hb := h; (try simp only [nf] at h); simp (disch := omega) only [go_sem, hE, hH, k1, hb]; (try clear hb))) | ((with_reducible refine And.intro ?_ ?_); · omega) | ((first | refine ok_view ?_ | refine cvA (sStandUp_ok p a.Who hp hq) ?_); simp (disch := omega) only [go_sem, hE, hH, k1]) | (with_reducible apply jn) | (with_reducible apply both) | (with_reducible refine And.intro ?_ ?_) | ((with_reducible apply fin_eq); (try (simp (disch := omega) only [go_sem, hE, hH, k1])); first | done | rfl) | (simp (disch := omega) only [go_sem, hE, hH, k1]) | ((first | apply noMLL_sE | apply pk_sE) <;> (simp only [go_sem, hE, hH, k1]; done)) | (simp only [go_sem, hE, hH, k1]) | fail)
    all_goals first | omega | rfl | trace_state
  · by_cases k2 : a.Kind = 2
    · rw [doP2 k2]
      refine fn_in h_spec_l8Do r_spec_l8Do ⟨by simp only [go_sem], fun E hE hH => ?_⟩; simp only [go_sem] at hE hH; simp only [go_sem, hE, hH, c_spec_l8Do]
      repeat' (first | ((with_reducible first | refine gd_t ?_ ?_ | refine gd_f ?_ ?_) <;> (intro h; have hb := h; (try simp only [nf] at h); simp (disch := omega) only [go_sem, hE, hH, k2, hb]; (try clear hb))) | ((with_reducible refine And.intro ?_ ?_); · omega) | ((first | refine ok_view ?_ | refine cvA (sFallVoter_ok p a.Who hp hq) ?_); simp (disch := omega) only [go_sem, hE, hH, k2]) | (with_reducible apply jn) | (with_reducible apply both) | (with_reducible refine And.intro ?_ ?_) | ((with_reducible apply fin_eq); (try (simp (disch := omega) only [go_sem, hE, hH, k2])); first | done | rfl) | (simp (disch := omega) only [go_sem, hE, hH, k2]) | ((first | apply noMLL_sE | apply pk_sE) <;> (simp only [go_sem, hE, hH, k2]; done)) | (simp only [go_sem, hE, hH, k2]) | fail)
      all_goals first | omega | rfl | trace_state
    · by_cases k3 : a.Kind = 3
      · rw [doP3 k3]
        refine fn_in h_spec_l8Do r_spec_l8Do ⟨by simp only [go_sem], fun E hE hH => ?_⟩; simp only [go_sem] at hE hH; simp only [go_sem, hE, hH, c_spec_l8Do]
        repeat' (first | ((with_reducible first | refine gd_t ?_ ?_ | refine gd_f ?_ ?_) <;> (intro h; have hb := h; (try simp only [nf] at h); simp (disch := omega) only [go_sem, hE, hH, k3, hb]; (try clear hb))) | ((with_reducible refine And.intro ?_ ?_); · omega) | ((first | refine ok_view ?_ | refine cvA (sTickPoll_ok p hp hq) ?_); simp (disch := omega) only [go_sem, hE, hH, k3]) | (with_reducible apply jn) | (with_reducible apply both) | (with_reducible refine And.intro ?_ ?_) | ((with_reducible apply fin_eq); (try (simp (disch := omega) only [go_sem, hE, hH, k3])); first | done | rfl) | (simp (disch := omega) only [go_sem, hE, hH, k3]) | ((first | apply noMLL_sE | apply pk_sE) <;> (simp only [go_sem, hE, hH, k3]; done)) | (simp only [go_sem, hE, hH, k3]) | fail)
        all_goals first | omega | rfl | trace_state
      · by_cases k4 : a.Kind = 4
        · rw [doP4 k4]
          refine fn_in h_spec_l8Do r_spec_l8Do ⟨by simp only [go_sem], fun E hE hH => ?_⟩; simp only [go_sem] at hE hH; simp only [go_sem, hE, hH, c_spec_l8Do]
          repeat' (first | ((with_reducible first | refine gd_t ?_ ?_ | refine gd_f ?_ ?_) <;> (intro h; have hb := h; (try simp only [nf] at h); simp (disch := omega) only [go_sem, hE, hH, k4, hb]; (try clear hb))) | ((with_reducible refine And.intro ?_ ?_); · omega) | (refine ok_lend [false, true, false] ?_; simp (disch := omega) only [go_sem, hE, hH, k4]; refine cmA (l8Net_ok p (loseN p.Net a.Who).1 (loseN p.Net a.Who).2 hq) ?_; simp (disch := omega) only [go_sem, hE, hH, k4]) | ((first | refine ok_view ?_ | refine cvA (sLoseOne_ok p.Net a.Who hm) ?_); simp (disch := omega) only [go_sem, hE, hH, k4]) | (with_reducible apply jn) | (with_reducible apply both) | (with_reducible refine And.intro ?_ ?_) | ((with_reducible apply fin_eq); (try (simp (disch := omega) only [go_sem, hE, hH, k4])); first | done | rfl) | (simp (disch := omega) only [go_sem, hE, hH, k4]) | ((first | apply noMLL_sE | apply pk_sE) <;> (simp only [go_sem, hE, hH, k4]; done)) | (simp only [go_sem, hE, hH, k4]) | fail)
          all_goals first | omega | rfl | trace_state
        · by_cases k5 : a.Kind = 5
          · rw [doP5 k5]
            refine fn_in h_spec_l8Do r_spec_l8Do ⟨by simp only [go_sem], fun E hE hH => ?_⟩; simp only [go_sem] at hE hH; simp only [go_sem, hE, hH, c_spec_l8Do]
            repeat' (first | ((with_reducible first | refine gd_t ?_ ?_ | refine gd_f ?_ ?_) <;> (intro h; have hb := h; (try simp only [nf] at h); simp (disch := omega) only [go_sem, hE, hH, k5, hb]; (try clear hb))) | ((with_reducible refine And.intro ?_ ?_); · omega) | (refine ok_lend [false, true, false] ?_; simp (disch := omega) only [go_sem, hE, hH, k5]; refine cmA (l8Net_ok p (dblN p.Net a.Who).1 (dblN p.Net a.Who).2 hq) ?_; simp (disch := omega) only [go_sem, hE, hH, k5]) | ((first | refine ok_view ?_ | refine cvA (sDoubleOne_ok p.Net a.Who hm) ?_); simp (disch := omega) only [go_sem, hE, hH, k5]) | (with_reducible apply jn) | (with_reducible apply both) | (with_reducible refine And.intro ?_ ?_) | ((with_reducible apply fin_eq); (try (simp (disch := omega) only [go_sem, hE, hH, k5])); first | done | rfl) | (simp (disch := omega) only [go_sem, hE, hH, k5]) | ((first | apply noMLL_sE | apply pk_sE) <;> (simp only [go_sem, hE, hH, k5]; done)) | (simp only [go_sem, hE, hH, k5]) | fail)
            all_goals first | omega | rfl | trace_state
          · by_cases k6 : a.Kind = 6
            · rw [doP6 k6]
              refine fn_in h_spec_l8Do r_spec_l8Do ⟨by simp only [go_sem], fun E hE hH => ?_⟩; simp only [go_sem] at hE hH; simp only [go_sem, hE, hH, c_spec_l8Do]
              repeat' (first | ((with_reducible first | refine gd_t ?_ ?_ | refine gd_f ?_ ?_) <;> (intro h; have hb := h; (try simp only [nf] at h); simp (disch := omega) only [go_sem, hE, hH, k6, hb]; (try clear hb))) | ((with_reducible refine And.intro ?_ ?_); · omega) | (refine ok_lend [false, true, false] ?_; simp (disch := omega) only [go_sem, hE, hH, k6]; refine cmA (l8Net_ok p (delN p.Net a.Who a.By).1 (delN p.Net a.Who a.By).2 hq) ?_; simp (disch := omega) only [go_sem, hE, hH, k6]) | ((first | refine ok_view ?_ | refine cvA (sDelayOne_ok p.Net a.Who a.By hm) ?_); simp (disch := omega) only [go_sem, hE, hH, k6]) | (with_reducible apply jn) | (with_reducible apply both) | (with_reducible refine And.intro ?_ ?_) | ((with_reducible apply fin_eq); (try (simp (disch := omega) only [go_sem, hE, hH, k6])); first | done | rfl) | (simp (disch := omega) only [go_sem, hE, hH, k6]) | ((first | apply noMLL_sE | apply pk_sE) <;> (simp only [go_sem, hE, hH, k6]; done)) | (simp only [go_sem, hE, hH, k6]) | fail)
              all_goals first | omega | rfl | trace_state
            · rw [doP0 k1 k2 k3 k4 k5 k6]
              refine fn_in h_spec_l8Do r_spec_l8Do ⟨by simp only [go_sem], fun E hE hH => ?_⟩; simp only [go_sem] at hE hH; simp only [go_sem, hE, hH, c_spec_l8Do]
              repeat' (first | ((with_reducible first | refine gd_t ?_ ?_ | refine gd_f ?_ ?_) <;> (intro h; have hb := h; (try simp only [nf] at h); simp (disch := omega) only [go_sem, hE, hH, hb]; (try clear hb))) | ((with_reducible refine And.intro ?_ ?_); · omega) | (with_reducible apply jn) | (with_reducible apply both) | (with_reducible refine And.intro ?_ ?_) | ((with_reducible apply fin_eq); (try (simp (disch := omega) only [go_sem, hE, hH])); first | done | rfl) | (simp (disch := omega) only [go_sem, hE, hH]) | ((first | apply noMLL_sE | apply pk_sE) <;> (simp only [go_sem, hE, hH]; done)) | (simp only [go_sem, hE, hH]) | fail)
              all_goals first | omega | rfl | (exfalso; omega) | trace_state
set_option maxHeartbeats 8000000 in
theorem PlayPoll_ok (hI : ItoaH) (hR : ReadIntH) (p : Poll) (l : List PollAct) (hp : pollOk p) (hq : pollSm p) (hl : l.length ≤ maxLen) : ACall Tryz.prog n_impl_PlayPoll [.agg (Poll.row false p), .sl false 3 (l.map (PollAct.row false))] (fun r _ => r = .tup [.agg (Poll.row true (playP p l).1), bl (playP p l).2]) := by
  have hmx := mx_eq
  obtain ⟨h1, h2, h3, h4, h5⟩ := hq
  have hi := GoodPoll_ok p hp
  cases hg : goodPoll p with
  | false =>
    have e := playP_no (p := p) (l := l) (by simp [playC, hg])
    rw [hg] at hi
    refine fn_in h_impl_PlayPoll r_impl_PlayPoll ⟨by simp only [go_sem], fun E hE hH => ?_⟩; simp only [go_sem] at hE hH; simp only [go_sem, hE, hH, c_impl_PlayPoll]
    repeat' (first | ((with_reducible first | refine gd_t ?_ ?_ | refine gd_f ?_ ?_) <;> (intro h; have hb := h; (try simp only [nf] at h); simp (disch := omega) only [go_sem, hE, hH, e, hb]; (try clear hb))) | ((with_reducible refine And.intro ?_ ?_); · omega) | ((first | refine ok_view ?_ | refine cvA (hi) ?_); simp (disch := omega) only [go_sem, hE, hH, e]) | (with_reducible apply jn) | (with_reducible apply both) | (with_reducible refine And.intro ?_ ?_) | ((with_reducible apply fin_eq); (try (simp (disch := omega) only [go_sem, hE, hH, e])); first | done | rfl) | (simp (disch := omega) only [go_sem, hE, hH, e]) | ((first | apply noMLL_sE | apply pk_sE) <;> (simp only [go_sem, hE, hH, e]; done)) | (simp only [go_sem, hE, hH, e]) | fail)
    all_goals first | omega | rfl | trace_state
  | true =>
    rw [hg] at hi
    by_cases hlen : (l.length : Int) ≤ 200
    · have e := playP_yes (p := p) (l := l) (by simp [playC, hg]; omega)
      rw [e]
      refine fn_in h_impl_PlayPoll r_impl_PlayPoll ⟨by simp only [go_sem], fun E hE hH => ?_⟩; simp only [go_sem] at hE hH; simp only [go_sem, hE, hH, c_impl_PlayPoll]
      repeat' (first | ((with_reducible first | refine gd_t ?_ ?_ | refine gd_f ?_ ?_) <;> (intro h; have hb := h; (try simp only [nf] at h); simp (disch := omega) only [go_sem, hE, hH, hb]; (try clear hb))) | ((with_reducible refine And.intro ?_ ?_); · omega) | ((first | refine ok_view ?_ | refine cvA (hi) ?_ | refine cvA (copyPoll_ok p h1 h2 h3 h4 h5) ?_); simp (disch := omega) only [go_sem, hE, hH]) | (with_reducible apply jn) | (with_reducible apply both) | (with_reducible refine And.intro ?_ ?_) | ((with_reducible apply fin_eq); (try (simp (disch := omega) only [go_sem, hE, hH])); first | done | rfl) | (simp (disch := omega) only [go_sem, hE, hH]) | ((first | apply noMLL_sE | apply pk_sE) <;> (simp only [go_sem, hE, hH]; done)) | (simp only [go_sem, hE, hH]) | fail)
      all_goals try omega
      refine loopN l.length (fun j (x : Poll) => ⟨[(4, .ptr 5000000 0 0), (6, .ptr 7000000 0 0), (22, .sl false 3 (l.map (PollAct.row false))), (23, i64 l.length), (24, i64 j)], [(5000000, ⟨6, [[nils, i64 0, nils, i64 0, nils, nils]]⟩), (7000000, ⟨6, [[.ref 7000001 0 x.Voters.length, i64 x.Net.Now, .ref 7000003 0 x.Net.Homes.length, i64 x.Net.Far, .ref 7000005 0 x.Net.Under.length, .ref 7000006 0 x.Won.length]]⟩), (7000001, ⟨5, x.Voters.map (Voter.row true)⟩), (7000003, ⟨1, ints x.Net.Homes⟩), (7000005, ⟨4, x.Net.Under.map (Letter.row true)⟩), (7000006, ⟨2, x.Won.map (Won.row true)⟩)]⟩) (fun j x => Good x ∧ x = (l.take j).foldl stepP p) p ⟨good_iff.1 hg, rfl⟩ ?_
      rintro j x hj ⟨hI2, hx⟩
      try simp only [go_sem, hE, hH, c_impl_PlayPoll_l1]
      first | refine gd_t (fun h => ?_) (fun h => ?_) | refine gd_f (fun h => ?_) (fun h => ?_)
      · have hb := h
        simp only [nf] at h
        have hlt := h; clear h
        try simp (disch := omega) only [go_sem, hE, hH, hb]
        repeat' (first | ((with_reducible first | refine gd_t ?_ ?_ | refine gd_f ?_ ?_) <;> (intro h; have hb := h; (try simp only [nf] at h); simp (disch := omega) only [go_sem, hE, hH, hb]; (try clear hb))) | ((with_reducible refine And.intro ?_ ?_); · omega) | (refine ok_view ?_; simp (disch := omega) only [go_sem, hE, hH]; refine cvA (doPoll_ok hI hR x (nth l j) hI2) ?_; refine aftV_intro ?_; rintro _ _ ⟨q, rfl, hQ⟩; simp (disch := omega) only [go_sem, hE, hH]) | (with_reducible apply jn) | (with_reducible apply both) | (with_reducible refine And.intro ?_ ?_) | ((with_reducible apply fin_eq); (try (simp (disch := omega) only [go_sem, hE, hH])); first | done | rfl) | (simp (disch := omega) only [go_sem, hE, hH]) | ((first | apply noMLL_sE | apply pk_sE) <;> (simp only [go_sem, hE, hH]; done)) | (simp only [go_sem, hE, hH]) | fail)
        all_goals first | omega | exact ⟨q, rfl, by rw [hQ h]; exact (do_good hI2 h).1, by rw [foldl_succ hlt, ← hx, stepP, if_pos h, hQ h]⟩ | exact ⟨x, rfl, hI2, by rw [foldl_succ hlt, ← hx, stepP, if_neg (by simp [h])]⟩ | trace_state
      · try simp (disch := omega) only [go_sem, hE, hH, h]
        simp only [nf] at h
        have hx' : x = l.foldl stepP p := by rw [hx, show j = l.length by omega, List.take_length]
        repeat' (first | ((with_reducible first | refine gd_t ?_ ?_ | refine gd_f ?_ ?_) <;> (intro h; have hb := h; (try simp only [nf] at h); simp (disch := omega) only [go_sem, hE, hH, hb]; (try clear hb))) | ((with_reducible refine And.intro ?_ ?_); · omega) | (with_reducible apply jn) | (with_reducible apply both) | (with_reducible refine And.intro ?_ ?_) | ((with_reducible apply fin_eq); (try (simp (disch := omega) only [go_sem, hE, hH])); first | done | rfl) | (simp (disch := omega) only [go_sem, hE, hH]) | ((first | apply noMLL_sE | apply pk_sE) <;> (simp only [go_sem, hE, hH]; done)) | (simp only [go_sem, hE, hH]) | fail)
        all_goals first | (rw [← hx']; done) | (rw [← hx']; rfl) | (rw [← hx']; exact ⟨rfl, rfl, rfl, rfl, rfl, rfl⟩) | trace_state
    · have e := playP_no (p := p) (l := l) (by simp [playC]; omega)
      refine fn_in h_impl_PlayPoll r_impl_PlayPoll ⟨by simp only [go_sem], fun E hE hH => ?_⟩; simp only [go_sem] at hE hH; simp only [go_sem, hE, hH, c_impl_PlayPoll]
      repeat' (first | ((with_reducible first | refine gd_t ?_ ?_ | refine gd_f ?_ ?_) <;> (intro h; have hb := h; (try simp only [nf] at h); simp (disch := omega) only [go_sem, hE, hH, e, hb]; (try clear hb))) | ((with_reducible refine And.intro ?_ ?_); · omega) | ((first | refine ok_view ?_ | refine cvA (hi) ?_); simp (disch := omega) only [go_sem, hE, hH, e]) | (with_reducible apply jn) | (with_reducible apply both) | (with_reducible refine And.intro ?_ ?_) | ((with_reducible apply fin_eq); (try (simp (disch := omega) only [go_sem, hE, hH, e])); first | done | rfl) | (simp (disch := omega) only [go_sem, hE, hH, e]) | ((first | apply noMLL_sE | apply pk_sE) <;> (simp only [go_sem, hE, hH, e]; done)) | (simp only [go_sem, hE, hH, e]) | fail)
      all_goals first | omega | rfl | trace_state
set_option maxHeartbeats 8000000 in
theorem sPlayPoll_ok (p : Poll) (l : List PollAct) (hp : pollOk p) (hq : pollSm p) (hl : l.length ≤ maxLen) : ACall Tryz.prog n_spec_PlayPoll [.agg (Poll.row false p), .sl false 3 (l.map (PollAct.row false))] (fun r _ => r = .tup [.agg (Poll.row true (playP p l).1), bl (playP p l).2]) := by
  have hmx := mx_eq
  obtain ⟨h1, h2, h3, h4, h5⟩ := hq
  have hi := l8Good_ok p hp
  cases hg : goodPoll p with
  | false =>
    have e := playP_no (p := p) (l := l) (by simp [playC, hg])
    rw [hg] at hi
    refine fn_in h_spec_PlayPoll r_spec_PlayPoll ⟨by simp only [go_sem], fun E hE hH => ?_⟩; simp only [go_sem] at hE hH; simp only [go_sem, hE, hH, c_spec_PlayPoll]
    repeat' (first | ((with_reducible first | refine gd_t ?_ ?_ | refine gd_f ?_ ?_) <;> (intro h; have hb := h; (try simp only [nf] at h); simp (disch := omega) only [go_sem, hE, hH, e, hb]; (try clear hb))) | ((with_reducible refine And.intro ?_ ?_); · omega) | ((first | refine ok_view ?_ | refine cvA (hi) ?_); simp (disch := omega) only [go_sem, hE, hH, e]) | (with_reducible apply jn) | (with_reducible apply both) | (with_reducible refine And.intro ?_ ?_) | ((with_reducible apply fin_eq); (try (simp (disch := omega) only [go_sem, hE, hH, e])); first | done | rfl) | (simp (disch := omega) only [go_sem, hE, hH, e]) | ((first | apply noMLL_sE | apply pk_sE) <;> (simp only [go_sem, hE, hH, e]; done)) | (simp only [go_sem, hE, hH, e]) | fail)
    all_goals first | omega | rfl | trace_state
  | true =>
    rw [hg] at hi
    by_cases hlen : (l.length : Int) ≤ 200
    · have e := playP_yes (p := p) (l := l) (by simp [playC, hg]; omega)
      rw [e]
      refine fn_in h_spec_PlayPoll r_spec_PlayPoll ⟨by simp only [go_sem], fun E hE hH => ?_⟩; simp only [go_sem] at hE hH; simp only [go_sem, hE, hH, c_spec_PlayPoll]
      repeat' (first | ((with_reducible first | refine gd_t ?_ ?_ | refine gd_f ?_ ?_) <;> (intro h; have hb := h; (try simp only [nf] at h); simp (disch := omega) only [go_sem, hE, hH, hb]; (try clear hb))) | ((with_reducible refine And.intro ?_ ?_); · omega) | ((first | refine ok_view ?_ | refine cvA (hi) ?_ | refine cvA (l8Own_ok p h1 h2 h3 h4 h5) ?_); simp (disch := omega) only [go_sem, hE, hH]) | (with_reducible apply jn) | (with_reducible apply both) | (with_reducible refine And.intro ?_ ?_) | ((with_reducible apply fin_eq); (try (simp (disch := omega) only [go_sem, hE, hH])); first | done | rfl) | (simp (disch := omega) only [go_sem, hE, hH]) | ((first | apply noMLL_sE | apply pk_sE) <;> (simp only [go_sem, hE, hH]; done)) | (simp only [go_sem, hE, hH]) | fail)
      all_goals try omega
      refine loopN l.length (fun j (x : Poll) => ⟨[(1, .sl false 3 (l.map (PollAct.row false))), (4, .ptr 5000000 0 0), (6, .ptr 7000000 0 0), (7, i64 j)], [(5000000, ⟨6, [[nils, i64 0, nils, i64 0, nils, nils]]⟩), (7000000, ⟨6, [[.ref 7000001 0 x.Voters.length, i64 x.Net.Now, .ref 7000003 0 x.Net.Homes.length, i64 x.Net.Far, .ref 7000005 0 x.Net.Under.length, .ref 7000006 0 x.Won.length]]⟩), (7000001, ⟨5, x.Voters.map (Voter.row true)⟩), (7000003, ⟨1, ints x.Net.Homes⟩), (7000005, ⟨4, x.Net.Under.map (Letter.row true)⟩), (7000006, ⟨2, x.Won.map (Won.row true)⟩)]⟩) (fun j x => Good x ∧ x = (l.take j).foldl stepP p) p ⟨good_iff.1 hg, rfl⟩ ?_
      rintro j x hj ⟨hI2, hx⟩
      try simp only [go_sem, hE, hH, c_spec_PlayPoll_l1]
      first | refine gd_t (fun h => ?_) (fun h => ?_) | refine gd_f (fun h => ?_) (fun h => ?_)
      · have hb := h
        simp only [nf] at h
        have hlt := h; clear h
        try simp (disch := omega) only [go_sem, hE, hH, hb]
        repeat' (first | ((with_reducible first | refine gd_t ?_ ?_ | refine gd_f ?_ ?_) <;> (intro h; have hb := h; (try simp only [nf] at h); simp (disch := omega) only [go_sem, hE, hH, hb]; (try clear hb))) | ((with_reducible refine And.intro ?_ ?_); · omega) | ((first | refine ok_view ?_ | refine cvA (l8Do_ok x (nth l j) hI2) ?_); simp (disch := omega) only [go_sem, hE, hH]) | (with_reducible apply jn) | (with_reducible apply both) | (with_reducible refine And.intro ?_ ?_) | ((with_reducible apply fin_eq); (try (simp (disch := omega) only [go_sem, hE, hH])); first | done | rfl) | (simp (disch := omega) only [go_sem, hE, hH]) | ((first | apply noMLL_sE | apply pk_sE) <;> (simp only [go_sem, hE, hH]; done)) | (simp only [go_sem, hE, hH]) | fail)
        all_goals first | omega | exact ⟨(doP x (nth l j)).1, rfl, (do_good hI2 h).1, by rw [foldl_succ hlt, ← hx, stepP, if_pos h]⟩ | exact ⟨x, rfl, hI2, by rw [foldl_succ hlt, ← hx, stepP, if_neg (by simp [h])]⟩ | trace_state
      · try simp (disch := omega) only [go_sem, hE, hH, h]
        simp only [nf] at h
        have hx' : x = l.foldl stepP p := by rw [hx, show j = l.length by omega, List.take_length]
        repeat' (first | ((with_reducible first | refine gd_t ?_ ?_ | refine gd_f ?_ ?_) <;> (intro h; have hb := h; (try simp only [nf] at h); simp (disch := omega) only [go_sem, hE, hH, hb]; (try clear hb))) | ((with_reducible refine And.intro ?_ ?_); · omega) | (with_reducible apply jn) | (with_reducible apply both) | (with_reducible refine And.intro ?_ ?_) | ((with_reducible apply fin_eq); (try (simp (disch := omega) only [go_sem, hE, hH])); first | done | rfl) | (simp (disch := omega) only [go_sem, hE, hH]) | ((first | apply noMLL_sE | apply pk_sE) <;> (simp only [go_sem, hE, hH]; done)) | (simp only [go_sem, hE, hH]) | fail)
        all_goals first | (rw [← hx']; done) | (rw [← hx']; rfl) | (rw [← hx']; exact ⟨rfl, rfl, rfl, rfl, rfl, rfl⟩) | trace_state
    · have e := playP_no (p := p) (l := l) (by simp [playC]; omega)
      refine fn_in h_spec_PlayPoll r_spec_PlayPoll ⟨by simp only [go_sem], fun E hE hH => ?_⟩; simp only [go_sem] at hE hH; simp only [go_sem, hE, hH, c_spec_PlayPoll]
      repeat' (first | ((with_reducible first | refine gd_t ?_ ?_ | refine gd_f ?_ ?_) <;> (intro h; have hb := h; (try simp only [nf] at h); simp (disch := omega) only [go_sem, hE, hH, e, hb]; (try clear hb))) | ((with_reducible refine And.intro ?_ ?_); · omega) | ((first | refine ok_view ?_ | refine cvA (hi) ?_); simp (disch := omega) only [go_sem, hE, hH, e]) | (with_reducible apply jn) | (with_reducible apply both) | (with_reducible refine And.intro ?_ ?_) | ((with_reducible apply fin_eq); (try (simp (disch := omega) only [go_sem, hE, hH, e])); first | done | rfl) | (simp (disch := omega) only [go_sem, hE, hH, e]) | ((first | apply noMLL_sE | apply pk_sE) <;> (simp only [go_sem, hE, hH, e]; done)) | (simp only [go_sem, hE, hH, e]) | fail)
      all_goals first | omega | rfl | trace_state
structure FairV (p : Poll) (V : Nat → Int → Int → Prop) : Prop where
  fn : ∀ w t c c', V w t c → V w t c' → c = c'
  pos : ∀ w t c, V w t c → 0 ≤ c
  cur : ∀ w, w < p.Voters.length → (nth p.Voters w).For ≠ -1 → V w (nth p.Voters w).Term (nth p.Voters w).For
  le : ∀ w t c, w < p.Voters.length → V w t c → t ≤ (nth p.Voters w).Term
  eq : ∀ w c, w < p.Voters.length → V w (nth p.Voters w).Term c → (nth p.Voters w).For = c
  ltr : ∀ l ∈ p.Net.Under, ∀ t : Nat, 1 ≤ t → t ≤ 200 → l.Body = askB 121 t → V l.From.toNat t l.To
  yes : ∀ c : Nat, c < p.Voters.length → ∀ x ∈ (nth p.Voters c).Yes, V x.toNat (nth p.Voters c).Term c
  won : ∀ w ∈ p.Won, ∃ L : List Int, srtK L ∧ (∀ x ∈ L, 0 ≤ x ∧ x ≤ (p.Voters.length : Int) - 1) ∧ p.Voters.length < 2 * L.length ∧ ∀ x ∈ L, V x.toNat w.Term w.Who
def FairE (p : Poll) (V : Nat → Int → Int → Prop) : Prop := ∃ V', FairV p V' ∧ ∀ w t c, V w t c → V' w t c
theorem meet {n : Nat} {L M : List Int} (hL : srtK L) (hM : srtK M) (bL : ∀ x ∈ L, 0 ≤ x ∧ x ≤ (n : Int) - 1) (bM : ∀ x ∈ M, 0 ≤ x ∧ x ≤ (n : Int) - 1) (cL : n < 2 * L.length) (cM : n < 2 * M.length) : ∃ x, x ∈ L ∧ x ∈ M := by
  by_cases h : ∃ x, x ∈ L ∧ x ∈ M
  · exact h
  · exfalso
    have hn : (L ++ M).Nodup := List.nodup_append.2 ⟨srtK_nodup hL, srtK_nodup hM, fun x hx y hy e => h ⟨x, hx, e ▸ hy⟩⟩
    have := nodup_len n (L ++ M) hn fun x hx => by
      rcases List.mem_append.1 hx with hx | hx
      · have := bL x hx; omega
      · have := bM x hx; omega
    rw [List.length_append] at this
    omega
theorem FairV.one {p : Poll} {V : Nat → Int → Int → Prop} (h : FairV p V) {a b : Won} (ha : a ∈ p.Won) (hb : b ∈ p.Won) (e : a.Term = b.Term) : a.Who = b.Who := by
  obtain ⟨L, l1, l2, l3, l4⟩ := h.won a ha
  obtain ⟨M, m1, m2, m3, m4⟩ := h.won b hb
  obtain ⟨x, x1, x2⟩ := meet l1 m1 l2 m2 l3 m3
  exact h.fn _ _ _ _ (l4 x x1) (by rw [e]; exact m4 x x2)
theorem FairV.weak {p : Poll} {V : Nat → Int → Int → Prop} (h : FairV p V) {i : Nat} {y : Voter} {n : Net} (hi : i < p.Voters.length) (h1 : y.Term = (nth p.Voters i).Term) (h2 : y.For = (nth p.Voters i).For) (h3 : ∀ x ∈ y.Yes, x ∈ (nth p.Voters i).Yes) (hn : ∀ l ∈ n.Under, l ∈ p.Net.Under) : FairV ⟨p.Voters.set i y, n, p.Won⟩ V where
  fn := h.fn
  pos := h.pos
  cur := fun w hw => by
    simp only [List.length_set] at hw ⊢
    rw [nthSet hi]
    split
    · rename_i e; subst e; rw [h1, h2]; exact h.cur w hw
    · exact h.cur w hw
  le := fun w t c hw hv => by
    simp only [List.length_set] at hw ⊢
    rw [nthSet hi]
    split
    · rename_i e; subst e; rw [h1]; exact h.le w t c hw hv
    · exact h.le w t c hw hv
  eq := fun w c hw hv => by
    simp only [List.length_set] at hw hv ⊢
    rw [nthSet hi] at hv ⊢
    split at hv
    · rename_i e; subst e; rw [if_pos rfl, h2]; rw [h1] at hv; exact h.eq w c hw hv
    · rename_i e; rw [if_neg e]; exact h.eq w c hw hv
  ltr := fun l hl => h.ltr l (hn l hl)
  yes := fun c hc x hx => by
    simp only [List.length_set] at hc hx ⊢
    rw [nthSet hi] at hx ⊢
    split at hx
    · rename_i e; subst e; rw [if_pos rfl, h1]; exact h.yes c hc x (h3 x hx)
    · rename_i e; rw [if_neg e]; exact h.yes c hc x hx
  won := by simp only [List.length_set]; exact h.won
theorem FairV.later {p : Poll} {V : Nat → Int → Int → Prop} (h : FairV p V) {i : Nat} {y : Voter} (hi : i < p.Voters.length) (h1 : (nth p.Voters i).Term < y.Term) (h2 : (y.For = -1 ∧ y.Yes = []) ∨ (y.For = i ∧ ∀ x ∈ y.Yes, x = i)) : FairE ⟨p.Voters.set i y, p.Net, p.Won⟩ V := by
  have hlt : ∀ t c, V i t c → t < y.Term := fun t c hv => by have := h.le i t c hi hv; omega
  rcases h2 with ⟨h2, h3⟩ | ⟨h2, h3⟩
  · refine ⟨V, ⟨h.fn, h.pos, fun w hw => ?_, fun w t c hw hv => ?_, fun w c hw hv => ?_, h.ltr, fun c hc x hx => ?_, ?_⟩, fun _ _ _ h => h⟩
    · simp only [List.length_set] at hw ⊢
      rw [nthSet hi]
      split
      · rename_i e; subst e; intro hh; exact absurd h2 hh
      · exact h.cur w hw
    · simp only [List.length_set] at hw ⊢
      rw [nthSet hi]
      split
      · rename_i e; subst e; have := hlt _ _ hv; omega
      · exact h.le w t c hw hv
    · simp only [List.length_set] at hw hv ⊢
      rw [nthSet hi] at hv ⊢
      split at hv
      · rename_i e; subst e; have := hlt _ _ hv; omega
      · rename_i e; rw [if_neg e]; exact h.eq w c hw hv
    · simp only [List.length_set] at hc hx ⊢
      rw [nthSet hi] at hx ⊢
      split at hx
      · rw [h3] at hx; cases hx
      · rename_i e; rw [if_neg e]; exact h.yes c hc x hx
    · simp only [List.length_set]; exact h.won
  · refine ⟨fun w t c => V w t c ∨ (w = i ∧ t = y.Term ∧ c = i), ⟨fun w t c c' a b => ?_, fun w t c a => ?_, fun w hw => ?_, fun w t c hw hv => ?_, fun w c hw hv => ?_, fun l hl t a b e => .inl (h.ltr l hl t a b e), fun c hc x hx => ?_, ?_⟩, fun _ _ _ h => .inl h⟩
    · rcases a with a | ⟨rfl, rfl, rfl⟩
      · rcases b with b | ⟨rfl, rfl, rfl⟩
        · exact h.fn _ _ _ _ a b
        · have := hlt _ _ a; omega
      · rcases b with b | ⟨_, _, rfl⟩
        · have := hlt _ _ b; omega
        · rfl
    · rcases a with a | ⟨_, _, rfl⟩
      · exact h.pos _ _ _ a
      · omega
    · simp only [List.length_set] at hw ⊢
      rw [nthSet hi]
      split
      · rename_i e; intro _; exact .inr ⟨e, rfl, h2⟩
      · intro hh; exact .inl (h.cur w hw hh)
    · simp only [List.length_set] at hw ⊢
      rw [nthSet hi]
      split
      · rename_i e; subst e
        rcases hv with hv | ⟨_, rfl, _⟩
        · have := hlt _ _ hv; omega
        · omega
      · rename_i e
        rcases hv with hv | ⟨rfl, _, _⟩
        · exact h.le w t c hw hv
        · exact absurd rfl e
    · simp only [List.length_set] at hw hv ⊢
      rw [nthSet hi] at hv ⊢
      split at hv
      · rename_i e; subst e; rw [if_pos rfl]
        rcases hv with hv | ⟨_, _, rfl⟩
        · have := hlt _ _ hv; omega
        · exact h2
      · rename_i e; rw [if_neg e]
        rcases hv with hv | ⟨rfl, _, _⟩
        · exact h.eq w c hw hv
        · exact absurd rfl e
    · simp only [List.length_set] at hc hx ⊢
      rw [nthSet hi] at hx ⊢
      split at hx
      · rename_i e; subst e; rw [if_pos rfl, h3 x hx]; exact .inr ⟨by omega, rfl, rfl⟩
      · rename_i e; rw [if_neg e]; exact .inl (h.yes c hc x hx)
    · simp only [List.length_set]
      intro w hw
      obtain ⟨L, a, b, c, d⟩ := h.won w hw
      exact ⟨L, a, b, c, fun x hx => .inl (d x hx)⟩
theorem mem_send {n : Net} {f t : Int} {b : ByteArray} {l : Letter} (h : l ∈ (sendP n f t b).Under) : (l.From = f ∧ l.To = t ∧ l.Body = b) ∨ l ∈ n.Under := by
  unfold sendP at h
  split at h
  · rename_i hc
    rw [(sendN_good hc).2] at h
    simp only [withN, laidL, List.mem_append, List.mem_singleton] at h
    rcases h with (h | h) | h
    · exact .inr (List.mem_of_mem_take h)
    · left; rw [h]; exact ⟨rfl, rfl, rfl⟩
    · exact .inr (List.mem_of_mem_drop h)
  · exact .inr h
theorem mem_spread {n : Net} {v : Int} {b : ByteArray} {l : Letter} : ∀ {j : Nat}, l ∈ (spread n v b j).Under → l.Body = b ∨ l ∈ n.Under
  | 0, h => .inr h
  | j + 1, h => by
    rcases mem_send h with h | h
    · exact .inl h.2.2
    · exact mem_spread h
theorem FairV.net {p : Poll} {V : Nat → Int → Int → Prop} (h : FairV p V) {n : Net} (hn : ∀ l ∈ n.Under, ∀ t : Nat, 1 ≤ t → t ≤ 200 → l.Body = askB 121 t → V l.From.toNat t l.To) : FairV ⟨p.Voters, n, p.Won⟩ V := ⟨h.fn, h.pos, h.cur, h.le, h.eq, hn, h.yes, h.won⟩
theorem askB_ne (t u : Int) : askB 97 t ≠ askB 121 u := by
  intro h
  have := congrArg (fun b : ByteArray => b.data.toList.head?) h
  simp [askB] at this
theorem askB_inj {t u : Nat} (h1 : 1 ≤ t) (h2 : t ≤ 200) (h3 : 1 ≤ u) (h4 : u ≤ 200) (h : askB 121 t = askB 121 u) : t = u := by
  have := congrArg (fun b : ByteArray => b.data.toList.drop 1) h
  simp only [askB, List.drop_succ_cons, List.drop_zero, Int.toNat_natCast] at this
  obtain ⟨a, rfl⟩ : ∃ k, t = k + 1 := ⟨t - 1, by omega⟩
  obtain ⟨b, rfl⟩ : ∃ k, u = k + 1 := ⟨u - 1, by omega⟩
  rw [dgt_inj200 a (by omega) b (by omega) this]
theorem FairV.grant {p : Poll} {V : Nat → Int → Int → Prop} (h : FairV p V) {i : Nat} (hi : i < p.Voters.length) {t : Nat} {f : Int} {n : Net} (t1 : 1 ≤ t) (t2 : t ≤ 200) (e1 : (nth p.Voters i).Term = t) (hf : 0 ≤ f) (e2 : (nth p.Voters i).For = -1 ∨ (nth p.Voters i).For = f)
    (hn : ∀ l ∈ n.Under, (l.From = i ∧ l.To = f ∧ l.Body = askB 121 t) ∨ l ∈ p.Net.Under) : FairE ⟨p.Voters.set i (forV (nth p.Voters i) f), n, p.Won⟩ V := by
  have K : ∀ c, V i t c → c = f := fun c hc => by
    have h1 := h.eq i c hi (by rw [e1]; exact hc)
    have h2 := h.pos _ _ _ hc
    rcases e2 with e2 | e2 <;> omega
  refine ⟨fun w u c => V w u c ∨ (w = i ∧ u = t ∧ c = f), ⟨fun w u c c' a b => ?_, fun w u c a => ?_, fun w hw => ?_, fun w u c hw hv => ?_, fun w c hw hv => ?_, fun l hl u a b e => ?_, fun c hc x hx => ?_, ?_⟩, fun _ _ _ h => .inl h⟩
  · rcases a with a | ⟨rfl, rfl, rfl⟩
    · rcases b with b | ⟨rfl, rfl, rfl⟩
      · exact h.fn _ _ _ _ a b
      · exact K _ a
    · rcases b with b | ⟨_, _, rfl⟩
      · exact (K _ b).symm
      · rfl
  · rcases a with a | ⟨_, _, rfl⟩
    · exact h.pos _ _ _ a
    · exact hf
  · simp only [List.length_set] at hw ⊢
    rw [nthSet hi]
    split
    · rename_i e; intro _; exact .inr ⟨e, e1, rfl⟩
    · intro hh; exact .inl (h.cur w hw hh)
  · simp only [List.length_set] at hw ⊢
    rw [nthSet hi]
    split
    · rename_i e; subst e
      rcases hv with hv | ⟨_, rfl, _⟩
      · exact h.le _ _ _ hw hv
      · simp only [forV]; omega
    · rename_i e
      rcases hv with hv | ⟨rfl, _, _⟩
      · exact h.le w u c hw hv
      · exact absurd rfl e
  · simp only [List.length_set] at hw hv ⊢
    rw [nthSet hi] at hv ⊢
    split at hv
    · rename_i e; subst e; rw [if_pos rfl]
      rcases hv with hv | ⟨_, _, rfl⟩
      · simp only [forV, e1] at hv ⊢
        exact (K _ hv).symm
      · rfl
    · rename_i e; rw [if_neg e]
      rcases hv with hv | ⟨rfl, _, _⟩
      · exact h.eq w c hw hv
      · exact absurd rfl e
  · rcases hn l hl with ⟨b1, b2, b3⟩ | hl
    · rw [b3] at e
      have := askB_inj t1 t2 a b e
      subst this
      exact .inr ⟨by omega, rfl, b2⟩
    · exact .inl (h.ltr l hl u a b e)
  · simp only [List.length_set] at hc hx ⊢
    rw [nthSet hi] at hx ⊢
    split at hx
    · rename_i e; subst e; rw [if_pos rfl]; exact .inl (h.yes c hc x hx)
    · rename_i e; rw [if_neg e]; exact .inl (h.yes c hc x hx)
  · simp only [List.length_set]
    intro w hw
    obtain ⟨L, a, b, c, d⟩ := h.won w hw
    exact ⟨L, a, b, c, fun x hx => .inl (d x hx)⟩
theorem stand_fair {p : Poll} {v : Int} (h : (standV p v).2 = true) {V : Nat → Int → Int → Prop} (hV : FairV p V) : FairE (standV p v).1 V := by
  unfold standV at h ⊢
  split at h
  · rename_i hc
    rw [if_pos hc]
    simp only [standC, Bool.and_eq_true] at hc
    obtain ⟨h1, h2⟩ := fallC_at hc.1.1
    obtain ⟨V2, h3, h5⟩ := hV.later (i := v.toNat) (y := ⟨true, (nth p.Voters v.toNat).Term + 1, v, [v], false⟩) (by omega) (by simp only; omega) (.inr ⟨by simp only; omega, by simp; omega⟩)
    refine ⟨V2, h3.net fun l hl t a b e => ?_, h5⟩
    rcases mem_spread hl with h4 | h4
    · rw [h4] at e; exact absurd e (askB_ne _ _)
    · exact h3.ltr l h4 t a b e
  · cases h
theorem fall_fair {p : Poll} {v : Int} (h : (fallV p v).2 = true) {V : Nat → Int → Int → Prop} (hV : FairV p V) : FairE (fallV p v).1 V := by
  unfold fallV at h ⊢
  split at h
  · rename_i hc
    rw [if_pos hc]
    obtain ⟨h1, h2⟩ := fallC_at hc
    exact ⟨V, hV.weak (by omega) rfl rfl (by simp [fellV]) (fun l hl => hl), fun _ _ _ h => h⟩
  · cases h
theorem ask_fair {p : Poll} (hp : Good p) {V : Nat → Int → Int → Prop} (hV : FairV p V) {l : Letter} (hl : LOk p.Net.Homes.length l) {t : Nat} (ht : 1 ≤ t ∧ t ≤ 200) : FairE (askP p l t) V := by
  have hv := hp.v
  have b1 := hl.t
  have b2 := hl.f
  have hi : l.To.toNat < p.Voters.length := by omega
  have h0 : FairE ⟨p.Voters.set l.To.toNat (askX (nth p.Voters l.To.toNat) t), p.Net, p.Won⟩ V := by
    unfold askX
    split
    · rename_i hlt
      exact hV.later hi hlt (.inl ⟨rfl, rfl⟩)
    · exact ⟨V, hV.weak hi rfl rfl (fun x hx => hx) (fun l hl => hl), fun _ _ _ h => h⟩
  obtain ⟨V1, h1, h2⟩ := h0
  unfold askP
  split
  · rename_i hA
    simp only [askC, Bool.and_eq_true, Bool.or_eq_true, decide_eq_true_eq] at hA
    generalize askX (nth p.Voters l.To.toNat) t = y at h1 hA ⊢
    have hat : nth (p.Voters.set l.To.toNat y) l.To.toNat = y := by rw [nthSet hi, if_pos rfl]
    obtain ⟨V2, h3, h4⟩ := h1.grant (i := l.To.toNat) (t := t) (f := l.From) (n := sendP p.Net l.To l.From (askB 121 t)) (by simp only [List.length_set]; exact hi) ht.1 ht.2 (by simp only [hat]; exact hA.1) b2.1 (by simp only [hat]; exact hA.2)
      (fun x hx => (mem_send hx).imp (fun h => ⟨by rw [h.1]; omega, h.2⟩) id)
    simp only [hat, List.set_set] at h3
    exact ⟨V2, h3, fun w u c h => h4 w u c (h2 w u c h)⟩
  · exact ⟨V1, h1, h2⟩
theorem cnt_fair {p : Poll} (hp : Good p) {V : Nat → Int → Int → Prop} (hV : FairV p V) {l : Letter} (hl : LOk p.Net.Homes.length l) {t : Nat} (hv1 : V l.From.toNat t l.To) : FairV (cntP p l t) V := by
  have hv := hp.v
  have b1 := hl.t
  have b2 := hl.f
  have hi : l.To.toNat < p.Voters.length := by omega
  have hc : ((l.To.toNat : Nat) : Int) = l.To := by omega
  have hx := hp.vs _ hi
  unfold cntP
  split
  · rename_i hC
    simp only [cntC, Bool.and_eq_true, decide_eq_true_eq] at hC
    have hys : ∀ x ∈ yesPut (nth p.Voters l.To.toNat).Yes l.From, V x.toNat (nth p.Voters l.To.toNat).Term l.To := fun x hx => by
      rcases mem_yesPut hx with rfl | hx
      · rw [hC.1]; exact hv1
      · have := hV.yes _ hi x hx
        rwa [hc] at this
    have base : ∀ (b : Bool) (W : List Won), (∀ w ∈ W, ∃ L : List Int, srtK L ∧ (∀ x ∈ L, 0 ≤ x ∧ x ≤ (p.Voters.length : Int) - 1) ∧ p.Voters.length < 2 * L.length ∧ ∀ x ∈ L, V x.toNat w.Term w.Who) → FairV ⟨p.Voters.set l.To.toNat (yesV (nth p.Voters l.To.toNat) (yesPut (nth p.Voters l.To.toNat).Yes l.From) b), p.Net, W⟩ V := by
      intro b W hW
      refine ⟨hV.fn, hV.pos, fun w hw => ?_, fun w u c hw hv => ?_, fun w c hw hv => ?_, hV.ltr, fun c hc2 x hxx => ?_, ?_⟩
      · simp only [List.length_set] at hw ⊢
        rw [nthSet hi]
        split
        · rename_i e; subst e; exact hV.cur _ hw
        · exact hV.cur w hw
      · simp only [List.length_set] at hw ⊢
        rw [nthSet hi]
        split
        · rename_i e; subst e; exact hV.le _ _ _ hw hv
        · exact hV.le w u c hw hv
      · simp only [List.length_set] at hw hv ⊢
        rw [nthSet hi] at hv ⊢
        split at hv
        · rename_i e; subst e; rw [if_pos rfl]; exact hV.eq _ c hw hv
        · rename_i e; rw [if_neg e]; exact hV.eq w c hw hv
      · simp only [List.length_set] at hc2 hxx ⊢
        rw [nthSet hi] at hxx ⊢
        split at hxx
        · rename_i e; subst e; rw [if_pos rfl, hc]; exact hys x hxx
        · rename_i e; rw [if_neg e]; exact hV.yes c hc2 x hxx
      · simp only [List.length_set]; exact hW
    split
    · rename_i hW
      simp only [winC, Bool.and_eq_true, decide_eq_true_eq] at hW
      refine base _ _ fun w hw => ?_
      have new : ∃ L : List Int, srtK L ∧ (∀ x ∈ L, 0 ≤ x ∧ x ≤ (p.Voters.length : Int) - 1) ∧ p.Voters.length < 2 * L.length ∧ ∀ x ∈ L, V x.toNat t l.To := by
        refine ⟨_, yesPut_srt hx.y.2, fun x hxx => ?_, hW.1, fun x hxx => ?_⟩
        · rcases mem_yesPut hxx with rfl | hxx
          · omega
          · have := hx.y.1 x hxx; omega
        · have := hys x hxx
          rwa [hC.1] at this
      unfold wonP at hw
      split at hw
      · rcases List.mem_append.1 hw with hw | hw
        · exact hV.won w hw
        · simp only [List.mem_singleton] at hw
          subst hw
          exact new
      · exact hV.won w hw
    · exact base _ _ hV.won
  · exact hV
def ltrV (V : Nat → Int → Int → Prop) (l : Letter) : Prop := ∀ t : Nat, 1 ≤ t → t ≤ 200 → l.Body = askB 121 t → V l.From.toNat t l.To
theorem body_eq {b : ByteArray} {t : Nat} (h1 : 1 ≤ b.size) (h2 : tailB b = dgt t) (h3 : byt b 0 = 121) : b = askB 121 t := by
  obtain ⟨⟨l⟩⟩ := b
  rcases l with _ | ⟨a, l⟩
  · simp [ByteArray.size] at h1
  · simp only [tailB, List.drop_succ_cons, List.drop_zero] at h2
    simp only [byt, List.getD_cons_zero] at h3
    have : a = UInt8.ofNat 121 := by
      apply UInt8.toNat_inj.1
      rw [UInt8.toNat_ofNat']; omega
    rw [h2, this, askB, Int.toNat_natCast]
theorem hear_fair {p : Poll} (hp : Good p) {V : Nat → Int → Int → Prop} (hV : FairV p V) {l : Letter} (hl : LOk p.Net.Homes.length l) (hq : ltrV V l) : FairE (hearP p l) V := by
  unfold hearP
  split
  · exact ⟨V, hV, fun _ _ _ h => h⟩
  · rename_i t ht
    obtain ⟨a, b, c⟩ := rdT_some.1 ht
    split
    · split
      · exact ask_fair hp hV hl ⟨a, b⟩
      · split
        · rename_i h1
          exact ⟨V, cnt_fair hp hV hl (hq t a b (body_eq hl.b.1 c h1)), fun _ _ _ h => h⟩
        · exact ⟨V, hV, fun _ _ _ h => h⟩
    · exact ⟨V, hV, fun _ _ _ h => h⟩
theorem hears_fair : ∀ {L : List Letter} {p : Poll} (_ : Good p) {V : Nat → Int → Int → Prop} (_ : FairV p V), (∀ l ∈ L, LOk p.Net.Homes.length l) → (∀ l ∈ L, ltrV V l) → FairE (L.foldl hearP p) V
  | [], p, _, V, hV, _, _ => ⟨V, hV, fun _ _ _ h => h⟩
  | l :: L, p, hp, V, hV, hL, hq => by
    obtain ⟨h1, h2⟩ := hear_good hp (hL l (List.mem_cons_self ..))
    obtain ⟨V1, h3, h4⟩ := hear_fair hp hV (hL l (List.mem_cons_self ..)) (hq l (List.mem_cons_self ..))
    obtain ⟨V2, h5, h6⟩ := hears_fair (L := L) h1 h3 (fun x hx => by rw [h2]; exact hL x (List.mem_cons_of_mem _ hx)) (fun x hx t a b e => h4 _ _ _ (hq x (List.mem_cons_of_mem _ hx) t a b e))
    exact ⟨V2, h5, fun w t c h => h6 w t c (h4 w t c h)⟩
theorem tick_fair {p : Poll} (h : (tickP p).2 = true) {V : Nat → Int → Int → Prop} (hV : FairV p V) : FairE (tickP p).1 V := by
  unfold tickP at h ⊢
  split at h
  · rename_i hc
    rw [if_pos hc]
    simp only [tickC, Bool.and_eq_true] at hc
    have hp := good_iff.1 hc.1
    obtain ⟨h1, h2, h3⟩ := tickN_good hc.2
    have hh : (tickN1 p).Homes = p.Net.Homes := by unfold tickN1; rw [h3]
    have hu : (tickN1 p).Under = p.Net.Under := by unfold tickN1; rw [h3]
    have h0 : Good (tick0 p) := hp.netP (good_drop h2 _) hh
    have hL : ∀ l ∈ tickL p, LOk (tick0 p).Net.Homes.length l := fun l hl => good_u h2 l (List.mem_of_mem_take hl)
    refine hears_fair h0 (hV.net fun l hl => ?_) hL fun l hl => ?_
    · refine hV.ltr l ?_
      rw [← hu]; exact List.mem_of_mem_drop hl
    · refine hV.ltr l ?_
      rw [← hu]; exact List.mem_of_mem_take hl
  · cases h
theorem netV_fair {p : Poll} {n : Net × Bool} (hn : n.2 = true → ∀ l ∈ n.1.Under, ∃ m ∈ p.Net.Under, l.From = m.From ∧ l.To = m.To ∧ l.Body = m.Body) (h : (netV p n).2 = true) {V : Nat → Int → Int → Prop} (hV : FairV p V) : FairE (netV p n).1 V := by
  unfold netV at h ⊢
  split at h
  · rename_i hc
    rw [if_pos hc]
    refine ⟨V, hV.net fun l hl t a b e => ?_, fun _ _ _ h => h⟩
    obtain ⟨m, h1, h2, h3, h4⟩ := hn hc l hl
    rw [h2, h3]
    exact hV.ltr m h1 t a b (by rw [← h4]; exact e)
  · cases h
theorem mem_outL {u : List Letter} {i : Nat} {x : Letter} (h : x ∈ outL u i) : x ∈ u := by
  unfold outL at h
  rcases List.mem_append.1 h with h | h
  · exact List.mem_of_mem_take h
  · exact List.mem_of_mem_drop h
theorem mem_laidL {u : List Letter} {x y : Letter} (h : y ∈ laidL u x) : y = x ∨ y ∈ u := by
  simp only [laidL, List.mem_append, List.mem_singleton] at h
  rcases h with (h | h) | h
  · exact .inr (List.mem_of_mem_take h)
  · exact .inl h
  · exact .inr (List.mem_of_mem_drop h)
theorem hasN_mem {n : Net} {i : Int} (h : hasN n i = true) : nth n.Under i.toNat ∈ n.Under := by
  simp only [hasN, Bool.and_eq_true, rng_iff] at h
  exact nth_mem (by omega)
theorem do_fair {p : Poll} {a : PollAct} (h : (doP p a).2 = true) {V : Nat → Int → Int → Prop} (hV : FairV p V) : FairE (doP p a).1 V := by
  unfold doP at h ⊢
  repeat' (split at h)
  · rename_i e; rw [if_pos e]; exact stand_fair h hV
  · rename_i e1 e; rw [if_neg e1, if_pos e]; exact fall_fair h hV
  · rename_i e1 e2 e; rw [if_neg e1, if_neg e2, if_pos e]; exact tick_fair h hV
  · rename_i e1 e2 e3 e; rw [if_neg e1, if_neg e2, if_neg e3, if_pos e]
    refine netV_fair (fun hc l hl => ?_) h hV
    unfold loseN at hc hl
    split at hc
    · rename_i hh; rw [if_pos hh] at hl; exact ⟨l, mem_outL hl, rfl, rfl, rfl⟩
    · cases hc
  · rename_i e1 e2 e3 e4 e; rw [if_neg e1, if_neg e2, if_neg e3, if_neg e4, if_pos e]
    refine netV_fair (fun hc l hl => ?_) h hV
    unfold dblN at hc hl
    split at hc
    · rename_i hh; rw [if_pos hh, (ifN_good hc).2] at hl
      rcases mem_laidL hl with rfl | hl
      · exact ⟨nth p.Net.Under a.Who.toNat, hasN_mem hh, rfl, rfl, rfl⟩
      · exact ⟨l, hl, rfl, rfl, rfl⟩
    · cases hc
  · rename_i e1 e2 e3 e4 e5 e; rw [if_neg e1, if_neg e2, if_neg e3, if_neg e4, if_neg e5, if_pos e]
    refine netV_fair (fun hc l hl => ?_) h hV
    unfold delN at hc hl
    split at hc
    · rename_i hh; rw [if_pos hh, (ifN_good hc).2] at hl
      simp only [Bool.and_eq_true] at hh
      rcases mem_laidL hl with rfl | hl
      · exact ⟨nth p.Net.Under a.Who.toNat, hasN_mem hh.1, rfl, rfl, rfl⟩
      · exact ⟨l, mem_outL hl, rfl, rfl, rfl⟩
    · cases hc
  · cases h
theorem step_fair {p : Poll} (a : PollAct) {V : Nat → Int → Int → Prop} (hV : FairV p V) : FairE (stepP p a) V := by
  unfold stepP
  split
  · rename_i h; exact do_fair h hV
  · exact ⟨V, hV, fun _ _ _ h => h⟩
end Go.Proofs.Wb

/- Contracts of functions. -/
import Derived.Test.YtfjieglppmcelaaFnSealsKA
import Derived.Laws.Externs
set_option linter.unusedSimpArgs false
set_option linter.unusedVariables false
set_option linter.unusedSectionVars false
namespace Go.Proofs.Wb
open Go Go.Am
def numF (l : List Int) : Nat := l.foldl (fun n x => (31 * n + x.toNat) % 1000003) 0
theorem numF_lt (l : List Int) : numF l < 1000003 := by
  have h : ∀ (l : List Int) (n : Nat), n < 1000003 → l.foldl (fun n x => (31 * n + x.toNat) % 1000003) n < 1000003 := by
    intro l
    induction l with
    | nil => intro n h; exact h
    | cons a l ih => intro n h; exact ih _ (Nat.mod_lt _ (by omega))
  exact h l 0 (by omega)
theorem numF_succ {l : List Int} {j : Nat} (h : j < l.length) : numF (l.take (j + 1)) = (31 * numF (l.take j) + (nth l j).toNat) % 1000003 := by
  have e : l.take (j + 1) = l.take j ++ [nth l j] := by
    rw [List.take_succ_eq_append_getElem h]; simp [nth, List.getD, h]
  rw [e, numF, List.foldl_append]; rfl
theorem numberOf_ok (vc : List Int) (hc : isB vc) : ACall Try.prog n_laws_numberOf [.sl false 1 (bys vc)] (fun r _ => r = i64 (numF vc)) := by
  have hmx := mx_eq
  obtain ⟨hl, hB⟩ := hc
  refine fn_in h_laws_numberOf r_laws_numberOf ⟨by simp only [go_sem], fun E hE hH => ?_⟩; simp only [go_sem] at hE hH; simp only [go_sem, hE, hH, c_laws_numberOf]
  repeat' (first | ((with_reducible first | refine gd_t ?_ ?_ | refine gd_f ?_ ?_) <;> (intro h; have hb := h; (try simp only [nf, beq_iff_eq, bne_iff_ne, beq_eq_false_iff_ne, bne_eq_false_iff_eq] at h); simp (disch := omega) only [go_sem, hE, hH, hb]; (try clear hb))) | ((with_reducible refine And.intro ?_ ?_); · omega) | (refine jn _ ?_ ?_) | (with_reducible refine both ?_ ?_) | (with_reducible refine And.intro ?_ ?_) | (refine fin_eq ?_; (try (simp (disch := omega) only [go_sem, hE, hH])); first | done | rfl) | (simp (disch := omega) only [go_sem, hE, hH]) | ((first | apply noMLL_sE | apply pk_sE) <;> (simp only [go_sem, hE, hH]; done)) | (simp only [go_sem, hE, hH]) | fail)
  refine loopNe vc.length (fun j (_ : Unit) => ⟨[(3, i64 (numF (vc.take j))), (6, .sl false 1 (bys vc)), (7, i64 vc.length), (8, i64 j)], []⟩) (fun _ _ => True) () rfl trivial ?_
  intro j _ hj _
  have hs := numF_lt (vc.take j)
  try simp only [go_sem, hE, hH, c_laws_numberOf_l1]
  first | refine gd_t (fun q1 => ?_) (fun q1 => ?_) | refine gd_f (fun q1 => ?_) (fun q1 => ?_)
  · have q2 := q1
    simp only [nf, beq_iff_eq, bne_iff_ne, beq_eq_false_iff_ne, bne_eq_false_iff_eq] at q1
    have hb1 := hB _ (nth_mem q1)
    have e : ((31 * (numF (vc.take j) : Int) + nth vc j).tmod 1000003) = (numF (vc.take (j + 1)) : Int) := by
      rw [numF_succ q1, ← tmn, show ((31 * numF (vc.take j) + (nth vc j).toNat : Nat) : Int) = 31 * (numF (vc.take j) : Int) + nth vc j by omega]; rfl
    try simp (disch := omega) only [go_sem, hE, hH, q2]
    repeat' (first | ((with_reducible first | refine gd_t ?_ ?_ | refine gd_f ?_ ?_) <;> (intro h; have hb := h; (try simp only [nf, beq_iff_eq, bne_iff_ne, beq_eq_false_iff_ne, bne_eq_false_iff_eq] at h); simp (disch := omega) only [go_sem, hE, hH, e, hb]; (try clear hb))) | ((with_reducible refine And.intro ?_ ?_); · omega) | (refine jn _ ?_ ?_) | (with_reducible refine both ?_ ?_) | (with_reducible refine And.intro ?_ ?_) | (refine fin_eq ?_; (try (simp (disch := omega) only [go_sem, hE, hH, e])); first | done | rfl) | (simp (disch := omega) only [go_sem, hE, hH, e]) | ((first | apply noMLL_sE | apply pk_sE) <;> (simp only [go_sem, hE, hH, e]; done)) | (simp only [go_sem, hE, hH, e]) | fail)
    all_goals first | exact ⟨(), rfl⟩ | omega | decide | trace_state
  · have q2 := q1
    simp only [nf, beq_iff_eq, bne_iff_ne, beq_eq_false_iff_ne, bne_eq_false_iff_eq] at q2
    obtain rfl : j = vc.length := by omega
    try simp (disch := omega) only [go_sem, hE, hH, q1]
    repeat' (first | ((with_reducible first | refine gd_t ?_ ?_ | refine gd_f ?_ ?_) <;> (intro h; have hb := h; (try simp only [nf, beq_iff_eq, bne_iff_ne, beq_eq_false_iff_ne, bne_eq_false_iff_eq] at h); simp (disch := omega) only [go_sem, hE, hH, hb]; (try clear hb))) | ((with_reducible refine And.intro ?_ ?_); · omega) | (refine jn _ ?_ ?_) | (with_reducible refine both ?_ ?_) | (with_reducible refine And.intro ?_ ?_) | (refine fin_eq ?_; (try (simp (disch := omega) only [go_sem, hE, hH])); first | done | rfl) | (simp (disch := omega) only [go_sem, hE, hH]) | ((first | apply noMLL_sE | apply pk_sE) <;> (simp only [go_sem, hE, hH]; done)) | (simp only [go_sem, hE, hH]) | fail)
    all_goals (rw [List.take_length])
theorem u8_wrap_of (x : Int) : IntKind.u8.wrap x = ((UInt8.ofNat (IntKind.u8.wrap x).toNat).toNat : Nat) := by
  have h : 0 ≤ IntKind.u8.wrap x ∧ IntKind.u8.wrap x < 256 := by
    simp [IntKind.wrap, IntKind.bits, IntKind.signed]; omega
  simp
  omega
theorem u8r_set (bs : List UInt8) (j : Nat) (x : Int) : (bs.map u8r).set j [.v (.int .u8 (IntKind.u8.wrap x))] = (bs.set j (UInt8.ofNat (IntKind.u8.wrap x).toNat)).map u8r := by
  have h : u8r (UInt8.ofNat (IntKind.u8.wrap x).toNat) = [.v (.int .u8 (IntKind.u8.wrap x))] := by rw [u8r, ← u8_wrap_of x]
  rw [List.map_set, h]
theorem long_ok (code : List Int) (hb : isB code) (a : Nat) (s : Int) (ha : a ≤ 2 ^ 58) : ACall Try.prog n_pspec_l1Cur_long [cur code a s] (fun r l => ∃ (x : List UInt8), r = sS x ∧ l = [.any] ∧ 5996 ≤ x.length ∧ x.length ≤ 6001) := by
  have hmx := mx_eq
  refine fn_inD [true] h_pspec_l1Cur_long r_pspec_l1Cur_long ⟨by simp only [go_sem], fun E hE hH => ?_⟩; simp only [go_sem] at hE hH; simp only [go_sem, hE, hH, c_pspec_l1Cur_long]
  repeat' (first | ((with_reducible first | refine gd_t ?_ ?_ | refine gd_f ?_ ?_) <;> (intro h; have hb := h; (try simp only [nf, beq_iff_eq, bne_iff_ne, beq_eq_false_iff_ne, bne_eq_false_iff_eq] at h); simp (disch := omega) only [go_sem, hE, hH, hb]; (try clear hb))) | ((with_reducible refine And.intro ?_ ?_); · omega) | (refine ok_lend [true, false] ?_; simp (disch := omega) only [go_sem, hE, hH]; refine cmA (pick_ok _ code hb _ _ (by omega) (by omega)) ?_; refine aftM_intro ?_; rintro _ _ ⟨y, a', s', rfl, rfl, h1, h2, h3⟩; simp (disch := omega) only [go_sem, hE, hH]) | (refine jn _ ?_ ?_) | (with_reducible refine both ?_ ?_) | (with_reducible refine And.intro ?_ ?_) | (refine fin_eq ?_; (try (simp (disch := omega) only [go_sem, hE, hH])); first | done | rfl) | (simp (disch := omega) only [go_sem, hE, hH]) | ((first | apply noMLL_sE | apply pk_sE) <;> (simp only [go_sem, hE, hH]; done)) | (simp only [go_sem, hE, hH]) | fail)
  obtain ⟨m, hm⟩ : ∃ m : Nat, 5996 + y = m := ⟨(5996 + y).toNat, by omega⟩
  have hm2 : (5996 + y).toNat = m := by omega
  refine loopNe m (fun j (x : List UInt8) => ⟨[(3, .ref 4000000 0 m), (10, i64 m), (11, i64 j)], [(4000000, ⟨1, x.map u8r⟩)]⟩) (fun j x => x.length = m) (List.replicate m 0) (by rw [hm2]; simp) (by simp) ?_
  intro j x hj hI
  try simp only [go_sem, hE, hH, c_pspec_l1Cur_long_l1]
  have er := fun (z : Int) => u8r_set x j z
  repeat' (first | ((with_reducible first | refine gd_t ?_ ?_ | refine gd_f ?_ ?_) <;> (intro h; have hb := h; (try simp only [nf, beq_iff_eq, bne_iff_ne, beq_eq_false_iff_ne, bne_eq_false_iff_eq] at h); simp (disch := omega) only [go_sem, hE, hH, er, bytesOf_map, hb]; (try clear hb))) | ((with_reducible refine And.intro ?_ ?_); · omega) | (refine jn _ ?_ ?_) | (with_reducible refine both ?_ ?_) | (with_reducible refine And.intro ?_ ?_) | (refine fin_eq ?_; (try (simp (disch := omega) only [go_sem, hE, hH, er, bytesOf_map])); first | done | rfl) | (simp (disch := omega) only [go_sem, hE, hH, er, bytesOf_map]) | ((first | apply noMLL_sE | apply pk_sE) <;> (simp only [go_sem, hE, hH, er, bytesOf_map]; done)) | (simp only [go_sem, hE, hH, er, bytesOf_map]) | fail)
  all_goals first | (refine ⟨_, rfl, ?_⟩; rw [List.length_set]; exact hI) | (refine nilR_of ⟨_, rfl, rfl, ?_, ?_⟩ <;> rw [List.length_take] <;> omega)
theorem spoilt_ok (code : List Int) (hb : isB code) (a : Nat) (s : Int) (ha : a ≤ 2 ^ 58) (t : List UInt8) (ht : t.length ≤ 20000) (w : List UInt8) (hw : 1 ≤ w.length ∧ w.length ≤ 100) : ACall Try.prog n_pspec_l1Cur_spoilt [cur code a s, sS t, sS w] (fun r l => ∃ (x : List UInt8) (a' : Nat) (s' : Int), r = sS x ∧ l = [cur code a' s', sS t, sS w] ∧ a' ≤ a + 14 ∧ x.length ≤ t.length + 2) := by
  have hmx := mx_eq
  refine fn_in h_pspec_l1Cur_spoilt r_pspec_l1Cur_spoilt ⟨by simp only [go_sem], fun E hE hH => ?_⟩; simp only [go_sem] at hE hH; simp only [go_sem, hE, hH, c_pspec_l1Cur_spoilt]
  repeat' (first | ((with_reducible first | refine gd_t ?_ ?_ | refine gd_f ?_ ?_) <;> (intro h; have hb := h; (try simp only [nf, beq_iff_eq, bne_iff_ne, beq_eq_false_iff_ne, bne_eq_false_iff_eq] at h); simp (disch := omega) only [go_sem, hE, hH, hb]; (try clear hb))) | ((with_reducible refine And.intro ?_ ?_); · omega) | (refine ok_lend [true, false] ?_; simp (disch := omega) only [go_sem, hE, hH]; refine cmA (pick_ok _ code hb _ _ (by omega) (by omega)) ?_; refine aftM_intro ?_; rintro _ _ ⟨y, a', s', rfl, rfl, h1, h2, h3⟩; simp (disch := omega) only [go_sem, hE, hH]) | (refine jn _ ?_ ?_) | (with_reducible refine both ?_ ?_) | (with_reducible refine And.intro ?_ ?_) | (refine fin_eq ?_; (try (simp (disch := omega) only [go_sem, hE, hH])); first | done | rfl) | (simp (disch := omega) only [go_sem, hE, hH]) | ((first | apply noMLL_sE | apply pk_sE) <;> (simp only [go_sem, hE, hH]; done)) | (simp only [go_sem, hE, hH]) | fail)
  refine loopNe (1 + y).toNat (fun j (x : List UInt8 × Nat × Int) => ⟨[(0, .ptr 0 0 0), (1, sS x.1), (2, sS w), (7, i64 (1 + y - j))], [(0, ⟨3, [[.sl false 1 (bys code), i64 x.2.1, u64 x.2.2]]⟩)]⟩) (fun j x => x.1.length ≤ t.length + j ∧ x.2.1 ≤ a + 2 + 6 * j) (t, a', s') (by simp [bys]) ⟨by simp, by simp; omega⟩ ?_
  intro j ⟨t', a2, s2⟩ hj hI
  obtain ⟨i1, i2⟩ := hI
  simp only at i1 i2
  try simp only [go_sem, hE, hH, c_pspec_l1Cur_spoilt_l1]
  have ej : 1 + y - (j : Int) - 1 = 1 + y - ((j + 1 : Nat) : Int) := by omega
  repeat' (first | ((with_reducible first | refine gd_t ?_ ?_ | refine gd_f ?_ ?_) <;> (intro h; have hb := h; (try simp only [nf, beq_iff_eq, bne_iff_ne, beq_eq_false_iff_ne, bne_eq_false_iff_eq] at h); simp (disch := omega) only [go_sem, hE, hH, bytesOf_one, ej, hb]; (try clear hb))) | ((with_reducible refine And.intro ?_ ?_); · omega) | (refine ok_lend [true, false] ?_; simp (disch := omega) only [go_sem, hE, hH, bytesOf_one, ej]; refine cmA (pick_ok _ code hb _ _ (by omega) (by omega)) ?_; refine aftM_intro ?_; rintro _ _ ⟨z, a3, s3, rfl, rfl, g1, g2, g3⟩; simp (disch := omega) only [go_sem, hE, hH, bytesOf_one, ej]) | (refine jn _ ?_ ?_) | (with_reducible refine both ?_ ?_) | (with_reducible refine And.intro ?_ ?_) | (refine fin_eq ?_; (try (simp (disch := omega) only [go_sem, hE, hH, bytesOf_one, ej])); first | done | rfl) | (simp (disch := omega) only [go_sem, hE, hH, bytesOf_one, ej]) | ((first | apply noMLL_sE | apply pk_sE) <;> (simp only [go_sem, hE, hH, bytesOf_one, ej]; done)) | (simp only [go_sem, hE, hH, bytesOf_one, ej]) | fail)
  all_goals first | (simp only [List.length_take, List.length_drop]; omega) | exact nilR_of ⟨_, _, _, rfl, rfl, by omega, by omega⟩ | exact ⟨(_, _, _), rfl, by simp only [List.length_append, List.length_take, List.length_drop, List.length_cons, List.length_nil]; omega, by simp only; omega⟩ | omega
theorem DrawSumOf_ok (code : List Int) (hb : isB code) : ACall Try.prog n_spec_DrawSumOf [.sl false 1 (bys code)] (fun r _ => ∃ x : List UInt8, r = sS x ∧ x.length ≤ 6001) := by
  have hmx := mx_eq
  refine fn_in h_spec_DrawSumOf r_spec_DrawSumOf ⟨by simp only [go_sem], fun E hE hH => ?_⟩; simp only [go_sem] at hE hH; simp only [go_sem, hE, hH, c_spec_DrawSumOf]
  repeat' (first | ((with_reducible first | refine gd_t ?_ ?_ | refine gd_f ?_ ?_) <;> (intro h; have hb := h; (try simp only [nf, beq_iff_eq, bne_iff_ne, beq_eq_false_iff_ne, bne_eq_false_iff_eq] at h); simp (disch := omega) only [go_sem, hE, hH, hb]; (try clear hb))) | ((with_reducible refine And.intro ?_ ?_); · omega) | (refine ok_lend [true, false] ?_; simp (disch := omega) only [go_sem, hE, hH]; refine cmA (one_ok _ code hb 0 0 (by omega) (by omega)) ?_; refine aftM_intro ?_; rintro _ _ ⟨b, a', s', rfl, rfl, h1⟩; simp (disch := omega) only [go_sem, hE, hH]) | (refine ok_lend [true] ?_; simp (disch := omega) only [go_sem, hE, hH]; refine cmA (long_ok code hb _ _ (by omega)) ?_; refine aftM_intro ?_; rintro _ _ ⟨x, rfl, rfl, h2, h3⟩; simp (disch := omega) only [go_sem, hE, hH]) | (refine ok_lend [true] ?_; simp (disch := omega) only [go_sem, hE, hH]; refine cmA (any1_ok code hb _ _ (by omega)) ?_; refine aftM_intro ?_; rintro _ _ ⟨x, a', s', rfl, rfl, h2, h3⟩; simp (disch := omega) only [go_sem, hE, hH]) | (refine jn _ ?_ ?_) | (with_reducible refine both ?_ ?_) | (with_reducible refine And.intro ?_ ?_) | (refine fin_eq ?_; (try (simp (disch := omega) only [go_sem, hE, hH])); first | done | rfl) | (simp (disch := omega) only [go_sem, hE, hH]) | ((first | apply noMLL_sE | apply pk_sE) <;> (simp only [go_sem, hE, hH]; done)) | (simp only [go_sem, hE, hH]) | fail)
  all_goals first | ((first | refine nilR_of ⟨_, rfl, ?_⟩ | refine ⟨_, rfl, ?_⟩); (try rw [List.length_append]); omega) | omega
theorem DrawSealBytes_ok (code : List Int) (hb : isB code) : ACall Try.prog n_spec_DrawSealBytes [.sl false 1 (bys code)] (fun r _ => ∃ x : List UInt8, r = sS x ∧ x.length ≤ 6001) := by
  have hmx := mx_eq
  refine fn_in h_spec_DrawSealBytes r_spec_DrawSealBytes ⟨by simp only [go_sem], fun E hE hH => ?_⟩; simp only [go_sem] at hE hH; simp only [go_sem, hE, hH, c_spec_DrawSealBytes]
  repeat' (first | ((with_reducible first | refine gd_t ?_ ?_ | refine gd_f ?_ ?_) <;> (intro h; have hb := h; (try simp only [nf, beq_iff_eq, bne_iff_ne, beq_eq_false_iff_ne, bne_eq_false_iff_eq] at h); simp (disch := omega) only [go_sem, hE, hH, hb]; (try clear hb))) | ((with_reducible refine And.intro ?_ ?_); · omega) | (refine ok_view ?_; simp (disch := omega) only [go_sem, hE, hH]; refine cvA (DrawSumOf_ok code hb) ?_; refine aftV_intro ?_; rintro _ _ ⟨x, rfl, h1⟩; simp (disch := omega) only [go_sem, hE, hH]) | (refine jn _ ?_ ?_) | (with_reducible refine both ?_ ?_) | (with_reducible refine And.intro ?_ ?_) | (refine fin_eq ?_; (try (simp (disch := omega) only [go_sem, hE, hH])); first | done | rfl) | (simp (disch := omega) only [go_sem, hE, hH]) | ((first | apply noMLL_sE | apply pk_sE) <;> (simp only [go_sem, hE, hH]; done)) | (simp only [go_sem, hE, hH]) | fail)
  all_goals first | ((first | refine nilR_of ⟨_, rfl, ?_⟩ | refine ⟨_, rfl, ?_⟩); omega) | omega | trace_state
theorem DrawOpenSeal_ok (code : List Int) (hb : isB code) : ACall Try.prog n_spec_DrawOpenSeal [.sl false 1 (bys code)] (fun r _ => ∃ x : List UInt8, r = sS x ∧ x.length ≤ 10000) := by
  have hmx := mx_eq
  refine fn_in h_spec_DrawOpenSeal r_spec_DrawOpenSeal ⟨by simp only [go_sem], fun E hE hH => ?_⟩; simp only [go_sem] at hE hH; simp only [go_sem, hE, hH, c_spec_DrawOpenSeal]
  repeat' (first | ((with_reducible first | refine gd_t ?_ ?_ | refine gd_f ?_ ?_) <;> (intro h; have hb := h; (try simp only [nf, beq_iff_eq, bne_iff_ne, beq_eq_false_iff_ne, bne_eq_false_iff_eq] at h); simp (disch := omega) only [go_sem, hE, hH, sealL_len, hb]; (try clear hb))) | ((with_reducible refine And.intro ?_ ?_); · omega) | (refine ok_lend [true, false] ?_; simp (disch := omega) only [go_sem, hE, hH, sealL_len]; refine cmA (one_ok _ code hb _ _ (by omega) (by omega)) ?_; refine aftM_intro ?_; rintro _ _ ⟨b, a', s', rfl, rfl, h1⟩; simp (disch := omega) only [go_sem, hE, hH, sealL_len]) | (refine ok_lend [true] ?_; simp (disch := omega) only [go_sem, hE, hH, sealL_len]; refine cmA (long_ok code hb _ _ (by omega)) ?_; refine aftM_intro ?_; rintro _ _ ⟨x, rfl, rfl, h2, h3⟩; simp (disch := omega) only [go_sem, hE, hH, sealL_len]) | (refine ok_lend [true] ?_; simp (disch := omega) only [go_sem, hE, hH, sealL_len]; refine cmA (any1_ok code hb 0 0 (by omega)) ?_; refine aftM_intro ?_; rintro _ _ ⟨x, a', s', rfl, rfl, h2, h3⟩; simp (disch := omega) only [go_sem, hE, hH, sealL_len]) | (refine ok_lend [true, false] ?_; simp (disch := omega) only [go_sem, hE, hH, sealL_len]; refine cmA (pick_ok _ code hb _ _ (by omega) (by (try simp only [List.length_take, sealL_len]); omega)) ?_; refine aftM_intro ?_; rintro _ _ ⟨z, a3, s3, rfl, rfl, g1, g2, g3⟩; simp (disch := omega) only [go_sem, hE, hH, sealL_len]) | (refine ok_lend [true, false, false] ?_; simp (disch := omega) only [go_sem, hE, hH, sealL_len]; refine cmA (spoilt_ok code hb _ _ (by omega) _ (by (try simp only [List.length_take, sealL_len]); omega) _ (by decide)) ?_; refine aftM_intro ?_; rintro _ _ ⟨z, a3, s3, rfl, rfl, g1, g2⟩; simp (disch := omega) only [go_sem, hE, hH, sealL_len]) | ((first | refine ok_view ?_ | refine cvA (l1Seal_ok _ (by (try simp only [List.length_take, sealL_len]); omega)) ?_); simp (disch := omega) only [go_sem, hE, hH, sealL_len]) | (refine jn _ ?_ ?_) | (with_reducible refine both ?_ ?_) | (with_reducible refine And.intro ?_ ?_) | (refine fin_eq ?_; (try (simp (disch := omega) only [go_sem, hE, hH, sealL_len])); first | done | rfl) | (simp (disch := omega) only [go_sem, hE, hH, sealL_len]) | ((first | apply noMLL_sE | apply pk_sE) <;> (simp only [go_sem, hE, hH, sealL_len]; done)) | (simp only [go_sem, hE, hH, sealL_len]) | fail)
  all_goals ((first | refine nilR_of ⟨_, rfl, ?_⟩ | refine ⟨_, rfl, ?_⟩); (try simp only [sealL_len, List.length_take] at *); omega)
theorem SealBytes_ok (l : List UInt8) (hl : l.length ≤ 2 ^ 40) : ACall Try.prog n_impl_SealBytes [sS l] (fun r _ => r = .tup [sS (if l.length ≤ 5997 then sealL l else []), bl (decide (l.length ≤ 5997))]) := by
  have hmx := mx_eq
  by_cases h : l.length ≤ 5997 <;> simp only [h, if_true, if_false, decide_true, decide_false]
  · refine fn_in h_impl_SealBytes r_impl_SealBytes ⟨by simp only [go_sem], fun E hE hH => ?_⟩; simp only [go_sem] at hE hH; simp only [go_sem, hE, hH, c_impl_SealBytes]
    repeat' (first | ((with_reducible first | refine gd_t ?_ ?_ | refine gd_f ?_ ?_) <;> (intro h; have hb := h; (try simp only [nf, beq_iff_eq, bne_iff_ne, beq_eq_false_iff_ne, bne_eq_false_iff_eq] at h); simp (disch := omega) only [go_sem, hE, hH, hb]; (try clear hb))) | ((with_reducible refine And.intro ?_ ?_); · omega) | ((first | refine ok_view ?_ | refine cvA (seal_ok l hl) ?_); simp (disch := omega) only [go_sem, hE, hH]) | (refine jn _ ?_ ?_) | (with_reducible refine both ?_ ?_) | (with_reducible refine And.intro ?_ ?_) | (refine fin_eq ?_; (try (simp (disch := omega) only [go_sem, hE, hH])); first | done | rfl) | (simp (disch := omega) only [go_sem, hE, hH]) | ((first | apply noMLL_sE | apply pk_sE) <;> (simp only [go_sem, hE, hH]; done)) | (simp only [go_sem, hE, hH]) | fail)
    all_goals omega
  · refine fn_in h_impl_SealBytes r_impl_SealBytes ⟨by simp only [go_sem], fun E hE hH => ?_⟩; simp only [go_sem] at hE hH; simp only [go_sem, hE, hH, c_impl_SealBytes]
    repeat' (first | ((with_reducible first | refine gd_t ?_ ?_ | refine gd_f ?_ ?_) <;> (intro h; have hb := h; (try simp only [nf, beq_iff_eq, bne_iff_ne, beq_eq_false_iff_ne, bne_eq_false_iff_eq] at h); simp (disch := omega) only [go_sem, hE, hH, hb]; (try clear hb))) | ((with_reducible refine And.intro ?_ ?_); · omega) | ((first | refine ok_view ?_ | refine cvA (seal_ok l hl) ?_); simp (disch := omega) only [go_sem, hE, hH]) | (refine jn _ ?_ ?_) | (with_reducible refine both ?_ ?_) | (with_reducible refine And.intro ?_ ?_) | (refine fin_eq ?_; (try (simp (disch := omega) only [go_sem, hE, hH])); first | done | rfl) | (simp (disch := omega) only [go_sem, hE, hH]) | ((first | apply noMLL_sE | apply pk_sE) <;> (simp only [go_sem, hE, hH]; done)) | (simp only [go_sem, hE, hH]) | fail)
    all_goals omega
theorem sSealBytes_ok (l : List UInt8) (hl : l.length ≤ 2 ^ 40) : ACall Try.prog n_spec_SealBytes [sS l] (fun r _ => r = .tup [sS (if l.length ≤ 5997 then sealL l else []), bl (decide (l.length ≤ 5997))]) := by
  have hmx := mx_eq
  by_cases h : l.length ≤ 5997 <;> simp only [h, if_true, if_false, decide_true, decide_false]
  · refine fn_in h_spec_SealBytes r_spec_SealBytes ⟨by simp only [go_sem], fun E hE hH => ?_⟩; simp only [go_sem] at hE hH; simp only [go_sem, hE, hH, c_spec_SealBytes]
    repeat' (first | ((with_reducible first | refine gd_t ?_ ?_ | refine gd_f ?_ ?_) <;> (intro h; have hb := h; (try simp only [nf, beq_iff_eq, bne_iff_ne, beq_eq_false_iff_ne, bne_eq_false_iff_eq] at h); simp (disch := omega) only [go_sem, hE, hH, hb]; (try clear hb))) | ((with_reducible refine And.intro ?_ ?_); · omega) | ((first | refine ok_view ?_ | refine cvA (l1Seal_ok l hl) ?_); simp (disch := omega) only [go_sem, hE, hH]) | (refine jn _ ?_ ?_) | (with_reducible refine both ?_ ?_) | (with_reducible refine And.intro ?_ ?_) | (refine fin_eq ?_; (try (simp (disch := omega) only [go_sem, hE, hH])); first | done | rfl) | (simp (disch := omega) only [go_sem, hE, hH]) | ((first | apply noMLL_sE | apply pk_sE) <;> (simp only [go_sem, hE, hH]; done)) | (simp only [go_sem, hE, hH]) | fail)
    all_goals omega
  · refine fn_in h_spec_SealBytes r_spec_SealBytes ⟨by simp only [go_sem], fun E hE hH => ?_⟩; simp only [go_sem] at hE hH; simp only [go_sem, hE, hH, c_spec_SealBytes]
    repeat' (first | ((with_reducible first | refine gd_t ?_ ?_ | refine gd_f ?_ ?_) <;> (intro h; have hb := h; (try simp only [nf, beq_iff_eq, bne_iff_ne, beq_eq_false_iff_ne, bne_eq_false_iff_eq] at h); simp (disch := omega) only [go_sem, hE, hH, hb]; (try clear hb))) | ((with_reducible refine And.intro ?_ ?_); · omega) | ((first | refine ok_view ?_ | refine cvA (l1Seal_ok l hl) ?_); simp (disch := omega) only [go_sem, hE, hH]) | (refine jn _ ?_ ?_) | (with_reducible refine both ?_ ?_) | (with_reducible refine And.intro ?_ ?_) | (refine fin_eq ?_; (try (simp (disch := omega) only [go_sem, hE, hH])); first | done | rfl) | (simp (disch := omega) only [go_sem, hE, hH]) | ((first | apply noMLL_sE | apply pk_sE) <;> (simp only [go_sem, hE, hH]; done)) | (simp only [go_sem, hE, hH]) | fail)
    all_goals omega
theorem SumOf_ok (l : List UInt8) (hl : l.length ≤ 2 ^ 40) : ACall Try.prog n_impl_SumOf [sS l] (fun r _ => r = .tup [i64 (if l.length ≤ 6000 then sumS l else 0 : Nat), bl (decide (l.length ≤ 6000))]) := by
  have hmx := mx_eq
  by_cases h : l.length ≤ 6000 <;> simp only [h, if_true, if_false, decide_true, decide_false]
  · refine fn_in h_impl_SumOf r_impl_SumOf ⟨by simp only [go_sem], fun E hE hH => ?_⟩; simp only [go_sem] at hE hH; simp only [go_sem, hE, hH, c_impl_SumOf]
    repeat' (first | ((with_reducible first | refine gd_t ?_ ?_ | refine gd_f ?_ ?_) <;> (intro h; have hb := h; (try simp only [nf, beq_iff_eq, bne_iff_ne, beq_eq_false_iff_ne, bne_eq_false_iff_eq] at h); simp (disch := omega) only [go_sem, hE, hH, hb]; (try clear hb))) | ((with_reducible refine And.intro ?_ ?_); · omega) | ((first | refine ok_view ?_ | refine cvA (sumOf_ok l hl) ?_); simp (disch := omega) only [go_sem, hE, hH]) | (refine jn _ ?_ ?_) | (with_reducible refine both ?_ ?_) | (with_reducible refine And.intro ?_ ?_) | (refine fin_eq ?_; (try (simp (disch := omega) only [go_sem, hE, hH])); first | done | rfl) | (simp (disch := omega) only [go_sem, hE, hH]) | ((first | apply noMLL_sE | apply pk_sE) <;> (simp only [go_sem, hE, hH]; done)) | (simp only [go_sem, hE, hH]) | fail)
    all_goals omega
  · refine fn_in h_impl_SumOf r_impl_SumOf ⟨by simp only [go_sem], fun E hE hH => ?_⟩; simp only [go_sem] at hE hH; simp only [go_sem, hE, hH, c_impl_SumOf]
    repeat' (first | ((with_reducible first | refine gd_t ?_ ?_ | refine gd_f ?_ ?_) <;> (intro h; have hb := h; (try simp only [nf, beq_iff_eq, bne_iff_ne, beq_eq_false_iff_ne, bne_eq_false_iff_eq] at h); simp (disch := omega) only [go_sem, hE, hH, hb]; (try clear hb))) | ((with_reducible refine And.intro ?_ ?_); · omega) | ((first | refine ok_view ?_ | refine cvA (sumOf_ok l hl) ?_); simp (disch := omega) only [go_sem, hE, hH]) | (refine jn _ ?_ ?_) | (with_reducible refine both ?_ ?_) | (with_reducible refine And.intro ?_ ?_) | (refine fin_eq ?_; (try (simp (disch := omega) only [go_sem, hE, hH])); first | done | rfl) | (simp (disch := omega) only [go_sem, hE, hH]) | ((first | apply noMLL_sE | apply pk_sE) <;> (simp only [go_sem, hE, hH]; done)) | (simp only [go_sem, hE, hH]) | fail)
    all_goals omega
theorem sSumOf_ok (l : List UInt8) (hl : l.length ≤ 2 ^ 40) : ACall Try.prog n_spec_SumOf [sS l] (fun r _ => r = .tup [i64 (if l.length ≤ 6000 then sumS l else 0 : Nat), bl (decide (l.length ≤ 6000))]) := by
  have hmx := mx_eq
  by_cases h : l.length ≤ 6000 <;> simp only [h, if_true, if_false, decide_true, decide_false]
  · refine fn_in h_spec_SumOf r_spec_SumOf ⟨by simp only [go_sem], fun E hE hH => ?_⟩; simp only [go_sem] at hE hH; simp only [go_sem, hE, hH, c_spec_SumOf]
    repeat' (first | ((with_reducible first | refine gd_t ?_ ?_ | refine gd_f ?_ ?_) <;> (intro h; have hb := h; (try simp only [nf, beq_iff_eq, bne_iff_ne, beq_eq_false_iff_ne, bne_eq_false_iff_eq] at h); simp (disch := omega) only [go_sem, hE, hH, hb]; (try clear hb))) | ((with_reducible refine And.intro ?_ ?_); · omega) | ((first | refine ok_view ?_ | refine cvA (l1Sum_ok l hl) ?_); simp (disch := omega) only [go_sem, hE, hH]) | (refine jn _ ?_ ?_) | (with_reducible refine both ?_ ?_) | (with_reducible refine And.intro ?_ ?_) | (refine fin_eq ?_; (try (simp (disch := omega) only [go_sem, hE, hH])); first | done | rfl) | (simp (disch := omega) only [go_sem, hE, hH]) | ((first | apply noMLL_sE | apply pk_sE) <;> (simp only [go_sem, hE, hH]; done)) | (simp only [go_sem, hE, hH]) | fail)
    all_goals omega
  · refine fn_in h_spec_SumOf r_spec_SumOf ⟨by simp only [go_sem], fun E hE hH => ?_⟩; simp only [go_sem] at hE hH; simp only [go_sem, hE, hH, c_spec_SumOf]
    repeat' (first | ((with_reducible first | refine gd_t ?_ ?_ | refine gd_f ?_ ?_) <;> (intro h; have hb := h; (try simp only [nf, beq_iff_eq, bne_iff_ne, beq_eq_false_iff_ne, bne_eq_false_iff_eq] at h); simp (disch := omega) only [go_sem, hE, hH, hb]; (try clear hb))) | ((with_reducible refine And.intro ?_ ?_); · omega) | ((first | refine ok_view ?_ | refine cvA (l1Sum_ok l hl) ?_); simp (disch := omega) only [go_sem, hE, hH]) | (refine jn _ ?_ ?_) | (with_reducible refine both ?_ ?_) | (with_reducible refine And.intro ?_ ?_) | (refine fin_eq ?_; (try (simp (disch := omega) only [go_sem, hE, hH])); first | done | rfl) | (simp (disch := omega) only [go_sem, hE, hH]) | ((first | apply noMLL_sE | apply pk_sE) <;> (simp only [go_sem, hE, hH]; done)) | (simp only [go_sem, hE, hH]) | fail)
    all_goals omega
def openOk (l : List UInt8) : Bool := decide (3 ≤ l.length ∧ l.length ≤ 6000 ∧ sealL (l.take (l.length - 3)) = l)
abbrev openR (l : List UInt8) : T := .tup [sS (if openOk l then l.take (l.length - 3) else []), bl (openOk l)]
theorem OpenSeal_ok (l : List UInt8) (hl : l.length ≤ 2 ^ 40) : ACall Try.prog n_impl_OpenSeal [sS l] (fun r _ => r = openR l) := by
  have hmx := mx_eq
  by_cases h0 : 3 ≤ l.length ∧ l.length ≤ 6000
  · have e1 : ((l.length : Int) - 3).toNat = l.length - 3 := by omega
    by_cases h : sealL (l.take (l.length - 3)) = l
    · have ho : openOk l = true := by unfold openOk; simp [h0, h]
      simp only [openR, ho]
      refine fn_in h_impl_OpenSeal r_impl_OpenSeal ⟨by simp only [go_sem], fun E hE hH => ?_⟩; simp only [go_sem] at hE hH; simp only [go_sem, hE, hH, c_impl_OpenSeal]
      repeat' (first | ((with_reducible first | refine gd_t ?_ ?_ | refine gd_f ?_ ?_) <;> (intro h; have hb := h; (try simp only [nf, beq_iff_eq, bne_iff_ne, beq_eq_false_iff_ne, bne_eq_false_iff_eq, rng_iff, rng_no] at h); simp (disch := omega) only [go_sem, hE, hH, e1, h, hb]; (try clear hb))) | ((with_reducible refine And.intro ?_ ?_); · omega) | ((first | refine ok_view ?_ | refine cvA (within_ok _ _ _) ?_ | refine cvA (seal_ok (l.take (l.length - 3)) (by simp; omega)) ?_); simp (disch := omega) only [go_sem, hE, hH, e1, h]) | (refine jn _ ?_ ?_) | (with_reducible refine both ?_ ?_) | (with_reducible refine And.intro ?_ ?_) | (refine fin_eq ?_; (try (simp (disch := omega) only [go_sem, hE, hH, e1, h])); first | done | rfl) | (simp (disch := omega) only [go_sem, hE, hH, e1, h]) | ((first | apply noMLL_sE | apply pk_sE) <;> (simp only [go_sem, hE, hH, e1, h]; done)) | (simp only [go_sem, hE, hH, e1, h]) | fail)
      all_goals first | omega | (exfalso; omega) | contradiction | (exfalso; simp_all; done) | trace_state
    · have ho : openOk l = false := by unfold openOk; simp [h0, h]
      simp only [openR, ho]
      refine fn_in h_impl_OpenSeal r_impl_OpenSeal ⟨by simp only [go_sem], fun E hE hH => ?_⟩; simp only [go_sem] at hE hH; simp only [go_sem, hE, hH, c_impl_OpenSeal]
      repeat' (first | ((with_reducible first | refine gd_t ?_ ?_ | refine gd_f ?_ ?_) <;> (intro h; have hb := h; (try simp only [nf, beq_iff_eq, bne_iff_ne, beq_eq_false_iff_ne, bne_eq_false_iff_eq, rng_iff, rng_no] at h); simp (disch := omega) only [go_sem, hE, hH, e1, h, hb]; (try clear hb))) | ((with_reducible refine And.intro ?_ ?_); · omega) | ((first | refine ok_view ?_ | refine cvA (within_ok _ _ _) ?_ | refine cvA (seal_ok (l.take (l.length - 3)) (by simp; omega)) ?_); simp (disch := omega) only [go_sem, hE, hH, e1, h]) | (refine jn _ ?_ ?_) | (with_reducible refine both ?_ ?_) | (with_reducible refine And.intro ?_ ?_) | (refine fin_eq ?_; (try (simp (disch := omega) only [go_sem, hE, hH, e1, h])); first | done | rfl) | (simp (disch := omega) only [go_sem, hE, hH, e1, h]) | ((first | apply noMLL_sE | apply pk_sE) <;> (simp only [go_sem, hE, hH, e1, h]; done)) | (simp only [go_sem, hE, hH, e1, h]) | fail)
      all_goals first | omega | (exfalso; omega) | contradiction | (exfalso; simp_all; done) | trace_state
  · have ho : openOk l = false := by unfold openOk; rw [decide_eq_false_iff_not]; intro hh; exact h0 ⟨hh.1, hh.2.1⟩
    simp only [openR, ho]
    refine fn_in h_impl_OpenSeal r_impl_OpenSeal ⟨by simp only [go_sem], fun E hE hH => ?_⟩; simp only [go_sem] at hE hH; simp only [go_sem, hE, hH, c_impl_OpenSeal]
    repeat' (first | ((with_reducible first | refine gd_t ?_ ?_ | refine gd_f ?_ ?_) <;> (intro h; have hb := h; (try simp only [nf, beq_iff_eq, bne_iff_ne, beq_eq_false_iff_ne, bne_eq_false_iff_eq, rng_iff, rng_no] at h); simp (disch := omega) only [go_sem, hE, hH, hb]; (try clear hb))) | ((with_reducible refine And.intro ?_ ?_); · omega) | ((first | refine ok_view ?_ | refine cvA (within_ok _ _ _) ?_); simp (disch := omega) only [go_sem, hE, hH]) | (refine jn _ ?_ ?_) | (with_reducible refine both ?_ ?_) | (with_reducible refine And.intro ?_ ?_) | (refine fin_eq ?_; (try (simp (disch := omega) only [go_sem, hE, hH])); first | done | rfl) | (simp (disch := omega) only [go_sem, hE, hH]) | ((first | apply noMLL_sE | apply pk_sE) <;> (simp only [go_sem, hE, hH]; done)) | (simp only [go_sem, hE, hH]) | fail)
    all_goals first | omega | (exfalso; omega) | contradiction | (exfalso; simp_all; done) | trace_state
theorem sOpenSeal_ok (l : List UInt8) (hl : l.length ≤ 2 ^ 40) : ACall Try.prog n_spec_OpenSeal [sS l] (fun r _ => r = openR l) := by
  have hmx := mx_eq
  have w0 : IntKind.i64.wrap ((l.length : Int) - 3) = (l.length : Int) - 3 := Go.IntWalk.i64_in _ (by omega)
  by_cases h0 : 3 ≤ l.length ∧ l.length ≤ 6000
  · have e1 : ((l.length : Int) - 3).toNat = l.length - 3 := by omega
    by_cases h : sealL (l.take (l.length - 3)) = l
    · have ho : openOk l = true := by unfold openOk; simp [h0, h]
      simp only [openR, ho]
      refine fn_in h_spec_OpenSeal r_spec_OpenSeal ⟨by simp only [go_sem], fun E hE hH => ?_⟩; simp only [go_sem] at hE hH; simp only [go_sem, hE, hH, c_spec_OpenSeal]
      repeat' (first | ((with_reducible first | refine gd_t ?_ ?_ | refine gd_f ?_ ?_) <;> (intro h; have hb := h; (try simp only [nf, beq_iff_eq, bne_iff_ne, beq_eq_false_iff_ne, bne_eq_false_iff_eq, rng_iff, rng_no] at h); simp (disch := omega) only [go_sem, hE, hH, e1, h, w0, hb]; (try clear hb))) | ((with_reducible refine And.intro ?_ ?_); · omega) | ((first | refine ok_view ?_ | refine cvA (l1Seal_ok (l.take (l.length - 3)) (by simp; omega)) ?_); simp (disch := omega) only [go_sem, hE, hH, e1, h, w0]) | (refine jn _ ?_ ?_) | (with_reducible refine both ?_ ?_) | (with_reducible refine And.intro ?_ ?_) | (refine fin_eq ?_; (try (simp (disch := omega) only [go_sem, hE, hH, e1, h, w0])); first | done | rfl) | (simp (disch := omega) only [go_sem, hE, hH, e1, h, w0]) | ((first | apply noMLL_sE | apply pk_sE) <;> (simp only [go_sem, hE, hH, e1, h, w0]; done)) | (simp only [go_sem, hE, hH, e1, h, w0]) | fail)
      all_goals first | omega | (exfalso; omega) | contradiction | (exfalso; simp_all; done) | trace_state
    · have ho : openOk l = false := by unfold openOk; simp [h0, h]
      simp only [openR, ho]
      refine fn_in h_spec_OpenSeal r_spec_OpenSeal ⟨by simp only [go_sem], fun E hE hH => ?_⟩; simp only [go_sem] at hE hH; simp only [go_sem, hE, hH, c_spec_OpenSeal]
      repeat' (first | ((with_reducible first | refine gd_t ?_ ?_ | refine gd_f ?_ ?_) <;> (intro h; have hb := h; (try simp only [nf, beq_iff_eq, bne_iff_ne, beq_eq_false_iff_ne, bne_eq_false_iff_eq, rng_iff, rng_no] at h); simp (disch := omega) only [go_sem, hE, hH, e1, h, w0, hb]; (try clear hb))) | ((with_reducible refine And.intro ?_ ?_); · omega) | ((first | refine ok_view ?_ | refine cvA (l1Seal_ok (l.take (l.length - 3)) (by simp; omega)) ?_); simp (disch := omega) only [go_sem, hE, hH, e1, h, w0]) | (refine jn _ ?_ ?_) | (with_reducible refine both ?_ ?_) | (with_reducible refine And.intro ?_ ?_) | (refine fin_eq ?_; (try (simp (disch := omega) only [go_sem, hE, hH, e1, h, w0])); first | done | rfl) | (simp (disch := omega) only [go_sem, hE, hH, e1, h, w0]) | ((first | apply noMLL_sE | apply pk_sE) <;> (simp only [go_sem, hE, hH, e1, h, w0]; done)) | (simp only [go_sem, hE, hH, e1, h, w0]) | fail)
      all_goals first | omega | (exfalso; omega) | contradiction | (exfalso; simp_all; done) | trace_state
  · have ho : openOk l = false := by unfold openOk; rw [decide_eq_false_iff_not]; intro hh; exact h0 ⟨hh.1, hh.2.1⟩
    simp only [openR, ho]
    refine fn_in h_spec_OpenSeal r_spec_OpenSeal ⟨by simp only [go_sem], fun E hE hH => ?_⟩; simp only [go_sem] at hE hH; simp only [go_sem, hE, hH, c_spec_OpenSeal]
    repeat' (first | ((with_reducible first | refine gd_t ?_ ?_ | refine gd_f ?_ ?_) <;> (intro h; have hb := h; (try simp only [nf, beq_iff_eq, bne_iff_ne, beq_eq_false_iff_ne, bne_eq_false_iff_eq, rng_iff, rng_no] at h); simp (disch := omega) only [go_sem, hE, hH, w0, hb]; (try clear hb))) | ((with_reducible refine And.intro ?_ ?_); · omega) | ((first | refine ok_view ?_ | refine cvA (l1Seal_ok (l.take (l.length - 3)) (by simp; omega)) ?_); simp (disch := omega) only [go_sem, hE, hH, w0]) | (refine jn _ ?_ ?_) | (with_reducible refine both ?_ ?_) | (with_reducible refine And.intro ?_ ?_) | (refine fin_eq ?_; (try (simp (disch := omega) only [go_sem, hE, hH, w0])); first | done | rfl) | (simp (disch := omega) only [go_sem, hE, hH, w0]) | ((first | apply noMLL_sE | apply pk_sE) <;> (simp only [go_sem, hE, hH, w0]; done)) | (simp only [go_sem, hE, hH, w0]) | fail)
    all_goals first | omega | (exfalso; omega) | contradiction | (exfalso; simp_all; done) | trace_state
/-! changing a byte changes the seal -/
def sumG (n : Nat) (l : List UInt8) : Nat := l.foldl (fun n x => (31 * n + x.toNat + 1) % 16000057) n
theorem sumG_lt : ∀ (l : List UInt8) (n : Nat), n < 16000057 → sumG n l < 16000057
  | [], n, h => h
  | a :: l, n, h => sumG_lt l _ (Nat.mod_lt _ (by omega))
theorem sumG_inj : ∀ (l : List UInt8) (n m : Nat), n < 16000057 → m < 16000057 → sumG n l = sumG m l → n = m
  | [], n, m, _, _, h => h
  | a :: l, n, m, h1, h2, h => by
    have := sumG_inj l _ _ (Nat.mod_lt _ (by omega)) (Nat.mod_lt _ (by omega)) h
    omega
theorem sumG_set : ∀ (l : List UInt8) (n i : Nat) (v : UInt8), n < 16000057 → i < l.length → sumG n (l.set i v) = sumG n l → v = l.getD i 0
  | a :: l, n, 0, v, hn, _, h => by
    have := sumG_inj l _ _ (Nat.mod_lt _ (by omega)) (Nat.mod_lt _ (by omega)) h
    have h1 := UInt8.toNat_lt v
    have h2 := UInt8.toNat_lt a
    have : v.toNat = a.toNat := by omega
    simpa using UInt8.toNat_inj.1 this
  | a :: l, n, i + 1, v, hn, hi, h => by
    have := sumG_set l ((31 * n + a.toNat + 1) % 16000057) i v (Nat.mod_lt _ (by omega)) (by simpa using hi) h
    simpa using this
theorem thr_inj {n m : Nat} (hn : n < 16000057) (hm : m < 16000057) (h : thr n = thr m) : n = m := by
  simp only [thr, List.cons.injEq, and_true] at h
  obtain ⟨h1, h2, h3⟩ := h
  have h1 := congrArg UInt8.toNat h1; have h2 := congrArg UInt8.toNat h2; have h3 := congrArg UInt8.toNat h3
  simp only [UInt8.toNat_ofNat'] at h1 h2 h3
  omega
theorem openOk_seal (l : List UInt8) (h : l.length ≤ 5997) : openOk (sealL l) = true := by
  have e := sealL_len l
  have : (sealL l).take ((sealL l).length - 3) = l := by rw [e, sealL]; simp
  unfold openOk
  rw [this]; simp; omega
theorem openOk_spoilt (l : List UInt8) (i : Nat) (v : UInt8) (hi : i < l.length + 3) (hv : v ≠ (sealL l).getD i 0) : openOk ((sealL l).set i v) = false := by
  have e := sealL_len l
  unfold openOk
  rw [decide_eq_false_iff_not]
  rintro ⟨-, -, h⟩
  rw [List.length_set, e, show l.length + 3 - 3 = l.length by omega] at h
  by_cases h2 : i < l.length
  · have e1 : (sealL l).set i v = l.set i v ++ thr (sumS l) := by rw [sealL, List.set_append]; simp [h2]
    rw [e1] at h
    have e2 : (l.set i v ++ thr (sumS l)).take l.length = l.set i v := by
      rw [List.take_append_of_le_length (by simp)]; exact List.take_of_length_le (by simp)
    rw [e2, sealL] at h
    have h3 := List.append_cancel_left h
    have h4 := thr_inj (sumS_lt _) (sumS_lt _) h3
    have h5 := sumG_set l 7 i v (by omega) h2 h4
    apply hv
    rw [h5, sealL]
    simp [List.getD, h2, List.getElem?_append_left]
  · have e1 : (sealL l).set i v = l ++ (thr (sumS l)).set (i - l.length) v := by rw [sealL, List.set_append]; simp [h2]
    rw [e1] at h
    have e2 : (l ++ (thr (sumS l)).set (i - l.length) v).take l.length = l := by simp
    rw [e2, sealL] at h
    have h3 := List.append_cancel_left h
    apply hv
    have h6 : i - l.length < (thr (sumS l)).length := by have : (thr (sumS l)).length = 3 := rfl; omega
    have h7 : (thr (sumS l))[i - l.length]? = some v := by
      rw [h3]; simp [h6]
    rw [sealL, List.getD, List.getElem?_append_right (by omega), h7]; rfl
theorem xor_ne (x : UInt8) (d : Nat) (h1 : 1 ≤ d) (h2 : d ≤ 255) : x ^^^ UInt8.ofNat d ≠ x := by
  intro h
  have h3 : x ^^^ (x ^^^ UInt8.ofNat d) = x ^^^ x := by rw [h]
  rw [← UInt8.xor_assoc] at h3
  simp at h3
  have := congrArg UInt8.toNat h3
  simp at this
  omega
theorem xor_u8 (x : UInt8) (d : Nat) (h2 : d ≤ 255) : IntKind.u8.wrap (((BitVec.ofInt 8 (x.toNat : Int) ^^^ BitVec.ofInt 8 (d : Int)).toNat : Nat) : Int) = ((x ^^^ UInt8.ofNat d).toNat : Nat) := by
  have h := UInt8.toNat_lt x
  have e1 : BitVec.ofInt 8 (x.toNat : Int) = BitVec.ofNat 8 x.toNat := by simp
  have e2 : BitVec.ofInt 8 (d : Int) = BitVec.ofNat 8 d := by simp
  rw [e1, e2, BitVec.toNat_xor, UInt8.toNat_xor]
  have e3 : (BitVec.ofNat 8 x.toNat).toNat = x.toNat := by simp
  have e4 : (BitVec.ofNat 8 d).toNat = (UInt8.ofNat d).toNat := by simp
  rw [e3, e4]
  have h5 : x.toNat ^^^ (UInt8.ofNat d).toNat < 2 ^ 8 := Nat.xor_lt_two_pow h (UInt8.toNat_lt _)
  exact u8i (by omega) (by omega)
theorem FnSeals_ok (vc vm : List Int) (wc : vc.length ≤ maxLen ∧ ∀ y ∈ vc, 0 ≤ y ∧ y ≤ 255) (wm : vm.length ≤ maxLen ∧ ∀ y ∈ vm, 0 ≤ y ∧ y ≤ 255) : ACall Try.prog n_laws_FnSeals [.sl false 1 (bys vc), .sl false 1 (bys vm)] (fun r _ => r = bl true) := by
  have hmx := mx_eq
  cases hB : bigB vc vm
  · obtain ⟨hc, hm⟩ := isB_of hB wc.2 wm.2
    have hnc := numF_lt vc
    have hnm := numF_lt vm
    refine fn_in h_laws_FnSeals r_laws_FnSeals ⟨by simp only [go_sem], fun E hE hH => ?_⟩; simp only [go_sem] at hE hH; simp only [go_sem, hE, hH, c_laws_FnSeals]
    repeat' (first | ((with_reducible first | refine gd_t ?_ ?_ | refine gd_f ?_ ?_) <;> (intro h; have hb := h; (try simp only [nf, beq_iff_eq, bne_iff_ne, beq_eq_false_iff_ne, bne_eq_false_iff_eq] at h); simp (disch := omega) only [go_sem, hE, hH, hB, hb]; (try clear hb))) | ((with_reducible refine And.intro ?_ ?_); · omega) | (refine ok_view ?_; simp (disch := omega) only [go_sem, hE, hH, hB]; refine cvA (DrawSealBytes_ok vc hc) ?_; refine aftV_intro ?_; rintro _ _ ⟨s, rfl, hs⟩; simp (disch := omega) only [go_sem, hE, hH, hB]) | ((first | refine ok_view ?_ | refine cvA (big_ok vc vm wc.1 wm.1) ?_); simp (disch := omega) only [go_sem, hE, hH, hB]) | (refine jn _ ?_ ?_) | (with_reducible refine both ?_ ?_) | (with_reducible refine And.intro ?_ ?_) | (refine fin_eq ?_; (try (simp (disch := omega) only [go_sem, hE, hH, hB])); first | done | rfl) | (simp (disch := omega) only [go_sem, hE, hH, hB]) | ((first | apply noMLL_sE | apply pk_sE) <;> (simp only [go_sem, hE, hH, hB]; done)) | (simp only [go_sem, hE, hH, hB]) | fail)
    have f1 := SealBytes_ok s (by omega)
    have f2 := sSealBytes_ok s (by omega)
    by_cases h : s.length ≤ 5997
    · simp only [h, if_true, decide_true] at f1 f2
      have g1 := openOk_seal s h
      have g2 := sealL_len s
      have g3 : (sealL s).take ((sealL s).length - 3) = s := by rw [g2, sealL]; simp
      have f3 := OpenSeal_ok (sealL s) (by omega)
      simp only [openR, g1, g3, if_true] at f3
      obtain ⟨i, hi⟩ : ∃ i, numF vm % (s.length + 3) = i := ⟨_, rfl⟩
      have hil : i < s.length + 3 := by rw [← hi]; exact Nat.mod_lt _ (by omega)
      have e1 : ((numF vm : Int).tmod ((s.length + 3 : Nat) : Int)) = (i : Int) := by rw [tmn, hi]
      obtain ⟨d, hd⟩ : ∃ d, 1 + numF vc % 255 = d := ⟨_, rfl⟩
      have hdl : d < 256 := by omega
      have e2 : 1 + ((numF vc : Int).tmod 255) = (d : Int) := by rw [show (255 : Int) = ((255 : Nat) : Int) by rfl, tmn]; omega
      obtain ⟨y, hy⟩ : ∃ y, y = (sealL s).set i (nth (sealL s) i ^^^ UInt8.ofNat d) := ⟨_, rfl⟩
      have hyl : y.length = s.length + 3 := by rw [hy, List.length_set, g2]
      have e4 : ((sealL s).map (fun x => [T.v (.int .u8 (x.toNat : Nat))])).set i [.v (.int .u8 (IntKind.u8.wrap (((BitVec.ofInt IntKind.u8.bits ((nth (sealL s) i).toNat : Int) ^^^ BitVec.ofInt IntKind.u8.bits (d : Int)).toNat : Nat) : Int)))] = y.map u8r := by
        have := xor_u8 (nth (sealL s) i) d (by omega)
        rw [show IntKind.u8.wrap (((BitVec.ofInt IntKind.u8.bits ((nth (sealL s) i).toNat : Int) ^^^ BitVec.ofInt IntKind.u8.bits (d : Int)).toNat : Nat) : Int) = _ from this, hy, List.map_set]
      simp only [IntKind.bits] at e4
      have e5 : (y.map u8r).take (s.length + 3) = y.map u8r := List.take_of_length_le (by simp [hyl])
      have e6 : (y.map u8r).all isByteRow = true := by simp [isByteRow]
      have f4 := OpenSeal_ok y (by omega)
      have hyo : openOk y = false := by rw [hy]; exact openOk_spoilt s i _ hil (xor_ne _ _ (by omega) (by omega))
      simp only [openR, hyo, if_false] at f4
      have e3 : IntKind.u8.wrap (d : Int) = (d : Int) := u8i (by omega) (by omega)
      repeat' (first | ((with_reducible first | refine gd_t ?_ ?_ | refine gd_f ?_ ?_) <;> (intro h; have hb := h; (try simp only [nf, beq_iff_eq, bne_iff_ne, beq_eq_false_iff_ne, bne_eq_false_iff_eq] at h); simp (disch := omega) only [go_sem, hE, hH, g2, e1, hb]; (try clear hb))) | ((with_reducible refine And.intro ?_ ?_); · omega) | (refine ok_view ?_; simp (disch := omega) only [go_sem, hE, hH, g2, e1]; refine cvA (DrawOpenSeal_ok vm hm) ?_; refine aftV_intro ?_; rintro _ _ ⟨c, rfl, hcl⟩; simp (disch := omega) only [go_sem, hE, hH, g2, e1]) | (refine ok_view ?_; simp (disch := omega) only [go_sem, hE, hH, g2, e1]; refine cvA (DrawSumOf_ok vm hm) ?_; refine aftV_intro ?_; rintro _ _ ⟨d, rfl, hd⟩; simp (disch := omega) only [go_sem, hE, hH, g2, e1]) | ((first | refine ok_view ?_ | refine cvA (f1) ?_ | refine cvA (f2) ?_ | refine cvA (f3) ?_ | refine cvA (numberOf_ok vm hm) ?_ | refine cvA (numberOf_ok vc hc) ?_ | refine cvA (OpenSeal_ok _ (by omega)) ?_ | refine cvA (sOpenSeal_ok _ (by omega)) ?_ | refine cvA (SumOf_ok _ (by omega)) ?_ | refine cvA (sSumOf_ok _ (by omega)) ?_); simp (disch := omega) only [go_sem, hE, hH, g2, e1]) | (refine jn _ ?_ ?_) | (with_reducible refine both ?_ ?_) | (with_reducible refine And.intro ?_ ?_) | (refine fin_eq ?_; (try (simp (disch := omega) only [go_sem, hE, hH, g2, e1])); first | done | rfl) | (simp (disch := omega) only [go_sem, hE, hH, g2, e1]) | ((first | apply noMLL_sE | apply pk_sE) <;> (simp only [go_sem, hE, hH, g2, e1]; done)) | (simp only [go_sem, hE, hH, g2, e1]) | fail)
      · omega
      refine ok_cvsb (l := sealL s) ?_ ?_ ?_ ?_
      · try simp only [go_sem, hE, hH]
      · try simp only [go_sem, hE, hH]
      · try simp only [go_sem, hE, hH]
      try simp only [go_sem, hE, hH, g2, e1, e2, e3, byteRows, e4, e5, e6, bytesOf_map]
      repeat' (first | ((with_reducible first | refine gd_t ?_ ?_ | refine gd_f ?_ ?_) <;> (intro h; have hb := h; (try simp only [nf, beq_iff_eq, bne_iff_ne, beq_eq_false_iff_ne, bne_eq_false_iff_eq] at h); simp (disch := omega) only [go_sem, hE, hH, g2, e1, e2, e3, byteRows, e4, e5, e6, bytesOf_map, hb]; (try clear hb))) | ((with_reducible refine And.intro ?_ ?_); · omega) | (refine ok_view ?_; simp (disch := omega) only [go_sem, hE, hH, g2, e1, e2, e3, byteRows, e4, e5, e6, bytesOf_map]; refine cvA (DrawOpenSeal_ok vm hm) ?_; refine aftV_intro ?_; rintro _ _ ⟨c, rfl, hcl⟩; simp (disch := omega) only [go_sem, hE, hH, g2, e1, e2, e3, byteRows, e4, e5, e6, bytesOf_map]) | (refine ok_view ?_; simp (disch := omega) only [go_sem, hE, hH, g2, e1, e2, e3, byteRows, e4, e5, e6, bytesOf_map]; refine cvA (DrawSumOf_ok vm hm) ?_; refine aftV_intro ?_; rintro _ _ ⟨d, rfl, hd⟩; simp (disch := omega) only [go_sem, hE, hH, g2, e1, e2, e3, byteRows, e4, e5, e6, bytesOf_map]) | ((first | refine ok_view ?_ | refine cvA (f1) ?_ | refine cvA (f2) ?_ | refine cvA (f3) ?_ | refine cvA (f4) ?_ | refine cvA (numberOf_ok vm hm) ?_ | refine cvA (numberOf_ok vc hc) ?_ | refine cvA (OpenSeal_ok _ (by omega)) ?_ | refine cvA (sOpenSeal_ok _ (by omega)) ?_ | refine cvA (SumOf_ok _ (by omega)) ?_ | refine cvA (sSumOf_ok _ (by omega)) ?_); simp (disch := omega) only [go_sem, hE, hH, g2, e1, e2, e3, byteRows, e4, e5, e6, bytesOf_map]) | (refine jn _ ?_ ?_) | (with_reducible refine both ?_ ?_) | (with_reducible refine And.intro ?_ ?_) | (refine fin_eq ?_; (try (simp (disch := omega) only [go_sem, hE, hH, g2, e1, e2, e3, byteRows, e4, e5, e6, bytesOf_map])); first | done | rfl) | (simp (disch := omega) only [go_sem, hE, hH, g2, e1, e2, e3, byteRows, e4, e5, e6, bytesOf_map]) | ((first | apply noMLL_sE | apply pk_sE) <;> (simp only [go_sem, hE, hH, g2, e1, e2, e3, byteRows, e4, e5, e6, bytesOf_map]; done)) | (simp only [go_sem, hE, hH, g2, e1, e2, e3, byteRows, e4, e5, e6, bytesOf_map]) | fail)
      all_goals trace_state
    · simp only [h, if_false, decide_false] at f1 f2
      repeat' (first | ((with_reducible first | refine gd_t ?_ ?_ | refine gd_f ?_ ?_) <;> (intro h; have hb := h; (try simp only [nf, beq_iff_eq, bne_iff_ne, beq_eq_false_iff_ne, bne_eq_false_iff_eq] at h); simp (disch := omega) only [go_sem, hE, hH, hb]; (try clear hb))) | ((with_reducible refine And.intro ?_ ?_); · omega) | (refine ok_view ?_; simp (disch := omega) only [go_sem, hE, hH]; refine cvA (DrawOpenSeal_ok vm hm) ?_; refine aftV_intro ?_; rintro _ _ ⟨c, rfl, hcl⟩; simp (disch := omega) only [go_sem, hE, hH]) | (refine ok_view ?_; simp (disch := omega) only [go_sem, hE, hH]; refine cvA (DrawSumOf_ok vm hm) ?_; refine aftV_intro ?_; rintro _ _ ⟨d, rfl, hd⟩; simp (disch := omega) only [go_sem, hE, hH]) | ((first | refine ok_view ?_ | refine cvA (f1) ?_ | refine cvA (f2) ?_ | refine cvA (OpenSeal_ok _ (by omega)) ?_ | refine cvA (sOpenSeal_ok _ (by omega)) ?_ | refine cvA (SumOf_ok _ (by omega)) ?_ | refine cvA (sSumOf_ok _ (by omega)) ?_); simp (disch := omega) only [go_sem, hE, hH]) | (refine jn _ ?_ ?_) | (with_reducible refine both ?_ ?_) | (with_reducible refine And.intro ?_ ?_) | (refine fin_eq ?_; (try (simp (disch := omega) only [go_sem, hE, hH])); first | done | rfl) | (simp (disch := omega) only [go_sem, hE, hH]) | ((first | apply noMLL_sE | apply pk_sE) <;> (simp only [go_sem, hE, hH]; done)) | (simp only [go_sem, hE, hH]) | fail)
      all_goals trace_state
  · refine fn_in h_laws_FnSeals r_laws_FnSeals ⟨by simp only [go_sem], fun E hE hH => ?_⟩; simp only [go_sem] at hE hH; simp only [go_sem, hE, hH, c_laws_FnSeals]
    repeat' (first | ((with_reducible first | refine gd_t ?_ ?_ | refine gd_f ?_ ?_) <;> (intro h; have hb := h; (try simp only [nf, beq_iff_eq, bne_iff_ne, beq_eq_false_iff_ne, bne_eq_false_iff_eq] at h); simp (disch := omega) only [go_sem, hE, hH, hB, hb]; (try clear hb))) | ((with_reducible refine And.intro ?_ ?_); · omega) | ((first | refine ok_view ?_ | refine cvA (big_ok vc vm wc.1 wm.1) ?_); simp (disch := omega) only [go_sem, hE, hH, hB]) | (refine jn _ ?_ ?_) | (with_reducible refine both ?_ ?_) | (with_reducible refine And.intro ?_ ?_) | (refine fin_eq ?_; (try (simp (disch := omega) only [go_sem, hE, hH, hB])); first | done | rfl) | (simp (disch := omega) only [go_sem, hE, hH, hB]) | ((first | apply noMLL_sE | apply pk_sE) <;> (simp only [go_sem, hE, hH, hB]; done)) | (simp only [go_sem, hE, hH, hB]) | fail)

end Go.Proofs.Wb

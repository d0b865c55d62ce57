/- Contracts of functions. -/
import Derived.Test.YtfjieglppmcelaaFnSealsK8
import Derived.Laws.Externs
set_option linter.unusedSimpArgs false
set_option linter.unusedVariables false
set_option linter.unusedSectionVars false
namespace Go.Proofs.Wb
open Go Go.Am
def numL (n : Nat) : List UInt8 := if n < 128 then [UInt8.ofNat n] else [UInt8.ofNat (n % 128 + 128), UInt8.ofNat (n / 128)]
theorem bytesOf_one (x : Int) : bytesOf [[.v (.int .u8 x)]] = ⟨⟨[UInt8.ofNat x.toNat]⟩⟩ := rfl
theorem bytesOf_two (x y : Int) : bytesOf [[.v (.int .u8 x)], [.v (.int .u8 y)]] = ⟨⟨[UInt8.ofNat x.toNat, UInt8.ofNat y.toNat]⟩⟩ := rfl
theorem u8i {x : Int} (h0 : 0 ≤ x) (h1 : x < 256) : IntKind.u8.wrap x = x := by
  simp [IntKind.wrap, IntKind.bits, IntKind.signed]
  omega
theorem numBytes_ok (n : Nat) (hn : n ≤ 700) : ACall Try.prog n_impl_numBytes [i64 n] (fun r _ => r = sS (numL n)) := by
  have hmx := mx_eq
  have w1 : IntKind.u8.wrap ((n % 128 : Nat) : Int) = ((n % 128 : Nat) : Int) := u8i (by omega) (by omega)
  have w2 : IntKind.u8.wrap (((n % 128 : Nat) : Int) + 128) = ((n % 128 + 128 : Nat) : Int) := u8i (by omega) (by omega)
  have t1 : (n : Int).tmod 128 = ((n % 128 : Nat) : Int) := tmn n 128
  have t2 : (n : Int).tdiv 128 = ((n / 128 : Nat) : Int) := tdn n 128
  have hm : n % 128 < 128 := Nat.mod_lt _ (by omega)
  have hd : n / 128 ≤ 5 := by omega
  by_cases h : n < 128
  · have e : numL n = [UInt8.ofNat n] := if_pos h
    refine fn_in h_impl_numBytes r_impl_numBytes ⟨by simp only [go_sem], fun E hE hH => ?_⟩; simp only [go_sem] at hE hH; simp only [go_sem, hE, hH, c_impl_numBytes]
    repeat' (first | ((with_reducible first | refine gd_t ?_ ?_ | refine gd_f ?_ ?_) <;> (intro h; have hb := h; (try simp only [nf, beq_iff_eq, bne_iff_ne, beq_eq_false_iff_ne, bne_eq_false_iff_eq] at h); simp (disch := omega) only [go_sem, hE, hH, hb]; (try clear hb))) | ((with_reducible refine And.intro ?_ ?_); · omega) | (refine jn _ ?_ ?_) | (with_reducible refine both ?_ ?_) | (with_reducible refine And.intro ?_ ?_) | (refine fin_eq ?_; (try (simp (disch := omega) only [go_sem, hE, hH])); first | done | rfl) | (simp (disch := omega) only [go_sem, hE, hH]) | ((first | apply noMLL_sE | apply pk_sE) <;> (simp only [go_sem, hE, hH]; done)) | (simp only [go_sem, hE, hH]) | fail)
    refine loopNe 0 (fun j (_ : Unit) => ⟨[(0, i64 n), (3, .ref 4000000 0 0)], [(4000000, ⟨1, []⟩)]⟩) (fun _ _ => True) () rfl trivial ?_
    intro j _ hj _
    try simp only [go_sem, hE, hH, c_impl_numBytes_l1]
    repeat' (first | ((with_reducible first | refine gd_t ?_ ?_ | refine gd_f ?_ ?_) <;> (intro h; have hb := h; (try simp only [nf, beq_iff_eq, bne_iff_ne, beq_eq_false_iff_ne, bne_eq_false_iff_eq] at h); simp (disch := omega) only [go_sem, hE, hH, bytesOf_one, e, u8n, hb]; (try clear hb))) | ((with_reducible refine And.intro ?_ ?_); · omega) | (refine jn _ ?_ ?_) | (with_reducible refine both ?_ ?_) | (with_reducible refine And.intro ?_ ?_) | (refine fin_eq ?_; (try (simp (disch := omega) only [go_sem, hE, hH, bytesOf_one, e, u8n])); first | done | rfl) | (simp (disch := omega) only [go_sem, hE, hH, bytesOf_one, e, u8n]) | ((first | apply noMLL_sE | apply pk_sE) <;> (simp only [go_sem, hE, hH, bytesOf_one, e, u8n]; done)) | (simp only [go_sem, hE, hH, bytesOf_one, e, u8n]) | fail)
    all_goals first | (exfalso; omega) | rfl | trace_state
  · have e : numL n = [UInt8.ofNat (n % 128 + 128), UInt8.ofNat (n / 128)] := if_neg h
    refine fn_in h_impl_numBytes r_impl_numBytes ⟨by simp only [go_sem], fun E hE hH => ?_⟩; simp only [go_sem] at hE hH; simp only [go_sem, hE, hH, c_impl_numBytes]
    repeat' (first | ((with_reducible first | refine gd_t ?_ ?_ | refine gd_f ?_ ?_) <;> (intro h; have hb := h; (try simp only [nf, beq_iff_eq, bne_iff_ne, beq_eq_false_iff_ne, bne_eq_false_iff_eq] at h); simp (disch := omega) only [go_sem, hE, hH, hb]; (try clear hb))) | ((with_reducible refine And.intro ?_ ?_); · omega) | (refine jn _ ?_ ?_) | (with_reducible refine both ?_ ?_) | (with_reducible refine And.intro ?_ ?_) | (refine fin_eq ?_; (try (simp (disch := omega) only [go_sem, hE, hH])); first | done | rfl) | (simp (disch := omega) only [go_sem, hE, hH]) | ((first | apply noMLL_sE | apply pk_sE) <;> (simp only [go_sem, hE, hH]; done)) | (simp only [go_sem, hE, hH]) | fail)
    refine loopNe 1 (fun j (_ : Unit) => if j = 0 then ⟨[(0, i64 n), (3, .ref 4000000 0 0)], [(4000000, ⟨1, []⟩)]⟩ else ⟨[(0, i64 ((n / 128 : Nat) : Int)), (3, .ref 4000000 0 1)], [(4000000, ⟨1, [[.v (.int .u8 ((n % 128 + 128 : Nat) : Int))]]⟩)]⟩) (fun _ _ => True) () rfl trivial ?_
    intro j _ hj _
    obtain rfl | rfl : j = 0 ∨ j = 1 := by omega
    · try simp only [go_sem, hE, hH, c_impl_numBytes_l1]
      repeat' (first | ((with_reducible first | refine gd_t ?_ ?_ | refine gd_f ?_ ?_) <;> (intro h; have hb := h; (try simp only [nf, beq_iff_eq, bne_iff_ne, beq_eq_false_iff_ne, bne_eq_false_iff_eq] at h); simp (disch := omega) only [go_sem, hE, hH, t1, t2, w1, w2, hb]; (try clear hb))) | ((with_reducible refine And.intro ?_ ?_); · omega) | (refine jn _ ?_ ?_) | (with_reducible refine both ?_ ?_) | (with_reducible refine And.intro ?_ ?_) | (refine fin_eq ?_; (try (simp (disch := omega) only [go_sem, hE, hH, t1, t2, w1, w2])); first | done | rfl) | (simp (disch := omega) only [go_sem, hE, hH, t1, t2, w1, w2]) | ((first | apply noMLL_sE | apply pk_sE) <;> (simp only [go_sem, hE, hH, t1, t2, w1, w2]; done)) | (simp only [go_sem, hE, hH, t1, t2, w1, w2]) | fail)
      all_goals first | (exfalso; omega) | exact ⟨(), trivial⟩ | exact ⟨(), rfl⟩ | trace_state
    · try simp only [go_sem, hE, hH, c_impl_numBytes_l1]
      repeat' (first | ((with_reducible first | refine gd_t ?_ ?_ | refine gd_f ?_ ?_) <;> (intro h; have hb := h; (try simp only [nf, beq_iff_eq, bne_iff_ne, beq_eq_false_iff_ne, bne_eq_false_iff_eq] at h); simp (disch := omega) only [go_sem, hE, hH, bytesOf_two, e, u8n, hb]; (try clear hb))) | ((with_reducible refine And.intro ?_ ?_); · omega) | (refine jn _ ?_ ?_) | (with_reducible refine both ?_ ?_) | (with_reducible refine And.intro ?_ ?_) | (refine fin_eq ?_; (try (simp (disch := omega) only [go_sem, hE, hH, bytesOf_two, e, u8n])); first | done | rfl) | (simp (disch := omega) only [go_sem, hE, hH, bytesOf_two, e, u8n]) | ((first | apply noMLL_sE | apply pk_sE) <;> (simp only [go_sem, hE, hH, bytesOf_two, e, u8n]; done)) | (simp only [go_sem, hE, hH, bytesOf_two, e, u8n]) | fail)
      all_goals first | (exfalso; omega) | rfl | trace_state
end Go.Proofs.Wb

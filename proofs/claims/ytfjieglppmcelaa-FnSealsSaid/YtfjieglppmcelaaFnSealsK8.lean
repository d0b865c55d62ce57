/- Contracts of functions. -/
import Derived.Test.YtfjieglppmcelaaFnSealsK2
import Derived.Laws.Externs
set_option linter.unusedSimpArgs false
set_option linter.unusedVariables false
set_option linter.unusedSectionVars false
namespace Go.Proofs.Wb
open Go Go.Am
/-! bytes and their seals -/
abbrev sS (l : List UInt8) : T := .v (.string ⟨⟨l⟩⟩)
def sumS (l : List UInt8) : Nat := l.foldl (fun n x => (31 * n + x.toNat + 1) % 16000057) 7
theorem sumS_lt (l : List UInt8) : sumS l < 16000057 := by
  have h : ∀ (l : List UInt8) (n : Nat), n < 16000057 → l.foldl (fun n x => (31 * n + x.toNat + 1) % 16000057) n < 16000057 := by
    intro l
    induction l with
    | nil => intro n h; exact h
    | cons a l ih => intro n h; exact ih _ (Nat.mod_lt _ (by omega))
  exact h l 7 (by omega)
theorem sumS_succ {l : List UInt8} {j : Nat} (h : j < l.length) : sumS (l.take (j + 1)) = (31 * sumS (l.take j) + (l.getD j 0).toNat + 1) % 16000057 := by
  have e : l.take (j + 1) = l.take j ++ [l.getD j 0] := by
    rw [List.take_succ_eq_append_getElem h]; simp [List.getD, h]
  rw [e, sumS, List.foldl_append]; rfl
def thr (n : Nat) : List UInt8 := [UInt8.ofNat (n / 65536), UInt8.ofNat (n / 256), UInt8.ofNat n]
def sealL (l : List UInt8) : List UInt8 := l ++ thr (sumS l)
theorem sealL_len (l : List UInt8) : (sealL l).length = l.length + 3 := by simp [sealL, thr]
@[go_sem] theorem ba_app (a b : List UInt8) : (⟨⟨a⟩⟩ : ByteArray) ++ ⟨⟨b⟩⟩ = ⟨⟨a ++ b⟩⟩ := by
  apply ByteArray.ext
  rw [ByteArray.data_append]
  simp
@[go_sem] theorem ba_size (a : List UInt8) : (⟨⟨a⟩⟩ : ByteArray).size = a.length := rfl
theorem byt_mk (l : List UInt8) (i : Nat) : byt ⟨⟨l⟩⟩ i = ((l.getD i 0).toNat : Nat) := rfl
theorem u8w (m : Nat) : (IntKind.u8.wrap (m : Int)).toNat = m % 256 := by
  simp [IntKind.wrap, IntKind.bits, IntKind.signed]
  omega
theorem u8n (m : Nat) : UInt8.ofNat (IntKind.u8.wrap (m : Int)).toNat = UInt8.ofNat m := by
  rw [u8w]
  apply UInt8.toNat_inj.1
  simp
theorem fd16 (n : Nat) : ((n : Int).fdiv (2 ^ min 16 64)) = ((n / 65536 : Nat) : Int) := by
  rw [show ((2 : Int) ^ min 16 64) = ((65536 : Nat) : Int) by decide, Int.ofNat_fdiv]
theorem fd8 (n : Nat) : ((n : Int).fdiv (2 ^ min 8 64)) = ((n / 256 : Nat) : Int) := by
  rw [show ((2 : Int) ^ min 8 64) = ((256 : Nat) : Int) by decide, Int.ofNat_fdiv]
theorem tdn (n k : Nat) : ((n : Int).tdiv (k : Int)) = ((n / k : Nat) : Int) := by
  rw [Int.ofNat_tdiv]
theorem tmn (n k : Nat) : ((n : Int).tmod (k : Int)) = ((n % k : Nat) : Int) := by
  rw [Int.ofNat_tmod]
@[go_sem] theorem isByteRow_u8 (n : Int) : isByteRow [.v (.int .u8 n)] = true := rfl
theorem byteOf_u8 (n : Int) : Am.byteOf [.v (.int .u8 n)] = UInt8.ofNat n.toNat := rfl
abbrev u8r (x : UInt8) : List T := [.v (.int .u8 (x.toNat : Nat))]
theorem bytesOf_map (l : List UInt8) : bytesOf (l.map u8r) = ⟨⟨l⟩⟩ := by
  simp [bytesOf, u8r, Function.comp_def, byteOf_u8]
theorem u8n2 (m : Nat) : UInt8.ofNat (m % 256) = UInt8.ofNat m := by
  apply UInt8.toNat_inj.1
  simp
theorem thr_rows (a b c : Nat) (n : Nat) (ha : UInt8.ofNat a = UInt8.ofNat (n / 65536)) (hb : UInt8.ofNat b = UInt8.ofNat (n / 256)) (hc : UInt8.ofNat c = UInt8.ofNat n) : bytesOf [[.v (.int .u8 (IntKind.u8.wrap (a : Int)))], [.v (.int .u8 (IntKind.u8.wrap (b : Int)))], [.v (.int .u8 (IntKind.u8.wrap (c : Int)))]] = ⟨⟨thr n⟩⟩ := by
  simp only [bytesOf, List.map_cons, List.map_nil, byteOf_u8, u8n, thr, ha, hb, hc]
theorem sumOf_ok (l : List UInt8) (hl : l.length ≤ 2 ^ 40) : ACall Try.prog n_impl_sumOf [sS l] (fun r _ => r = i64 (sumS l)) := by
  have hmx := mx_eq
  refine fn_in h_impl_sumOf r_impl_sumOf ⟨by simp only [go_sem], fun E hE hH => ?_⟩; simp only [go_sem] at hE hH; simp only [go_sem, hE, hH, c_impl_sumOf]
  repeat' (first | ((with_reducible first | refine gd_t ?_ ?_ | refine gd_f ?_ ?_) <;> (intro h; have hb := h; (try simp only [nf, beq_iff_eq, bne_iff_ne, beq_eq_false_iff_ne, bne_eq_false_iff_eq] at h); simp (disch := omega) only [go_sem, hE, hH, hb]; (try clear hb))) | ((with_reducible refine And.intro ?_ ?_); · omega) | (refine jn _ ?_ ?_) | (with_reducible refine both ?_ ?_) | (with_reducible refine And.intro ?_ ?_) | (refine fin_eq ?_; (try (simp (disch := omega) only [go_sem, hE, hH])); first | done | rfl) | (simp (disch := omega) only [go_sem, hE, hH]) | ((first | apply noMLL_sE | apply pk_sE) <;> (simp only [go_sem, hE, hH]; done)) | (simp only [go_sem, hE, hH]) | fail)
  refine loopNe l.length (fun j (_ : Unit) => ⟨[(0, sS l), (3, i64 (sumS (l.take j))), (6, i64 l.length), (7, i64 j)], []⟩) (fun _ _ => True) () rfl trivial ?_
  intro j _ hj _
  have hs := sumS_lt (l.take j)
  have hb1 : (l.getD j 0).toNat < 256 := UInt8.toNat_lt _
  try simp only [go_sem, hE, hH, c_impl_sumOf_l1]
  first | refine gd_t (fun q1 => ?_) (fun q1 => ?_) | refine gd_f (fun q1 => ?_) (fun q1 => ?_)
  · have q2 := q1
    simp only [nf, beq_iff_eq, bne_iff_ne, beq_eq_false_iff_ne, bne_eq_false_iff_eq] at q1
    have e : ((31 * (sumS (l.take j) : Int) + ((l.getD j 0).toNat : Nat) + 1).tmod 16000057) = (sumS (l.take (j + 1)) : Int) := by
      rw [sumS_succ q1, ← tmn]; rfl
    try simp (disch := omega) only [go_sem, hE, hH, q2]
    repeat' (first | ((with_reducible first | refine gd_t ?_ ?_ | refine gd_f ?_ ?_) <;> (intro h; have hb := h; (try simp only [nf, beq_iff_eq, bne_iff_ne, beq_eq_false_iff_ne, bne_eq_false_iff_eq] at h); simp (disch := omega) only [go_sem, hE, hH, e, hb]; (try clear hb))) | ((with_reducible refine And.intro ?_ ?_); · omega) | (refine jn _ ?_ ?_) | (with_reducible refine both ?_ ?_) | (with_reducible refine And.intro ?_ ?_) | (refine fin_eq ?_; (try (simp (disch := omega) only [go_sem, hE, hH, e])); first | done | rfl) | (simp (disch := omega) only [go_sem, hE, hH, e]) | ((first | apply noMLL_sE | apply pk_sE) <;> (simp only [go_sem, hE, hH, e]; done)) | (simp only [go_sem, hE, hH, e]) | fail)
    all_goals first | exact ⟨(), rfl⟩ | decide | trace_state
  · have q2 := q1
    simp only [nf, beq_iff_eq, bne_iff_ne, beq_eq_false_iff_ne, bne_eq_false_iff_eq] at q2
    obtain rfl : j = l.length := by omega
    try simp (disch := omega) only [go_sem, hE, hH, q1]
    repeat' (first | ((with_reducible first | refine gd_t ?_ ?_ | refine gd_f ?_ ?_) <;> (intro h; have hb := h; (try simp only [nf, beq_iff_eq, bne_iff_ne, beq_eq_false_iff_ne, bne_eq_false_iff_eq] at h); simp (disch := omega) only [go_sem, hE, hH, hb]; (try clear hb))) | ((with_reducible refine And.intro ?_ ?_); · omega) | (refine jn _ ?_ ?_) | (with_reducible refine both ?_ ?_) | (with_reducible refine And.intro ?_ ?_) | (refine fin_eq ?_; (try (simp (disch := omega) only [go_sem, hE, hH])); first | done | rfl) | (simp (disch := omega) only [go_sem, hE, hH]) | ((first | apply noMLL_sE | apply pk_sE) <;> (simp only [go_sem, hE, hH]; done)) | (simp only [go_sem, hE, hH]) | fail)
    all_goals (rw [List.take_length])
theorem l1Sum_ok (l : List UInt8) (hl : l.length ≤ 2 ^ 40) : ACall Try.prog n_spec_l1Sum [sS l] (fun r _ => r = i64 (sumS l)) := by
  have hmx := mx_eq
  refine fn_in h_spec_l1Sum r_spec_l1Sum ⟨by simp only [go_sem], fun E hE hH => ?_⟩; simp only [go_sem] at hE hH; simp only [go_sem, hE, hH, c_spec_l1Sum]
  repeat' (first | ((with_reducible first | refine gd_t ?_ ?_ | refine gd_f ?_ ?_) <;> (intro h; have hb := h; (try simp only [nf, beq_iff_eq, bne_iff_ne, beq_eq_false_iff_ne, bne_eq_false_iff_eq] at h); simp (disch := omega) only [go_sem, hE, hH, hb]; (try clear hb))) | ((with_reducible refine And.intro ?_ ?_); · omega) | (refine jn _ ?_ ?_) | (with_reducible refine both ?_ ?_) | (with_reducible refine And.intro ?_ ?_) | (refine fin_eq ?_; (try (simp (disch := omega) only [go_sem, hE, hH])); first | done | rfl) | (simp (disch := omega) only [go_sem, hE, hH]) | ((first | apply noMLL_sE | apply pk_sE) <;> (simp only [go_sem, hE, hH]; done)) | (simp only [go_sem, hE, hH]) | fail)
  refine loopNe l.length (fun j (_ : Unit) => ⟨[(0, sS l), (3, i64 (sumS (l.take j))), (4, i64 j)], []⟩) (fun _ _ => True) () rfl trivial ?_
  intro j _ hj _
  have hs := sumS_lt (l.take j)
  have hb1 : (l.getD j 0).toNat < 256 := UInt8.toNat_lt _
  try simp only [go_sem, hE, hH, c_spec_l1Sum_l1]
  first | refine gd_t (fun q1 => ?_) (fun q1 => ?_) | refine gd_f (fun q1 => ?_) (fun q1 => ?_)
  · have q2 := q1
    simp only [nf, beq_iff_eq, bne_iff_ne, beq_eq_false_iff_ne, bne_eq_false_iff_eq] at q1
    have e : ((31 * (sumS (l.take j) : Int) + ((l.getD j 0).toNat : Nat) + 1).tmod 16000057) = (sumS (l.take (j + 1)) : Int) := by
      rw [sumS_succ q1, ← tmn]; rfl
    try simp (disch := omega) only [go_sem, hE, hH, q2]
    repeat' (first | ((with_reducible first | refine gd_t ?_ ?_ | refine gd_f ?_ ?_) <;> (intro h; have hb := h; (try simp only [nf, beq_iff_eq, bne_iff_ne, beq_eq_false_iff_ne, bne_eq_false_iff_eq] at h); simp (disch := omega) only [go_sem, hE, hH, e, hb]; (try clear hb))) | ((with_reducible refine And.intro ?_ ?_); · omega) | (refine jn _ ?_ ?_) | (with_reducible refine both ?_ ?_) | (with_reducible refine And.intro ?_ ?_) | (refine fin_eq ?_; (try (simp (disch := omega) only [go_sem, hE, hH, e])); first | done | rfl) | (simp (disch := omega) only [go_sem, hE, hH, e]) | ((first | apply noMLL_sE | apply pk_sE) <;> (simp only [go_sem, hE, hH, e]; done)) | (simp only [go_sem, hE, hH, e]) | fail)
    all_goals first | exact ⟨(), rfl⟩ | decide | trace_state
  · have q2 := q1
    simp only [nf, beq_iff_eq, bne_iff_ne, beq_eq_false_iff_ne, bne_eq_false_iff_eq] at q2
    obtain rfl : j = l.length := by omega
    try simp (disch := omega) only [go_sem, hE, hH, q1]
    repeat' (first | ((with_reducible first | refine gd_t ?_ ?_ | refine gd_f ?_ ?_) <;> (intro h; have hb := h; (try simp only [nf, beq_iff_eq, bne_iff_ne, beq_eq_false_iff_ne, bne_eq_false_iff_eq] at h); simp (disch := omega) only [go_sem, hE, hH, hb]; (try clear hb))) | ((with_reducible refine And.intro ?_ ?_); · omega) | (refine jn _ ?_ ?_) | (with_reducible refine both ?_ ?_) | (with_reducible refine And.intro ?_ ?_) | (refine fin_eq ?_; (try (simp (disch := omega) only [go_sem, hE, hH])); first | done | rfl) | (simp (disch := omega) only [go_sem, hE, hH]) | ((first | apply noMLL_sE | apply pk_sE) <;> (simp only [go_sem, hE, hH]; done)) | (simp only [go_sem, hE, hH]) | fail)
    all_goals (rw [List.take_length])
theorem seal_ok (l : List UInt8) (hl : l.length ≤ 2 ^ 40) : ACall Try.prog n_impl_seal [sS l] (fun r _ => r = sS (sealL l)) := by
  have hmx := mx_eq
  have hs := sumS_lt l
  have e := thr_rows (sumS l / 65536) (sumS l / 256) (sumS l) (sumS l) rfl rfl rfl
  have e2 : (thr (sumS l)).length = 3 := rfl
  refine fn_in h_impl_seal r_impl_seal ⟨by simp only [go_sem], fun E hE hH => ?_⟩; simp only [go_sem] at hE hH; simp only [go_sem, hE, hH, c_impl_seal]
  repeat' (first | ((with_reducible first | refine gd_t ?_ ?_ | refine gd_f ?_ ?_) <;> (intro h; have hb := h; (try simp only [nf, beq_iff_eq, bne_iff_ne, beq_eq_false_iff_ne, bne_eq_false_iff_eq] at h); simp (disch := omega) only [go_sem, hE, hH, fd16, fd8, e, e2, hb]; (try clear hb))) | ((with_reducible refine And.intro ?_ ?_); · omega) | ((first | refine ok_view ?_ | refine cvA (sumOf_ok l hl) ?_); simp (disch := omega) only [go_sem, hE, hH, fd16, fd8, e, e2]) | (refine jn _ ?_ ?_) | (with_reducible refine both ?_ ?_) | (with_reducible refine And.intro ?_ ?_) | (refine fin_eq ?_; (try (simp (disch := omega) only [go_sem, hE, hH, fd16, fd8, e, e2])); first | done | rfl) | (simp (disch := omega) only [go_sem, hE, hH, fd16, fd8, e, e2]) | ((first | apply noMLL_sE | apply pk_sE) <;> (simp only [go_sem, hE, hH, fd16, fd8, e, e2]; done)) | (simp only [go_sem, hE, hH, fd16, fd8, e, e2]) | fail)
  all_goals first | omega | rfl | trace_state
theorem l1Three_ok (n : Nat) (hn : n < 16000057) : ACall Try.prog n_spec_l1Three [i64 n] (fun r _ => r = sS (thr n)) := by
  have hmx := mx_eq
  have t1 : ((n : Int).tdiv 65536) = ((n / 65536 : Nat) : Int) := tdn n 65536
  have t2 : ((n : Int).tdiv 256) = ((n / 256 : Nat) : Int) := tdn n 256
  have t3 : ∀ m : Nat, ((m : Int).tmod 256) = ((m % 256 : Nat) : Int) := fun m => tmn m 256
  have e := thr_rows (n / 65536) (n / 256 % 256) (n % 256) n rfl (u8n2 _) (u8n2 _)
  refine fn_in h_spec_l1Three r_spec_l1Three ⟨by simp only [go_sem], fun E hE hH => ?_⟩; simp only [go_sem] at hE hH; simp only [go_sem, hE, hH, c_spec_l1Three]
  repeat' (first | ((with_reducible first | refine gd_t ?_ ?_ | refine gd_f ?_ ?_) <;> (intro h; have hb := h; (try simp only [nf, beq_iff_eq, bne_iff_ne, beq_eq_false_iff_ne, bne_eq_false_iff_eq] at h); simp (disch := omega) only [go_sem, hE, hH, t1, t2, t3, e, hb]; (try clear hb))) | ((with_reducible refine And.intro ?_ ?_); · omega) | (refine jn _ ?_ ?_) | (with_reducible refine both ?_ ?_) | (with_reducible refine And.intro ?_ ?_) | (refine fin_eq ?_; (try (simp (disch := omega) only [go_sem, hE, hH, t1, t2, t3, e])); first | done | rfl) | (simp (disch := omega) only [go_sem, hE, hH, t1, t2, t3, e]) | ((first | apply noMLL_sE | apply pk_sE) <;> (simp only [go_sem, hE, hH, t1, t2, t3, e]; done)) | (simp only [go_sem, hE, hH, t1, t2, t3, e]) | fail)
  all_goals first | omega | rfl | decide | trace_state
theorem l1Seal_ok (l : List UInt8) (hl : l.length ≤ 2 ^ 40) : ACall Try.prog n_spec_l1Seal [sS l] (fun r _ => r = sS (sealL l)) := by
  have hmx := mx_eq
  have hs := sumS_lt l
  have e2 : (thr (sumS l)).length = 3 := rfl
  refine fn_in h_spec_l1Seal r_spec_l1Seal ⟨by simp only [go_sem], fun E hE hH => ?_⟩; simp only [go_sem] at hE hH; simp only [go_sem, hE, hH, c_spec_l1Seal]
  repeat' (first | ((with_reducible first | refine gd_t ?_ ?_ | refine gd_f ?_ ?_) <;> (intro h; have hb := h; (try simp only [nf, beq_iff_eq, bne_iff_ne, beq_eq_false_iff_ne, bne_eq_false_iff_eq] at h); simp (disch := omega) only [go_sem, hE, hH, e2, hb]; (try clear hb))) | ((with_reducible refine And.intro ?_ ?_); · omega) | ((first | refine ok_view ?_ | refine cvA (l1Sum_ok l hl) ?_ | refine cvA (l1Three_ok _ hs) ?_); simp (disch := omega) only [go_sem, hE, hH, e2]) | (refine jn _ ?_ ?_) | (with_reducible refine both ?_ ?_) | (with_reducible refine And.intro ?_ ?_) | (refine fin_eq ?_; (try (simp (disch := omega) only [go_sem, hE, hH, e2])); first | done | rfl) | (simp (disch := omega) only [go_sem, hE, hH, e2]) | ((first | apply noMLL_sE | apply pk_sE) <;> (simp only [go_sem, hE, hH, e2]; done)) | (simp only [go_sem, hE, hH, e2]) | fail)
  all_goals first | omega | rfl | trace_state

end Go.Proofs.Wb

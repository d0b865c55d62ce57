import Derived.Test.YtalbfdhdbgcikaaGreatDoorFnElectedN0
import Derived.Laws.Externs
set_option linter.unusedSimpArgs false
set_option linter.unusedVariables false
set_option linter.unusedSectionVars false
namespace Go.Proofs.Wb
open Go Go.Am
def vatF (c : List Int) (i : Int) : Int := if i < c.length then nth c i.toNat else (i * 7 + c.length).tmod 256
theorem vatF_rng {c : List Int} (hc : isB c) {i : Int} (h0 : 0 ≤ i) (h1 : i ≤ 1000) : 0 ≤ vatF c i ∧ vatF c i < 256 := by
  unfold vatF
  split
  · exact hc.2 _ (nth_mem (by omega))
  · exact ⟨Int.tmod_nonneg _ (by omega), Int.tmod_lt_of_pos _ (by omega)⟩
theorem vAt_ok (c : List Int) (hc : isB c) (i : Int) (h0 : 0 ≤ i) (h1 : i ≤ 1000) : ACall Tryz.prog n_laws_vAt [.sl false 1 (bys c), i64 i] (fun r _ => r = i64 (vatF c i)) := by
  have hmx := mx_eq
  have hcl := hc.1
  by_cases h : i < c.length
  · have hb := hc.2 _ (nth_mem (show i.toNat < c.length by omega))
    have e : vatF c i = nth c i.toNat := if_pos h
    refine fn_in h_laws_vAt r_laws_vAt ⟨by simp only [go_sem], fun E hE hH => ?_⟩; simp only [go_sem] at hE hH; simp only [go_sem, hE, hH, c_laws_vAt]
    repeat' (first | ((with_reducible first | refine gd_t ?_ ?_ | refine gd_f ?_ ?_) <;> (intro h; have hb := h; (try simp only [nf] at h); simp (disch := omega) only [go_sem, hE, hH, e, hb]; (try clear hb))) | ((with_reducible refine And.intro ?_ ?_); · omega) | (with_reducible apply jn) | (with_reducible apply both) | (with_reducible refine And.intro ?_ ?_) | ((with_reducible apply fin_eq); (try (simp (disch := omega) only [go_sem, hE, hH, e])); first | done | rfl) | (simp (disch := omega) only [go_sem, hE, hH, e]) | ((first | apply noMLL_sE | apply pk_sE) <;> (simp only [go_sem, hE, hH, e]; done)) | (simp only [go_sem, hE, hH, e]) | fail)
    all_goals first | omega | (exfalso; omega) | decide
  · have e : vatF c i = (i * 7 + c.length).tmod 256 := if_neg h
    refine fn_in h_laws_vAt r_laws_vAt ⟨by simp only [go_sem], fun E hE hH => ?_⟩; simp only [go_sem] at hE hH; simp only [go_sem, hE, hH, c_laws_vAt]
    repeat' (first | ((with_reducible first | refine gd_t ?_ ?_ | refine gd_f ?_ ?_) <;> (intro h; have hb := h; (try simp only [nf] at h); simp (disch := omega) only [go_sem, hE, hH, e, hb]; (try clear hb))) | ((with_reducible refine And.intro ?_ ?_); · omega) | (with_reducible apply jn) | (with_reducible apply both) | (with_reducible refine And.intro ?_ ?_) | ((with_reducible apply fin_eq); (try (simp (disch := omega) only [go_sem, hE, hH, e])); first | done | rfl) | (simp (disch := omega) only [go_sem, hE, hH, e]) | ((first | apply noMLL_sE | apply pk_sE) <;> (simp only [go_sem, hE, hH, e]; done)) | (simp only [go_sem, hE, hH, e]) | fail)
    all_goals first | omega | (exfalso; omega) | decide
theorem vInts_ok (a : List Int) (hl : a.length ≤ maxLen) : ACall Tryz.prog n_laws_vInts [.sl false 1 (ints a), .sl false 1 (ints a)] (fun r _ => r = bl true) := by
  have hmx := mx_eq
  refine fn_in h_laws_vInts r_laws_vInts ⟨by simp only [go_sem], fun E hE hH => ?_⟩; simp only [go_sem] at hE hH; simp only [go_sem, hE, hH, c_laws_vInts]
  repeat' (first | ((with_reducible first | refine gd_t ?_ ?_ | refine gd_f ?_ ?_) <;> (intro h; have hb := h; (try simp only [nf] at h); simp (disch := omega) only [go_sem, hE, hH, hb]; (try clear hb))) | ((with_reducible refine And.intro ?_ ?_); · omega) | (refine jn _ ?_ ?_) | (with_reducible refine both ?_ ?_) | (with_reducible refine And.intro ?_ ?_) | (refine fin_eq ?_; (try (simp (disch := omega) only [go_sem, hE, hH])); first | done | rfl) | (simp (disch := omega) only [go_sem, hE, hH]) | ((first | apply noMLL_sE | apply pk_sE) <;> (simp only [go_sem, hE, hH]; done)) | (simp only [go_sem, hE, hH]) | fail)
  refine loopNe a.length (fun j (_ : Unit) => ⟨[(0, .sl false 1 (ints a)), (1, .sl false 1 (ints a)), (5, i64 j)], []⟩) (fun j _ => True) () rfl trivial ?_
  intro j _ hj _
  try simp only [go_sem, hE, hH, c_laws_vInts_l1]
  first | refine gd_t (fun q1 => ?_) (fun q1 => ?_) | refine gd_f (fun q1 => ?_) (fun q1 => ?_)
  · have hb1 := q1
    simp only [nf] at q1
    try simp (disch := omega) only [go_sem, hE, hH, hb1]
    repeat' (first | ((with_reducible first | refine gd_t ?_ ?_ | refine gd_f ?_ ?_) <;> (intro h; have hb := h; (try simp only [nf] at h); simp (disch := omega) only [go_sem, hE, hH, hb]; (try clear hb))) | ((with_reducible refine And.intro ?_ ?_); · omega) | (refine jn _ ?_ ?_) | (with_reducible refine both ?_ ?_) | (with_reducible refine And.intro ?_ ?_) | (refine fin_eq ?_; (try (simp (disch := omega) only [go_sem, hE, hH])); first | done | rfl) | (simp (disch := omega) only [go_sem, hE, hH]) | ((first | apply noMLL_sE | apply pk_sE) <;> (simp only [go_sem, hE, hH]; done)) | (simp only [go_sem, hE, hH]) | fail)
    all_goals exact ⟨(), rfl⟩
  · try simp (disch := omega) only [go_sem, hE, hH, q1]
    repeat' (first | ((with_reducible first | refine gd_t ?_ ?_ | refine gd_f ?_ ?_) <;> (intro h; have hb := h; (try simp only [nf] at h); simp (disch := omega) only [go_sem, hE, hH, hb]; (try clear hb))) | ((with_reducible refine And.intro ?_ ?_); · omega) | (refine jn _ ?_ ?_) | (with_reducible refine both ?_ ?_) | (with_reducible refine And.intro ?_ ?_) | (refine fin_eq ?_; (try (simp (disch := omega) only [go_sem, hE, hH])); first | done | rfl) | (simp (disch := omega) only [go_sem, hE, hH]) | ((first | apply noMLL_sE | apply pk_sE) <;> (simp only [go_sem, hE, hH]; done)) | (simp only [go_sem, hE, hH]) | fail)
theorem vLetters_ok (a : List Letter) (hl : a.length ≤ maxLen) : ACall Tryz.prog n_laws_vLetters [.sl false 4 (a.map (Letter.row false)), .sl false 4 (a.map (Letter.row false))] (fun r _ => r = bl true) := by
  have hmx := mx_eq
  refine fn_in h_laws_vLetters r_laws_vLetters ⟨by simp only [go_sem], fun E hE hH => ?_⟩; simp only [go_sem] at hE hH; simp only [go_sem, hE, hH, c_laws_vLetters]
  repeat' (first | ((with_reducible first | refine gd_t ?_ ?_ | refine gd_f ?_ ?_) <;> (intro h; have hb := h; (try simp only [nf] at h); simp (disch := omega) only [go_sem, hE, hH, hb]; (try clear hb))) | ((with_reducible refine And.intro ?_ ?_); · omega) | (refine jn _ ?_ ?_) | (with_reducible refine both ?_ ?_) | (with_reducible refine And.intro ?_ ?_) | (refine fin_eq ?_; (try (simp (disch := omega) only [go_sem, hE, hH])); first | done | rfl) | (simp (disch := omega) only [go_sem, hE, hH]) | ((first | apply noMLL_sE | apply pk_sE) <;> (simp only [go_sem, hE, hH]; done)) | (simp only [go_sem, hE, hH]) | fail)
  refine loopNe a.length (fun j (_ : Unit) => ⟨[(0, .sl false 4 (a.map (Letter.row false))), (1, .sl false 4 (a.map (Letter.row false))), (5, i64 j)], []⟩) (fun j _ => True) () rfl trivial ?_
  intro j _ hj _
  try simp only [go_sem, hE, hH, c_laws_vLetters_l1]
  first | refine gd_t (fun q1 => ?_) (fun q1 => ?_) | refine gd_f (fun q1 => ?_) (fun q1 => ?_)
  · have hb1 := q1
    simp only [nf] at q1
    try simp (disch := omega) only [go_sem, hE, hH, hb1]
    repeat' (first | ((with_reducible first | refine gd_t ?_ ?_ | refine gd_f ?_ ?_) <;> (intro h; have hb := h; (try simp only [nf] at h); simp (disch := omega) only [go_sem, hE, hH, hb]; (try clear hb))) | ((with_reducible refine And.intro ?_ ?_); · omega) | (refine jn _ ?_ ?_) | (with_reducible refine both ?_ ?_) | (with_reducible refine And.intro ?_ ?_) | (refine fin_eq ?_; (try (simp (disch := omega) only [go_sem, hE, hH])); first | done | rfl) | (simp (disch := omega) only [go_sem, hE, hH]) | ((first | apply noMLL_sE | apply pk_sE) <;> (simp only [go_sem, hE, hH]; done)) | (simp only [go_sem, hE, hH]) | fail)
    all_goals exact ⟨(), rfl⟩
  · try simp (disch := omega) only [go_sem, hE, hH, q1]
    repeat' (first | ((with_reducible first | refine gd_t ?_ ?_ | refine gd_f ?_ ?_) <;> (intro h; have hb := h; (try simp only [nf] at h); simp (disch := omega) only [go_sem, hE, hH, hb]; (try clear hb))) | ((with_reducible refine And.intro ?_ ?_); · omega) | (refine jn _ ?_ ?_) | (with_reducible refine both ?_ ?_) | (with_reducible refine And.intro ?_ ?_) | (refine fin_eq ?_; (try (simp (disch := omega) only [go_sem, hE, hH])); first | done | rfl) | (simp (disch := omega) only [go_sem, hE, hH]) | ((first | apply noMLL_sE | apply pk_sE) <;> (simp only [go_sem, hE, hH]; done)) | (simp only [go_sem, hE, hH]) | fail)
theorem vNet_ok (n : Net) (h1 : n.Homes.length ≤ maxLen) (h2 : n.Under.length ≤ maxLen) : ACall Tryz.prog n_laws_vNet [.agg (Net.row false n), .agg (Net.row false n)] (fun r _ => r = bl true) := by
  have hmx := mx_eq
  refine fn_in h_laws_vNet r_laws_vNet ⟨by simp only [go_sem], fun E hE hH => ?_⟩; simp only [go_sem] at hE hH; simp only [go_sem, hE, hH, c_laws_vNet]
  repeat' (first | ((with_reducible first | refine gd_t ?_ ?_ | refine gd_f ?_ ?_) <;> (intro h; have hb := h; (try simp only [nf] at h); simp (disch := omega) only [go_sem, hE, hH, hb]; (try clear hb))) | ((with_reducible refine And.intro ?_ ?_); · omega) | ((first | refine ok_view ?_ | refine cvA (vInts_ok _ h1) ?_ | refine cvA (vLetters_ok _ h2) ?_); simp (disch := omega) only [go_sem, hE, hH]) | (with_reducible apply jn) | (with_reducible apply both) | (with_reducible refine And.intro ?_ ?_) | ((with_reducible apply fin_eq); (try (simp (disch := omega) only [go_sem, hE, hH])); first | done | rfl) | (simp (disch := omega) only [go_sem, hE, hH]) | ((first | apply noMLL_sE | apply pk_sE) <;> (simp only [go_sem, hE, hH]; done)) | (simp only [go_sem, hE, hH]) | fail)
def tickN (n : Net) : Net × Bool := if goodNet n && !decide (n.Now = 100000) then (⟨n.Now + 1, n.Homes, n.Far, n.Under⟩, true) else (zeroN, false)
theorem TickNet_ok (n : Net) (hm : n.Homes.length ≤ maxLen) : ACall Tryz.prog n_impl_TickNet [.agg (Net.row false n)] (fun r _ => r = .tup [.agg (Net.row true (tickN n).1), bl (tickN n).2]) := by
  have hmx := mx_eq
  cases h1 : goodNet n
  · have e : tickN n = (zeroN, false) := by simp [tickN, h1]
    refine fn_in h_impl_TickNet r_impl_TickNet ⟨by simp only [go_sem], fun E hE hH => ?_⟩; simp only [go_sem] at hE hH; simp only [go_sem, hE, hH, c_impl_TickNet]
    repeat' (first | ((with_reducible first | refine gd_t ?_ ?_ | refine gd_f ?_ ?_) <;> (intro h; have hb := h; (try simp only [nf] at h); simp (disch := omega) only [go_sem, hE, hH, h1, e, hb]; (try clear hb))) | ((with_reducible refine And.intro ?_ ?_); · omega) | ((first | refine ok_view ?_ | refine cvA (GoodNet_ok n hm) ?_); simp (disch := omega) only [go_sem, hE, hH, h1, e]) | (with_reducible apply jn) | (with_reducible apply both) | (with_reducible refine And.intro ?_ ?_) | ((with_reducible apply fin_eq); (try (simp (disch := omega) only [go_sem, hE, hH, h1, e])); first | done | rfl) | (simp (disch := omega) only [go_sem, hE, hH, h1, e]) | ((first | apply noMLL_sE | apply pk_sE) <;> (simp only [go_sem, hE, hH, h1, e]; done)) | (simp only [go_sem, hE, hH, h1, e]) | fail)
    all_goals rfl
  · have hl := goodNet_len h1
    have hw := h1
    simp only [goodNet, Bool.and_eq_true, rng_iff] at hw
    by_cases h2 : n.Now = 100000
    · have e : tickN n = (zeroN, false) := by simp [tickN, h2]
      refine fn_in h_impl_TickNet r_impl_TickNet ⟨by simp only [go_sem], fun E hE hH => ?_⟩; simp only [go_sem] at hE hH; simp only [go_sem, hE, hH, c_impl_TickNet]
      repeat' (first | ((with_reducible first | refine gd_t ?_ ?_ | refine gd_f ?_ ?_) <;> (intro h; have hb := h; (try simp only [nf] at h); simp (disch := omega) only [go_sem, hE, hH, h1, e, hb]; (try clear hb))) | ((with_reducible refine And.intro ?_ ?_); · omega) | ((first | refine ok_view ?_ | refine cvA (GoodNet_ok n hm) ?_ | refine cvA (copyNet_ok n (by omega) (by omega)) ?_); simp (disch := omega) only [go_sem, hE, hH, h1, e]) | (with_reducible apply jn) | (with_reducible apply both) | (with_reducible refine And.intro ?_ ?_) | ((with_reducible apply fin_eq); (try (simp (disch := omega) only [go_sem, hE, hH, h1, e])); first | done | rfl) | (simp (disch := omega) only [go_sem, hE, hH, h1, e]) | ((first | apply noMLL_sE | apply pk_sE) <;> (simp only [go_sem, hE, hH, h1, e]; done)) | (simp only [go_sem, hE, hH, h1, e]) | fail)
      all_goals first | rfl | (exfalso; omega)
    · have e : tickN n = (⟨n.Now + 1, n.Homes, n.Far, n.Under⟩, true) := by simp [tickN, h1, h2]
      refine fn_in h_impl_TickNet r_impl_TickNet ⟨by simp only [go_sem], fun E hE hH => ?_⟩; simp only [go_sem] at hE hH; simp only [go_sem, hE, hH, c_impl_TickNet]
      repeat' (first | ((with_reducible first | refine gd_t ?_ ?_ | refine gd_f ?_ ?_) <;> (intro h; have hb := h; (try simp only [nf] at h); simp (disch := omega) only [go_sem, hE, hH, h1, e, hb]; (try clear hb))) | ((with_reducible refine And.intro ?_ ?_); · omega) | ((first | refine ok_view ?_ | refine cvA (GoodNet_ok n hm) ?_ | refine cvA (copyNet_ok n (by omega) (by omega)) ?_); simp (disch := omega) only [go_sem, hE, hH, h1, e]) | (with_reducible apply jn) | (with_reducible apply both) | (with_reducible refine And.intro ?_ ?_) | ((with_reducible apply fin_eq); (try (simp (disch := omega) only [go_sem, hE, hH, h1, e])); first | done | rfl) | (simp (disch := omega) only [go_sem, hE, hH, h1, e]) | ((first | apply noMLL_sE | apply pk_sE) <;> (simp only [go_sem, hE, hH, h1, e]; done)) | (simp only [go_sem, hE, hH, h1, e]) | fail)
      all_goals (exfalso; omega)
def newN (h : List Int) (f : Int) : Net × Bool := if goodHomes h f then (⟨0, h, f, []⟩, true) else (zeroN, false)
theorem NewNet_ok (h : List Int) (f : Int) (hl : h.length ≤ 2 ^ 20) : ACall Tryz.prog n_impl_NewNet [.sl false 1 (ints h), i64 f] (fun r _ => r = .tup [.agg (Net.row true (newN h f).1), bl (newN h f).2]) := by
  have hmx := mx_eq
  cases h1 : goodHomes h f
  · have e : newN h f = (zeroN, false) := by simp [newN, h1]
    refine fn_in h_impl_NewNet r_impl_NewNet ⟨by simp only [go_sem], fun E hE hH => ?_⟩; simp only [go_sem] at hE hH; simp only [go_sem, hE, hH, c_impl_NewNet]
    repeat' (first | ((with_reducible first | refine gd_t ?_ ?_ | refine gd_f ?_ ?_) <;> (intro h; have hb := h; (try simp only [nf] at h); simp (disch := omega) only [go_sem, hE, hH, h1, e, hb]; (try clear hb))) | ((with_reducible refine And.intro ?_ ?_); · omega) | ((first | refine ok_view ?_ | refine cvA (areHomes_ok h f (by omega)) ?_); simp (disch := omega) only [go_sem, hE, hH, h1, e]) | (with_reducible apply jn) | (with_reducible apply both) | (with_reducible refine And.intro ?_ ?_) | ((with_reducible apply fin_eq); (try (simp (disch := omega) only [go_sem, hE, hH, h1, e])); first | done | rfl) | (simp (disch := omega) only [go_sem, hE, hH, h1, e]) | ((first | apply noMLL_sE | apply pk_sE) <;> (simp only [go_sem, hE, hH, h1, e]; done)) | (simp only [go_sem, hE, hH, h1, e]) | fail)
    all_goals rfl
  · have e : newN h f = (⟨0, h, f, []⟩, true) := by simp [newN, h1]
    refine fn_in h_impl_NewNet r_impl_NewNet ⟨by simp only [go_sem], fun E hE hH => ?_⟩; simp only [go_sem] at hE hH; simp only [go_sem, hE, hH, c_impl_NewNet]
    repeat' (first | ((with_reducible first | refine gd_t ?_ ?_ | refine gd_f ?_ ?_) <;> (intro h; have hb := h; (try simp only [nf] at h); simp (disch := omega) only [go_sem, hE, hH, h1, e, hb]; (try clear hb))) | ((with_reducible refine And.intro ?_ ?_); · omega) | ((first | refine ok_view ?_ | refine cvA (areHomes_ok h f (by omega)) ?_ | refine cvA (Clone_Int_ok h hl) ?_); simp (disch := omega) only [go_sem, hE, hH, h1, e]) | (with_reducible apply jn) | (with_reducible apply both) | (with_reducible refine And.intro ?_ ?_) | ((with_reducible apply fin_eq); (try (simp (disch := omega) only [go_sem, hE, hH, h1, e])); first | done | rfl) | (simp (disch := omega) only [go_sem, hE, hH, h1, e]) | ((first | apply noMLL_sE | apply pk_sE) <;> (simp only [go_sem, hE, hH, h1, e]; done)) | (simp only [go_sem, hE, hH, h1, e]) | fail)
abbrev sD (l : List UInt8) : T := .v (.string ⟨⟨l⟩⟩)
def numF : Nat → Nat → List UInt8
  | 0, _ => []
  | k + 1, u => if u < 10 then [UInt8.ofNat (48 + u)] else numF k (u / 10) ++ [UInt8.ofNat (48 + u % 10)]
def dgt (u : Nat) : List UInt8 := numF 20 u
theorem numF_eq : ∀ (k m u : Nat), u < 10 ^ k → k ≤ m → 1 ≤ k → numF m u = numF k u
  | 0, _, _, _, _, h => absurd h (by omega)
  | k + 1, m, u, hu, hm, _ => by
    obtain ⟨m, rfl⟩ : ∃ n, m = n + 1 := ⟨m - 1, by omega⟩
    simp only [numF]
    by_cases h : u < 10
    · rw [if_pos h, if_pos h]
    · rw [if_neg h, if_neg h, numF_eq k m (u / 10) (by rw [Nat.pow_succ] at hu; omega) (by omega) (by
        rcases Nat.eq_zero_or_pos k with rfl | h1
        · simp at hu; omega
        · exact h1)]
theorem numF_len : ∀ (k u : Nat), 1 ≤ k → 1 ≤ (numF k u).length ∧ (numF k u).length ≤ k
  | 0, _, h => absurd h (by omega)
  | k + 1, u, _ => by
    simp only [numF]
    split
    · simp
    · rcases Nat.eq_zero_or_pos k with rfl | h1
      · simp [numF]
      · have := numF_len k (u / 10) h1
        simp; omega
@[go_sem] theorem ba_app2 (a b : List UInt8) : (⟨⟨a⟩⟩ : ByteArray) ++ ⟨⟨b⟩⟩ = ⟨⟨a ++ b⟩⟩ := by
  apply ByteArray.ext
  rw [ByteArray.data_append]
  simp
@[go_sem] theorem ba_size2 (a : List UInt8) : (⟨⟨a⟩⟩ : ByteArray).size = a.length := rfl
theorem u8_wrap {u : Nat} (h : u < 256) : IntKind.u8.wrap (u : Int) = u := by
  simp [IntKind.wrap, IntKind.bits, IntKind.signed]; omega
@[go_sem] theorem isByteRow_u82 (n : Int) : isByteRow [.v (.int .u8 n)] = true := rfl
theorem byteOf_u82 (n : Int) : Am.byteOf [.v (.int .u8 n)] = UInt8.ofNat n.toNat := rfl
theorem dig_row {u : Nat} (h : u < 10) : bytesOf [[.v (.int .u8 (IntKind.u8.wrap (48 + (u : Int))))]] = ⟨⟨[UInt8.ofNat (48 + u)]⟩⟩ := by
  have e : (48 : Int) + u = ((48 + u : Nat) : Int) := by omega
  rw [e, u8_wrap (by omega)]
  simp only [bytesOf, List.map_cons, List.map_nil, byteOf_u82]
  rfl
theorem l1Num_okF : ∀ (k u : Nat), u < 10 ^ k → 1 ≤ k → k ≤ 18 → ACall Tryz.prog n_spec_l1Num [i64 u] (fun r _ => r = sD (numF k u))
  | 0, _, _, h, _ => absurd h (by omega)
  | k + 1, u, hu, _, hk => by
    have hmx := mx_eq
    have hp : 10 ^ (k + 1) ≤ 10 ^ 18 := Nat.pow_le_pow_right (by omega) hk
    by_cases h : u < 10
    · have e := dig_row h
      have e2 : numF (k + 1) u = [UInt8.ofNat (48 + u)] := by simp only [numF]; rw [if_pos h]
      refine fn_in h_spec_l1Num r_spec_l1Num ⟨by simp only [go_sem], fun E hE hH => ?_⟩; simp only [go_sem] at hE hH; simp only [go_sem, hE, hH, c_spec_l1Num]
      repeat' (first | ((with_reducible first | refine gd_t ?_ ?_ | refine gd_f ?_ ?_) <;> (intro h; have hb := h; (try simp only [nf] at h); simp (disch := omega) only [go_sem, hE, hH, e, e2, hb]; (try clear hb))) | ((with_reducible refine And.intro ?_ ?_); · omega) | (with_reducible apply jn) | (with_reducible apply both) | (with_reducible refine And.intro ?_ ?_) | ((with_reducible apply fin_eq); (try (simp (disch := omega) only [go_sem, hE, hH, e, e2])); first | done | rfl) | (simp (disch := omega) only [go_sem, hE, hH, e, e2]) | ((first | apply noMLL_sE | apply pk_sE) <;> (simp only [go_sem, hE, hH, e, e2]; done)) | (simp only [go_sem, hE, hH, e, e2]) | fail)
      all_goals first | omega | (exfalso; omega) | rfl | trace_state
    · have hk1 : 1 ≤ k := by
        rcases Nat.eq_zero_or_pos k with rfl | h1
        · simp at hu; omega
        · exact h1
      have e := dig_row (show u % 10 < 10 by omega)
      have e2 : numF (k + 1) u = numF k (u / 10) ++ [UInt8.ofNat (48 + u % 10)] := by simp only [numF]; rw [if_neg h]
      have ih := l1Num_okF k (u / 10) (by rw [Nat.pow_succ] at hu; omega) hk1 (by omega)
      have e3 : ((u : Nat) : Int).tdiv 10 = ((u / 10 : Nat) : Int) := by rw [show (10 : Int) = ((10 : Nat) : Int) from rfl, Int.ofNat_tdiv]
      have e4 : ((u : Nat) : Int).tmod 10 = ((u % 10 : Nat) : Int) := by rw [show (10 : Int) = ((10 : Nat) : Int) from rfl, Int.ofNat_tmod]
      have hl := numF_len k (u / 10) hk1
      refine fn_in h_spec_l1Num r_spec_l1Num ⟨by simp only [go_sem], fun E hE hH => ?_⟩; simp only [go_sem] at hE hH; simp only [go_sem, hE, hH, c_spec_l1Num]
      repeat' (first | ((with_reducible first | refine gd_t ?_ ?_ | refine gd_f ?_ ?_) <;> (intro h; have hb := h; (try simp only [nf] at h); simp (disch := omega) only [go_sem, hE, hH, e, e2, e3, e4, hb]; (try clear hb))) | ((with_reducible refine And.intro ?_ ?_); · omega) | ((first | refine ok_view ?_ | refine cvA (ih) ?_); simp (disch := omega) only [go_sem, hE, hH, e, e2, e3, e4]) | (with_reducible apply jn) | (with_reducible apply both) | (with_reducible refine And.intro ?_ ?_) | ((with_reducible apply fin_eq); (try (simp (disch := omega) only [go_sem, hE, hH, e, e2, e3, e4])); first | done | rfl) | (simp (disch := omega) only [go_sem, hE, hH, e, e2, e3, e4]) | ((first | apply noMLL_sE | apply pk_sE) <;> (simp only [go_sem, hE, hH, e, e2, e3, e4]; done)) | (simp only [go_sem, hE, hH, e, e2, e3, e4]) | fail)
      all_goals first | omega | (exfalso; omega) | rfl | trace_state
theorem l1Num_ok (u : Nat) (hu : u < 10 ^ 18) : ACall Tryz.prog n_spec_l1Num [i64 u] (fun r _ => r = sD (dgt u)) := by
  rw [dgt, numF_eq 18 20 u hu (by omega) (by omega)]
  exact l1Num_okF 18 u hu (by omega) (by omega)
abbrev ItoaH : Prop := ∀ u : Nat, u < 10 ^ 18 → ACall Tryz.prog n_strconv_Itoa [i64 u] (fun r _ => r = sD (dgt u))
def rdT (s : List UInt8) : Option Nat := ((List.range 200).find? fun k => dgt (k + 1) == s).map (· + 1)
theorem dgt_inj200 : ∀ u, u < 200 → ∀ v, v < 200 → dgt (u + 1) = dgt (v + 1) → u = v := by decide +kernel
theorem rdT_some {s : List UInt8} {t : Nat} : rdT s = some t ↔ 1 ≤ t ∧ t ≤ 200 ∧ s = dgt t := by
  unfold rdT
  constructor
  · intro h
    obtain ⟨k, h1, rfl⟩ := Option.map_eq_some_iff.1 h
    have h2 := List.find?_some h1
    have h3 := List.mem_range.1 (List.mem_of_find?_eq_some h1)
    simp only [beq_iff_eq] at h2
    exact ⟨by omega, by omega, h2.symm⟩
  · rintro ⟨h1, h2, rfl⟩
    obtain ⟨k, rfl⟩ : ∃ k, t = k + 1 := ⟨t - 1, by omega⟩
    cases h : (List.range 200).find? fun j => dgt (j + 1) == dgt (k + 1) with
    | none =>
      have := List.find?_eq_none.1 h k (List.mem_range.2 (by omega))
      simp at this
    | some j =>
      have h3 := List.find?_some h
      have h4 := List.mem_range.1 (List.mem_of_find?_eq_some h)
      simp only [beq_iff_eq] at h3
      rw [dgt_inj200 j h4 k (by omega) h3]; rfl
abbrev rdR : Option Nat → T
  | some t => .tup [i64 t, bl true]
  | none => .tup [i64 0, bl false]
abbrev ReadIntH : Prop := ∀ s : List UInt8, s.length ≤ 100 → ACall Tryz.prog n_impl_readInt [sD s, i64 1, i64 200] (fun r _ => r = rdR (rdT s))
def sendP (n : Net) (f t : Int) (b : ByteArray) : Net := if (sendN n f t b).2 = true then (sendN n f t b).1 else n
theorem sendN_good {n : Net} {f t : Int} {b : ByteArray} (h : (sendN n f t b).2 = true) : goodNet (sendN n f t b).1 = true ∧ (sendN n f t b).1 = withN n (laidL n.Under (sentL n f t b)) := by
  unfold sendN at h ⊢
  split at h
  · rename_i hc
    rw [if_pos hc]
    unfold ifN at h ⊢
    split at h
    · rename_i hg
      rw [if_pos hg]; exact ⟨hg, rfl⟩
    · cases h
  · cases h
theorem sendP_good {n : Net} {f t : Int} {b : ByteArray} (h : goodNet n = true) : goodNet (sendP n f t b) = true := by
  unfold sendP
  split
  · rename_i hc; exact (sendN_good hc).1
  · exact h
theorem sendP_homes {n : Net} {f t : Int} {b : ByteArray} : (sendP n f t b).Homes = n.Homes := by
  unfold sendP
  split
  · rename_i hc; rw [(sendN_good hc).2]; rfl
  · rfl
def netP (p : Poll) (n : Net) : Poll := ⟨p.Voters, n, p.Won⟩
def spread (n : Net) (v : Int) (b : ByteArray) : Nat → Net
  | 0 => n
  | j + 1 => sendP (spread n v b j) v j b
theorem spread_good {n : Net} {v : Int} {b : ByteArray} (h : goodNet n = true) : ∀ j, goodNet (spread n v b j) = true
  | 0 => h
  | j + 1 => sendP_good (spread_good h j)
theorem spread_homes {n : Net} {v : Int} {b : ByteArray} : ∀ j, (spread n v b j).Homes = n.Homes
  | 0 => rfl
  | j + 1 => by rw [spread, sendP_homes, spread_homes j]
theorem sendP_self {n : Net} {v : Int} {b : ByteArray} : sendP n v v b = n := by
  unfold sendP sendN sendC
  simp
def askB (c : Nat) (t : Int) : ByteArray := ⟨⟨UInt8.ofNat c :: dgt t.toNat⟩⟩
def standC (p : Poll) (v : Int) : Bool := fallC p v && (nth p.Voters v.toNat).Up && !decide ((nth p.Voters v.toNat).Term = 200)
def standX (p : Poll) (v : Int) : Poll := ⟨p.Voters.set v.toNat ⟨true, (nth p.Voters v.toNat).Term + 1, v, [v], false⟩, spread p.Net v (askB 97 ((nth p.Voters v.toNat).Term + 1)) p.Voters.length, p.Won⟩
def zeroP : Poll := ⟨[], ⟨0, [], 0, []⟩, []⟩
def standV (p : Poll) (v : Int) : Poll × Bool := if standC p v then (standX p v, true) else (zeroP, false)
set_option maxHeartbeats 4000000 in
theorem send_ok (p : Poll) (f t : Int) (b : ByteArray) (hg : goodNet p.Net = true) : ACall Tryz.prog n_pimpl_Net_send [.bo true (Poll.row true p) 1, i64 f, i64 t, str b] (fun r l => r = .tup [] ∧ l = [.bo true (Poll.row true (netP p (sendP p.Net f t b))) 1, i64 f, i64 t, str b]) := by
  have hmx := mx_eq
  have gl := goodNet_len hg
  cases hc : (sendN p.Net f t b).2 with
  | false =>
    have e : sendP p.Net f t b = p.Net := by simp [sendP, hc]
    rw [e]
    refine fn_in h_pimpl_Net_send r_pimpl_Net_send ⟨by simp only [go_sem], fun E hE hH => ?_⟩; simp only [go_sem] at hE hH; simp only [go_sem, hE, hH, c_pimpl_Net_send]
    repeat' (first | ((with_reducible first | refine gd_t ?_ ?_ | refine gd_f ?_ ?_) <;> (intro h; have hb := h; (try simp only [nf] at h); simp (disch := omega) only [go_sem, hE, hH, hc, hb]; (try clear hb))) | ((with_reducible refine And.intro ?_ ?_); · omega) | ((first | refine ok_view ?_ | refine cvA (sent_ok p.Net f t b hg (by omega)) ?_); simp (disch := omega) only [go_sem, hE, hH, hc]) | (with_reducible apply jn) | (with_reducible apply both) | (with_reducible refine And.intro ?_ ?_) | ((with_reducible apply fin_eq); (try (simp (disch := omega) only [go_sem, hE, hH, hc])); first | done | rfl) | (simp (disch := omega) only [go_sem, hE, hH, hc]) | ((first | apply noMLL_sE | apply pk_sE) <;> (simp only [go_sem, hE, hH, hc]; done)) | (simp only [go_sem, hE, hH, hc]) | fail)
    all_goals first | rfl | trace_state
  | true =>
    have e : sendP p.Net f t b = (sendN p.Net f t b).1 := by simp [sendP, hc]
    rw [e]
    refine fn_in h_pimpl_Net_send r_pimpl_Net_send ⟨by simp only [go_sem], fun E hE hH => ?_⟩; simp only [go_sem] at hE hH; simp only [go_sem, hE, hH, c_pimpl_Net_send]
    repeat' (first | ((with_reducible first | refine gd_t ?_ ?_ | refine gd_f ?_ ?_) <;> (intro h; have hb := h; (try simp only [nf] at h); simp (disch := omega) only [go_sem, hE, hH, hc, hb]; (try clear hb))) | ((with_reducible refine And.intro ?_ ?_); · omega) | ((first | refine ok_view ?_ | refine cvA (sent_ok p.Net f t b hg (by omega)) ?_); simp (disch := omega) only [go_sem, hE, hH, hc]) | (with_reducible apply jn) | (with_reducible apply both) | (with_reducible refine And.intro ?_ ?_) | ((with_reducible apply fin_eq); (try (simp (disch := omega) only [go_sem, hE, hH, hc])); first | done | rfl) | (simp (disch := omega) only [go_sem, hE, hH, hc]) | ((first | apply noMLL_sE | apply pk_sE) <;> (simp only [go_sem, hE, hH, hc]; done)) | (simp only [go_sem, hE, hH, hc]) | fail)
    all_goals first | rfl | trace_state
def cmpK (a b : Int) : Int := if a < b then -1 else if b < a then 1 else 0
theorem ordK : Ord ltI cmpK := ⟨fun a b => by unfold cmpK ltI; split <;> (try split) <;> simp_all, fun a b => by unfold cmpK; split <;> (try split) <;> omega, fun a => by simp [ltI], fun a b c => by simp only [ltI, decide_eq_true_eq]; omega, fun a b => by simp only [ltI, decide_eq_true_eq]; omega⟩
abbrev srtK (l : List Int) : Prop := srtX ltI (fun x : Int => x) l
abbrev iK (l : List Int) (x : Int) : Nat := fxI ltI (fun x : Int => x) l x
abbrev fK (l : List Int) (x : Int) : Bool := fxF (fun x : Int => x) l x
def yesPut (l : List Int) (x : Int) : List Int := if fK l x = true then l else putAt l (iK l x) x
theorem risR_iff {l : List Int} {lo hi : Int} : risR l lo hi = true ↔ (∀ x ∈ l, lo ≤ x ∧ x ≤ hi) ∧ srtK l := by
  unfold risR
  rw [allN_iff]
  simp only [Bool.and_eq_true, rng_iff, Bool.or_eq_true, decide_eq_true_eq]
  constructor
  · intro h
    refine ⟨fun x hx => ?_, fun i j hij hj => ?_⟩
    · obtain ⟨i, hi, rfl⟩ := List.getElem_of_mem hx
      have := (h i hi).1
      rwa [nth_lt hi] at this
    · simp only [ltI, decide_eq_true_eq]
      have key : ∀ d, i + d + 1 < l.length → nth l i < nth l (i + d + 1) := by
        intro d
        induction d with
        | zero =>
          intro h1
          rcases (h (i + 0 + 1) h1).2 with h2 | h2
          · omega
          · simpa using h2
        | succ d ih =>
          intro h1
          have h0 := ih (by omega)
          rcases (h (i + (d + 1) + 1) h1).2 with h2 | h2
          · omega
          · rw [show i + (d + 1) + 1 - 1 = i + d + 1 by omega] at h2
            omega
      have := key (j - i - 1) (by omega)
      rwa [show i + (j - i - 1) + 1 = j by omega] at this
  · rintro ⟨h1, h2⟩ i hi
    refine ⟨h1 _ (nth_mem hi), ?_⟩
    by_cases h : i = 0
    · exact .inl h
    · have := h2 (i - 1) i (by omega) hi
      simp only [ltI, decide_eq_true_eq] at this
      exact .inr this
theorem mem_yesPut {l : List Int} {x y : Int} (h : y ∈ yesPut l x) : y = x ∨ y ∈ l := by
  unfold yesPut at h
  split at h
  · exact .inr h
  · exact mem_putAt.1 h
theorem yesPut_srt {l : List Int} {x : Int} (h : srtK l) : srtK (yesPut l x) := by
  unfold yesPut
  split
  · exact h
  · rename_i hf
    exact putAt_srt (x := x) ordK h (by simpa using hf)
theorem yesPut_len {l : List Int} {x : Int} : l.length ≤ (yesPut l x).length ∧ (yesPut l x).length ≤ l.length + 1 := by
  unfold yesPut
  split
  · omega
  · rw [putAt_len fxI_le]; omega
def askX (x : Voter) (t : Int) : Voter := if x.Term < t then ⟨true, t, -1, [], false⟩ else x
def askC (y : Voter) (t f : Int) : Bool := decide (y.Term = t) && (decide (y.For = -1) || decide (y.For = f))
def forV (y : Voter) (f : Int) : Voter := ⟨y.Up, y.Term, f, y.Yes, y.Leads⟩
def askP (p : Poll) (l : Letter) (t : Nat) : Poll :=
  if askC (askX (nth p.Voters l.To.toNat) t) t l.From = true then ⟨p.Voters.set l.To.toNat (forV (askX (nth p.Voters l.To.toNat) t) l.From), sendP p.Net l.To l.From (askB 121 t), p.Won⟩
  else ⟨p.Voters.set l.To.toNat (askX (nth p.Voters l.To.toNat) t), p.Net, p.Won⟩
def yesV (x : Voter) (ys : List Int) (b : Bool) : Voter := ⟨x.Up, x.Term, x.For, ys, b⟩
def cntC (x : Voter) (l : Letter) (t : Nat) : Bool := decide (x.Term = t) && decide (x.For = l.To)
def winC (p : Poll) (x : Voter) (ys : List Int) : Bool := decide (p.Voters.length < 2 * ys.length) && !x.Leads
def wonP (p : Poll) (l : Letter) (t : Nat) : List Won := if p.Won.length < 60 then p.Won ++ [⟨t, l.To⟩] else p.Won
def cntP (p : Poll) (l : Letter) (t : Nat) : Poll :=
  if cntC (nth p.Voters l.To.toNat) l t = true then
    if winC p (nth p.Voters l.To.toNat) (yesPut (nth p.Voters l.To.toNat).Yes l.From) = true then ⟨p.Voters.set l.To.toNat (yesV (nth p.Voters l.To.toNat) (yesPut (nth p.Voters l.To.toNat).Yes l.From) true), p.Net, wonP p l t⟩
    else ⟨p.Voters.set l.To.toNat (yesV (nth p.Voters l.To.toNat) (yesPut (nth p.Voters l.To.toNat).Yes l.From) (nth p.Voters l.To.toNat).Leads), p.Net, p.Won⟩
  else p
def tailB (b : ByteArray) : List UInt8 := b.data.toList.drop 1
def hearP (p : Poll) (l : Letter) : Poll :=
  match rdT (tailB l.Body) with
  | none => p
  | some t => if (nth p.Voters l.To.toNat).Up = true then (if byt l.Body 0 = 97 then askP p l t else if byt l.Body 0 = 121 then cntP p l t else p) else p
def tickC (p : Poll) : Bool := goodPoll p && (tickN p.Net).2
def tickN1 (p : Poll) : Net := (tickN p.Net).1
def tick0 (p : Poll) : Poll := ⟨p.Voters, leftN (tickN1 p) (cutD (tickN1 p)), p.Won⟩
def tickL (p : Poll) : List Letter := (tickN1 p).Under.take (cutD (tickN1 p))
def tickP (p : Poll) : Poll × Bool := if tickC p = true then ((tickL p).foldl hearP (tick0 p), true) else (zeroP, false)
structure VOk (x : Voter) (v : Int) (n : Nat) : Prop where
  t : 0 ≤ x.Term ∧ x.Term ≤ 200
  f : -1 ≤ x.For ∧ x.For ≤ (n : Int) - 1
  y : (∀ a ∈ x.Yes, 0 ≤ a ∧ a ≤ (n : Int) - 1) ∧ srtK x.Yes
  o : x.Yes = [] ∨ (x.Up = true ∧ x.For = v)
  l : x.Leads = true → x.Up = true ∧ x.For = v ∧ (n : Int) < 2 * (x.Yes.length : Int)
theorem voterOk_iff {x : Voter} {v : Int} {n : Nat} : voterOk x v n = true ↔ VOk x v n := by
  simp only [voterOk, ownV, Bool.and_eq_true, rng_iff, risR_iff, Bool.or_eq_true, decide_eq_true_eq, Bool.not_eq_true']
  constructor
  · rintro ⟨⟨⟨⟨h1, h2⟩, h3⟩, h4⟩, h5⟩
    refine ⟨h1, h2, h3, ?_, fun h => ?_⟩
    · rcases h4 with h4 | h4
      · exact .inr h4
      · exact .inl (List.length_eq_zero_iff.1 (by omega))
    · rcases h5 with h5 | h5
      · rw [h] at h5; cases h5
      · exact ⟨h5.1.1, h5.1.2, h5.2⟩
  · rintro ⟨h1, h2, h3, h4, h5⟩
    refine ⟨⟨⟨⟨h1, h2⟩, h3⟩, ?_⟩, ?_⟩
    · rcases h4 with h4 | h4
      · right; rw [h4]; rfl
      · exact .inl h4
    · cases h : x.Leads
      · exact .inl rfl
      · obtain ⟨a, b, c⟩ := h5 h; exact .inr ⟨⟨a, b⟩, c⟩
structure Good (p : Poll) : Prop where
  net : goodNet p.Net = true
  n : p.Net.Homes.length = 3 ∨ p.Net.Homes.length = 5
  v : p.Voters.length = p.Net.Homes.length
  w : p.Won.length ≤ 60
  vs : ∀ i, i < p.Voters.length → VOk (nth p.Voters i) i p.Net.Homes.length
  ws : ∀ x ∈ p.Won, (1 ≤ x.Term ∧ x.Term ≤ 200) ∧ 0 ≤ x.Who ∧ x.Who ≤ (p.Net.Homes.length : Int) - 1
theorem good_iff {p : Poll} : goodPoll p = true ↔ Good p := by
  simp only [goodPoll, wonOk, Bool.and_eq_true, Bool.or_eq_true, decide_eq_true_eq, allN_iff, voterOk_iff, List.all_eq_true, rng_iff]
  constructor
  · rintro ⟨⟨⟨⟨⟨h1, h2⟩, h3⟩, h4⟩, h5⟩, h6⟩
    exact ⟨h1, by omega, by omega, by omega, h5, h6⟩
  · rintro ⟨h1, h2, h3, h4, h5, h6⟩
    exact ⟨⟨⟨⟨⟨h1, by omega⟩, by omega⟩, by omega⟩, h5⟩, h6⟩
theorem nthSet {α : Type} [Inhabited α] {l : List α} {i j : Nat} {y : α} (hi : i < l.length) : nth (l.set i y) j = if j = i then y else nth l j := by
  unfold nth
  simp only [List.getD, List.getElem?_set]
  by_cases h : i = j
  · subst h; simp [hi]
  · rw [if_neg h, if_neg (Ne.symm h)]
theorem Good.set {p : Poll} (h : Good p) {i : Nat} {y : Voter} {n : Net} {W : List Won} (hi : i < p.Voters.length) (hy : VOk y i p.Net.Homes.length) (hn : goodNet n = true) (hh : n.Homes = p.Net.Homes) (hw : W.length ≤ 60) (hW : ∀ x ∈ W, (1 ≤ x.Term ∧ x.Term ≤ 200) ∧ 0 ≤ x.Who ∧ x.Who ≤ (p.Net.Homes.length : Int) - 1) : Good ⟨p.Voters.set i y, n, W⟩ where
  net := hn
  n := by simp only [hh]; exact h.n
  v := by simp only [hh, List.length_set]; exact h.v
  w := hw
  vs := fun j hj => by
    simp only [List.length_set] at hj
    simp only [hh]
    rw [nthSet hi]
    split
    · rename_i e; rw [e]; exact hy
    · exact h.vs j hj
  ws := by simp only [hh]; exact hW
theorem Good.netP {p : Poll} (h : Good p) {n : Net} (hn : goodNet n = true) (hh : n.Homes = p.Net.Homes) : Good (netP p n) := ⟨hn, by simp only [Wb.netP, hh]; exact h.n, by simp only [Wb.netP, hh]; exact h.v, h.w, by simp only [Wb.netP, hh]; exact h.vs, by simp only [Wb.netP, hh]; exact h.ws⟩
theorem vok_new {t f : Int} {v : Int} {n : Nat} (h1 : 0 ≤ t ∧ t ≤ 200) (h2 : -1 ≤ f ∧ f ≤ (n : Int) - 1) (b : Bool) : VOk ⟨b, t, f, [], false⟩ v n := ⟨h1, h2, ⟨by simp, fun i j _ h => by simp at h⟩, .inl rfl, by simp⟩
structure LOk (n : Nat) (l : Letter) : Prop where
  f : 0 ≤ l.From ∧ l.From ≤ (n : Int) - 1
  t : 0 ≤ l.To ∧ l.To ≤ (n : Int) - 1
  ne : l.From ≠ l.To
  b : 1 ≤ l.Body.size ∧ l.Body.size ≤ 40
theorem lok_of {n : Nat} {l : Letter} (h : letOk n l = true) : LOk n l := by
  simp only [letOk, Bool.and_eq_true, rng_iff, Bool.not_eq_true', decide_eq_false_iff_not] at h
  obtain ⟨⟨⟨⟨h1, h2⟩, h3⟩, h4⟩, h5⟩ := h
  exact ⟨h1, h2, h3, by omega⟩
theorem vok_ask {x : Voter} {v : Int} {n : Nat} (h : VOk x v n) {t : Nat} (ht : t ≤ 200) : VOk (askX x t) v n := by
  unfold askX
  split
  · exact vok_new (by omega) ⟨by omega, by have := h.f; omega⟩ _
  · exact h
theorem ask_good {p : Poll} (h : Good p) {l : Letter} (hl : LOk p.Net.Homes.length l) {t : Nat} (ht : 1 ≤ t ∧ t ≤ 200) : Good (askP p l t) ∧ (askP p l t).Net.Homes = p.Net.Homes := by
  have hv := h.v
  have h1 := hl.t
  have hi : l.To.toNat < p.Voters.length := by omega
  have hx := vok_ask (h.vs _ hi) ht.2
  have hc : ((l.To.toNat : Nat) : Int) = l.To := by omega
  rw [hc] at hx
  unfold askP
  split
  · rename_i hA
    refine ⟨h.set hi ?_ (sendP_good h.net) sendP_homes h.w h.ws, sendP_homes⟩
    rw [hc]
    simp only [askC, Bool.and_eq_true, Bool.or_eq_true, decide_eq_true_eq] at hA
    have h2 := hl.f; have h3 := hl.ne
    have ho : (askX (nth p.Voters l.To.toNat) t).Yes = [] ∧ (askX (nth p.Voters l.To.toNat) t).Leads = false := by
      have hne : (askX (nth p.Voters l.To.toNat) t).For ≠ l.To := by rcases hA.2 with e | e <;> rw [e] <;> omega
      refine ⟨?_, ?_⟩
      · rcases hx.o with e | e
        · exact e
        · exact absurd e.2 hne
      · cases hL : (askX (nth p.Voters l.To.toNat) t).Leads
        · rfl
        · exact absurd (hx.l hL).2.1 hne
    exact ⟨hx.t, by simp only [forV]; omega, hx.y, .inl ho.1, fun e => by simp only [forV] at e; rw [ho.2] at e; cases e⟩
  · refine ⟨h.set hi ?_ h.net rfl h.w h.ws, rfl⟩
    rw [hc]; exact hx
theorem cnt_good {p : Poll} (h : Good p) {l : Letter} (hl : LOk p.Net.Homes.length l) {t : Nat} (ht : 1 ≤ t ∧ t ≤ 200) (hu : (nth p.Voters l.To.toNat).Up = true) : Good (cntP p l t) ∧ (cntP p l t).Net.Homes = p.Net.Homes := by
  have hv := h.v
  have h1 := hl.t
  have hi : l.To.toNat < p.Voters.length := by omega
  have hx := h.vs _ hi
  have hc : ((l.To.toNat : Nat) : Int) = l.To := by omega
  have h2 := hl.f
  have hy : (∀ a ∈ yesPut (nth p.Voters l.To.toNat).Yes l.From, 0 ≤ a ∧ a ≤ (p.Net.Homes.length : Int) - 1) ∧ srtK (yesPut (nth p.Voters l.To.toNat).Yes l.From) := by
    refine ⟨fun a ha => ?_, yesPut_srt hx.y.2⟩
    rcases mem_yesPut ha with rfl | ha
    · exact h2
    · exact hx.y.1 a ha
  have hlen := yesPut_len (l := (nth p.Voters l.To.toNat).Yes) (x := l.From)
  unfold cntP
  split
  · rename_i hC
    simp only [cntC, Bool.and_eq_true, decide_eq_true_eq] at hC
    split
    · rename_i hW
      simp only [winC, Bool.and_eq_true, decide_eq_true_eq] at hW
      refine ⟨h.set hi ⟨hx.t, hx.f, hy, .inr ⟨hu, by rw [hc]; exact hC.2⟩, fun _ => ⟨hu, by rw [hc]; exact hC.2, by simp only [yesV]; omega⟩⟩ h.net rfl ?_ ?_, rfl⟩
      · have hw := h.w
        unfold wonP
        split
        · rw [List.length_append]; simp only [List.length_cons, List.length_nil]; omega
        · exact hw
      · intro x hxx
        unfold wonP at hxx
        split at hxx
        · rcases List.mem_append.1 hxx with hxx | hxx
          · exact h.ws x hxx
          · simp only [List.mem_singleton] at hxx
            subst hxx
            exact ⟨by simp only; omega, h1⟩
        · exact h.ws x hxx
    · refine ⟨h.set hi ⟨hx.t, hx.f, hy, .inr ⟨hu, by rw [hc]; exact hC.2⟩, fun e => ?_⟩ h.net rfl h.w h.ws, rfl⟩
      obtain ⟨a, b, c⟩ := hx.l e
      exact ⟨a, b, by simp only [yesV]; omega⟩
  · exact ⟨h, rfl⟩
theorem hear_good {p : Poll} (h : Good p) {l : Letter} (hl : LOk p.Net.Homes.length l) : Good (hearP p l) ∧ (hearP p l).Net.Homes = p.Net.Homes := by
  unfold hearP
  split
  · exact ⟨h, rfl⟩
  · rename_i t ht
    obtain ⟨a, b, _⟩ := rdT_some.1 ht
    split
    · rename_i hu
      split
      · exact ask_good h hl ⟨a, b⟩
      · split
        · exact cnt_good h hl ⟨a, b⟩ hu
        · exact ⟨h, rfl⟩
    · exact ⟨h, rfl⟩
theorem hears_good {p : Poll} (h : Good p) : ∀ {L : List Letter}, (∀ l ∈ L, LOk p.Net.Homes.length l) → Good (L.foldl hearP p) ∧ (L.foldl hearP p).Net.Homes = p.Net.Homes
  | [], _ => ⟨h, rfl⟩
  | l :: L, hL => by
    obtain ⟨h1, h2⟩ := hear_good h (hL l (List.mem_cons_self ..))
    obtain ⟨h3, h4⟩ := hears_good h1 (L := L) (fun x hx => by rw [h2]; exact hL x (List.mem_cons_of_mem _ hx))
    exact ⟨h3, h4.trans h2⟩
theorem good_u {n : Net} (h : goodNet n = true) : ∀ x ∈ n.Under, LOk n.Homes.length x := by
  rw [goodNet_u] at h
  simp only [Bool.and_eq_true, goodU_iff] at h
  exact fun x hx => lok_of (h.2.1 x hx)
theorem good_drop {n : Net} (h : goodNet n = true) (k : Nat) : goodNet (leftN n k) = true := by
  rw [goodNet_u] at h ⊢
  simp only [Bool.and_eq_true, goodU_iff, decide_eq_true_eq] at h ⊢
  obtain ⟨⟨h1, h2⟩, h3, h4⟩ := h
  refine ⟨⟨h1, ?_⟩, fun x hx => h3 x (List.mem_of_mem_drop hx), h4.sublist (List.drop_sublist _ _)⟩
  simp only [leftN, List.length_drop]; omega
theorem tickN_good {n : Net} (h : (tickN n).2 = true) : goodNet n = true ∧ goodNet (tickN n).1 = true ∧ (tickN n).1 = ⟨n.Now + 1, n.Homes, n.Far, n.Under⟩ := by
  unfold tickN at h ⊢
  split at h
  · rename_i hc
    rw [if_pos hc]
    simp only [Bool.and_eq_true, Bool.not_eq_true', decide_eq_false_iff_not] at hc
    refine ⟨hc.1, ?_, rfl⟩
    have h1 := hc.1
    rw [goodNet_u] at h1 ⊢
    simp only [Bool.and_eq_true, rng_iff] at h1 ⊢
    refine ⟨⟨⟨by omega, h1.1.1.2⟩, h1.1.2⟩, h1.2⟩
  · cases h
theorem tick_good {p : Poll} (h : (tickP p).2 = true) : Good p ∧ Good (tickP p).1 ∧ (tickP p).1.Net.Homes = p.Net.Homes := by
  unfold tickP at h ⊢
  split at h
  · rename_i hc
    rw [if_pos hc]
    simp only [tickC, Bool.and_eq_true] at hc
    have hp := good_iff.1 hc.1
    obtain ⟨h1, h2, h3⟩ := tickN_good hc.2
    have hh : (tickN1 p).Homes = p.Net.Homes := by unfold tickN1; rw [h3]
    have h0 : Good (tick0 p) := hp.netP (good_drop h2 _) hh
    have hL : ∀ l ∈ tickL p, LOk (tick0 p).Net.Homes.length l := fun l hl => good_u h2 l (List.mem_of_mem_take hl)
    obtain ⟨h4, h5⟩ := hears_good h0 hL
    exact ⟨hp, h4, h5.trans hh⟩
  · cases h
theorem stand_good {p : Poll} {v : Int} (h : (standV p v).2 = true) : Good p ∧ Good (standV p v).1 ∧ (standV p v).1.Net.Homes = p.Net.Homes := by
  unfold standV at h ⊢
  split at h
  · rename_i hc
    rw [if_pos hc]
    simp only [standC, fallC, Bool.and_eq_true, rng_iff, Bool.not_eq_true', decide_eq_false_iff_not] at hc
    obtain ⟨⟨⟨h1, h2⟩, h3⟩, h4⟩ := hc
    have hp := good_iff.1 h1
    have hv := hp.v
    have hi : v.toNat < p.Voters.length := by omega
    have hx := hp.vs _ hi
    have hc : ((v.toNat : Nat) : Int) = v := by omega
    have ht := hx.t
    refine ⟨hp, hp.set hi ⟨by simp only; omega, by simp only; omega, ⟨by simp; omega, fun i j a b => by simp at b; omega⟩, .inr ⟨rfl, hc.symm⟩, by simp⟩ (spread_good hp.net _) (spread_homes _) hp.w hp.ws, spread_homes _⟩
  · cases h
theorem srtK_nodup {L : List Int} (h : srtK L) : L.Nodup := by
  rw [List.nodup_iff_pairwise_ne, List.pairwise_iff_getElem]
  intro i j hi hj hij e
  have := h i j hij hj
  rw [nth_lt hi, nth_lt hj, e] at this
  simp [ltI] at this
theorem nodup_len : ∀ (n : Nat) (L : List Int), L.Nodup → (∀ x ∈ L, 0 ≤ x ∧ x < (n : Int)) → L.length ≤ n
  | 0, [], _, _ => Nat.le_refl _
  | 0, x :: L, _, h => by have := h x (List.mem_cons_self ..); omega
  | n + 1, L, hd, h => by
    have h1 : (L.filter (fun x => decide (x ≠ (n : Int)))).length ≤ n := nodup_len n _ (hd.filter _) fun x hx => by
      rw [List.mem_filter] at hx
      have := h x hx.1
      have h2 := hx.2
      simp at h2
      omega
    have h2 : (L.filter (fun x => !decide (x ≠ (n : Int)))).length ≤ 1 := by
      have hn := hd.filter (fun x => !decide (x ≠ (n : Int)))
      have ha : ∀ x ∈ L.filter (fun x => !decide (x ≠ (n : Int))), x = n := fun x hx => by
        rw [List.mem_filter] at hx
        simpa using hx.2
      revert hn ha
      generalize L.filter (fun x => !decide (x ≠ (n : Int))) = M
      intro hn ha
      rcases M with _ | ⟨a, _ | ⟨b, M⟩⟩
      · simp
      · simp
      · exfalso
        have e1 := ha a (by simp)
        have e2 := ha b (by simp)
        rw [e1, e2] at hn
        simp at hn
    have h3 : L.length = (L.filter (fun x => decide (x ≠ (n : Int)))).length + (L.filter (fun x => !decide (x ≠ (n : Int)))).length := by
      clear h1 h2 h hd
      induction L with
      | nil => rfl
      | cons a L ih =>
        simp only [List.filter_cons]
        cases decide (a ≠ (n : Int)) <;> simp only [Bool.not_true, Bool.not_false, Bool.false_eq_true, if_true, if_false, List.length_cons] <;> omega
    omega
theorem szL_le {α : Type} {f : α → Nat} {A : Nat} : ∀ {l : List α}, (∀ x ∈ l, f x ≤ A) → szL f l ≤ l.length * (A + 1)
  | [], _ => by simp [szL]
  | x :: l, h => by
    have h1 := szL_le (l := l) (fun y hy => h y (List.mem_cons_of_mem _ hy))
    have h2 := h x (List.mem_cons_self ..)
    simp only [szL, List.map_cons, List.sum_cons, List.length_cons, Nat.succ_mul] at h1 ⊢
    omega
theorem vok_len {x : Voter} {v : Int} {n : Nat} (h : VOk x v n) : x.Yes.length ≤ n :=
  nodup_len n _ (srtK_nodup h.y.2) fun a ha => by have := h.y.1 a ha; omega
theorem good_sz {p : Poll} (h : Good p) : p.sz ≤ 3000 := by
  have h1 : szL Voter.sz p.Voters ≤ p.Voters.length * 6 := szL_le (A := 5) fun x hx => by
    obtain ⟨i, hi, rfl⟩ := List.getElem_of_mem hx
    have := vok_len (h.vs i hi)
    rw [nth_lt hi] at this
    have hn := h.n
    have e : Voter.sz p.Voters[i] = p.Voters[i].Yes.length := rfl
    omega
  have h2 : szL Letter.sz p.Net.Under ≤ p.Net.Under.length * 41 := szL_le (A := 40) fun x hx => (good_u h.net x hx).b.2
  have h3 := goodNet_len h.net
  have hv := h.v; have hn := h.n; have hw := h.w
  have h4 : p.Voters.length * 6 ≤ 5 * 6 := Nat.mul_le_mul_right _ (by omega)
  have h5 : p.Net.Under.length * 41 ≤ 60 * 41 := Nat.mul_le_mul_right _ (by omega)
  simp only [Poll.sz, Net.sz]
  omega
set_option maxHeartbeats 4000000 in
theorem l8Send_ok (n : Net) (f t : Int) (b : ByteArray) (hm : n.Homes.length ≤ maxLen) : ACall Tryz.prog n_spec_l8Send [.agg (Net.row true n), i64 f, i64 t, str b] (fun r l => r = .agg (Net.row true (sendP n f t b)) ∧ l = [.any, i64 f, i64 t, str b]) := by
  have hmx := mx_eq
  cases hc : (sendN n f t b).2 with
  | false =>
    have e : sendP n f t b = n := by simp [sendP, hc]
    refine fn_inD [true, false, false, false] h_spec_l8Send r_spec_l8Send ⟨by simp only [go_sem], fun E hE hH => ?_⟩; simp only [go_sem] at hE hH; simp only [go_sem, hE, hH, c_spec_l8Send]
    repeat' (first | ((with_reducible first | refine gd_t ?_ ?_ | refine gd_f ?_ ?_) <;> (intro h; have hb := h; (try simp only [nf] at h); simp (disch := omega) only [go_sem, hE, hH, hc, e, hb]; (try clear hb))) | ((with_reducible refine And.intro ?_ ?_); · omega) | ((first | refine ok_view ?_ | refine cvA (sSendTo_ok n f t b hm) ?_); simp (disch := omega) only [go_sem, hE, hH, hc, e]) | (with_reducible apply jn) | (with_reducible apply both) | (with_reducible refine And.intro ?_ ?_) | ((with_reducible apply fin_eq); (try (simp (disch := omega) only [go_sem, hE, hH, hc, e])); first | done | rfl) | (simp (disch := omega) only [go_sem, hE, hH, hc, e]) | ((first | apply noMLL_sE | apply pk_sE) <;> (simp only [go_sem, hE, hH, hc, e]; done)) | (simp only [go_sem, hE, hH, hc, e]) | fail)
    all_goals first | rfl | trace_state
  | true =>
    have e : sendP n f t b = (sendN n f t b).1 := by simp [sendP, hc]
    refine fn_inD [true, false, false, false] h_spec_l8Send r_spec_l8Send ⟨by simp only [go_sem], fun E hE hH => ?_⟩; simp only [go_sem] at hE hH; simp only [go_sem, hE, hH, c_spec_l8Send]
    repeat' (first | ((with_reducible first | refine gd_t ?_ ?_ | refine gd_f ?_ ?_) <;> (intro h; have hb := h; (try simp only [nf] at h); simp (disch := omega) only [go_sem, hE, hH, hc, e, hb]; (try clear hb))) | ((with_reducible refine And.intro ?_ ?_); · omega) | ((first | refine ok_view ?_ | refine cvA (sSendTo_ok n f t b hm) ?_); simp (disch := omega) only [go_sem, hE, hH, hc, e]) | (with_reducible apply jn) | (with_reducible apply both) | (with_reducible refine And.intro ?_ ?_) | ((with_reducible apply fin_eq); (try (simp (disch := omega) only [go_sem, hE, hH, hc, e])); first | done | rfl) | (simp (disch := omega) only [go_sem, hE, hH, hc, e]) | ((first | apply noMLL_sE | apply pk_sE) <;> (simp only [go_sem, hE, hH, hc, e]; done)) | (simp only [go_sem, hE, hH, hc, e]) | fail)
    all_goals first | rfl | trace_state
theorem standV_no {p : Poll} {v : Int} (h : standC p v = false) : standV p v = (zeroP, false) := by simp [standV, h]
theorem standV_yes {p : Poll} {v : Int} (h : standC p v = true) : standV p v = (standX p v, true) := by simp [standV, h]
theorem stand_at {p : Poll} {v : Int} (h : standC p v = true) : Good p ∧ fallC p v = true ∧ 0 ≤ v ∧ v < p.Voters.length ∧ (nth p.Voters v.toNat).Up = true ∧ (nth p.Voters v.toNat).Term ≠ 200 ∧ ∃ t : Nat, (nth p.Voters v.toNat).Term + 1 = t ∧ 1 ≤ t ∧ t ≤ 200 := by
  simp only [standC, Bool.and_eq_true, Bool.not_eq_true', decide_eq_false_iff_not] at h
  obtain ⟨⟨h1, h2⟩, h3⟩ := h
  obtain ⟨k1, k2⟩ := fallC_at h1
  have h4 := h1
  simp only [fallC, Bool.and_eq_true] at h4
  have hp := good_iff.1 h4.1
  have ht := (hp.vs v.toNat (by omega)).t
  exact ⟨hp, h1, k1, k2, h2, h3, ((nth p.Voters v.toNat).Term + 1).toNat, by omega, by omega, by omega⟩
theorem dgt_len (t : Nat) : (dgt t).length ≤ 20 := (numF_len 20 t (by omega)).2
def upTo (p : Poll) (v : Int) (t : Nat) (j : Nat) : Poll := ⟨p.Voters.set v.toNat ⟨true, t, v, [v], false⟩, spread p.Net v (askB 97 t) j, p.Won⟩
set_option maxHeartbeats 4000000 in
theorem StandUp_ok (hI : ItoaH) (p : Poll) (v : Int) (hp : pollOk p) (hq : pollSm p) : ACall Tryz.prog n_impl_StandUp [.agg (Poll.row false p), i64 v] (fun r _ => r = .tup [.agg (Poll.row true (standV p v).1), bl (standV p v).2]) := by
  have hmx := mx_eq
  obtain ⟨h1, h2, h3, h4, h5⟩ := hq
  have hi := isVoterOf_ok p v hp
  rw [fallC_eq] at hi
  cases hc : standC p v with
  | false =>
    have e := standV_no hc
    cases hf : fallC p v with
    | false =>
      rw [hf] at hi
      refine fn_in h_impl_StandUp r_impl_StandUp ⟨by simp only [go_sem], fun E hE hH => ?_⟩; simp only [go_sem] at hE hH; simp only [go_sem, hE, hH, c_impl_StandUp]
      repeat' (first | ((with_reducible first | refine gd_t ?_ ?_ | refine gd_f ?_ ?_) <;> (intro h; have hb := h; (try simp only [nf] at h); simp (disch := omega) only [go_sem, hE, hH, e, hb]; (try clear hb))) | ((with_reducible refine And.intro ?_ ?_); · omega) | ((first | refine ok_view ?_ | refine cvA (hi) ?_); simp (disch := omega) only [go_sem, hE, hH, e]) | (refine jn _ ?_ ?_) | (with_reducible refine both ?_ ?_) | (with_reducible refine And.intro ?_ ?_) | (refine fin_eq ?_; (try (simp (disch := omega) only [go_sem, hE, hH, e])); first | done | rfl) | (simp (disch := omega) only [go_sem, hE, hH, e]) | ((first | apply noMLL_sE | apply pk_sE) <;> (simp only [go_sem, hE, hH, e]; done)) | (simp only [go_sem, hE, hH, e]) | fail)
      all_goals first | rfl | trace_state
    | true =>
      rw [hf] at hi
      obtain ⟨k1, k2⟩ := fallC_at hf
      refine fn_in h_impl_StandUp r_impl_StandUp ⟨by simp only [go_sem], fun E hE hH => ?_⟩; simp only [go_sem] at hE hH; simp only [go_sem, hE, hH, c_impl_StandUp]
      repeat' (first | ((with_reducible first | refine gd_t ?_ ?_ | refine gd_f ?_ ?_) <;> (intro h; have hb := h; (try simp only [nf] at h); simp (disch := omega) only [go_sem, hE, hH, e, hb]; (try clear hb))) | ((with_reducible refine And.intro ?_ ?_); · omega) | ((first | refine ok_view ?_ | refine cvA (hi) ?_); simp (disch := omega) only [go_sem, hE, hH, e]) | (refine jn _ ?_ ?_) | (with_reducible refine both ?_ ?_) | (with_reducible refine And.intro ?_ ?_) | (refine fin_eq ?_; (try (simp (disch := omega) only [go_sem, hE, hH, e])); first | done | rfl) | (simp (disch := omega) only [go_sem, hE, hH, e]) | ((first | apply noMLL_sE | apply pk_sE) <;> (simp only [go_sem, hE, hH, e]; done)) | (simp only [go_sem, hE, hH, e]) | fail)
      all_goals first | rfl | (exfalso; simp_all [standC]; done) | omega | trace_state
  | true =>
    obtain ⟨hg, hf, k1, k2, hu, hn, t, ht, t1, t2⟩ := stand_at hc
    rw [hf] at hi
    rw [standV_yes hc]
    have hk : v.toNat < p.Voters.length := by omega
    have hs := fun r => getD_set_map (f := Voter.row true) (r := r) hk
    refine fn_in h_impl_StandUp r_impl_StandUp ⟨by simp only [go_sem], fun E hE hH => ?_⟩; simp only [go_sem] at hE hH; simp only [go_sem, hE, hH, c_impl_StandUp]
    repeat' (first | ((with_reducible first | refine gd_t ?_ ?_ | refine gd_f ?_ ?_) <;> (intro h; have hb := h; (try simp only [nf] at h); simp (disch := omega) only [go_sem, hE, hH, hs, hu, hn, ht, hb]; (try clear hb))) | ((with_reducible refine And.intro ?_ ?_); · omega) | ((first | refine ok_view ?_ | refine cvA (hi) ?_ | refine cvA (copyPoll_ok p h1 h2 h3 h4 h5) ?_); simp (disch := omega) only [go_sem, hE, hH, hs, hu, hn, ht]) | (with_reducible apply jn) | (with_reducible apply both) | (with_reducible refine And.intro ?_ ?_) | ((with_reducible apply fin_eq); (try (simp (disch := omega) only [go_sem, hE, hH, hs, hu, hn, ht])); first | done | rfl) | (simp (disch := omega) only [go_sem, hE, hH, hs, hu, hn, ht]) | ((first | apply noMLL_sE | apply pk_sE) <;> (simp only [go_sem, hE, hH, hs, hu, hn, ht]; done)) | (simp only [go_sem, hE, hH, hs, hu, hn, ht]) | fail)
    have q9 : 10 ^ 18 = 1000000000000000000 := by decide
    have hsend : ∀ j, ACall Tryz.prog n_pimpl_Net_send [.bo true (Poll.row true (upTo p v t j)) 1, i64 v, i64 j, str ⟨⟨[97] ++ dgt t⟩⟩] (fun r l => r = .tup [] ∧ l = [.bo true (Poll.row true (upTo p v t (j + 1))) 1, i64 v, i64 j, str ⟨⟨[97] ++ dgt t⟩⟩]) := fun j => send_ok (upTo p v t j) v j (askB 97 t) (spread_good hg.net j)
    refine loopNe p.Voters.length (fun j (_ : Unit) => ⟨[(1, i64 v), (4, .ptr 5000000 0 0), (6, .ptr 7000000 0 0), (7, i64 t), (52, i64 p.Voters.length), (53, i64 j)], [(5000000, ⟨6, [[nils, i64 0, nils, i64 0, nils, nils]]⟩), (7000000, ⟨6, [Poll.row true (upTo p v t j)]⟩)]⟩) (fun _ _ => True) () (by simp only [upTo, spread, Poll.row_eq, List.map_set]; rfl) trivial ?_
    intro j _ hj _
    have hdl := dgt_len t
    try simp only [go_sem, hE, hH, c_impl_StandUp_l1]
    first | refine gd_t (fun h => ?_) (fun h => ?_) | refine gd_f (fun h => ?_) (fun h => ?_)
    · have hb := h
      simp only [nf] at h
      have hlt := h; clear h
      try simp (disch := omega) only [go_sem, hE, hH, hb]
      repeat' (first | ((with_reducible first | refine gd_t ?_ ?_ | refine gd_f ?_ ?_) <;> (intro h; have hb := h; (try simp only [nf] at h); simp (disch := omega) only [go_sem, hE, hH, hb]; (try clear hb))) | ((with_reducible refine And.intro ?_ ?_); · omega) | (refine ok_lend [true, false, false, false] ?_; simp (disch := omega) only [go_sem, hE, hH]; refine cmA (hsend j) ?_; simp (disch := omega) only [go_sem, hE, hH]) | ((first | refine ok_view ?_ | refine cvA (hI t (by omega)) ?_); simp (disch := omega) only [go_sem, hE, hH]) | (with_reducible apply jn) | (with_reducible apply both) | (with_reducible refine And.intro ?_ ?_) | ((with_reducible apply fin_eq); (try (simp (disch := omega) only [go_sem, hE, hH])); first | done | rfl) | (simp (disch := omega) only [go_sem, hE, hH]) | ((first | apply noMLL_sE | apply pk_sE) <;> (simp only [go_sem, hE, hH]; done)) | (simp only [go_sem, hE, hH]) | fail)
      all_goals first | omega | exact ⟨(), rfl⟩ | exact ⟨by omega, (), rfl⟩ | trace_state
    · try simp (disch := omega) only [go_sem, hE, hH, h]
      simp only [nf] at h
      have ej : j = p.Voters.length := by omega
      subst ej
      have eX : standX p v = upTo p v t p.Voters.length := by simp only [standX, upTo, ht]
      rw [eX]
      all_goals first | rfl | (refine ⟨?_, ?_⟩ <;> simp; done) | (simp; done) | trace_state
set_option maxHeartbeats 4000000 in
theorem sStandUp_ok (p : Poll) (v : Int) (hp : pollOk p) (hq : pollSm p) : ACall Tryz.prog n_spec_StandUp [.agg (Poll.row false p), i64 v] (fun r _ => r = .tup [.agg (Poll.row true (standV p v).1), bl (standV p v).2]) := by
  have hmx := mx_eq
  obtain ⟨h1, h2, h3, h4, h5⟩ := hq
  have hi := l8Has_ok p v hp
  change ACall Tryz.prog _ _ (fun r _ => r = bl (fallC p v)) at hi
  cases hc : standC p v with
  | false =>
    have e := standV_no hc
    cases hf : fallC p v with
    | false =>
      rw [hf] at hi
      refine fn_in h_spec_StandUp r_spec_StandUp ⟨by simp only [go_sem], fun E hE hH => ?_⟩; simp only [go_sem] at hE hH; simp only [go_sem, hE, hH, c_spec_StandUp]
      repeat' (first | ((with_reducible first | refine gd_t ?_ ?_ | refine gd_f ?_ ?_) <;> (intro h; have hb := h; (try simp only [nf] at h); simp (disch := omega) only [go_sem, hE, hH, e, hb]; (try clear hb))) | ((with_reducible refine And.intro ?_ ?_); · omega) | ((first | refine ok_view ?_ | refine cvA (hi) ?_); simp (disch := omega) only [go_sem, hE, hH, e]) | (refine jn _ ?_ ?_) | (with_reducible refine both ?_ ?_) | (with_reducible refine And.intro ?_ ?_) | (refine fin_eq ?_; (try (simp (disch := omega) only [go_sem, hE, hH, e])); first | done | rfl) | (simp (disch := omega) only [go_sem, hE, hH, e]) | ((first | apply noMLL_sE | apply pk_sE) <;> (simp only [go_sem, hE, hH, e]; done)) | (simp only [go_sem, hE, hH, e]) | fail)
      all_goals first | rfl | trace_state
    | true =>
      rw [hf] at hi
      obtain ⟨k1, k2⟩ := fallC_at hf
      refine fn_in h_spec_StandUp r_spec_StandUp ⟨by simp only [go_sem], fun E hE hH => ?_⟩; simp only [go_sem] at hE hH; simp only [go_sem, hE, hH, c_spec_StandUp]
      repeat' (first | ((with_reducible first | refine gd_t ?_ ?_ | refine gd_f ?_ ?_) <;> (intro h; have hb := h; (try simp only [nf] at h); simp (disch := omega) only [go_sem, hE, hH, e, hb]; (try clear hb))) | ((with_reducible refine And.intro ?_ ?_); · omega) | ((first | refine ok_view ?_ | refine cvA (hi) ?_); simp (disch := omega) only [go_sem, hE, hH, e]) | (refine jn _ ?_ ?_) | (with_reducible refine both ?_ ?_) | (with_reducible refine And.intro ?_ ?_) | (refine fin_eq ?_; (try (simp (disch := omega) only [go_sem, hE, hH, e])); first | done | rfl) | (simp (disch := omega) only [go_sem, hE, hH, e]) | ((first | apply noMLL_sE | apply pk_sE) <;> (simp only [go_sem, hE, hH, e]; done)) | (simp only [go_sem, hE, hH, e]) | fail)
      all_goals first | rfl | (exfalso; simp_all [standC]; done) | omega | trace_state
  | true =>
    obtain ⟨hg, hf, k1, k2, hu, hn, t, ht, t1, t2⟩ := stand_at hc
    rw [hf] at hi
    rw [standV_yes hc]
    have hk : v.toNat < p.Voters.length := by omega
    have hs := fun r => getD_set_map (f := Voter.row true) (r := r) hk
    refine fn_in h_spec_StandUp r_spec_StandUp ⟨by simp only [go_sem], fun E hE hH => ?_⟩; simp only [go_sem] at hE hH; simp only [go_sem, hE, hH, c_spec_StandUp]
    repeat' (first | ((with_reducible first | refine gd_t ?_ ?_ | refine gd_f ?_ ?_) <;> (intro h; have hb := h; (try simp only [nf] at h); simp (disch := omega) only [go_sem, hE, hH, hs, hu, hn, ht, hb]; (try clear hb))) | ((with_reducible refine And.intro ?_ ?_); · omega) | ((first | refine ok_view ?_ | refine cvA (hi) ?_ | refine cvA (l8Own_ok p h1 h2 h3 h4 h5) ?_); simp (disch := omega) only [go_sem, hE, hH, hs, hu, hn, ht]) | (with_reducible apply jn) | (with_reducible apply both) | (with_reducible refine And.intro ?_ ?_) | ((with_reducible apply fin_eq); (try (simp (disch := omega) only [go_sem, hE, hH, hs, hu, hn, ht])); first | done | rfl) | (simp (disch := omega) only [go_sem, hE, hH, hs, hu, hn, ht]) | ((first | apply noMLL_sE | apply pk_sE) <;> (simp only [go_sem, hE, hH, hs, hu, hn, ht]; done)) | (simp only [go_sem, hE, hH, hs, hu, hn, ht]) | fail)
    have q9 : 10 ^ 18 = 1000000000000000000 := by decide
    have hh : ∀ j, (spread p.Net v (askB 97 t) j).Homes.length ≤ maxLen := fun j => by rw [spread_homes]; omega
    have hsend : ∀ j, ACall Tryz.prog n_spec_l8Send [.agg (Net.row true (spread p.Net v (askB 97 t) j)), i64 v, i64 j, str ⟨⟨[97] ++ dgt t⟩⟩] (fun r l => r = .agg (Net.row true (spread p.Net v (askB 97 t) (j + 1))) ∧ l = [.any, i64 v, i64 j, str ⟨⟨[97] ++ dgt t⟩⟩]) := fun j => l8Send_ok (spread p.Net v (askB 97 t) j) v j (askB 97 t) (hh j)
    refine loopNe p.Voters.length (fun j (_ : Unit) => ⟨[(1, i64 v), (2, .ptr 3000000 0 0), (4, .ptr 5000000 0 0), (6, .ptr 7000000 0 0), (7, i64 t), (8, i64 j)], [(3000000, ⟨6, [Poll.row false p]⟩), (5000000, ⟨6, [[nils, i64 0, nils, i64 0, nils, nils]]⟩), (7000000, ⟨6, [[.ref 7000001 0 p.Voters.length, i64 (spread p.Net v (askB 97 t) j).Now, .ref 7000003 0 (spread p.Net v (askB 97 t) j).Homes.length, i64 (spread p.Net v (askB 97 t) j).Far, .ref 7000005 0 (spread p.Net v (askB 97 t) j).Under.length, .ref 7000006 0 p.Won.length]]⟩), (7000001, ⟨5, (p.Voters.set v.toNat ⟨true, t, v, [v], false⟩).map (Voter.row true)⟩), (7000003, ⟨1, ints (spread p.Net v (askB 97 t) j).Homes⟩), (7000005, ⟨4, (spread p.Net v (askB 97 t) j).Under.map (Letter.row true)⟩), (7000006, ⟨2, p.Won.map (Won.row true)⟩)]⟩) (fun _ _ => True) () (by simp only [spread, List.map_set]; rfl) trivial ?_
    intro j _ hj _
    have hdl := dgt_len t
    have hsl : (p.Voters.set v.toNat ⟨true, t, v, [v], false⟩).length = p.Voters.length := List.length_set ..
    have hsn := hsend j
    have esj : (j : Int) = v → spread p.Net v (askB 97 t) (j + 1) = spread p.Net v (askB 97 t) j := fun e => by rw [spread, e, sendP_self]
    try simp only [go_sem, hE, hH, c_spec_StandUp_l1]
    first | refine gd_t (fun h => ?_) (fun h => ?_) | refine gd_f (fun h => ?_) (fun h => ?_)
    · have hb := h
      simp only [nf] at h
      have hlt := h; clear h
      try simp (disch := omega) only [go_sem, hE, hH, hb]
      repeat' (first | ((with_reducible first | refine gd_t ?_ ?_ | refine gd_f ?_ ?_) <;> (intro h; have hb := h; (try simp only [nf] at h); simp (disch := omega) only [go_sem, hE, hH, hb]; (try clear hb))) | ((with_reducible refine And.intro ?_ ?_); · omega) | (refine ok_lend [true, false, false, false] ?_; simp (disch := omega) only [go_sem, hE, hH]; refine cmA (hsn) ?_; simp (disch := omega) only [go_sem, hE, hH]) | ((first | refine ok_view ?_ | refine cvA (l1Num_ok t (by omega)) ?_); simp (disch := omega) only [go_sem, hE, hH]) | (with_reducible apply jn) | (with_reducible apply both) | (with_reducible refine And.intro ?_ ?_) | ((with_reducible apply fin_eq); (try (simp (disch := omega) only [go_sem, hE, hH])); first | done | rfl) | (simp (disch := omega) only [go_sem, hE, hH]) | ((first | apply noMLL_sE | apply pk_sE) <;> (simp only [go_sem, hE, hH]; done)) | (simp only [go_sem, hE, hH]) | fail)
      all_goals first | omega | exact ⟨(), rfl⟩ | (rw [esj (by omega)]; exact ⟨(), rfl⟩) | exact ⟨by omega, (), rfl⟩ | trace_state
    · try simp (disch := omega) only [go_sem, hE, hH, h]
      simp only [nf] at h
      have ej : j = p.Voters.length := by omega
      subst ej
      have eX : standX p v = upTo p v t p.Voters.length := by simp only [standX, upTo, ht]
      rw [eX]
      exact ⟨rfl, rfl, rfl, rfl, rfl, rfl⟩
set_option maxHeartbeats 4000000 in
theorem askVote_ok (hI : ItoaH) (p : Poll) (l : Letter) (t : Nat) (hg : Good p) (hl : LOk p.Net.Homes.length l) (t1 : 1 ≤ t) (t2 : t ≤ 200) : ACall Tryz.prog n_pimpl_Poll_askVote [.bx true (Poll.row true p), .agg (Letter.row false l), i64 t] (fun r q => r = .tup [] ∧ q = [.bx true (Poll.row true (askP p l t)), .agg (Letter.row false l), i64 t]) := by
  have hmx := mx_eq
  have hv := hg.v
  have hn5 := hg.n
  have b1 := hl.t
  have b2 := hl.f
  have hk : l.To.toNat < p.Voters.length := by omega
  have hs := fun r => getD_set_map (f := Voter.row true) (r := r) hk
  have hdl := dgt_len t
  have q9 : 10 ^ 18 = 1000000000000000000 := by decide
  have hsend := fun y : Voter => send_ok ⟨p.Voters.set l.To.toNat y, p.Net, p.Won⟩ l.To l.From ⟨⟨[121] ++ dgt t⟩⟩ hg.net
  have hss : ∀ (a b : List T), ((p.Voters.map (Voter.row true)).set l.To.toNat a).set l.To.toNat b = (p.Voters.map (Voter.row true)).set l.To.toNat b := fun a b => List.set_set ..
  simp only [Poll.row_eq, List.map_set, netP] at hsend
  have hx := (hg.vs _ hk).t
  by_cases hlt : (nth p.Voters l.To.toNat).Term < t
  · have e1 : askX (nth p.Voters l.To.toNat) t = ⟨true, t, -1, [], false⟩ := if_pos hlt
    have eP : askP p l t = ⟨p.Voters.set l.To.toNat ⟨true, t, l.From, [], false⟩, sendP p.Net l.To l.From (askB 121 t), p.Won⟩ := by
      unfold askP
      rw [e1, if_pos (by simp [askC])]; rfl
    rw [eP]
    refine fn_in h_pimpl_Poll_askVote r_pimpl_Poll_askVote ⟨by simp only [go_sem], fun E hE hH => ?_⟩; simp only [go_sem] at hE hH; simp only [go_sem, hE, hH, c_pimpl_Poll_askVote]
    repeat' (first | ((with_reducible first | refine gd_t ?_ ?_ | refine gd_f ?_ ?_) <;> (intro h; have hb := h; (try simp only [nf] at h); simp (disch := omega) only [go_sem, hE, hH, hs, hlt, hss, hb]; (try clear hb))) | ((with_reducible refine And.intro ?_ ?_); · omega) | (refine ok_lend [true, false, false, false] ?_; simp (disch := omega) only [go_sem, hE, hH, hs, hlt, hss]; refine cmA (hsend ⟨true, t, l.From, [], false⟩) ?_; simp (disch := omega) only [go_sem, hE, hH, hs, hlt, hss]) | ((first | refine ok_view ?_ | refine cvA (hI t (by omega)) ?_); simp (disch := omega) only [go_sem, hE, hH, hs, hlt, hss]) | (with_reducible apply jn) | (with_reducible apply both) | (with_reducible refine And.intro ?_ ?_) | ((with_reducible apply fin_eq); (try (simp (disch := omega) only [go_sem, hE, hH, hs, hlt, hss])); first | done | rfl) | (simp (disch := omega) only [go_sem, hE, hH, hs, hlt, hss]) | ((first | apply noMLL_sE | apply pk_sE) <;> (simp only [go_sem, hE, hH, hs, hlt, hss]; done)) | (simp only [go_sem, hE, hH, hs, hlt, hss]) | fail)
    all_goals first | omega | rfl | (rw [List.map_set]; rfl) | trace_state
  · have e1 : askX (nth p.Voters l.To.toNat) t = nth p.Voters l.To.toNat := if_neg hlt
    cases hc : askC (nth p.Voters l.To.toNat) t l.From with
    | true =>
      have eP : askP p l t = ⟨p.Voters.set l.To.toNat (forV (nth p.Voters l.To.toNat) l.From), sendP p.Net l.To l.From (askB 121 t), p.Won⟩ := by
        unfold askP
        rw [e1, if_pos hc]
      rw [eP]
      simp only [askC, Bool.and_eq_true, Bool.or_eq_true, decide_eq_true_eq] at hc
      refine fn_in h_pimpl_Poll_askVote r_pimpl_Poll_askVote ⟨by simp only [go_sem], fun E hE hH => ?_⟩; simp only [go_sem] at hE hH; simp only [go_sem, hE, hH, c_pimpl_Poll_askVote]
      repeat' (first | ((with_reducible first | refine gd_t ?_ ?_ | refine gd_f ?_ ?_) <;> (intro h; have hb := h; (try simp only [nf] at h); simp (disch := omega) only [go_sem, hE, hH, hs, hss, hb]; (try clear hb))) | ((with_reducible refine And.intro ?_ ?_); · omega) | (refine ok_lend [true, false, false, false] ?_; simp (disch := omega) only [go_sem, hE, hH, hs, hss]; refine cmA (hsend (forV (nth p.Voters l.To.toNat) l.From)) ?_; simp (disch := omega) only [go_sem, hE, hH, hs, hss]) | ((first | refine ok_view ?_ | refine cvA (hI t (by omega)) ?_); simp (disch := omega) only [go_sem, hE, hH, hs, hss]) | (with_reducible apply jn) | (with_reducible apply both) | (with_reducible refine And.intro ?_ ?_) | ((with_reducible apply fin_eq); (try (simp (disch := omega) only [go_sem, hE, hH, hs, hss])); first | done | rfl) | (simp (disch := omega) only [go_sem, hE, hH, hs, hss]) | ((first | apply noMLL_sE | apply pk_sE) <;> (simp only [go_sem, hE, hH, hs, hss]; done)) | (simp only [go_sem, hE, hH, hs, hss]) | fail)
      all_goals first | omega | rfl | (rw [List.map_set]; rfl) | (exfalso; omega) | trace_state
    | false =>
      have eP : askP p l t = p := by
        unfold askP
        rw [e1, if_neg (by simp [hc]), nth_lt hk, List.set_getElem_self]
      rw [eP]
      simp only [askC, Bool.and_eq_false_iff, Bool.or_eq_false_iff, decide_eq_false_iff_not] at hc
      refine fn_in h_pimpl_Poll_askVote r_pimpl_Poll_askVote ⟨by simp only [go_sem], fun E hE hH => ?_⟩; simp only [go_sem] at hE hH; simp only [go_sem, hE, hH, c_pimpl_Poll_askVote]
      repeat' (first | ((with_reducible first | refine gd_t ?_ ?_ | refine gd_f ?_ ?_) <;> (intro h; have hb := h; (try simp only [nf] at h); simp (disch := omega) only [go_sem, hE, hH, hs, hss, hb]; (try clear hb))) | ((with_reducible refine And.intro ?_ ?_); · omega) | (with_reducible apply jn) | (with_reducible apply both) | (with_reducible refine And.intro ?_ ?_) | ((with_reducible apply fin_eq); (try (simp (disch := omega) only [go_sem, hE, hH, hs, hss])); first | done | rfl) | (simp (disch := omega) only [go_sem, hE, hH, hs, hss]) | ((first | apply noMLL_sE | apply pk_sE) <;> (simp only [go_sem, hE, hH, hs, hss]; done)) | (simp only [go_sem, hE, hH, hs, hss]) | fail)
      all_goals first | omega | rfl | (rw [List.map_set]; rfl) | (exfalso; omega) | trace_state
theorem isNaNK_ok (x : Int) : ACall Tryz.prog n_cmp_isNaN_int_ [i64 x] (fun r _ => r = bl false) := by
  refine fn_in h_cmp_isNaN_int_ r_cmp_isNaN_int_ ⟨by simp only [go_sem], fun E hE hH => ?_⟩; simp only [go_sem] at hE hH; simp only [go_sem, hE, hH, c_cmp_isNaN_int_]
  try simp (disch := omega) only [go_sem, hE, hH]
theorem Less_int_ok (a b : Int) : ACall Tryz.prog n_cmp_Less_int_ [i64 a, i64 b] (fun r _ => r = bl (decide (a < b))) := by
  refine fn_in h_cmp_Less_int_ r_cmp_Less_int_ ⟨by simp only [go_sem], fun E hE hH => ?_⟩; simp only [go_sem] at hE hH; simp only [go_sem, hE, hH, c_cmp_Less_int_]
  repeat' (first | ((with_reducible first | refine gd_t ?_ ?_ | refine gd_f ?_ ?_) <;> (intro h; have hb := h; (try simp only [nf] at h); simp (disch := omega) only [go_sem, hE, hH, hb]; (try clear hb))) | ((with_reducible refine And.intro ?_ ?_); · omega) | ((first | refine ok_view ?_ | refine cvA (isNaNK_ok _) ?_); simp (disch := omega) only [go_sem, hE, hH]) | (refine jn _ ?_ ?_) | (with_reducible refine both ?_ ?_) | (with_reducible refine And.intro ?_ ?_) | (refine fin_eq ?_; (try (simp (disch := omega) only [go_sem, hE, hH])); first | done | rfl) | (simp (disch := omega) only [go_sem, hE, hH]) | ((first | apply noMLL_sE | apply pk_sE) <;> (simp only [go_sem, hE, hH]; done)) | (simp only [go_sem, hE, hH]) | fail)
  all_goals first | rfl | trace_state
theorem sisNaN_ok (x : Int) : ACall Tryz.prog n_slices_isNaN_int_ [i64 x] (fun r _ => r = bl false) := by
  refine fn_in h_slices_isNaN_int_ r_slices_isNaN_int_ ⟨by simp only [go_sem], fun E hE hH => ?_⟩; simp only [go_sem] at hE hH; simp only [go_sem, hE, hH, c_slices_isNaN_int_]
  try simp (disch := omega) only [go_sem, hE, hH]
theorem iK_at {l : List Int} {x : Int} (hs : srtK l) {k : Nat} (hk : k ≤ l.length) (h1 : ∀ i, i < k → nth l i < x) (h2 : ∀ i, k ≤ i → i < l.length → x ≤ nth l i) : iK l x = k := by
  have lo : ∀ i, i < l.length → (i < iK l x ↔ nth l i < x) := fun i hi => by
    have := fxI_lo (k := x) ordK hs hi
    simpa only [ltI, decide_eq_true_eq] using this
  have hle : iK l x ≤ l.length := fxI_le
  rcases Nat.lt_trichotomy (iK l x) k with h | h | h
  · have := (lo (iK l x) (by omega)).2 (h1 _ h); omega
  · exact h
  · have := (lo k (by omega)).1 h
    have := h2 k (Nat.le_refl _) (by omega)
    omega
theorem fK_at {l : List Int} {x : Int} (hs : srtK l) {k : Nat} (hk : k < l.length) (h : nth l k = x) : fK l x = true := fxF_iff.2 ⟨k, hk, h⟩
theorem fK_not {l : List Int} {x : Int} (hs : srtK l) {k : Nat} (hi : iK l x = k) (h : k < l.length → nth l k ≠ x) : fK l x = false := by
  cases hf : fK l x with
  | false => rfl
  | true =>
    obtain ⟨a, b⟩ := fxF_here ordK hs hf
    rw [show fxI ltI (fun x : Int => x) l x = k from hi] at a b
    exact absurd b (h a)
set_option maxHeartbeats 1000000 in
theorem BinarySearch_Int_ok (l : List Int) (key : Int) (hl : l.length ≤ 2 ^ 60) (hs : srtK l) : ACall Tryz.prog n_slices_BinarySearch___int_int_ [.sl false 1 (ints l), i64 key] (fun r _ => r = .tup [i64 (iK l key), bl (fK l key)]) := by
  have hmx := mx_eq
  have mono : ∀ i j, i < j → j < l.length → nth l i < nth l j := fun i j a b => by
    have := hs i j a b
    simpa only [ltI, decide_eq_true_eq] using this
  refine fn_in h_slices_BinarySearch___int_int_ r_slices_BinarySearch___int_int_ ⟨by simp only [go_sem], fun E hE hH => ?_⟩; simp only [go_sem] at hE hH; simp only [go_sem, hE, hH, c_slices_BinarySearch___int_int_]
  refine loopM (fun (x : Nat × Nat) => ⟨[(0, .sl false 1 (ints l)), (1, i64 key), (6, i64 l.length), (7, i64 x.1), (8, i64 x.2)], []⟩) (fun x => x.1 ≤ x.2 ∧ x.2 ≤ l.length ∧ (∀ i, i < x.1 → nth l i < key) ∧ ∀ i, x.2 ≤ i → i < l.length → key ≤ nth l i) (fun x => x.2 - x.1) (0, l.length) ⟨by simp, by simp, by simp, by simp; omega⟩ ?_
  rintro ⟨lo, hi⟩ ⟨i1, i2, i3, i4⟩
  simp only at i1 i2 i3 i4
  try simp only [go_sem, hE, hH, c_slices_BinarySearch___int_int__l1]
  first | refine gd_t (fun h => ?_) (fun h => ?_) | refine gd_f (fun h => ?_) (fun h => ?_)
  · have hb := h
    simp only [nf] at h
    have hlt := h; clear h
    have e1 : IntKind.u64.wrap (lo + hi) = lo + hi := wrapU (by omega) (by omega)
    have e2 : Int.fdiv ((lo : Int) + hi) 2 = (((lo + hi) / 2 : Nat) : Int) := by rw [Int.fdiv_eq_ediv_of_nonneg _ (by omega)]; omega
    have hM : (lo + hi) / 2 < l.length := by omega
    try simp (disch := omega) only [go_sem, hE, hH, hb, e1, shr1, e2]
    repeat refine And.intro (by omega) ?_
    repeat' (first | ((with_reducible first | refine gd_t ?_ ?_ | refine gd_f ?_ ?_) <;> (intro h; have hb := h; (try simp only [nf] at h); simp (disch := omega) only [go_sem, hE, hH, hb]; (try clear hb))) | ((with_reducible refine And.intro ?_ ?_); · omega) | ((first | refine ok_view ?_ | refine cvA (Less_int_ok _ _) ?_); simp (disch := omega) only [go_sem, hE, hH]) | (refine jn _ ?_ ?_) | (with_reducible refine both ?_ ?_) | (with_reducible refine And.intro ?_ ?_) | (refine fin_eq ?_; (try (simp (disch := omega) only [go_sem, hE, hH])); first | done | rfl) | (simp (disch := omega) only [go_sem, hE, hH]) | ((first | apply noMLL_sE | apply pk_sE) <;> (simp only [go_sem, hE, hH]; done)) | (simp only [go_sem, hE, hH]) | fail)
    all_goals try omega
    · refine ⟨((lo + hi) / 2 + 1, hi), rfl, ⟨by simp only; omega, i2, fun i hi' => ?_, i4⟩, by simp only; omega⟩
      simp only at hi'
      by_cases e : i = (lo + hi) / 2
      · rw [e]; exact h
      · have := mono i ((lo + hi) / 2) (by omega) hM
        omega
    · refine ⟨(lo, (lo + hi) / 2), rfl, ⟨by simp only; omega, by simp only; omega, i3, fun i h1 h2 => ?_⟩, by simp only; omega⟩
      simp only at h1
      by_cases e : i = (lo + hi) / 2
      · rw [e]; exact h
      · have := mono ((lo + hi) / 2) i (by omega) h2
        omega
  · have hb := h
    simp only [nf] at h
    have e0 : hi = lo := by omega
    subst e0
    have e3 : iK l key = hi := iK_at hs i2 i3 i4
    by_cases hq : hi < l.length
    · by_cases hk : nth l hi = key
      · have e4 := fK_at hs hq hk
        rw [e3, e4]
        try simp (disch := omega) only [go_sem, hE, hH, hb]
        repeat' (first | ((with_reducible first | refine gd_t ?_ ?_ | refine gd_f ?_ ?_) <;> (intro h; have hb := h; (try simp only [nf] at h); simp (disch := omega) only [go_sem, hE, hH, hb]; (try clear hb))) | ((with_reducible refine And.intro ?_ ?_); · omega) | ((first | refine ok_view ?_ | refine cvA (sisNaN_ok _) ?_); simp (disch := omega) only [go_sem, hE, hH]) | (refine jn _ ?_ ?_) | (with_reducible refine both ?_ ?_) | (with_reducible refine And.intro ?_ ?_) | (refine fin_eq ?_; (try (simp (disch := omega) only [go_sem, hE, hH])); first | done | rfl) | (simp (disch := omega) only [go_sem, hE, hH]) | ((first | apply noMLL_sE | apply pk_sE) <;> (simp only [go_sem, hE, hH]; done)) | (simp only [go_sem, hE, hH]) | fail)
        all_goals first | omega | rfl | (exfalso; omega) | trace_state
      · have e4 := fK_not hs e3 (fun _ => hk)
        rw [e3, e4]
        try simp (disch := omega) only [go_sem, hE, hH, hb]
        repeat' (first | ((with_reducible first | refine gd_t ?_ ?_ | refine gd_f ?_ ?_) <;> (intro h; have hb := h; (try simp only [nf] at h); simp (disch := omega) only [go_sem, hE, hH, hb]; (try clear hb))) | ((with_reducible refine And.intro ?_ ?_); · omega) | ((first | refine ok_view ?_ | refine cvA (sisNaN_ok _) ?_); simp (disch := omega) only [go_sem, hE, hH]) | (refine jn _ ?_ ?_) | (with_reducible refine both ?_ ?_) | (with_reducible refine And.intro ?_ ?_) | (refine fin_eq ?_; (try (simp (disch := omega) only [go_sem, hE, hH])); first | done | rfl) | (simp (disch := omega) only [go_sem, hE, hH]) | ((first | apply noMLL_sE | apply pk_sE) <;> (simp only [go_sem, hE, hH]; done)) | (simp only [go_sem, hE, hH]) | fail)
        all_goals first | omega | rfl | (exfalso; omega) | trace_state
    · have e4 := fK_not hs e3 (fun h => absurd h hq)
      rw [e3, e4]
      try simp (disch := omega) only [go_sem, hE, hH, hb]
      repeat' (first | ((with_reducible first | refine gd_t ?_ ?_ | refine gd_f ?_ ?_) <;> (intro h; have hb := h; (try simp only [nf] at h); simp (disch := omega) only [go_sem, hE, hH, hb]; (try clear hb))) | ((with_reducible refine And.intro ?_ ?_); · omega) | ((first | refine ok_view ?_ | refine cvA (sisNaN_ok _) ?_); simp (disch := omega) only [go_sem, hE, hH]) | (refine jn _ ?_ ?_) | (with_reducible refine both ?_ ?_) | (with_reducible refine And.intro ?_ ?_) | (refine fin_eq ?_; (try (simp (disch := omega) only [go_sem, hE, hH])); first | done | rfl) | (simp (disch := omega) only [go_sem, hE, hH]) | ((first | apply noMLL_sE | apply pk_sE) <;> (simp only [go_sem, hE, hH]; done)) | (simp only [go_sem, hE, hH]) | fail)
      all_goals first | omega | rfl | (exfalso; omega) | trace_state
theorem insK_ok (l : List Int) (x : Int) (hl : l.length ≤ 2 ^ 20) (hf : fK l x = false) : ACall Tryz.prog n_slices_Insert___int_int_ [.sl true 1 (ints l), i64 (iK l x), .sl false 1 [[i64 x]]] (fun r a => r = .sl true 1 (ints (yesPut l x)) ∧ a = [.any, i64 (iK l x), .sl false 1 [[i64 x]]]) := by
  have hi : iK l x ≤ l.length := fxI_le
  have q := Insert_Int_ok l [x] (iK l x) (by omega) (by omega) hl (by simp)
  rwa [show l.take ((iK l x : Nat) : Int).toNat ++ [x] ++ l.drop ((iK l x : Nat) : Int).toNat = yesPut l x by unfold yesPut putAt; rw [if_neg (by simp [hf])]; simp] at q
theorem set_sameK {α : Type} [Inhabited α] {f : α → List T} {l : List α} {k : Nat} (h : k < l.length) : (l.map f).set k (f (nth l k)) = l.map f := by
  rw [← List.map_set, nth_lt h, List.set_getElem_self]
theorem lt_setK {d : Nat} {rows : List (List T)} {i : Nat} {r : List T} (h1 : ltLL d rows) (h2 : ltL d r) : ltLL d (rows.set i r) := fun x hx => (List.mem_or_eq_of_mem_set hx).elim (h1 x) fun e => e ▸ h2
set_option maxHeartbeats 8000000 in
theorem countVote_ok (p : Poll) (l : Letter) (t : Nat) (hg : Good p) (hl : LOk p.Net.Homes.length l) : ACall Tryz.prog n_pimpl_Poll_countVote [.bx true (Poll.row true p), .agg (Letter.row false l), i64 t] (fun r q => r = .tup [] ∧ q = [.bx true (Poll.row true (cntP p l t)), .agg (Letter.row false l), i64 t]) := by
  have hmx := mx_eq
  have hv := hg.v
  have hn5 := hg.n
  have hw := hg.w
  have b1 := hl.t
  have b2 := hl.f
  have hk : l.To.toNat < p.Voters.length := by omega
  have hx := hg.vs _ hk
  have hyl := vok_len hx
  have hys := hx.y.2
  have hs := fun r => getD_set_map (f := Voter.row true) (r := r) hk
  have hss : ∀ (a b : List T), ((p.Voters.map (Voter.row true)).set l.To.toNat a).set l.To.toNat b = (p.Voters.map (Voter.row true)).set l.To.toNat b := fun a b => List.set_set ..
  have hsame : (p.Voters.map (Voter.row true)).set l.To.toNat (Voter.row true (nth p.Voters l.To.toNat)) = p.Voters.map (Voter.row true) := set_sameK hk
  cases hc : cntC (nth p.Voters l.To.toNat) l t with
  | false =>
    have eP : cntP p l t = p := by unfold cntP; rw [if_neg (by simp [hc])]
    rw [eP]
    simp only [cntC, Bool.and_eq_false_iff, decide_eq_false_iff_not] at hc
    refine fn_in h_pimpl_Poll_countVote r_pimpl_Poll_countVote ⟨by simp only [go_sem], fun E hE hH => ?_⟩; simp only [go_sem] at hE hH; simp only [go_sem, hE, hH, c_pimpl_Poll_countVote]
    repeat' (first | ((with_reducible first | refine gd_t ?_ ?_ | refine gd_f ?_ ?_) <;> (intro h; have hb := h; (try simp only [nf] at h); simp (disch := omega) only [go_sem, hE, hH, hs, hss, hb]; (try clear hb))) | ((with_reducible refine And.intro ?_ ?_); · omega) | (with_reducible apply jn) | (with_reducible apply both) | (with_reducible refine And.intro ?_ ?_) | ((with_reducible apply fin_eq); (try (simp (disch := omega) only [go_sem, hE, hH, hs, hss])); first | done | rfl) | (simp (disch := omega) only [go_sem, hE, hH, hs, hss]) | ((first | apply noMLL_sE | apply pk_sE) <;> (simp only [go_sem, hE, hH, hs, hss]; done)) | (simp only [go_sem, hE, hH, hs, hss]) | fail)
    all_goals first | omega | rfl | (exfalso; omega) | (refine lt_setK ?_ ?_ <;> simp only [go_sem] <;> omega) | (refine lt_setK ?_ ?_ <;> simp only [go_sem]; done) | (exfalso; rcases hW with hW | hW <;> first | omega | exact absurd (hW.symm.trans (by assumption : (nth p.Voters l.To.toNat).Leads = false)) (by decide)) | trace_state
  | true =>
    have hyp := yesPut_len (l := (nth p.Voters l.To.toNat).Yes) (x := l.From)
    cases hf : fK (nth p.Voters l.To.toNat).Yes l.From with
    | true =>
      have eY : yesPut (nth p.Voters l.To.toNat).Yes l.From = (nth p.Voters l.To.toNat).Yes := by unfold yesPut; rw [if_pos hf]
      cases hW : winC p (nth p.Voters l.To.toNat) (yesPut (nth p.Voters l.To.toNat).Yes l.From) with
      | false =>
        have eP : cntP p l t = ⟨p.Voters.set l.To.toNat (yesV (nth p.Voters l.To.toNat) (yesPut (nth p.Voters l.To.toNat).Yes l.From) (nth p.Voters l.To.toNat).Leads), p.Net, p.Won⟩ := by unfold cntP; rw [if_pos hc, if_neg (by simp [hW])]
        rw [eP]
        rw [eY] at hW
        rw [eY]
        simp only [cntC, Bool.and_eq_true, decide_eq_true_eq] at hc
        simp only [winC, Bool.and_eq_false_iff, decide_eq_false_iff_not, Bool.not_eq_false'] at hW
        refine fn_in h_pimpl_Poll_countVote r_pimpl_Poll_countVote ⟨by simp only [go_sem], fun E hE hH => ?_⟩; simp only [go_sem] at hE hH; simp only [go_sem, hE, hH, c_pimpl_Poll_countVote]
        repeat' (first | ((with_reducible first | refine gd_t ?_ ?_ | refine gd_f ?_ ?_) <;> (intro h; have hb := h; (try simp only [nf] at h); simp (disch := omega) only [go_sem, hE, hH, hs, hss, hf, hb]; (try clear hb))) | ((with_reducible refine And.intro ?_ ?_); · omega) | ((first | refine ok_view ?_ | refine cvA (BinarySearch_Int_ok _ l.From (by omega) hys) ?_); simp (disch := omega) only [go_sem, hE, hH, hs, hss, hf]) | (with_reducible apply jn) | (with_reducible apply both) | (with_reducible refine And.intro ?_ ?_) | ((with_reducible apply fin_eq); (try (simp (disch := omega) only [go_sem, hE, hH, hs, hss, hf])); first | done | rfl) | (simp (disch := omega) only [go_sem, hE, hH, hs, hss, hf]) | ((first | apply noMLL_sE | apply pk_sE) <;> (simp only [go_sem, hE, hH, hs, hss, hf]; done)) | (simp only [go_sem, hE, hH, hs, hss, hf]) | fail)
        all_goals first | omega | rfl | (rw [List.map_set]; rfl) | (exfalso; omega) | (refine lt_setK ?_ ?_ <;> simp only [go_sem] <;> omega) | (refine lt_setK ?_ ?_ <;> simp only [go_sem]; done) | (exfalso; rcases hW with hW | hW <;> first | omega | exact absurd (hW.symm.trans (by assumption : (nth p.Voters l.To.toNat).Leads = false)) (by decide)) | trace_state
      | true =>
        have eP : cntP p l t = ⟨p.Voters.set l.To.toNat (yesV (nth p.Voters l.To.toNat) (yesPut (nth p.Voters l.To.toNat).Yes l.From) true), p.Net, wonP p l t⟩ := by unfold cntP; rw [if_pos hc, if_pos hW]
        rw [eP]
        rw [eY] at hW
        rw [eY]
        simp only [cntC, Bool.and_eq_true, decide_eq_true_eq] at hc
        simp only [winC, Bool.and_eq_true, decide_eq_true_eq, Bool.not_eq_true'] at hW
        refine fn_in h_pimpl_Poll_countVote r_pimpl_Poll_countVote ⟨by simp only [go_sem], fun E hE hH => ?_⟩; simp only [go_sem] at hE hH; simp only [go_sem, hE, hH, c_pimpl_Poll_countVote]
        repeat' (first | ((with_reducible first | refine gd_t ?_ ?_ | refine gd_f ?_ ?_) <;> (intro h; have hb := h; (try simp only [nf] at h); simp (disch := omega) only [go_sem, hE, hH, hs, hss, hf, hb]; (try clear hb))) | ((with_reducible refine And.intro ?_ ?_); · omega) | ((first | refine ok_view ?_ | refine cvA (BinarySearch_Int_ok _ l.From (by omega) hys) ?_); simp (disch := omega) only [go_sem, hE, hH, hs, hss, hf]) | (with_reducible apply jn) | (with_reducible apply both) | (with_reducible refine And.intro ?_ ?_) | ((with_reducible apply fin_eq); (try (simp (disch := omega) only [go_sem, hE, hH, hs, hss, hf])); first | done | rfl) | (simp (disch := omega) only [go_sem, hE, hH, hs, hss, hf]) | ((first | apply noMLL_sE | apply pk_sE) <;> (simp only [go_sem, hE, hH, hs, hss, hf]; done)) | (simp only [go_sem, hE, hH, hs, hss, hf]) | fail)
        all_goals first | omega | rfl | (rw [List.map_set]; rfl) | (exfalso; omega) | (refine lt_setK ?_ ?_ <;> simp only [go_sem] <;> omega) | (refine lt_setK ?_ ?_ <;> simp only [go_sem]; done) | (rw [wonP, if_pos (by omega), List.map_set, List.map_append]; rfl) | (rw [wonP, if_neg (by omega), List.map_set]; rfl) | exact absurd ((by assumption : (nth p.Voters l.To.toNat).Leads = true).symm.trans hW.2) (by decide) | trace_state
    | false =>
      cases hW : winC p (nth p.Voters l.To.toNat) (yesPut (nth p.Voters l.To.toNat).Yes l.From) with
      | false =>
        have eP : cntP p l t = ⟨p.Voters.set l.To.toNat (yesV (nth p.Voters l.To.toNat) (yesPut (nth p.Voters l.To.toNat).Yes l.From) (nth p.Voters l.To.toNat).Leads), p.Net, p.Won⟩ := by unfold cntP; rw [if_pos hc, if_neg (by simp [hW])]
        rw [eP]
        simp only [cntC, Bool.and_eq_true, decide_eq_true_eq] at hc
        simp only [winC, Bool.and_eq_false_iff, decide_eq_false_iff_not, Bool.not_eq_false'] at hW
        refine fn_in h_pimpl_Poll_countVote r_pimpl_Poll_countVote ⟨by simp only [go_sem], fun E hE hH => ?_⟩; simp only [go_sem] at hE hH; simp only [go_sem, hE, hH, c_pimpl_Poll_countVote]
        repeat' (first | ((with_reducible first | refine gd_t ?_ ?_ | refine gd_f ?_ ?_) <;> (intro h; have hb := h; (try simp only [nf] at h); simp (disch := omega) only [go_sem, hE, hH, hs, hss, hf, hb]; (try clear hb))) | ((with_reducible refine And.intro ?_ ?_); · omega) | (refine ok_lend [true, false, false] ?_; simp (disch := omega) only [go_sem, hE, hH, hs, hss, hf]; refine cmA (insK_ok _ l.From (by omega) hf) ?_; simp (disch := omega) only [go_sem, hE, hH, hs, hss, hf]) | ((first | refine ok_view ?_ | refine cvA (BinarySearch_Int_ok _ l.From (by omega) hys) ?_); simp (disch := omega) only [go_sem, hE, hH, hs, hss, hf]) | (with_reducible apply jn) | (with_reducible apply both) | (with_reducible refine And.intro ?_ ?_) | ((with_reducible apply fin_eq); (try (simp (disch := omega) only [go_sem, hE, hH, hs, hss, hf])); first | done | rfl) | (simp (disch := omega) only [go_sem, hE, hH, hs, hss, hf]) | ((first | apply noMLL_sE | apply pk_sE) <;> (simp only [go_sem, hE, hH, hs, hss, hf]; done)) | (simp only [go_sem, hE, hH, hs, hss, hf]) | fail)
        all_goals first | omega | rfl | (rw [List.map_set]; rfl) | (exfalso; omega) | (refine lt_setK ?_ ?_ <;> simp only [go_sem] <;> omega) | (refine lt_setK ?_ ?_ <;> simp only [go_sem]; done) | (exfalso; rcases hW with hW | hW <;> first | omega | exact absurd (hW.symm.trans (by assumption : (nth p.Voters l.To.toNat).Leads = false)) (by decide)) | trace_state
      | true =>
        have eP : cntP p l t = ⟨p.Voters.set l.To.toNat (yesV (nth p.Voters l.To.toNat) (yesPut (nth p.Voters l.To.toNat).Yes l.From) true), p.Net, wonP p l t⟩ := by unfold cntP; rw [if_pos hc, if_pos hW]
        rw [eP]
        simp only [cntC, Bool.and_eq_true, decide_eq_true_eq] at hc
        simp only [winC, Bool.and_eq_true, decide_eq_true_eq, Bool.not_eq_true'] at hW
        refine fn_in h_pimpl_Poll_countVote r_pimpl_Poll_countVote ⟨by simp only [go_sem], fun E hE hH => ?_⟩; simp only [go_sem] at hE hH; simp only [go_sem, hE, hH, c_pimpl_Poll_countVote]
        repeat' (first | ((with_reducible first | refine gd_t ?_ ?_ | refine gd_f ?_ ?_) <;> (intro h; have hb := h; (try simp only [nf] at h); simp (disch := omega) only [go_sem, hE, hH, hs, hss, hf, hb]; (try clear hb))) | ((with_reducible refine And.intro ?_ ?_); · omega) | (refine ok_lend [true, false, false] ?_; simp (disch := omega) only [go_sem, hE, hH, hs, hss, hf]; refine cmA (insK_ok _ l.From (by omega) hf) ?_; simp (disch := omega) only [go_sem, hE, hH, hs, hss, hf]) | ((first | refine ok_view ?_ | refine cvA (BinarySearch_Int_ok _ l.From (by omega) hys) ?_); simp (disch := omega) only [go_sem, hE, hH, hs, hss, hf]) | (with_reducible apply jn) | (with_reducible apply both) | (with_reducible refine And.intro ?_ ?_) | ((with_reducible apply fin_eq); (try (simp (disch := omega) only [go_sem, hE, hH, hs, hss, hf])); first | done | rfl) | (simp (disch := omega) only [go_sem, hE, hH, hs, hss, hf]) | ((first | apply noMLL_sE | apply pk_sE) <;> (simp only [go_sem, hE, hH, hs, hss, hf]; done)) | (simp only [go_sem, hE, hH, hs, hss, hf]) | fail)
        all_goals first | omega | rfl | (rw [List.map_set]; rfl) | (exfalso; omega) | (refine lt_setK ?_ ?_ <;> simp only [go_sem] <;> omega) | (refine lt_setK ?_ ?_ <;> simp only [go_sem]; done) | (rw [wonP, if_pos (by omega), List.map_set, List.map_append]; rfl) | (rw [wonP, if_neg (by omega), List.map_set]; rfl) | exact absurd ((by assumption : (nth p.Voters l.To.toNat).Leads = true).symm.trans hW.2) (by decide) | trace_state
theorem hearP_none {p : Poll} {l : Letter} (h : rdT (tailB l.Body) = none) : hearP p l = p := by simp [hearP, h]
theorem hearP_down {p : Poll} {l : Letter} (h : (nth p.Voters l.To.toNat).Up = false) : hearP p l = p := by
  unfold hearP; split
  · rfl
  · rw [if_neg (by simp [h])]
theorem hearP_a {p : Poll} {l : Letter} {t : Nat} (h : rdT (tailB l.Body) = some t) (hu : (nth p.Voters l.To.toNat).Up = true) (hb : byt l.Body 0 = 97) : hearP p l = askP p l t := by simp [hearP, h, hu, hb]
theorem hearP_y {p : Poll} {l : Letter} {t : Nat} (h : rdT (tailB l.Body) = some t) (hu : (nth p.Voters l.To.toNat).Up = true) (hb : byt l.Body 0 = 121) : hearP p l = cntP p l t := by simp [hearP, h, hu, hb]
theorem hearP_o {p : Poll} {l : Letter} {t : Nat} (h : rdT (tailB l.Body) = some t) (hb : byt l.Body 0 ≠ 97) (hc : byt l.Body 0 ≠ 121) : hearP p l = p := by simp [hearP, h, hb, hc]
theorem tail_len {b : ByteArray} : (tailB b).length = b.size - 1 := by
  simp only [tailB, List.length_drop, Array.length_toList]; rfl
theorem tail_take {b : ByteArray} : List.take (b.size - 1) (List.drop 1 b.data.toList) = tailB b := List.take_of_length_le (by rw [← tail_len]; exact Nat.le_refl _)
def heard (p : Poll) (j : Nat) : Poll := ((tickL p).take j).foldl hearP (tick0 p)
theorem heard_succ {p : Poll} {j : Nat} (h : j < (tickL p).length) : heard p (j + 1) = hearP (heard p j) (nth (tickL p) j) := by
  unfold heard
  rw [take_nth h, List.foldl_append]; rfl
theorem tick_at {p : Poll} (h : tickC p = true) : Good p ∧ (tickN p.Net).2 = true ∧ Good (tick0 p) ∧ (tick0 p).Net.Homes = p.Net.Homes ∧ (∀ l ∈ tickL p, LOk p.Net.Homes.length l) ∧ goodNet (tickN1 p) = true := by
  simp only [tickC, Bool.and_eq_true] at h
  have hp := good_iff.1 h.1
  obtain ⟨h1, h2, h3⟩ := tickN_good h.2
  have hh : (tickN1 p).Homes = p.Net.Homes := by unfold tickN1; rw [h3]
  have hg : goodNet (tickN1 p) = true := h2
  refine ⟨hp, h.2, hp.netP (good_drop h2 _) hh, hh, fun l hl => ?_, hg⟩
  rw [← hh]; exact good_u hg l (List.mem_of_mem_take hl)
theorem heard_good {p : Poll} (h : tickC p = true) (j : Nat) : Good (heard p j) ∧ (heard p j).Net.Homes = p.Net.Homes := by
  obtain ⟨_, _, h3, h4, h5, _⟩ := tick_at h
  obtain ⟨a, b⟩ := hears_good h3 (L := (tickL p).take j) (fun l hl => by rw [h4]; exact h5 l (List.mem_of_mem_take hl))
  exact ⟨a, b.trans h4⟩
theorem tickP_yes {p : Poll} (h : tickC p = true) : tickP p = (heard p (tickL p).length, true) := by
  unfold tickP heard
  rw [if_pos h, List.take_length]
theorem tickP_no {p : Poll} (h : tickC p = false) : tickP p = (zeroP, false) := by simp [tickP, h]
theorem tickL_len {p : Poll} (h : tickC p = true) : (tickL p).length ≤ 60 := by
  obtain ⟨_, _, _, _, _, h6⟩ := tick_at h
  have := goodNet_len h6
  simp only [tickL, List.length_take]; omega
set_option maxHeartbeats 8000000 in
theorem TickPoll_ok (hI : ItoaH) (hR : ReadIntH) (p : Poll) (hp : pollOk p) (hq : pollSm p) : ACall Tryz.prog n_impl_TickPoll [.agg (Poll.row false p)] (fun r _ => r = .tup [.agg (Poll.row true (tickP p).1), bl (tickP p).2]) := by
  have hmx := mx_eq
  obtain ⟨h1, h2, h3, h4, h5⟩ := hq
  have hi := GoodPoll_ok p hp
  cases hg : goodPoll p with
  | false =>
    have e := tickP_no (p := p) (by simp [tickC, hg])
    rw [hg] at hi
    refine fn_in h_impl_TickPoll r_impl_TickPoll ⟨by simp only [go_sem], fun E hE hH => ?_⟩; simp only [go_sem] at hE hH; simp only [go_sem, hE, hH, c_impl_TickPoll]
    repeat' (first | ((with_reducible first | refine gd_t ?_ ?_ | refine gd_f ?_ ?_) <;> (intro h; have hb := h; (try simp only [nf] at h); simp (disch := omega) only [go_sem, hE, hH, e, hb]; (try clear hb))) | ((with_reducible refine And.intro ?_ ?_); · omega) | ((first | refine ok_view ?_ | refine cvA (hi) ?_); simp (disch := omega) only [go_sem, hE, hH, e]) | (refine jn _ ?_ ?_) | (with_reducible refine both ?_ ?_) | (with_reducible refine And.intro ?_ ?_) | (refine fin_eq ?_; (try (simp (disch := omega) only [go_sem, hE, hH, e])); first | done | rfl) | (simp (disch := omega) only [go_sem, hE, hH, e]) | ((first | apply noMLL_sE | apply pk_sE) <;> (simp only [go_sem, hE, hH, e]; done)) | (simp only [go_sem, hE, hH, e]) | fail)
    all_goals first | rfl | trace_state
  | true =>
    rw [hg] at hi
    have hn := TickNet_ok p.Net (by omega)
    cases hc : (tickN p.Net).2 with
    | false =>
      have e := tickP_no (p := p) (by simp [tickC, hc])
      rw [hc] at hn
      refine fn_in h_impl_TickPoll r_impl_TickPoll ⟨by simp only [go_sem], fun E hE hH => ?_⟩; simp only [go_sem] at hE hH; simp only [go_sem, hE, hH, c_impl_TickPoll]
      repeat' (first | ((with_reducible first | refine gd_t ?_ ?_ | refine gd_f ?_ ?_) <;> (intro h; have hb := h; (try simp only [nf] at h); simp (disch := omega) only [go_sem, hE, hH, e, hb]; (try clear hb))) | ((with_reducible refine And.intro ?_ ?_); · omega) | ((first | refine ok_view ?_ | refine cvA (hi) ?_ | refine cvA (hn) ?_); simp (disch := omega) only [go_sem, hE, hH, e]) | (refine jn _ ?_ ?_) | (with_reducible refine both ?_ ?_) | (with_reducible refine And.intro ?_ ?_) | (refine fin_eq ?_; (try (simp (disch := omega) only [go_sem, hE, hH, e])); first | done | rfl) | (simp (disch := omega) only [go_sem, hE, hH, e]) | ((first | apply noMLL_sE | apply pk_sE) <;> (simp only [go_sem, hE, hH, e]; done)) | (simp only [go_sem, hE, hH, e]) | fail)
      all_goals first | rfl | trace_state
    | true =>
      rw [hc] at hn
      have hC : tickC p = true := by simp [tickC, hg, hc]
      obtain ⟨gp, _, g0, gh, gl, gn⟩ := tick_at hC
      have ln := goodNet_len gn
      have hll := tickL_len hC
      rw [tickP_yes hC]
      have hd := delivered_ok (tickN1 p) (by omega) (by omega)
      change ACall Tryz.prog n_impl_TickNet _ (fun r _ => r = .tup [.agg (Net.row true (tickN1 p)), bl true]) at hn
      change ACall Tryz.prog _ _ (fun r _ => r = .tup [.agg (Net.row true (tick0 p).Net), .sl true 4 ((tickL p).map (Letter.row true))]) at hd
      refine fn_in h_impl_TickPoll r_impl_TickPoll ⟨by simp only [go_sem], fun E hE hH => ?_⟩; simp only [go_sem] at hE hH; simp only [go_sem, hE, hH, c_impl_TickPoll]
      repeat' (first | ((with_reducible first | refine gd_t ?_ ?_ | refine gd_f ?_ ?_) <;> (intro h; have hb := h; (try simp only [nf] at h); simp (disch := omega) only [go_sem, hE, hH, hb]; (try clear hb))) | ((with_reducible refine And.intro ?_ ?_); · omega) | ((first | refine ok_view ?_ | refine cvA (hi) ?_ | refine cvA (hn) ?_ | refine cvA (copyPoll_ok p h1 h2 h3 h4 h5) ?_ | refine cvA (hd) ?_); simp (disch := omega) only [go_sem, hE, hH]) | (refine jn _ ?_ ?_) | (with_reducible refine both ?_ ?_) | (with_reducible refine And.intro ?_ ?_) | (refine fin_eq ?_; (try (simp (disch := omega) only [go_sem, hE, hH])); first | done | rfl) | (simp (disch := omega) only [go_sem, hE, hH]) | ((first | apply noMLL_sE | apply pk_sE) <;> (simp only [go_sem, hE, hH]; done)) | (simp only [go_sem, hE, hH]) | fail)
      refine loopNe (tickL p).length (fun j (_ : Unit) => ⟨[(2, .ptr 3000000 0 0), (6, .ptr 7000000 0 0), (35, .ref 36000000 0 (tickL p).length), (36, i64 (tickL p).length), (37, i64 j)], [(3000000, ⟨6, [[nils, i64 0, nils, i64 0, nils, nils]]⟩), (7000000, ⟨6, [Poll.row true (heard p j)]⟩), (36000000, ⟨4, (tickL p).map (Letter.row true)⟩)]⟩) (fun _ _ => True) () rfl trivial ?_
      intro j _ hj _
      try simp only [go_sem, hE, hH, c_impl_TickPoll_l1]
      first | refine gd_t (fun h => ?_) (fun h => ?_) | refine gd_f (fun h => ?_) (fun h => ?_)
      · have hb := h
        simp only [nf] at h
        have hlt := h; clear h
        try simp (disch := omega) only [go_sem, hE, hH, hb]
        obtain ⟨hq, hqh⟩ := heard_good hC j
        have hlk : LOk (heard p j).Net.Homes.length (nth (tickL p) j) := by rw [hqh]; exact gl _ (nth_mem hlt)
        have es := heard_succ hlt
        have hv := hq.v
        have hn5 := hq.n
        have b1 := hlk.t
        have b3 := hlk.b
        have ht := tail_take (b := (nth (tickL p) j).Body)
        have htl := tail_len (b := (nth (tickL p) j).Body)
        have hr := hR (tailB (nth (tickL p) j).Body) (by omega)
        have hk : (nth (tickL p) j).To.toNat < (heard p j).Voters.length := by omega
        have hb0 := byt_lo (nth (tickL p) j).Body 0
        cases hd : rdT (tailB (nth (tickL p) j).Body) with
        | none =>
          rw [hd] at hr
          rw [hearP_none hd] at es
          repeat' (first | ((with_reducible first | refine gd_t ?_ ?_ | refine gd_f ?_ ?_) <;> (intro h; have hb := h; (try simp only [nf] at h); simp (disch := omega) only [go_sem, hE, hH, ht, hb]; (try clear hb))) | ((with_reducible refine And.intro ?_ ?_); · omega) | ((first | refine ok_view ?_ | refine cvA (hr) ?_); simp (disch := omega) only [go_sem, hE, hH, ht]) | (with_reducible apply jn) | (with_reducible apply both) | (with_reducible refine And.intro ?_ ?_) | ((with_reducible apply fin_eq); (try (simp (disch := omega) only [go_sem, hE, hH, ht])); first | done | rfl) | (simp (disch := omega) only [go_sem, hE, hH, ht]) | ((first | apply noMLL_sE | apply pk_sE) <;> (simp only [go_sem, hE, hH, ht]; done)) | (simp only [go_sem, hE, hH, ht]) | fail)
          all_goals first | omega | (rw [es]; exact ⟨(), rfl⟩) | trace_state
        | some t =>
          obtain ⟨t1, t2, _⟩ := rdT_some.1 hd
          rw [hd] at hr
          cases hu : (nth (heard p j).Voters (nth (tickL p) j).To.toNat).Up with
          | false =>
            rw [hearP_down hu] at es
            repeat' (first | ((with_reducible first | refine gd_t ?_ ?_ | refine gd_f ?_ ?_) <;> (intro h; have hb := h; (try simp only [nf] at h); simp (disch := omega) only [go_sem, hE, hH, ht, hu, hb]; (try clear hb))) | ((with_reducible refine And.intro ?_ ?_); · omega) | ((first | refine ok_view ?_ | refine cvA (hr) ?_); simp (disch := omega) only [go_sem, hE, hH, ht, hu]) | (with_reducible apply jn) | (with_reducible apply both) | (with_reducible refine And.intro ?_ ?_) | ((with_reducible apply fin_eq); (try (simp (disch := omega) only [go_sem, hE, hH, ht, hu])); first | done | rfl) | (simp (disch := omega) only [go_sem, hE, hH, ht, hu]) | ((first | apply noMLL_sE | apply pk_sE) <;> (simp only [go_sem, hE, hH, ht, hu]; done)) | (simp only [go_sem, hE, hH, ht, hu]) | fail)
            all_goals first | omega | (rw [es]; exact ⟨(), rfl⟩) | trace_state
          | true =>
            by_cases ha : byt (nth (tickL p) j).Body 0 = 97
            · rw [hearP_a hd hu ha] at es
              repeat' (first | ((with_reducible first | refine gd_t ?_ ?_ | refine gd_f ?_ ?_) <;> (intro h; have hb := h; (try simp only [nf] at h); simp (disch := omega) only [go_sem, hE, hH, ht, hu, ha, hb]; (try clear hb))) | ((with_reducible refine And.intro ?_ ?_); · omega) | (refine ok_lend [true, false, false] ?_; simp (disch := omega) only [go_sem, hE, hH, ht, hu, ha]; refine cmA (askVote_ok hI (heard p j) (nth (tickL p) j) t hq hlk t1 t2) ?_; simp (disch := omega) only [go_sem, hE, hH, ht, hu, ha]) | ((first | refine ok_view ?_ | refine cvA (hr) ?_); simp (disch := omega) only [go_sem, hE, hH, ht, hu, ha]) | (with_reducible apply jn) | (with_reducible apply both) | (with_reducible refine And.intro ?_ ?_) | ((with_reducible apply fin_eq); (try (simp (disch := omega) only [go_sem, hE, hH, ht, hu, ha])); first | done | rfl) | (simp (disch := omega) only [go_sem, hE, hH, ht, hu, ha]) | ((first | apply noMLL_sE | apply pk_sE) <;> (simp only [go_sem, hE, hH, ht, hu, ha]; done)) | (simp only [go_sem, hE, hH, ht, hu, ha]) | fail)
              all_goals first | omega | (rw [es]; exact ⟨(), rfl⟩) | trace_state
            · by_cases hy : byt (nth (tickL p) j).Body 0 = 121
              · rw [hearP_y hd hu hy] at es
                repeat' (first | ((with_reducible first | refine gd_t ?_ ?_ | refine gd_f ?_ ?_) <;> (intro h; have hb := h; (try simp only [nf] at h); simp (disch := omega) only [go_sem, hE, hH, ht, hu, hy, hb]; (try clear hb))) | ((with_reducible refine And.intro ?_ ?_); · omega) | (refine ok_lend [true, false, false] ?_; simp (disch := omega) only [go_sem, hE, hH, ht, hu, hy]; refine cmA (countVote_ok (heard p j) (nth (tickL p) j) t hq hlk) ?_; simp (disch := omega) only [go_sem, hE, hH, ht, hu, hy]) | ((first | refine ok_view ?_ | refine cvA (hr) ?_); simp (disch := omega) only [go_sem, hE, hH, ht, hu, hy]) | (with_reducible apply jn) | (with_reducible apply both) | (with_reducible refine And.intro ?_ ?_) | ((with_reducible apply fin_eq); (try (simp (disch := omega) only [go_sem, hE, hH, ht, hu, hy])); first | done | rfl) | (simp (disch := omega) only [go_sem, hE, hH, ht, hu, hy]) | ((first | apply noMLL_sE | apply pk_sE) <;> (simp only [go_sem, hE, hH, ht, hu, hy]; done)) | (simp only [go_sem, hE, hH, ht, hu, hy]) | fail)
                all_goals first | omega | (rw [es]; exact ⟨(), rfl⟩) | trace_state
              · rw [hearP_o hd ha hy] at es
                repeat' (first | ((with_reducible first | refine gd_t ?_ ?_ | refine gd_f ?_ ?_) <;> (intro h; have hb := h; (try simp only [nf] at h); simp (disch := omega) only [go_sem, hE, hH, ht, hu, hb]; (try clear hb))) | ((with_reducible refine And.intro ?_ ?_); · omega) | ((first | refine ok_view ?_ | refine cvA (hr) ?_); simp (disch := omega) only [go_sem, hE, hH, ht, hu]) | (with_reducible apply jn) | (with_reducible apply both) | (with_reducible refine And.intro ?_ ?_) | ((with_reducible apply fin_eq); (try (simp (disch := omega) only [go_sem, hE, hH, ht, hu])); first | done | rfl) | (simp (disch := omega) only [go_sem, hE, hH, ht, hu]) | ((first | apply noMLL_sE | apply pk_sE) <;> (simp only [go_sem, hE, hH, ht, hu]; done)) | (simp only [go_sem, hE, hH, ht, hu]) | fail)
                all_goals first | omega | (rw [es]; exact ⟨(), rfl⟩) | (exfalso; omega) | trace_state
      · try simp (disch := omega) only [go_sem, hE, hH, h]
        simp only [nf] at h
        have ej : j = (tickL p).length := by omega
        subst ej
        repeat' (first | ((with_reducible first | refine gd_t ?_ ?_ | refine gd_f ?_ ?_) <;> (intro h; have hb := h; (try simp only [nf] at h); simp (disch := omega) only [go_sem, hE, hH, hb]; (try clear hb))) | ((with_reducible refine And.intro ?_ ?_); · omega) | (with_reducible apply jn) | (with_reducible apply both) | (with_reducible refine And.intro ?_ ?_) | ((with_reducible apply fin_eq); (try (simp (disch := omega) only [go_sem, hE, hH])); first | done | rfl) | (simp (disch := omega) only [go_sem, hE, hH]) | ((first | apply noMLL_sE | apply pk_sE) <;> (simp only [go_sem, hE, hH]; done)) | (simp only [go_sem, hE, hH]) | fail)
        all_goals first | rfl | exact ⟨rfl, rfl, rfl, rfl, rfl, rfl⟩ | trace_state
theorem good_pollOk {p : Poll} (h : Good p) : pollOk p ∧ pollSm p := by
  have := good_sz h
  exact ⟨pollOk_of (by omega), pollSm_of (by omega)⟩
end Go.Proofs.Wb

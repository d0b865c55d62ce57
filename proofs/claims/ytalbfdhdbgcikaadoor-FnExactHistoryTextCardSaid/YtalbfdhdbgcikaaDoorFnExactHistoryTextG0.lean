import Derived.Test.YtalbfdhdbgcikaaDoorFnExactHistoryTextTy
import Derived.Laws.Externs
set_option linter.unusedSimpArgs false
set_option linter.unusedVariables false
set_option linter.unusedSectionVars false
namespace Go.Proofs.Wb
open Go Go.Am
theorem IndexFunc_Deed_ok (l : List Deed) (f : Nat) (caps : List T) (p : Deed → Bool) (hent : entB Tryd.prog f = true) (hcap : caps.all T.cap = true) (hl : l.length ≤ maxLen) (hp : ∀ x, x ∈ l → ACall Tryd.prog f ([.agg (Deed.row false x)] ++ caps) (fun r _ => r = bl (p x))) :
    ACall Tryd.prog n_slices_IndexFunc___impl_Deed_impl_Deed_ [.sl false 8 (l.map (Deed.row false)), .fn f caps] (fun r _ => r = i64 (ixf p l)) := by
  have hmx := mx_eq
  refine fn_in h_slices_IndexFunc___impl_Deed_impl_Deed_ r_slices_IndexFunc___impl_Deed_impl_Deed_ ⟨by simp only [go_sem, caps_bare hcap, caps_pk hcap, caps_noM hcap, caps_lt hcap, caps_ids hcap], fun E hE hH => ?_⟩; simp only [go_sem, caps_bare hcap, caps_pk hcap, caps_noM hcap, caps_lt hcap, caps_ids hcap] at hE hH; simp only [go_sem, hE, hH, caps_bare hcap, caps_pk hcap, caps_noM hcap, caps_lt hcap, caps_ids hcap, c_slices_IndexFunc___impl_Deed_impl_Deed_]
  refine loopN l.length (fun j (_ : Unit) => ⟨[(0, .sl false 8 (l.map (Deed.row false))), (1, .fn f caps), (7, i64 l.length), (8, i64 j)], []⟩) (fun j _ => allN (fun i => !p (nth l i)) j = true) () rfl ?_
  intro j _ hj hI
  try simp only [go_sem, hE, hH, caps_bare hcap, caps_pk hcap, caps_noM hcap, caps_lt hcap, caps_ids hcap, c_slices_IndexFunc___impl_Deed_impl_Deed__l1]
  first | refine gd_t (fun h => ?_) (fun h => ?_) | refine gd_f (fun h => ?_) (fun h => ?_)
  · have hb := h
    simp only [nf] at h
    have hlt := h; clear h
    try simp (disch := omega) only [go_sem, hE, hH, caps_bare hcap, caps_pk hcap, caps_noM hcap, caps_lt hcap, caps_ids hcap, hb]
    refine And.intro (by omega) ?_
    refine ok_cfv rfl rfl rfl (hent) (hcap) (hp _ (nth_mem hlt)) ?_
    try simp (disch := omega) only [go_sem, hE, hH, caps_bare hcap, caps_pk hcap, caps_noM hcap, caps_lt hcap, caps_ids hcap]
    repeat' (first | ((with_reducible first | refine gd_t ?_ ?_ | refine gd_f ?_ ?_) <;> (intro h; have hb := h; (try simp only [nf] at h); simp (disch := omega) only [go_sem, hE, hH, caps_bare hcap, caps_pk hcap, caps_noM hcap, caps_lt hcap, caps_ids hcap, hb]; (try clear hb))) | ((with_reducible refine And.intro ?_ ?_); · omega) | (refine jn _ ?_ ?_) | (with_reducible refine both ?_ ?_) | (with_reducible refine And.intro ?_ ?_) | (refine fin_eq ?_; (try (simp (disch := omega) only [go_sem, hE, hH, caps_bare hcap, caps_pk hcap, caps_noM hcap, caps_lt hcap, caps_ids hcap])); first | done | rfl) | (simp (disch := omega) only [go_sem, hE, hH, caps_bare hcap, caps_pk hcap, caps_noM hcap, caps_lt hcap, caps_ids hcap]) | ((first | apply noMLL_sE | apply pk_sE) <;> (simp only [go_sem, hE, hH, caps_bare hcap, caps_pk hcap, caps_noM hcap, caps_lt hcap, caps_ids hcap]; done)) | (simp only [go_sem, hE, hH, caps_bare hcap, caps_pk hcap, caps_noM hcap, caps_lt hcap, caps_ids hcap]) | fail)
    · rw [ixf_at hlt hI h]
    · exact ⟨(), rfl, allN_step hI (by simp [h])⟩
  · try simp (disch := omega) only [go_sem, hE, hH, caps_bare hcap, caps_pk hcap, caps_noM hcap, caps_lt hcap, caps_ids hcap, h]
    simp only [nf] at h
    rw [show j = l.length by omega] at hI
    rw [ixf_none hI]
theorem IndexFunc_Got_ok (l : List Got) (f : Nat) (caps : List T) (p : Got → Bool) (hent : entB Tryd.prog f = true) (hcap : caps.all T.cap = true) (hl : l.length ≤ maxLen) (hp : ∀ x, x ∈ l → ACall Tryd.prog f ([.agg (Got.row false x)] ++ caps) (fun r _ => r = bl (p x))) :
    ACall Tryd.prog n_slices_IndexFunc___impl_Got_impl_Got_ [.sl false 3 (l.map (Got.row false)), .fn f caps] (fun r _ => r = i64 (ixf p l)) := by
  have hmx := mx_eq
  refine fn_in h_slices_IndexFunc___impl_Got_impl_Got_ r_slices_IndexFunc___impl_Got_impl_Got_ ⟨by simp only [go_sem, caps_bare hcap, caps_pk hcap, caps_noM hcap, caps_lt hcap, caps_ids hcap], fun E hE hH => ?_⟩; simp only [go_sem, caps_bare hcap, caps_pk hcap, caps_noM hcap, caps_lt hcap, caps_ids hcap] at hE hH; simp only [go_sem, hE, hH, caps_bare hcap, caps_pk hcap, caps_noM hcap, caps_lt hcap, caps_ids hcap, c_slices_IndexFunc___impl_Got_impl_Got_]
  refine loopN l.length (fun j (_ : Unit) => ⟨[(0, .sl false 3 (l.map (Got.row false))), (1, .fn f caps), (7, i64 l.length), (8, i64 j)], []⟩) (fun j _ => allN (fun i => !p (nth l i)) j = true) () rfl ?_
  intro j _ hj hI
  try simp only [go_sem, hE, hH, caps_bare hcap, caps_pk hcap, caps_noM hcap, caps_lt hcap, caps_ids hcap, c_slices_IndexFunc___impl_Got_impl_Got__l1]
  first | refine gd_t (fun h => ?_) (fun h => ?_) | refine gd_f (fun h => ?_) (fun h => ?_)
  · have hb := h
    simp only [nf] at h
    have hlt := h; clear h
    try simp (disch := omega) only [go_sem, hE, hH, caps_bare hcap, caps_pk hcap, caps_noM hcap, caps_lt hcap, caps_ids hcap, hb]
    refine And.intro (by omega) ?_
    refine ok_cfv rfl rfl rfl (hent) (hcap) (hp _ (nth_mem hlt)) ?_
    try simp (disch := omega) only [go_sem, hE, hH, caps_bare hcap, caps_pk hcap, caps_noM hcap, caps_lt hcap, caps_ids hcap]
    repeat' (first | ((with_reducible first | refine gd_t ?_ ?_ | refine gd_f ?_ ?_) <;> (intro h; have hb := h; (try simp only [nf] at h); simp (disch := omega) only [go_sem, hE, hH, caps_bare hcap, caps_pk hcap, caps_noM hcap, caps_lt hcap, caps_ids hcap, hb]; (try clear hb))) | ((with_reducible refine And.intro ?_ ?_); · omega) | (refine jn _ ?_ ?_) | (with_reducible refine both ?_ ?_) | (with_reducible refine And.intro ?_ ?_) | (refine fin_eq ?_; (try (simp (disch := omega) only [go_sem, hE, hH, caps_bare hcap, caps_pk hcap, caps_noM hcap, caps_lt hcap, caps_ids hcap])); first | done | rfl) | (simp (disch := omega) only [go_sem, hE, hH, caps_bare hcap, caps_pk hcap, caps_noM hcap, caps_lt hcap, caps_ids hcap]) | ((first | apply noMLL_sE | apply pk_sE) <;> (simp only [go_sem, hE, hH, caps_bare hcap, caps_pk hcap, caps_noM hcap, caps_lt hcap, caps_ids hcap]; done)) | (simp only [go_sem, hE, hH, caps_bare hcap, caps_pk hcap, caps_noM hcap, caps_lt hcap, caps_ids hcap]) | fail)
    · rw [ixf_at hlt hI h]
    · exact ⟨(), rfl, allN_step hI (by simp [h])⟩
  · try simp (disch := omega) only [go_sem, hE, hH, caps_bare hcap, caps_pk hcap, caps_noM hcap, caps_lt hcap, caps_ids hcap, h]
    simp only [nf] at h
    rw [show j = l.length by omega] at hI
    rw [ixf_none hI]
theorem IndexFunc_Write_ok (l : List Write) (f : Nat) (caps : List T) (p : Write → Bool) (hent : entB Tryd.prog f = true) (hcap : caps.all T.cap = true) (hl : l.length ≤ maxLen) (hp : ∀ x, x ∈ l → ACall Tryd.prog f ([.agg (Write.row false x)] ++ caps) (fun r _ => r = bl (p x))) :
    ACall Tryd.prog n_slices_IndexFunc___impl_Write_impl_Write_ [.sl false 3 (l.map (Write.row false)), .fn f caps] (fun r _ => r = i64 (ixf p l)) := by
  have hmx := mx_eq
  refine fn_in h_slices_IndexFunc___impl_Write_impl_Write_ r_slices_IndexFunc___impl_Write_impl_Write_ ⟨by simp only [go_sem, caps_bare hcap, caps_pk hcap, caps_noM hcap, caps_lt hcap, caps_ids hcap], fun E hE hH => ?_⟩; simp only [go_sem, caps_bare hcap, caps_pk hcap, caps_noM hcap, caps_lt hcap, caps_ids hcap] at hE hH; simp only [go_sem, hE, hH, caps_bare hcap, caps_pk hcap, caps_noM hcap, caps_lt hcap, caps_ids hcap, c_slices_IndexFunc___impl_Write_impl_Write_]
  refine loopN l.length (fun j (_ : Unit) => ⟨[(0, .sl false 3 (l.map (Write.row false))), (1, .fn f caps), (7, i64 l.length), (8, i64 j)], []⟩) (fun j _ => allN (fun i => !p (nth l i)) j = true) () rfl ?_
  intro j _ hj hI
  try simp only [go_sem, hE, hH, caps_bare hcap, caps_pk hcap, caps_noM hcap, caps_lt hcap, caps_ids hcap, c_slices_IndexFunc___impl_Write_impl_Write__l1]
  first | refine gd_t (fun h => ?_) (fun h => ?_) | refine gd_f (fun h => ?_) (fun h => ?_)
  · have hb := h
    simp only [nf] at h
    have hlt := h; clear h
    try simp (disch := omega) only [go_sem, hE, hH, caps_bare hcap, caps_pk hcap, caps_noM hcap, caps_lt hcap, caps_ids hcap, hb]
    refine And.intro (by omega) ?_
    refine ok_cfv rfl rfl rfl (hent) (hcap) (hp _ (nth_mem hlt)) ?_
    try simp (disch := omega) only [go_sem, hE, hH, caps_bare hcap, caps_pk hcap, caps_noM hcap, caps_lt hcap, caps_ids hcap]
    repeat' (first | ((with_reducible first | refine gd_t ?_ ?_ | refine gd_f ?_ ?_) <;> (intro h; have hb := h; (try simp only [nf] at h); simp (disch := omega) only [go_sem, hE, hH, caps_bare hcap, caps_pk hcap, caps_noM hcap, caps_lt hcap, caps_ids hcap, hb]; (try clear hb))) | ((with_reducible refine And.intro ?_ ?_); · omega) | (refine jn _ ?_ ?_) | (with_reducible refine both ?_ ?_) | (with_reducible refine And.intro ?_ ?_) | (refine fin_eq ?_; (try (simp (disch := omega) only [go_sem, hE, hH, caps_bare hcap, caps_pk hcap, caps_noM hcap, caps_lt hcap, caps_ids hcap])); first | done | rfl) | (simp (disch := omega) only [go_sem, hE, hH, caps_bare hcap, caps_pk hcap, caps_noM hcap, caps_lt hcap, caps_ids hcap]) | ((first | apply noMLL_sE | apply pk_sE) <;> (simp only [go_sem, hE, hH, caps_bare hcap, caps_pk hcap, caps_noM hcap, caps_lt hcap, caps_ids hcap]; done)) | (simp only [go_sem, hE, hH, caps_bare hcap, caps_pk hcap, caps_noM hcap, caps_lt hcap, caps_ids hcap]) | fail)
    · rw [ixf_at hlt hI h]
    · exact ⟨(), rfl, allN_step hI (by simp [h])⟩
  · try simp (disch := omega) only [go_sem, hE, hH, caps_bare hcap, caps_pk hcap, caps_noM hcap, caps_lt hcap, caps_ids hcap, h]
    simp only [nf] at h
    rw [show j = l.length by omega] at hI
    rw [ixf_none hI]
theorem ContainsFunc_Deed_ok (l : List Deed) (f : Nat) (caps : List T) (p : Deed → Bool) (hent : entB Tryd.prog f = true) (hcap : caps.all T.cap = true) (hl : l.length ≤ maxLen) (hp : ∀ x, x ∈ l → ACall Tryd.prog f ([.agg (Deed.row false x)] ++ caps) (fun r _ => r = bl (p x))) :
    ACall Tryd.prog n_slices_ContainsFunc___impl_Deed_impl_Deed_ [.sl false 8 (l.map (Deed.row false)), .fn f caps] (fun r _ => r = bl (l.any p)) := by
  refine fn_in h_slices_ContainsFunc___impl_Deed_impl_Deed_ r_slices_ContainsFunc___impl_Deed_impl_Deed_ ⟨by simp only [go_sem, caps_bare hcap, caps_pk hcap, caps_noM hcap, caps_lt hcap, caps_ids hcap], fun E hE hH => ?_⟩; simp only [go_sem, caps_bare hcap, caps_pk hcap, caps_noM hcap, caps_lt hcap, caps_ids hcap] at hE hH; simp only [go_sem, hE, hH, caps_bare hcap, caps_pk hcap, caps_noM hcap, caps_lt hcap, caps_ids hcap, c_slices_ContainsFunc___impl_Deed_impl_Deed_]
  refine ok_cv rfl (by simp only [zipF, argL, vwT, vwLeaf, vwRow_caps hcap, Bool.false_eq_true, if_false]; rfl) (IndexFunc_Deed_ok l f caps p hent hcap hl hp) ?_
  try simp (disch := omega) only [go_sem, hE, hH, caps_bare hcap, caps_pk hcap, caps_noM hcap, caps_lt hcap, caps_ids hcap, ixf_any, vwC_ok hcap]
theorem ContainsFunc_Got_ok (l : List Got) (f : Nat) (caps : List T) (p : Got → Bool) (hent : entB Tryd.prog f = true) (hcap : caps.all T.cap = true) (hl : l.length ≤ maxLen) (hp : ∀ x, x ∈ l → ACall Tryd.prog f ([.agg (Got.row false x)] ++ caps) (fun r _ => r = bl (p x))) :
    ACall Tryd.prog n_slices_ContainsFunc___impl_Got_impl_Got_ [.sl false 3 (l.map (Got.row false)), .fn f caps] (fun r _ => r = bl (l.any p)) := by
  refine fn_in h_slices_ContainsFunc___impl_Got_impl_Got_ r_slices_ContainsFunc___impl_Got_impl_Got_ ⟨by simp only [go_sem, caps_bare hcap, caps_pk hcap, caps_noM hcap, caps_lt hcap, caps_ids hcap], fun E hE hH => ?_⟩; simp only [go_sem, caps_bare hcap, caps_pk hcap, caps_noM hcap, caps_lt hcap, caps_ids hcap] at hE hH; simp only [go_sem, hE, hH, caps_bare hcap, caps_pk hcap, caps_noM hcap, caps_lt hcap, caps_ids hcap, c_slices_ContainsFunc___impl_Got_impl_Got_]
  refine ok_cv rfl (by simp only [zipF, argL, vwT, vwLeaf, vwRow_caps hcap, Bool.false_eq_true, if_false]; rfl) (IndexFunc_Got_ok l f caps p hent hcap hl hp) ?_
  try simp (disch := omega) only [go_sem, hE, hH, caps_bare hcap, caps_pk hcap, caps_noM hcap, caps_lt hcap, caps_ids hcap, ixf_any, vwC_ok hcap]
theorem ContainsFunc_Write_ok (l : List Write) (f : Nat) (caps : List T) (p : Write → Bool) (hent : entB Tryd.prog f = true) (hcap : caps.all T.cap = true) (hl : l.length ≤ maxLen) (hp : ∀ x, x ∈ l → ACall Tryd.prog f ([.agg (Write.row false x)] ++ caps) (fun r _ => r = bl (p x))) :
    ACall Tryd.prog n_slices_ContainsFunc___impl_Write_impl_Write_ [.sl false 3 (l.map (Write.row false)), .fn f caps] (fun r _ => r = bl (l.any p)) := by
  refine fn_in h_slices_ContainsFunc___impl_Write_impl_Write_ r_slices_ContainsFunc___impl_Write_impl_Write_ ⟨by simp only [go_sem, caps_bare hcap, caps_pk hcap, caps_noM hcap, caps_lt hcap, caps_ids hcap], fun E hE hH => ?_⟩; simp only [go_sem, caps_bare hcap, caps_pk hcap, caps_noM hcap, caps_lt hcap, caps_ids hcap] at hE hH; simp only [go_sem, hE, hH, caps_bare hcap, caps_pk hcap, caps_noM hcap, caps_lt hcap, caps_ids hcap, c_slices_ContainsFunc___impl_Write_impl_Write_]
  refine ok_cv rfl (by simp only [zipF, argL, vwT, vwLeaf, vwRow_caps hcap, Bool.false_eq_true, if_false]; rfl) (IndexFunc_Write_ok l f caps p hent hcap hl hp) ?_
  try simp (disch := omega) only [go_sem, hE, hH, caps_bare hcap, caps_pk hcap, caps_noM hcap, caps_lt hcap, caps_ids hcap, ixf_any, vwC_ok hcap]
def bys (code : List Int) : List (List T) := code.map fun b => [.v (.int .u8 b)]
@[go_sem] theorem bys_eq (code : List Int) : bys code = code.map fun b => [.v (.int .u8 b)] := rfl
def rng (n lo hi : Int) : Bool := decide (lo ≤ n) && decide (n ≤ hi)
theorem rng_iff {n lo hi : Int} : rng n lo hi = true ↔ lo ≤ n ∧ n ≤ hi := by simp [rng]
theorem rng_no {n lo hi : Int} : rng n lo hi = false ↔ ¬ (lo ≤ n ∧ n ≤ hi) := by rw [← rng_iff]; simp
theorem within_ok (n lo hi : Int) : ACall Tryd.prog n_impl_within [i64 n, i64 lo, i64 hi] (fun r _ => r = bl (rng n lo hi)) := by
  refine fn_in h_impl_within r_impl_within ⟨by simp only [go_sem], fun E hE hH => ?_⟩; simp only [go_sem] at hE hH; simp only [go_sem, hE, hH, c_impl_within]
  repeat' (first | ((with_reducible first | refine gd_t ?_ ?_ | refine gd_f ?_ ?_) <;> (intro h; have hb := h; (try simp only [nf] at h); simp (disch := omega) only [go_sem, hE, hH, hb]; (try clear hb))) | ((with_reducible refine And.intro ?_ ?_); · omega) | (refine jn _ ?_ ?_) | (with_reducible refine both ?_ ?_) | (with_reducible refine And.intro ?_ ?_) | (refine fin_eq ?_; (try (simp (disch := omega) only [go_sem, hE, hH])); first | done | rfl) | (simp (disch := omega) only [go_sem, hE, hH]) | ((first | apply noMLL_sE | apply pk_sE) <;> (simp only [go_sem, hE, hH]; done)) | (simp only [go_sem, hE, hH]) | fail)
  all_goals (simp_all [rng]; try omega)
theorem l1In_ok (n lo hi : Int) : ACall Tryd.prog n_spec_l1In [i64 n, i64 lo, i64 hi] (fun r _ => r = bl (rng n lo hi)) := by
  refine fn_in h_spec_l1In r_spec_l1In ⟨by simp only [go_sem], fun E hE hH => ?_⟩; simp only [go_sem] at hE hH; simp only [go_sem, hE, hH, c_spec_l1In]
  repeat' (first | ((with_reducible first | refine gd_t ?_ ?_ | refine gd_f ?_ ?_) <;> (intro h; have hb := h; (try simp only [nf] at h); simp (disch := omega) only [go_sem, hE, hH, hb]; (try clear hb))) | ((with_reducible refine And.intro ?_ ?_); · omega) | (refine jn _ ?_ ?_) | (with_reducible refine both ?_ ?_) | (with_reducible refine And.intro ?_ ?_) | (refine fin_eq ?_; (try (simp (disch := omega) only [go_sem, hE, hH])); first | done | rfl) | (simp (disch := omega) only [go_sem, hE, hH]) | ((first | apply noMLL_sE | apply pk_sE) <;> (simp only [go_sem, hE, hH]; done)) | (simp only [go_sem, hE, hH]) | fail)
  all_goals (simp_all [rng]; try omega)
def lowc (b : Int) : Bool := (decide (97 ≤ b) && decide (b ≤ 122)) || (decide (48 ≤ b) && decide (b ≤ 57))
def hasc (more : ByteArray) (b : Int) : Bool := !allN (fun i => !decide (b = byt more i)) more.size
def hasB (s more : ByteArray) : Bool := allN (fun i => lowc (byt s i) || hasc more (byt s i)) s.size
def goodKey (s : ByteArray) : Bool := rng s.size 1 12 && hasB s ⟨⟨[46, 47]⟩⟩
def goodVal (s : ByteArray) : Bool := decide ((s.size : Int) ≤ 24) && hasB s ⟨⟨[46, 45, 44, 95]⟩⟩
theorem isLower_ok (b : Int) : ACall Tryd.prog n_impl_isLowerOrDigit [u8 b] (fun r _ => r = bl (lowc b)) := by
  refine fn_in h_impl_isLowerOrDigit r_impl_isLowerOrDigit ⟨by simp only [go_sem], fun E hE hH => ?_⟩; simp only [go_sem] at hE hH; simp only [go_sem, hE, hH, c_impl_isLowerOrDigit]
  repeat' (first | ((with_reducible first | refine gd_t ?_ ?_ | refine gd_f ?_ ?_) <;> (intro h; have hb := h; (try simp only [nf] at h); simp (disch := omega) only [go_sem, hE, hH, hb]; (try clear hb))) | ((with_reducible refine And.intro ?_ ?_); · omega) | (refine jn _ ?_ ?_) | (with_reducible refine both ?_ ?_) | (with_reducible refine And.intro ?_ ?_) | (refine fin_eq ?_; (try (simp (disch := omega) only [go_sem, hE, hH])); first | done | rfl) | (simp (disch := omega) only [go_sem, hE, hH]) | ((first | apply noMLL_sE | apply pk_sE) <;> (simp only [go_sem, hE, hH]; done)) | (simp only [go_sem, hE, hH]) | fail)
  all_goals (simp_all [lowc] <;> try omega)
theorem find_idx (s : ByteArray) (c : UInt8) : decide (firstIdx s c < 0) = allN (fun i => !decide ((c.toNat : Int) = byt s i)) s.size := by
  rw [Bool.eq_iff_iff, allN_iff, decide_eq_true_iff]
  have key : ∀ i, i < s.size → ((s[i]! == c) = true ↔ (c.toNat : Int) = byt s i) := by
    intro i hi
    have h1 : s[i]! = s.data.toList.getD i 0 := by
      rw [getElem!_pos s i hi]
      simp [ByteArray.getElem_eq_getElem_data, List.getD]
      rw [getElem?_pos _ _ (by simpa using hi)]
      simp
    rw [h1, byt, beq_iff_eq, ← UInt8.toNat_inj]
    omega
  unfold firstIdx
  cases hf : (List.range s.size).find? fun i => s[i]! == c with
  | some i =>
    dsimp only
    have h1 := List.find?_some hf
    have h2 : i < s.size := by simpa using List.mem_of_find?_eq_some hf
    constructor
    · intro h; omega
    · intro h
      have := h i h2
      rw [(key i h2).1 h1] at this
      simp at this
  | none =>
    dsimp only
    constructor
    · intro _ i hi
      have := List.find?_eq_none.1 hf i (by simpa using hi)
      simp only [Bool.not_eq_true', decide_eq_false_iff_not]
      exact fun e => this ((key i hi).2 e)
    · intro _; omega
theorem idx_run (s : ByteArray) (c : Int) (w : Go.World) : (callFunc n_internal_bytealg_IndexByteString #[.string s, .int .u8 c]).run Tryd.prog w = .ok (.value (.int .i64 (firstIdx s c.toNat.toUInt8))) w := by
  rw [run_callFunc_extern (e := Extern.BytealgIndexByte.indexByte) d_internal_bytealg_IndexByteString (by kernel_rfl) (by kernel_rfl) (by kernel_rfl) (by kernel_rfl), run_indexByte_string]
  rfl
theorem liteIndex_ok (s : ByteArray) (c : Int) : ACall Tryd.prog n_internal_stringslite_IndexByte [str s, u8 c] (fun r _ => r = i64 (firstIdx s c.toNat.toUInt8)) := by
  refine fn_in h_internal_stringslite_IndexByte r_internal_stringslite_IndexByte ⟨by simp only [go_sem], fun E hE hH => ?_⟩; simp only [go_sem] at hE hH; simp only [go_sem, hE, hH, c_internal_stringslite_IndexByte]
  refine ok_xcall (vs := [.string s, .int .u8 c]) rfl (idx_run s c) ?_
  try simp only [go_sem, hE, hH]
theorem indexByte_ok (s : ByteArray) (c : Int) : ACall Tryd.prog n_strings_IndexByte [str s, u8 c] (fun r _ => r = i64 (firstIdx s c.toNat.toUInt8)) := by
  refine fn_in h_strings_IndexByte r_strings_IndexByte ⟨by simp only [go_sem], fun E hE hH => ?_⟩; simp only [go_sem] at hE hH; simp only [go_sem, hE, hH, c_strings_IndexByte]
  repeat' (first | ((with_reducible first | refine gd_t ?_ ?_ | refine gd_f ?_ ?_) <;> (intro h; have hb := h; (try simp only [nf] at h); simp (disch := omega) only [go_sem, hE, hH, hb]; (try clear hb))) | ((with_reducible refine And.intro ?_ ?_); · omega) | ((first | refine ok_view ?_ | refine cvA (liteIndex_ok _ _) ?_); simp (disch := omega) only [go_sem, hE, hH]) | (refine jn _ ?_ ?_) | (with_reducible refine both ?_ ?_) | (with_reducible refine And.intro ?_ ?_) | (refine fin_eq ?_; (try (simp (disch := omega) only [go_sem, hE, hH])); first | done | rfl) | (simp (disch := omega) only [go_sem, hE, hH]) | ((first | apply noMLL_sE | apply pk_sE) <;> (simp only [go_sem, hE, hH]; done)) | (simp only [go_sem, hE, hH]) | fail)
theorem hasBytes_ok (s more : ByteArray) (hs : s.size ≤ maxLen) : ACall Tryd.prog n_impl_hasBytes [str s, str more] (fun r _ => r = bl (hasB s more)) := by
  have hm := mx_eq
  refine fn_in h_impl_hasBytes r_impl_hasBytes ⟨by simp only [go_sem], fun E hE hH => ?_⟩; simp only [go_sem] at hE hH; simp only [go_sem, hE, hH, c_impl_hasBytes]
  refine loopN s.size (fun j (_ : Unit) => ⟨[(0, str s), (1, str more), (7, i64 s.size), (8, i64 j)], []⟩) (fun j _ => allN (fun i => lowc (byt s i) || hasc more (byt s i)) j = true) () rfl ?_
  intro j _ hj hI
  try simp only [go_sem, hE, hH, c_impl_hasBytes_l1]
  first | refine gd_t (fun h => ?_) (fun h => ?_) | refine gd_f (fun h => ?_) (fun h => ?_)
  · have hb := h
    simp only [nf] at h
    have hlt := h; clear h
    have hf : decide (firstIdx more (byt s j).toNat.toUInt8 < 0) = !hasc more (byt s j) := by
      rw [find_idx, hasc, Bool.not_not]
      congr 1; funext i
      congr 2
      simp [byt]
    try simp (disch := omega) only [go_sem, hE, hH, hb]
    repeat' (first | ((with_reducible first | refine gd_t ?_ ?_ | refine gd_f ?_ ?_) <;> (intro h; have hb := h; (try simp only [nf] at h); simp (disch := omega) only [go_sem, hE, hH, hb]; (try clear hb))) | ((with_reducible refine And.intro ?_ ?_); · omega) | ((first | refine ok_view ?_ | refine cvA (isLower_ok _) ?_ | refine cvA (indexByte_ok _ _) ?_); simp (disch := omega) only [go_sem, hE, hH]) | (refine jn _ ?_ ?_) | (with_reducible refine both ?_ ?_) | (with_reducible refine And.intro ?_ ?_) | (refine fin_eq ?_; (try (simp (disch := omega) only [go_sem, hE, hH])); first | done | rfl) | (simp (disch := omega) only [go_sem, hE, hH]) | ((first | apply noMLL_sE | apply pk_sE) <;> (simp only [go_sem, hE, hH]; done)) | (simp only [go_sem, hE, hH]) | fail)
    · rw [decide_eq_true h] at hf
      rw [hasB, allN_no hlt (by simp_all)]
    · rw [decide_eq_false (by omega)] at hf
      exact ⟨(), rfl, allN_step hI (by simp_all)⟩
    · exact ⟨(), rfl, allN_step hI (by simp_all)⟩
  · try simp (disch := omega) only [go_sem, hE, hH, h]
    simp only [nf] at h
    rw [show j = s.size by omega] at hI
    rw [hasB, hI]
theorem l3Bytes_ok (s more : ByteArray) (hs : s.size ≤ maxLen) (hm : more.size ≤ maxLen) : ACall Tryd.prog n_spec_l3Bytes [str s, str more] (fun r _ => r = bl (hasB s more)) := by
  have hmx := mx_eq
  refine fn_in h_spec_l3Bytes r_spec_l3Bytes ⟨by simp only [go_sem], fun E hE hH => ?_⟩; simp only [go_sem] at hE hH; simp only [go_sem, hE, hH, c_spec_l3Bytes]
  refine loopN s.size (fun j (_ : Unit) => ⟨[(0, str s), (1, str more), (5, i64 j)], []⟩) (fun j _ => allN (fun i => lowc (byt s i) || hasc more (byt s i)) j = true) () rfl ?_
  intro j _ hj hI
  try simp only [go_sem, hE, hH, c_spec_l3Bytes_l2]
  first | refine gd_t (fun h => ?_) (fun h => ?_) | refine gd_f (fun h => ?_) (fun h => ?_)
  · have hb := h
    simp only [nf] at h
    have hlt := h; clear h
    try simp (disch := omega) only [go_sem, hE, hH, hb]
    repeat' (first | ((with_reducible first | refine gd_t ?_ ?_ | refine gd_f ?_ ?_) <;> (intro h; have hb := h; (try simp only [nf] at h); simp (disch := omega) only [go_sem, hE, hH, hb]; (try clear hb))) | ((with_reducible refine And.intro ?_ ?_); · omega) | (refine jn _ ?_ ?_) | (with_reducible refine both ?_ ?_) | (with_reducible refine And.intro ?_ ?_) | (refine fin_eq ?_; (try (simp (disch := omega) only [go_sem, hE, hH])); first | done | rfl) | (simp (disch := omega) only [go_sem, hE, hH]) | ((first | apply noMLL_sE | apply pk_sE) <;> (simp only [go_sem, hE, hH]; done)) | (simp only [go_sem, hE, hH]) | fail)
    all_goals (
      refine loopNe more.size (fun k (_ : Unit) => ⟨[(0, str s), (1, str more), (5, i64 j), (6, bl (lowc (byt s j) || !allN (fun i => !decide (byt s j = byt more i)) k)), (7, i64 k)], []⟩) (fun _ _ => True) () ?_ trivial ?_
      · simp_all [lowc, allN]
        try omega
      intro k _ hk _
      try simp only [go_sem, hE, hH, c_spec_l3Bytes_l1]
      first | refine gd_t (fun h => ?_) (fun h => ?_) | refine gd_f (fun h => ?_) (fun h => ?_)
      · try simp (disch := omega) only [go_sem, hE, hH, h]
        simp only [nf] at h
        repeat' (first | ((with_reducible first | refine gd_t ?_ ?_ | refine gd_f ?_ ?_) <;> (intro h; have hb := h; (try simp only [nf] at h); simp (disch := omega) only [go_sem, hE, hH, hb]; (try clear hb))) | ((with_reducible refine And.intro ?_ ?_); · omega) | (refine jn _ ?_ ?_) | (with_reducible refine both ?_ ?_) | (with_reducible refine And.intro ?_ ?_) | (refine fin_eq ?_; (try (simp (disch := omega) only [go_sem, hE, hH])); first | done | rfl) | (simp (disch := omega) only [go_sem, hE, hH]) | ((first | apply noMLL_sE | apply pk_sE) <;> (simp only [go_sem, hE, hH]; done)) | (simp only [go_sem, hE, hH]) | fail)
        · exact ⟨(), by simp_all [allN]; rcases h with h | h <;> simp [h]⟩
        · exact ⟨(), by simp_all [allN]⟩
      · try simp (disch := omega) only [go_sem, hE, hH, h]
        simp only [nf] at h
        rw [show k = more.size by omega]
        repeat' (first | ((with_reducible first | refine gd_t ?_ ?_ | refine gd_f ?_ ?_) <;> (intro h; have hb := h; (try simp only [nf] at h); simp (disch := omega) only [go_sem, hE, hH, hb]; (try clear hb))) | ((with_reducible refine And.intro ?_ ?_); · omega) | (refine jn _ ?_ ?_) | (with_reducible refine both ?_ ?_) | (with_reducible refine And.intro ?_ ?_) | (refine fin_eq ?_; (try (simp (disch := omega) only [go_sem, hE, hH])); first | done | rfl) | (simp (disch := omega) only [go_sem, hE, hH]) | ((first | apply noMLL_sE | apply pk_sE) <;> (simp only [go_sem, hE, hH]; done)) | (simp only [go_sem, hE, hH]) | fail)
        · rw [hasB, allN_no hlt (by simp_all [hasc])]
        · exact ⟨(), rfl, allN_step hI (by simp_all [hasc])⟩)
  · try simp (disch := omega) only [go_sem, hE, hH, h]
    simp only [nf] at h
    rw [show j = s.size by omega] at hI
    rw [hasB, hI]
theorem GoodKey_ok (s : ByteArray) (hs : s.size ≤ maxLen) : ACall Tryd.prog n_impl_GoodKey [str s] (fun r _ => r = bl (goodKey s)) := by
  refine fn_in h_impl_GoodKey r_impl_GoodKey ⟨by simp only [go_sem], fun E hE hH => ?_⟩; simp only [go_sem] at hE hH; simp only [go_sem, hE, hH, c_impl_GoodKey]
  repeat' (first | ((with_reducible first | refine gd_t ?_ ?_ | refine gd_f ?_ ?_) <;> (intro h; have hb := h; (try simp only [nf] at h); simp (disch := omega) only [go_sem, hE, hH, hb]; (try clear hb))) | ((with_reducible refine And.intro ?_ ?_); · omega) | ((first | refine ok_view ?_ | refine cvA (within_ok _ _ _) ?_ | refine cvA (hasBytes_ok _ _ hs) ?_); simp (disch := omega) only [go_sem, hE, hH]) | (refine jn _ ?_ ?_) | (with_reducible refine both ?_ ?_) | (with_reducible refine And.intro ?_ ?_) | (refine fin_eq ?_; (try (simp (disch := omega) only [go_sem, hE, hH])); first | done | rfl) | (simp (disch := omega) only [go_sem, hE, hH]) | ((first | apply noMLL_sE | apply pk_sE) <;> (simp only [go_sem, hE, hH]; done)) | (simp only [go_sem, hE, hH]) | fail)
  all_goals simp_all [goodKey]
theorem l3Key_ok (s : ByteArray) (hs : s.size ≤ maxLen) : ACall Tryd.prog n_spec_l3Key [str s] (fun r _ => r = bl (goodKey s)) := by
  refine fn_in h_spec_l3Key r_spec_l3Key ⟨by simp only [go_sem], fun E hE hH => ?_⟩; simp only [go_sem] at hE hH; simp only [go_sem, hE, hH, c_spec_l3Key]
  repeat' (first | ((with_reducible first | refine gd_t ?_ ?_ | refine gd_f ?_ ?_) <;> (intro h; have hb := h; (try simp only [nf] at h); simp (disch := omega) only [go_sem, hE, hH, hb]; (try clear hb))) | ((with_reducible refine And.intro ?_ ?_); · omega) | ((first | refine ok_view ?_ | refine cvA (l1In_ok _ _ _) ?_ | refine cvA (l3Bytes_ok _ _ hs (by decide)) ?_); simp (disch := omega) only [go_sem, hE, hH]) | (refine jn _ ?_ ?_) | (with_reducible refine both ?_ ?_) | (with_reducible refine And.intro ?_ ?_) | (refine fin_eq ?_; (try (simp (disch := omega) only [go_sem, hE, hH])); first | done | rfl) | (simp (disch := omega) only [go_sem, hE, hH]) | ((first | apply noMLL_sE | apply pk_sE) <;> (simp only [go_sem, hE, hH]; done)) | (simp only [go_sem, hE, hH]) | fail)
  all_goals simp_all [goodKey]
def risB (l : List ByteArray) : Bool := allN (fun i => goodKey (nth l i) && (decide (i = 0) || strLt (nth l (i - 1)) (nth l i))) l.length
theorem areRising_ok (l : List ByteArray) (hl : limL (fun s => s.size ≤ maxLen) l) : ACall Tryd.prog n_impl_areRising [.sl false 1 (strs l)] (fun r _ => r = bl (risB l)) := by
  obtain ⟨hl, hx⟩ := hl
  have hmx := mx_eq
  refine fn_in h_impl_areRising r_impl_areRising ⟨by simp only [go_sem], fun E hE hH => ?_⟩; simp only [go_sem] at hE hH; simp only [go_sem, hE, hH, c_impl_areRising]
  refine loopN l.length (fun j (_ : Unit) => ⟨[(0, .sl false 1 (strs l)), (5, .sl false 1 (strs l)), (6, i64 l.length), (7, i64 j)], []⟩) (fun j _ => allN (fun i => goodKey (nth l i) && (decide (i = 0) || strLt (nth l (i - 1)) (nth l i))) j = true) () rfl ?_
  intro j _ hj hI
  try simp only [go_sem, hE, hH, c_impl_areRising_l1]
  first | refine gd_t (fun h => ?_) (fun h => ?_) | refine gd_f (fun h => ?_) (fun h => ?_)
  · have hb := h
    simp only [nf] at h
    have hlt := h; clear h
    have hs := hx _ (nth_mem hlt)
    try simp (disch := omega) only [go_sem, hE, hH, hb]
    repeat' (first | ((with_reducible first | refine gd_t ?_ ?_ | refine gd_f ?_ ?_) <;> (intro h; have hb := h; (try simp only [nf] at h); simp (disch := omega) only [go_sem, hE, hH, hb]; (try clear hb))) | ((with_reducible refine And.intro ?_ ?_); · omega) | ((first | refine ok_view ?_ | refine cvA (GoodKey_ok _ (by assumption)) ?_); simp (disch := omega) only [go_sem, hE, hH]) | (refine jn _ ?_ ?_) | (with_reducible refine both ?_ ?_) | (with_reducible refine And.intro ?_ ?_) | (refine fin_eq ?_; (try (simp (disch := omega) only [go_sem, hE, hH])); first | done | rfl) | (simp (disch := omega) only [go_sem, hE, hH]) | ((first | apply noMLL_sE | apply pk_sE) <;> (simp only [go_sem, hE, hH]; done)) | (simp only [go_sem, hE, hH]) | fail)
    · rw [risB, allN_no hlt (by simp_all)]
    · rw [risB, allN_no hlt (by simp_all <;> omega)]
    · exact ⟨(), rfl, allN_step hI (by simp_all)⟩
    · exact ⟨(), rfl, allN_step hI (by simp_all <;> omega)⟩
  · try simp (disch := omega) only [go_sem, hE, hH, h]
    simp only [nf] at h
    rw [show j = l.length by omega] at hI
    rw [risB, hI]
def stored (v : ByteArray) (gone : Bool) : Bool := goodVal v && !(gone && !decide (v = ⟨⟨[]⟩⟩))
theorem nth_map {α β : Type} [Inhabited α] [Inhabited β] {f : α → β} {l : List α} {i : Nat} (h : i < l.length) : nth (l.map f) i = f (nth l i) := by
  rw [nth_lt (by simpa using h), nth_lt h, List.getElem_map]
theorem GoodVal_ok (s : ByteArray) (hs : s.size ≤ maxLen) : ACall Tryd.prog n_impl_GoodVal [str s] (fun r _ => r = bl (goodVal s)) := by
  refine fn_in h_impl_GoodVal r_impl_GoodVal ⟨by simp only [go_sem], fun E hE hH => ?_⟩; simp only [go_sem] at hE hH; simp only [go_sem, hE, hH, c_impl_GoodVal]
  repeat' (first | ((with_reducible first | refine gd_t ?_ ?_ | refine gd_f ?_ ?_) <;> (intro h; have hb := h; (try simp only [nf] at h); simp (disch := omega) only [go_sem, hE, hH, hb]; (try clear hb))) | ((with_reducible refine And.intro ?_ ?_); · omega) | ((first | refine ok_view ?_ | refine cvA (hasBytes_ok _ _ hs) ?_); simp (disch := omega) only [go_sem, hE, hH]) | (refine jn _ ?_ ?_) | (with_reducible refine both ?_ ?_) | (with_reducible refine And.intro ?_ ?_) | (refine fin_eq ?_; (try (simp (disch := omega) only [go_sem, hE, hH])); first | done | rfl) | (simp (disch := omega) only [go_sem, hE, hH]) | ((first | apply noMLL_sE | apply pk_sE) <;> (simp only [go_sem, hE, hH]; done)) | (simp only [go_sem, hE, hH]) | fail)
  all_goals (first | (simp_all [goodVal]; done) | (simp_all [goodVal] <;> first | omega | (intros; omega)))
theorem l3Val_ok (s : ByteArray) (hs : s.size ≤ maxLen) : ACall Tryd.prog n_spec_l3Val [str s] (fun r _ => r = bl (goodVal s)) := by
  refine fn_in h_spec_l3Val r_spec_l3Val ⟨by simp only [go_sem], fun E hE hH => ?_⟩; simp only [go_sem] at hE hH; simp only [go_sem, hE, hH, c_spec_l3Val]
  repeat' (first | ((with_reducible first | refine gd_t ?_ ?_ | refine gd_f ?_ ?_) <;> (intro h; have hb := h; (try simp only [nf] at h); simp (disch := omega) only [go_sem, hE, hH, hb]; (try clear hb))) | ((with_reducible refine And.intro ?_ ?_); · omega) | ((first | refine ok_view ?_ | refine cvA (l3Bytes_ok _ _ hs (by decide)) ?_); simp (disch := omega) only [go_sem, hE, hH]) | (refine jn _ ?_ ?_) | (with_reducible refine both ?_ ?_) | (with_reducible refine And.intro ?_ ?_) | (refine fin_eq ?_; (try (simp (disch := omega) only [go_sem, hE, hH])); first | done | rfl) | (simp (disch := omega) only [go_sem, hE, hH]) | ((first | apply noMLL_sE | apply pk_sE) <;> (simp only [go_sem, hE, hH]; done)) | (simp only [go_sem, hE, hH]) | fail)
  all_goals (first | (simp_all [goodVal]; done) | (simp_all [goodVal] <;> first | omega | (intros; omega)))
theorem isStored_ok (s : ByteArray) (g : Bool) (hs : s.size ≤ maxLen) : ACall Tryd.prog n_impl_isStored [str s, bl g] (fun r _ => r = bl (stored s g)) := by
  refine fn_in h_impl_isStored r_impl_isStored ⟨by simp only [go_sem], fun E hE hH => ?_⟩; simp only [go_sem] at hE hH; simp only [go_sem, hE, hH, c_impl_isStored]
  repeat' (first | ((with_reducible first | refine gd_t ?_ ?_ | refine gd_f ?_ ?_) <;> (intro h; have hb := h; (try simp only [nf] at h); simp (disch := omega) only [go_sem, hE, hH, hb]; (try clear hb))) | ((with_reducible refine And.intro ?_ ?_); · omega) | ((first | refine ok_view ?_ | refine cvA (GoodVal_ok _ hs) ?_); simp (disch := omega) only [go_sem, hE, hH]) | (refine jn _ ?_ ?_) | (with_reducible refine both ?_ ?_) | (with_reducible refine And.intro ?_ ?_) | (refine fin_eq ?_; (try (simp (disch := omega) only [go_sem, hE, hH])); first | done | rfl) | (simp (disch := omega) only [go_sem, hE, hH]) | ((first | apply noMLL_sE | apply pk_sE) <;> (simp only [go_sem, hE, hH]; done)) | (simp only [go_sem, hE, hH]) | fail)
  all_goals simp_all [stored]
theorem l3Write_ok (k s : ByteArray) (g : Bool) (hk : k.size ≤ maxLen) (hs : s.size ≤ maxLen) : ACall Tryd.prog n_spec_l3Write [str k, str s, bl g] (fun r _ => r = bl (goodKey k && stored s g)) := by
  refine fn_in h_spec_l3Write r_spec_l3Write ⟨by simp only [go_sem], fun E hE hH => ?_⟩; simp only [go_sem] at hE hH; simp only [go_sem, hE, hH, c_spec_l3Write]
  repeat' (first | ((with_reducible first | refine gd_t ?_ ?_ | refine gd_f ?_ ?_) <;> (intro h; have hb := h; (try simp only [nf] at h); simp (disch := omega) only [go_sem, hE, hH, hb]; (try clear hb))) | ((with_reducible refine And.intro ?_ ?_); · omega) | ((first | refine ok_view ?_ | refine cvA (l3Key_ok _ hk) ?_ | refine cvA (l3Val_ok _ hs) ?_); simp (disch := omega) only [go_sem, hE, hH]) | (refine jn _ ?_ ?_) | (with_reducible refine both ?_ ?_) | (with_reducible refine And.intro ?_ ?_) | (refine fin_eq ?_; (try (simp (disch := omega) only [go_sem, hE, hH])); first | done | rfl) | (simp (disch := omega) only [go_sem, hE, hH]) | ((first | apply noMLL_sE | apply pk_sE) <;> (simp only [go_sem, hE, hH]; done)) | (simp only [go_sem, hE, hH]) | fail)
  all_goals simp_all [stored]
def goodWrites (l : List Write) : Bool := decide ((l.length : Int) ≤ 24) && allN (fun i => (goodKey (nth l i).Key && stored (nth l i).Val (nth l i).Gone) && (decide (i = 0) || strLt (nth l (i - 1)).Key (nth l i).Key)) l.length
theorem goodWrites_eq (l : List Write) : goodWrites l = (decide ((l.length : Int) ≤ 24) && risB (l.map (·.Key)) && !l.any fun w => !stored w.Val w.Gone) := by
  have h1 : (!l.any fun w => !stored w.Val w.Gone) = allN (fun i => stored (nth l i).Val (nth l i).Gone) l.length := by
    rw [allN_all (p := fun w : Write => stored w.Val w.Gone)]
    simp [List.any_eq_not_all_not]
  have h2 : risB (l.map (·.Key)) = allN (fun i => goodKey (nth l i).Key && (decide (i = 0) || strLt (nth l (i - 1)).Key (nth l i).Key)) l.length := by
    unfold risB
    rw [List.length_map]
    refine allN_congr fun i hi => ?_
    rw [nth_map hi, nth_map (by omega)]
  rw [h1, h2, goodWrites, Bool.and_assoc]
  congr 1
  rw [Bool.eq_iff_iff, Bool.and_eq_true, allN_iff, allN_iff, allN_iff]
  constructor
  · intro h
    exact ⟨fun i hi => by have := h i hi; simp only [Bool.and_eq_true] at this ⊢; exact ⟨this.1.1, this.2⟩, fun i hi => by have := h i hi; simp only [Bool.and_eq_true] at this ⊢; exact this.1.2⟩
  · rintro ⟨ha, hb⟩ i hi
    have ha := ha i hi; have hb := hb i hi
    simp only [Bool.and_eq_true] at ha hb ⊢
    exact ⟨⟨ha.1, hb⟩, ha.2⟩
theorem writeKeys_ok (l : List Write) (hl : l.length ≤ 2 ^ 20) : ACall Tryd.prog n_impl_writeKeys [.sl false 3 (l.map (Write.row false))] (fun r _ => r = .sl true 1 (strs (l.map (·.Key)))) := by
  refine fn_in h_impl_writeKeys r_impl_writeKeys ⟨by simp only [go_sem], fun E hE hH => ?_⟩; simp only [go_sem] at hE hH; simp only [go_sem, hE, hH, c_impl_writeKeys]
  refine loopNe l.length (fun j (x : List ByteArray) => ⟨[(3, .ref 4000000 0 x.length), (7, .sl false 3 (l.map (Write.row false))), (8, i64 l.length), (9, i64 j)], [(4000000, ⟨1, strs x⟩)]⟩) (fun j x => x = (l.take j).map (·.Key)) [] (by simp) (by simp) ?_
  intro j x hj hx
  have hlen : x.length = j := by rw [hx]; simp; omega
  try simp only [go_sem, hE, hH, c_impl_writeKeys_l1]
  first | refine gd_t (fun h => ?_) (fun h => ?_) | refine gd_f (fun h => ?_) (fun h => ?_)
  · have hb := h
    simp only [nf] at h
    try simp (disch := omega) only [go_sem, hE, hH, hb]
    refine ⟨by omega, by omega, by omega, ?_⟩
    rw [take_nth h, List.map_append, ← hx]
    simp [hlen]; omega
  · have hb := h
    simp only [nf] at h
    try simp (disch := omega) only [go_sem, hE, hH, hb]
    rw [hx, show j = l.length by omega, List.take_length]
theorem GoodWrites_1_ok (w : Write) (hw : w.wf) : ACall Tryd.prog n_impl_GoodWrites_1 [.agg (Write.row false w)] (fun r _ => r = bl (!stored w.Val w.Gone)) := by
  obtain ⟨w1, w2⟩ := hw
  refine fn_in h_impl_GoodWrites_1 r_impl_GoodWrites_1 ⟨by simp only [go_sem], fun E hE hH => ?_⟩; simp only [go_sem] at hE hH; simp only [go_sem, hE, hH, c_impl_GoodWrites_1]
  repeat' (first | ((with_reducible first | refine gd_t ?_ ?_ | refine gd_f ?_ ?_) <;> (intro h; have hb := h; (try simp only [nf] at h); simp (disch := omega) only [go_sem, hE, hH, hb]; (try clear hb))) | ((with_reducible refine And.intro ?_ ?_); · omega) | ((first | refine ok_view ?_ | refine cvA (isStored_ok _ _ w2) ?_); simp (disch := omega) only [go_sem, hE, hH]) | (refine jn _ ?_ ?_) | (with_reducible refine both ?_ ?_) | (with_reducible refine And.intro ?_ ?_) | (refine fin_eq ?_; (try (simp (disch := omega) only [go_sem, hE, hH])); first | done | rfl) | (simp (disch := omega) only [go_sem, hE, hH]) | ((first | apply noMLL_sE | apply pk_sE) <;> (simp only [go_sem, hE, hH]; done)) | (simp only [go_sem, hE, hH]) | fail)
theorem GoodWrites_ok (l : List Write) (hl : wfL Write.wf l) : ACall Tryd.prog n_impl_GoodWrites [.sl false 3 (l.map (Write.row false))] (fun r _ => r = bl (goodWrites l)) := by
  obtain ⟨hl, hx⟩ := hl
  have hmx := mx_eq
  have hr : limL (fun s : ByteArray => s.size ≤ maxLen) (l.map (·.Key)) := ⟨by simpa using hl, fun s hs => by obtain ⟨w, hw, rfl⟩ := List.mem_map.1 hs; exact (hx w hw).1⟩
  rw [goodWrites_eq]
  refine fn_in h_impl_GoodWrites r_impl_GoodWrites ⟨by simp only [go_sem], fun E hE hH => ?_⟩; simp only [go_sem] at hE hH; simp only [go_sem, hE, hH, c_impl_GoodWrites]
  repeat' (first | ((with_reducible first | refine gd_t ?_ ?_ | refine gd_f ?_ ?_) <;> (intro h; have hb := h; (try simp only [nf] at h); simp (disch := omega) only [go_sem, hE, hH, hb]; (try clear hb))) | ((with_reducible refine And.intro ?_ ?_); · omega) | ((first | refine ok_view ?_ | refine cvA (writeKeys_ok l (by omega)) ?_ | refine cvA (areRising_ok _ hr) ?_ | refine cvA (ContainsFunc_Write_ok l _ [] (fun w => !stored w.Val w.Gone) (by kernel_rfl) rfl hl (fun w hw => GoodWrites_1_ok w (hx w hw))) ?_); simp (disch := omega) only [go_sem, hE, hH]) | (refine jn _ ?_ ?_) | (with_reducible refine both ?_ ?_) | (with_reducible refine And.intro ?_ ?_) | (refine fin_eq ?_; (try (simp (disch := omega) only [go_sem, hE, hH])); first | done | rfl) | (simp (disch := omega) only [go_sem, hE, hH]) | ((first | apply noMLL_sE | apply pk_sE) <;> (simp only [go_sem, hE, hH]; done)) | (simp only [go_sem, hE, hH]) | fail)
  all_goals (first | (simp_all []; done) | (simp_all [] <;> first | omega | (intros; omega)))
theorem l3Writes_ok (l : List Write) (hl : wfL Write.wf l) : ACall Tryd.prog n_spec_l3Writes [.sl false 3 (l.map (Write.row false))] (fun r _ => r = bl (goodWrites l)) := by
  obtain ⟨hl, hx⟩ := hl
  have hmx := mx_eq
  refine fn_in h_spec_l3Writes r_spec_l3Writes ⟨by simp only [go_sem], fun E hE hH => ?_⟩; simp only [go_sem] at hE hH; simp only [go_sem, hE, hH, c_spec_l3Writes]
  refine loopN l.length (fun j (_ : Unit) => ⟨[(0, .sl false 3 (l.map (Write.row false))), (5, .sl false 3 (l.map (Write.row false))), (6, i64 l.length), (7, i64 j)], []⟩) (fun j _ => allN (fun i => (goodKey (nth l i).Key && stored (nth l i).Val (nth l i).Gone) && (decide (i = 0) || strLt (nth l (i - 1)).Key (nth l i).Key)) j = true) () rfl ?_
  intro j _ hj hI
  try simp only [go_sem, hE, hH, c_spec_l3Writes_l1]
  first | refine gd_t (fun h => ?_) (fun h => ?_) | refine gd_f (fun h => ?_) (fun h => ?_)
  · have hb := h
    simp only [nf] at h
    have hlt := h; clear h
    obtain ⟨w1, w2⟩ := hx _ (nth_mem hlt)
    try simp (disch := omega) only [go_sem, hE, hH, hb]
    repeat' (first | ((with_reducible first | refine gd_t ?_ ?_ | refine gd_f ?_ ?_) <;> (intro h; have hb := h; (try simp only [nf] at h); simp (disch := omega) only [go_sem, hE, hH, hb]; (try clear hb))) | ((with_reducible refine And.intro ?_ ?_); · omega) | ((first | refine ok_view ?_ | refine cvA (l3Write_ok _ _ _ w1 w2) ?_); simp (disch := omega) only [go_sem, hE, hH]) | (refine jn _ ?_ ?_) | (with_reducible refine both ?_ ?_) | (with_reducible refine And.intro ?_ ?_) | (refine fin_eq ?_; (try (simp (disch := omega) only [go_sem, hE, hH])); first | done | rfl) | (simp (disch := omega) only [go_sem, hE, hH]) | ((first | apply noMLL_sE | apply pk_sE) <;> (simp only [go_sem, hE, hH]; done)) | (simp only [go_sem, hE, hH]) | fail)
    · rw [goodWrites, allN_no hlt (by simp_all)]; simp
    · rw [goodWrites, allN_no hlt (by simp_all <;> omega)]; simp
    · first | exact ⟨(), rfl, allN_step hI (by simp_all <;> omega)⟩ | exact ⟨by omega, (), rfl, allN_step hI (by simp_all <;> omega)⟩ | exact ⟨by omega, by omega, (), rfl, allN_step hI (by simp_all <;> omega)⟩
    · first | exact ⟨(), rfl, allN_step hI (by simp_all <;> omega)⟩ | exact ⟨by omega, (), rfl, allN_step hI (by simp_all <;> omega)⟩ | exact ⟨by omega, by omega, (), rfl, allN_step hI (by simp_all <;> omega)⟩
  · try simp (disch := omega) only [go_sem, hE, hH, h]
    simp only [nf] at h
    rw [show j = l.length by omega] at hI
    rw [goodWrites, hI]
    simp
def goodGots (l : List Got) : Bool := allN (fun i => (goodKey (nth l i).Key && stored (nth l i).Val (!(nth l i).There)) && !(l.take i).any fun h => decide (h.Key = (nth l i).Key)) l.length && decide ((l.length : Int) ≤ 8)
theorem areGot_1_ok (h g : Got) : ACall Tryd.prog n_impl_areGot_1 ([.agg (Got.row false h)] ++ [.bx false (Got.row false g)]) (fun r _ => r = bl (decide (h.Key = g.Key))) := by
  refine fn_in h_impl_areGot_1 r_impl_areGot_1 ⟨by simp only [go_sem], fun E hE hH => ?_⟩; simp only [go_sem] at hE hH; simp only [go_sem, hE, hH, c_impl_areGot_1]
  try simp (disch := omega) only [go_sem, hE, hH]
theorem areGot_ok (l : List Got) (hl : wfL Got.wf l) : ACall Tryd.prog n_impl_areGot [.sl false 3 (l.map (Got.row false))] (fun r _ => r = bl (goodGots l)) := by
  obtain ⟨hl, hx⟩ := hl
  have hmx := mx_eq
  refine fn_in h_impl_areGot r_impl_areGot ⟨by simp only [go_sem], fun E hE hH => ?_⟩; simp only [go_sem] at hE hH; simp only [go_sem, hE, hH, c_impl_areGot]
  refine loopN l.length (fun j (_ : Unit) => ⟨[(0, .sl false 3 (l.map (Got.row false))), (5, .sl false 3 (l.map (Got.row false))), (6, i64 l.length), (7, i64 j)], []⟩) (fun j _ => allN (fun i => (goodKey (nth l i).Key && stored (nth l i).Val (!(nth l i).There)) && !(l.take i).any fun h => decide (h.Key = (nth l i).Key)) j = true) () rfl ?_
  intro j _ hj hI
  try simp only [go_sem, hE, hH, c_impl_areGot_l1]
  first | refine gd_t (fun h => ?_) (fun h => ?_) | refine gd_f (fun h => ?_) (fun h => ?_)
  · have hb := h
    simp only [nf] at h
    have hlt := h; clear h
    obtain ⟨w1, w2⟩ := hx _ (nth_mem hlt)
    have ht : ((l.map (Got.row false)).take j) = (l.take j).map (Got.row false) := by rw [List.map_take]
    try simp (disch := omega) only [go_sem, hE, hH, hb, ht]
    repeat' (first | ((with_reducible first | refine gd_t ?_ ?_ | refine gd_f ?_ ?_) <;> (intro h; have hb := h; (try simp only [nf] at h); simp (disch := omega) only [go_sem, hE, hH, hb]; (try clear hb))) | ((with_reducible refine And.intro ?_ ?_); · omega) | ((first | refine ok_view ?_ | refine cvA (GoodKey_ok _ w1) ?_ | refine cvA (isStored_ok _ _ w2) ?_ | refine cvA (ContainsFunc_Got_ok (l.take j) _ [.bx false (Got.row false (nth l j))] (fun h => decide (h.Key = (nth l j).Key)) (by kernel_rfl) rfl (by rw [List.length_take]; omega) (fun h _ => areGot_1_ok h _)) ?_); simp (disch := omega) only [go_sem, hE, hH]) | (refine jn _ ?_ ?_) | (with_reducible refine both ?_ ?_) | (with_reducible refine And.intro ?_ ?_) | (refine fin_eq ?_; (try (simp (disch := omega) only [go_sem, hE, hH])); first | done | rfl) | (simp (disch := omega) only [go_sem, hE, hH]) | ((first | apply noMLL_sE | apply pk_sE) <;> (simp only [go_sem, hE, hH]; done)) | (simp only [go_sem, hE, hH]) | fail)
    · rw [goodGots, allN_no hlt (by simp_all)]; simp
    · rw [goodGots, allN_no hlt (by simp_all)]; simp
    · rw [goodGots, allN_no hlt (by simp_all)]; simp
    · first | exact ⟨(), rfl, allN_step hI (by simp_all)⟩ | exact ⟨by omega, (), rfl, allN_step hI (by simp_all)⟩ | exact ⟨by omega, by omega, (), rfl, allN_step hI (by simp_all)⟩
  · try simp (disch := omega) only [go_sem, hE, hH, h]
    simp only [nf] at h
    rw [show j = l.length by omega] at hI
    rw [goodGots, hI]
    simp
theorem l5Gots_ok (l : List Got) (hl : wfL Got.wf l) : ACall Tryd.prog n_spec_l5Gots [.sl false 3 (l.map (Got.row false))] (fun r _ => r = bl (goodGots l)) := by
  obtain ⟨hl, hx⟩ := hl
  have hmx := mx_eq
  refine fn_in h_spec_l5Gots r_spec_l5Gots ⟨by simp only [go_sem], fun E hE hH => ?_⟩; simp only [go_sem] at hE hH; simp only [go_sem, hE, hH, c_spec_l5Gots]
  refine loopN l.length (fun j (_ : Unit) => ⟨[(0, .sl false 3 (l.map (Got.row false))), (7, .sl false 3 (l.map (Got.row false))), (8, i64 l.length), (9, i64 j)], []⟩) (fun j _ => allN (fun i => (goodKey (nth l i).Key && stored (nth l i).Val (!(nth l i).There)) && !(l.take i).any fun h => decide (h.Key = (nth l i).Key)) j = true) () rfl ?_
  intro j _ hj hI
  try simp only [go_sem, hE, hH, c_spec_l5Gots_l2]
  first | refine gd_t (fun h => ?_) (fun h => ?_) | refine gd_f (fun h => ?_) (fun h => ?_)
  · have hb := h
    simp only [nf] at h
    have hlt := h; clear h
    obtain ⟨w1, w2⟩ := hx _ (nth_mem hlt)
    try simp (disch := omega) only [go_sem, hE, hH, hb]
    repeat' (first | ((with_reducible first | refine gd_t ?_ ?_ | refine gd_f ?_ ?_) <;> (intro h; have hb := h; (try simp only [nf] at h); simp (disch := omega) only [go_sem, hE, hH, hb]; (try clear hb))) | ((with_reducible refine And.intro ?_ ?_); · omega) | ((first | refine ok_view ?_ | refine cvA (l3Key_ok _ w1) ?_ | refine cvA (l3Val_ok _ w2) ?_); simp (disch := omega) only [go_sem, hE, hH]) | (refine jn _ ?_ ?_) | (with_reducible refine both ?_ ?_) | (with_reducible refine And.intro ?_ ?_) | (refine fin_eq ?_; (try (simp (disch := omega) only [go_sem, hE, hH])); first | done | rfl) | (simp (disch := omega) only [go_sem, hE, hH]) | ((first | apply noMLL_sE | apply pk_sE) <;> (simp only [go_sem, hE, hH]; done)) | (simp only [go_sem, hE, hH]) | fail)
    · rw [goodGots, allN_no hlt (by simp_all)]; simp
    · rw [goodGots, allN_no hlt (by simp_all [stored])]; simp
    · rw [goodGots, allN_no hlt (by simp_all [stored])]; simp
    · have hlj : (l.take j).length = j := by rw [List.length_take]; omega
      refine loopN (l.take j).length (fun k (_ : Unit) => ⟨[(0, .sl false 3 (l.map (Got.row false))), (4, .ptr 5000000 0 0), (7, .sl false 3 (l.map (Got.row false))), (8, i64 l.length), (9, i64 j), (36, .sl false 3 ((l.take j).map (Got.row false))), (37, i64 (l.take j).length), (38, i64 k)], [(5000000, ⟨3, [Got.row false (nth l j)]⟩)]⟩) (fun k _ => allN (fun i => !decide ((nth (l.take j) i).Key = (nth l j).Key)) k = true) () rfl ?_
      intro k _ hk hK
      try simp only [go_sem, hE, hH, c_spec_l5Gots_l1]
      first | refine gd_t (fun h2 => ?_) (fun h2 => ?_) | refine gd_f (fun h2 => ?_) (fun h2 => ?_)
      · have hb2 := h2
        simp only [nf] at h2
        have hlt2 : k < (l.take j).length := by omega
        try simp (disch := omega) only [go_sem, hE, hH, hb2]
        repeat' (first | ((with_reducible first | refine gd_t ?_ ?_ | refine gd_f ?_ ?_) <;> (intro h; have hb := h; (try simp only [nf] at h); simp (disch := omega) only [go_sem, hE, hH, hb]; (try clear hb))) | ((with_reducible refine And.intro ?_ ?_); · omega) | (refine jn _ ?_ ?_) | (with_reducible refine both ?_ ?_) | (with_reducible refine And.intro ?_ ?_) | (refine fin_eq ?_; (try (simp (disch := omega) only [go_sem, hE, hH])); first | done | rfl) | (simp (disch := omega) only [go_sem, hE, hH]) | ((first | apply noMLL_sE | apply pk_sE) <;> (simp only [go_sem, hE, hH]; done)) | (simp only [go_sem, hE, hH]) | fail)
        · rw [goodGots, allN_no hlt (by
            have : ((l.take j).any fun h => decide (h.Key = (nth l j).Key)) = true := List.any_eq_true.2 ⟨_, nth_mem hlt2, by simp_all⟩
            simp_all)]
          simp
        · first | exact ⟨(), rfl, allN_step hK (by show (!decide _) = true; rw [Bool.not_eq_true', decide_eq_false_iff_not]; exact fun e => h e.symm)⟩ | exact ⟨by omega, (), rfl, allN_step hK (by show (!decide _) = true; rw [Bool.not_eq_true', decide_eq_false_iff_not]; exact fun e => h e.symm)⟩ | exact ⟨by omega, by omega, (), rfl, allN_step hK (by show (!decide _) = true; rw [Bool.not_eq_true', decide_eq_false_iff_not]; exact fun e => h e.symm)⟩
      · try simp (disch := omega) only [go_sem, hE, hH, h2]
        simp only [nf] at h2
        rw [show k = (l.take j).length by omega] at hK
        have hN : ((l.take j).any fun h => decide (h.Key = (nth l j).Key)) = false := by
          rw [allN_all (p := fun h : Got => !decide (h.Key = (nth l j).Key))] at hK
          rw [List.any_eq_false]
          intro x hx'
          have := List.all_eq_true.1 hK x hx'
          simpa using this
        first | exact ⟨(), rfl, allN_step hI (by simp_all [stored])⟩ | exact ⟨by omega, (), rfl, allN_step hI (by simp_all [stored])⟩ | exact ⟨by omega, by omega, (), rfl, allN_step hI (by simp_all [stored])⟩
    · have hlj : (l.take j).length = j := by rw [List.length_take]; omega
      refine loopN (l.take j).length (fun k (_ : Unit) => ⟨[(0, .sl false 3 (l.map (Got.row false))), (4, .ptr 5000000 0 0), (7, .sl false 3 (l.map (Got.row false))), (8, i64 l.length), (9, i64 j), (36, .sl false 3 ((l.take j).map (Got.row false))), (37, i64 (l.take j).length), (38, i64 k)], [(5000000, ⟨3, [Got.row false (nth l j)]⟩)]⟩) (fun k _ => allN (fun i => !decide ((nth (l.take j) i).Key = (nth l j).Key)) k = true) () rfl ?_
      intro k _ hk hK
      try simp only [go_sem, hE, hH, c_spec_l5Gots_l1]
      first | refine gd_t (fun h2 => ?_) (fun h2 => ?_) | refine gd_f (fun h2 => ?_) (fun h2 => ?_)
      · have hb2 := h2
        simp only [nf] at h2
        have hlt2 : k < (l.take j).length := by omega
        try simp (disch := omega) only [go_sem, hE, hH, hb2]
        repeat' (first | ((with_reducible first | refine gd_t ?_ ?_ | refine gd_f ?_ ?_) <;> (intro h; have hb := h; (try simp only [nf] at h); simp (disch := omega) only [go_sem, hE, hH, hb]; (try clear hb))) | ((with_reducible refine And.intro ?_ ?_); · omega) | (refine jn _ ?_ ?_) | (with_reducible refine both ?_ ?_) | (with_reducible refine And.intro ?_ ?_) | (refine fin_eq ?_; (try (simp (disch := omega) only [go_sem, hE, hH])); first | done | rfl) | (simp (disch := omega) only [go_sem, hE, hH]) | ((first | apply noMLL_sE | apply pk_sE) <;> (simp only [go_sem, hE, hH]; done)) | (simp only [go_sem, hE, hH]) | fail)
        · rw [goodGots, allN_no hlt (by
            have : ((l.take j).any fun h => decide (h.Key = (nth l j).Key)) = true := List.any_eq_true.2 ⟨_, nth_mem hlt2, by simp_all⟩
            simp_all)]
          simp
        · first | exact ⟨(), rfl, allN_step hK (by show (!decide _) = true; rw [Bool.not_eq_true', decide_eq_false_iff_not]; exact fun e => h e.symm)⟩ | exact ⟨by omega, (), rfl, allN_step hK (by show (!decide _) = true; rw [Bool.not_eq_true', decide_eq_false_iff_not]; exact fun e => h e.symm)⟩ | exact ⟨by omega, by omega, (), rfl, allN_step hK (by show (!decide _) = true; rw [Bool.not_eq_true', decide_eq_false_iff_not]; exact fun e => h e.symm)⟩
      · try simp (disch := omega) only [go_sem, hE, hH, h2]
        simp only [nf] at h2
        rw [show k = (l.take j).length by omega] at hK
        have hN : ((l.take j).any fun h => decide (h.Key = (nth l j).Key)) = false := by
          rw [allN_all (p := fun h : Got => !decide (h.Key = (nth l j).Key))] at hK
          rw [List.any_eq_false]
          intro x hx'
          have := List.all_eq_true.1 hK x hx'
          simpa using this
        first | exact ⟨(), rfl, allN_step hI (by simp_all [stored])⟩ | exact ⟨by omega, (), rfl, allN_step hI (by simp_all [stored])⟩ | exact ⟨by omega, by omega, (), rfl, allN_step hI (by simp_all [stored])⟩
  · try simp (disch := omega) only [go_sem, hE, hH, h]
    simp only [nf] at h
    rw [show j = l.length by omega] at hI
    rw [goodGots, hI]
    simp
def goodDeed (d : Deed) : Bool :=
  (!(d.Look && (!d.Yes || decide (0 < (d.Writes.length : Int))))) && (rng d.Txn 1 60 && rng d.Begin 0 1000000 && (decide (d.End = -1) || (decide (d.Begin < d.End) && decide (d.End ≤ 1000000))) && rng d.Time 0 100000 && goodGots d.Got && goodWrites d.Writes)
theorem isTxn_ok (n : Int) : ACall Tryd.prog n_impl_isTxn [i64 n] (fun r _ => r = bl (rng n 1 60)) := by
  refine fn_in h_impl_isTxn r_impl_isTxn ⟨by simp only [go_sem], fun E hE hH => ?_⟩; simp only [go_sem] at hE hH; simp only [go_sem, hE, hH, c_impl_isTxn]
  repeat' (first | ((with_reducible first | refine gd_t ?_ ?_ | refine gd_f ?_ ?_) <;> (intro h; have hb := h; (try simp only [nf] at h); simp (disch := omega) only [go_sem, hE, hH, hb]; (try clear hb))) | ((with_reducible refine And.intro ?_ ?_); · omega) | ((first | refine ok_view ?_ | refine cvA (within_ok _ _ _) ?_); simp (disch := omega) only [go_sem, hE, hH]) | (refine jn _ ?_ ?_) | (with_reducible refine both ?_ ?_) | (with_reducible refine And.intro ?_ ?_) | (refine fin_eq ?_; (try (simp (disch := omega) only [go_sem, hE, hH])); first | done | rfl) | (simp (disch := omega) only [go_sem, hE, hH]) | ((first | apply noMLL_sE | apply pk_sE) <;> (simp only [go_sem, hE, hH]; done)) | (simp only [go_sem, hE, hH]) | fail)
theorem isTrue_ok (n : Int) : ACall Tryd.prog n_impl_isTrue [i64 n] (fun r _ => r = bl (rng n 0 100000)) := by
  refine fn_in h_impl_isTrue r_impl_isTrue ⟨by simp only [go_sem], fun E hE hH => ?_⟩; simp only [go_sem] at hE hH; simp only [go_sem, hE, hH, c_impl_isTrue]
  repeat' (first | ((with_reducible first | refine gd_t ?_ ?_ | refine gd_f ?_ ?_) <;> (intro h; have hb := h; (try simp only [nf] at h); simp (disch := omega) only [go_sem, hE, hH, hb]; (try clear hb))) | ((with_reducible refine And.intro ?_ ?_); · omega) | ((first | refine ok_view ?_ | refine cvA (within_ok _ _ _) ?_); simp (disch := omega) only [go_sem, hE, hH]) | (refine jn _ ?_ ?_) | (with_reducible refine both ?_ ?_) | (with_reducible refine And.intro ?_ ?_) | (refine fin_eq ?_; (try (simp (disch := omega) only [go_sem, hE, hH])); first | done | rfl) | (simp (disch := omega) only [go_sem, hE, hH]) | ((first | apply noMLL_sE | apply pk_sE) <;> (simp only [go_sem, hE, hH]; done)) | (simp only [go_sem, hE, hH]) | fail)
theorem l2True_ok (n : Int) : ACall Tryd.prog n_spec_l2True [i64 n] (fun r _ => r = bl (rng n 0 100000)) := by
  refine fn_in h_spec_l2True r_spec_l2True ⟨by simp only [go_sem], fun E hE hH => ?_⟩; simp only [go_sem] at hE hH; simp only [go_sem, hE, hH, c_spec_l2True]
  repeat' (first | ((with_reducible first | refine gd_t ?_ ?_ | refine gd_f ?_ ?_) <;> (intro h; have hb := h; (try simp only [nf] at h); simp (disch := omega) only [go_sem, hE, hH, hb]; (try clear hb))) | ((with_reducible refine And.intro ?_ ?_); · omega) | ((first | refine ok_view ?_ | refine cvA (l1In_ok _ _ _) ?_); simp (disch := omega) only [go_sem, hE, hH]) | (refine jn _ ?_ ?_) | (with_reducible refine both ?_ ?_) | (with_reducible refine And.intro ?_ ?_) | (refine fin_eq ?_; (try (simp (disch := omega) only [go_sem, hE, hH])); first | done | rfl) | (simp (disch := omega) only [go_sem, hE, hH]) | ((first | apply noMLL_sE | apply pk_sE) <;> (simp only [go_sem, hE, hH]; done)) | (simp only [go_sem, hE, hH]) | fail)
theorem isDeed_ok (d : Deed) (hd : d.wf) : ACall Tryd.prog n_impl_isDeed [.agg (Deed.row false d)] (fun r _ => r = bl (goodDeed d)) := by
  obtain ⟨w1, w2, w3, w4, w5, w6⟩ := hd
  refine fn_in h_impl_isDeed r_impl_isDeed ⟨by simp only [go_sem], fun E hE hH => ?_⟩; simp only [go_sem] at hE hH; simp only [go_sem, hE, hH, c_impl_isDeed]
  repeat' (first | ((with_reducible first | refine gd_t ?_ ?_ | refine gd_f ?_ ?_) <;> (intro h; have hb := h; (try simp only [nf, rng_iff, rng_no] at h); simp (disch := omega) only [go_sem, hE, hH, hb]; (try clear hb))) | ((with_reducible refine And.intro ?_ ?_); · omega) | ((first | refine ok_view ?_ | refine cvA (isTxn_ok _) ?_ | refine cvA (within_ok _ _ _) ?_ | refine cvA (isTrue_ok _) ?_ | refine cvA (areGot_ok _ w5) ?_ | refine cvA (GoodWrites_ok _ w6) ?_); simp (disch := omega) only [go_sem, hE, hH]) | (refine jn _ ?_ ?_) | (with_reducible refine both ?_ ?_) | (with_reducible refine And.intro ?_ ?_) | (refine fin_eq ?_; (try (simp (disch := omega) only [go_sem, hE, hH])); first | done | rfl) | (simp (disch := omega) only [go_sem, hE, hH]) | ((first | apply noMLL_sE | apply pk_sE) <;> (simp only [go_sem, hE, hH]; done)) | (simp only [go_sem, hE, hH]) | fail)
  all_goals (first | (simp_all [goodDeed, rng]; done) | (simp_all [goodDeed, rng] <;> first | omega | (intros; omega)))
theorem l18Deed_ok (d : Deed) (hd : d.wf) : ACall Tryd.prog n_spec_l18Deed [.agg (Deed.row false d)] (fun r _ => r = bl (goodDeed d)) := by
  obtain ⟨w1, w2, w3, w4, w5, w6⟩ := hd
  refine fn_in h_spec_l18Deed r_spec_l18Deed ⟨by simp only [go_sem], fun E hE hH => ?_⟩; simp only [go_sem] at hE hH; simp only [go_sem, hE, hH, c_spec_l18Deed]
  repeat' (first | ((with_reducible first | refine gd_t ?_ ?_ | refine gd_f ?_ ?_) <;> (intro h; have hb := h; (try simp only [nf] at h); simp (disch := omega) only [go_sem, hE, hH, hb]; (try clear hb))) | ((with_reducible refine And.intro ?_ ?_); · omega) | ((first | refine ok_view ?_ | refine cvA (l1In_ok _ _ _) ?_ | refine cvA (l2True_ok _) ?_ | refine cvA (l5Gots_ok _ w5) ?_ | refine cvA (l3Writes_ok _ w6) ?_); simp (disch := omega) only [go_sem, hE, hH]) | (refine jn _ ?_ ?_) | (with_reducible refine both ?_ ?_) | (with_reducible refine And.intro ?_ ?_) | (refine fin_eq ?_; (try (simp (disch := omega) only [go_sem, hE, hH])); first | done | rfl) | (simp (disch := omega) only [go_sem, hE, hH]) | ((first | apply noMLL_sE | apply pk_sE) <;> (simp only [go_sem, hE, hH]; done)) | (simp only [go_sem, hE, hH]) | fail)
  all_goals (first | (simp_all [goodDeed, rng]; done) | (simp_all [goodDeed, rng] <;> first | omega | (intros; omega)))
theorem goodDeed_end {d : Deed} (h : goodDeed d = true) : 0 ≤ d.Begin ∧ d.Begin ≤ 1000000 ∧ (d.End = -1 ∨ d.Begin < d.End) ∧ d.End ≤ 1000000 ∧ -1 ≤ d.End := by
  simp [goodDeed, rng] at h
  omega
theorem goodDeed_lists {d : Deed} (h : goodDeed d = true) : d.Got.length ≤ 8 ∧ d.Writes.length ≤ 24 ∧ goodWrites d.Writes = true := by
  simp [goodDeed] at h
  obtain ⟨_, h⟩ := h
  have h1 := h.1.2
  have h2 := h.2
  have h3 := h2
  simp only [goodGots, goodWrites, Bool.and_eq_true, decide_eq_true_eq] at h1 h2
  exact ⟨by omega, by omega, h3⟩
def goodHist (l : List Deed) : Bool := allN (fun i => goodDeed (nth l i)) l.length && decide ((l.length : Int) ≤ 10)
theorem any_not_all {α : Type} {p : α → Bool} {l : List α} : (!l.any fun x => !p x) = l.all p := by
  simp [List.any_eq_not_all_not]
theorem goodHist_eq (l : List Deed) : goodHist l = (decide ((l.length : Int) ≤ 10) && !l.any fun d => !goodDeed d) := by
  rw [any_not_all, ← allN_all (p := goodDeed), goodHist, Bool.and_comm]
theorem GoodHistory_1_ok (d : Deed) (hd : d.wf) : ACall Tryd.prog n_impl_GoodHistory_1 [.agg (Deed.row false d)] (fun r _ => r = bl (!goodDeed d)) := by
  refine fn_in h_impl_GoodHistory_1 r_impl_GoodHistory_1 ⟨by simp only [go_sem], fun E hE hH => ?_⟩; simp only [go_sem] at hE hH; simp only [go_sem, hE, hH, c_impl_GoodHistory_1]
  repeat' (first | ((with_reducible first | refine gd_t ?_ ?_ | refine gd_f ?_ ?_) <;> (intro h; have hb := h; (try simp only [nf] at h); simp (disch := omega) only [go_sem, hE, hH, hb]; (try clear hb))) | ((with_reducible refine And.intro ?_ ?_); · omega) | ((first | refine ok_view ?_ | refine cvA (isDeed_ok _ hd) ?_); simp (disch := omega) only [go_sem, hE, hH]) | (refine jn _ ?_ ?_) | (with_reducible refine both ?_ ?_) | (with_reducible refine And.intro ?_ ?_) | (refine fin_eq ?_; (try (simp (disch := omega) only [go_sem, hE, hH])); first | done | rfl) | (simp (disch := omega) only [go_sem, hE, hH]) | ((first | apply noMLL_sE | apply pk_sE) <;> (simp only [go_sem, hE, hH]; done)) | (simp only [go_sem, hE, hH]) | fail)
theorem GoodHistory_ok (l : List Deed) (hl : wfL Deed.wf l) : ACall Tryd.prog n_impl_GoodHistory [.sl false 8 (l.map (Deed.row false))] (fun r _ => r = bl (goodHist l)) := by
  obtain ⟨hl, hx⟩ := hl
  have hmx := mx_eq
  rw [goodHist_eq]
  refine fn_in h_impl_GoodHistory r_impl_GoodHistory ⟨by simp only [go_sem], fun E hE hH => ?_⟩; simp only [go_sem] at hE hH; simp only [go_sem, hE, hH, c_impl_GoodHistory]
  repeat' (first | ((with_reducible first | refine gd_t ?_ ?_ | refine gd_f ?_ ?_) <;> (intro h; have hb := h; (try simp only [nf] at h); simp (disch := omega) only [go_sem, hE, hH, hb]; (try clear hb))) | ((with_reducible refine And.intro ?_ ?_); · omega) | ((first | refine ok_view ?_ | refine cvA (ContainsFunc_Deed_ok l _ [] (fun d => !goodDeed d) (by kernel_rfl) rfl hl (fun d hd => GoodHistory_1_ok d (hx d hd))) ?_); simp (disch := omega) only [go_sem, hE, hH]) | (refine jn _ ?_ ?_) | (with_reducible refine both ?_ ?_) | (with_reducible refine And.intro ?_ ?_) | (refine fin_eq ?_; (try (simp (disch := omega) only [go_sem, hE, hH])); first | done | rfl) | (simp (disch := omega) only [go_sem, hE, hH]) | ((first | apply noMLL_sE | apply pk_sE) <;> (simp only [go_sem, hE, hH]; done)) | (simp only [go_sem, hE, hH]) | fail)
  all_goals (first | (simp_all []; done) | (simp_all [] <;> first | omega | (intros; omega)))
theorem l18Good_ok (l : List Deed) (hl : wfL Deed.wf l) : ACall Tryd.prog n_spec_l18Good [.sl false 8 (l.map (Deed.row false))] (fun r _ => r = bl (goodHist l)) := by
  obtain ⟨hl, hx⟩ := hl
  have hmx := mx_eq
  refine fn_in h_spec_l18Good r_spec_l18Good ⟨by simp only [go_sem], fun E hE hH => ?_⟩; simp only [go_sem] at hE hH; simp only [go_sem, hE, hH, c_spec_l18Good]
  refine loopN l.length (fun j (_ : Unit) => ⟨[(0, .sl false 8 (l.map (Deed.row false))), (5, .sl false 8 (l.map (Deed.row false))), (6, i64 l.length), (7, i64 j)], []⟩) (fun j _ => allN (fun i => goodDeed (nth l i)) j = true) () rfl ?_
  intro j _ hj hI
  try simp only [go_sem, hE, hH, c_spec_l18Good_l1]
  first | refine gd_t (fun h1 => ?_) (fun h1 => ?_) | refine gd_f (fun h1 => ?_) (fun h1 => ?_)
  · have hb := h1
    simp only [nf] at h1
    have hlt := h1; clear h1
    have hd := hx _ (nth_mem hlt)
    try simp (disch := omega) only [go_sem, hE, hH, hb]
    repeat' (first | ((with_reducible first | refine gd_t ?_ ?_ | refine gd_f ?_ ?_) <;> (intro h; have hb := h; (try simp only [nf] at h); simp (disch := omega) only [go_sem, hE, hH, hb]; (try clear hb))) | ((with_reducible refine And.intro ?_ ?_); · omega) | ((first | refine ok_view ?_ | refine cvA (l18Deed_ok _ hd) ?_); simp (disch := omega) only [go_sem, hE, hH]) | (refine jn _ ?_ ?_) | (with_reducible refine both ?_ ?_) | (with_reducible refine And.intro ?_ ?_) | (refine fin_eq ?_; (try (simp (disch := omega) only [go_sem, hE, hH])); first | done | rfl) | (simp (disch := omega) only [go_sem, hE, hH]) | ((first | apply noMLL_sE | apply pk_sE) <;> (simp only [go_sem, hE, hH]; done)) | (simp only [go_sem, hE, hH]) | fail)
    · rw [goodHist, allN_no hlt h]; simp
    · first | exact ⟨(), rfl, allN_step hI h⟩ | exact ⟨by omega, (), rfl, allN_step hI h⟩ | exact ⟨by omega, by omega, (), rfl, allN_step hI h⟩
  · try simp (disch := omega) only [go_sem, hE, hH, h1]
    simp only [nf] at h1
    rw [show j = l.length by omega] at hI
    rw [goodHist, hI]
    simp
theorem goodHist_mem {l : List Deed} (hg : goodHist l = true) {i : Nat} (hi : i < l.length) : goodDeed (nth l i) = true := by
  simp only [goodHist, Bool.and_eq_true] at hg
  exact allN_iff.1 hg.1 i hi
theorem goodHist_len {l : List Deed} (hg : goodHist l = true) : l.length ≤ 10 := by
  simp [goodHist] at hg
  omega
abbrev sD (l : List UInt8) : T := .v (.string ⟨⟨l⟩⟩)
def numF : Nat → Nat → List UInt8
  | 0, _ => []
  | k + 1, u => if u < 10 then [UInt8.ofNat (48 + u)] else numF k (u / 10) ++ [UInt8.ofNat (48 + u % 10)]
def dgt (u : Nat) : List UInt8 := numF 20 u
theorem numF_eq : ∀ (k m u : Nat), u < 10 ^ k → k ≤ m → 1 ≤ k → numF m u = numF k u
  | 0, _, _, _, _, h => absurd h (by omega)
  | k + 1, m, u, hu, hm, _ => by
    obtain ⟨m, rfl⟩ : ∃ n, m = n + 1 := ⟨m - 1, by omega⟩
    simp only [numF]
    by_cases h : u < 10
    · rw [if_pos h, if_pos h]
    · rw [if_neg h, if_neg h, numF_eq k m (u / 10) (by rw [Nat.pow_succ] at hu; omega) (by omega) (by
        rcases Nat.eq_zero_or_pos k with rfl | h1
        · simp at hu; omega
        · exact h1)]
theorem numF_len : ∀ (k u : Nat), 1 ≤ k → 1 ≤ (numF k u).length ∧ (numF k u).length ≤ k
  | 0, _, h => absurd h (by omega)
  | k + 1, u, _ => by
    simp only [numF]
    split
    · simp
    · rcases Nat.eq_zero_or_pos k with rfl | h1
      · simp [numF]
      · have := numF_len k (u / 10) h1
        simp; omega
@[go_sem] theorem ba_app2 (a b : List UInt8) : (⟨⟨a⟩⟩ : ByteArray) ++ ⟨⟨b⟩⟩ = ⟨⟨a ++ b⟩⟩ := by
  apply ByteArray.ext
  rw [ByteArray.data_append]
  simp
@[go_sem] theorem ba_size2 (a : List UInt8) : (⟨⟨a⟩⟩ : ByteArray).size = a.length := rfl
theorem u8_wrap {u : Nat} (h : u < 256) : IntKind.u8.wrap (u : Int) = u := by
  simp [IntKind.wrap, IntKind.bits, IntKind.signed]; omega
@[go_sem] theorem isByteRow_u82 (n : Int) : isByteRow [.v (.int .u8 n)] = true := rfl
theorem byteOf_u82 (n : Int) : Am.byteOf [.v (.int .u8 n)] = UInt8.ofNat n.toNat := rfl
theorem dig_row {u : Nat} (h : u < 10) : bytesOf [[.v (.int .u8 (IntKind.u8.wrap (48 + (u : Int))))]] = ⟨⟨[UInt8.ofNat (48 + u)]⟩⟩ := by
  have e : (48 : Int) + u = ((48 + u : Nat) : Int) := by omega
  rw [e, u8_wrap (by omega)]
  simp only [bytesOf, List.map_cons, List.map_nil, byteOf_u82]
  rfl
theorem l1Num_okF : ∀ (k u : Nat), u < 10 ^ k → 1 ≤ k → k ≤ 18 → ACall Tryd.prog n_spec_l1Num [i64 u] (fun r _ => r = sD (numF k u))
  | 0, _, _, h, _ => absurd h (by omega)
  | k + 1, u, hu, _, hk => by
    have hmx := mx_eq
    have hp : 10 ^ (k + 1) ≤ 10 ^ 18 := Nat.pow_le_pow_right (by omega) hk
    by_cases h : u < 10
    · have e := dig_row h
      have e2 : numF (k + 1) u = [UInt8.ofNat (48 + u)] := by simp only [numF]; rw [if_pos h]
      refine fn_in h_spec_l1Num r_spec_l1Num ⟨by simp only [go_sem], fun E hE hH => ?_⟩; simp only [go_sem] at hE hH; simp only [go_sem, hE, hH, c_spec_l1Num]
      repeat' (first | ((with_reducible first | refine gd_t ?_ ?_ | refine gd_f ?_ ?_) <;> (intro h; have hb := h; (try simp only [nf] at h); simp (disch := omega) only [go_sem, hE, hH, e, e2, hb]; (try clear hb))) | ((with_reducible refine And.intro ?_ ?_); · omega) | (with_reducible apply jn) | (with_reducible apply both) | (with_reducible refine And.intro ?_ ?_) | ((with_reducible apply fin_eq); (try (simp (disch := omega) only [go_sem, hE, hH, e, e2])); first | done | rfl) | (simp (disch := omega) only [go_sem, hE, hH, e, e2]) | ((first | apply noMLL_sE | apply pk_sE) <;> (simp only [go_sem, hE, hH, e, e2]; done)) | (simp only [go_sem, hE, hH, e, e2]) | fail)
      all_goals first | omega | (exfalso; omega) | rfl | trace_state
    · have hk1 : 1 ≤ k := by
        rcases Nat.eq_zero_or_pos k with rfl | h1
        · simp at hu; omega
        · exact h1
      have e := dig_row (show u % 10 < 10 by omega)
      have e2 : numF (k + 1) u = numF k (u / 10) ++ [UInt8.ofNat (48 + u % 10)] := by simp only [numF]; rw [if_neg h]
      have ih := l1Num_okF k (u / 10) (by rw [Nat.pow_succ] at hu; omega) hk1 (by omega)
      have e3 : ((u : Nat) : Int).tdiv 10 = ((u / 10 : Nat) : Int) := by rw [show (10 : Int) = ((10 : Nat) : Int) from rfl, Int.ofNat_tdiv]
      have e4 : ((u : Nat) : Int).tmod 10 = ((u % 10 : Nat) : Int) := by rw [show (10 : Int) = ((10 : Nat) : Int) from rfl, Int.ofNat_tmod]
      have hl := numF_len k (u / 10) hk1
      refine fn_in h_spec_l1Num r_spec_l1Num ⟨by simp only [go_sem], fun E hE hH => ?_⟩; simp only [go_sem] at hE hH; simp only [go_sem, hE, hH, c_spec_l1Num]
      repeat' (first | ((with_reducible first | refine gd_t ?_ ?_ | refine gd_f ?_ ?_) <;> (intro h; have hb := h; (try simp only [nf] at h); simp (disch := omega) only [go_sem, hE, hH, e, e2, e3, e4, hb]; (try clear hb))) | ((with_reducible refine And.intro ?_ ?_); · omega) | ((first | refine ok_view ?_ | refine cvA (ih) ?_); simp (disch := omega) only [go_sem, hE, hH, e, e2, e3, e4]) | (with_reducible apply jn) | (with_reducible apply both) | (with_reducible refine And.intro ?_ ?_) | ((with_reducible apply fin_eq); (try (simp (disch := omega) only [go_sem, hE, hH, e, e2, e3, e4])); first | done | rfl) | (simp (disch := omega) only [go_sem, hE, hH, e, e2, e3, e4]) | ((first | apply noMLL_sE | apply pk_sE) <;> (simp only [go_sem, hE, hH, e, e2, e3, e4]; done)) | (simp only [go_sem, hE, hH, e, e2, e3, e4]) | fail)
      all_goals first | omega | (exfalso; omega) | rfl | trace_state
theorem l1Num_ok (u : Nat) (hu : u < 10 ^ 18) : ACall Tryd.prog n_spec_l1Num [i64 u] (fun r _ => r = sD (dgt u)) := by
  rw [dgt, numF_eq 18 20 u hu (by omega) (by omega)]
  exact l1Num_okF 18 u hu (by omega) (by omega)
abbrev ItoaH : Prop := ∀ u : Nat, u < 10 ^ 18 → ACall Tryd.prog n_strconv_Itoa [i64 u] (fun r _ => r = sD (dgt u))
def bs (b : ByteArray) : List UInt8 := b.data.toList
theorem bs_eq (b : ByteArray) : ∃ l, b = ⟨⟨l⟩⟩ ∧ l = bs b ∧ l.length = b.size := ⟨bs b, rfl, rfl, rfl⟩
def gotT (g : Got) : List UInt8 := [32] ++ bs g.Key ++ [63] ++ (if g.There then bs g.Val else [45])
def wrT (x : Write) : List UInt8 := [32] ++ bs x.Key ++ (if x.Gone then [45] else [61] ++ bs x.Val)
def headT (d : Deed) : List UInt8 := [if d.Look then 108 else 116] ++ dgt d.Txn.toNat ++ [32] ++ dgt d.Begin.toNat ++ [45] ++ (if 0 ≤ d.End then dgt d.End.toNat else [63]) ++ (if d.Yes then [32, 64] ++ dgt d.Time.toNat else [32, 110, 111])
def deedT (d : Deed) : List UInt8 := headT d ++ (d.Got.map gotT).flatten ++ (d.Writes.map wrT).flatten ++ [10]
def flat {α : Type} (f : α → List UInt8) (l : List α) (j : Nat) : List UInt8 := ((l.take j).map f).flatten
theorem flat_zero {α : Type} (f : α → List UInt8) (l : List α) : flat f l 0 = [] := rfl
theorem flat_succ {α : Type} [Inhabited α] (f : α → List UInt8) {l : List α} {j : Nat} (h : j < l.length) : flat f l (j + 1) = flat f l j ++ f (nth l j) := by
  unfold flat
  rw [List.take_succ_eq_append_getElem h, List.map_append, List.flatten_append, nth_lt h]
  simp
theorem flat_all {α : Type} (f : α → List UInt8) {l : List α} {j : Nat} (h : l.length ≤ j) : flat f l j = (l.map f).flatten := by
  unfold flat; rw [List.take_of_length_le h]
theorem flat_len {α : Type} [Inhabited α] (f : α → List UInt8) (l : List α) (c : Nat) (h : ∀ i, i < l.length → (f (nth l i)).length ≤ c) : ∀ j, j ≤ l.length → (flat f l j).length ≤ j * c
  | 0, _ => by simp [flat]
  | j + 1, hj => by
    have := flat_len f l c h j (by omega)
    have h2 := h j (by omega)
    rw [flat_succ f (by omega), List.length_append, Nat.add_mul]
    omega
theorem dgt_len (u : Nat) : (dgt u).length ≤ 20 := (numF_len 20 u (by omega)).2
theorem headT_len (d : Deed) : (headT d).length ≤ 110 := by
  have h1 := dgt_len d.Txn.toNat
  have h2 := dgt_len d.Begin.toNat
  have h3 := dgt_len d.End.toNat
  have h4 := dgt_len d.Time.toNat
  have e1 : (if 0 ≤ d.End then dgt d.End.toNat else [63]).length ≤ 20 := by
    split
    · omega
    · simp
  have e2 : (if d.Yes then [32, 64] ++ dgt d.Time.toNat else [32, 110, 111]).length ≤ 25 := by
    split
    · simp; omega
    · simp
  unfold headT
  simp only [List.length_append, List.length_cons, List.length_nil]
  omega
structure DeedN (d : Deed) (a b t : Nat) : Prop where
  txn : d.Txn = (a : Int)
  begin : d.Begin = (b : Int)
  time : d.Time = (t : Int)
  ba : a < 2 ^ 40
  bb : b < 2 ^ 40
  bt : t < 2 ^ 40
  fin : d.End = -1 ∨ ∃ e : Nat, d.End = (e : Int) ∧ e < 2 ^ 40
  got : d.Got.length ≤ 8
  wrs : d.Writes.length ≤ 24
  gk : ∀ i, i < d.Got.length → (nth d.Got i).Key.size ≤ 12 ∧ (nth d.Got i).Val.size ≤ 24
  wk : ∀ i, i < d.Writes.length → (nth d.Writes i).Key.size ≤ 12 ∧ (nth d.Writes i).Val.size ≤ 24
theorem deedN {d : Deed} (h : goodDeed d = true) : ∃ a b t, DeedN d a b t := by
  have h1 := goodDeed_end h
  have h2 := goodDeed_lists h
  have h3 := h
  simp only [goodDeed, Bool.and_eq_true, rng_iff] at h3
  obtain ⟨_, ⟨⟨⟨⟨h4, h5⟩, _⟩, h6⟩, h7⟩, h8⟩ := h3
  refine ⟨d.Txn.toNat, d.Begin.toNat, d.Time.toNat, by omega, by omega, by omega, by omega, by omega, by omega, ?_, h2.1, h2.2.1, fun i hi => ?_, fun i hi => ?_⟩
  · by_cases e : d.End = -1
    · exact .inl e
    · exact .inr ⟨d.End.toNat, by omega, by omega⟩
  · simp only [goodGots, Bool.and_eq_true] at h7
    have := allN_iff.1 h7.1 i hi
    simp only [Bool.and_eq_true, goodKey, stored, goodVal, decide_eq_true_eq, rng_iff] at this
    omega
  · simp only [goodWrites, Bool.and_eq_true] at h8
    have := allN_iff.1 h8.2 i hi
    simp only [Bool.and_eq_true, goodKey, stored, goodVal, decide_eq_true_eq, rng_iff] at this
    omega
theorem gotT_len {d : Deed} {a b t : Nat} (h : DeedN d a b t) {i : Nat} (hi : i < d.Got.length) : (gotT (nth d.Got i)).length ≤ 40 := by
  have := h.gk i hi
  have e1 : (bs (nth d.Got i).Key).length = (nth d.Got i).Key.size := rfl
  have e2 : (bs (nth d.Got i).Val).length = (nth d.Got i).Val.size := rfl
  unfold gotT
  split <;> simp <;> omega
theorem wrT_len {d : Deed} {a b t : Nat} (h : DeedN d a b t) {i : Nat} (hi : i < d.Writes.length) : (wrT (nth d.Writes i)).length ≤ 40 := by
  have := h.wk i hi
  have e1 : (bs (nth d.Writes i).Key).length = (nth d.Writes i).Key.size := rfl
  have e2 : (bs (nth d.Writes i).Val).length = (nth d.Writes i).Val.size := rfl
  unfold wrT
  split <;> simp <;> omega
theorem deedT_len {d : Deed} {a b t : Nat} (h : DeedN d a b t) : (deedT d).length ≤ 2000 := by
  have h1 := headT_len d
  have h2 := flat_len gotT d.Got 40 (fun i hi => gotT_len h hi) d.Got.length (Nat.le_refl _)
  have h3 := flat_len wrT d.Writes 40 (fun i hi => wrT_len h hi) d.Writes.length (Nat.le_refl _)
  rw [flat_all gotT (Nat.le_refl _)] at h2
  rw [flat_all wrT (Nat.le_refl _)] at h3
  have h4 := h.got
  have h5 := h.wrs
  unfold deedT
  simp only [List.length_append, List.length_cons, List.length_nil]
  omega
def histT (l : List Deed) : List UInt8 := (l.map deedT).flatten
set_option maxHeartbeats 2000000 in
theorem sHistoryText_ok (l : List Deed) (hl : wfL Deed.wf l) : ACall Tryd.prog n_spec_HistoryText [.sl false 8 (l.map (Deed.row false))] (fun r _ => r = .tup [sD (if goodHist l then histT l else []), bl (goodHist l)]) := by
  have hmx := mx_eq
  have hll := hl.1
  refine fn_in h_spec_HistoryText r_spec_HistoryText ⟨by simp only [go_sem], fun E hE hH => ?_⟩; simp only [go_sem] at hE hH; simp only [go_sem, hE, hH, c_spec_HistoryText]
  repeat' (first | ((with_reducible first | refine gd_t ?_ ?_ | refine gd_f ?_ ?_) <;> (intro h; have hb := h; (try simp only [nf] at h); simp (disch := omega) only [go_sem, hE, hH, hb]; (try clear hb))) | ((with_reducible refine And.intro ?_ ?_); · omega) | ((first | refine ok_view ?_ | refine cvA (l18Good_ok l hl) ?_); simp (disch := omega) only [go_sem, hE, hH]) | (refine jn _ ?_ ?_) | (with_reducible refine both ?_ ?_) | (with_reducible refine And.intro ?_ ?_) | (refine fin_eq ?_; (try (simp (disch := omega) only [go_sem, hE, hH])); first | done | rfl) | (simp (disch := omega) only [go_sem, hE, hH]) | ((first | apply noMLL_sE | apply pk_sE) <;> (simp only [go_sem, hE, hH]; done)) | (simp only [go_sem, hE, hH]) | fail)
  all_goals try (simp [h]; done)
  have hlen := goodHist_len h
  refine loopN l.length (fun j (_ : Unit) => ⟨[(4, sD (flat deedT l j)), (17, .sl false 8 (l.map (Deed.row false))), (18, i64 l.length), (19, i64 j)], []⟩) (fun _ _ => True) () trivial ?_
  intro j _ hj _
  have hfl := flat_len deedT l 2000 (fun i hi => by obtain ⟨a, b, t, hN⟩ := deedN (goodHist_mem h hi); exact deedT_len hN) j hj
  try simp only [go_sem, hE, hH, c_spec_HistoryText_l3]
  first | refine gd_t (fun h2 => ?_) (fun h2 => ?_) | refine gd_f (fun h2 => ?_) (fun h2 => ?_)
  · have hb2 := h2
    simp only [nf] at h2
    have hlt : j < l.length := by omega
    obtain ⟨a, b, t, hN⟩ := deedN (goodHist_mem h hlt)
    have hgd := hl.2 _ (nth_mem hlt)
    try simp (disch := omega) only [go_sem, hE, hH, hb2]
    refine And.intro (by omega) ?_
    have n1 := hN.txn
    have n2 := hN.begin
    have n3 := hN.time
    have q9 : (10 : Nat) ^ 18 = 1000000000000000000 := by decide
    have m1 := hN.ba
    have m2 := hN.bb
    have m3 := hN.bt
    have d1 := dgt_len a
    have d2 := dgt_len b
    have d3 := dgt_len t
    have g1 := hN.got
    have g2 := hN.wrs
    have hh := headT_len (nth l j)
    rcases hN.fin with hE1 | ⟨e, hE1, he⟩
    · repeat' (first | ((with_reducible first | refine gd_t ?_ ?_ | refine gd_f ?_ ?_) <;> (intro h; have hb := h; (try simp only [nf] at h); simp (disch := omega) only [go_sem, hE, hH, n1, n2, n3, hE1, hb]; (try clear hb))) | ((with_reducible refine And.intro ?_ ?_); · omega) | ((first | refine ok_view ?_ | refine cvA (l1Num_ok a (by omega)) ?_ | refine cvA (l1Num_ok b (by omega)) ?_ | refine cvA (l1Num_ok t (by omega)) ?_); simp (disch := omega) only [go_sem, hE, hH, n1, n2, n3, hE1]) | (with_reducible apply jn) | (with_reducible apply both) | (with_reducible refine And.intro ?_ ?_) | ((with_reducible apply fin_eq); (try (simp (disch := omega) only [go_sem, hE, hH, n1, n2, n3, hE1])); first | done | rfl) | (simp (disch := omega) only [go_sem, hE, hH, n1, n2, n3, hE1]) | ((first | apply noMLL_sE | apply pk_sE) <;> (simp only [go_sem, hE, hH, n1, n2, n3, hE1]; done)) | (simp only [go_sem, hE, hH, n1, n2, n3, hE1]) | fail)
      all_goals try (exfalso; omega)
      all_goals (
        refine loopNe (nth l j).Got.length (fun k (_ : Unit) => ⟨[(4, sD (flat deedT l j ++ headT (nth l j) ++ flat gotT (nth l j).Got k)), (6, .ptr 7000000 0 0), (17, .sl false 8 (l.map (Deed.row false))), (18, i64 l.length), (19, i64 j), (56, .sl false 3 ((nth l j).Got.map (Got.row false))), (57, i64 (nth l j).Got.length), (58, i64 k)], [(7000000, ⟨8, [Deed.row false (nth l j)]⟩)]⟩) (fun _ _ => True) () (by simp [headT, flat_zero, Deed.row_eq, *]) trivial ?_
        intro k _ hk _
        have hk1 := flat_len gotT (nth l j).Got 40 (fun i hi => gotT_len hN hi) k hk
        try simp only [go_sem, hE, hH, n1, n2, n3, hE1, c_spec_HistoryText_l1]
        first | refine gd_t (fun h3 => ?_) (fun h3 => ?_) | refine gd_f (fun h3 => ?_) (fun h3 => ?_)
        · have hb3 := h3
          simp only [nf] at h3
          have hlt3 : k < (nth l j).Got.length := by omega
          have hq := hN.gk k hlt3
          obtain ⟨kk, hkk, hkb, hkl⟩ := bs_eq (nth (nth l j).Got k).Key
          obtain ⟨kv, hkv, hvb, hvl⟩ := bs_eq (nth (nth l j).Got k).Val
          try simp (disch := omega) only [go_sem, hE, hH, n1, n2, n3, hE1, hb3, hkk, hkv]
          repeat refine And.intro (by first | omega | (simp only [List.length_append, List.length_cons, List.length_nil]; omega)) ?_
          have eg : gotT (nth (nth l j).Got k) = [32] ++ kk ++ [63] ++ (if (nth (nth l j).Got k).There then kv else [45]) := by rw [gotT, hkb, hvb]
          repeat' (first | ((with_reducible first | refine gd_t ?_ ?_ | refine gd_f ?_ ?_) <;> (intro h; have hb := h; (try simp only [nf] at h); simp (disch := omega) only [go_sem, hE, hH, n1, n2, n3, hE1, hb]; (try clear hb))) | ((with_reducible refine And.intro ?_ ?_); · omega) | (refine jn _ ?_ ?_) | (with_reducible refine both ?_ ?_) | (with_reducible refine And.intro ?_ ?_) | (refine fin_eq ?_; (try (simp (disch := omega) only [go_sem, hE, hH, n1, n2, n3, hE1])); first | done | rfl) | (simp (disch := omega) only [go_sem, hE, hH, n1, n2, n3, hE1]) | ((first | apply noMLL_sE | apply pk_sE) <;> (simp only [go_sem, hE, hH, n1, n2, n3, hE1]; done)) | (simp only [go_sem, hE, hH, n1, n2, n3, hE1]) | fail)
          all_goals try omega
          all_goals (
            refine ⟨(), ?_⟩
            rw [flat_succ gotT hlt3, eg]
            simp [h])
        · try simp (disch := omega) only [go_sem, hE, hH, n1, n2, n3, hE1, h3]
          simp only [nf] at h3
          have ek : k = (nth l j).Got.length := by omega
          rw [ek] at hk1 ⊢
          refine loopNe (nth l j).Writes.length (fun m (_ : Unit) => ⟨[(4, sD (flat deedT l j ++ headT (nth l j) ++ flat gotT (nth l j).Got (nth l j).Got.length ++ flat wrT (nth l j).Writes m)), (17, .sl false 8 (l.map (Deed.row false))), (18, i64 l.length), (19, i64 j), (78, .sl false 3 ((nth l j).Writes.map (Write.row false))), (79, i64 (nth l j).Writes.length), (80, i64 m)], []⟩) (fun _ _ => True) () (by simp [flat_zero]) trivial ?_
          intro m _ hm _
          have hm1 := flat_len wrT (nth l j).Writes 40 (fun i hi => wrT_len hN hi) m hm
          try simp only [go_sem, hE, hH, n1, n2, n3, hE1, c_spec_HistoryText_l2]
          first | refine gd_t (fun h4 => ?_) (fun h4 => ?_) | refine gd_f (fun h4 => ?_) (fun h4 => ?_)
          · have hb4 := h4
            simp only [nf] at h4
            have hlt4 : m < (nth l j).Writes.length := by omega
            have hq := hN.wk m hlt4
            obtain ⟨kk, hkk, hkb, hkl⟩ := bs_eq (nth (nth l j).Writes m).Key
            obtain ⟨kv, hkv, hvb, hvl⟩ := bs_eq (nth (nth l j).Writes m).Val
            try simp (disch := omega) only [go_sem, hE, hH, n1, n2, n3, hE1, hb4, hkk, hkv]
            repeat refine And.intro (by first | omega | (simp only [List.length_append, List.length_cons, List.length_nil]; omega)) ?_
            have eg : wrT (nth (nth l j).Writes m) = [32] ++ kk ++ (if (nth (nth l j).Writes m).Gone then [45] else [61] ++ kv) := by rw [wrT, hkb, hvb]
            repeat' (first | ((with_reducible first | refine gd_t ?_ ?_ | refine gd_f ?_ ?_) <;> (intro h; have hb := h; (try simp only [nf] at h); simp (disch := omega) only [go_sem, hE, hH, n1, n2, n3, hE1, hb]; (try clear hb))) | ((with_reducible refine And.intro ?_ ?_); · omega) | (refine jn _ ?_ ?_) | (with_reducible refine both ?_ ?_) | (with_reducible refine And.intro ?_ ?_) | (refine fin_eq ?_; (try (simp (disch := omega) only [go_sem, hE, hH, n1, n2, n3, hE1])); first | done | rfl) | (simp (disch := omega) only [go_sem, hE, hH, n1, n2, n3, hE1]) | ((first | apply noMLL_sE | apply pk_sE) <;> (simp only [go_sem, hE, hH, n1, n2, n3, hE1]; done)) | (simp only [go_sem, hE, hH, n1, n2, n3, hE1]) | fail)
            all_goals try omega
            all_goals (
              refine ⟨(), ?_⟩
              rw [flat_succ wrT hlt4, eg]
              simp [h])
          · try simp (disch := omega) only [go_sem, hE, hH, n1, n2, n3, hE1, h4]
            simp only [nf] at h4
            have em : m = (nth l j).Writes.length := by omega
            rw [em] at hm1 ⊢
            repeat refine And.intro (by first | omega | (simp only [List.length_append, List.length_cons, List.length_nil]; omega)) ?_
            refine ⟨(), ?_⟩
            rw [flat_succ deedT hlt, deedT, flat_all gotT (Nat.le_refl _), flat_all wrT (Nat.le_refl _)]
            simp)
    · have d4 := dgt_len e
      repeat' (first | ((with_reducible first | refine gd_t ?_ ?_ | refine gd_f ?_ ?_) <;> (intro h; have hb := h; (try simp only [nf] at h); simp (disch := omega) only [go_sem, hE, hH, n1, n2, n3, hE1, hb]; (try clear hb))) | ((with_reducible refine And.intro ?_ ?_); · omega) | ((first | refine ok_view ?_ | refine cvA (l1Num_ok a (by omega)) ?_ | refine cvA (l1Num_ok b (by omega)) ?_ | refine cvA (l1Num_ok t (by omega)) ?_ | refine cvA (l1Num_ok e (by omega)) ?_); simp (disch := omega) only [go_sem, hE, hH, n1, n2, n3, hE1]) | (with_reducible apply jn) | (with_reducible apply both) | (with_reducible refine And.intro ?_ ?_) | ((with_reducible apply fin_eq); (try (simp (disch := omega) only [go_sem, hE, hH, n1, n2, n3, hE1])); first | done | rfl) | (simp (disch := omega) only [go_sem, hE, hH, n1, n2, n3, hE1]) | ((first | apply noMLL_sE | apply pk_sE) <;> (simp only [go_sem, hE, hH, n1, n2, n3, hE1]; done)) | (simp only [go_sem, hE, hH, n1, n2, n3, hE1]) | fail)
      all_goals try (exfalso; omega)
      all_goals (
        refine loopNe (nth l j).Got.length (fun k (_ : Unit) => ⟨[(4, sD (flat deedT l j ++ headT (nth l j) ++ flat gotT (nth l j).Got k)), (6, .ptr 7000000 0 0), (17, .sl false 8 (l.map (Deed.row false))), (18, i64 l.length), (19, i64 j), (56, .sl false 3 ((nth l j).Got.map (Got.row false))), (57, i64 (nth l j).Got.length), (58, i64 k)], [(7000000, ⟨8, [Deed.row false (nth l j)]⟩)]⟩) (fun _ _ => True) () (by simp [headT, flat_zero, Deed.row_eq, *]) trivial ?_
        intro k _ hk _
        have hk1 := flat_len gotT (nth l j).Got 40 (fun i hi => gotT_len hN hi) k hk
        try simp only [go_sem, hE, hH, n1, n2, n3, hE1, c_spec_HistoryText_l1]
        first | refine gd_t (fun h3 => ?_) (fun h3 => ?_) | refine gd_f (fun h3 => ?_) (fun h3 => ?_)
        · have hb3 := h3
          simp only [nf] at h3
          have hlt3 : k < (nth l j).Got.length := by omega
          have hq := hN.gk k hlt3
          obtain ⟨kk, hkk, hkb, hkl⟩ := bs_eq (nth (nth l j).Got k).Key
          obtain ⟨kv, hkv, hvb, hvl⟩ := bs_eq (nth (nth l j).Got k).Val
          try simp (disch := omega) only [go_sem, hE, hH, n1, n2, n3, hE1, hb3, hkk, hkv]
          repeat refine And.intro (by first | omega | (simp only [List.length_append, List.length_cons, List.length_nil]; omega)) ?_
          have eg : gotT (nth (nth l j).Got k) = [32] ++ kk ++ [63] ++ (if (nth (nth l j).Got k).There then kv else [45]) := by rw [gotT, hkb, hvb]
          repeat' (first | ((with_reducible first | refine gd_t ?_ ?_ | refine gd_f ?_ ?_) <;> (intro h; have hb := h; (try simp only [nf] at h); simp (disch := omega) only [go_sem, hE, hH, n1, n2, n3, hE1, hb]; (try clear hb))) | ((with_reducible refine And.intro ?_ ?_); · omega) | (refine jn _ ?_ ?_) | (with_reducible refine both ?_ ?_) | (with_reducible refine And.intro ?_ ?_) | (refine fin_eq ?_; (try (simp (disch := omega) only [go_sem, hE, hH, n1, n2, n3, hE1])); first | done | rfl) | (simp (disch := omega) only [go_sem, hE, hH, n1, n2, n3, hE1]) | ((first | apply noMLL_sE | apply pk_sE) <;> (simp only [go_sem, hE, hH, n1, n2, n3, hE1]; done)) | (simp only [go_sem, hE, hH, n1, n2, n3, hE1]) | fail)
          all_goals try omega
          all_goals (
            refine ⟨(), ?_⟩
            rw [flat_succ gotT hlt3, eg]
            simp [h])
        · try simp (disch := omega) only [go_sem, hE, hH, n1, n2, n3, hE1, h3]
          simp only [nf] at h3
          have ek : k = (nth l j).Got.length := by omega
          rw [ek] at hk1 ⊢
          refine loopNe (nth l j).Writes.length (fun m (_ : Unit) => ⟨[(4, sD (flat deedT l j ++ headT (nth l j) ++ flat gotT (nth l j).Got (nth l j).Got.length ++ flat wrT (nth l j).Writes m)), (17, .sl false 8 (l.map (Deed.row false))), (18, i64 l.length), (19, i64 j), (78, .sl false 3 ((nth l j).Writes.map (Write.row false))), (79, i64 (nth l j).Writes.length), (80, i64 m)], []⟩) (fun _ _ => True) () (by simp [flat_zero]) trivial ?_
          intro m _ hm _
          have hm1 := flat_len wrT (nth l j).Writes 40 (fun i hi => wrT_len hN hi) m hm
          try simp only [go_sem, hE, hH, n1, n2, n3, hE1, c_spec_HistoryText_l2]
          first | refine gd_t (fun h4 => ?_) (fun h4 => ?_) | refine gd_f (fun h4 => ?_) (fun h4 => ?_)
          · have hb4 := h4
            simp only [nf] at h4
            have hlt4 : m < (nth l j).Writes.length := by omega
            have hq := hN.wk m hlt4
            obtain ⟨kk, hkk, hkb, hkl⟩ := bs_eq (nth (nth l j).Writes m).Key
            obtain ⟨kv, hkv, hvb, hvl⟩ := bs_eq (nth (nth l j).Writes m).Val
            try simp (disch := omega) only [go_sem, hE, hH, n1, n2, n3, hE1, hb4, hkk, hkv]
            repeat refine And.intro (by first | omega | (simp only [List.length_append, List.length_cons, List.length_nil]; omega)) ?_
            have eg : wrT (nth (nth l j).Writes m) = [32] ++ kk ++ (if (nth (nth l j).Writes m).Gone then [45] else [61] ++ kv) := by rw [wrT, hkb, hvb]
            repeat' (first | ((with_reducible first | refine gd_t ?_ ?_ | refine gd_f ?_ ?_) <;> (intro h; have hb := h; (try simp only [nf] at h); simp (disch := omega) only [go_sem, hE, hH, n1, n2, n3, hE1, hb]; (try clear hb))) | ((with_reducible refine And.intro ?_ ?_); · omega) | (refine jn _ ?_ ?_) | (with_reducible refine both ?_ ?_) | (with_reducible refine And.intro ?_ ?_) | (refine fin_eq ?_; (try (simp (disch := omega) only [go_sem, hE, hH, n1, n2, n3, hE1])); first | done | rfl) | (simp (disch := omega) only [go_sem, hE, hH, n1, n2, n3, hE1]) | ((first | apply noMLL_sE | apply pk_sE) <;> (simp only [go_sem, hE, hH, n1, n2, n3, hE1]; done)) | (simp only [go_sem, hE, hH, n1, n2, n3, hE1]) | fail)
            all_goals try omega
            all_goals (
              refine ⟨(), ?_⟩
              rw [flat_succ wrT hlt4, eg]
              simp [h])
          · try simp (disch := omega) only [go_sem, hE, hH, n1, n2, n3, hE1, h4]
            simp only [nf] at h4
            have em : m = (nth l j).Writes.length := by omega
            rw [em] at hm1 ⊢
            repeat refine And.intro (by first | omega | (simp only [List.length_append, List.length_cons, List.length_nil]; omega)) ?_
            refine ⟨(), ?_⟩
            rw [flat_succ deedT hlt, deedT, flat_all gotT (Nat.le_refl _), flat_all wrT (Nat.le_refl _)]
            simp)
  · try simp (disch := omega) only [go_sem, hE, hH, h2]
    simp only [nf] at h2
    rw [show j = l.length by omega, flat_all deedT (Nat.le_refl _)]
    exact ⟨by rw [if_pos h]; rfl, by rw [h]⟩
abbrev DeedTextH : Prop := ∀ (d : Deed), d.wf → goodDeed d = true → ACall Tryd.prog n_impl_deedText [.agg (Deed.row false d)] (fun r _ => r = sD (deedT d))
theorem HistoryText_ok (hD : DeedTextH) (l : List Deed) (hl : wfL Deed.wf l) : ACall Tryd.prog n_impl_HistoryText [.sl false 8 (l.map (Deed.row false))] (fun r _ => r = .tup [sD (if goodHist l then histT l else []), bl (goodHist l)]) := by
  have hmx := mx_eq
  have hll := hl.1
  refine fn_in h_impl_HistoryText r_impl_HistoryText ⟨by simp only [go_sem], fun E hE hH => ?_⟩; simp only [go_sem] at hE hH; simp only [go_sem, hE, hH, c_impl_HistoryText]
  repeat' (first | ((with_reducible first | refine gd_t ?_ ?_ | refine gd_f ?_ ?_) <;> (intro h; have hb := h; (try simp only [nf] at h); simp (disch := omega) only [go_sem, hE, hH, hb]; (try clear hb))) | ((with_reducible refine And.intro ?_ ?_); · omega) | ((first | refine ok_view ?_ | refine cvA (GoodHistory_ok l hl) ?_); simp (disch := omega) only [go_sem, hE, hH]) | (refine jn _ ?_ ?_) | (with_reducible refine both ?_ ?_) | (with_reducible refine And.intro ?_ ?_) | (refine fin_eq ?_; (try (simp (disch := omega) only [go_sem, hE, hH])); first | done | rfl) | (simp (disch := omega) only [go_sem, hE, hH]) | ((first | apply noMLL_sE | apply pk_sE) <;> (simp only [go_sem, hE, hH]; done)) | (simp only [go_sem, hE, hH]) | fail)
  all_goals try (simp [h]; done)
  have hlen := goodHist_len h
  refine loopN l.length (fun j (_ : Unit) => ⟨[(4, sD (flat deedT l j)), (10, .sl false 8 (l.map (Deed.row false))), (11, i64 l.length), (12, i64 j)], []⟩) (fun _ _ => True) () trivial ?_
  intro j _ hj _
  have hfl := flat_len deedT l 2000 (fun i hi => by obtain ⟨a, b, t, hN⟩ := deedN (goodHist_mem h hi); exact deedT_len hN) j hj
  try simp only [go_sem, hE, hH, c_impl_HistoryText_l1]
  first | refine gd_t (fun h2 => ?_) (fun h2 => ?_) | refine gd_f (fun h2 => ?_) (fun h2 => ?_)
  · have hb2 := h2
    simp only [nf] at h2
    have hlt : j < l.length := by omega
    obtain ⟨a, b, t, hN⟩ := deedN (goodHist_mem h hlt)
    have hgd := hl.2 _ (nth_mem hlt)
    have hdl := deedT_len hN
    try simp (disch := omega) only [go_sem, hE, hH, hb2]
    repeat' (first | ((with_reducible first | refine gd_t ?_ ?_ | refine gd_f ?_ ?_) <;> (intro h; have hb := h; (try simp only [nf] at h); simp (disch := omega) only [go_sem, hE, hH, hb]; (try clear hb))) | ((with_reducible refine And.intro ?_ ?_); · omega) | ((first | refine ok_view ?_ | refine cvA (hD (nth l j) hgd (goodHist_mem h hlt)) ?_); simp (disch := omega) only [go_sem, hE, hH]) | (refine jn _ ?_ ?_) | (with_reducible refine both ?_ ?_) | (with_reducible refine And.intro ?_ ?_) | (refine fin_eq ?_; (try (simp (disch := omega) only [go_sem, hE, hH])); first | done | rfl) | (simp (disch := omega) only [go_sem, hE, hH]) | ((first | apply noMLL_sE | apply pk_sE) <;> (simp only [go_sem, hE, hH]; done)) | (simp only [go_sem, hE, hH]) | fail)
    all_goals try omega
    exact ⟨(), by rw [flat_succ deedT hlt]; rfl⟩
  · try simp (disch := omega) only [go_sem, hE, hH, h2]
    simp only [nf] at h2
    rw [show j = l.length by omega, flat_all deedT (Nat.le_refl _)]
    exact ⟨by rw [if_pos h]; rfl, by rw [h]⟩
theorem FnExactHistoryText_ok (hD : DeedTextH) (vH : List Deed) (wH : vH.length ≤ maxLen ∧ ∀ y ∈ vH, y.wf) : ACall Tryd.prog n_laws_FnExactHistoryText [.sl false 8 (vH.map (Deed.row false))] (fun r _ => r = bl true) := by
  have hmx := mx_eq
  have wlH : wfL (Deed.wf) vH := wH
  have lH : limL (Deed.lim) vH := ⟨wH.1, fun y hy => Deed.lim_of (wH.2 y hy)⟩
  refine fn_in h_laws_FnExactHistoryText r_laws_FnExactHistoryText ⟨by simp only [go_sem], fun E hE hH => ?_⟩; simp only [go_sem] at hE hH; simp only [go_sem, hE, hH, c_laws_FnExactHistoryText]
  refine ok_view ?_; simp (disch := omega) only [go_sem, hE, hH]; refine cvA (szDeedS_ok vH _ (by decide) (by decide) wlH) ?_
  refine aftV_intro ?_
  rintro r l ⟨n1, rfl, hn1, hsz1⟩
  try simp (disch := omega) only [go_sem, hE, hH]
  first | refine gd_t (fun h1 => ?_) (fun h1 => ?_) | refine gd_f (fun h1 => ?_) (fun h1 => ?_)
  · try simp (disch := omega) only [go_sem, hE, hH, h1]
  have hb1 := h1
  simp only [nf] at h1
  try simp (disch := omega) only [go_sem, hE, hH, hb1]
  have sH : szL (Deed.sz) vH ≤ 2 ^ 20 := by have := hsz1 h1; omega
  repeat' (first | ((with_reducible first | refine gd_t ?_ ?_ | refine gd_f ?_ ?_) <;> (intro h; have hb := h; (try simp only [nf] at h); simp (disch := omega) only [go_sem, hE, hH, hb]; (try clear hb))) | ((with_reducible refine And.intro ?_ ?_); · omega) | ((first | refine ok_view ?_ | refine cvA (toDeedS_ok vH sH) ?_ | refine cvA (sHistoryText_ok vH wlH) ?_ | refine cvA (HistoryText_ok hD vH wlH) ?_ | refine cvA (eqDeedS_ok vH vH lH) ?_); simp (disch := omega) only [go_sem, hE, hH]) | (refine jn _ ?_ ?_) | (with_reducible refine both ?_ ?_) | (with_reducible refine And.intro ?_ ?_) | (refine fin_eq ?_; (try (simp (disch := omega) only [go_sem, hE, hH])); first | done | rfl) | (simp (disch := omega) only [go_sem, hE, hH]) | ((first | apply noMLL_sE | apply pk_sE) <;> (simp only [go_sem, hE, hH]; done)) | (simp only [go_sem, hE, hH]) | fail)
end Go.Proofs.Wb

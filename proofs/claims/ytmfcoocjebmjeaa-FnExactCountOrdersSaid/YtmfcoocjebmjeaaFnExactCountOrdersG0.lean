import Derived.Test.YtmfcoocjebmjeaaFnExactCountOrdersTy
import Derived.Laws.Externs
set_option linter.unusedSimpArgs false
set_option linter.unusedVariables false
set_option linter.unusedSectionVars false
namespace Go.Proofs.Wb
open Go Go.Am
theorem IndexFunc_Deed_ok (l : List Deed) (f : Nat) (caps : List T) (p : Deed → Bool) (hent : entB Try.prog f = true) (hcap : caps.all T.cap = true) (hl : l.length ≤ maxLen) (hp : ∀ x, x ∈ l → ACall Try.prog f ([.agg (Deed.row false x)] ++ caps) (fun r _ => r = bl (p x))) :
    ACall Try.prog n_slices_IndexFunc___impl_Deed_impl_Deed_ [.sl false 8 (l.map (Deed.row false)), .fn f caps] (fun r _ => r = i64 (ixf p l)) := by
  have hmx := mx_eq
  refine fn_in h_slices_IndexFunc___impl_Deed_impl_Deed_ r_slices_IndexFunc___impl_Deed_impl_Deed_ ⟨by simp only [go_sem, caps_bare hcap, caps_pk hcap, caps_noM hcap, caps_lt hcap, caps_ids hcap], fun E hE hH => ?_⟩; simp only [go_sem, caps_bare hcap, caps_pk hcap, caps_noM hcap, caps_lt hcap, caps_ids hcap] at hE hH; simp only [go_sem, hE, hH, caps_bare hcap, caps_pk hcap, caps_noM hcap, caps_lt hcap, caps_ids hcap, c_slices_IndexFunc___impl_Deed_impl_Deed_]
  refine loopN l.length (fun j (_ : Unit) => ⟨[(0, .sl false 8 (l.map (Deed.row false))), (1, .fn f caps), (7, i64 l.length), (8, i64 j)], []⟩) (fun j _ => allN (fun i => !p (nth l i)) j = true) () rfl ?_
  intro j _ hj hI
  try simp only [go_sem, hE, hH, caps_bare hcap, caps_pk hcap, caps_noM hcap, caps_lt hcap, caps_ids hcap, c_slices_IndexFunc___impl_Deed_impl_Deed__l1]
  first | refine gd_t (fun h => ?_) (fun h => ?_) | refine gd_f (fun h => ?_) (fun h => ?_)
  · have hb := h
    simp only [nf] at h
    have hlt := h; clear h
    try simp (disch := omega) only [go_sem, hE, hH, caps_bare hcap, caps_pk hcap, caps_noM hcap, caps_lt hcap, caps_ids hcap, hb]
    refine And.intro (by omega) ?_
    refine ok_cfv rfl rfl rfl (hent) (hcap) (hp _ (nth_mem hlt)) ?_
    try simp (disch := omega) only [go_sem, hE, hH, caps_bare hcap, caps_pk hcap, caps_noM hcap, caps_lt hcap, caps_ids hcap]
    repeat' (first | ((with_reducible first | refine gd_t ?_ ?_ | refine gd_f ?_ ?_) <;> (intro h; have hb := h; (try simp only [nf] at h); simp (disch := omega) only [go_sem, hE, hH, caps_bare hcap, caps_pk hcap, caps_noM hcap, caps_lt hcap, caps_ids hcap, hb]; (try clear hb))) | ((with_reducible refine And.intro ?_ ?_); · omega) | (refine jn _ ?_ ?_) | (with_reducible refine both ?_ ?_) | (with_reducible refine And.intro ?_ ?_) | (refine fin_eq ?_; (try (simp (disch := omega) only [go_sem, hE, hH, caps_bare hcap, caps_pk hcap, caps_noM hcap, caps_lt hcap, caps_ids hcap])); first | done | rfl) | (simp (disch := omega) only [go_sem, hE, hH, caps_bare hcap, caps_pk hcap, caps_noM hcap, caps_lt hcap, caps_ids hcap]) | ((first | apply noMLL_sE | apply pk_sE) <;> (simp only [go_sem, hE, hH, caps_bare hcap, caps_pk hcap, caps_noM hcap, caps_lt hcap, caps_ids hcap]; done)) | (simp only [go_sem, hE, hH, caps_bare hcap, caps_pk hcap, caps_noM hcap, caps_lt hcap, caps_ids hcap]) | fail)
    · rw [ixf_at hlt hI h]
    · exact ⟨(), rfl, allN_step hI (by simp [h])⟩
  · try simp (disch := omega) only [go_sem, hE, hH, caps_bare hcap, caps_pk hcap, caps_noM hcap, caps_lt hcap, caps_ids hcap, h]
    simp only [nf] at h
    rw [show j = l.length by omega] at hI
    rw [ixf_none hI]
theorem IndexFunc_Got_ok (l : List Got) (f : Nat) (caps : List T) (p : Got → Bool) (hent : entB Try.prog f = true) (hcap : caps.all T.cap = true) (hl : l.length ≤ maxLen) (hp : ∀ x, x ∈ l → ACall Try.prog f ([.agg (Got.row false x)] ++ caps) (fun r _ => r = bl (p x))) :
    ACall Try.prog n_slices_IndexFunc___impl_Got_impl_Got_ [.sl false 3 (l.map (Got.row false)), .fn f caps] (fun r _ => r = i64 (ixf p l)) := by
  have hmx := mx_eq
  refine fn_in h_slices_IndexFunc___impl_Got_impl_Got_ r_slices_IndexFunc___impl_Got_impl_Got_ ⟨by simp only [go_sem, caps_bare hcap, caps_pk hcap, caps_noM hcap, caps_lt hcap, caps_ids hcap], fun E hE hH => ?_⟩; simp only [go_sem, caps_bare hcap, caps_pk hcap, caps_noM hcap, caps_lt hcap, caps_ids hcap] at hE hH; simp only [go_sem, hE, hH, caps_bare hcap, caps_pk hcap, caps_noM hcap, caps_lt hcap, caps_ids hcap, c_slices_IndexFunc___impl_Got_impl_Got_]
  refine loopN l.length (fun j (_ : Unit) => ⟨[(0, .sl false 3 (l.map (Got.row false))), (1, .fn f caps), (7, i64 l.length), (8, i64 j)], []⟩) (fun j _ => allN (fun i => !p (nth l i)) j = true) () rfl ?_
  intro j _ hj hI
  try simp only [go_sem, hE, hH, caps_bare hcap, caps_pk hcap, caps_noM hcap, caps_lt hcap, caps_ids hcap, c_slices_IndexFunc___impl_Got_impl_Got__l1]
  first | refine gd_t (fun h => ?_) (fun h => ?_) | refine gd_f (fun h => ?_) (fun h => ?_)
  · have hb := h
    simp only [nf] at h
    have hlt := h; clear h
    try simp (disch := omega) only [go_sem, hE, hH, caps_bare hcap, caps_pk hcap, caps_noM hcap, caps_lt hcap, caps_ids hcap, hb]
    refine And.intro (by omega) ?_
    refine ok_cfv rfl rfl rfl (hent) (hcap) (hp _ (nth_mem hlt)) ?_
    try simp (disch := omega) only [go_sem, hE, hH, caps_bare hcap, caps_pk hcap, caps_noM hcap, caps_lt hcap, caps_ids hcap]
    repeat' (first | ((with_reducible first | refine gd_t ?_ ?_ | refine gd_f ?_ ?_) <;> (intro h; have hb := h; (try simp only [nf] at h); simp (disch := omega) only [go_sem, hE, hH, caps_bare hcap, caps_pk hcap, caps_noM hcap, caps_lt hcap, caps_ids hcap, hb]; (try clear hb))) | ((with_reducible refine And.intro ?_ ?_); · omega) | (refine jn _ ?_ ?_) | (with_reducible refine both ?_ ?_) | (with_reducible refine And.intro ?_ ?_) | (refine fin_eq ?_; (try (simp (disch := omega) only [go_sem, hE, hH, caps_bare hcap, caps_pk hcap, caps_noM hcap, caps_lt hcap, caps_ids hcap])); first | done | rfl) | (simp (disch := omega) only [go_sem, hE, hH, caps_bare hcap, caps_pk hcap, caps_noM hcap, caps_lt hcap, caps_ids hcap]) | ((first | apply noMLL_sE | apply pk_sE) <;> (simp only [go_sem, hE, hH, caps_bare hcap, caps_pk hcap, caps_noM hcap, caps_lt hcap, caps_ids hcap]; done)) | (simp only [go_sem, hE, hH, caps_bare hcap, caps_pk hcap, caps_noM hcap, caps_lt hcap, caps_ids hcap]) | fail)
    · rw [ixf_at hlt hI h]
    · exact ⟨(), rfl, allN_step hI (by simp [h])⟩
  · try simp (disch := omega) only [go_sem, hE, hH, caps_bare hcap, caps_pk hcap, caps_noM hcap, caps_lt hcap, caps_ids hcap, h]
    simp only [nf] at h
    rw [show j = l.length by omega] at hI
    rw [ixf_none hI]
theorem IndexFunc_Write_ok (l : List Write) (f : Nat) (caps : List T) (p : Write → Bool) (hent : entB Try.prog f = true) (hcap : caps.all T.cap = true) (hl : l.length ≤ maxLen) (hp : ∀ x, x ∈ l → ACall Try.prog f ([.agg (Write.row false x)] ++ caps) (fun r _ => r = bl (p x))) :
    ACall Try.prog n_slices_IndexFunc___impl_Write_impl_Write_ [.sl false 3 (l.map (Write.row false)), .fn f caps] (fun r _ => r = i64 (ixf p l)) := by
  have hmx := mx_eq
  refine fn_in h_slices_IndexFunc___impl_Write_impl_Write_ r_slices_IndexFunc___impl_Write_impl_Write_ ⟨by simp only [go_sem, caps_bare hcap, caps_pk hcap, caps_noM hcap, caps_lt hcap, caps_ids hcap], fun E hE hH => ?_⟩; simp only [go_sem, caps_bare hcap, caps_pk hcap, caps_noM hcap, caps_lt hcap, caps_ids hcap] at hE hH; simp only [go_sem, hE, hH, caps_bare hcap, caps_pk hcap, caps_noM hcap, caps_lt hcap, caps_ids hcap, c_slices_IndexFunc___impl_Write_impl_Write_]
  refine loopN l.length (fun j (_ : Unit) => ⟨[(0, .sl false 3 (l.map (Write.row false))), (1, .fn f caps), (7, i64 l.length), (8, i64 j)], []⟩) (fun j _ => allN (fun i => !p (nth l i)) j = true) () rfl ?_
  intro j _ hj hI
  try simp only [go_sem, hE, hH, caps_bare hcap, caps_pk hcap, caps_noM hcap, caps_lt hcap, caps_ids hcap, c_slices_IndexFunc___impl_Write_impl_Write__l1]
  first | refine gd_t (fun h => ?_) (fun h => ?_) | refine gd_f (fun h => ?_) (fun h => ?_)
  · have hb := h
    simp only [nf] at h
    have hlt := h; clear h
    try simp (disch := omega) only [go_sem, hE, hH, caps_bare hcap, caps_pk hcap, caps_noM hcap, caps_lt hcap, caps_ids hcap, hb]
    refine And.intro (by omega) ?_
    refine ok_cfv rfl rfl rfl (hent) (hcap) (hp _ (nth_mem hlt)) ?_
    try simp (disch := omega) only [go_sem, hE, hH, caps_bare hcap, caps_pk hcap, caps_noM hcap, caps_lt hcap, caps_ids hcap]
    repeat' (first | ((with_reducible first | refine gd_t ?_ ?_ | refine gd_f ?_ ?_) <;> (intro h; have hb := h; (try simp only [nf] at h); simp (disch := omega) only [go_sem, hE, hH, caps_bare hcap, caps_pk hcap, caps_noM hcap, caps_lt hcap, caps_ids hcap, hb]; (try clear hb))) | ((with_reducible refine And.intro ?_ ?_); · omega) | (refine jn _ ?_ ?_) | (with_reducible refine both ?_ ?_) | (with_reducible refine And.intro ?_ ?_) | (refine fin_eq ?_; (try (simp (disch := omega) only [go_sem, hE, hH, caps_bare hcap, caps_pk hcap, caps_noM hcap, caps_lt hcap, caps_ids hcap])); first | done | rfl) | (simp (disch := omega) only [go_sem, hE, hH, caps_bare hcap, caps_pk hcap, caps_noM hcap, caps_lt hcap, caps_ids hcap]) | ((first | apply noMLL_sE | apply pk_sE) <;> (simp only [go_sem, hE, hH, caps_bare hcap, caps_pk hcap, caps_noM hcap, caps_lt hcap, caps_ids hcap]; done)) | (simp only [go_sem, hE, hH, caps_bare hcap, caps_pk hcap, caps_noM hcap, caps_lt hcap, caps_ids hcap]) | fail)
    · rw [ixf_at hlt hI h]
    · exact ⟨(), rfl, allN_step hI (by simp [h])⟩
  · try simp (disch := omega) only [go_sem, hE, hH, caps_bare hcap, caps_pk hcap, caps_noM hcap, caps_lt hcap, caps_ids hcap, h]
    simp only [nf] at h
    rw [show j = l.length by omega] at hI
    rw [ixf_none hI]
theorem IndexFunc_Int_ok (l : List Int) (f : Nat) (caps : List T) (p : Int → Bool) (hent : entB Try.prog f = true) (hcap : caps.all T.cap = true) (hl : l.length ≤ maxLen) (hp : ∀ x, x ∈ l → ACall Try.prog f ([i64 x] ++ caps) (fun r _ => r = bl (p x))) :
    ACall Try.prog n_slices_IndexFunc___int_int_ [.sl false 1 (ints l), .fn f caps] (fun r _ => r = i64 (ixf p l)) := by
  have hmx := mx_eq
  refine fn_in h_slices_IndexFunc___int_int_ r_slices_IndexFunc___int_int_ ⟨by simp only [go_sem, caps_bare hcap, caps_pk hcap, caps_noM hcap, caps_lt hcap, caps_ids hcap], fun E hE hH => ?_⟩; simp only [go_sem, caps_bare hcap, caps_pk hcap, caps_noM hcap, caps_lt hcap, caps_ids hcap] at hE hH; simp only [go_sem, hE, hH, caps_bare hcap, caps_pk hcap, caps_noM hcap, caps_lt hcap, caps_ids hcap, c_slices_IndexFunc___int_int_]
  refine loopN l.length (fun j (_ : Unit) => ⟨[(0, .sl false 1 (ints l)), (1, .fn f caps), (7, i64 l.length), (8, i64 j)], []⟩) (fun j _ => allN (fun i => !p (nth l i)) j = true) () rfl ?_
  intro j _ hj hI
  try simp only [go_sem, hE, hH, caps_bare hcap, caps_pk hcap, caps_noM hcap, caps_lt hcap, caps_ids hcap, c_slices_IndexFunc___int_int__l1]
  first | refine gd_t (fun h => ?_) (fun h => ?_) | refine gd_f (fun h => ?_) (fun h => ?_)
  · have hb := h
    simp only [nf] at h
    have hlt := h; clear h
    try simp (disch := omega) only [go_sem, hE, hH, caps_bare hcap, caps_pk hcap, caps_noM hcap, caps_lt hcap, caps_ids hcap, hb]
    refine And.intro (by omega) ?_
    refine ok_cfv rfl rfl rfl (hent) (hcap) (hp _ (nth_mem hlt)) ?_
    try simp (disch := omega) only [go_sem, hE, hH, caps_bare hcap, caps_pk hcap, caps_noM hcap, caps_lt hcap, caps_ids hcap]
    repeat' (first | ((with_reducible first | refine gd_t ?_ ?_ | refine gd_f ?_ ?_) <;> (intro h; have hb := h; (try simp only [nf] at h); simp (disch := omega) only [go_sem, hE, hH, caps_bare hcap, caps_pk hcap, caps_noM hcap, caps_lt hcap, caps_ids hcap, hb]; (try clear hb))) | ((with_reducible refine And.intro ?_ ?_); · omega) | (refine jn _ ?_ ?_) | (with_reducible refine both ?_ ?_) | (with_reducible refine And.intro ?_ ?_) | (refine fin_eq ?_; (try (simp (disch := omega) only [go_sem, hE, hH, caps_bare hcap, caps_pk hcap, caps_noM hcap, caps_lt hcap, caps_ids hcap])); first | done | rfl) | (simp (disch := omega) only [go_sem, hE, hH, caps_bare hcap, caps_pk hcap, caps_noM hcap, caps_lt hcap, caps_ids hcap]) | ((first | apply noMLL_sE | apply pk_sE) <;> (simp only [go_sem, hE, hH, caps_bare hcap, caps_pk hcap, caps_noM hcap, caps_lt hcap, caps_ids hcap]; done)) | (simp only [go_sem, hE, hH, caps_bare hcap, caps_pk hcap, caps_noM hcap, caps_lt hcap, caps_ids hcap]) | fail)
    · rw [ixf_at hlt hI h]
    · exact ⟨(), rfl, allN_step hI (by simp [h])⟩
  · try simp (disch := omega) only [go_sem, hE, hH, caps_bare hcap, caps_pk hcap, caps_noM hcap, caps_lt hcap, caps_ids hcap, h]
    simp only [nf] at h
    rw [show j = l.length by omega] at hI
    rw [ixf_none hI]
theorem ContainsFunc_Deed_ok (l : List Deed) (f : Nat) (caps : List T) (p : Deed → Bool) (hent : entB Try.prog f = true) (hcap : caps.all T.cap = true) (hl : l.length ≤ maxLen) (hp : ∀ x, x ∈ l → ACall Try.prog f ([.agg (Deed.row false x)] ++ caps) (fun r _ => r = bl (p x))) :
    ACall Try.prog n_slices_ContainsFunc___impl_Deed_impl_Deed_ [.sl false 8 (l.map (Deed.row false)), .fn f caps] (fun r _ => r = bl (l.any p)) := by
  refine fn_in h_slices_ContainsFunc___impl_Deed_impl_Deed_ r_slices_ContainsFunc___impl_Deed_impl_Deed_ ⟨by simp only [go_sem, caps_bare hcap, caps_pk hcap, caps_noM hcap, caps_lt hcap, caps_ids hcap], fun E hE hH => ?_⟩; simp only [go_sem, caps_bare hcap, caps_pk hcap, caps_noM hcap, caps_lt hcap, caps_ids hcap] at hE hH; simp only [go_sem, hE, hH, caps_bare hcap, caps_pk hcap, caps_noM hcap, caps_lt hcap, caps_ids hcap, c_slices_ContainsFunc___impl_Deed_impl_Deed_]
  refine ok_cv rfl (by simp only [zipF, argL, vwT, vwLeaf, vwRow_caps hcap, Bool.false_eq_true, if_false]; rfl) (IndexFunc_Deed_ok l f caps p hent hcap hl hp) ?_
  try simp (disch := omega) only [go_sem, hE, hH, caps_bare hcap, caps_pk hcap, caps_noM hcap, caps_lt hcap, caps_ids hcap, ixf_any, vwC_ok hcap]
theorem ContainsFunc_Got_ok (l : List Got) (f : Nat) (caps : List T) (p : Got → Bool) (hent : entB Try.prog f = true) (hcap : caps.all T.cap = true) (hl : l.length ≤ maxLen) (hp : ∀ x, x ∈ l → ACall Try.prog f ([.agg (Got.row false x)] ++ caps) (fun r _ => r = bl (p x))) :
    ACall Try.prog n_slices_ContainsFunc___impl_Got_impl_Got_ [.sl false 3 (l.map (Got.row false)), .fn f caps] (fun r _ => r = bl (l.any p)) := by
  refine fn_in h_slices_ContainsFunc___impl_Got_impl_Got_ r_slices_ContainsFunc___impl_Got_impl_Got_ ⟨by simp only [go_sem, caps_bare hcap, caps_pk hcap, caps_noM hcap, caps_lt hcap, caps_ids hcap], fun E hE hH => ?_⟩; simp only [go_sem, caps_bare hcap, caps_pk hcap, caps_noM hcap, caps_lt hcap, caps_ids hcap] at hE hH; simp only [go_sem, hE, hH, caps_bare hcap, caps_pk hcap, caps_noM hcap, caps_lt hcap, caps_ids hcap, c_slices_ContainsFunc___impl_Got_impl_Got_]
  refine ok_cv rfl (by simp only [zipF, argL, vwT, vwLeaf, vwRow_caps hcap, Bool.false_eq_true, if_false]; rfl) (IndexFunc_Got_ok l f caps p hent hcap hl hp) ?_
  try simp (disch := omega) only [go_sem, hE, hH, caps_bare hcap, caps_pk hcap, caps_noM hcap, caps_lt hcap, caps_ids hcap, ixf_any, vwC_ok hcap]
theorem ContainsFunc_Write_ok (l : List Write) (f : Nat) (caps : List T) (p : Write → Bool) (hent : entB Try.prog f = true) (hcap : caps.all T.cap = true) (hl : l.length ≤ maxLen) (hp : ∀ x, x ∈ l → ACall Try.prog f ([.agg (Write.row false x)] ++ caps) (fun r _ => r = bl (p x))) :
    ACall Try.prog n_slices_ContainsFunc___impl_Write_impl_Write_ [.sl false 3 (l.map (Write.row false)), .fn f caps] (fun r _ => r = bl (l.any p)) := by
  refine fn_in h_slices_ContainsFunc___impl_Write_impl_Write_ r_slices_ContainsFunc___impl_Write_impl_Write_ ⟨by simp only [go_sem, caps_bare hcap, caps_pk hcap, caps_noM hcap, caps_lt hcap, caps_ids hcap], fun E hE hH => ?_⟩; simp only [go_sem, caps_bare hcap, caps_pk hcap, caps_noM hcap, caps_lt hcap, caps_ids hcap] at hE hH; simp only [go_sem, hE, hH, caps_bare hcap, caps_pk hcap, caps_noM hcap, caps_lt hcap, caps_ids hcap, c_slices_ContainsFunc___impl_Write_impl_Write_]
  refine ok_cv rfl (by simp only [zipF, argL, vwT, vwLeaf, vwRow_caps hcap, Bool.false_eq_true, if_false]; rfl) (IndexFunc_Write_ok l f caps p hent hcap hl hp) ?_
  try simp (disch := omega) only [go_sem, hE, hH, caps_bare hcap, caps_pk hcap, caps_noM hcap, caps_lt hcap, caps_ids hcap, ixf_any, vwC_ok hcap]
theorem ContainsFunc_Int_ok (l : List Int) (f : Nat) (caps : List T) (p : Int → Bool) (hent : entB Try.prog f = true) (hcap : caps.all T.cap = true) (hl : l.length ≤ maxLen) (hp : ∀ x, x ∈ l → ACall Try.prog f ([i64 x] ++ caps) (fun r _ => r = bl (p x))) :
    ACall Try.prog n_slices_ContainsFunc___int_int_ [.sl false 1 (ints l), .fn f caps] (fun r _ => r = bl (l.any p)) := by
  refine fn_in h_slices_ContainsFunc___int_int_ r_slices_ContainsFunc___int_int_ ⟨by simp only [go_sem, caps_bare hcap, caps_pk hcap, caps_noM hcap, caps_lt hcap, caps_ids hcap], fun E hE hH => ?_⟩; simp only [go_sem, caps_bare hcap, caps_pk hcap, caps_noM hcap, caps_lt hcap, caps_ids hcap] at hE hH; simp only [go_sem, hE, hH, caps_bare hcap, caps_pk hcap, caps_noM hcap, caps_lt hcap, caps_ids hcap, c_slices_ContainsFunc___int_int_]
  refine ok_cv rfl (by simp only [zipF, argL, vwT, vwLeaf, vwRow_caps hcap, Bool.false_eq_true, if_false]; rfl) (IndexFunc_Int_ok l f caps p hent hcap hl hp) ?_
  try simp (disch := omega) only [go_sem, hE, hH, caps_bare hcap, caps_pk hcap, caps_noM hcap, caps_lt hcap, caps_ids hcap, ixf_any, vwC_ok hcap]
def bys (code : List Int) : List (List T) := code.map fun b => [.v (.int .u8 b)]
@[go_sem] theorem bys_eq (code : List Int) : bys code = code.map fun b => [.v (.int .u8 b)] := rfl
def rng (n lo hi : Int) : Bool := decide (lo ≤ n) && decide (n ≤ hi)
theorem rng_iff {n lo hi : Int} : rng n lo hi = true ↔ lo ≤ n ∧ n ≤ hi := by simp [rng]
theorem rng_no {n lo hi : Int} : rng n lo hi = false ↔ ¬ (lo ≤ n ∧ n ≤ hi) := by rw [← rng_iff]; simp
theorem within_ok (n lo hi : Int) : ACall Try.prog n_impl_within [i64 n, i64 lo, i64 hi] (fun r _ => r = bl (rng n lo hi)) := by
  refine fn_in h_impl_within r_impl_within ⟨by simp only [go_sem], fun E hE hH => ?_⟩; simp only [go_sem] at hE hH; simp only [go_sem, hE, hH, c_impl_within]
  repeat' (first | ((with_reducible first | refine gd_t ?_ ?_ | refine gd_f ?_ ?_) <;> (intro h; have hb := h; (try simp only [nf] at h); simp (disch := omega) only [go_sem, hE, hH, hb]; (try clear hb))) | ((with_reducible refine And.intro ?_ ?_); · omega) | (refine jn _ ?_ ?_) | (with_reducible refine both ?_ ?_) | (with_reducible refine And.intro ?_ ?_) | (refine fin_eq ?_; (try (simp (disch := omega) only [go_sem, hE, hH])); first | done | rfl) | (simp (disch := omega) only [go_sem, hE, hH]) | ((first | apply noMLL_sE | apply pk_sE) <;> (simp only [go_sem, hE, hH]; done)) | (simp only [go_sem, hE, hH]) | fail)
  all_goals (simp_all [rng]; try omega)
theorem l1In_ok (n lo hi : Int) : ACall Try.prog n_spec_l1In [i64 n, i64 lo, i64 hi] (fun r _ => r = bl (rng n lo hi)) := by
  refine fn_in h_spec_l1In r_spec_l1In ⟨by simp only [go_sem], fun E hE hH => ?_⟩; simp only [go_sem] at hE hH; simp only [go_sem, hE, hH, c_spec_l1In]
  repeat' (first | ((with_reducible first | refine gd_t ?_ ?_ | refine gd_f ?_ ?_) <;> (intro h; have hb := h; (try simp only [nf] at h); simp (disch := omega) only [go_sem, hE, hH, hb]; (try clear hb))) | ((with_reducible refine And.intro ?_ ?_); · omega) | (refine jn _ ?_ ?_) | (with_reducible refine both ?_ ?_) | (with_reducible refine And.intro ?_ ?_) | (refine fin_eq ?_; (try (simp (disch := omega) only [go_sem, hE, hH])); first | done | rfl) | (simp (disch := omega) only [go_sem, hE, hH]) | ((first | apply noMLL_sE | apply pk_sE) <;> (simp only [go_sem, hE, hH]; done)) | (simp only [go_sem, hE, hH]) | fail)
  all_goals (simp_all [rng]; try omega)
def lowc (b : Int) : Bool := (decide (97 ≤ b) && decide (b ≤ 122)) || (decide (48 ≤ b) && decide (b ≤ 57))
def hasc (more : ByteArray) (b : Int) : Bool := !allN (fun i => !decide (b = byt more i)) more.size
def hasB (s more : ByteArray) : Bool := allN (fun i => lowc (byt s i) || hasc more (byt s i)) s.size
def goodKey (s : ByteArray) : Bool := rng s.size 1 12 && hasB s ⟨⟨[46, 47]⟩⟩
def goodVal (s : ByteArray) : Bool := decide ((s.size : Int) ≤ 24) && hasB s ⟨⟨[46, 45, 44, 95]⟩⟩
theorem isLower_ok (b : Int) : ACall Try.prog n_impl_isLowerOrDigit [u8 b] (fun r _ => r = bl (lowc b)) := by
  refine fn_in h_impl_isLowerOrDigit r_impl_isLowerOrDigit ⟨by simp only [go_sem], fun E hE hH => ?_⟩; simp only [go_sem] at hE hH; simp only [go_sem, hE, hH, c_impl_isLowerOrDigit]
  repeat' (first | ((with_reducible first | refine gd_t ?_ ?_ | refine gd_f ?_ ?_) <;> (intro h; have hb := h; (try simp only [nf] at h); simp (disch := omega) only [go_sem, hE, hH, hb]; (try clear hb))) | ((with_reducible refine And.intro ?_ ?_); · omega) | (refine jn _ ?_ ?_) | (with_reducible refine both ?_ ?_) | (with_reducible refine And.intro ?_ ?_) | (refine fin_eq ?_; (try (simp (disch := omega) only [go_sem, hE, hH])); first | done | rfl) | (simp (disch := omega) only [go_sem, hE, hH]) | ((first | apply noMLL_sE | apply pk_sE) <;> (simp only [go_sem, hE, hH]; done)) | (simp only [go_sem, hE, hH]) | fail)
  all_goals (simp_all [lowc] <;> try omega)
theorem find_idx (s : ByteArray) (c : UInt8) : decide (firstIdx s c < 0) = allN (fun i => !decide ((c.toNat : Int) = byt s i)) s.size := by
  rw [Bool.eq_iff_iff, allN_iff, decide_eq_true_iff]
  have key : ∀ i, i < s.size → ((s[i]! == c) = true ↔ (c.toNat : Int) = byt s i) := by
    intro i hi
    have h1 : s[i]! = s.data.toList.getD i 0 := by
      rw [getElem!_pos s i hi]
      simp [ByteArray.getElem_eq_getElem_data, List.getD]
      rw [getElem?_pos _ _ (by simpa using hi)]
      simp
    rw [h1, byt, beq_iff_eq, ← UInt8.toNat_inj]
    omega
  unfold firstIdx
  cases hf : (List.range s.size).find? fun i => s[i]! == c with
  | some i =>
    dsimp only
    have h1 := List.find?_some hf
    have h2 : i < s.size := by simpa using List.mem_of_find?_eq_some hf
    constructor
    · intro h; omega
    · intro h
      have := h i h2
      rw [(key i h2).1 h1] at this
      simp at this
  | none =>
    dsimp only
    constructor
    · intro _ i hi
      have := List.find?_eq_none.1 hf i (by simpa using hi)
      simp only [Bool.not_eq_true', decide_eq_false_iff_not]
      exact fun e => this ((key i hi).2 e)
    · intro _; omega
theorem idx_run (s : ByteArray) (c : Int) (w : Go.World) : (callFunc n_internal_bytealg_IndexByteString #[.string s, .int .u8 c]).run Try.prog w = .ok (.value (.int .i64 (firstIdx s c.toNat.toUInt8))) w := by
  rw [run_callFunc_extern (e := Extern.BytealgIndexByte.indexByte) d_internal_bytealg_IndexByteString (by kernel_rfl) (by kernel_rfl) (by kernel_rfl) (by kernel_rfl), run_indexByte_string]
  rfl
theorem liteIndex_ok (s : ByteArray) (c : Int) : ACall Try.prog n_internal_stringslite_IndexByte [str s, u8 c] (fun r _ => r = i64 (firstIdx s c.toNat.toUInt8)) := by
  refine fn_in h_internal_stringslite_IndexByte r_internal_stringslite_IndexByte ⟨by simp only [go_sem], fun E hE hH => ?_⟩; simp only [go_sem] at hE hH; simp only [go_sem, hE, hH, c_internal_stringslite_IndexByte]
  refine ok_xcall (vs := [.string s, .int .u8 c]) rfl (idx_run s c) ?_
  try simp only [go_sem, hE, hH]
theorem indexByte_ok (s : ByteArray) (c : Int) : ACall Try.prog n_strings_IndexByte [str s, u8 c] (fun r _ => r = i64 (firstIdx s c.toNat.toUInt8)) := by
  refine fn_in h_strings_IndexByte r_strings_IndexByte ⟨by simp only [go_sem], fun E hE hH => ?_⟩; simp only [go_sem] at hE hH; simp only [go_sem, hE, hH, c_strings_IndexByte]
  repeat' (first | ((with_reducible first | refine gd_t ?_ ?_ | refine gd_f ?_ ?_) <;> (intro h; have hb := h; (try simp only [nf] at h); simp (disch := omega) only [go_sem, hE, hH, hb]; (try clear hb))) | ((with_reducible refine And.intro ?_ ?_); · omega) | ((first | refine ok_view ?_ | refine cvA (liteIndex_ok _ _) ?_); simp (disch := omega) only [go_sem, hE, hH]) | (refine jn _ ?_ ?_) | (with_reducible refine both ?_ ?_) | (with_reducible refine And.intro ?_ ?_) | (refine fin_eq ?_; (try (simp (disch := omega) only [go_sem, hE, hH])); first | done | rfl) | (simp (disch := omega) only [go_sem, hE, hH]) | ((first | apply noMLL_sE | apply pk_sE) <;> (simp only [go_sem, hE, hH]; done)) | (simp only [go_sem, hE, hH]) | fail)
theorem hasBytes_ok (s more : ByteArray) (hs : s.size ≤ maxLen) : ACall Try.prog n_impl_hasBytes [str s, str more] (fun r _ => r = bl (hasB s more)) := by
  have hm := mx_eq
  refine fn_in h_impl_hasBytes r_impl_hasBytes ⟨by simp only [go_sem], fun E hE hH => ?_⟩; simp only [go_sem] at hE hH; simp only [go_sem, hE, hH, c_impl_hasBytes]
  refine loopN s.size (fun j (_ : Unit) => ⟨[(0, str s), (1, str more), (7, i64 s.size), (8, i64 j)], []⟩) (fun j _ => allN (fun i => lowc (byt s i) || hasc more (byt s i)) j = true) () rfl ?_
  intro j _ hj hI
  try simp only [go_sem, hE, hH, c_impl_hasBytes_l1]
  first | refine gd_t (fun h => ?_) (fun h => ?_) | refine gd_f (fun h => ?_) (fun h => ?_)
  · have hb := h
    simp only [nf] at h
    have hlt := h; clear h
    have hf : decide (firstIdx more (byt s j).toNat.toUInt8 < 0) = !hasc more (byt s j) := by
      rw [find_idx, hasc, Bool.not_not]
      congr 1; funext i
      congr 2
      simp [byt]
    try simp (disch := omega) only [go_sem, hE, hH, hb]
    repeat' (first | ((with_reducible first | refine gd_t ?_ ?_ | refine gd_f ?_ ?_) <;> (intro h; have hb := h; (try simp only [nf] at h); simp (disch := omega) only [go_sem, hE, hH, hb]; (try clear hb))) | ((with_reducible refine And.intro ?_ ?_); · omega) | ((first | refine ok_view ?_ | refine cvA (isLower_ok _) ?_ | refine cvA (indexByte_ok _ _) ?_); simp (disch := omega) only [go_sem, hE, hH]) | (refine jn _ ?_ ?_) | (with_reducible refine both ?_ ?_) | (with_reducible refine And.intro ?_ ?_) | (refine fin_eq ?_; (try (simp (disch := omega) only [go_sem, hE, hH])); first | done | rfl) | (simp (disch := omega) only [go_sem, hE, hH]) | ((first | apply noMLL_sE | apply pk_sE) <;> (simp only [go_sem, hE, hH]; done)) | (simp only [go_sem, hE, hH]) | fail)
    · rw [decide_eq_true h] at hf
      rw [hasB, allN_no hlt (by simp_all)]
    · rw [decide_eq_false (by omega)] at hf
      exact ⟨(), rfl, allN_step hI (by simp_all)⟩
    · exact ⟨(), rfl, allN_step hI (by simp_all)⟩
  · try simp (disch := omega) only [go_sem, hE, hH, h]
    simp only [nf] at h
    rw [show j = s.size by omega] at hI
    rw [hasB, hI]
theorem l3Bytes_ok (s more : ByteArray) (hs : s.size ≤ maxLen) (hm : more.size ≤ maxLen) : ACall Try.prog n_spec_l3Bytes [str s, str more] (fun r _ => r = bl (hasB s more)) := by
  have hmx := mx_eq
  refine fn_in h_spec_l3Bytes r_spec_l3Bytes ⟨by simp only [go_sem], fun E hE hH => ?_⟩; simp only [go_sem] at hE hH; simp only [go_sem, hE, hH, c_spec_l3Bytes]
  refine loopN s.size (fun j (_ : Unit) => ⟨[(0, str s), (1, str more), (5, i64 j)], []⟩) (fun j _ => allN (fun i => lowc (byt s i) || hasc more (byt s i)) j = true) () rfl ?_
  intro j _ hj hI
  try simp only [go_sem, hE, hH, c_spec_l3Bytes_l2]
  first | refine gd_t (fun h => ?_) (fun h => ?_) | refine gd_f (fun h => ?_) (fun h => ?_)
  · have hb := h
    simp only [nf] at h
    have hlt := h; clear h
    try simp (disch := omega) only [go_sem, hE, hH, hb]
    repeat' (first | ((with_reducible first | refine gd_t ?_ ?_ | refine gd_f ?_ ?_) <;> (intro h; have hb := h; (try simp only [nf] at h); simp (disch := omega) only [go_sem, hE, hH, hb]; (try clear hb))) | ((with_reducible refine And.intro ?_ ?_); · omega) | (refine jn _ ?_ ?_) | (with_reducible refine both ?_ ?_) | (with_reducible refine And.intro ?_ ?_) | (refine fin_eq ?_; (try (simp (disch := omega) only [go_sem, hE, hH])); first | done | rfl) | (simp (disch := omega) only [go_sem, hE, hH]) | ((first | apply noMLL_sE | apply pk_sE) <;> (simp only [go_sem, hE, hH]; done)) | (simp only [go_sem, hE, hH]) | fail)
    all_goals (
      refine loopNe more.size (fun k (_ : Unit) => ⟨[(0, str s), (1, str more), (5, i64 j), (6, bl (lowc (byt s j) || !allN (fun i => !decide (byt s j = byt more i)) k)), (7, i64 k)], []⟩) (fun _ _ => True) () ?_ trivial ?_
      · simp_all [lowc, allN]
        try omega
      intro k _ hk _
      try simp only [go_sem, hE, hH, c_spec_l3Bytes_l1]
      first | refine gd_t (fun h => ?_) (fun h => ?_) | refine gd_f (fun h => ?_) (fun h => ?_)
      · try simp (disch := omega) only [go_sem, hE, hH, h]
        simp only [nf] at h
        repeat' (first | ((with_reducible first | refine gd_t ?_ ?_ | refine gd_f ?_ ?_) <;> (intro h; have hb := h; (try simp only [nf] at h); simp (disch := omega) only [go_sem, hE, hH, hb]; (try clear hb))) | ((with_reducible refine And.intro ?_ ?_); · omega) | (refine jn _ ?_ ?_) | (with_reducible refine both ?_ ?_) | (with_reducible refine And.intro ?_ ?_) | (refine fin_eq ?_; (try (simp (disch := omega) only [go_sem, hE, hH])); first | done | rfl) | (simp (disch := omega) only [go_sem, hE, hH]) | ((first | apply noMLL_sE | apply pk_sE) <;> (simp only [go_sem, hE, hH]; done)) | (simp only [go_sem, hE, hH]) | fail)
        · exact ⟨(), by simp_all [allN]; rcases h with h | h <;> simp [h]⟩
        · exact ⟨(), by simp_all [allN]⟩
      · try simp (disch := omega) only [go_sem, hE, hH, h]
        simp only [nf] at h
        rw [show k = more.size by omega]
        repeat' (first | ((with_reducible first | refine gd_t ?_ ?_ | refine gd_f ?_ ?_) <;> (intro h; have hb := h; (try simp only [nf] at h); simp (disch := omega) only [go_sem, hE, hH, hb]; (try clear hb))) | ((with_reducible refine And.intro ?_ ?_); · omega) | (refine jn _ ?_ ?_) | (with_reducible refine both ?_ ?_) | (with_reducible refine And.intro ?_ ?_) | (refine fin_eq ?_; (try (simp (disch := omega) only [go_sem, hE, hH])); first | done | rfl) | (simp (disch := omega) only [go_sem, hE, hH]) | ((first | apply noMLL_sE | apply pk_sE) <;> (simp only [go_sem, hE, hH]; done)) | (simp only [go_sem, hE, hH]) | fail)
        · rw [hasB, allN_no hlt (by simp_all [hasc])]
        · exact ⟨(), rfl, allN_step hI (by simp_all [hasc])⟩)
  · try simp (disch := omega) only [go_sem, hE, hH, h]
    simp only [nf] at h
    rw [show j = s.size by omega] at hI
    rw [hasB, hI]
theorem GoodKey_ok (s : ByteArray) (hs : s.size ≤ maxLen) : ACall Try.prog n_impl_GoodKey [str s] (fun r _ => r = bl (goodKey s)) := by
  refine fn_in h_impl_GoodKey r_impl_GoodKey ⟨by simp only [go_sem], fun E hE hH => ?_⟩; simp only [go_sem] at hE hH; simp only [go_sem, hE, hH, c_impl_GoodKey]
  repeat' (first | ((with_reducible first | refine gd_t ?_ ?_ | refine gd_f ?_ ?_) <;> (intro h; have hb := h; (try simp only [nf] at h); simp (disch := omega) only [go_sem, hE, hH, hb]; (try clear hb))) | ((with_reducible refine And.intro ?_ ?_); · omega) | ((first | refine ok_view ?_ | refine cvA (within_ok _ _ _) ?_ | refine cvA (hasBytes_ok _ _ hs) ?_); simp (disch := omega) only [go_sem, hE, hH]) | (refine jn _ ?_ ?_) | (with_reducible refine both ?_ ?_) | (with_reducible refine And.intro ?_ ?_) | (refine fin_eq ?_; (try (simp (disch := omega) only [go_sem, hE, hH])); first | done | rfl) | (simp (disch := omega) only [go_sem, hE, hH]) | ((first | apply noMLL_sE | apply pk_sE) <;> (simp only [go_sem, hE, hH]; done)) | (simp only [go_sem, hE, hH]) | fail)
  all_goals simp_all [goodKey]
theorem l3Key_ok (s : ByteArray) (hs : s.size ≤ maxLen) : ACall Try.prog n_spec_l3Key [str s] (fun r _ => r = bl (goodKey s)) := by
  refine fn_in h_spec_l3Key r_spec_l3Key ⟨by simp only [go_sem], fun E hE hH => ?_⟩; simp only [go_sem] at hE hH; simp only [go_sem, hE, hH, c_spec_l3Key]
  repeat' (first | ((with_reducible first | refine gd_t ?_ ?_ | refine gd_f ?_ ?_) <;> (intro h; have hb := h; (try simp only [nf] at h); simp (disch := omega) only [go_sem, hE, hH, hb]; (try clear hb))) | ((with_reducible refine And.intro ?_ ?_); · omega) | ((first | refine ok_view ?_ | refine cvA (l1In_ok _ _ _) ?_ | refine cvA (l3Bytes_ok _ _ hs (by decide)) ?_); simp (disch := omega) only [go_sem, hE, hH]) | (refine jn _ ?_ ?_) | (with_reducible refine both ?_ ?_) | (with_reducible refine And.intro ?_ ?_) | (refine fin_eq ?_; (try (simp (disch := omega) only [go_sem, hE, hH])); first | done | rfl) | (simp (disch := omega) only [go_sem, hE, hH]) | ((first | apply noMLL_sE | apply pk_sE) <;> (simp only [go_sem, hE, hH]; done)) | (simp only [go_sem, hE, hH]) | fail)
  all_goals simp_all [goodKey]
def risB (l : List ByteArray) : Bool := allN (fun i => goodKey (nth l i) && (decide (i = 0) || strLt (nth l (i - 1)) (nth l i))) l.length
theorem areRising_ok (l : List ByteArray) (hl : limL (fun s => s.size ≤ maxLen) l) : ACall Try.prog n_impl_areRising [.sl false 1 (strs l)] (fun r _ => r = bl (risB l)) := by
  obtain ⟨hl, hx⟩ := hl
  have hmx := mx_eq
  refine fn_in h_impl_areRising r_impl_areRising ⟨by simp only [go_sem], fun E hE hH => ?_⟩; simp only [go_sem] at hE hH; simp only [go_sem, hE, hH, c_impl_areRising]
  refine loopN l.length (fun j (_ : Unit) => ⟨[(0, .sl false 1 (strs l)), (5, .sl false 1 (strs l)), (6, i64 l.length), (7, i64 j)], []⟩) (fun j _ => allN (fun i => goodKey (nth l i) && (decide (i = 0) || strLt (nth l (i - 1)) (nth l i))) j = true) () rfl ?_
  intro j _ hj hI
  try simp only [go_sem, hE, hH, c_impl_areRising_l1]
  first | refine gd_t (fun h => ?_) (fun h => ?_) | refine gd_f (fun h => ?_) (fun h => ?_)
  · have hb := h
    simp only [nf] at h
    have hlt := h; clear h
    have hs := hx _ (nth_mem hlt)
    try simp (disch := omega) only [go_sem, hE, hH, hb]
    repeat' (first | ((with_reducible first | refine gd_t ?_ ?_ | refine gd_f ?_ ?_) <;> (intro h; have hb := h; (try simp only [nf] at h); simp (disch := omega) only [go_sem, hE, hH, hb]; (try clear hb))) | ((with_reducible refine And.intro ?_ ?_); · omega) | ((first | refine ok_view ?_ | refine cvA (GoodKey_ok _ (by assumption)) ?_); simp (disch := omega) only [go_sem, hE, hH]) | (refine jn _ ?_ ?_) | (with_reducible refine both ?_ ?_) | (with_reducible refine And.intro ?_ ?_) | (refine fin_eq ?_; (try (simp (disch := omega) only [go_sem, hE, hH])); first | done | rfl) | (simp (disch := omega) only [go_sem, hE, hH]) | ((first | apply noMLL_sE | apply pk_sE) <;> (simp only [go_sem, hE, hH]; done)) | (simp only [go_sem, hE, hH]) | fail)
    · rw [risB, allN_no hlt (by simp_all)]
    · rw [risB, allN_no hlt (by simp_all <;> omega)]
    · exact ⟨(), rfl, allN_step hI (by simp_all)⟩
    · exact ⟨(), rfl, allN_step hI (by simp_all <;> omega)⟩
  · try simp (disch := omega) only [go_sem, hE, hH, h]
    simp only [nf] at h
    rw [show j = l.length by omega] at hI
    rw [risB, hI]
theorem l1Own_ok (l : List Int) (hl : l.length ≤ 2 ^ 20) : ACall Try.prog n_spec_l1Own [.sl false 1 (ints l)] (fun r _ => r = .sl true 1 (ints l)) := by
  refine fn_in h_spec_l1Own r_spec_l1Own ⟨by simp only [go_sem], fun E hE hH => ?_⟩; simp only [go_sem] at hE hH; simp only [go_sem, hE, hH, c_spec_l1Own]
  try simp (disch := omega) only [go_sem, hE, hH]
  omega
def stored (v : ByteArray) (gone : Bool) : Bool := goodVal v && !(gone && !decide (v = ⟨⟨[]⟩⟩))
theorem nth_map {α β : Type} [Inhabited α] [Inhabited β] {f : α → β} {l : List α} {i : Nat} (h : i < l.length) : nth (l.map f) i = f (nth l i) := by
  rw [nth_lt (by simpa using h), nth_lt h, List.getElem_map]
theorem GoodVal_ok (s : ByteArray) (hs : s.size ≤ maxLen) : ACall Try.prog n_impl_GoodVal [str s] (fun r _ => r = bl (goodVal s)) := by
  refine fn_in h_impl_GoodVal r_impl_GoodVal ⟨by simp only [go_sem], fun E hE hH => ?_⟩; simp only [go_sem] at hE hH; simp only [go_sem, hE, hH, c_impl_GoodVal]
  repeat' (first | ((with_reducible first | refine gd_t ?_ ?_ | refine gd_f ?_ ?_) <;> (intro h; have hb := h; (try simp only [nf] at h); simp (disch := omega) only [go_sem, hE, hH, hb]; (try clear hb))) | ((with_reducible refine And.intro ?_ ?_); · omega) | ((first | refine ok_view ?_ | refine cvA (hasBytes_ok _ _ hs) ?_); simp (disch := omega) only [go_sem, hE, hH]) | (refine jn _ ?_ ?_) | (with_reducible refine both ?_ ?_) | (with_reducible refine And.intro ?_ ?_) | (refine fin_eq ?_; (try (simp (disch := omega) only [go_sem, hE, hH])); first | done | rfl) | (simp (disch := omega) only [go_sem, hE, hH]) | ((first | apply noMLL_sE | apply pk_sE) <;> (simp only [go_sem, hE, hH]; done)) | (simp only [go_sem, hE, hH]) | fail)
  all_goals (first | (simp_all [goodVal]; done) | (simp_all [goodVal] <;> first | omega | (intros; omega)))
theorem l3Val_ok (s : ByteArray) (hs : s.size ≤ maxLen) : ACall Try.prog n_spec_l3Val [str s] (fun r _ => r = bl (goodVal s)) := by
  refine fn_in h_spec_l3Val r_spec_l3Val ⟨by simp only [go_sem], fun E hE hH => ?_⟩; simp only [go_sem] at hE hH; simp only [go_sem, hE, hH, c_spec_l3Val]
  repeat' (first | ((with_reducible first | refine gd_t ?_ ?_ | refine gd_f ?_ ?_) <;> (intro h; have hb := h; (try simp only [nf] at h); simp (disch := omega) only [go_sem, hE, hH, hb]; (try clear hb))) | ((with_reducible refine And.intro ?_ ?_); · omega) | ((first | refine ok_view ?_ | refine cvA (l3Bytes_ok _ _ hs (by decide)) ?_); simp (disch := omega) only [go_sem, hE, hH]) | (refine jn _ ?_ ?_) | (with_reducible refine both ?_ ?_) | (with_reducible refine And.intro ?_ ?_) | (refine fin_eq ?_; (try (simp (disch := omega) only [go_sem, hE, hH])); first | done | rfl) | (simp (disch := omega) only [go_sem, hE, hH]) | ((first | apply noMLL_sE | apply pk_sE) <;> (simp only [go_sem, hE, hH]; done)) | (simp only [go_sem, hE, hH]) | fail)
  all_goals (first | (simp_all [goodVal]; done) | (simp_all [goodVal] <;> first | omega | (intros; omega)))
theorem isStored_ok (s : ByteArray) (g : Bool) (hs : s.size ≤ maxLen) : ACall Try.prog n_impl_isStored [str s, bl g] (fun r _ => r = bl (stored s g)) := by
  refine fn_in h_impl_isStored r_impl_isStored ⟨by simp only [go_sem], fun E hE hH => ?_⟩; simp only [go_sem] at hE hH; simp only [go_sem, hE, hH, c_impl_isStored]
  repeat' (first | ((with_reducible first | refine gd_t ?_ ?_ | refine gd_f ?_ ?_) <;> (intro h; have hb := h; (try simp only [nf] at h); simp (disch := omega) only [go_sem, hE, hH, hb]; (try clear hb))) | ((with_reducible refine And.intro ?_ ?_); · omega) | ((first | refine ok_view ?_ | refine cvA (GoodVal_ok _ hs) ?_); simp (disch := omega) only [go_sem, hE, hH]) | (refine jn _ ?_ ?_) | (with_reducible refine both ?_ ?_) | (with_reducible refine And.intro ?_ ?_) | (refine fin_eq ?_; (try (simp (disch := omega) only [go_sem, hE, hH])); first | done | rfl) | (simp (disch := omega) only [go_sem, hE, hH]) | ((first | apply noMLL_sE | apply pk_sE) <;> (simp only [go_sem, hE, hH]; done)) | (simp only [go_sem, hE, hH]) | fail)
  all_goals simp_all [stored]
theorem l3Write_ok (k s : ByteArray) (g : Bool) (hk : k.size ≤ maxLen) (hs : s.size ≤ maxLen) : ACall Try.prog n_spec_l3Write [str k, str s, bl g] (fun r _ => r = bl (goodKey k && stored s g)) := by
  refine fn_in h_spec_l3Write r_spec_l3Write ⟨by simp only [go_sem], fun E hE hH => ?_⟩; simp only [go_sem] at hE hH; simp only [go_sem, hE, hH, c_spec_l3Write]
  repeat' (first | ((with_reducible first | refine gd_t ?_ ?_ | refine gd_f ?_ ?_) <;> (intro h; have hb := h; (try simp only [nf] at h); simp (disch := omega) only [go_sem, hE, hH, hb]; (try clear hb))) | ((with_reducible refine And.intro ?_ ?_); · omega) | ((first | refine ok_view ?_ | refine cvA (l3Key_ok _ hk) ?_ | refine cvA (l3Val_ok _ hs) ?_); simp (disch := omega) only [go_sem, hE, hH]) | (refine jn _ ?_ ?_) | (with_reducible refine both ?_ ?_) | (with_reducible refine And.intro ?_ ?_) | (refine fin_eq ?_; (try (simp (disch := omega) only [go_sem, hE, hH])); first | done | rfl) | (simp (disch := omega) only [go_sem, hE, hH]) | ((first | apply noMLL_sE | apply pk_sE) <;> (simp only [go_sem, hE, hH]; done)) | (simp only [go_sem, hE, hH]) | fail)
  all_goals simp_all [stored]
def goodWrites (l : List Write) : Bool := decide ((l.length : Int) ≤ 24) && allN (fun i => (goodKey (nth l i).Key && stored (nth l i).Val (nth l i).Gone) && (decide (i = 0) || strLt (nth l (i - 1)).Key (nth l i).Key)) l.length
theorem goodWrites_eq (l : List Write) : goodWrites l = (decide ((l.length : Int) ≤ 24) && risB (l.map (·.Key)) && !l.any fun w => !stored w.Val w.Gone) := by
  have h1 : (!l.any fun w => !stored w.Val w.Gone) = allN (fun i => stored (nth l i).Val (nth l i).Gone) l.length := by
    rw [allN_all (p := fun w : Write => stored w.Val w.Gone)]
    simp [List.any_eq_not_all_not]
  have h2 : risB (l.map (·.Key)) = allN (fun i => goodKey (nth l i).Key && (decide (i = 0) || strLt (nth l (i - 1)).Key (nth l i).Key)) l.length := by
    unfold risB
    rw [List.length_map]
    refine allN_congr fun i hi => ?_
    rw [nth_map hi, nth_map (by omega)]
  rw [h1, h2, goodWrites, Bool.and_assoc]
  congr 1
  rw [Bool.eq_iff_iff, Bool.and_eq_true, allN_iff, allN_iff, allN_iff]
  constructor
  · intro h
    exact ⟨fun i hi => by have := h i hi; simp only [Bool.and_eq_true] at this ⊢; exact ⟨this.1.1, this.2⟩, fun i hi => by have := h i hi; simp only [Bool.and_eq_true] at this ⊢; exact this.1.2⟩
  · rintro ⟨ha, hb⟩ i hi
    have ha := ha i hi; have hb := hb i hi
    simp only [Bool.and_eq_true] at ha hb ⊢
    exact ⟨⟨ha.1, hb⟩, ha.2⟩
theorem writeKeys_ok (l : List Write) (hl : l.length ≤ 2 ^ 20) : ACall Try.prog n_impl_writeKeys [.sl false 3 (l.map (Write.row false))] (fun r _ => r = .sl true 1 (strs (l.map (·.Key)))) := by
  refine fn_in h_impl_writeKeys r_impl_writeKeys ⟨by simp only [go_sem], fun E hE hH => ?_⟩; simp only [go_sem] at hE hH; simp only [go_sem, hE, hH, c_impl_writeKeys]
  refine loopNe l.length (fun j (x : List ByteArray) => ⟨[(3, .ref 4000000 0 x.length), (7, .sl false 3 (l.map (Write.row false))), (8, i64 l.length), (9, i64 j)], [(4000000, ⟨1, strs x⟩)]⟩) (fun j x => x = (l.take j).map (·.Key)) [] (by simp) (by simp) ?_
  intro j x hj hx
  have hlen : x.length = j := by rw [hx]; simp; omega
  try simp only [go_sem, hE, hH, c_impl_writeKeys_l1]
  first | refine gd_t (fun h => ?_) (fun h => ?_) | refine gd_f (fun h => ?_) (fun h => ?_)
  · have hb := h
    simp only [nf] at h
    try simp (disch := omega) only [go_sem, hE, hH, hb]
    refine ⟨by omega, by omega, by omega, ?_⟩
    rw [take_nth h, List.map_append, ← hx]
    simp [hlen]; omega
  · have hb := h
    simp only [nf] at h
    try simp (disch := omega) only [go_sem, hE, hH, hb]
    rw [hx, show j = l.length by omega, List.take_length]
theorem GoodWrites_1_ok (w : Write) (hw : w.wf) : ACall Try.prog n_impl_GoodWrites_1 [.agg (Write.row false w)] (fun r _ => r = bl (!stored w.Val w.Gone)) := by
  obtain ⟨w1, w2⟩ := hw
  refine fn_in h_impl_GoodWrites_1 r_impl_GoodWrites_1 ⟨by simp only [go_sem], fun E hE hH => ?_⟩; simp only [go_sem] at hE hH; simp only [go_sem, hE, hH, c_impl_GoodWrites_1]
  repeat' (first | ((with_reducible first | refine gd_t ?_ ?_ | refine gd_f ?_ ?_) <;> (intro h; have hb := h; (try simp only [nf] at h); simp (disch := omega) only [go_sem, hE, hH, hb]; (try clear hb))) | ((with_reducible refine And.intro ?_ ?_); · omega) | ((first | refine ok_view ?_ | refine cvA (isStored_ok _ _ w2) ?_); simp (disch := omega) only [go_sem, hE, hH]) | (refine jn _ ?_ ?_) | (with_reducible refine both ?_ ?_) | (with_reducible refine And.intro ?_ ?_) | (refine fin_eq ?_; (try (simp (disch := omega) only [go_sem, hE, hH])); first | done | rfl) | (simp (disch := omega) only [go_sem, hE, hH]) | ((first | apply noMLL_sE | apply pk_sE) <;> (simp only [go_sem, hE, hH]; done)) | (simp only [go_sem, hE, hH]) | fail)
theorem GoodWrites_ok (l : List Write) (hl : wfL Write.wf l) : ACall Try.prog n_impl_GoodWrites [.sl false 3 (l.map (Write.row false))] (fun r _ => r = bl (goodWrites l)) := by
  obtain ⟨hl, hx⟩ := hl
  have hmx := mx_eq
  have hr : limL (fun s : ByteArray => s.size ≤ maxLen) (l.map (·.Key)) := ⟨by simpa using hl, fun s hs => by obtain ⟨w, hw, rfl⟩ := List.mem_map.1 hs; exact (hx w hw).1⟩
  rw [goodWrites_eq]
  refine fn_in h_impl_GoodWrites r_impl_GoodWrites ⟨by simp only [go_sem], fun E hE hH => ?_⟩; simp only [go_sem] at hE hH; simp only [go_sem, hE, hH, c_impl_GoodWrites]
  repeat' (first | ((with_reducible first | refine gd_t ?_ ?_ | refine gd_f ?_ ?_) <;> (intro h; have hb := h; (try simp only [nf] at h); simp (disch := omega) only [go_sem, hE, hH, hb]; (try clear hb))) | ((with_reducible refine And.intro ?_ ?_); · omega) | ((first | refine ok_view ?_ | refine cvA (writeKeys_ok l (by omega)) ?_ | refine cvA (areRising_ok _ hr) ?_ | refine cvA (ContainsFunc_Write_ok l _ [] (fun w => !stored w.Val w.Gone) (by kernel_rfl) rfl hl (fun w hw => GoodWrites_1_ok w (hx w hw))) ?_); simp (disch := omega) only [go_sem, hE, hH]) | (refine jn _ ?_ ?_) | (with_reducible refine both ?_ ?_) | (with_reducible refine And.intro ?_ ?_) | (refine fin_eq ?_; (try (simp (disch := omega) only [go_sem, hE, hH])); first | done | rfl) | (simp (disch := omega) only [go_sem, hE, hH]) | ((first | apply noMLL_sE | apply pk_sE) <;> (simp only [go_sem, hE, hH]; done)) | (simp only [go_sem, hE, hH]) | fail)
  all_goals (first | (simp_all []; done) | (simp_all [] <;> first | omega | (intros; omega)))
theorem l3Writes_ok (l : List Write) (hl : wfL Write.wf l) : ACall Try.prog n_spec_l3Writes [.sl false 3 (l.map (Write.row false))] (fun r _ => r = bl (goodWrites l)) := by
  obtain ⟨hl, hx⟩ := hl
  have hmx := mx_eq
  refine fn_in h_spec_l3Writes r_spec_l3Writes ⟨by simp only [go_sem], fun E hE hH => ?_⟩; simp only [go_sem] at hE hH; simp only [go_sem, hE, hH, c_spec_l3Writes]
  refine loopN l.length (fun j (_ : Unit) => ⟨[(0, .sl false 3 (l.map (Write.row false))), (5, .sl false 3 (l.map (Write.row false))), (6, i64 l.length), (7, i64 j)], []⟩) (fun j _ => allN (fun i => (goodKey (nth l i).Key && stored (nth l i).Val (nth l i).Gone) && (decide (i = 0) || strLt (nth l (i - 1)).Key (nth l i).Key)) j = true) () rfl ?_
  intro j _ hj hI
  try simp only [go_sem, hE, hH, c_spec_l3Writes_l1]
  first | refine gd_t (fun h => ?_) (fun h => ?_) | refine gd_f (fun h => ?_) (fun h => ?_)
  · have hb := h
    simp only [nf] at h
    have hlt := h; clear h
    obtain ⟨w1, w2⟩ := hx _ (nth_mem hlt)
    try simp (disch := omega) only [go_sem, hE, hH, hb]
    repeat' (first | ((with_reducible first | refine gd_t ?_ ?_ | refine gd_f ?_ ?_) <;> (intro h; have hb := h; (try simp only [nf] at h); simp (disch := omega) only [go_sem, hE, hH, hb]; (try clear hb))) | ((with_reducible refine And.intro ?_ ?_); · omega) | ((first | refine ok_view ?_ | refine cvA (l3Write_ok _ _ _ w1 w2) ?_); simp (disch := omega) only [go_sem, hE, hH]) | (refine jn _ ?_ ?_) | (with_reducible refine both ?_ ?_) | (with_reducible refine And.intro ?_ ?_) | (refine fin_eq ?_; (try (simp (disch := omega) only [go_sem, hE, hH])); first | done | rfl) | (simp (disch := omega) only [go_sem, hE, hH]) | ((first | apply noMLL_sE | apply pk_sE) <;> (simp only [go_sem, hE, hH]; done)) | (simp only [go_sem, hE, hH]) | fail)
    · rw [goodWrites, allN_no hlt (by simp_all)]; simp
    · rw [goodWrites, allN_no hlt (by simp_all <;> omega)]; simp
    · first | exact ⟨(), rfl, allN_step hI (by simp_all <;> omega)⟩ | exact ⟨by omega, (), rfl, allN_step hI (by simp_all <;> omega)⟩ | exact ⟨by omega, by omega, (), rfl, allN_step hI (by simp_all <;> omega)⟩
    · first | exact ⟨(), rfl, allN_step hI (by simp_all <;> omega)⟩ | exact ⟨by omega, (), rfl, allN_step hI (by simp_all <;> omega)⟩ | exact ⟨by omega, by omega, (), rfl, allN_step hI (by simp_all <;> omega)⟩
  · try simp (disch := omega) only [go_sem, hE, hH, h]
    simp only [nf] at h
    rw [show j = l.length by omega] at hI
    rw [goodWrites, hI]
    simp
def goodGots (l : List Got) : Bool := allN (fun i => (goodKey (nth l i).Key && stored (nth l i).Val (!(nth l i).There)) && !(l.take i).any fun h => decide (h.Key = (nth l i).Key)) l.length && decide ((l.length : Int) ≤ 8)
theorem areGot_1_ok (h g : Got) : ACall Try.prog n_impl_areGot_1 ([.agg (Got.row false h)] ++ [.bx false (Got.row false g)]) (fun r _ => r = bl (decide (h.Key = g.Key))) := by
  refine fn_in h_impl_areGot_1 r_impl_areGot_1 ⟨by simp only [go_sem], fun E hE hH => ?_⟩; simp only [go_sem] at hE hH; simp only [go_sem, hE, hH, c_impl_areGot_1]
  try simp (disch := omega) only [go_sem, hE, hH]
theorem areGot_ok (l : List Got) (hl : wfL Got.wf l) : ACall Try.prog n_impl_areGot [.sl false 3 (l.map (Got.row false))] (fun r _ => r = bl (goodGots l)) := by
  obtain ⟨hl, hx⟩ := hl
  have hmx := mx_eq
  refine fn_in h_impl_areGot r_impl_areGot ⟨by simp only [go_sem], fun E hE hH => ?_⟩; simp only [go_sem] at hE hH; simp only [go_sem, hE, hH, c_impl_areGot]
  refine loopN l.length (fun j (_ : Unit) => ⟨[(0, .sl false 3 (l.map (Got.row false))), (5, .sl false 3 (l.map (Got.row false))), (6, i64 l.length), (7, i64 j)], []⟩) (fun j _ => allN (fun i => (goodKey (nth l i).Key && stored (nth l i).Val (!(nth l i).There)) && !(l.take i).any fun h => decide (h.Key = (nth l i).Key)) j = true) () rfl ?_
  intro j _ hj hI
  try simp only [go_sem, hE, hH, c_impl_areGot_l1]
  first | refine gd_t (fun h => ?_) (fun h => ?_) | refine gd_f (fun h => ?_) (fun h => ?_)
  · have hb := h
    simp only [nf] at h
    have hlt := h; clear h
    obtain ⟨w1, w2⟩ := hx _ (nth_mem hlt)
    have ht : ((l.map (Got.row false)).take j) = (l.take j).map (Got.row false) := by rw [List.map_take]
    try simp (disch := omega) only [go_sem, hE, hH, hb, ht]
    repeat' (first | ((with_reducible first | refine gd_t ?_ ?_ | refine gd_f ?_ ?_) <;> (intro h; have hb := h; (try simp only [nf] at h); simp (disch := omega) only [go_sem, hE, hH, hb]; (try clear hb))) | ((with_reducible refine And.intro ?_ ?_); · omega) | ((first | refine ok_view ?_ | refine cvA (GoodKey_ok _ w1) ?_ | refine cvA (isStored_ok _ _ w2) ?_ | refine cvA (ContainsFunc_Got_ok (l.take j) _ [.bx false (Got.row false (nth l j))] (fun h => decide (h.Key = (nth l j).Key)) (by kernel_rfl) rfl (by rw [List.length_take]; omega) (fun h _ => areGot_1_ok h _)) ?_); simp (disch := omega) only [go_sem, hE, hH]) | (refine jn _ ?_ ?_) | (with_reducible refine both ?_ ?_) | (with_reducible refine And.intro ?_ ?_) | (refine fin_eq ?_; (try (simp (disch := omega) only [go_sem, hE, hH])); first | done | rfl) | (simp (disch := omega) only [go_sem, hE, hH]) | ((first | apply noMLL_sE | apply pk_sE) <;> (simp only [go_sem, hE, hH]; done)) | (simp only [go_sem, hE, hH]) | fail)
    · rw [goodGots, allN_no hlt (by simp_all)]; simp
    · rw [goodGots, allN_no hlt (by simp_all)]; simp
    · rw [goodGots, allN_no hlt (by simp_all)]; simp
    · first | exact ⟨(), rfl, allN_step hI (by simp_all)⟩ | exact ⟨by omega, (), rfl, allN_step hI (by simp_all)⟩ | exact ⟨by omega, by omega, (), rfl, allN_step hI (by simp_all)⟩
  · try simp (disch := omega) only [go_sem, hE, hH, h]
    simp only [nf] at h
    rw [show j = l.length by omega] at hI
    rw [goodGots, hI]
    simp
theorem l5Gots_ok (l : List Got) (hl : wfL Got.wf l) : ACall Try.prog n_spec_l5Gots [.sl false 3 (l.map (Got.row false))] (fun r _ => r = bl (goodGots l)) := by
  obtain ⟨hl, hx⟩ := hl
  have hmx := mx_eq
  refine fn_in h_spec_l5Gots r_spec_l5Gots ⟨by simp only [go_sem], fun E hE hH => ?_⟩; simp only [go_sem] at hE hH; simp only [go_sem, hE, hH, c_spec_l5Gots]
  refine loopN l.length (fun j (_ : Unit) => ⟨[(0, .sl false 3 (l.map (Got.row false))), (7, .sl false 3 (l.map (Got.row false))), (8, i64 l.length), (9, i64 j)], []⟩) (fun j _ => allN (fun i => (goodKey (nth l i).Key && stored (nth l i).Val (!(nth l i).There)) && !(l.take i).any fun h => decide (h.Key = (nth l i).Key)) j = true) () rfl ?_
  intro j _ hj hI
  try simp only [go_sem, hE, hH, c_spec_l5Gots_l2]
  first | refine gd_t (fun h => ?_) (fun h => ?_) | refine gd_f (fun h => ?_) (fun h => ?_)
  · have hb := h
    simp only [nf] at h
    have hlt := h; clear h
    obtain ⟨w1, w2⟩ := hx _ (nth_mem hlt)
    try simp (disch := omega) only [go_sem, hE, hH, hb]
    repeat' (first | ((with_reducible first | refine gd_t ?_ ?_ | refine gd_f ?_ ?_) <;> (intro h; have hb := h; (try simp only [nf] at h); simp (disch := omega) only [go_sem, hE, hH, hb]; (try clear hb))) | ((with_reducible refine And.intro ?_ ?_); · omega) | ((first | refine ok_view ?_ | refine cvA (l3Key_ok _ w1) ?_ | refine cvA (l3Val_ok _ w2) ?_); simp (disch := omega) only [go_sem, hE, hH]) | (refine jn _ ?_ ?_) | (with_reducible refine both ?_ ?_) | (with_reducible refine And.intro ?_ ?_) | (refine fin_eq ?_; (try (simp (disch := omega) only [go_sem, hE, hH])); first | done | rfl) | (simp (disch := omega) only [go_sem, hE, hH]) | ((first | apply noMLL_sE | apply pk_sE) <;> (simp only [go_sem, hE, hH]; done)) | (simp only [go_sem, hE, hH]) | fail)
    · rw [goodGots, allN_no hlt (by simp_all)]; simp
    · rw [goodGots, allN_no hlt (by simp_all [stored])]; simp
    · rw [goodGots, allN_no hlt (by simp_all [stored])]; simp
    · have hlj : (l.take j).length = j := by rw [List.length_take]; omega
      refine loopN (l.take j).length (fun k (_ : Unit) => ⟨[(0, .sl false 3 (l.map (Got.row false))), (4, .ptr 5000000 0 0), (7, .sl false 3 (l.map (Got.row false))), (8, i64 l.length), (9, i64 j), (36, .sl false 3 ((l.take j).map (Got.row false))), (37, i64 (l.take j).length), (38, i64 k)], [(5000000, ⟨3, [Got.row false (nth l j)]⟩)]⟩) (fun k _ => allN (fun i => !decide ((nth (l.take j) i).Key = (nth l j).Key)) k = true) () rfl ?_
      intro k _ hk hK
      try simp only [go_sem, hE, hH, c_spec_l5Gots_l1]
      first | refine gd_t (fun h2 => ?_) (fun h2 => ?_) | refine gd_f (fun h2 => ?_) (fun h2 => ?_)
      · have hb2 := h2
        simp only [nf] at h2
        have hlt2 : k < (l.take j).length := by omega
        try simp (disch := omega) only [go_sem, hE, hH, hb2]
        repeat' (first | ((with_reducible first | refine gd_t ?_ ?_ | refine gd_f ?_ ?_) <;> (intro h; have hb := h; (try simp only [nf] at h); simp (disch := omega) only [go_sem, hE, hH, hb]; (try clear hb))) | ((with_reducible refine And.intro ?_ ?_); · omega) | (refine jn _ ?_ ?_) | (with_reducible refine both ?_ ?_) | (with_reducible refine And.intro ?_ ?_) | (refine fin_eq ?_; (try (simp (disch := omega) only [go_sem, hE, hH])); first | done | rfl) | (simp (disch := omega) only [go_sem, hE, hH]) | ((first | apply noMLL_sE | apply pk_sE) <;> (simp only [go_sem, hE, hH]; done)) | (simp only [go_sem, hE, hH]) | fail)
        · rw [goodGots, allN_no hlt (by
            have : ((l.take j).any fun h => decide (h.Key = (nth l j).Key)) = true := List.any_eq_true.2 ⟨_, nth_mem hlt2, by simp_all⟩
            simp_all)]
          simp
        · first | exact ⟨(), rfl, allN_step hK (by show (!decide _) = true; rw [Bool.not_eq_true', decide_eq_false_iff_not]; exact fun e => h e.symm)⟩ | exact ⟨by omega, (), rfl, allN_step hK (by show (!decide _) = true; rw [Bool.not_eq_true', decide_eq_false_iff_not]; exact fun e => h e.symm)⟩ | exact ⟨by omega, by omega, (), rfl, allN_step hK (by show (!decide _) = true; rw [Bool.not_eq_true', decide_eq_false_iff_not]; exact fun e => h e.symm)⟩
      · try simp (disch := omega) only [go_sem, hE, hH, h2]
        simp only [nf] at h2
        rw [show k = (l.take j).length by omega] at hK
        have hN : ((l.take j).any fun h => decide (h.Key = (nth l j).Key)) = false := by
          rw [allN_all (p := fun h : Got => !decide (h.Key = (nth l j).Key))] at hK
          rw [List.any_eq_false]
          intro x hx'
          have := List.all_eq_true.1 hK x hx'
          simpa using this
        first | exact ⟨(), rfl, allN_step hI (by simp_all [stored])⟩ | exact ⟨by omega, (), rfl, allN_step hI (by simp_all [stored])⟩ | exact ⟨by omega, by omega, (), rfl, allN_step hI (by simp_all [stored])⟩
    · have hlj : (l.take j).length = j := by rw [List.length_take]; omega
      refine loopN (l.take j).length (fun k (_ : Unit) => ⟨[(0, .sl false 3 (l.map (Got.row false))), (4, .ptr 5000000 0 0), (7, .sl false 3 (l.map (Got.row false))), (8, i64 l.length), (9, i64 j), (36, .sl false 3 ((l.take j).map (Got.row false))), (37, i64 (l.take j).length), (38, i64 k)], [(5000000, ⟨3, [Got.row false (nth l j)]⟩)]⟩) (fun k _ => allN (fun i => !decide ((nth (l.take j) i).Key = (nth l j).Key)) k = true) () rfl ?_
      intro k _ hk hK
      try simp only [go_sem, hE, hH, c_spec_l5Gots_l1]
      first | refine gd_t (fun h2 => ?_) (fun h2 => ?_) | refine gd_f (fun h2 => ?_) (fun h2 => ?_)
      · have hb2 := h2
        simp only [nf] at h2
        have hlt2 : k < (l.take j).length := by omega
        try simp (disch := omega) only [go_sem, hE, hH, hb2]
        repeat' (first | ((with_reducible first | refine gd_t ?_ ?_ | refine gd_f ?_ ?_) <;> (intro h; have hb := h; (try simp only [nf] at h); simp (disch := omega) only [go_sem, hE, hH, hb]; (try clear hb))) | ((with_reducible refine And.intro ?_ ?_); · omega) | (refine jn _ ?_ ?_) | (with_reducible refine both ?_ ?_) | (with_reducible refine And.intro ?_ ?_) | (refine fin_eq ?_; (try (simp (disch := omega) only [go_sem, hE, hH])); first | done | rfl) | (simp (disch := omega) only [go_sem, hE, hH]) | ((first | apply noMLL_sE | apply pk_sE) <;> (simp only [go_sem, hE, hH]; done)) | (simp only [go_sem, hE, hH]) | fail)
        · rw [goodGots, allN_no hlt (by
            have : ((l.take j).any fun h => decide (h.Key = (nth l j).Key)) = true := List.any_eq_true.2 ⟨_, nth_mem hlt2, by simp_all⟩
            simp_all)]
          simp
        · first | exact ⟨(), rfl, allN_step hK (by show (!decide _) = true; rw [Bool.not_eq_true', decide_eq_false_iff_not]; exact fun e => h e.symm)⟩ | exact ⟨by omega, (), rfl, allN_step hK (by show (!decide _) = true; rw [Bool.not_eq_true', decide_eq_false_iff_not]; exact fun e => h e.symm)⟩ | exact ⟨by omega, by omega, (), rfl, allN_step hK (by show (!decide _) = true; rw [Bool.not_eq_true', decide_eq_false_iff_not]; exact fun e => h e.symm)⟩
      · try simp (disch := omega) only [go_sem, hE, hH, h2]
        simp only [nf] at h2
        rw [show k = (l.take j).length by omega] at hK
        have hN : ((l.take j).any fun h => decide (h.Key = (nth l j).Key)) = false := by
          rw [allN_all (p := fun h : Got => !decide (h.Key = (nth l j).Key))] at hK
          rw [List.any_eq_false]
          intro x hx'
          have := List.all_eq_true.1 hK x hx'
          simpa using this
        first | exact ⟨(), rfl, allN_step hI (by simp_all [stored])⟩ | exact ⟨by omega, (), rfl, allN_step hI (by simp_all [stored])⟩ | exact ⟨by omega, by omega, (), rfl, allN_step hI (by simp_all [stored])⟩
  · try simp (disch := omega) only [go_sem, hE, hH, h]
    simp only [nf] at h
    rw [show j = l.length by omega] at hI
    rw [goodGots, hI]
    simp
def goodDeed (d : Deed) : Bool :=
  (!(d.Look && (!d.Yes || decide (0 < (d.Writes.length : Int))))) && (rng d.Txn 1 60 && rng d.Begin 0 1000000 && (decide (d.End = -1) || (decide (d.Begin < d.End) && decide (d.End ≤ 1000000))) && rng d.Time 0 100000 && goodGots d.Got && goodWrites d.Writes)
theorem isTxn_ok (n : Int) : ACall Try.prog n_impl_isTxn [i64 n] (fun r _ => r = bl (rng n 1 60)) := by
  refine fn_in h_impl_isTxn r_impl_isTxn ⟨by simp only [go_sem], fun E hE hH => ?_⟩; simp only [go_sem] at hE hH; simp only [go_sem, hE, hH, c_impl_isTxn]
  repeat' (first | ((with_reducible first | refine gd_t ?_ ?_ | refine gd_f ?_ ?_) <;> (intro h; have hb := h; (try simp only [nf] at h); simp (disch := omega) only [go_sem, hE, hH, hb]; (try clear hb))) | ((with_reducible refine And.intro ?_ ?_); · omega) | ((first | refine ok_view ?_ | refine cvA (within_ok _ _ _) ?_); simp (disch := omega) only [go_sem, hE, hH]) | (refine jn _ ?_ ?_) | (with_reducible refine both ?_ ?_) | (with_reducible refine And.intro ?_ ?_) | (refine fin_eq ?_; (try (simp (disch := omega) only [go_sem, hE, hH])); first | done | rfl) | (simp (disch := omega) only [go_sem, hE, hH]) | ((first | apply noMLL_sE | apply pk_sE) <;> (simp only [go_sem, hE, hH]; done)) | (simp only [go_sem, hE, hH]) | fail)
theorem isTrue_ok (n : Int) : ACall Try.prog n_impl_isTrue [i64 n] (fun r _ => r = bl (rng n 0 100000)) := by
  refine fn_in h_impl_isTrue r_impl_isTrue ⟨by simp only [go_sem], fun E hE hH => ?_⟩; simp only [go_sem] at hE hH; simp only [go_sem, hE, hH, c_impl_isTrue]
  repeat' (first | ((with_reducible first | refine gd_t ?_ ?_ | refine gd_f ?_ ?_) <;> (intro h; have hb := h; (try simp only [nf] at h); simp (disch := omega) only [go_sem, hE, hH, hb]; (try clear hb))) | ((with_reducible refine And.intro ?_ ?_); · omega) | ((first | refine ok_view ?_ | refine cvA (within_ok _ _ _) ?_); simp (disch := omega) only [go_sem, hE, hH]) | (refine jn _ ?_ ?_) | (with_reducible refine both ?_ ?_) | (with_reducible refine And.intro ?_ ?_) | (refine fin_eq ?_; (try (simp (disch := omega) only [go_sem, hE, hH])); first | done | rfl) | (simp (disch := omega) only [go_sem, hE, hH]) | ((first | apply noMLL_sE | apply pk_sE) <;> (simp only [go_sem, hE, hH]; done)) | (simp only [go_sem, hE, hH]) | fail)
theorem l2True_ok (n : Int) : ACall Try.prog n_spec_l2True [i64 n] (fun r _ => r = bl (rng n 0 100000)) := by
  refine fn_in h_spec_l2True r_spec_l2True ⟨by simp only [go_sem], fun E hE hH => ?_⟩; simp only [go_sem] at hE hH; simp only [go_sem, hE, hH, c_spec_l2True]
  repeat' (first | ((with_reducible first | refine gd_t ?_ ?_ | refine gd_f ?_ ?_) <;> (intro h; have hb := h; (try simp only [nf] at h); simp (disch := omega) only [go_sem, hE, hH, hb]; (try clear hb))) | ((with_reducible refine And.intro ?_ ?_); · omega) | ((first | refine ok_view ?_ | refine cvA (l1In_ok _ _ _) ?_); simp (disch := omega) only [go_sem, hE, hH]) | (refine jn _ ?_ ?_) | (with_reducible refine both ?_ ?_) | (with_reducible refine And.intro ?_ ?_) | (refine fin_eq ?_; (try (simp (disch := omega) only [go_sem, hE, hH])); first | done | rfl) | (simp (disch := omega) only [go_sem, hE, hH]) | ((first | apply noMLL_sE | apply pk_sE) <;> (simp only [go_sem, hE, hH]; done)) | (simp only [go_sem, hE, hH]) | fail)
theorem isDeed_ok (d : Deed) (hd : d.wf) : ACall Try.prog n_impl_isDeed [.agg (Deed.row false d)] (fun r _ => r = bl (goodDeed d)) := by
  obtain ⟨w1, w2, w3, w4, w5, w6⟩ := hd
  refine fn_in h_impl_isDeed r_impl_isDeed ⟨by simp only [go_sem], fun E hE hH => ?_⟩; simp only [go_sem] at hE hH; simp only [go_sem, hE, hH, c_impl_isDeed]
  repeat' (first | ((with_reducible first | refine gd_t ?_ ?_ | refine gd_f ?_ ?_) <;> (intro h; have hb := h; (try simp only [nf, rng_iff, rng_no] at h); simp (disch := omega) only [go_sem, hE, hH, hb]; (try clear hb))) | ((with_reducible refine And.intro ?_ ?_); · omega) | ((first | refine ok_view ?_ | refine cvA (isTxn_ok _) ?_ | refine cvA (within_ok _ _ _) ?_ | refine cvA (isTrue_ok _) ?_ | refine cvA (areGot_ok _ w5) ?_ | refine cvA (GoodWrites_ok _ w6) ?_); simp (disch := omega) only [go_sem, hE, hH]) | (refine jn _ ?_ ?_) | (with_reducible refine both ?_ ?_) | (with_reducible refine And.intro ?_ ?_) | (refine fin_eq ?_; (try (simp (disch := omega) only [go_sem, hE, hH])); first | done | rfl) | (simp (disch := omega) only [go_sem, hE, hH]) | ((first | apply noMLL_sE | apply pk_sE) <;> (simp only [go_sem, hE, hH]; done)) | (simp only [go_sem, hE, hH]) | fail)
  all_goals (first | (simp_all [goodDeed, rng]; done) | (simp_all [goodDeed, rng] <;> first | omega | (intros; omega)))
theorem l18Deed_ok (d : Deed) (hd : d.wf) : ACall Try.prog n_spec_l18Deed [.agg (Deed.row false d)] (fun r _ => r = bl (goodDeed d)) := by
  obtain ⟨w1, w2, w3, w4, w5, w6⟩ := hd
  refine fn_in h_spec_l18Deed r_spec_l18Deed ⟨by simp only [go_sem], fun E hE hH => ?_⟩; simp only [go_sem] at hE hH; simp only [go_sem, hE, hH, c_spec_l18Deed]
  repeat' (first | ((with_reducible first | refine gd_t ?_ ?_ | refine gd_f ?_ ?_) <;> (intro h; have hb := h; (try simp only [nf] at h); simp (disch := omega) only [go_sem, hE, hH, hb]; (try clear hb))) | ((with_reducible refine And.intro ?_ ?_); · omega) | ((first | refine ok_view ?_ | refine cvA (l1In_ok _ _ _) ?_ | refine cvA (l2True_ok _) ?_ | refine cvA (l5Gots_ok _ w5) ?_ | refine cvA (l3Writes_ok _ w6) ?_); simp (disch := omega) only [go_sem, hE, hH]) | (refine jn _ ?_ ?_) | (with_reducible refine both ?_ ?_) | (with_reducible refine And.intro ?_ ?_) | (refine fin_eq ?_; (try (simp (disch := omega) only [go_sem, hE, hH])); first | done | rfl) | (simp (disch := omega) only [go_sem, hE, hH]) | ((first | apply noMLL_sE | apply pk_sE) <;> (simp only [go_sem, hE, hH]; done)) | (simp only [go_sem, hE, hH]) | fail)
  all_goals (first | (simp_all [goodDeed, rng]; done) | (simp_all [goodDeed, rng] <;> first | omega | (intros; omega)))
def ahead (a b : Deed) : Bool := !decide (a.End = -1) && decide (a.End < b.Begin)
def ahead2 (a b : Deed) : Bool := decide (0 ≤ a.End) && decide (a.End < b.Begin)
theorem ahead_ok (a b : Deed) : ACall Try.prog n_impl_ahead [.agg (Deed.row false a), .agg (Deed.row false b)] (fun r _ => r = bl (ahead a b)) := by
  refine fn_in h_impl_ahead r_impl_ahead ⟨by simp only [go_sem], fun E hE hH => ?_⟩; simp only [go_sem] at hE hH; simp only [go_sem, hE, hH, c_impl_ahead]
  repeat' (first | ((with_reducible first | refine gd_t ?_ ?_ | refine gd_f ?_ ?_) <;> (intro h; have hb := h; (try simp only [nf] at h); simp (disch := omega) only [go_sem, hE, hH, hb]; (try clear hb))) | ((with_reducible refine And.intro ?_ ?_); · omega) | (refine jn _ ?_ ?_) | (with_reducible refine both ?_ ?_) | (with_reducible refine And.intro ?_ ?_) | (refine fin_eq ?_; (try (simp (disch := omega) only [go_sem, hE, hH])); first | done | rfl) | (simp (disch := omega) only [go_sem, hE, hH]) | ((first | apply noMLL_sE | apply pk_sE) <;> (simp only [go_sem, hE, hH]; done)) | (simp only [go_sem, hE, hH]) | fail)
  all_goals (first | (simp_all [ahead]; done) | (simp_all [ahead] <;> first | omega | (intros; omega)))
theorem l18Ahead_ok (a b : Deed) : ACall Try.prog n_spec_l18Ahead [.agg (Deed.row false a), .agg (Deed.row false b)] (fun r _ => r = bl (ahead2 a b)) := by
  refine fn_in h_spec_l18Ahead r_spec_l18Ahead ⟨by simp only [go_sem], fun E hE hH => ?_⟩; simp only [go_sem] at hE hH; simp only [go_sem, hE, hH, c_spec_l18Ahead]
  repeat' (first | ((with_reducible first | refine gd_t ?_ ?_ | refine gd_f ?_ ?_) <;> (intro h; have hb := h; (try simp only [nf] at h); simp (disch := omega) only [go_sem, hE, hH, hb]; (try clear hb))) | ((with_reducible refine And.intro ?_ ?_); · omega) | (refine jn _ ?_ ?_) | (with_reducible refine both ?_ ?_) | (with_reducible refine And.intro ?_ ?_) | (refine fin_eq ?_; (try (simp (disch := omega) only [go_sem, hE, hH])); first | done | rfl) | (simp (disch := omega) only [go_sem, hE, hH]) | ((first | apply noMLL_sE | apply pk_sE) <;> (simp only [go_sem, hE, hH]; done)) | (simp only [go_sem, hE, hH]) | fail)
  all_goals (first | (simp_all [ahead2]; done) | (simp_all [ahead2] <;> first | omega | (intros; omega)))
theorem goodDeed_end {d : Deed} (h : goodDeed d = true) : 0 ≤ d.Begin ∧ d.Begin ≤ 1000000 ∧ (d.End = -1 ∨ d.Begin < d.End) ∧ d.End ≤ 1000000 ∧ -1 ≤ d.End := by
  simp [goodDeed, rng] at h
  omega
theorem ahead_eq {a b : Deed} (h : goodDeed a = true) : ahead a b = ahead2 a b := by
  have := goodDeed_end h
  unfold ahead ahead2
  rw [Bool.eq_iff_iff]
  simp
  omega
def goodHist (l : List Deed) : Bool := allN (fun i => goodDeed (nth l i)) l.length && decide ((l.length : Int) ≤ 10)
theorem any_not_all {α : Type} {p : α → Bool} {l : List α} : (!l.any fun x => !p x) = l.all p := by
  simp [List.any_eq_not_all_not]
theorem goodHist_eq (l : List Deed) : goodHist l = (decide ((l.length : Int) ≤ 10) && !l.any fun d => !goodDeed d) := by
  rw [any_not_all, ← allN_all (p := goodDeed), goodHist, Bool.and_comm]
theorem GoodHistory_1_ok (d : Deed) (hd : d.wf) : ACall Try.prog n_impl_GoodHistory_1 [.agg (Deed.row false d)] (fun r _ => r = bl (!goodDeed d)) := by
  refine fn_in h_impl_GoodHistory_1 r_impl_GoodHistory_1 ⟨by simp only [go_sem], fun E hE hH => ?_⟩; simp only [go_sem] at hE hH; simp only [go_sem, hE, hH, c_impl_GoodHistory_1]
  repeat' (first | ((with_reducible first | refine gd_t ?_ ?_ | refine gd_f ?_ ?_) <;> (intro h; have hb := h; (try simp only [nf] at h); simp (disch := omega) only [go_sem, hE, hH, hb]; (try clear hb))) | ((with_reducible refine And.intro ?_ ?_); · omega) | ((first | refine ok_view ?_ | refine cvA (isDeed_ok _ hd) ?_); simp (disch := omega) only [go_sem, hE, hH]) | (refine jn _ ?_ ?_) | (with_reducible refine both ?_ ?_) | (with_reducible refine And.intro ?_ ?_) | (refine fin_eq ?_; (try (simp (disch := omega) only [go_sem, hE, hH])); first | done | rfl) | (simp (disch := omega) only [go_sem, hE, hH]) | ((first | apply noMLL_sE | apply pk_sE) <;> (simp only [go_sem, hE, hH]; done)) | (simp only [go_sem, hE, hH]) | fail)
theorem GoodHistory_ok (l : List Deed) (hl : wfL Deed.wf l) : ACall Try.prog n_impl_GoodHistory [.sl false 8 (l.map (Deed.row false))] (fun r _ => r = bl (goodHist l)) := by
  obtain ⟨hl, hx⟩ := hl
  have hmx := mx_eq
  rw [goodHist_eq]
  refine fn_in h_impl_GoodHistory r_impl_GoodHistory ⟨by simp only [go_sem], fun E hE hH => ?_⟩; simp only [go_sem] at hE hH; simp only [go_sem, hE, hH, c_impl_GoodHistory]
  repeat' (first | ((with_reducible first | refine gd_t ?_ ?_ | refine gd_f ?_ ?_) <;> (intro h; have hb := h; (try simp only [nf] at h); simp (disch := omega) only [go_sem, hE, hH, hb]; (try clear hb))) | ((with_reducible refine And.intro ?_ ?_); · omega) | ((first | refine ok_view ?_ | refine cvA (ContainsFunc_Deed_ok l _ [] (fun d => !goodDeed d) (by kernel_rfl) rfl hl (fun d hd => GoodHistory_1_ok d (hx d hd))) ?_); simp (disch := omega) only [go_sem, hE, hH]) | (refine jn _ ?_ ?_) | (with_reducible refine both ?_ ?_) | (with_reducible refine And.intro ?_ ?_) | (refine fin_eq ?_; (try (simp (disch := omega) only [go_sem, hE, hH])); first | done | rfl) | (simp (disch := omega) only [go_sem, hE, hH]) | ((first | apply noMLL_sE | apply pk_sE) <;> (simp only [go_sem, hE, hH]; done)) | (simp only [go_sem, hE, hH]) | fail)
  all_goals (first | (simp_all []; done) | (simp_all [] <;> first | omega | (intros; omega)))
theorem l18Good_ok (l : List Deed) (hl : wfL Deed.wf l) : ACall Try.prog n_spec_l18Good [.sl false 8 (l.map (Deed.row false))] (fun r _ => r = bl (goodHist l)) := by
  obtain ⟨hl, hx⟩ := hl
  have hmx := mx_eq
  refine fn_in h_spec_l18Good r_spec_l18Good ⟨by simp only [go_sem], fun E hE hH => ?_⟩; simp only [go_sem] at hE hH; simp only [go_sem, hE, hH, c_spec_l18Good]
  refine loopN l.length (fun j (_ : Unit) => ⟨[(0, .sl false 8 (l.map (Deed.row false))), (5, .sl false 8 (l.map (Deed.row false))), (6, i64 l.length), (7, i64 j)], []⟩) (fun j _ => allN (fun i => goodDeed (nth l i)) j = true) () rfl ?_
  intro j _ hj hI
  try simp only [go_sem, hE, hH, c_spec_l18Good_l1]
  first | refine gd_t (fun h1 => ?_) (fun h1 => ?_) | refine gd_f (fun h1 => ?_) (fun h1 => ?_)
  · have hb := h1
    simp only [nf] at h1
    have hlt := h1; clear h1
    have hd := hx _ (nth_mem hlt)
    try simp (disch := omega) only [go_sem, hE, hH, hb]
    repeat' (first | ((with_reducible first | refine gd_t ?_ ?_ | refine gd_f ?_ ?_) <;> (intro h; have hb := h; (try simp only [nf] at h); simp (disch := omega) only [go_sem, hE, hH, hb]; (try clear hb))) | ((with_reducible refine And.intro ?_ ?_); · omega) | ((first | refine ok_view ?_ | refine cvA (l18Deed_ok _ hd) ?_); simp (disch := omega) only [go_sem, hE, hH]) | (refine jn _ ?_ ?_) | (with_reducible refine both ?_ ?_) | (with_reducible refine And.intro ?_ ?_) | (refine fin_eq ?_; (try (simp (disch := omega) only [go_sem, hE, hH])); first | done | rfl) | (simp (disch := omega) only [go_sem, hE, hH]) | ((first | apply noMLL_sE | apply pk_sE) <;> (simp only [go_sem, hE, hH]; done)) | (simp only [go_sem, hE, hH]) | fail)
    · rw [goodHist, allN_no hlt h]; simp
    · first | exact ⟨(), rfl, allN_step hI h⟩ | exact ⟨by omega, (), rfl, allN_step hI h⟩ | exact ⟨by omega, by omega, (), rfl, allN_step hI h⟩
  · try simp (disch := omega) only [go_sem, hE, hH, h1]
    simp only [nf] at h1
    rw [show j = l.length by omega] at hI
    rw [goodHist, hI]
    simp
theorem goodHist_mem {l : List Deed} (hg : goodHist l = true) {i : Nat} (hi : i < l.length) : goodDeed (nth l i) = true := by
  simp only [goodHist, Bool.and_eq_true] at hg
  exact allN_iff.1 hg.1 i hi
theorem goodHist_len {l : List Deed} (hg : goodHist l = true) : l.length ≤ 10 := by
  simp [goodHist] at hg
  omega
theorem l1Has_ok (l : List Int) (v : Int) (hl : l.length ≤ maxLen) : ACall Try.prog n_spec_l1Has [.sl false 1 (ints l), i64 v] (fun r _ => r = bl (l.any fun x => decide (v = x))) := by
  have hmx := mx_eq
  refine fn_in h_spec_l1Has r_spec_l1Has ⟨by simp only [go_sem], fun E hE hH => ?_⟩; simp only [go_sem] at hE hH; simp only [go_sem, hE, hH, c_spec_l1Has]
  refine loopN l.length (fun j (_ : Unit) => ⟨[(1, i64 v), (7, .sl false 1 (ints l)), (8, i64 l.length), (9, i64 j)], []⟩) (fun j _ => allN (fun i => !decide (v = nth l i)) j = true) () rfl ?_
  intro j _ hj hI
  try simp only [go_sem, hE, hH, c_spec_l1Has_l1]
  first | refine gd_t (fun h => ?_) (fun h => ?_) | refine gd_f (fun h => ?_) (fun h => ?_)
  · have hb := h
    simp only [nf] at h
    have hlt := h; clear h
    try simp (disch := omega) only [go_sem, hE, hH, hb]
    repeat' (first | ((with_reducible first | refine gd_t ?_ ?_ | refine gd_f ?_ ?_) <;> (intro h; have hb := h; (try simp only [nf] at h); simp (disch := omega) only [go_sem, hE, hH, hb]; (try clear hb))) | ((with_reducible refine And.intro ?_ ?_); · omega) | (refine jn _ ?_ ?_) | (with_reducible refine both ?_ ?_) | (with_reducible refine And.intro ?_ ?_) | (refine fin_eq ?_; (try (simp (disch := omega) only [go_sem, hE, hH])); first | done | rfl) | (simp (disch := omega) only [go_sem, hE, hH]) | ((first | apply noMLL_sE | apply pk_sE) <;> (simp only [go_sem, hE, hH]; done)) | (simp only [go_sem, hE, hH]) | fail)
    · have : (l.any fun x => decide (v = x)) = true := List.any_eq_true.2 ⟨_, nth_mem hlt, by simp [h]⟩
      rw [this]
    · first | exact ⟨(), rfl, allN_step hI (by simp only [Bool.not_eq_true', decide_eq_false_iff_not]; exact fun e => h e.symm)⟩ | exact ⟨by omega, (), rfl, allN_step hI (by simp only [Bool.not_eq_true', decide_eq_false_iff_not]; exact fun e => h e.symm)⟩ | exact ⟨by omega, by omega, (), rfl, allN_step hI (by simp only [Bool.not_eq_true', decide_eq_false_iff_not]; exact fun e => h e.symm)⟩
  · try simp (disch := omega) only [go_sem, hE, hH, h]
    simp only [nf] at h
    rw [show j = l.length by omega, allN_all (p := fun x => !decide (v = x))] at hI
    have : (l.any fun x => decide (v = x)) = false := by
      rw [List.any_eq_false]; intro x hx; simpa using List.all_eq_true.1 hI x hx
    rw [this]
def commJ (l : List Deed) (j : Nat) : List Int := ((List.range j).filter fun i => (nth l i).Yes).map fun i : Nat => (i : Int)
def commD (l : List Deed) : List Int := commJ l l.length
theorem commJ_len {l : List Deed} {j : Nat} : (commJ l j).length ≤ j := by
  have := List.length_filter_le (fun i => (nth l i).Yes) (List.range j)
  rw [List.length_range] at this
  rw [commJ, List.length_map]; exact this
theorem commJ_in {l : List Deed} {j : Nat} (h : (nth l j).Yes = true) : commJ l (j + 1) = commJ l j ++ [(j : Int)] := by
  simp [commJ, List.range_succ, List.filter_append, h]
theorem commJ_out {l : List Deed} {j : Nat} (h : (nth l j).Yes = false) : commJ l (j + 1) = commJ l j := by
  simp [commJ, List.range_succ, List.filter_append, h]
theorem committed_ok (l : List Deed) (hl : l.length ≤ 2 ^ 20) : ACall Try.prog n_impl_committed [.sl false 8 (l.map (Deed.row false))] (fun r _ => r = .sl true 1 (ints (commD l))) := by
  have hmx := mx_eq
  refine fn_in h_impl_committed r_impl_committed ⟨by simp only [go_sem], fun E hE hH => ?_⟩; simp only [go_sem] at hE hH; simp only [go_sem, hE, hH, c_impl_committed]
  repeat' (first | ((with_reducible first | refine gd_t ?_ ?_ | refine gd_f ?_ ?_) <;> (intro h; have hb := h; (try simp only [nf] at h); simp (disch := omega) only [go_sem, hE, hH, hb]; (try clear hb))) | ((with_reducible refine And.intro ?_ ?_); · omega) | (refine jn _ ?_ ?_) | (with_reducible refine both ?_ ?_) | (with_reducible refine And.intro ?_ ?_) | (refine fin_eq ?_; (try (simp (disch := omega) only [go_sem, hE, hH])); first | done | rfl) | (simp (disch := omega) only [go_sem, hE, hH]) | ((first | apply noMLL_sE | apply pk_sE) <;> (simp only [go_sem, hE, hH]; done)) | (simp only [go_sem, hE, hH]) | fail)
  refine loopN l.length (fun j (x : List Int) => ⟨[(3, .ref 4000000 0 x.length), (7, .sl false 8 (l.map (Deed.row false))), (8, i64 l.length), (9, i64 j)], [(4000000, ⟨1, ints x⟩)]⟩) (fun j x => x = commJ l j) [] rfl ?_
  intro j x hj hI
  have hxl : x.length ≤ j := by rw [hI]; exact commJ_len
  try simp only [go_sem, hE, hH, c_impl_committed_l1]
  first | refine gd_t (fun h1 => ?_) (fun h1 => ?_) | refine gd_f (fun h1 => ?_) (fun h1 => ?_)
  · have hb1 := h1
    simp only [nf] at h1
    have hlt := h1; clear h1
    try simp (disch := omega) only [go_sem, hE, hH, hb1]
    repeat' (first | ((with_reducible first | refine gd_t ?_ ?_ | refine gd_f ?_ ?_) <;> (intro h; have hb := h; (try simp only [nf] at h); simp (disch := omega) only [go_sem, hE, hH, hb]; (try clear hb))) | ((with_reducible refine And.intro ?_ ?_); · omega) | (refine jn _ ?_ ?_) | (with_reducible refine both ?_ ?_) | (with_reducible refine And.intro ?_ ?_) | (refine fin_eq ?_; (try (simp (disch := omega) only [go_sem, hE, hH])); first | done | rfl) | (simp (disch := omega) only [go_sem, hE, hH]) | ((first | apply noMLL_sE | apply pk_sE) <;> (simp only [go_sem, hE, hH]; done)) | (simp only [go_sem, hE, hH]) | fail)
    all_goals try omega
    · rw [commJ_in h, ← hI, List.length_append, ints, List.map_append]; rfl
    · rw [commJ_out h, ← hI]; rfl
  · try simp (disch := omega) only [go_sem, hE, hH, h1]
    simp only [nf] at h1
    rw [show j = l.length by omega] at hI
    repeat' (first | ((with_reducible first | refine gd_t ?_ ?_ | refine gd_f ?_ ?_) <;> (intro h; have hb := h; (try simp only [nf] at h); simp (disch := omega) only [go_sem, hE, hH, hb]; (try clear hb))) | ((with_reducible refine And.intro ?_ ?_); · omega) | (refine jn _ ?_ ?_) | (with_reducible refine both ?_ ?_) | (with_reducible refine And.intro ?_ ?_) | (refine fin_eq ?_; (try (simp (disch := omega) only [go_sem, hE, hH])); first | done | rfl) | (simp (disch := omega) only [go_sem, hE, hH]) | ((first | apply noMLL_sE | apply pk_sE) <;> (simp only [go_sem, hE, hH]; done)) | (simp only [go_sem, hE, hH]) | fail)
    all_goals (rw [hI, commD])
def sumN (f : Nat → Int) : Nat → Int
  | 0 => 0
  | n + 1 => sumN f n + f n
theorem sumN_congr {f g : Nat → Int} : ∀ {n : Nat}, (∀ i, i < n → f i = g i) → sumN f n = sumN g n
  | 0, _ => rfl
  | n + 1, h => by rw [sumN, sumN, sumN_congr fun i hi => h i (by omega), h n (by omega)]
theorem sumN_le {f : Nat → Int} {c : Int} : ∀ {n : Nat}, (∀ i, i < n → 0 ≤ f i ∧ f i ≤ c) → 0 ≤ sumN f n ∧ sumN f n ≤ n * c
  | 0, _ => by simp [sumN]
  | n + 1, h => by
    have h1 := sumN_le (n := n) fun i hi => h i (by omega)
    have h2 := h n (by omega)
    have h3 : ((n + 1 : Nat) : Int) * c = n * c + c := by rw [Int.natCast_add, Int.add_mul]; simp
    rw [sumN, h3]
    omega
def frstB (h : List Deed) (o : List Int) (n : Nat) : Bool :=
  (nth h n).Yes && !(o.any fun x => decide ((n : Int) = x)) && allN (fun m => decide ((m : Int) = n) || !(nth h m).Yes || (o.any fun x => decide ((m : Int) = x)) || !ahead2 (nth h m) (nth h n)) h.length
def manyY (h : List Deed) : Nat := cntN (fun i => (nth h i).Yes) h.length
def cntS (h : List Deed) : Nat → List Int → Int
  | 0, _ => 1
  | k + 1, o => sumN (fun n => if frstB h o n then cntS h k (o ++ [(n : Int)]) else 0) h.length
theorem cntS_le (h : List Deed) (hl : h.length ≤ 10) : ∀ (k : Nat) (o : List Int), 0 ≤ cntS h k o ∧ cntS h k o ≤ 10 ^ k
  | 0, _ => by simp [cntS]
  | k + 1, o => by
    have h1 : 0 ≤ cntS h (k + 1) o ∧ cntS h (k + 1) o ≤ h.length * (10 : Int) ^ k := by
      rw [cntS]
      refine sumN_le fun i _ => ?_
      have := cntS_le h hl k (o ++ [(i : Int)])
      split <;> omega
    have h2 : (h.length : Int) * (10 : Int) ^ k ≤ 10 * (10 : Int) ^ k := Int.mul_le_mul_of_nonneg_right (by omega) (by have := cntS_le h hl k []; omega)
    have h3 : (10 : Int) ^ (k + 1) = 10 * 10 ^ k := by rw [Int.pow_succ, Int.mul_comm]
    omega
def mayU (h : List Deed) (u n : Nat) : Bool := !u.testBit n && allN (fun m => !(nth h m).Yes || u.testBit m || !ahead (nth h m) (nth h n)) h.length
def cntU (h : List Deed) : Nat → Nat → Int
  | 0, _ => 1
  | k + 1, u => sumN (fun n => if (nth h n).Yes && mayU h u n then cntU h k (u ||| 1 <<< n) else 0) h.length
theorem tb_or (u n m : Nat) : (u ||| 1 <<< n).testBit m = (u.testBit m || decide (m = n)) := by
  rw [Nat.testBit_or, Nat.one_shiftLeft, Nat.testBit_two_pow]
  congr 1
  rw [Bool.eq_iff_iff]; simp only [decide_eq_true_eq]; exact eq_comm
theorem frst_may {h : List Deed} (hg : goodHist h = true) {o : List Int} {u : Nat} (hu : ∀ m, m < h.length → u.testBit m = o.any fun x => decide ((m : Int) = x)) {n : Nat} (hn : n < h.length) :
    frstB h o n = ((nth h n).Yes && mayU h u n) := by
  unfold frstB mayU
  rw [Bool.and_assoc, hu n hn]
  congr 2
  refine allN_congr fun m hm => ?_
  rw [hu m hm, ← ahead_eq (goodHist_mem hg hm)]
  by_cases e : m = n
  · subst e
    have h1 := goodDeed_end (goodHist_mem hg hm)
    have h2 : ahead (nth h m) (nth h m) = false := by
      unfold ahead
      rw [Bool.eq_false_iff]
      simp
      omega
    rw [h2]; simp
  · have h2 : decide ((m : Int) = n) = false := decide_eq_false (by omega)
    rw [h2]; simp
theorem cntS_U {h : List Deed} (hg : goodHist h = true) : ∀ (k : Nat) (o : List Int) (u : Nat), (∀ m, m < h.length → u.testBit m = o.any fun x => decide ((m : Int) = x)) → cntS h k o = cntU h k u
  | 0, _, _, _ => rfl
  | k + 1, o, u, hu => by
    rw [cntS, cntU]
    refine sumN_congr fun n hn => ?_
    rw [frst_may hg hu hn]
    split
    · refine cntS_U hg k _ _ fun m hm => ?_
      have e : decide (m = n) = decide ((m : Int) = (n : Int)) := by rw [Bool.eq_iff_iff, decide_eq_true_iff, decide_eq_true_iff]; omega
      rw [tb_or, hu m hm, List.any_append, e]
      simp only [List.any_cons, List.any_nil, Bool.or_false]
    · rfl
theorem comm_succ (l : List Deed) (j : Nat) : commJ l (j + 1) = if (nth l j).Yes then commJ l j ++ [(j : Int)] else commJ l j := by
  split
  · rename_i e; exact commJ_in e
  · rename_i e; exact commJ_out (Bool.eq_false_iff.2 e)
theorem comm_len (l : List Deed) : ∀ j, (commJ l j).length = cntN (fun i => (nth l i).Yes) j
  | 0 => rfl
  | j + 1 => by
    rw [comm_succ, cntN]
    have := comm_len l j
    split <;> simp_all
theorem comm_mem {l : List Deed} {j : Nat} {x : Int} : x ∈ commJ l j ↔ ∃ i, i < j ∧ (nth l i).Yes = true ∧ x = (i : Int) := by
  simp only [commJ, List.mem_map, List.mem_filter, List.mem_range]
  constructor
  · rintro ⟨i, ⟨h1, h2⟩, rfl⟩; exact ⟨i, h1, h2, rfl⟩
  · rintro ⟨i, h1, h2, rfl⟩; exact ⟨i, ⟨h1, h2⟩, rfl⟩
theorem sum_comm (h : List Deed) (f : Nat → Int) : ∀ j, sumN (fun n => if (nth h n).Yes then f n else 0) j = ((commJ h j).map fun x => f x.toNat).sum
  | 0 => rfl
  | j + 1 => by
    rw [sumN, comm_succ, sum_comm h f j]
    by_cases e : (nth h j).Yes = true
    · rw [if_pos e, if_pos e]; simp
    · rw [if_neg e, if_neg e]; simp
theorem cntU_comm (h : List Deed) (k u : Nat) : cntU h (k + 1) u = ((commJ h h.length).map fun x => if mayU h u x.toNat then cntU h k (u ||| 1 <<< x.toNat) else 0).sum := by
  rw [cntU, ← sum_comm h (fun n => if mayU h u n then cntU h k (u ||| 1 <<< n) else 0) h.length]
  refine sumN_congr fun n _ => ?_
  cases (nth h n).Yes <;> simp
theorem cntU_le (h : List Deed) (hl : h.length ≤ 10) : ∀ (k u : Nat), 0 ≤ cntU h k u ∧ cntU h k u ≤ 10 ^ k
  | 0, _ => by simp [cntU]
  | k + 1, u => by
    have h1 : 0 ≤ cntU h (k + 1) u ∧ cntU h (k + 1) u ≤ h.length * (10 : Int) ^ k := by
      rw [cntU]
      refine sumN_le fun i _ => ?_
      have := cntU_le h hl k (u ||| 1 <<< i)
      split <;> omega
    have h2 : (h.length : Int) * (10 : Int) ^ k ≤ 10 * (10 : Int) ^ k := Int.mul_le_mul_of_nonneg_right (by omega) (by have := cntU_le h hl k 0; omega)
    have h3 : (10 : Int) ^ (k + 1) = 10 * 10 ^ k := by rw [Int.pow_succ, Int.mul_comm]
    omega
def bitI (s n : Int) : Int := IntKind.i64.wrap (BitVec.ofInt 64 (s.fdiv (2 ^ (min n.toNat 64))) &&& BitVec.ofInt 64 1).toNat
def orI (s n : Int) : Int := IntKind.i64.wrap (BitVec.ofInt 64 s ||| BitVec.ofInt 64 (IntKind.i64.wrap (1 * 2 ^ (min n.toNat 64)))).toNat
theorem bitI_eq : ∀ u, u < 1024 → ∀ n, n < 10 → bitI (u : Nat) (n : Nat) = if u.testBit n then 1 else 0 := by decide +kernel
theorem orI_eq : ∀ u, u < 1024 → ∀ n, n < 10 → orI (u : Nat) (n : Nat) = ((u ||| 1 <<< n : Nat) : Int) ∧ (u ||| 1 <<< n) < 1024 := by decide +kernel
theorem l18Many_ok (l : List Deed) (hl : l.length ≤ 2 ^ 20) : ACall Try.prog n_spec_l18Many [.sl false 8 (l.map (Deed.row false))] (fun r _ => r = i64 (manyY l)) := by
  have hmx := mx_eq
  refine fn_in h_spec_l18Many r_spec_l18Many ⟨by simp only [go_sem], fun E hE hH => ?_⟩; simp only [go_sem] at hE hH; simp only [go_sem, hE, hH, c_spec_l18Many]
  refine loopN l.length (fun j (_ : Unit) => ⟨[(3, i64 (cntN (fun i => (nth l i).Yes) j)), (6, .sl false 8 (l.map (Deed.row false))), (7, i64 l.length), (8, i64 j)], []⟩) (fun _ _ => True) () trivial ?_
  intro j _ hj _
  have hc : cntN (fun i => (nth l i).Yes) j ≤ j := cntN_le
  try simp only [go_sem, hE, hH, c_spec_l18Many_l1]
  first | refine gd_t (fun h2 => ?_) (fun h2 => ?_) | refine gd_f (fun h2 => ?_) (fun h2 => ?_)
  · have hb := h2
    simp only [nf] at h2
    have hlt : j < l.length := by omega
    try simp (disch := omega) only [go_sem, hE, hH, hb]
    repeat' (first | ((with_reducible first | refine gd_t ?_ ?_ | refine gd_f ?_ ?_) <;> (intro h; have hb := h; (try simp only [nf] at h); simp (disch := omega) only [go_sem, hE, hH, hb]; (try clear hb))) | ((with_reducible refine And.intro ?_ ?_); · omega) | (refine jn _ ?_ ?_) | (with_reducible refine both ?_ ?_) | (with_reducible refine And.intro ?_ ?_) | (refine fin_eq ?_; (try (simp (disch := omega) only [go_sem, hE, hH])); first | done | rfl) | (simp (disch := omega) only [go_sem, hE, hH]) | ((first | apply noMLL_sE | apply pk_sE) <;> (simp only [go_sem, hE, hH]; done)) | (simp only [go_sem, hE, hH]) | fail)
    all_goals try omega
    all_goals (refine ⟨(), ?_⟩; rw [cntN]; simp [h])
  · try simp (disch := omega) only [go_sem, hE, hH, h2]
    simp only [nf] at h2
    rw [show j = l.length by omega]
    rfl
theorem l18First_ok (l : List Deed) (o : List Int) (n : Nat) (hl : l.length ≤ 2 ^ 20) (ho : o.length ≤ 2 ^ 20) (hn : n < l.length) : ACall Try.prog n_spec_l18First [.sl false 8 (l.map (Deed.row false)), .sl false 1 (ints o), i64 n] (fun r _ => r = bl (frstB l o n)) := by
  have hmx := mx_eq
  cases hY : (nth l n).Yes with
  | false =>
    refine fn_in h_spec_l18First r_spec_l18First ⟨by simp only [go_sem], fun E hE hH => ?_⟩; simp only [go_sem] at hE hH; simp only [go_sem, hE, hH, c_spec_l18First]
    repeat' (first | ((with_reducible first | refine gd_t ?_ ?_ | refine gd_f ?_ ?_) <;> (intro h; have hb := h; (try simp only [nf, rng_iff, rng_no] at h); simp (disch := omega) only [go_sem, hE, hH, hY, hb]; (try clear hb))) | ((with_reducible refine And.intro ?_ ?_); · omega) | (refine jn _ ?_ ?_) | (with_reducible refine both ?_ ?_) | (with_reducible refine And.intro ?_ ?_) | (refine fin_eq ?_; (try (simp (disch := omega) only [go_sem, hE, hH, hY])); first | done | rfl) | (simp (disch := omega) only [go_sem, hE, hH, hY]) | ((first | apply noMLL_sE | apply pk_sE) <;> (simp only [go_sem, hE, hH, hY]; done)) | (simp only [go_sem, hE, hH, hY]) | fail)
    all_goals simp [frstB, hY]
  | true =>
    cases hO : (o.any fun x => decide ((n : Int) = x)) with
    | true =>
      refine fn_in h_spec_l18First r_spec_l18First ⟨by simp only [go_sem], fun E hE hH => ?_⟩; simp only [go_sem] at hE hH; simp only [go_sem, hE, hH, c_spec_l18First]
      repeat' (first | ((with_reducible first | refine gd_t ?_ ?_ | refine gd_f ?_ ?_) <;> (intro h; have hb := h; (try simp only [nf, rng_iff, rng_no] at h); simp (disch := omega) only [go_sem, hE, hH, hY, hO, hb]; (try clear hb))) | ((with_reducible refine And.intro ?_ ?_); · omega) | ((first | refine ok_view ?_ | refine cvA (l1Has_ok o n (by omega)) ?_); simp (disch := omega) only [go_sem, hE, hH, hY, hO]) | (refine jn _ ?_ ?_) | (with_reducible refine both ?_ ?_) | (with_reducible refine And.intro ?_ ?_) | (refine fin_eq ?_; (try (simp (disch := omega) only [go_sem, hE, hH, hY, hO])); first | done | rfl) | (simp (disch := omega) only [go_sem, hE, hH, hY, hO]) | ((first | apply noMLL_sE | apply pk_sE) <;> (simp only [go_sem, hE, hH, hY, hO]; done)) | (simp only [go_sem, hE, hH, hY, hO]) | fail)
      all_goals simp [frstB, hY, hO]
    | false =>
      refine fn_in h_spec_l18First r_spec_l18First ⟨by simp only [go_sem], fun E hE hH => ?_⟩; simp only [go_sem] at hE hH; simp only [go_sem, hE, hH, c_spec_l18First]
      repeat' (first | ((with_reducible first | refine gd_t ?_ ?_ | refine gd_f ?_ ?_) <;> (intro h; have hb := h; (try simp only [nf, rng_iff, rng_no] at h); simp (disch := omega) only [go_sem, hE, hH, hY, hO, hb]; (try clear hb))) | ((with_reducible refine And.intro ?_ ?_); · omega) | ((first | refine ok_view ?_ | refine cvA (l1Has_ok o n (by omega)) ?_); simp (disch := omega) only [go_sem, hE, hH, hY, hO]) | (refine jn _ ?_ ?_) | (with_reducible refine both ?_ ?_) | (with_reducible refine And.intro ?_ ?_) | (refine fin_eq ?_; (try (simp (disch := omega) only [go_sem, hE, hH, hY, hO])); first | done | rfl) | (simp (disch := omega) only [go_sem, hE, hH, hY, hO]) | ((first | apply noMLL_sE | apply pk_sE) <;> (simp only [go_sem, hE, hH, hY, hO]; done)) | (simp only [go_sem, hE, hH, hY, hO]) | fail)
      refine loopN l.length (fun j (_ : Unit) => ⟨[(0, .sl false 8 (l.map (Deed.row false))), (1, .sl false 1 (ints o)), (2, i64 n), (20, .sl false 8 (l.map (Deed.row false))), (21, i64 l.length), (22, i64 j)], []⟩) (fun j _ => allN (fun m => decide ((m : Int) = n) || !(nth l m).Yes || (o.any fun x => decide ((m : Int) = x)) || !ahead2 (nth l m) (nth l n)) j = true) () rfl ?_
      intro j _ hj hI
      try simp only [go_sem, hE, hH, c_spec_l18First_l1]
      first | refine gd_t (fun h2 => ?_) (fun h2 => ?_) | refine gd_f (fun h2 => ?_) (fun h2 => ?_)
      · have hb := h2
        simp only [nf] at h2
        have hlt : j < l.length := by omega
        try simp (disch := omega) only [go_sem, hE, hH, hb]
        repeat' (first | ((with_reducible first | refine gd_t ?_ ?_ | refine gd_f ?_ ?_) <;> (intro h; have hb := h; (try simp only [nf] at h); simp (disch := omega) only [go_sem, hE, hH, hb]; (try clear hb))) | ((with_reducible refine And.intro ?_ ?_); · omega) | ((first | refine ok_view ?_ | refine cvA (l1Has_ok o j (by omega)) ?_ | refine cvA (l18Ahead_ok ⟨_, _, _, _, _, _, _, _⟩ _) ?_); simp (disch := omega) only [go_sem, hE, hH]) | (refine jn _ ?_ ?_) | (with_reducible refine both ?_ ?_) | (with_reducible refine And.intro ?_ ?_) | (refine fin_eq ?_; (try (simp (disch := omega) only [go_sem, hE, hH])); first | done | rfl) | (simp (disch := omega) only [go_sem, hE, hH]) | ((first | apply noMLL_sE | apply pk_sE) <;> (simp only [go_sem, hE, hH]; done)) | (simp only [go_sem, hE, hH]) | fail)
        all_goals try omega
        · have ha : ahead2 (nth l j) (nth l n) = true := h
          rw [frstB, allN_no hlt (by simp [*])]; simp
        · have ha : ahead2 (nth l j) (nth l n) = false := h
          exact ⟨(), rfl, allN_step hI (by simp [*])⟩
        all_goals exact ⟨(), rfl, allN_step hI (by simp [*])⟩
      · try simp (disch := omega) only [go_sem, hE, hH, h2]
        simp only [nf] at h2
        rw [show j = l.length by omega] at hI
        rw [frstB, hY, hO, hI]
        rfl
theorem l18Count_ok (l : List Deed) (hl : l.length ≤ 10) : ∀ (k : Nat) (o : List Int), k ≤ 7 → o.length + k = manyY l → ACall Try.prog n_spec_l18Count [.sl false 8 (l.map (Deed.row false)), .sl false 1 (ints o)] (fun r _ => r = i64 (cntS l k o))
  | 0, o, _, ho => by
    have hmx := mx_eq
    have hm : manyY l ≤ l.length := cntN_le
    have e : (o.length : Int) = manyY l := by omega
    refine fn_in h_spec_l18Count r_spec_l18Count ⟨by simp only [go_sem], fun E hE hH => ?_⟩; simp only [go_sem] at hE hH; simp only [go_sem, hE, hH, c_spec_l18Count]
    repeat' (first | ((with_reducible first | refine gd_t ?_ ?_ | refine gd_f ?_ ?_) <;> (intro h; have hb := h; (try simp only [nf] at h); simp (disch := omega) only [go_sem, hE, hH, e, hb]; (try clear hb))) | ((with_reducible refine And.intro ?_ ?_); · omega) | ((first | refine ok_view ?_ | refine cvA (l18Many_ok l (by omega)) ?_); simp (disch := omega) only [go_sem, hE, hH, e]) | (refine jn _ ?_ ?_) | (with_reducible refine both ?_ ?_) | (with_reducible refine And.intro ?_ ?_) | (refine fin_eq ?_; (try (simp (disch := omega) only [go_sem, hE, hH, e])); first | done | rfl) | (simp (disch := omega) only [go_sem, hE, hH, e]) | ((first | apply noMLL_sE | apply pk_sE) <;> (simp only [go_sem, hE, hH, e]; done)) | (simp only [go_sem, hE, hH, e]) | fail)
    all_goals first | rfl | omega | (exfalso; omega) | trace_state
  | k + 1, o, hk, ho => by
    have hmx := mx_eq
    have hm : manyY l ≤ l.length := cntN_le
    have e : ¬ ((o.length : Int) = manyY l) := by omega
    have e2 : decide ((o.length : Int) = manyY l) = false := decide_eq_false e
    have hb : ∀ j, j ≤ l.length → 0 ≤ sumN (fun n => if frstB l o n then cntS l k (o ++ [(n : Int)]) else 0) j ∧ sumN (fun n => if frstB l o n then cntS l k (o ++ [(n : Int)]) else 0) j ≤ j * 10 ^ k := fun j _ => sumN_le fun i _ => by
      have := cntS_le l hl k (o ++ [(i : Int)])
      split <;> omega
    have hp : (10 : Int) ^ k ≤ 10 ^ 7 := by
      have : (10 : Nat) ^ k ≤ 10 ^ 7 := Nat.pow_le_pow_right (by omega) (by omega)
      exact_mod_cast this
    have h7 : (10 : Int) ^ 7 = 10000000 := by decide
    refine fn_in h_spec_l18Count r_spec_l18Count ⟨by simp only [go_sem], fun E hE hH => ?_⟩; simp only [go_sem] at hE hH; simp only [go_sem, hE, hH, c_spec_l18Count]
    repeat' (first | ((with_reducible first | refine gd_t ?_ ?_ | refine gd_f ?_ ?_) <;> (intro h; have hb := h; (try simp only [nf] at h); simp (disch := omega) only [go_sem, hE, hH, e2, hb]; (try clear hb))) | ((with_reducible refine And.intro ?_ ?_); · omega) | ((first | refine ok_view ?_ | refine cvA (l18Many_ok l (by omega)) ?_); simp (disch := omega) only [go_sem, hE, hH, e2]) | (refine jn _ ?_ ?_) | (with_reducible refine both ?_ ?_) | (with_reducible refine And.intro ?_ ?_) | (refine fin_eq ?_; (try (simp (disch := omega) only [go_sem, hE, hH, e2])); first | done | rfl) | (simp (disch := omega) only [go_sem, hE, hH, e2]) | ((first | apply noMLL_sE | apply pk_sE) <;> (simp only [go_sem, hE, hH, e2]; done)) | (simp only [go_sem, hE, hH, e2]) | fail)
    all_goals try (exfalso; omega)
    refine loopN l.length (fun j (_ : Unit) => ⟨[(0, .sl false 8 (l.map (Deed.row false))), (1, .sl false 1 (ints o)), (5, i64 (sumN (fun n => if frstB l o n then cntS l k (o ++ [(n : Int)]) else 0) j)), (13, i64 l.length), (14, i64 j)], []⟩) (fun _ _ => True) () trivial ?_
    intro j _ hj _
    try simp only [go_sem, hE, hH, c_spec_l18Count_l1]
    first | refine gd_t (fun h2 => ?_) (fun h2 => ?_) | refine gd_f (fun h2 => ?_) (fun h2 => ?_)
    · have hb2 := h2
      simp only [nf] at h2
      have hlt : j < l.length := by omega
      have hc := cntS_le l hl k (o ++ [(j : Int)])
      have hs := hb j (by omega)
      have ih := l18Count_ok l hl k (o ++ [(j : Int)]) (by omega) (by simp; omega)
      have hj7 : (j : Int) * 10 ^ k ≤ 10 * 10 ^ 7 := Int.mul_le_mul (by omega) hp (by omega) (by omega)
      have t2 : IntKind.i64.wrap (sumN (fun n => if frstB l o n then cntS l k (o ++ [(n : Int)]) else 0) j + cntS l k (o ++ [(j : Int)])) = sumN (fun n => if frstB l o n then cntS l k (o ++ [(n : Int)]) else 0) j + cntS l k (o ++ [(j : Int)]) := Go.IntWalk.i64_in _ (by omega)
      have t1 : (o.map (fun x => [T.v (Value.int IntKind.i64 x)]) ++ [[T.v (Value.int IntKind.i64 (j : Int))]]).take (o.length + 1) = ints (o ++ [(j : Int)]) := by
        rw [List.take_of_length_le (by simp)]; simp [ints]
      try simp (disch := omega) only [go_sem, hE, hH, t1, t2, hb2]
      repeat' (first | ((with_reducible first | refine gd_t ?_ ?_ | refine gd_f ?_ ?_) <;> (intro h; have hb := h; (try simp only [nf] at h); simp (disch := omega) only [go_sem, hE, hH, t1, t2, hb]; (try clear hb))) | ((with_reducible refine And.intro ?_ ?_); · omega) | ((first | refine ok_view ?_ | refine cvA (l18First_ok l o j (by omega) (by omega) hlt) ?_ | refine cvA (l1Own_ok o (by omega)) ?_ | refine cvA (ih) ?_); simp (disch := omega) only [go_sem, hE, hH, t1, t2]) | (refine jn _ ?_ ?_) | (with_reducible refine both ?_ ?_) | (with_reducible refine And.intro ?_ ?_) | (refine fin_eq ?_; (try (simp (disch := omega) only [go_sem, hE, hH, t1, t2])); first | done | rfl) | (simp (disch := omega) only [go_sem, hE, hH, t1, t2]) | ((first | apply noMLL_sE | apply pk_sE) <;> (simp only [go_sem, hE, hH, t1, t2]; done)) | (simp only [go_sem, hE, hH, t1, t2]) | fail)
      all_goals try omega
      all_goals (refine ⟨(), ?_⟩; rw [sumN]; simp [h, t2])
    · try simp (disch := omega) only [go_sem, hE, hH, h2]
      simp only [nf] at h2
      rw [show j = l.length by omega]
      rfl
def cntO (l : List Deed) : Int := cntU l (manyY l) 0
def okO (l : List Deed) : Bool := goodHist l && decide (manyY l ≤ 7)
theorem cntO_S {l : List Deed} (hg : goodHist l = true) : cntS l (manyY l) [] = cntO l := cntS_U hg _ _ _ fun m _ => by simp
theorem sCountOrders_ok (l : List Deed) (hl : wfL Deed.wf l) (hs : l.length ≤ 2 ^ 20) : ACall Try.prog n_spec_CountOrders [.sl false 8 (l.map (Deed.row false))] (fun r _ => r = .tup [i64 (if okO l then cntO l else 0), bl (okO l)]) := by
  have hmx := mx_eq
  cases hg : goodHist l with
  | false =>
    refine fn_in h_spec_CountOrders r_spec_CountOrders ⟨by simp only [go_sem], fun E hE hH => ?_⟩; simp only [go_sem] at hE hH; simp only [go_sem, hE, hH, c_spec_CountOrders]
    repeat' (first | ((with_reducible first | refine gd_t ?_ ?_ | refine gd_f ?_ ?_) <;> (intro h; have hb := h; (try simp only [nf] at h); simp (disch := omega) only [go_sem, hE, hH, hg, hb]; (try clear hb))) | ((with_reducible refine And.intro ?_ ?_); · omega) | ((first | refine ok_view ?_ | refine cvA (l18Good_ok l hl) ?_); simp (disch := omega) only [go_sem, hE, hH, hg]) | (refine jn _ ?_ ?_) | (with_reducible refine both ?_ ?_) | (with_reducible refine And.intro ?_ ?_) | (refine fin_eq ?_; (try (simp (disch := omega) only [go_sem, hE, hH, hg])); first | done | rfl) | (simp (disch := omega) only [go_sem, hE, hH, hg]) | ((first | apply noMLL_sE | apply pk_sE) <;> (simp only [go_sem, hE, hH, hg]; done)) | (simp only [go_sem, hE, hH, hg]) | fail)
    all_goals simp [okO, hg]
  | true =>
    have hl10 := goodHist_len hg
    by_cases h7 : manyY l ≤ 7
    · have e : decide (7 < (manyY l : Int)) = false := decide_eq_false (by omega)
      have hc := l18Count_ok l hl10 (manyY l) [] h7 (by simp)
      rw [cntO_S hg] at hc
      refine fn_in h_spec_CountOrders r_spec_CountOrders ⟨by simp only [go_sem], fun E hE hH => ?_⟩; simp only [go_sem] at hE hH; simp only [go_sem, hE, hH, c_spec_CountOrders]
      repeat' (first | ((with_reducible first | refine gd_t ?_ ?_ | refine gd_f ?_ ?_) <;> (intro h; have hb := h; (try simp only [nf] at h); simp (disch := omega) only [go_sem, hE, hH, hg, e, hb]; (try clear hb))) | ((with_reducible refine And.intro ?_ ?_); · omega) | ((first | refine ok_view ?_ | refine cvA (l18Good_ok l hl) ?_ | refine cvA (l18Many_ok l hs) ?_ | refine cvAn (hc) ?_); simp (disch := omega) only [go_sem, hE, hH, hg, e]) | (refine jn _ ?_ ?_) | (with_reducible refine both ?_ ?_) | (with_reducible refine And.intro ?_ ?_) | (refine fin_eq ?_; (try (simp (disch := omega) only [go_sem, hE, hH, hg, e])); first | done | rfl) | (simp (disch := omega) only [go_sem, hE, hH, hg, e]) | ((first | apply noMLL_sE | apply pk_sE) <;> (simp only [go_sem, hE, hH, hg, e]; done)) | (simp only [go_sem, hE, hH, hg, e]) | fail)
      all_goals simp [okO, hg, h7]
    · have e : decide (7 < (manyY l : Int)) = true := decide_eq_true (by omega)
      refine fn_in h_spec_CountOrders r_spec_CountOrders ⟨by simp only [go_sem], fun E hE hH => ?_⟩; simp only [go_sem] at hE hH; simp only [go_sem, hE, hH, c_spec_CountOrders]
      repeat' (first | ((with_reducible first | refine gd_t ?_ ?_ | refine gd_f ?_ ?_) <;> (intro h; have hb := h; (try simp only [nf] at h); simp (disch := omega) only [go_sem, hE, hH, hg, e, hb]; (try clear hb))) | ((with_reducible refine And.intro ?_ ?_); · omega) | ((first | refine ok_view ?_ | refine cvA (l18Good_ok l hl) ?_ | refine cvA (l18Many_ok l hs) ?_); simp (disch := omega) only [go_sem, hE, hH, hg, e]) | (refine jn _ ?_ ?_) | (with_reducible refine both ?_ ?_) | (with_reducible refine And.intro ?_ ?_) | (refine fin_eq ?_; (try (simp (disch := omega) only [go_sem, hE, hH, hg, e])); first | done | rfl) | (simp (disch := omega) only [go_sem, hE, hH, hg, e]) | ((first | apply noMLL_sE | apply pk_sE) <;> (simp only [go_sem, hE, hH, hg, e]; done)) | (simp only [go_sem, hE, hH, hg, e]) | fail)
      all_goals simp [okO, hg, h7]
theorem bit_set {u m : Nat} (hu : u < 1024) (hm : m < 10) : IntKind.i64.wrap (BitVec.ofInt 64 (((u : Nat) : Int).fdiv (2 ^ (min m 64))) &&& BitVec.ofInt 64 1).toNat = 0 ↔ u.testBit m = false := by
  have h : IntKind.i64.wrap (BitVec.ofInt 64 (((u : Nat) : Int).fdiv (2 ^ (min m 64))) &&& BitVec.ofInt 64 1).toNat = if u.testBit m then 1 else 0 := bitI_eq u hu m hm
  rw [h]
  cases u.testBit m <;> simp
theorem mayU_comm (l : List Deed) (u n : Nat) : (!(commD l).any fun x => !u.testBit x.toNat && ahead (nth l x.toNat) (nth l n)) = allN (fun m => !(nth l m).Yes || u.testBit m || !ahead (nth l m) (nth l n)) l.length := by
  rw [Bool.eq_iff_iff, Bool.not_eq_true', List.any_eq_false, allN_iff]
  simp only [commD, comm_mem, Bool.or_eq_true, Bool.not_eq_true', Bool.and_eq_true]
  constructor
  · intro h i hi
    cases q : (nth l i).Yes with
    | false => simp
    | true =>
      have := h i ⟨i, hi, q, rfl⟩
      rw [Int.toNat_natCast] at this
      cases e1 : u.testBit i <;> cases e2 : ahead (nth l i) (nth l n) <;> simp_all
  · rintro h x ⟨i, hi, q, rfl⟩
    have := h i hi
    rw [Int.toNat_natCast]
    cases e1 : u.testBit i <;> cases e2 : ahead (nth l i) (nth l n) <;> simp_all
theorem mayCome_1_ok (l : List Deed) (u n m : Nat) (hl : l.length ≤ 10) (hu : u < 1024) (hn : n < l.length) (hm : m < l.length) : ACall Try.prog n_impl_mayCome_1 ([i64 m] ++ [.bx false [i64 u], .bx false [.sl false 8 (l.map (Deed.row false))], .bx false [i64 n]]) (fun r _ => r = bl (!u.testBit m && ahead (nth l m) (nth l n))) := by
  have hmx := mx_eq
  have hb := bit_set hu (show m < 10 by omega)
  cases hu1 : u.testBit m with
  | true =>
    refine fn_in h_impl_mayCome_1 r_impl_mayCome_1 ⟨by simp only [go_sem], fun E hE hH => ?_⟩; simp only [go_sem] at hE hH; simp only [go_sem, hE, hH, c_impl_mayCome_1]
    repeat' (first | ((with_reducible first | refine gd_t ?_ ?_ | refine gd_f ?_ ?_) <;> (intro h; have hb := h; (try simp only [nf] at h); simp (disch := omega) only [go_sem, hE, hH, hb]; (try clear hb))) | ((with_reducible refine And.intro ?_ ?_); · omega) | ((first | refine ok_view ?_ | refine cvA (ahead_ok _ _) ?_); simp (disch := omega) only [go_sem, hE, hH]) | (refine jn _ ?_ ?_) | (with_reducible refine both ?_ ?_) | (with_reducible refine And.intro ?_ ?_) | (refine fin_eq ?_; (try (simp (disch := omega) only [go_sem, hE, hH])); first | done | rfl) | (simp (disch := omega) only [go_sem, hE, hH]) | ((first | apply noMLL_sE | apply pk_sE) <;> (simp only [go_sem, hE, hH]; done)) | (simp only [go_sem, hE, hH]) | fail)
    all_goals try omega
    all_goals first | rfl | exact absurd (hb.1 h) (by simp [hu1]) | exact absurd (hb.2 hu1) h
  | false =>
    refine fn_in h_impl_mayCome_1 r_impl_mayCome_1 ⟨by simp only [go_sem], fun E hE hH => ?_⟩; simp only [go_sem] at hE hH; simp only [go_sem, hE, hH, c_impl_mayCome_1]
    repeat' (first | ((with_reducible first | refine gd_t ?_ ?_ | refine gd_f ?_ ?_) <;> (intro h; have hb := h; (try simp only [nf] at h); simp (disch := omega) only [go_sem, hE, hH, hb]; (try clear hb))) | ((with_reducible refine And.intro ?_ ?_); · omega) | ((first | refine ok_view ?_ | refine cvA (ahead_ok _ _) ?_); simp (disch := omega) only [go_sem, hE, hH]) | (refine jn _ ?_ ?_) | (with_reducible refine both ?_ ?_) | (with_reducible refine And.intro ?_ ?_) | (refine fin_eq ?_; (try (simp (disch := omega) only [go_sem, hE, hH])); first | done | rfl) | (simp (disch := omega) only [go_sem, hE, hH]) | ((first | apply noMLL_sE | apply pk_sE) <;> (simp only [go_sem, hE, hH]; done)) | (simp only [go_sem, hE, hH]) | fail)
    all_goals try omega
    all_goals first | rfl | exact absurd (hb.1 h) (by simp [hu1]) | exact absurd (hb.2 hu1) h
theorem mayCome_ok (l : List Deed) (u n : Nat) (hl : l.length ≤ 10) (hu : u < 1024) (hn : n < l.length) : ACall Try.prog n_impl_mayCome [.sl false 8 (l.map (Deed.row false)), .sl false 1 (ints (commD l)), i64 u, i64 n] (fun r _ => r = bl (mayU l u n)) := by
  have hmx := mx_eq
  have hb := bit_set hu (show n < 10 by omega)
  have hcl : (commD l).length ≤ maxLen := by have := commJ_len (l := l) (j := l.length); rw [commD]; omega
  have hC := ContainsFunc_Int_ok (commD l) _ [.bx false [i64 u], .bx false [.sl false 8 (l.map (Deed.row false))], .bx false [i64 n]] (fun x => !u.testBit x.toNat && ahead (nth l x.toNat) (nth l n)) (by kernel_rfl) rfl hcl (fun x hx => by
    obtain ⟨i, hi, _, rfl⟩ := comm_mem.1 hx
    rw [Int.toNat_natCast]
    exact mayCome_1_ok l u n i hl hu hn hi)
  have hm := mayU_comm l u n
  have e : mayU l u n = (!u.testBit n && !(commD l).any fun x => !u.testBit x.toNat && ahead (nth l x.toNat) (nth l n)) := by rw [hm, mayU]
  rw [e]
  refine fn_in h_impl_mayCome r_impl_mayCome ⟨by simp only [go_sem], fun E hE hH => ?_⟩; simp only [go_sem] at hE hH; simp only [go_sem, hE, hH, c_impl_mayCome]
  repeat' (first | ((with_reducible first | refine gd_t ?_ ?_ | refine gd_f ?_ ?_) <;> (intro h; have hb := h; (try simp only [nf] at h); simp (disch := omega) only [go_sem, hE, hH, hb]; (try clear hb))) | ((with_reducible refine And.intro ?_ ?_); · omega) | ((first | refine ok_view ?_ | refine cvA (hC) ?_); simp (disch := omega) only [go_sem, hE, hH]) | (refine jn _ ?_ ?_) | (with_reducible refine both ?_ ?_) | (with_reducible refine And.intro ?_ ?_) | (refine fin_eq ?_; (try (simp (disch := omega) only [go_sem, hE, hH])); first | done | rfl) | (simp (disch := omega) only [go_sem, hE, hH]) | ((first | apply noMLL_sE | apply pk_sE) <;> (simp only [go_sem, hE, hH]; done)) | (simp only [go_sem, hE, hH]) | fail)
  all_goals try omega
  all_goals (
    cases hu1 : u.testBit n
    all_goals first | rfl | exact absurd (hb.1 h) (by simp [hu1]) | exact absurd (hb.2 hu1) h)
abbrev CountH : Prop := ∀ l : List Deed, wfL Deed.wf l → l.length ≤ 2 ^ 20 → ACall Try.prog n_impl_CountOrders [.sl false 8 (l.map (Deed.row false))] (fun r _ => r = .tup [i64 (if okO l then cntO l else 0), bl (okO l)])
theorem FnExactCountOrders_ok (hN : CountH) (vH : List Deed) (wH : vH.length ≤ maxLen ∧ ∀ y ∈ vH, y.wf) : ACall Try.prog n_laws_FnExactCountOrders [.sl false 8 (vH.map (Deed.row false))] (fun r _ => r = bl true) := by
  have hmx := mx_eq
  have wlH : wfL (Deed.wf) vH := wH
  have lH : limL (Deed.lim) vH := ⟨wH.1, fun y hy => Deed.lim_of (wH.2 y hy)⟩
  refine fn_in h_laws_FnExactCountOrders r_laws_FnExactCountOrders ⟨by simp only [go_sem], fun E hE hH => ?_⟩; simp only [go_sem] at hE hH; simp only [go_sem, hE, hH, c_laws_FnExactCountOrders]
  refine ok_view ?_; simp (disch := omega) only [go_sem, hE, hH]; refine cvA (szDeedS_ok vH _ (by decide) (by decide) wlH) ?_
  refine aftV_intro ?_
  rintro r l ⟨n1, rfl, hn1, hsz1⟩
  try simp (disch := omega) only [go_sem, hE, hH]
  first | refine gd_t (fun h1 => ?_) (fun h1 => ?_) | refine gd_f (fun h1 => ?_) (fun h1 => ?_)
  · try simp (disch := omega) only [go_sem, hE, hH, h1]
  have hb1 := h1
  simp only [nf] at h1
  try simp (disch := omega) only [go_sem, hE, hH, hb1]
  have sH : szL (Deed.sz) vH ≤ 2 ^ 20 := by have := hsz1 h1; omega
  have sH2 : vH.length ≤ 2 ^ 20 := Nat.le_trans szL_len sH
  repeat' (first | ((with_reducible first | refine gd_t ?_ ?_ | refine gd_f ?_ ?_) <;> (intro h; have hb := h; (try simp only [nf] at h); simp (disch := omega) only [go_sem, hE, hH, hb]; (try clear hb))) | ((with_reducible refine And.intro ?_ ?_); · omega) | ((first | refine ok_view ?_ | refine cvA (toDeedS_ok vH sH) ?_ | refine cvA (sCountOrders_ok vH wlH sH2) ?_ | refine cvA (hN vH wlH sH2) ?_ | refine cvA (eqDeedS_ok vH vH lH) ?_); simp (disch := omega) only [go_sem, hE, hH]) | (refine jn _ ?_ ?_) | (with_reducible refine both ?_ ?_) | (with_reducible refine And.intro ?_ ?_) | (refine fin_eq ?_; (try (simp (disch := omega) only [go_sem, hE, hH])); first | done | rfl) | (simp (disch := omega) only [go_sem, hE, hH]) | ((first | apply noMLL_sE | apply pk_sE) <;> (simp only [go_sem, hE, hH]; done)) | (simp only [go_sem, hE, hH]) | fail)
end Go.Proofs.Wb

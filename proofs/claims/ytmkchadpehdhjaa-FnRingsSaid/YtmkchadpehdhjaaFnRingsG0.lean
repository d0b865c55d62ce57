/- Contracts of functions. -/
import Derived.Test.YtmkchadpehdhjaaFnRingsTy
import Derived.Laws.Externs
set_option linter.unusedSimpArgs false
set_option linter.unusedVariables false
set_option linter.unusedSectionVars false
namespace Go.Proofs.Wb
open Go Go.Am

theorem IndexFunc_Span_ok (l : List Span) (f : Nat) (caps : List T) (p : Span → Bool) (hent : entB Try.prog f = true) (hcap : caps.all T.cap = true) (hl : l.length ≤ maxLen) (hp : ∀ x, x ∈ l → ACall Try.prog f ([.agg (Span.row false x)] ++ caps) (fun r _ => r = bl (p x))) :
    ACall Try.prog n_slices_IndexFunc___impl_Span_impl_Span_ [.sl false 2 (l.map (Span.row false)), .fn f caps] (fun r _ => r = i64 (ixf p l)) := by
  have hmx := mx_eq
  refine fn_in h_slices_IndexFunc___impl_Span_impl_Span_ r_slices_IndexFunc___impl_Span_impl_Span_ ⟨by simp only [go_sem, ↓reduceIte, caps_bare hcap, caps_pk hcap, caps_noM hcap, caps_lt hcap, caps_ids hcap], fun E hE hH => ?_⟩; simp only [go_sem, ↓reduceIte, caps_bare hcap, caps_pk hcap, caps_noM hcap, caps_lt hcap, caps_ids hcap] at hE hH; simp only [go_sem, hE, hH, ↓reduceIte, caps_bare hcap, caps_pk hcap, caps_noM hcap, caps_lt hcap, caps_ids hcap, c_slices_IndexFunc___impl_Span_impl_Span_]
  refine loopN l.length (fun j (_ : Unit) => ⟨[(0, .sl false 2 (l.map (Span.row false))), (1, .fn f caps), (7, i64 l.length), (8, i64 j)], []⟩) (fun j _ => allN (fun i => !p (nth l i)) j = true) () rfl ?_
  intro j _ hj hI
  try simp only [go_sem, hE, hH, ↓reduceIte, caps_bare hcap, caps_pk hcap, caps_noM hcap, caps_lt hcap, caps_ids hcap, c_slices_IndexFunc___impl_Span_impl_Span__l1]
  first | refine gd_t (fun h => ?_) (fun h => ?_) | refine gd_f (fun h => ?_) (fun h => ?_)
  · have hb := h
    simp only [decide_eq_true_eq, decide_eq_false_iff_not, Int.not_lt, Int.not_le, ge_iff_le, gt_iff_lt, Bool.not_eq_true', Bool.not_eq_false', beq_iff_eq, bne_iff_ne, beq_eq_false_iff_ne, bne_eq_false_iff_eq, Int.ofNat_lt, Int.ofNat_le] at h
    have hlt := h; clear h
    try simp (disch := omega) only [go_sem, hE, hH, ↓reduceIte, caps_bare hcap, caps_pk hcap, caps_noM hcap, caps_lt hcap, caps_ids hcap, hb]
    refine And.intro (by omega) ?_
    refine ok_cfv rfl rfl rfl (hent) (hcap) (hp _ (nth_mem hlt)) ?_
    try simp (disch := omega) only [go_sem, hE, hH, ↓reduceIte, caps_bare hcap, caps_pk hcap, caps_noM hcap, caps_lt hcap, caps_ids hcap]
    repeat' (first | ((with_reducible (first | refine gd_t (fun h => ?_) (fun h => ?_) | refine gd_f (fun h => ?_) (fun h => ?_))) <;> (have hb := h; (try simp only [decide_eq_true_eq, decide_eq_false_iff_not, Int.not_lt, Int.not_le, ge_iff_le, gt_iff_lt, Bool.not_eq_true', Bool.not_eq_false', beq_iff_eq, bne_iff_ne, beq_eq_false_iff_ne, bne_eq_false_iff_eq, Int.ofNat_lt, Int.ofNat_le] at h); simp (disch := omega) only [go_sem, hE, hH, ↓reduceIte, caps_bare hcap, caps_pk hcap, caps_noM hcap, caps_lt hcap, caps_ids hcap, hb]; (try clear hb))) | ((with_reducible refine And.intro ?_ ?_); · omega) | (refine jn _ ?_ ?_) | (with_reducible refine both ?_ ?_) | (with_reducible refine And.intro ?_ ?_) | (refine fin_eq ?_; (try (simp (disch := omega) only [go_sem, hE, hH, ↓reduceIte, caps_bare hcap, caps_pk hcap, caps_noM hcap, caps_lt hcap, caps_ids hcap])); first | done | rfl) | (simp (disch := omega) only [go_sem, hE, hH, ↓reduceIte, caps_bare hcap, caps_pk hcap, caps_noM hcap, caps_lt hcap, caps_ids hcap]) | (exact (noMLL_set (by simp only [go_sem, hE, hH, ↓reduceIte, caps_bare hcap, caps_pk hcap, caps_noM hcap, caps_lt hcap, caps_ids hcap]) (by simp only [go_sem, hE, hH, ↓reduceIte, caps_bare hcap, caps_pk hcap, caps_noM hcap, caps_lt hcap, caps_ids hcap])).2 trivial) | (exact (pk_set (by simp only [go_sem, hE, hH, ↓reduceIte, caps_bare hcap, caps_pk hcap, caps_noM hcap, caps_lt hcap, caps_ids hcap]) (by simp only [go_sem, hE, hH, ↓reduceIte, caps_bare hcap, caps_pk hcap, caps_noM hcap, caps_lt hcap, caps_ids hcap])).2 trivial) | (simp only [go_sem, hE, hH, ↓reduceIte, caps_bare hcap, caps_pk hcap, caps_noM hcap, caps_lt hcap, caps_ids hcap]) | fail)
    · rw [ixf_at hlt hI h]
    · exact ⟨(), rfl, allN_step hI (by simp [h])⟩
  · try simp (disch := omega) only [go_sem, hE, hH, ↓reduceIte, caps_bare hcap, caps_pk hcap, caps_noM hcap, caps_lt hcap, caps_ids hcap, h]
    simp only [decide_eq_true_eq, decide_eq_false_iff_not, Int.not_lt, Int.not_le, ge_iff_le, gt_iff_lt, Bool.not_eq_true', Bool.not_eq_false', beq_iff_eq, bne_iff_ne, beq_eq_false_iff_ne, bne_eq_false_iff_eq, Int.ofNat_lt, Int.ofNat_le] at h
    rw [show j = l.length by omega] at hI
    rw [ixf_none hI]


theorem IndexFunc_Int_ok (l : List Int) (f : Nat) (caps : List T) (p : Int → Bool) (hent : entB Try.prog f = true) (hcap : caps.all T.cap = true) (hl : l.length ≤ maxLen) (hp : ∀ x, x ∈ l → ACall Try.prog f ([i64 x] ++ caps) (fun r _ => r = bl (p x))) :
    ACall Try.prog n_slices_IndexFunc___int_int_ [.sl false 1 (ints l), .fn f caps] (fun r _ => r = i64 (ixf p l)) := by
  have hmx := mx_eq
  refine fn_in h_slices_IndexFunc___int_int_ r_slices_IndexFunc___int_int_ ⟨by simp only [go_sem, ↓reduceIte, caps_bare hcap, caps_pk hcap, caps_noM hcap, caps_lt hcap, caps_ids hcap], fun E hE hH => ?_⟩; simp only [go_sem, ↓reduceIte, caps_bare hcap, caps_pk hcap, caps_noM hcap, caps_lt hcap, caps_ids hcap] at hE hH; simp only [go_sem, hE, hH, ↓reduceIte, caps_bare hcap, caps_pk hcap, caps_noM hcap, caps_lt hcap, caps_ids hcap, c_slices_IndexFunc___int_int_]
  refine loopN l.length (fun j (_ : Unit) => ⟨[(0, .sl false 1 (ints l)), (1, .fn f caps), (7, i64 l.length), (8, i64 j)], []⟩) (fun j _ => allN (fun i => !p (nth l i)) j = true) () rfl ?_
  intro j _ hj hI
  try simp only [go_sem, hE, hH, ↓reduceIte, caps_bare hcap, caps_pk hcap, caps_noM hcap, caps_lt hcap, caps_ids hcap, c_slices_IndexFunc___int_int__l1]
  first | refine gd_t (fun h => ?_) (fun h => ?_) | refine gd_f (fun h => ?_) (fun h => ?_)
  · have hb := h
    simp only [decide_eq_true_eq, decide_eq_false_iff_not, Int.not_lt, Int.not_le, ge_iff_le, gt_iff_lt, Bool.not_eq_true', Bool.not_eq_false', beq_iff_eq, bne_iff_ne, beq_eq_false_iff_ne, bne_eq_false_iff_eq, Int.ofNat_lt, Int.ofNat_le] at h
    have hlt := h; clear h
    try simp (disch := omega) only [go_sem, hE, hH, ↓reduceIte, caps_bare hcap, caps_pk hcap, caps_noM hcap, caps_lt hcap, caps_ids hcap, hb]
    refine And.intro (by omega) ?_
    refine ok_cfv rfl rfl rfl (hent) (hcap) (hp _ (nth_mem hlt)) ?_
    try simp (disch := omega) only [go_sem, hE, hH, ↓reduceIte, caps_bare hcap, caps_pk hcap, caps_noM hcap, caps_lt hcap, caps_ids hcap]
    repeat' (first | ((with_reducible (first | refine gd_t (fun h => ?_) (fun h => ?_) | refine gd_f (fun h => ?_) (fun h => ?_))) <;> (have hb := h; (try simp only [decide_eq_true_eq, decide_eq_false_iff_not, Int.not_lt, Int.not_le, ge_iff_le, gt_iff_lt, Bool.not_eq_true', Bool.not_eq_false', beq_iff_eq, bne_iff_ne, beq_eq_false_iff_ne, bne_eq_false_iff_eq, Int.ofNat_lt, Int.ofNat_le] at h); simp (disch := omega) only [go_sem, hE, hH, ↓reduceIte, caps_bare hcap, caps_pk hcap, caps_noM hcap, caps_lt hcap, caps_ids hcap, hb]; (try clear hb))) | ((with_reducible refine And.intro ?_ ?_); · omega) | (refine jn _ ?_ ?_) | (with_reducible refine both ?_ ?_) | (with_reducible refine And.intro ?_ ?_) | (refine fin_eq ?_; (try (simp (disch := omega) only [go_sem, hE, hH, ↓reduceIte, caps_bare hcap, caps_pk hcap, caps_noM hcap, caps_lt hcap, caps_ids hcap])); first | done | rfl) | (simp (disch := omega) only [go_sem, hE, hH, ↓reduceIte, caps_bare hcap, caps_pk hcap, caps_noM hcap, caps_lt hcap, caps_ids hcap]) | (exact (noMLL_set (by simp only [go_sem, hE, hH, ↓reduceIte, caps_bare hcap, caps_pk hcap, caps_noM hcap, caps_lt hcap, caps_ids hcap]) (by simp only [go_sem, hE, hH, ↓reduceIte, caps_bare hcap, caps_pk hcap, caps_noM hcap, caps_lt hcap, caps_ids hcap])).2 trivial) | (exact (pk_set (by simp only [go_sem, hE, hH, ↓reduceIte, caps_bare hcap, caps_pk hcap, caps_noM hcap, caps_lt hcap, caps_ids hcap]) (by simp only [go_sem, hE, hH, ↓reduceIte, caps_bare hcap, caps_pk hcap, caps_noM hcap, caps_lt hcap, caps_ids hcap])).2 trivial) | (simp only [go_sem, hE, hH, ↓reduceIte, caps_bare hcap, caps_pk hcap, caps_noM hcap, caps_lt hcap, caps_ids hcap]) | fail)
    · rw [ixf_at hlt hI h]
    · exact ⟨(), rfl, allN_step hI (by simp [h])⟩
  · try simp (disch := omega) only [go_sem, hE, hH, ↓reduceIte, caps_bare hcap, caps_pk hcap, caps_noM hcap, caps_lt hcap, caps_ids hcap, h]
    simp only [decide_eq_true_eq, decide_eq_false_iff_not, Int.not_lt, Int.not_le, ge_iff_le, gt_iff_lt, Bool.not_eq_true', Bool.not_eq_false', beq_iff_eq, bne_iff_ne, beq_eq_false_iff_ne, bne_eq_false_iff_eq, Int.ofNat_lt, Int.ofNat_le] at h
    rw [show j = l.length by omega] at hI
    rw [ixf_none hI]


theorem ContainsFunc_Span_ok (l : List Span) (f : Nat) (caps : List T) (p : Span → Bool) (hent : entB Try.prog f = true) (hcap : caps.all T.cap = true) (hl : l.length ≤ maxLen) (hp : ∀ x, x ∈ l → ACall Try.prog f ([.agg (Span.row false x)] ++ caps) (fun r _ => r = bl (p x))) :
    ACall Try.prog n_slices_ContainsFunc___impl_Span_impl_Span_ [.sl false 2 (l.map (Span.row false)), .fn f caps] (fun r _ => r = bl (l.any p)) := by
  refine fn_in h_slices_ContainsFunc___impl_Span_impl_Span_ r_slices_ContainsFunc___impl_Span_impl_Span_ ⟨by simp only [go_sem, ↓reduceIte, caps_bare hcap, caps_pk hcap, caps_noM hcap, caps_lt hcap, caps_ids hcap], fun E hE hH => ?_⟩; simp only [go_sem, ↓reduceIte, caps_bare hcap, caps_pk hcap, caps_noM hcap, caps_lt hcap, caps_ids hcap] at hE hH; simp only [go_sem, hE, hH, ↓reduceIte, caps_bare hcap, caps_pk hcap, caps_noM hcap, caps_lt hcap, caps_ids hcap, c_slices_ContainsFunc___impl_Span_impl_Span_]
  refine ok_cv rfl (by simp only [zipF, argL, vwT, vwLeaf, vwRow_caps hcap, Bool.false_eq_true, if_false]; rfl) (IndexFunc_Span_ok l f caps p hent hcap hl hp) ?_
  try simp (disch := omega) only [go_sem, hE, hH, ↓reduceIte, caps_bare hcap, caps_pk hcap, caps_noM hcap, caps_lt hcap, caps_ids hcap, ixf_any, vwC_ok hcap]


theorem ContainsFunc_Int_ok (l : List Int) (f : Nat) (caps : List T) (p : Int → Bool) (hent : entB Try.prog f = true) (hcap : caps.all T.cap = true) (hl : l.length ≤ maxLen) (hp : ∀ x, x ∈ l → ACall Try.prog f ([i64 x] ++ caps) (fun r _ => r = bl (p x))) :
    ACall Try.prog n_slices_ContainsFunc___int_int_ [.sl false 1 (ints l), .fn f caps] (fun r _ => r = bl (l.any p)) := by
  refine fn_in h_slices_ContainsFunc___int_int_ r_slices_ContainsFunc___int_int_ ⟨by simp only [go_sem, ↓reduceIte, caps_bare hcap, caps_pk hcap, caps_noM hcap, caps_lt hcap, caps_ids hcap], fun E hE hH => ?_⟩; simp only [go_sem, ↓reduceIte, caps_bare hcap, caps_pk hcap, caps_noM hcap, caps_lt hcap, caps_ids hcap] at hE hH; simp only [go_sem, hE, hH, ↓reduceIte, caps_bare hcap, caps_pk hcap, caps_noM hcap, caps_lt hcap, caps_ids hcap, c_slices_ContainsFunc___int_int_]
  refine ok_cv rfl (by simp only [zipF, argL, vwT, vwLeaf, vwRow_caps hcap, Bool.false_eq_true, if_false]; rfl) (IndexFunc_Int_ok l f caps p hent hcap hl hp) ?_
  try simp (disch := omega) only [go_sem, hE, hH, ↓reduceIte, caps_bare hcap, caps_pk hcap, caps_noM hcap, caps_lt hcap, caps_ids hcap, ixf_any, vwC_ok hcap]

end Go.Proofs.Wb

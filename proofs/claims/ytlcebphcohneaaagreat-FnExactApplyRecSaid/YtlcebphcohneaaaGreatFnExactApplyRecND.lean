import Derived.Test.YtlcebphcohneaaaGreatFnExactApplyRecN6
import Derived.Laws.Externs
set_option linter.unusedSimpArgs false
set_option linter.unusedVariables false
set_option linter.unusedSectionVars false
namespace Go.Proofs.Wb
open Go Go.Am
theorem ACall.dshN {P : Program} {f : Nat} {args : List T} {α : Type} {X : α → T} {C : α → Prop} (h : ACall P f args (fun r _ => ∃ q, nilLe r.dsh (X q) ∧ C q)) : ACall P f args (fun r _ => ∃ q, r = X q ∧ C q) := by
 refine ACall.nil (h.dshR.mono ?_)
 rintro r l ⟨r0, ⟨q, h1, h2⟩, rfl⟩
 exact ⟨X q, h1, q, rfl, h2⟩
def sAppR (q : State) (b : Bool) : T := .tup [.agg (State.row false q), bl b]
theorem nilR_sApp {C : State → Prop} {r : T} {l : List T} {b : Bool} (q : State) (h : nilLe r.dsh (sAppR q b)) (hC : C q) : nilR (fun r _ => ∃ q, nilLe r.dsh (sAppR q b) ∧ C q) r l := nilR_of ⟨q, h, hC⟩
theorem nilR_sApp2 {C : State → Prop} {r : T} {l : List T} {b : Bool} (q : State) (b0 : Bool) (h : nilLe r.dsh (sAppR q b0)) (hb : b0 = b) (hC : C q) : nilR (fun r _ => ∃ q, nilLe r.dsh (sAppR q b) ∧ C q) r l := nilR_sApp q (hb ▸ h) hC
theorem heldCut_filter {n : Nat} {s : State} {r : Rec} (hi : stI n s) : heldCut s r = s.Held.filter fun x => !decide (x.Txn = r.Txn) := by
 unfold heldCut
 cases hH : hF s.Held r.Txn with
 | true =>
  obtain ⟨k1, k2⟩ := hF_at hi.hsrt hH
  rw [if_pos rfl, cutAt_filter (f := Held.Txn) cmpJ_ord hi.hsrt k1, k2]
 | false =>
  rw [if_neg (by simp)]
  symm
  rw [List.filter_eq_self]
  intro x hx
  rw [hF, fxF, List.any_eq_false] at hH
  simpa using hH x hx
set_option maxHeartbeats 4000000 in
theorem l13Apply_ok {n : Nat} (s : State) (r : Rec) (hi : stI n s) (hn : n ≤ 100) (hr : recOk r = true) : ACall Tryz.prog 75 [.agg (State.row false s), .agg (Rec.row false r)] (fun x _ => ∃ q, x = sAppR q (appS s r).isSome ∧ ∀ s', appS s r = some s' → q = s') := by
 have hmx := mx_eq
 have hb := hi.b (by omega)
 have hHl := hi.hlen
 have hTl := hi.tlen
 have cO := l13Own_ok s hb
 have cFH := l13HeldOf_ok s r.Txn (by omega) hi.hsrt
 have cFT := l13ToldOf_ok s r.Txn (by omega) hi.tsrt
 refine ACall.dshN (X := fun q => sAppR q (appS s r).isSome) ?_
 by_cases h4 : r.Kind = 4
 ·have z1 : decide (r.Kind = 4) = true := decide_eq_true h4
  have hD : appS s r = if r.Time ≤ s.Floor then none else some ⟨r.Time, s.Cells, s.Held, s.Told⟩ := by rw [appS, if_pos h4]
  refine fi H75 fun E hE hH => ?_; simp only [go_sem] at hE hH; simp only [go_sem, hE, hH, C75]
  try simp (disch := omega) only [go_sem, hE, hH, z1]
  repeat' (first | ((with_reducible first | refine gd_t ?_ ?_ | refine gd_f ?_ ?_) <;> (intro h; have hb := h; (try simp only [nf] at h); simp (disch := omega) only [go_sem, hE, hH, z1, hb]; (try clear hb))) | ((with_reducible refine And.intro ?_ ?_); · omega) | ((first | refine ok_view ?_ | refine cvA (cO) ?_ | refine cvA (cFH) ?_ | refine cvA (cFT) ?_); simp (disch := omega) only [go_sem, hE, hH, z1]) | (with_reducible apply jn) | (with_reducible apply both) | (with_reducible refine And.intro ?_ ?_) | ((with_reducible apply fin_eq); (try (simp (disch := omega) only [go_sem, hE, hH, z1])); first | done | rfl) | (simp (disch := omega) only [go_sem, hE, hH, z1]) | ((first | apply noMLL_sE | apply pk_sE) <;> (simp only [go_sem, hE, hH, z1]; done)) | (simp only [go_sem, hE, hH, z1]) | fail)
  by_cases hT : r.Time ≤ s.Floor
  ·rw [if_pos hT] at hD
   refine nilR_sApp ⟨r.Time, s.Cells, s.Held, s.Told⟩ ?_ (fun s' e => by rw [hD] at e; cases e)
   rw [hD, sAppR, decide_eq_false (by omega)]
   simp only [go_sem]
   (repeat' apply And.intro) <;> rfl
  ·rw [if_neg hT] at hD
   refine nilR_sApp ⟨r.Time, s.Cells, s.Held, s.Told⟩ ?_ (fun s' e => by rw [hD] at e; injection e)
   rw [hD, sAppR, decide_eq_true (by omega)]
   simp only [go_sem]
   (repeat' apply And.intro) <;> rfl
 have z1 : decide (r.Kind = 4) = false := decide_eq_false h4
 cases hTF : tF s.Told r.Txn with
 | true =>
  rw [hTF] at cFT
  have hD : appS s r = none := by rw [appS, if_neg h4, hTF]; rfl
  refine fi H75 fun E hE hH => ?_; simp only [go_sem] at hE hH; simp only [go_sem, hE, hH, C75]
  try simp (disch := omega) only [go_sem, hE, hH, z1]
  repeat' (first | ((with_reducible first | refine gd_t ?_ ?_ | refine gd_f ?_ ?_) <;> (intro h; have hb := h; (try simp only [nf] at h); simp (disch := omega) only [go_sem, hE, hH, z1, hb]; (try clear hb))) | ((with_reducible refine And.intro ?_ ?_); · omega) | ((first | refine ok_view ?_ | refine cvA (cO) ?_ | refine cvA (cFH) ?_ | refine cvA (cFT) ?_); simp (disch := omega) only [go_sem, hE, hH, z1]) | (with_reducible apply jn) | (with_reducible apply both) | (with_reducible refine And.intro ?_ ?_) | ((with_reducible apply fin_eq); (try (simp (disch := omega) only [go_sem, hE, hH, z1])); first | done | rfl) | (simp (disch := omega) only [go_sem, hE, hH, z1]) | ((first | apply noMLL_sE | apply pk_sE) <;> (simp only [go_sem, hE, hH, z1]; done)) | (simp only [go_sem, hE, hH, z1]) | fail)
  refine nilR_sApp s ?_ (fun s' e => by rw [hD] at e; cases e)
  rw [hD, sAppR]
  simp only [go_sem]
  (repeat' apply And.intro) <;> rfl
 | false =>
  rw [hTF] at cFT
  by_cases h1 : r.Kind = 1
  ·have z2 : decide (r.Kind = 1) = true := decide_eq_true h1
   have hld := hldOk_lists (recOk_kind hr h1)
   have hld1 : r.Reads.length ≤ 8 := hld.1
   have hld2 : r.Writes.length ≤ 8 := hld.2.1
   have cF := l13Fits_ok s r.Reads r.Writes hi (by omega) (by omega)
   have hA : appS s r = if (hF s.Held r.Txn || decide (r.Time ≤ s.Floor) || !fitsS s r.Reads r.Writes) = true then none else some ⟨r.Time, s.Cells, putAt s.Held (hI s.Held r.Txn) (hOf r), s.Told⟩ := by rw [appS, if_neg h4, hTF, if_neg (by simp), if_neg (by simp [h1])]
   have hQ : ∀ s', appS s r = some s' → (⟨r.Time, s.Cells, putAt s.Held (hPl s.Held r.Txn) (hOf r), s.Told⟩ : State) = s' := by
    intro s' e
    rw [hA] at e
    split at e
    ·cases e
    ·rename_i hcond
     injection e with e
     have hh : hF s.Held r.Txn = false := by
      cases q : hF s.Held r.Txn with
      | false => rfl
      | true => rw [q] at hcond; simp at hcond
     rw [← e, show hPl s.Held r.Txn = hI s.Held r.Txn from hPl_eq (x := hOf r) hi.hsrt hh]
   have cPH : ACall Tryz.prog 131 [.sl true 5 (s.Held.map (Held.row true)), .agg (Held.row true (hOf r))] (fun x l => x = .sl true 5 ((putAt s.Held (hPl s.Held r.Txn) (hOf r)).map (Held.row false)) ∧ l = [.any, .any]) := frz_eq (l13PutHeld_ok s.Held (hOf r) (by omega)) (by simp only [go_sem]; rfl) rfl
   refine fi H75 fun E hE hH => ?_; simp only [go_sem] at hE hH; simp only [go_sem, hE, hH, C75]
   try simp (disch := omega) only [go_sem, hE, hH, z1, z2]
   repeat' (first | ((with_reducible first | refine gd_t ?_ ?_ | refine gd_f ?_ ?_) <;> (intro h; have hb := h; (try simp only [nf] at h); simp (disch := omega) only [go_sem, hE, hH, z1, z2, hb]; (try clear hb))) | ((with_reducible refine And.intro ?_ ?_); · omega) | (refine ok_lend [true, true] ?_; simp (disch := omega) only [go_sem, hE, hH, z1, z2]; refine cmA (cPH) ?_; simp (disch := omega) only [go_sem, hE, hH, z1, z2]) | ((first | refine ok_view ?_ | refine cvA (cO) ?_ | refine cvA (cFH) ?_ | refine cvA (cFT) ?_ | refine cvA (l1OwnS_ok _ (by omega)) ?_ | refine cvA (cF) ?_); simp (disch := omega) only [go_sem, hE, hH, z1, z2]) | (with_reducible apply jn) | (with_reducible apply both) | (with_reducible refine And.intro ?_ ?_) | ((with_reducible apply fin_eq); (try (simp (disch := omega) only [go_sem, hE, hH, z1, z2])); first | done | rfl) | (simp (disch := omega) only [go_sem, hE, hH, z1, z2]) | ((first | apply noMLL_sE | apply pk_sE) <;> (simp only [go_sem, hE, hH, z1, z2]; done)) | (simp only [go_sem, hE, hH, z1, z2]) | fail)
   ·refine nilR_sApp2 ⟨r.Time, s.Cells, putAt s.Held (hPl s.Held r.Txn) (hOf r), s.Told⟩ (fitsS s r.Reads r.Writes) ?_ ?_ hQ
    ·(rw [sAppR]; simp only [go_sem]; (repeat' apply And.intro) <;> rfl)
    ·rw [hA]
     cases hq : fitsS s r.Reads r.Writes <;> (split <;> simp_all <;> omega)
   all_goals (
    refine nilR_sApp2 ⟨r.Time, s.Cells, putAt s.Held (hPl s.Held r.Txn) (hOf r), s.Told⟩ false ?_ ?_ hQ
    ·(rw [sAppR]; simp only [go_sem]; (repeat' apply And.intro) <;> rfl)
    ·rw [hA]
     split <;> simp_all <;> omega)
  ·have z2 : decide (r.Kind = 1) = false := decide_eq_false h1
   have hD : appS s r = decS s r := by rw [appS, if_neg h4, hTF, if_neg (by simp), if_pos h1]
   have hpt : tPl s.Told r.Txn = tI s.Told r.Txn := tPl_eq (x := (⟨r.Txn, r.Yes, r.Time⟩ : Told)) hi.tsrt hTF
   have cPT := l13PutTold_ok s.Told ⟨r.Txn, r.Yes, r.Time⟩ (by omega)
   rw [show (⟨r.Txn, r.Yes, r.Time⟩ : Told).Txn = r.Txn from rfl, hpt, show putAt s.Told (tI s.Told r.Txn) (⟨r.Txn, r.Yes, r.Time⟩ : Told) = toldAdd s r from rfl] at cPT
   have cLs : ACall Tryz.prog 136 [.sl true 5 (s.Held.map (Held.row true)), i64 r.Txn] (fun x l => x = .sl true 5 ((heldCut s r).map (Held.row false)) ∧ l = [.any, .any]) := by
    rw [heldCut_filter hi]
    exact frz_eq (l13Less_ok s.Held r.Txn (by omega)) (by simp only [go_sem]; rfl) rfl
   have hcl : (heldCut s r).length ≤ 12 := (heldCut_I hi r).1
   cases hY : r.Yes with
   | false =>
    rw [hY] at cPT
    have hE2 : decS s r = some ⟨s.Floor, s.Cells, heldCut s r, toldAdd s r⟩ := by rw [decS, hY]; rfl
    rw [hE2] at hD
    refine fi H75 fun E hE hH => ?_; simp only [go_sem] at hE hH; simp only [go_sem, hE, hH, C75]
    try simp (disch := omega) only [go_sem, hE, hH, z1, z2, hY]
    repeat' (first | ((with_reducible first | refine gd_t ?_ ?_ | refine gd_f ?_ ?_) <;> (intro h; have hb := h; (try simp only [nf] at h); simp (disch := omega) only [go_sem, hE, hH, z1, z2, hY, hb]; (try clear hb))) | ((with_reducible refine And.intro ?_ ?_); · omega) | (refine ok_lend [true, false] ?_; simp (disch := omega) only [go_sem, hE, hH, z1, z2, hY]; refine cmA (cLs) ?_; simp (disch := omega) only [go_sem, hE, hH, z1, z2, hY]) | ((first | refine ok_view ?_ | refine cvA (cO) ?_ | refine cvA (cFH) ?_ | refine cvA (cFT) ?_ | refine cvA (cPT) ?_); simp (disch := omega) only [go_sem, hE, hH, z1, z2, hY]) | (with_reducible apply jn) | (with_reducible apply both) | (with_reducible refine And.intro ?_ ?_) | ((with_reducible apply fin_eq); (try (simp (disch := omega) only [go_sem, hE, hH, z1, z2, hY])); first | done | rfl) | (simp (disch := omega) only [go_sem, hE, hH, z1, z2, hY]) | ((first | apply noMLL_sE | apply pk_sE) <;> (simp only [go_sem, hE, hH, z1, z2, hY]; done)) | (simp only [go_sem, hE, hH, z1, z2, hY]) | fail)
    refine nilR_sApp2 ⟨s.Floor, s.Cells, heldCut s r, toldAdd s r⟩ true ?_ (by rw [hD]; rfl) (fun s' e => by rw [hD] at e; injection e)
    (rw [sAppR]; simp only [go_sem]; (repeat' apply And.intro) <;> rfl)
   | true =>
    rw [hY] at cPT
    have hTm : 1 ≤ r.Time := by
     simp only [recOk, h1, h4, if_false, hY] at hr
     split at hr
     ·simp only [Bool.and_eq_true, Bool.or_eq_true, rng_iff, Bool.not_true, Bool.false_and, Bool.true_and, Bool.false_eq_true, or_false] at hr
      omega
     ·cases hr
    cases hH : hF s.Held r.Txn with
    | false =>
     rw [hH] at cFH
     have hE2 : decS s r = none := by rw [decS, hY, hH]; rfl
     rw [hE2] at hD
     refine fi H75 fun E hE hH => ?_; simp only [go_sem] at hE hH; simp only [go_sem, hE, hH, C75]
     try simp (disch := omega) only [go_sem, hE, hH, z1, z2, hY]
     repeat' (first | ((with_reducible first | refine gd_t ?_ ?_ | refine gd_f ?_ ?_) <;> (intro h; have hb := h; (try simp only [nf] at h); simp (disch := omega) only [go_sem, hE, hH, z1, z2, hY, hb]; (try clear hb))) | ((with_reducible refine And.intro ?_ ?_); · omega) | ((first | refine ok_view ?_ | refine cvA (cO) ?_ | refine cvA (cFH) ?_ | refine cvA (cFT) ?_); simp (disch := omega) only [go_sem, hE, hH, z1, z2, hY]) | (with_reducible apply jn) | (with_reducible apply both) | (with_reducible refine And.intro ?_ ?_) | ((with_reducible apply fin_eq); (try (simp (disch := omega) only [go_sem, hE, hH, z1, z2, hY])); first | done | rfl) | (simp (disch := omega) only [go_sem, hE, hH, z1, z2, hY]) | ((first | apply noMLL_sE | apply pk_sE) <;> (simp only [go_sem, hE, hH, z1, z2, hY]; done)) | (simp only [go_sem, hE, hH, z1, z2, hY]) | fail)
     refine nilR_sApp2 s false ?_ (by rw [hD]; rfl) (fun s' e => by rw [hD] at e; cases e)
     (rw [sAppR]; simp only [go_sem]; (repeat' apply And.intro) <;> rfl)
    | true =>
     rw [hH] at cFH
     obtain ⟨k1, k2⟩ := hF_at hi.hsrt hH
     have hld := hldOk_lists (hi.hok _ (nth_mem k1))
     have hI0 := goodCells_I hi.cells
     have hN : hNth s.Held r.Txn = nth s.Held (hI s.Held r.Txn) := by rw [hNth, hH, if_pos rfl]
     rw [hN] at cFH
     by_cases hT : r.Time < (nth s.Held (hI s.Held r.Txn)).Time
     ·have hE2 : decS s r = none := by rw [decS, hY, hH, decide_eq_true hT]; rfl
      rw [hE2] at hD
      have hT2 := decide_eq_true hT
      refine fi H75 fun E hE hH => ?_; simp only [go_sem] at hE hH; simp only [go_sem, hE, hH, C75]
      try simp (disch := omega) only [go_sem, hE, hH, z1, z2, hY, hT2]
      repeat' (first | ((with_reducible first | refine gd_t ?_ ?_ | refine gd_f ?_ ?_) <;> (intro h; have hb := h; (try simp only [nf] at h); simp (disch := omega) only [go_sem, hE, hH, z1, z2, hY, hT2, hb]; (try clear hb))) | ((with_reducible refine And.intro ?_ ?_); · omega) | ((first | refine ok_view ?_ | refine cvA (cO) ?_ | refine cvA (cFH) ?_ | refine cvA (cFT) ?_); simp (disch := omega) only [go_sem, hE, hH, z1, z2, hY, hT2]) | (with_reducible apply jn) | (with_reducible apply both) | (with_reducible refine And.intro ?_ ?_) | ((with_reducible apply fin_eq); (try (simp (disch := omega) only [go_sem, hE, hH, z1, z2, hY, hT2])); first | done | rfl) | (simp (disch := omega) only [go_sem, hE, hH, z1, z2, hY, hT2]) | ((first | apply noMLL_sE | apply pk_sE) <;> (simp only [go_sem, hE, hH, z1, z2, hY, hT2]; done)) | (simp only [go_sem, hE, hH, z1, z2, hY, hT2]) | fail)
      refine nilR_sApp2 s false ?_ (by rw [hD]; rfl) (fun s' e => by rw [hD] at e; cases e)
      (rw [sAppR]; simp only [go_sem]; (repeat' apply And.intro) <;> rfl)
     have hT2 := decide_eq_false hT
     have cP := l3Put_ok s.Cells (nth s.Held (hI s.Held r.Txn)).Writes r.Time hI0 (fun x hx => goodWrites_sizes hld.2.2.1 hx) (by omega) hTm
     cases hP : putVs r.Time (nth s.Held (hI s.Held r.Txn)).Writes (some s.Cells) with
     | none =>
      rw [hP] at cP
      simp only [sPutR] at cP
      have hE2 : decS s r = none := by rw [decS, hY, hH, hT2, putC, hP]; rfl
      rw [hE2] at hD
      refine fi H75 fun E hE hH => ?_; simp only [go_sem] at hE hH; simp only [go_sem, hE, hH, C75]
      try simp (disch := omega) only [go_sem, hE, hH, z1, z2, hY, hT2]
      repeat' (first | ((with_reducible first | refine gd_t ?_ ?_ | refine gd_f ?_ ?_) <;> (intro h; have hb := h; (try simp only [nf] at h); simp (disch := omega) only [go_sem, hE, hH, z1, z2, hY, hT2, hb]; (try clear hb))) | ((with_reducible refine And.intro ?_ ?_); · omega) | ((first | refine ok_view ?_ | refine cvA (cO) ?_ | refine cvA (cFH) ?_ | refine cvA (cFT) ?_ | refine cvA (cP) ?_); simp (disch := omega) only [go_sem, hE, hH, z1, z2, hY, hT2]) | (with_reducible apply jn) | (with_reducible apply both) | (with_reducible refine And.intro ?_ ?_) | ((with_reducible apply fin_eq); (try (simp (disch := omega) only [go_sem, hE, hH, z1, z2, hY, hT2])); first | done | rfl) | (simp (disch := omega) only [go_sem, hE, hH, z1, z2, hY, hT2]) | ((first | apply noMLL_sE | apply pk_sE) <;> (simp only [go_sem, hE, hH, z1, z2, hY, hT2]; done)) | (simp only [go_sem, hE, hH, z1, z2, hY, hT2]) | fail)
      refine nilR_sApp2 s false ?_ (by rw [hD]; rfl) (fun s' e => by rw [hD] at e; cases e)
      (rw [sAppR]; simp only [go_sem]; (repeat' apply And.intro) <;> rfl)
     | some c =>
      rw [hP] at cP
      simp only [sPutR] at cP
      cases hG : goodCells c with
      | false =>
       rw [hG] at cP
       have hE2 : decS s r = none := by rw [decS, hY, hH, hT2, putC, hP]; simp [hG]
       rw [hE2] at hD
       refine fi H75 fun E hE hH => ?_; simp only [go_sem] at hE hH; simp only [go_sem, hE, hH, C75]
       try simp (disch := omega) only [go_sem, hE, hH, z1, z2, hY, hT2]
       repeat' (first | ((with_reducible first | refine gd_t ?_ ?_ | refine gd_f ?_ ?_) <;> (intro h; have hb := h; (try simp only [nf] at h); simp (disch := omega) only [go_sem, hE, hH, z1, z2, hY, hT2, hb]; (try clear hb))) | ((with_reducible refine And.intro ?_ ?_); · omega) | ((first | refine ok_view ?_ | refine cvA (cO) ?_ | refine cvA (cFH) ?_ | refine cvA (cFT) ?_ | refine cvA (cP) ?_); simp (disch := omega) only [go_sem, hE, hH, z1, z2, hY, hT2]) | (with_reducible apply jn) | (with_reducible apply both) | (with_reducible refine And.intro ?_ ?_) | ((with_reducible apply fin_eq); (try (simp (disch := omega) only [go_sem, hE, hH, z1, z2, hY, hT2])); first | done | rfl) | (simp (disch := omega) only [go_sem, hE, hH, z1, z2, hY, hT2]) | ((first | apply noMLL_sE | apply pk_sE) <;> (simp only [go_sem, hE, hH, z1, z2, hY, hT2]; done)) | (simp only [go_sem, hE, hH, z1, z2, hY, hT2]) | fail)
       refine nilR_sApp2 s false ?_ (by rw [hD]; rfl) (fun s' e => by rw [hD] at e; cases e)
       (rw [sAppR]; simp only [go_sem]; (repeat' apply And.intro) <;> rfl)
      | true =>
       rw [hG] at cP
       have hE2 : decS s r = some ⟨max s.Floor r.Time, c, heldCut s r, toldAdd s r⟩ := by rw [decS, hY, hH, hT2, putC, hP]; simp [hG]
       rw [hE2] at hD
       have hmx2 : mostI s.Floor r.Time = max s.Floor r.Time := by
        rw [mostI, Int.max_def]; split <;> split <;> omega
       refine fi H75 fun E hE hH => ?_; simp only [go_sem] at hE hH; simp only [go_sem, hE, hH, C75]
       try simp (disch := omega) only [go_sem, hE, hH, z1, z2, hY, hT2, hmx2]
       repeat' (first | ((with_reducible first | refine gd_t ?_ ?_ | refine gd_f ?_ ?_) <;> (intro h; have hb := h; (try simp only [nf] at h); simp (disch := omega) only [go_sem, hE, hH, z1, z2, hY, hT2, hmx2, hb]; (try clear hb))) | ((with_reducible refine And.intro ?_ ?_); · omega) | (refine ok_lend [true, false] ?_; simp (disch := omega) only [go_sem, hE, hH, z1, z2, hY, hT2, hmx2]; refine cmA (cLs) ?_; simp (disch := omega) only [go_sem, hE, hH, z1, z2, hY, hT2, hmx2]) | ((first | refine ok_view ?_ | refine cvA (cO) ?_ | refine cvA (cFH) ?_ | refine cvA (cFT) ?_ | refine cvA (cP) ?_ | refine cvA (l1Most_ok _ _) ?_ | refine cvA (cPT) ?_); simp (disch := omega) only [go_sem, hE, hH, z1, z2, hY, hT2, hmx2]) | (with_reducible apply jn) | (with_reducible apply both) | (with_reducible refine And.intro ?_ ?_) | ((with_reducible apply fin_eq); (try (simp (disch := omega) only [go_sem, hE, hH, z1, z2, hY, hT2, hmx2])); first | done | rfl) | (simp (disch := omega) only [go_sem, hE, hH, z1, z2, hY, hT2, hmx2]) | ((first | apply noMLL_sE | apply pk_sE) <;> (simp only [go_sem, hE, hH, z1, z2, hY, hT2, hmx2]; done)) | (simp only [go_sem, hE, hH, z1, z2, hY, hT2, hmx2]) | fail)
       refine nilR_sApp2 ⟨max s.Floor r.Time, c, heldCut s r, toldAdd s r⟩ true ?_ (by rw [hD]; rfl) (fun s' e => by rw [hD] at e; injection e)
       (rw [sAppR]; simp only [go_sem]; (repeat' apply And.intro) <;> rfl)
structure repG (r : Replica) : Prop where
 s0 : 0 ≤ r.Sure
 s1 : r.Sure ≤ r.Log.length
 len : r.Log.length ≤ 60
 good : ∀ e ∈ r.Log, recOk e.Rec = true
theorem szL_bd2 {α : Type} {f : α → Nat} {C : Nat} : ∀ {l : List α}, (∀ x ∈ l, f x ≤ C) → szL f l ≤ (C + 1) * l.length
 | [], _ => by simp [szL]
 | x :: l, h => by
  have h1 := szL_bd2 (l := l) fun y hy => h y (List.mem_cons_of_mem _ hy)
  have h2 := h x List.mem_cons_self
  simp only [szL, List.map_cons, List.sum_cons, List.length_cons, Nat.mul_succ] at h1 ⊢
  omega
theorem risB_key {l : List ByteArray} (h : risB l = true) : ∀ x ∈ l, goodKey x = true := by
 intro x hx
 obtain ⟨i, hi, rfl⟩ := List.getElem_of_mem hx
 simp only [risB] at h
 have := allN_iff.1 h i hi
 simp only [Bool.and_eq_true, nth_lt hi] at this
 exact this.1
theorem stI.sz {n : Nat} {s : State} (h : stI n s) (hn : n ≤ 1000) : s.sz ≤ 2 ^ 20 := by
 have hc := goodCells_I h.cells
 have hl := hc.len
 have h1 : szL Cell.sz s.Cells ≤ (2000 + 1) * s.Cells.length := szL_bd2 fun c q => by
  have h2 := (hc.one c q).2
  have h3 := hc.wf c q
  have h4 : szL Ver.sz c.Vers ≤ (100 + 1) * c.Vers.length := szL_bd2 fun v hv => h3.2 v hv
  have h5 : (100 + 1) * c.Vers.length ≤ (100 + 1) * 16 := Nat.mul_le_mul_left _ (by omega)
  show c.Key.size + szL Ver.sz c.Vers ≤ 2000
  omega
 have h2 : szL Held.sz s.Held ≤ (2000 + 1) * s.Held.length := szL_bd2 fun x q => by
  have h3 := hldOk_lists (h.hok x q)
  have h4 : szL ByteArray.size x.Reads ≤ (100 + 1) * x.Reads.length := szL_bd2 fun v hv => by
   have := goodKey_size (risB_key h3.2.2.2.1 v hv); omega
  have h5 : szL Write.sz x.Writes ≤ (100 + 1) * x.Writes.length := szL_bd2 fun v hv => by
   obtain ⟨i, hi, rfl⟩ := List.getElem_of_mem hv
   have h6 := h3.2.2.1
   rw [goodWrites_eq] at h6
   simp only [Bool.and_eq_true, Bool.not_eq_true', List.any_eq_false] at h6
   have h7 := goodKey_size (risB_key h6.1.2 _ (List.mem_map.2 ⟨_, hv, rfl⟩))
   have h8 := h6.2 _ hv
   have h8 : stored (x.Writes[i]).Val (x.Writes[i]).Gone = true := by simpa using h8
   have := stored_size h8
   show (x.Writes[i]).Key.size + (x.Writes[i]).Val.size ≤ 100
   omega
  have h6 : (100 + 1) * x.Reads.length ≤ (100 + 1) * 8 := Nat.mul_le_mul_left _ (by omega)
  have h7 : (100 + 1) * x.Writes.length ≤ (100 + 1) * 8 := Nat.mul_le_mul_left _ (by omega)
  show szL ByteArray.size x.Reads + szL Write.sz x.Writes ≤ 2000
  omega
 have h3 := h.tlen
 have h4 := h.hlen
 have h5 : (2000 + 1) * s.Cells.length ≤ (2000 + 1) * 24 := Nat.mul_le_mul_left _ (by omega)
 have h6 : (2000 + 1) * s.Held.length ≤ (2000 + 1) * 12 := Nat.mul_le_mul_left _ (by omega)
 show szL Cell.sz s.Cells + szL Held.sz s.Held + s.Told.length ≤ 2 ^ 20
 omega
theorem appR_eq (o : Option State) : appR o = .tup [.agg (State.row true (o.getD st0)), bl o.isSome] := by cases o <;> rfl
def heldAt (s : State) (i : Nat) : Bool := recOk (hRec (nth s.Held i)) && decide ((nth s.Held i).Time ≤ s.Floor) && (decide (i = 0) || decide ((nth s.Held (i - 1)).Txn < (nth s.Held i).Txn)) && !((s.Held.take i).any fun k => clashH (nth s.Held i) k) && !((nth s.Held i).Writes.any fun w => decide ((nth s.Held i).Time ≤ lastC s.Cells w.Key))
def heldOk (s : State) : Bool := allN (heldAt s) s.Held.length && (decide ((s.Held.length : Int) ≤ 12) && roomS s.Cells (allWs s.Held))
def toldAt (s : State) (i : Nat) : Bool := rng (nth s.Told i).Txn 1 60 && (((nth s.Told i).Yes && rng (nth s.Told i).Time 1 s.Floor) || (!(nth s.Told i).Yes && decide ((nth s.Told i).Time = 0))) && (decide (i = 0) || decide ((nth s.Told (i - 1)).Txn < (nth s.Told i).Txn)) && !hF s.Held (nth s.Told i).Txn
def stateOk (s : State) : Bool := rng s.Floor 0 100000 && goodCells s.Cells && heldOk s && decide ((s.Told.length : Int) ≤ 60) && (s.Cells.all fun c => decide (lastC s.Cells c.Key ≤ s.Floor)) && allN (toldAt s) s.Told.length
theorem areHeld_1_ok (h k : Held) (h1 : h.Writes.length ≤ 2 ^ 20) (h2 : k.Writes.length ≤ 2 ^ 20) (h3 : h.Reads.length ≤ 2 ^ 20) (h4 : k.Reads.length ≤ 2 ^ 20) (s1 : srtW h.Writes) (s2 : srtW k.Writes) : ACall Tryz.prog 186 ([.agg (Held.row false k)] ++ [.bx false (Held.row false h)]) (fun r _ => r = bl (clashH h k)) := by
 refine fi H186 fun E hE hH => ?_; simp only [go_sem] at hE hH; simp only [go_sem, hE, hH, C186]
 repeat' (first | ((with_reducible first | refine gd_t ?_ ?_ | refine gd_f ?_ ?_) <;> (intro h; have hb := h; (try simp only [nf] at h); refine sb ?_; (try clear hb))) | ((with_reducible refine And.intro ?_ ?_); · omega) | ((first | refine ok_view ?_ | refine cvA (clash_ok h k h1 h2 h3 h4 s1 s2) ?_); refine st ?_) | refine jn _ ?_ ?_ | (with_reducible first | refine both ?_ ?_ | refine And.intro ?_ ?_) | exact fe | refine st ?_ | exact fm | refine s1 ?_ | (with_reducible exact True.intro) | fail)
theorem areHeld_2_ok (s : State) (h : Held) (w : Write) (hc : cellI 0 s.Cells) : ACall Tryz.prog 188 ([.agg (Write.row false w)] ++ [.bx false (Held.row false h), .bx false (State.row false s)]) (fun r _ => r = bl (decide (h.Time ≤ lastC s.Cells w.Key))) := by
 have hl := hc.len
 refine fi H188 fun E hE hH => ?_; simp only [go_sem] at hE hH; simp only [go_sem, hE, hH, C188]
 repeat' (first | ((with_reducible first | refine gd_t ?_ ?_ | refine gd_f ?_ ?_) <;> (intro h; have hb := h; (try simp only [nf] at h); refine sb ?_; (try clear hb))) | ((with_reducible refine And.intro ?_ ?_); · omega) | ((first | refine ok_view ?_ | refine cvA (lastTime_ok s.Cells w.Key (by omega) hc.srt (fun c q => by have := hc.one c q; omega)) ?_); refine st ?_) | (with_reducible apply jn) | (with_reducible apply both) | (with_reducible refine And.intro ?_ ?_) | exact fj | refine st ?_ | exact fm | refine s1 ?_ | (with_reducible exact True.intro) | fail)
theorem heldOk_no {s : State} {j : Nat} (hlt : j < s.Held.length) (h : heldAt s j = false) : heldOk s = false := by
 rw [heldOk, allN_no hlt h]; rfl
theorem heldAt_rec {s : State} {j : Nat} (h : heldAt s j = true) : hldOk (nth s.Held j) := by
 simp only [heldAt, Bool.and_eq_true] at h
 exact h.1.1.1.1
def heldW (s : State) : Prop := s.Held.length ≤ 2 ^ 20 ∧ ∀ h ∈ s.Held, h.wf ∧ h.Reads.length ≤ 2 ^ 20 ∧ h.Writes.length ≤ 2 ^ 20
set_option maxHeartbeats 2000000 in
theorem areHeld_ok (hS : SortNe) (s : State) (hw : heldW s) (hc : goodCells s.Cells = true) : ACall Tryz.prog 143 [.agg (State.row false s)] (fun r _ => r = bl (heldOk s)) := by
 have hmx := mx_eq
 obtain ⟨hl, hx⟩ := hw
 have hI0 := goodCells_I hc
 refine fi H143 fun E hE hH => ?_; simp only [go_sem] at hE hH; simp only [go_sem, hE, hH, C143]
 try simp (disch := omega) only [go_sem, hE, hH]
 refine loopNe s.Held.length (fun j (_ : Unit) => ⟨[(1, .ptr 2000000 0 0), (6, .sl false 5 (s.Held.map (Held.row false))), (7, i64 s.Held.length), (8, i64 j)], [(2000000, ⟨4, [State.row false s]⟩)]⟩) (fun j _ => allN (heldAt s) j = true) () rfl rfl ?_
 intro j _ hj hI
 try simp only [go_sem, hE, hH, C143_l1]
 first | refine gd_t (fun h => ?_) (fun h => ?_) | refine gd_f (fun h => ?_) (fun h => ?_)
 ·have hb := h
  simp only [nf] at h
  have hlt : j < s.Held.length := by omega
  obtain ⟨q1, q2, q3⟩ := hx _ (nth_mem hlt)
  have hwf : (hRec (nth s.Held j)).wf := by
   unfold Held.wf at q1
   unfold Rec.wf hRec
   simp_all
  have hP : ∀ k ∈ s.Held.take j, hldOk k := by
   intro k hk
   obtain ⟨i, hi, rfl⟩ := List.getElem_of_mem hk
   rw [List.length_take] at hi
   have := heldAt_rec (allN_iff.1 hI i (by omega))
   rw [nth_lt (by omega)] at this
   rwa [List.getElem_take]
  try simp (disch := omega) only [go_sem, hE, hH, hb]
  repeat' (first | ((with_reducible first | refine gd_t ?_ ?_ | refine gd_f ?_ ?_) <;> (intro h; have hb := h; (try simp only [nf] at h); refine sb ?_; (try clear hb))) | ((with_reducible refine And.intro ?_ ?_); · omega) | ((first | refine ok_view ?_ | refine cvA (Held_rec_ok (nth s.Held j)) ?_ | refine cvA (GoodRec_ok (hRec (nth s.Held j)) hwf) ?_); refine st ?_) | (with_reducible apply jn) | (with_reducible apply both) | (with_reducible refine And.intro ?_ ?_) | exact fj | refine st ?_ | exact fm | refine s1 ?_ | (with_reducible exact True.intro) | fail)
  all_goals try (rw [heldOk_no hlt (by first | (simp_all [heldAt]; done) | (simp_all [heldAt]; omega))]; done)
  all_goals try (
   have hA : recOk (hRec (nth s.Held j)) = true := by assumption
   have hA2 := hldOk_lists hA
   have hA3 := goodWrites_srt hA2.2.2.1
   have cF1 := ContainsFunc_Held_ok (s.Held.take j) 186 [.bx false (Held.row false (nth s.Held j))] (fun k => clashH (nth s.Held j) k) (by kernel_rfl) rfl (by rw [List.length_take]; omega) (fun k hk => areHeld_1_ok (nth s.Held j) k q3 (by have := hldOk_lists (hP k hk); omega) q2 (by have := hldOk_lists (hP k hk); omega) hA3 (goodWrites_srt (hldOk_lists (hP k hk)).2.2.1))
   have cF2 := ContainsFunc_Write_ok (nth s.Held j).Writes 188 [.bx false (Held.row false (nth s.Held j)), .bx false (State.row false s)] (fun w => decide ((nth s.Held j).Time ≤ lastC s.Cells w.Key)) (by kernel_rfl) rfl (by omega) (fun w _ => areHeld_2_ok s (nth s.Held j) w hI0)
   repeat' (first | ((with_reducible first | refine gd_t ?_ ?_ | refine gd_f ?_ ?_) <;> (intro h; have hb := h; (try simp only [nf] at h); refine sb ?_; (try clear hb))) | ((with_reducible refine And.intro ?_ ?_); · omega) | ((first | refine ok_view ?_ | refine cvA (cF1) ?_ | refine cvA (cF2) ?_); refine st ?_) | (with_reducible apply jn) | (with_reducible apply both) | (with_reducible refine And.intro ?_ ?_) | exact fj | refine st ?_ | exact fm | refine s1 ?_ | (with_reducible exact True.intro) | fail)
   all_goals clear cF1 cF2 hP hx hwf hA3
   all_goals first | (rw [heldOk_no hlt (by rw [heldAt, h]; simp)]; done) | (rw [heldOk_no hlt (by first | (simp_all [heldAt]; done) | (simp_all [heldAt]; omega))]; done) | exact ⟨(), rfl, allN_step hI (by first | (simp_all [heldAt]; done) | (simp_all [heldAt]; omega))⟩ | trace_state)
 ·try simp (disch := omega) only [go_sem, hE, hH, h]
  simp only [nf] at h
  rw [show j = s.Held.length by omega] at hI
  have hB : ∀ k ∈ s.Held, hldOk k := by
   intro k hk
   obtain ⟨i, hi, rfl⟩ := List.getElem_of_mem hk
   have := heldAt_rec (allN_iff.1 hI i hi)
   rwa [nth_lt hi] at this
  have hT : ∀ i, i < s.Held.length → (i : Int) + 1 ≤ (nth s.Held i).Txn := by
   intro i
   induction i with
   | zero => intro hi; have := hldOk_lists (hB _ (nth_mem hi)); omega
   | succ i ih =>
    intro hi
    have h1 := ih (by omega)
    have h2 := allN_iff.1 hI (i + 1) hi
    simp only [heldAt, Bool.and_eq_true, Bool.or_eq_true, decide_eq_true_eq, Nat.add_sub_cancel] at h2
    have h3 := h2.1.1.2.resolve_left (by omega)
    omega
  have h100 : s.Held.length ≤ 100 := by
   rcases Nat.eq_zero_or_pos s.Held.length with e | e
   ·omega
   ·have h1 := hT (s.Held.length - 1) (by omega)
    have h2 := hldOk_lists (hB _ (nth_mem (i := s.Held.length - 1) (by omega)))
    omega
  repeat' (first | ((with_reducible first | refine gd_t ?_ ?_ | refine gd_f ?_ ?_) <;> (intro h; have hb := h; (try simp only [nf] at h); refine sb ?_; (try clear hb))) | ((with_reducible refine And.intro ?_ ?_); · omega) | ((first | refine ok_view ?_ | refine cvA (room_ok hS s s.Held hc h100 (fun k hk => by have := hldOk_lists (hB k hk); omega)) ?_); refine st ?_) | (with_reducible apply jn) | (with_reducible apply both) | (with_reducible refine And.intro ?_ ?_) | exact fj | refine st ?_ | exact fm | refine s1 ?_ | (with_reducible exact True.intro) | fail)
  rw [heldOk, hI]; simp
theorem stateOk_cell {s : State} {j : Nat} (hlt : j < s.Cells.length) (h : decide (lastC s.Cells (nth s.Cells j).Key ≤ s.Floor) = false) : stateOk s = false := by
 have : (s.Cells.all fun c => decide (lastC s.Cells c.Key ≤ s.Floor)) = false := by
  rw [← allN_all]; exact allN_no hlt h
 rw [stateOk, this]; simp
theorem stateOk_told {s : State} {j : Nat} (hlt : j < s.Told.length) (h : toldAt s j = false) : stateOk s = false := by
 rw [stateOk, allN_no hlt h]; simp
theorem heldOk_I {s : State} (h : heldOk s = true) : s.Held.length ≤ 12 ∧ srtX ltI Held.Txn s.Held ∧ ∀ x ∈ s.Held, hldOk x := by
 simp only [heldOk, Bool.and_eq_true, decide_eq_true_eq] at h
 obtain ⟨h1, h2, _⟩ := h
 refine ⟨by omega, ?_, fun x hx => ?_⟩
 ·have key : ∀ d i, i + d + 1 < s.Held.length → (nth s.Held i).Txn < (nth s.Held (i + d + 1)).Txn := by
   intro d
   induction d with
   | zero =>
    intro i hi
    have := allN_iff.1 h1 (i + 1) (by omega)
    simp only [heldAt, Bool.and_eq_true, Bool.or_eq_true, decide_eq_true_eq, Nat.add_sub_cancel] at this
    exact this.1.1.2.resolve_left (by omega)
   | succ d ih =>
    intro i hi
    have h3 := ih i (by omega)
    have := allN_iff.1 h1 (i + (d + 1) + 1) (by omega)
    simp only [heldAt, Bool.and_eq_true, Bool.or_eq_true, decide_eq_true_eq, Nat.add_sub_cancel] at this
    have h4 := this.1.1.2.resolve_left (by omega)
    rw [show i + d + 1 = i + (d + 1) by omega] at h3
    omega
  intro i j hij hj
  have := key (j - i - 1) i (by omega)
  rw [show i + (j - i - 1) + 1 = j by omega] at this
  exact decide_eq_true this
 ·obtain ⟨i, hi, rfl⟩ := List.getElem_of_mem hx
  have := heldAt_rec (allN_iff.1 h1 i hi)
  rwa [nth_lt hi] at this
set_option maxHeartbeats 2000000 in
theorem GoodState_ok (hS : SortNe) (s : State) (hw : heldW s) (hcw : celsW s.Cells) (hcl : s.Cells.length ≤ 2 ^ 20) (htl : s.Told.length ≤ 2 ^ 20) : ACall Tryz.prog 81 [.agg (State.row false s)] (fun r _ => r = bl (stateOk s)) := by
 have hmx := mx_eq
 refine fi H81 fun E hE hH => ?_; simp only [go_sem] at hE hH; simp only [go_sem, hE, hH, C81]
 repeat' (first | ((with_reducible first | refine gd_t ?_ ?_ | refine gd_f ?_ ?_) <;> (intro h; have hb := h; (try simp only [nf] at h); refine sb ?_; (try clear hb))) | ((with_reducible refine And.intro ?_ ?_); · omega) | ((first | refine ok_view ?_ | refine cvA (isTrue_ok s.Floor) ?_ | refine cvA (GoodCells_ok s.Cells hcw hcl) ?_ | refine cvA (areHeld_ok hS s hw (by assumption)) ?_); refine st ?_) | (with_reducible apply jn) | (with_reducible apply both) | (with_reducible refine And.intro ?_ ?_) | exact fj | refine st ?_ | exact fm | refine s1 ?_ | (with_reducible exact True.intro) | fail)
 all_goals try (rw [stateOk]; first | (simp_all; done) | (simp_all; omega))
 have hC : goodCells s.Cells = true := by assumption
 have hH1 : heldOk s = true := by assumption
 have hF1 : rng s.Floor 0 100000 = true := by assumption
 have hI0 := goodCells_I hC
 obtain ⟨hh1, hh2, hh3⟩ := heldOk_I hH1
 refine loopN s.Cells.length (fun j (_ : Unit) => ⟨[(1, .ptr 2000000 0 0), (32, .sl false 2 (s.Cells.map (Cell.row false))), (33, i64 s.Cells.length), (34, i64 j)], [(2000000, ⟨4, [State.row false s]⟩)]⟩) (fun j _ => allN (fun i => decide (lastC s.Cells (nth s.Cells i).Key ≤ s.Floor)) j = true) () rfl ?_
 intro j _ hj hI
 try simp only [go_sem, hE, hH, C81_l1]
 first | refine gd_t (fun hh => ?_) (fun hh => ?_) | refine gd_f (fun hh => ?_) (fun hh => ?_)
 ·have hb := hh
  simp only [nf] at hh
  have hlt : j < s.Cells.length := by omega
  clear hh
  try simp (disch := omega) only [go_sem, hE, hH, hb]
  repeat' (first | ((with_reducible first | refine gd_t ?_ ?_ | refine gd_f ?_ ?_) <;> (intro h; have hb := h; (try simp only [nf] at h); refine sb ?_; (try clear hb))) | ((with_reducible refine And.intro ?_ ?_); · omega) | ((first | refine ok_view ?_ | refine cvA (lastTime_ok s.Cells (nth s.Cells j).Key (by omega) hI0.srt (fun c q => by have := hI0.one c q; omega)) ?_); refine st ?_) | (with_reducible apply jn) | (with_reducible apply both) | (with_reducible refine And.intro ?_ ?_) | exact fj | refine st ?_ | exact fm | refine s1 ?_ | (with_reducible exact True.intro) | fail)
  ·rw [stateOk_cell hlt (decide_eq_false (by omega))]
  ·exact ⟨(), rfl, allN_step hI (decide_eq_true (by omega))⟩
 ·try simp (disch := omega) only [go_sem, hE, hH, hh]
  simp only [nf] at hh
  rw [show j = s.Cells.length by omega] at hI
  clear hj
  have hA := hI
  rw [allN_all (p := fun (c : Cell) => decide (lastC s.Cells c.Key ≤ s.Floor))] at hA
  repeat' (first | ((with_reducible first | refine gd_t ?_ ?_ | refine gd_f ?_ ?_) <;> (intro h; have hb := h; (try simp only [nf] at h); refine sb ?_; (try clear hb))) | ((with_reducible refine And.intro ?_ ?_); · omega) | (with_reducible apply jn) | (with_reducible apply both) | (with_reducible refine And.intro ?_ ?_) | exact fj | refine st ?_ | exact fm | refine s1 ?_ | (with_reducible exact True.intro) | fail)
  clear hI
  refine loopN s.Told.length (fun j (_ : Unit) => ⟨[(1, .ptr 2000000 0 0), (48, .sl false 3 (s.Told.map (Told.row false))), (49, i64 s.Told.length), (50, i64 j)], [(2000000, ⟨4, [State.row false s]⟩)]⟩) (fun j _ => allN (toldAt s) j = true) () rfl ?_
  intro j _ hj hI
  try simp only [go_sem, hE, hH, C81_l2]
  first | refine gd_t (fun hh => ?_) (fun hh => ?_) | refine gd_f (fun hh => ?_) (fun hh => ?_)
  ·have hb := hh
   simp only [nf] at hh
   have hlt : j < s.Told.length := by omega
   clear hh
   try simp (disch := omega) only [go_sem, hE, hH, hb]
   repeat' (first | ((with_reducible first | refine gd_t ?_ ?_ | refine gd_f ?_ ?_) <;> (intro h; have hb := h; (try simp only [nf] at h); refine sb ?_; (try clear hb))) | ((with_reducible refine And.intro ?_ ?_); · omega) | ((first | refine ok_view ?_ | refine cvA (within_ok _ _ _) ?_ | refine cvA (isTxn_ok _) ?_ | refine cvA (findHeld_ok s _ (by omega) hh2) ?_); refine st ?_) | (with_reducible apply jn) | (with_reducible apply both) | (with_reducible refine And.intro ?_ ?_) | exact fj | refine st ?_ | exact fm | refine s1 ?_ | (with_reducible exact True.intro) | fail)
   all_goals clear hA hC hH1 hI0 hh3 hw hcw
   all_goals first | (rw [stateOk_told hlt (by first | (simp_all [toldAt]; done) | (simp_all [toldAt]; omega))]; done) | exact ⟨(), rfl, allN_step hI (by first | (simp_all [toldAt]; done) | (simp_all [toldAt]; omega))⟩ | trace_state
  ·try simp (disch := omega) only [go_sem, hE, hH, hh]
   simp only [nf] at hh
   rw [show j = s.Told.length by omega] at hI
   rw [stateOk, hF1, hC, hH1, hA, hI, decide_eq_true (by omega)]
   rfl
theorem heldAt_eq (s : State) (i : Nat) : heldAt s i = (recOk (hRec (nth s.Held i)) && decide ((nth s.Held i).Time ≤ s.Floor) && (decide (i = 0) || decide ((nth s.Held (i - 1)).Txn < (nth s.Held i).Txn)) && allN (fun k => apartB (nth (s.Held.take i) k) (nth s.Held i).Reads (nth s.Held i).Writes) (s.Held.take i).length && !((nth s.Held i).Writes.any fun w => decide ((nth s.Held i).Time ≤ lastC s.Cells w.Key))) := by
 rw [heldAt, ← Bool.not_not (b := allN _ _), ← any_clash]
 rfl
theorem rec_wf {h : Held} (q : h.wf) : (hRec h).wf := by
 unfold Held.wf at q
 unfold Rec.wf hRec
 simp_all
set_option maxHeartbeats 2000000 in
theorem l13Held_ok (s : State) (hw : heldW s) (hc : goodCells s.Cells = true) : ACall Tryz.prog 126 [.agg (State.row false s)] (fun r _ => r = bl (heldOk s)) := by
 have hmx := mx_eq
 obtain ⟨hl, hx⟩ := hw
 have hI0 := goodCells_I hc
 have hcl := hI0.len
 refine fi H126 fun E hE hH => ?_; simp only [go_sem] at hE hH; simp only [go_sem, hE, hH, C126]
 try simp (disch := omega) only [go_sem, hE, hH]
 refine loopNe s.Held.length (fun j (_ : Unit) => ⟨[(1, .ptr 2000000 0 0), (10, .sl false 5 (s.Held.map (Held.row false))), (11, i64 s.Held.length), (12, i64 j)], [(2000000, ⟨4, [State.row false s]⟩)]⟩) (fun j _ => allN (heldAt s) j = true) () rfl rfl ?_
 intro j _ hj hI
 try simp only [go_sem, hE, hH, C126_l3]
 first | refine gd_t (fun h => ?_) (fun h => ?_) | refine gd_f (fun h => ?_) (fun h => ?_)
 ·have hb := h
  simp only [nf] at h
  have hlt : j < s.Held.length := by omega
  obtain ⟨q1, q2, q3⟩ := hx _ (nth_mem hlt)
  have hwf : recW (hRec (nth s.Held j)) := ⟨rec_wf q1, Nat.le_trans q2 (by decide), Nat.le_trans q3 (by decide)⟩
  have htl : (s.Held.take j).length = j := by rw [List.length_take]; omega
  try simp (disch := omega) only [go_sem, hE, hH, hb]
  repeat' (first | ((with_reducible first | refine gd_t ?_ ?_ | refine gd_f ?_ ?_) <;> (intro h; have hb := h; (try simp only [nf] at h); refine sb ?_; (try clear hb))) | ((with_reducible refine And.intro ?_ ?_); · omega) | ((first | refine ok_view ?_ | refine cvA (l13HeldRec_ok (nth s.Held j)) ?_ | refine cvA (l4Good_ok (hRec (nth s.Held j)) hwf) ?_); refine st ?_) | (with_reducible apply jn) | (with_reducible apply both) | (with_reducible refine And.intro ?_ ?_) | exact fj | refine st ?_ | exact fm | refine s1 ?_ | (with_reducible exact True.intro) | fail)
  all_goals try (rw [heldOk_no hlt (by first | (simp_all [heldAt]; done) | (simp_all [heldAt]; omega))]; done)
  all_goals (
   have a3 : (decide (j = 0) || decide ((nth s.Held (j - 1)).Txn < (nth s.Held j).Txn)) = true := by first | (rw [show j = 0 by omega]; rfl) | (rw [decide_eq_true (show (nth s.Held (j - 1)).Txn < (nth s.Held j).Txn by assumption)]; simp)
   have a1 : recOk (hRec (nth s.Held j)) = true := by assumption
   have a2 : (nth s.Held j).Time ≤ s.Floor := by assumption
   have hat := heldAt_eq s j
   rw [a1, a3, decide_eq_true a2, Bool.true_and, Bool.true_and, Bool.true_and] at hat
   clear a1 a2 a3 hwf
   refine loopNe (s.Held.take j).length (fun k (_ : Unit) => ⟨[(1, .ptr 2000000 0 0), (4, .ptr 5000000 0 0), (10, .sl false 5 (s.Held.map (Held.row false))), (11, i64 s.Held.length), (12, i64 j), (47, .sl false 5 ((s.Held.take j).map (Held.row false))), (48, i64 (s.Held.take j).length), (49, i64 k)], [(2000000, ⟨4, [State.row false s]⟩), (5000000, ⟨5, [Held.row false (nth s.Held j)]⟩)]⟩) (fun k _ => allN (fun i => apartB (nth (s.Held.take j) i) (nth s.Held j).Reads (nth s.Held j).Writes) k = true) () rfl rfl ?_
   intro k _ hk hK
   try simp only [go_sem, hE, hH, C126_l1]
   first | refine gd_t (fun hh => ?_) (fun hh => ?_) | refine gd_f (fun hh => ?_) (fun hh => ?_)
   ·have hb2 := hh
    simp only [nf] at hh
    have hkt : k < (s.Held.take j).length := by omega
    clear hh
    obtain ⟨-, p2, p3⟩ := hx _ (List.mem_of_mem_take (nth_mem hkt))
    try simp (disch := omega) only [go_sem, hE, hH, hb2]
    repeat' (first | ((with_reducible first | refine gd_t ?_ ?_ | refine gd_f ?_ ?_) <;> (intro h; have hb := h; (try simp only [nf] at h); refine sb ?_; (try clear hb))) | ((with_reducible refine And.intro ?_ ?_); · omega) | ((first | refine ok_view ?_ | refine cvA (l13Apart_ok (nth (s.Held.take j) k) (nth s.Held j).Reads (nth s.Held j).Writes (by omega) (by omega) (by omega) (by omega)) ?_); refine st ?_) | (with_reducible apply jn) | (with_reducible apply both) | (with_reducible refine And.intro ?_ ?_) | exact fj | refine st ?_ | exact fm | refine s1 ?_ | (with_reducible exact True.intro) | fail)
    all_goals first | (rw [heldOk_no hlt (by rw [hat, allN_no hkt (by first | assumption | (simp_all; done))]; rfl)]; done) | exact ⟨(), rfl, allN_step hK (by first | assumption | (simp_all; done))⟩ | trace_state
   ·try simp (disch := omega) only [go_sem, hE, hH, hh]
    simp only [nf] at hh
    rw [show k = (s.Held.take j).length by omega] at hK
    rw [hK, Bool.true_and] at hat
    clear hh hk hK
    repeat' (first | ((with_reducible first | refine gd_t ?_ ?_ | refine gd_f ?_ ?_) <;> (intro h; have hb := h; (try simp only [nf] at h); refine sb ?_; (try clear hb))) | ((with_reducible refine And.intro ?_ ?_); · omega) | (with_reducible apply jn) | (with_reducible apply both) | (with_reducible refine And.intro ?_ ?_) | exact fj | refine st ?_ | exact fm | refine s1 ?_ | (with_reducible exact True.intro) | fail)
    refine loopNe (nth s.Held j).Writes.length (fun k (_ : Unit) => ⟨[(1, .ptr 2000000 0 0), (4, .ptr 5000000 0 0), (10, .sl false 5 (s.Held.map (Held.row false))), (11, i64 s.Held.length), (12, i64 j), (62, .sl false 3 ((nth s.Held j).Writes.map (Write.row false))), (63, i64 (nth s.Held j).Writes.length), (64, i64 k)], [(2000000, ⟨4, [State.row false s]⟩), (5000000, ⟨5, [Held.row false (nth s.Held j)]⟩)]⟩) (fun k _ => allN (fun i => !decide ((nth s.Held j).Time ≤ lastC s.Cells (nth (nth s.Held j).Writes i).Key)) k = true) () rfl rfl ?_
    intro k _ hk hK
    try simp only [go_sem, hE, hH, C126_l2]
    first | refine gd_t (fun hh => ?_) (fun hh => ?_) | refine gd_f (fun hh => ?_) (fun hh => ?_)
    ·have hb2 := hh
     simp only [nf] at hh
     have hkt : k < (nth s.Held j).Writes.length := by omega
     clear hh
     try simp (disch := omega) only [go_sem, hE, hH, hb2]
     repeat' (first | ((with_reducible first | refine gd_t ?_ ?_ | refine gd_f ?_ ?_) <;> (intro h; have hb := h; (try simp only [nf] at h); refine sb ?_; (try clear hb))) | ((with_reducible refine And.intro ?_ ?_); · omega) | ((first | refine ok_view ?_ | refine cvA (l3Last_ok s.Cells (nth (nth s.Held j).Writes k).Key (by omega) hI0.srt (fun c q => by have := hI0.one c q; omega)) ?_); refine st ?_) | (with_reducible apply jn) | (with_reducible apply both) | (with_reducible refine And.intro ?_ ?_) | exact fj | refine st ?_ | exact fm | refine s1 ?_ | (with_reducible exact True.intro) | fail)
     all_goals first | (rw [heldOk_no hlt (by rw [hat, List.any_eq_true.2 ⟨_, nth_mem hkt, decide_eq_true (by assumption)⟩]; rfl)]; done) | exact ⟨(), rfl, allN_step hK (by simp; omega)⟩ | trace_state
    ·try simp (disch := omega) only [go_sem, hE, hH, hh]
     simp only [nf] at hh
     rw [show k = (nth s.Held j).Writes.length by omega, allN_all (p := fun w : Write => !decide ((nth s.Held j).Time ≤ lastC s.Cells w.Key))] at hK
     have e : ((nth s.Held j).Writes.any fun w => decide ((nth s.Held j).Time ≤ lastC s.Cells w.Key)) = false := by
      rw [List.any_eq_false]; intro x hx; have := List.all_eq_true.1 hK x hx; simpa using this
     rw [e] at hat
     clear hK e hh
     try simp (disch := omega) only [go_sem, hE, hH]
     exact ⟨by omega, (), rfl, allN_step hI hat⟩
   )
 ·try simp (disch := omega) only [go_sem, hE, hH, h]
  simp only [nf] at h
  rw [show j = s.Held.length by omega] at hI
  have hB : ∀ k ∈ s.Held, hldOk k := by
   intro k hk
   obtain ⟨i, hi, rfl⟩ := List.getElem_of_mem hk
   have := heldAt_rec (allN_iff.1 hI i hi)
   rwa [nth_lt hi] at this
  by_cases h12 : s.Held.length ≤ 12
  ·have g12 : decide ((s.Held.length : Int) ≤ 12) = true := decide_eq_true (by omega)
   rw [g12]
   have cR := l13Room_ok s [] hc (by decide) (by omega) (fun k hk => by have := hldOk_lists (hB k hk); omega)
   try simp (disch := omega) only [go_sem, hE, hH]
   repeat' (first | ((with_reducible first | refine gd_t ?_ ?_ | refine gd_f ?_ ?_) <;> (intro h; have hb := h; (try simp only [nf] at h); refine sb ?_; (try clear hb))) | ((with_reducible refine And.intro ?_ ?_); · omega) | ((first | refine ok_view ?_ | refine cvAn (cR) ?_); refine st ?_) | (with_reducible apply jn) | (with_reducible apply both) | (with_reducible refine And.intro ?_ ?_) | exact fj | refine st ?_ | exact fm | refine s1 ?_ | (with_reducible exact True.intro) | fail)
   rw [heldOk, hI, g12]; rfl
  ·have g12 : decide ((s.Held.length : Int) ≤ 12) = false := decide_eq_false (by omega)
   rw [g12]
   try simp (disch := omega) only [go_sem, hE, hH]
   repeat' (first | ((with_reducible first | refine gd_t ?_ ?_ | refine gd_f ?_ ?_) <;> (intro h; have hb := h; (try simp only [nf] at h); refine sb ?_; (try clear hb))) | ((with_reducible refine And.intro ?_ ?_); · omega) | (with_reducible apply jn) | (with_reducible apply both) | (with_reducible refine And.intro ?_ ?_) | exact fj | refine st ?_ | exact fm | refine s1 ?_ | (with_reducible exact True.intro) | fail)
   rw [heldOk, hI, g12]; rfl
set_option maxHeartbeats 2000000 in
theorem l13Good_ok (s : State) (hw : heldW s) (hcw : celsW s.Cells) (hcl : s.Cells.length ≤ 2 ^ 20) (htl : s.Told.length ≤ 2 ^ 20) : ACall Tryz.prog 74 [.agg (State.row false s)] (fun r _ => r = bl (stateOk s)) := by
 have hmx := mx_eq
 refine fi H74 fun E hE hH => ?_; simp only [go_sem] at hE hH; simp only [go_sem, hE, hH, C74]
 repeat' (first | ((with_reducible first | refine gd_t ?_ ?_ | refine gd_f ?_ ?_) <;> (intro h; have hb := h; (try simp only [nf] at h); refine sb ?_; (try clear hb))) | ((with_reducible refine And.intro ?_ ?_); · omega) | ((first | refine ok_view ?_ | refine cvA (l2True_ok s.Floor) ?_ | refine cvA (l3Good_ok s.Cells hcw) ?_ | refine cvA (l13Held_ok s hw (by assumption)) ?_); refine st ?_) | (with_reducible apply jn) | (with_reducible apply both) | (with_reducible refine And.intro ?_ ?_) | exact fj | refine st ?_ | exact fm | refine s1 ?_ | (with_reducible exact True.intro) | fail)
 all_goals try (rw [stateOk]; first | (simp_all; done) | (simp_all; omega))
 have hC : goodCells s.Cells = true := by assumption
 have hH1 : heldOk s = true := by assumption
 have hF1 : rng s.Floor 0 100000 = true := by assumption
 have hI0 := goodCells_I hC
 obtain ⟨hh1, hh2, hh3⟩ := heldOk_I hH1
 refine loopN s.Cells.length (fun j (_ : Unit) => ⟨[(1, .ptr 2000000 0 0), (31, .sl false 2 (s.Cells.map (Cell.row false))), (32, i64 s.Cells.length), (33, i64 j)], [(2000000, ⟨4, [State.row false s]⟩)]⟩) (fun j _ => allN (fun i => decide (lastC s.Cells (nth s.Cells i).Key ≤ s.Floor)) j = true) () rfl ?_
 intro j _ hj hI
 try simp only [go_sem, hE, hH, C74_l1]
 first | refine gd_t (fun hh => ?_) (fun hh => ?_) | refine gd_f (fun hh => ?_) (fun hh => ?_)
 ·have hb := hh
  simp only [nf] at hh
  have hlt : j < s.Cells.length := by omega
  clear hh
  try simp (disch := omega) only [go_sem, hE, hH, hb]
  repeat' (first | ((with_reducible first | refine gd_t ?_ ?_ | refine gd_f ?_ ?_) <;> (intro h; have hb := h; (try simp only [nf] at h); refine sb ?_; (try clear hb))) | ((with_reducible refine And.intro ?_ ?_); · omega) | ((first | refine ok_view ?_ | refine cvA (l3Last_ok s.Cells (nth s.Cells j).Key (by omega) hI0.srt (fun c q => by have := hI0.one c q; omega)) ?_); refine st ?_) | (with_reducible apply jn) | (with_reducible apply both) | (with_reducible refine And.intro ?_ ?_) | exact fj | refine st ?_ | exact fm | refine s1 ?_ | (with_reducible exact True.intro) | fail)
  ·rw [stateOk_cell hlt (decide_eq_false (by omega))]
  ·exact ⟨(), rfl, allN_step hI (decide_eq_true (by omega))⟩
 ·try simp (disch := omega) only [go_sem, hE, hH, hh]
  simp only [nf] at hh
  rw [show j = s.Cells.length by omega] at hI
  clear hj
  have hA := hI
  rw [allN_all (p := fun (c : Cell) => decide (lastC s.Cells c.Key ≤ s.Floor))] at hA
  repeat' (first | ((with_reducible first | refine gd_t ?_ ?_ | refine gd_f ?_ ?_) <;> (intro h; have hb := h; (try simp only [nf] at h); refine sb ?_; (try clear hb))) | ((with_reducible refine And.intro ?_ ?_); · omega) | (with_reducible apply jn) | (with_reducible apply both) | (with_reducible refine And.intro ?_ ?_) | exact fj | refine st ?_ | exact fm | refine s1 ?_ | (with_reducible exact True.intro) | fail)
  clear hI
  refine loopN s.Told.length (fun j (_ : Unit) => ⟨[(1, .ptr 2000000 0 0), (47, .sl false 3 (s.Told.map (Told.row false))), (48, i64 s.Told.length), (49, i64 j)], [(2000000, ⟨4, [State.row false s]⟩)]⟩) (fun j _ => allN (toldAt s) j = true) () rfl ?_
  intro j _ hj hI
  try simp only [go_sem, hE, hH, C74_l2]
  first | refine gd_t (fun hh => ?_) (fun hh => ?_) | refine gd_f (fun hh => ?_) (fun hh => ?_)
  ·have hb := hh
   simp only [nf] at hh
   have hlt : j < s.Told.length := by omega
   clear hh
   try simp (disch := omega) only [go_sem, hE, hH, hb]
   repeat' (first | ((with_reducible first | refine gd_t ?_ ?_ | refine gd_f ?_ ?_) <;> (intro h; have hb := h; (try simp only [nf] at h); refine sb ?_; (try clear hb))) | ((with_reducible refine And.intro ?_ ?_); · omega) | ((first | refine ok_view ?_ | refine cvA (l1In_ok _ _ _) ?_ | refine cvA (l13HeldOf_ok s _ (by omega) hh2) ?_); refine st ?_) | (with_reducible apply jn) | (with_reducible apply both) | (with_reducible refine And.intro ?_ ?_) | exact fj | refine st ?_ | exact fm | refine s1 ?_ | (with_reducible exact True.intro) | fail)
   all_goals clear hA hC hH1 hI0 hh3 hw hcw
   all_goals first | (rw [stateOk_told hlt (by first | (simp_all [toldAt]; done) | (simp_all [toldAt]; omega))]; done) | exact ⟨(), rfl, allN_step hI (by first | (simp_all [toldAt]; done) | (simp_all [toldAt]; omega))⟩ | trace_state
  ·try simp (disch := omega) only [go_sem, hE, hH, hh]
   simp only [nf] at hh
   rw [show j = s.Told.length by omega] at hI
   rw [stateOk, hF1, hC, hH1, hA, hI, decide_eq_true (by omega)]
   rfl
theorem srtX_adj {α : Type} [Inhabited α] {f : α → Int} {l : List α} (h : ∀ i, i + 1 < l.length → f (nth l i) < f (nth l (i + 1))) : srtX ltI f l := by
 have key : ∀ d i, i + d + 1 < l.length → f (nth l i) < f (nth l (i + d + 1)) := by
  intro d
  induction d with
  | zero => intro i hi; exact h i hi
  | succ d ih =>
   intro i hi
   have h3 := ih i (by omega)
   have h4 := h (i + d + 1) (by omega)
   rw [show i + (d + 1) + 1 = i + d + 1 + 1 by omega]
   omega
 intro i j hij hj
 have := key (j - i - 1) i (by omega)
 rw [show i + (j - i - 1) + 1 = j by omega] at this
 exact decide_eq_true this
theorem stateOk_I {s : State} (h : stateOk s = true) : stI 60 s := by
 simp only [stateOk, Bool.and_eq_true, decide_eq_true_eq] at h
 obtain ⟨⟨⟨⟨⟨h1, h2⟩, h3⟩, h4⟩, h5⟩, h6⟩ := h
 obtain ⟨a1, a2, a3⟩ := heldOk_I h3
 refine ⟨h2, a1, a2, a3, by omega, srtX_adj fun i hi => ?_⟩
 have := allN_iff.1 h6 (i + 1) hi
 simp only [toldAt, Bool.and_eq_true, Bool.or_eq_true, decide_eq_true_eq, Nat.add_sub_cancel] at this
 exact this.1.2.resolve_left (by omega)
def applyO (s : State) (r : Rec) : Option State := if stateOk s = true ∧ recOk r = true then appS s r else none
theorem stateW {s : State} (hw : s.wf) (hs : s.sz ≤ 2 ^ 20) : heldW s ∧ celsW s.Cells ∧ s.Cells.length ≤ 2 ^ 20 ∧ s.Told.length ≤ 2 ^ 20 := by
 obtain ⟨-, w1, w2, w3⟩ := hw
 have e : s.sz = szL Cell.sz s.Cells + szL Held.sz s.Held + s.Told.length := rfl
 have l1 := szL_len (f := Cell.sz) (l := s.Cells)
 have l2 := szL_len (f := Held.sz) (l := s.Held)
 refine ⟨⟨by omega, fun h hh => ?_⟩, ⟨w1.1, fun c hc => ?_⟩, by omega, by omega⟩
 ·have h1 := szL_mem (f := Held.sz) hh
  have h5 : Held.sz h = szL ByteArray.size h.Reads + szL Write.sz h.Writes := rfl
  have h6 := szL_len (f := ByteArray.size) (l := h.Reads)
  have h7 := szL_len (f := Write.sz) (l := h.Writes)
  exact ⟨w2.2 h hh, by omega, by omega⟩
 ·have := w1.2 c hc
  exact ⟨this.1, this.2.1, fun v hv => (this.2.2 v hv).2⟩
theorem recW_of {r : Rec} (hw : r.wf) (hs : r.sz ≤ 2 ^ 20) : recW r := by
 have h5 : Rec.sz r = szL ByteArray.size r.Reads + szL Write.sz r.Writes := rfl
 have h6 := szL_len (f := ByteArray.size) (l := r.Reads)
 have h7 := szL_len (f := Write.sz) (l := r.Writes)
 exact ⟨hw, by omega, by omega⟩
theorem ApplyRec_ok (hS : SortNe) (s : State) (r : Rec) (hw : s.wf) (hs : s.sz ≤ 2 ^ 20) (hr : r.wf) : ACall Tryz.prog 32 [.agg (State.row false s), .agg (Rec.row false r)] (fun x _ => x = appR (applyO s r)) := by
 have hmx := mx_eq
 have z1 : st0.Cells = [] := rfl
 have z2 : st0.Held = [] := rfl
 have z3 : st0.Told = [] := rfl
 have z4 : st0.Floor = 0 := rfl
 obtain ⟨a1, a2, a3, a4⟩ := stateW hw hs
 have c1 := GoodState_ok hS s a1 a2 a3 a4
 have c2 := GoodRec_ok r hr
 cases hg : stateOk s with
 | false =>
  rw [hg] at c1
  rw [show applyO s r = none by rw [applyO, hg]; simp, appR]
  refine fi H32 fun E hE hH => ?_; simp only [go_sem] at hE hH; simp only [go_sem, hE, hH, C32]
  try simp (disch := omega) only [go_sem, hE, hH]
  repeat' (first | ((with_reducible first | refine gd_t ?_ ?_ | refine gd_f ?_ ?_) <;> (intro h; have hb := h; (try simp only [nf] at h); simp (disch := omega) only [go_sem, hE, hH, z1, z2, z3, z4, hb]; (try clear hb))) | ((with_reducible refine And.intro ?_ ?_); · omega) | ((first | refine ok_view ?_ | refine cvA (c1) ?_ | refine cvA (c2) ?_); simp (disch := omega) only [go_sem, hE, hH, z1, z2, z3, z4]) | (with_reducible apply jn) | (with_reducible apply both) | (with_reducible refine And.intro ?_ ?_) | ((with_reducible apply fin_eq); (try (simp (disch := omega) only [go_sem, hE, hH, z1, z2, z3, z4])); first | done | rfl) | (simp (disch := omega) only [go_sem, hE, hH, z1, z2, z3, z4]) | ((first | apply noMLL_sE | apply pk_sE) <;> (simp only [go_sem, hE, hH, z1, z2, z3, z4]; done)) | (simp only [go_sem, hE, hH, z1, z2, z3, z4]) | fail)
  all_goals first | rfl | trace_state
 | true =>
  rw [hg] at c1
  cases hg2 : recOk r with
  | false =>
   rw [hg2] at c2
   rw [show applyO s r = none by rw [applyO, hg2]; simp, appR]
   refine fi H32 fun E hE hH => ?_; simp only [go_sem] at hE hH; simp only [go_sem, hE, hH, C32]
   try simp (disch := omega) only [go_sem, hE, hH]
   repeat' (first | ((with_reducible first | refine gd_t ?_ ?_ | refine gd_f ?_ ?_) <;> (intro h; have hb := h; (try simp only [nf] at h); simp (disch := omega) only [go_sem, hE, hH, z1, z2, z3, z4, hb]; (try clear hb))) | ((with_reducible refine And.intro ?_ ?_); · omega) | ((first | refine ok_view ?_ | refine cvA (c1) ?_ | refine cvA (c2) ?_); simp (disch := omega) only [go_sem, hE, hH, z1, z2, z3, z4]) | (with_reducible apply jn) | (with_reducible apply both) | (with_reducible refine And.intro ?_ ?_) | ((with_reducible apply fin_eq); (try (simp (disch := omega) only [go_sem, hE, hH, z1, z2, z3, z4])); first | done | rfl) | (simp (disch := omega) only [go_sem, hE, hH, z1, z2, z3, z4]) | ((first | apply noMLL_sE | apply pk_sE) <;> (simp only [go_sem, hE, hH, z1, z2, z3, z4]; done)) | (simp only [go_sem, hE, hH, z1, z2, z3, z4]) | fail)
   all_goals first | rfl | trace_state
  | true =>
   rw [hg2] at c2
   rw [show applyO s r = appS s r by rw [applyO, hg, hg2]; rfl]
   have cA := applied_ok hS s r (stateOk_I hg) (by decide) hg2
   rw [appR_eq] at cA ⊢
   refine fi H32 fun E hE hH => ?_; simp only [go_sem] at hE hH; simp only [go_sem, hE, hH, C32]
   repeat' (first | ((with_reducible first | refine gd_t ?_ ?_ | refine gd_f ?_ ?_) <;> (intro h; have hb := h; (try simp only [nf] at h); refine sb ?_; (try clear hb))) | ((with_reducible refine And.intro ?_ ?_); · omega) | ((first | refine ok_view ?_ | refine cvA (c1) ?_ | refine cvA (c2) ?_ | refine cvA (cA) ?_); refine st ?_) | (with_reducible apply jn) | (with_reducible apply both) | (with_reducible refine And.intro ?_ ?_) | exact fj | refine st ?_ | exact fm | refine s1 ?_ | (with_reducible exact True.intro) | fail)
   all_goals first | rfl | trace_state
theorem sApplyRec_ok (s : State) (r : Rec) (hw : s.wf) (hs : s.sz ≤ 2 ^ 20) (hr : recW r) : ACall Tryz.prog 29 [.agg (State.row false s), .agg (Rec.row false r)] (fun x _ => x = sAppR ((applyO s r).getD st0) (applyO s r).isSome) := by
 have hmx := mx_eq
 have z1 : st0.Cells = [] := rfl
 have z2 : st0.Held = [] := rfl
 have z3 : st0.Told = [] := rfl
 have z4 : st0.Floor = 0 := rfl
 obtain ⟨a1, a2, a3, a4⟩ := stateW hw hs
 have c1 := l13Good_ok s a1 a2 a3 a4
 have c2 := l4Good_ok r hr
 cases hg : stateOk s with
 | false =>
  rw [hg] at c1
  rw [show applyO s r = none by rw [applyO, hg]; simp, Option.isSome_none, Option.getD_none, sAppR]
  refine fi H29 fun E hE hH => ?_; simp only [go_sem] at hE hH; simp only [go_sem, hE, hH, C29]
  try simp (disch := omega) only [go_sem, hE, hH]
  repeat' (first | ((with_reducible first | refine gd_t ?_ ?_ | refine gd_f ?_ ?_) <;> (intro h; have hb := h; (try simp only [nf] at h); simp (disch := omega) only [go_sem, hE, hH, z1, z2, z3, z4, hb]; (try clear hb))) | ((with_reducible refine And.intro ?_ ?_); · omega) | ((first | refine ok_view ?_ | refine cvA (c1) ?_ | refine cvA (c2) ?_); simp (disch := omega) only [go_sem, hE, hH, z1, z2, z3, z4]) | (with_reducible apply jn) | (with_reducible apply both) | (with_reducible refine And.intro ?_ ?_) | ((with_reducible apply fin_eq); (try (simp (disch := omega) only [go_sem, hE, hH, z1, z2, z3, z4])); first | done | rfl) | (simp (disch := omega) only [go_sem, hE, hH, z1, z2, z3, z4]) | ((first | apply noMLL_sE | apply pk_sE) <;> (simp only [go_sem, hE, hH, z1, z2, z3, z4]; done)) | (simp only [go_sem, hE, hH, z1, z2, z3, z4]) | fail)
  all_goals first | rfl | trace_state
 | true =>
  rw [hg] at c1
  cases hg2 : recOk r with
  | false =>
   rw [hg2] at c2
   rw [show applyO s r = none by rw [applyO, hg2]; simp, Option.isSome_none, Option.getD_none, sAppR]
   refine fi H29 fun E hE hH => ?_; simp only [go_sem] at hE hH; simp only [go_sem, hE, hH, C29]
   try simp (disch := omega) only [go_sem, hE, hH]
   repeat' (first | ((with_reducible first | refine gd_t ?_ ?_ | refine gd_f ?_ ?_) <;> (intro h; have hb := h; (try simp only [nf] at h); simp (disch := omega) only [go_sem, hE, hH, z1, z2, z3, z4, hb]; (try clear hb))) | ((with_reducible refine And.intro ?_ ?_); · omega) | ((first | refine ok_view ?_ | refine cvA (c1) ?_ | refine cvA (c2) ?_); simp (disch := omega) only [go_sem, hE, hH, z1, z2, z3, z4]) | (with_reducible apply jn) | (with_reducible apply both) | (with_reducible refine And.intro ?_ ?_) | ((with_reducible apply fin_eq); (try (simp (disch := omega) only [go_sem, hE, hH, z1, z2, z3, z4])); first | done | rfl) | (simp (disch := omega) only [go_sem, hE, hH, z1, z2, z3, z4]) | ((first | apply noMLL_sE | apply pk_sE) <;> (simp only [go_sem, hE, hH, z1, z2, z3, z4]; done)) | (simp only [go_sem, hE, hH, z1, z2, z3, z4]) | fail)
   all_goals first | rfl | trace_state
  | true =>
   rw [hg2] at c2
   have cA := l13Apply_ok s r (stateOk_I hg) (by decide) hg2
   rw [show applyO s r = appS s r by rw [applyO, hg, hg2]; rfl]
   cases hA : appS s r with
   | none =>
    rw [hA, Option.isSome_none] at cA
    simp only [sAppR] at cA
    rw [Option.isSome_none, Option.getD_none, sAppR]
    refine fi H29 fun E hE hH => ?_; simp only [go_sem] at hE hH; simp only [go_sem, hE, hH, C29]
    try simp (disch := omega) only [go_sem, hE, hH]
    repeat' (first | ((with_reducible first | refine gd_t ?_ ?_ | refine gd_f ?_ ?_) <;> (intro h; have hb := h; (try simp only [nf] at h); simp (disch := omega) only [go_sem, hE, hH, z1, z2, z3, z4, hb]; (try clear hb))) | ((with_reducible refine And.intro ?_ ?_); · omega) | (refine ok_view ?_; simp (disch := omega) only [go_sem, hE, hH, z1, z2, z3, z4]; refine cvA (cA) ?_; refine aftV_intro ?_; rintro _ _ ⟨q, rfl, _⟩; simp (disch := omega) only [go_sem, hE, hH, z1, z2, z3, z4]) | ((first | refine ok_view ?_ | refine cvA (c1) ?_ | refine cvA (c2) ?_); simp (disch := omega) only [go_sem, hE, hH, z1, z2, z3, z4]) | (with_reducible apply jn) | (with_reducible apply both) | (with_reducible refine And.intro ?_ ?_) | ((with_reducible apply fin_eq); (try (simp (disch := omega) only [go_sem, hE, hH, z1, z2, z3, z4])); first | done | rfl) | (simp (disch := omega) only [go_sem, hE, hH, z1, z2, z3, z4]) | ((first | apply noMLL_sE | apply pk_sE) <;> (simp only [go_sem, hE, hH, z1, z2, z3, z4]; done)) | (simp only [go_sem, hE, hH, z1, z2, z3, z4]) | fail)
    all_goals first | rfl | trace_state
   | some s' =>
    rw [hA, Option.isSome_some] at cA
    simp only [sAppR] at cA
    rw [Option.isSome_some, Option.getD_some, sAppR]
    refine fi H29 fun E hE hH => ?_; simp only [go_sem] at hE hH; simp only [go_sem, hE, hH, C29]
    repeat' (first | ((with_reducible first | refine gd_t ?_ ?_ | refine gd_f ?_ ?_) <;> (intro h; have hb := h; (try simp only [nf] at h); refine sb ?_; (try clear hb))) | ((with_reducible refine And.intro ?_ ?_); · omega) | (refine ok_view ?_; refine st ?_; refine cvA (cA) ?_; refine aftV_intro ?_; rintro _ _ ⟨q, rfl, hq⟩; refine st ?_) | ((first | refine ok_view ?_ | refine cvA (c1) ?_ | refine cvA (c2) ?_); refine st ?_) | (with_reducible apply jn) | (with_reducible apply both) | (with_reducible refine And.intro ?_ ?_) | exact fj | refine st ?_ | exact fm | refine s1 ?_ | (with_reducible exact True.intro) | fail)
    all_goals first | (obtain rfl := hq _ rfl; rfl) | rfl | trace_state
theorem applyO_sz {s : State} {r : Rec} : ((applyO s r).getD st0).sz ≤ 2 ^ 20 := by
 rw [applyO]
 split
 ·rename_i h
  cases e : appS s r with
  | none => exact st0_I.sz (by omega)
  | some s' => exact (appS_I (stateOk_I h.1) h.2 e).sz (by omega)
 ·exact st0_I.sz (by omega)
set_option maxHeartbeats 4000000 in
theorem FnExactApplyRec_ok (hS : SortNe) (vS : State) (vR : Rec) (wS : vS.wf) (wR : vR.wf) : ACall Tryz.prog 6 [.agg (State.row false vS), .agg (Rec.row false vR)] (fun r _ => r = bl true) := by
 have hmx := mx_eq
 have lS : vS.lim := State.lim_of wS
 have lR : vR.lim := Rec.lim_of wR
 refine fi H6 fun E hE hH => ?_; simp only [go_sem] at hE hH; simp only [go_sem, hE, hH, C6]
 refine ok_view ?_; simp (disch := omega) only [go_sem, hE, hH]; refine cvA (szState_ok vS _ (by decide) (by decide) wS) ?_
 refine aftV_intro ?_
 rintro r l ⟨n1, rfl, hn1, hsz1⟩
 try simp (disch := omega) only [go_sem, hE, hH]
 first | refine gd_t (fun h1 => ?_) (fun h1 => ?_) | refine gd_f (fun h1 => ?_) (fun h1 => ?_)
 ·try simp (disch := omega) only [go_sem, hE, hH, h1]
 have hb1 := h1
 simp only [nf] at h1
 try simp (disch := omega) only [go_sem, hE, hH, hb1]
 have sS : vS.sz ≤ 2 ^ 20 := by have := hsz1 h1; omega
 refine ok_view ?_; simp (disch := omega) only [go_sem, hE, hH]; refine cvA (szRec_ok vR n1 h1 (by omega) wR) ?_
 refine aftV_intro ?_
 rintro r l ⟨n2, rfl, hn2, hsz2⟩
 try simp (disch := omega) only [go_sem, hE, hH]
 first | refine gd_t (fun h2 => ?_) (fun h2 => ?_) | refine gd_f (fun h2 => ?_) (fun h2 => ?_)
 ·try simp (disch := omega) only [go_sem, hE, hH, h2]
 have hb2 := h2
 simp only [nf] at h2
 try simp (disch := omega) only [go_sem, hE, hH, hb2]
 have sR : vR.sz ≤ 2 ^ 20 := by have := hsz2 h2; omega
 have hz := applyO_sz (s := vS) (r := vR)
 have hlim := State.lim_sz (x := (applyO vS vR).getD st0) (by omega)
 have cI := ApplyRec_ok hS vS vR wS sS wR
 rw [appR_eq] at cI
 have cS := sApplyRec_ok vS vR wS sS (recW_of wR sR)
 have cS2 : ACall Tryz.prog 29 [.agg (State.row true vS), .agg (Rec.row true vR)] (fun x a => x = sAppR ((applyO vS vR).getD st0) (applyO vS vR).isSome ∧ a = [.any, .any]) := frz_eq cS (by simp only [go_sem]; rfl) rfl
 simp only [sAppR] at cS2
 generalize hS0 : (applyO vS vR).getD st0 = s at *
 generalize hB0 : (applyO vS vR).isSome = b at *
 have c1 := State.cntv_le vS
 have c3 := Rec.cntv_le vR
 have c2 := State.cntv_le s
 have e1 := State.mkv_cnt vS 1
 have e3 := Rec.mkv_cnt vR (State.mkv vS 1).2
 have e2 := State.mkv_cnt s 1
 repeat' (first | ((with_reducible first | refine gd_t ?_ ?_ | refine gd_f ?_ ?_) <;> (intro h; have hb := h; (try simp only [nf] at h); refine sb ?_; (try clear hb))) | ((with_reducible refine And.intro ?_ ?_); · omega) | (refine ok_lend [true, true] ?_; refine st ?_; refine cmA (cS2) ?_; refine st ?_) | (refine ok_lend [true, false] ?_; refine st ?_; refine cmA (markState_ok vS 1 (by omega) (by omega)) ?_; refine st ?_) | (refine ok_lend [true, false] ?_; refine st ?_; refine cmA (markRec_ok vR (State.mkv vS 1).2 (by omega) (by omega)) ?_; refine st ?_) | (refine ok_lend [true, false] ?_; refine st ?_; refine cmA (markState_ok s 1 (by omega) (by omega)) ?_; refine st ?_) | ((first | refine ok_view ?_ | refine cvA (toState_ok vS sS) ?_ | refine cvA (toRec_ok vR sR) ?_ | refine cvA (cI) ?_ | refine cvA (eqState_ok vS vS lS) ?_ | refine cvA (eqRec_ok vR vR lR) ?_ | refine cvA (eqState_ok s s hlim) ?_ | refine cvA (heldState_ok s 1 (by omega) (by omega)) ?_); refine st ?_) | (with_reducible apply jn) | (with_reducible apply both) | (with_reducible refine And.intro ?_ ?_) | exact fj | refine st ?_ | exact fm | refine s1 ?_ | (with_reducible exact True.intro) | fail)
 all_goals omega
end Go.Proofs.Wb

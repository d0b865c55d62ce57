import Derived.Test.YtlcebphcohneaaaGreatFnExactStateOfN6
import Derived.Laws.Externs
set_option linter.unusedSimpArgs false
set_option linter.unusedVariables false
set_option linter.unusedSectionVars false
namespace Go.Proofs.Wb
open Go Go.Am
theorem ACall.dshN {P : Program} {f : Nat} {args : List T} {α : Type} {X : α → T} {C : α → Prop} (h : ACall P f args (fun r _ => ∃ q, nilLe r.dsh (X q) ∧ C q)) : ACall P f args (fun r _ => ∃ q, r = X q ∧ C q) := by
 refine ACall.nil (h.dshR.mono ?_)
 rintro r l ⟨r0, ⟨q, h1, h2⟩, rfl⟩
 exact ⟨X q, h1, q, rfl, h2⟩
def sAppR (q : State) (b : Bool) : T := .tup [.agg (State.row false q), bl b]
theorem nilR_sApp {C : State → Prop} {r : T} {l : List T} {b : Bool} (q : State) (h : nilLe r.dsh (sAppR q b)) (hC : C q) : nilR (fun r _ => ∃ q, nilLe r.dsh (sAppR q b) ∧ C q) r l := nilR_of ⟨q, h, hC⟩
theorem nilR_sApp2 {C : State → Prop} {r : T} {l : List T} {b : Bool} (q : State) (b0 : Bool) (h : nilLe r.dsh (sAppR q b0)) (hb : b0 = b) (hC : C q) : nilR (fun r _ => ∃ q, nilLe r.dsh (sAppR q b) ∧ C q) r l := nilR_sApp q (hb ▸ h) hC
theorem heldCut_filter {n : Nat} {s : State} {r : Rec} (hi : stI n s) : heldCut s r = s.Held.filter fun x => !decide (x.Txn = r.Txn) := by
 unfold heldCut
 cases hH : hF s.Held r.Txn with
 | true =>
  obtain ⟨k1, k2⟩ := hF_at hi.hsrt hH
  rw [if_pos rfl, cutAt_filter (f := Held.Txn) cmpJ_ord hi.hsrt k1, k2]
 | false =>
  rw [if_neg (by simp)]
  symm
  rw [List.filter_eq_self]
  intro x hx
  rw [hF, fxF, List.any_eq_false] at hH
  simpa using hH x hx
set_option maxHeartbeats 4000000 in
theorem l13Apply_ok {n : Nat} (s : State) (r : Rec) (hi : stI n s) (hn : n ≤ 100) (hr : recOk r = true) : ACall Tryz.prog 75 [.agg (State.row false s), .agg (Rec.row false r)] (fun x _ => ∃ q, x = sAppR q (appS s r).isSome ∧ ∀ s', appS s r = some s' → q = s') := by
 have hmx := mx_eq
 have hb := hi.b (by omega)
 have hHl := hi.hlen
 have hTl := hi.tlen
 have cO := l13Own_ok s hb
 have cFH := l13HeldOf_ok s r.Txn (by omega) hi.hsrt
 have cFT := l13ToldOf_ok s r.Txn (by omega) hi.tsrt
 refine ACall.dshN (X := fun q => sAppR q (appS s r).isSome) ?_
 by_cases h4 : r.Kind = 4
 ·have z1 : decide (r.Kind = 4) = true := decide_eq_true h4
  have hD : appS s r = if r.Time ≤ s.Floor then none else some ⟨r.Time, s.Cells, s.Held, s.Told⟩ := by rw [appS, if_pos h4]
  refine fi H75 fun E hE hH => ?_; simp only [go_sem] at hE hH; simp only [go_sem, hE, hH, C75]
  try simp (disch := omega) only [go_sem, hE, hH, z1]
  repeat' (first | ((with_reducible first | refine gd_t ?_ ?_ | refine gd_f ?_ ?_) <;> (intro h; have hb := h; (try simp only [nf] at h); simp (disch := omega) only [go_sem, hE, hH, z1, hb]; (try clear hb))) | ((with_reducible refine And.intro ?_ ?_); · omega) | ((first | refine ok_view ?_ | refine cvA (cO) ?_ | refine cvA (cFH) ?_ | refine cvA (cFT) ?_); simp (disch := omega) only [go_sem, hE, hH, z1]) | (with_reducible apply jn) | (with_reducible apply both) | (with_reducible refine And.intro ?_ ?_) | ((with_reducible apply fin_eq); (try (simp (disch := omega) only [go_sem, hE, hH, z1])); first | done | rfl) | (simp (disch := omega) only [go_sem, hE, hH, z1]) | ((first | apply noMLL_sE | apply pk_sE) <;> (simp only [go_sem, hE, hH, z1]; done)) | (simp only [go_sem, hE, hH, z1]) | fail)
  by_cases hT : r.Time ≤ s.Floor
  ·rw [if_pos hT] at hD
   refine nilR_sApp ⟨r.Time, s.Cells, s.Held, s.Told⟩ ?_ (fun s' e => by rw [hD] at e; cases e)
   rw [hD, sAppR, decide_eq_false (by omega)]
   simp only [go_sem]
   (repeat' apply And.intro) <;> rfl
  ·rw [if_neg hT] at hD
   refine nilR_sApp ⟨r.Time, s.Cells, s.Held, s.Told⟩ ?_ (fun s' e => by rw [hD] at e; injection e)
   rw [hD, sAppR, decide_eq_true (by omega)]
   simp only [go_sem]
   (repeat' apply And.intro) <;> rfl
 have z1 : decide (r.Kind = 4) = false := decide_eq_false h4
 cases hTF : tF s.Told r.Txn with
 | true =>
  rw [hTF] at cFT
  have hD : appS s r = none := by rw [appS, if_neg h4, hTF]; rfl
  refine fi H75 fun E hE hH => ?_; simp only [go_sem] at hE hH; simp only [go_sem, hE, hH, C75]
  try simp (disch := omega) only [go_sem, hE, hH, z1]
  repeat' (first | ((with_reducible first | refine gd_t ?_ ?_ | refine gd_f ?_ ?_) <;> (intro h; have hb := h; (try simp only [nf] at h); simp (disch := omega) only [go_sem, hE, hH, z1, hb]; (try clear hb))) | ((with_reducible refine And.intro ?_ ?_); · omega) | ((first | refine ok_view ?_ | refine cvA (cO) ?_ | refine cvA (cFH) ?_ | refine cvA (cFT) ?_); simp (disch := omega) only [go_sem, hE, hH, z1]) | (with_reducible apply jn) | (with_reducible apply both) | (with_reducible refine And.intro ?_ ?_) | ((with_reducible apply fin_eq); (try (simp (disch := omega) only [go_sem, hE, hH, z1])); first | done | rfl) | (simp (disch := omega) only [go_sem, hE, hH, z1]) | ((first | apply noMLL_sE | apply pk_sE) <;> (simp only [go_sem, hE, hH, z1]; done)) | (simp only [go_sem, hE, hH, z1]) | fail)
  refine nilR_sApp s ?_ (fun s' e => by rw [hD] at e; cases e)
  rw [hD, sAppR]
  simp only [go_sem]
  (repeat' apply And.intro) <;> rfl
 | false =>
  rw [hTF] at cFT
  by_cases h1 : r.Kind = 1
  ·have z2 : decide (r.Kind = 1) = true := decide_eq_true h1
   have hld := hldOk_lists (recOk_kind hr h1)
   have hld1 : r.Reads.length ≤ 8 := hld.1
   have hld2 : r.Writes.length ≤ 8 := hld.2.1
   have cF := l13Fits_ok s r.Reads r.Writes hi (by omega) (by omega)
   have hA : appS s r = if (hF s.Held r.Txn || decide (r.Time ≤ s.Floor) || !fitsS s r.Reads r.Writes) = true then none else some ⟨r.Time, s.Cells, putAt s.Held (hI s.Held r.Txn) (hOf r), s.Told⟩ := by rw [appS, if_neg h4, hTF, if_neg (by simp), if_neg (by simp [h1])]
   have hQ : ∀ s', appS s r = some s' → (⟨r.Time, s.Cells, putAt s.Held (hPl s.Held r.Txn) (hOf r), s.Told⟩ : State) = s' := by
    intro s' e
    rw [hA] at e
    split at e
    ·cases e
    ·rename_i hcond
     injection e with e
     have hh : hF s.Held r.Txn = false := by
      cases q : hF s.Held r.Txn with
      | false => rfl
      | true => rw [q] at hcond; simp at hcond
     rw [← e, show hPl s.Held r.Txn = hI s.Held r.Txn from hPl_eq (x := hOf r) hi.hsrt hh]
   have cPH : ACall Tryz.prog 131 [.sl true 5 (s.Held.map (Held.row true)), .agg (Held.row true (hOf r))] (fun x l => x = .sl true 5 ((putAt s.Held (hPl s.Held r.Txn) (hOf r)).map (Held.row false)) ∧ l = [.any, .any]) := frz_eq (l13PutHeld_ok s.Held (hOf r) (by omega)) (by simp only [go_sem]; rfl) rfl
   refine fi H75 fun E hE hH => ?_; simp only [go_sem] at hE hH; simp only [go_sem, hE, hH, C75]
   try simp (disch := omega) only [go_sem, hE, hH, z1, z2]
   repeat' (first | ((with_reducible first | refine gd_t ?_ ?_ | refine gd_f ?_ ?_) <;> (intro h; have hb := h; (try simp only [nf] at h); simp (disch := omega) only [go_sem, hE, hH, z1, z2, hb]; (try clear hb))) | ((with_reducible refine And.intro ?_ ?_); · omega) | (refine ok_lend [true, true] ?_; simp (disch := omega) only [go_sem, hE, hH, z1, z2]; refine cmA (cPH) ?_; simp (disch := omega) only [go_sem, hE, hH, z1, z2]) | ((first | refine ok_view ?_ | refine cvA (cO) ?_ | refine cvA (cFH) ?_ | refine cvA (cFT) ?_ | refine cvA (l1OwnS_ok _ (by omega)) ?_ | refine cvA (cF) ?_); simp (disch := omega) only [go_sem, hE, hH, z1, z2]) | (with_reducible apply jn) | (with_reducible apply both) | (with_reducible refine And.intro ?_ ?_) | ((with_reducible apply fin_eq); (try (simp (disch := omega) only [go_sem, hE, hH, z1, z2])); first | done | rfl) | (simp (disch := omega) only [go_sem, hE, hH, z1, z2]) | ((first | apply noMLL_sE | apply pk_sE) <;> (simp only [go_sem, hE, hH, z1, z2]; done)) | (simp only [go_sem, hE, hH, z1, z2]) | fail)
   ·refine nilR_sApp2 ⟨r.Time, s.Cells, putAt s.Held (hPl s.Held r.Txn) (hOf r), s.Told⟩ (fitsS s r.Reads r.Writes) ?_ ?_ hQ
    ·(rw [sAppR]; simp only [go_sem]; (repeat' apply And.intro) <;> rfl)
    ·rw [hA]
     cases hq : fitsS s r.Reads r.Writes <;> (split <;> simp_all <;> omega)
   all_goals (
    refine nilR_sApp2 ⟨r.Time, s.Cells, putAt s.Held (hPl s.Held r.Txn) (hOf r), s.Told⟩ false ?_ ?_ hQ
    ·(rw [sAppR]; simp only [go_sem]; (repeat' apply And.intro) <;> rfl)
    ·rw [hA]
     split <;> simp_all <;> omega)
  ·have z2 : decide (r.Kind = 1) = false := decide_eq_false h1
   have hD : appS s r = decS s r := by rw [appS, if_neg h4, hTF, if_neg (by simp), if_pos h1]
   have hpt : tPl s.Told r.Txn = tI s.Told r.Txn := tPl_eq (x := (⟨r.Txn, r.Yes, r.Time⟩ : Told)) hi.tsrt hTF
   have cPT := l13PutTold_ok s.Told ⟨r.Txn, r.Yes, r.Time⟩ (by omega)
   rw [show (⟨r.Txn, r.Yes, r.Time⟩ : Told).Txn = r.Txn from rfl, hpt, show putAt s.Told (tI s.Told r.Txn) (⟨r.Txn, r.Yes, r.Time⟩ : Told) = toldAdd s r from rfl] at cPT
   have cLs : ACall Tryz.prog 136 [.sl true 5 (s.Held.map (Held.row true)), i64 r.Txn] (fun x l => x = .sl true 5 ((heldCut s r).map (Held.row false)) ∧ l = [.any, .any]) := by
    rw [heldCut_filter hi]
    exact frz_eq (l13Less_ok s.Held r.Txn (by omega)) (by simp only [go_sem]; rfl) rfl
   have hcl : (heldCut s r).length ≤ 12 := (heldCut_I hi r).1
   cases hY : r.Yes with
   | false =>
    rw [hY] at cPT
    have hE2 : decS s r = some ⟨s.Floor, s.Cells, heldCut s r, toldAdd s r⟩ := by rw [decS, hY]; rfl
    rw [hE2] at hD
    refine fi H75 fun E hE hH => ?_; simp only [go_sem] at hE hH; simp only [go_sem, hE, hH, C75]
    try simp (disch := omega) only [go_sem, hE, hH, z1, z2, hY]
    repeat' (first | ((with_reducible first | refine gd_t ?_ ?_ | refine gd_f ?_ ?_) <;> (intro h; have hb := h; (try simp only [nf] at h); simp (disch := omega) only [go_sem, hE, hH, z1, z2, hY, hb]; (try clear hb))) | ((with_reducible refine And.intro ?_ ?_); · omega) | (refine ok_lend [true, false] ?_; simp (disch := omega) only [go_sem, hE, hH, z1, z2, hY]; refine cmA (cLs) ?_; simp (disch := omega) only [go_sem, hE, hH, z1, z2, hY]) | ((first | refine ok_view ?_ | refine cvA (cO) ?_ | refine cvA (cFH) ?_ | refine cvA (cFT) ?_ | refine cvA (cPT) ?_); simp (disch := omega) only [go_sem, hE, hH, z1, z2, hY]) | (with_reducible apply jn) | (with_reducible apply both) | (with_reducible refine And.intro ?_ ?_) | ((with_reducible apply fin_eq); (try (simp (disch := omega) only [go_sem, hE, hH, z1, z2, hY])); first | done | rfl) | (simp (disch := omega) only [go_sem, hE, hH, z1, z2, hY]) | ((first | apply noMLL_sE | apply pk_sE) <;> (simp only [go_sem, hE, hH, z1, z2, hY]; done)) | (simp only [go_sem, hE, hH, z1, z2, hY]) | fail)
    refine nilR_sApp2 ⟨s.Floor, s.Cells, heldCut s r, toldAdd s r⟩ true ?_ (by rw [hD]; rfl) (fun s' e => by rw [hD] at e; injection e)
    (rw [sAppR]; simp only [go_sem]; (repeat' apply And.intro) <;> rfl)
   | true =>
    rw [hY] at cPT
    have hTm : 1 ≤ r.Time := by
     simp only [recOk, h1, h4, if_false, hY] at hr
     split at hr
     ·simp only [Bool.and_eq_true, Bool.or_eq_true, rng_iff, Bool.not_true, Bool.false_and, Bool.true_and, Bool.false_eq_true, or_false] at hr
      omega
     ·cases hr
    cases hH : hF s.Held r.Txn with
    | false =>
     rw [hH] at cFH
     have hE2 : decS s r = none := by rw [decS, hY, hH]; rfl
     rw [hE2] at hD
     refine fi H75 fun E hE hH => ?_; simp only [go_sem] at hE hH; simp only [go_sem, hE, hH, C75]
     try simp (disch := omega) only [go_sem, hE, hH, z1, z2, hY]
     repeat' (first | ((with_reducible first | refine gd_t ?_ ?_ | refine gd_f ?_ ?_) <;> (intro h; have hb := h; (try simp only [nf] at h); simp (disch := omega) only [go_sem, hE, hH, z1, z2, hY, hb]; (try clear hb))) | ((with_reducible refine And.intro ?_ ?_); · omega) | ((first | refine ok_view ?_ | refine cvA (cO) ?_ | refine cvA (cFH) ?_ | refine cvA (cFT) ?_); simp (disch := omega) only [go_sem, hE, hH, z1, z2, hY]) | (with_reducible apply jn) | (with_reducible apply both) | (with_reducible refine And.intro ?_ ?_) | ((with_reducible apply fin_eq); (try (simp (disch := omega) only [go_sem, hE, hH, z1, z2, hY])); first | done | rfl) | (simp (disch := omega) only [go_sem, hE, hH, z1, z2, hY]) | ((first | apply noMLL_sE | apply pk_sE) <;> (simp only [go_sem, hE, hH, z1, z2, hY]; done)) | (simp only [go_sem, hE, hH, z1, z2, hY]) | fail)
     refine nilR_sApp2 s false ?_ (by rw [hD]; rfl) (fun s' e => by rw [hD] at e; cases e)
     (rw [sAppR]; simp only [go_sem]; (repeat' apply And.intro) <;> rfl)
    | true =>
     rw [hH] at cFH
     obtain ⟨k1, k2⟩ := hF_at hi.hsrt hH
     have hld := hldOk_lists (hi.hok _ (nth_mem k1))
     have hI0 := goodCells_I hi.cells
     have hN : hNth s.Held r.Txn = nth s.Held (hI s.Held r.Txn) := by rw [hNth, hH, if_pos rfl]
     rw [hN] at cFH
     by_cases hT : r.Time < (nth s.Held (hI s.Held r.Txn)).Time
     ·have hE2 : decS s r = none := by rw [decS, hY, hH, decide_eq_true hT]; rfl
      rw [hE2] at hD
      have hT2 := decide_eq_true hT
      refine fi H75 fun E hE hH => ?_; simp only [go_sem] at hE hH; simp only [go_sem, hE, hH, C75]
      try simp (disch := omega) only [go_sem, hE, hH, z1, z2, hY, hT2]
      repeat' (first | ((with_reducible first | refine gd_t ?_ ?_ | refine gd_f ?_ ?_) <;> (intro h; have hb := h; (try simp only [nf] at h); simp (disch := omega) only [go_sem, hE, hH, z1, z2, hY, hT2, hb]; (try clear hb))) | ((with_reducible refine And.intro ?_ ?_); · omega) | ((first | refine ok_view ?_ | refine cvA (cO) ?_ | refine cvA (cFH) ?_ | refine cvA (cFT) ?_); simp (disch := omega) only [go_sem, hE, hH, z1, z2, hY, hT2]) | (with_reducible apply jn) | (with_reducible apply both) | (with_reducible refine And.intro ?_ ?_) | ((with_reducible apply fin_eq); (try (simp (disch := omega) only [go_sem, hE, hH, z1, z2, hY, hT2])); first | done | rfl) | (simp (disch := omega) only [go_sem, hE, hH, z1, z2, hY, hT2]) | ((first | apply noMLL_sE | apply pk_sE) <;> (simp only [go_sem, hE, hH, z1, z2, hY, hT2]; done)) | (simp only [go_sem, hE, hH, z1, z2, hY, hT2]) | fail)
      refine nilR_sApp2 s false ?_ (by rw [hD]; rfl) (fun s' e => by rw [hD] at e; cases e)
      (rw [sAppR]; simp only [go_sem]; (repeat' apply And.intro) <;> rfl)
     have hT2 := decide_eq_false hT
     have cP := l3Put_ok s.Cells (nth s.Held (hI s.Held r.Txn)).Writes r.Time hI0 (fun x hx => goodWrites_sizes hld.2.2.1 hx) (by omega) hTm
     cases hP : putVs r.Time (nth s.Held (hI s.Held r.Txn)).Writes (some s.Cells) with
     | none =>
      rw [hP] at cP
      simp only [sPutR] at cP
      have hE2 : decS s r = none := by rw [decS, hY, hH, hT2, putC, hP]; rfl
      rw [hE2] at hD
      refine fi H75 fun E hE hH => ?_; simp only [go_sem] at hE hH; simp only [go_sem, hE, hH, C75]
      try simp (disch := omega) only [go_sem, hE, hH, z1, z2, hY, hT2]
      repeat' (first | ((with_reducible first | refine gd_t ?_ ?_ | refine gd_f ?_ ?_) <;> (intro h; have hb := h; (try simp only [nf] at h); simp (disch := omega) only [go_sem, hE, hH, z1, z2, hY, hT2, hb]; (try clear hb))) | ((with_reducible refine And.intro ?_ ?_); · omega) | ((first | refine ok_view ?_ | refine cvA (cO) ?_ | refine cvA (cFH) ?_ | refine cvA (cFT) ?_ | refine cvA (cP) ?_); simp (disch := omega) only [go_sem, hE, hH, z1, z2, hY, hT2]) | (with_reducible apply jn) | (with_reducible apply both) | (with_reducible refine And.intro ?_ ?_) | ((with_reducible apply fin_eq); (try (simp (disch := omega) only [go_sem, hE, hH, z1, z2, hY, hT2])); first | done | rfl) | (simp (disch := omega) only [go_sem, hE, hH, z1, z2, hY, hT2]) | ((first | apply noMLL_sE | apply pk_sE) <;> (simp only [go_sem, hE, hH, z1, z2, hY, hT2]; done)) | (simp only [go_sem, hE, hH, z1, z2, hY, hT2]) | fail)
      refine nilR_sApp2 s false ?_ (by rw [hD]; rfl) (fun s' e => by rw [hD] at e; cases e)
      (rw [sAppR]; simp only [go_sem]; (repeat' apply And.intro) <;> rfl)
     | some c =>
      rw [hP] at cP
      simp only [sPutR] at cP
      cases hG : goodCells c with
      | false =>
       rw [hG] at cP
       have hE2 : decS s r = none := by rw [decS, hY, hH, hT2, putC, hP]; simp [hG]
       rw [hE2] at hD
       refine fi H75 fun E hE hH => ?_; simp only [go_sem] at hE hH; simp only [go_sem, hE, hH, C75]
       try simp (disch := omega) only [go_sem, hE, hH, z1, z2, hY, hT2]
       repeat' (first | ((with_reducible first | refine gd_t ?_ ?_ | refine gd_f ?_ ?_) <;> (intro h; have hb := h; (try simp only [nf] at h); simp (disch := omega) only [go_sem, hE, hH, z1, z2, hY, hT2, hb]; (try clear hb))) | ((with_reducible refine And.intro ?_ ?_); · omega) | ((first | refine ok_view ?_ | refine cvA (cO) ?_ | refine cvA (cFH) ?_ | refine cvA (cFT) ?_ | refine cvA (cP) ?_); simp (disch := omega) only [go_sem, hE, hH, z1, z2, hY, hT2]) | (with_reducible apply jn) | (with_reducible apply both) | (with_reducible refine And.intro ?_ ?_) | ((with_reducible apply fin_eq); (try (simp (disch := omega) only [go_sem, hE, hH, z1, z2, hY, hT2])); first | done | rfl) | (simp (disch := omega) only [go_sem, hE, hH, z1, z2, hY, hT2]) | ((first | apply noMLL_sE | apply pk_sE) <;> (simp only [go_sem, hE, hH, z1, z2, hY, hT2]; done)) | (simp only [go_sem, hE, hH, z1, z2, hY, hT2]) | fail)
       refine nilR_sApp2 s false ?_ (by rw [hD]; rfl) (fun s' e => by rw [hD] at e; cases e)
       (rw [sAppR]; simp only [go_sem]; (repeat' apply And.intro) <;> rfl)
      | true =>
       rw [hG] at cP
       have hE2 : decS s r = some ⟨max s.Floor r.Time, c, heldCut s r, toldAdd s r⟩ := by rw [decS, hY, hH, hT2, putC, hP]; simp [hG]
       rw [hE2] at hD
       have hmx2 : mostI s.Floor r.Time = max s.Floor r.Time := by
        rw [mostI, Int.max_def]; split <;> split <;> omega
       refine fi H75 fun E hE hH => ?_; simp only [go_sem] at hE hH; simp only [go_sem, hE, hH, C75]
       try simp (disch := omega) only [go_sem, hE, hH, z1, z2, hY, hT2, hmx2]
       repeat' (first | ((with_reducible first | refine gd_t ?_ ?_ | refine gd_f ?_ ?_) <;> (intro h; have hb := h; (try simp only [nf] at h); simp (disch := omega) only [go_sem, hE, hH, z1, z2, hY, hT2, hmx2, hb]; (try clear hb))) | ((with_reducible refine And.intro ?_ ?_); · omega) | (refine ok_lend [true, false] ?_; simp (disch := omega) only [go_sem, hE, hH, z1, z2, hY, hT2, hmx2]; refine cmA (cLs) ?_; simp (disch := omega) only [go_sem, hE, hH, z1, z2, hY, hT2, hmx2]) | ((first | refine ok_view ?_ | refine cvA (cO) ?_ | refine cvA (cFH) ?_ | refine cvA (cFT) ?_ | refine cvA (cP) ?_ | refine cvA (l1Most_ok _ _) ?_ | refine cvA (cPT) ?_); simp (disch := omega) only [go_sem, hE, hH, z1, z2, hY, hT2, hmx2]) | (with_reducible apply jn) | (with_reducible apply both) | (with_reducible refine And.intro ?_ ?_) | ((with_reducible apply fin_eq); (try (simp (disch := omega) only [go_sem, hE, hH, z1, z2, hY, hT2, hmx2])); first | done | rfl) | (simp (disch := omega) only [go_sem, hE, hH, z1, z2, hY, hT2, hmx2]) | ((first | apply noMLL_sE | apply pk_sE) <;> (simp only [go_sem, hE, hH, z1, z2, hY, hT2, hmx2]; done)) | (simp only [go_sem, hE, hH, z1, z2, hY, hT2, hmx2]) | fail)
       refine nilR_sApp2 ⟨max s.Floor r.Time, c, heldCut s r, toldAdd s r⟩ true ?_ (by rw [hD]; rfl) (fun s' e => by rw [hD] at e; injection e)
       (rw [sAppR]; simp only [go_sem]; (repeat' apply And.intro) <;> rfl)
def doneL (l : List Rec) (j : Nat) : List Bool := (List.range j).map fun i => (appS (stateL (l.take i)) (nth l i)).isSome
theorem doneL_len (l : List Rec) (j : Nat) : (doneL l j).length = j := by simp [doneL]
theorem doneL_succ (l : List Rec) (j : Nat) : doneL l (j + 1) = doneL l j ++ [(appS (stateL (l.take j)) (nth l j)).isSome] := by simp [doneL, List.range_succ]
theorem stateL_succ {l : List Rec} {j : Nat} (h : j < l.length) : stateL (l.take (j + 1)) = stepS (stateL (l.take j)) (nth l j) := by
 rw [take_nth h, stateL, List.foldl_append]; rfl
theorem stateL_takeI {l : List Rec} (hl : ∀ r ∈ l, recOk r = true) (j : Nat) (hj : j ≤ l.length) : stI j (stateL (l.take j)) := by
 have := stateL_I (l := l.take j) fun r h => hl r (List.mem_of_mem_take h)
 rwa [List.length_take, Nat.min_eq_left hj] at this
def soF (l : List Rec) (j : Nat) : Option State → St
 | none => ⟨[(2, .ptr 3000000 0 0), (4, .ptr 5000000 0 0), (5, .ref 6000000 0 j), (12, .sl false 7 (l.map (Rec.row false))), (13, i64 l.length), (14, i64 j)], [(3000000, ⟨4, [[i64 0, nils, nils, nils]]⟩), (5000000, ⟨4, [[i64 0, nils, nils, nils]]⟩), (6000000, ⟨1, (doneL l j).map (fun b => [bl b])⟩)]⟩
 | some s => ⟨[(2, .ptr 3000000 0 0), (4, .ptr 5000000 0 0), (5, .ref 6000000 0 j), (12, .sl false 7 (l.map (Rec.row false))), (13, i64 l.length), (14, i64 j)], [(3000000, ⟨4, [[i64 0, nils, nils, nils]]⟩), (5000000, ⟨4, [[i64 s.Floor, .ref 5000002 0 s.Cells.length, .ref 5000003 0 s.Held.length, .ref 5000004 0 s.Told.length]]⟩), (5000002, ⟨2, s.Cells.map (Cell.row true)⟩), (5000003, ⟨5, s.Held.map (Held.row true)⟩), (5000004, ⟨3, s.Told.map (Told.row true)⟩), (6000000, ⟨1, (doneL l j).map (fun b => [bl b])⟩)]⟩
set_option maxHeartbeats 2000000 in
theorem stateOf_ok (hS : SortNe) (l : List Rec) (hl : ∀ r ∈ l, recOk r = true) (hn : l.length ≤ 60) : ACall Tryz.prog 57 [.sl false 7 (l.map (Rec.row false))] (fun x _ => x = .tup [.agg (State.row true (stateL l)), .sl true 1 ((doneL l l.length).map (fun b => [bl b]))]) := by
 have hmx := mx_eq
 refine fi H57 fun E hE hH => ?_; simp only [go_sem] at hE hH; simp only [go_sem, hE, hH, C57]
 try simp (disch := omega) only [go_sem, hE, hH]
 refine loopNe l.length (fun j x => soF l j x) (fun j x => x.getD st0 = stateL (l.take j)) none rfl rfl ?_
 intro j x hj hI
 have z1 : st0.Cells = [] := rfl
 have z2 : st0.Held = [] := rfl
 have z3 : st0.Told = [] := rfl
 have z4 : st0.Floor = 0 := rfl
 have hSI := stateL_takeI hl j hj
 rw [← hI] at hSI
 cases x with
 | none =>
  try simp only [go_sem, hE, hH, C57_l1, soF]
  first | refine gd_t (fun h => ?_) (fun h => ?_) | refine gd_f (fun h => ?_) (fun h => ?_)
  ·have hb := h
   simp only [nf] at h
   have hlt : j < l.length := by omega
   have cA := applied_ok hS st0 (nth l j) hSI (by omega) (hl _ (nth_mem hlt))
   have hst : stateL (l.take (j + 1)) = stepS st0 (nth l j) := by rw [stateL_succ hlt, ← hI]; rfl
   have hdn : doneL l (j + 1) = doneL l j ++ [(appS st0 (nth l j)).isSome] := by rw [doneL_succ, ← hI]; rfl
   have hdl := doneL_len l j
   have hdt : (doneL l j).take j = doneL l j := by rw [List.take_of_length_le (by omega)]
   cases hA : appS st0 (nth l j) with
   | none =>
    rw [hA, appR] at cA
    rw [hA] at hdn
    try simp (disch := omega) only [go_sem, hE, hH, hb]
    repeat' (first | ((with_reducible first | refine gd_t ?_ ?_ | refine gd_f ?_ ?_) <;> (intro h; have hb := h; (try simp only [nf] at h); simp (disch := omega) only [go_sem, hE, hH, hdl, hdt, z1, z2, z3, z4, hb]; (try clear hb))) | ((with_reducible refine And.intro ?_ ?_); · omega) | ((first | refine ok_view ?_ | refine cvAn (cA) ?_); simp (disch := omega) only [go_sem, hE, hH, hdl, hdt, z1, z2, z3, z4]) | (with_reducible apply jn) | (with_reducible apply both) | (with_reducible refine And.intro ?_ ?_) | ((with_reducible apply fin_eq); (try (simp (disch := omega) only [go_sem, hE, hH, hdl, hdt, z1, z2, z3, z4])); first | done | rfl) | (simp (disch := omega) only [go_sem, hE, hH, hdl, hdt, z1, z2, z3, z4]) | ((first | apply noMLL_sE | apply pk_sE) <;> (simp only [go_sem, hE, hH, hdl, hdt, z1, z2, z3, z4]; done)) | (simp only [go_sem, hE, hH, hdl, hdt, z1, z2, z3, z4]) | fail)
    all_goals try first | omega | rfl
    all_goals (
     refine ⟨none, ?_, by (first | (rw [hst, stepS, hA]; done) | (rw [hst, stepS, hA]; rfl))⟩
     rw [hdn, List.map_append]
     rfl)
   | some s' =>
    rw [hA, appR] at cA
    rw [hA] at hdn
    try simp (disch := omega) only [go_sem, hE, hH, hb]
    repeat' (first | ((with_reducible first | refine gd_t ?_ ?_ | refine gd_f ?_ ?_) <;> (intro h; have hb := h; (try simp only [nf] at h); simp (disch := omega) only [go_sem, hE, hH, hdl, hdt, z1, z2, z3, z4, hb]; (try clear hb))) | ((with_reducible refine And.intro ?_ ?_); · omega) | ((first | refine ok_view ?_ | refine cvAn (cA) ?_); simp (disch := omega) only [go_sem, hE, hH, hdl, hdt, z1, z2, z3, z4]) | (with_reducible apply jn) | (with_reducible apply both) | (with_reducible refine And.intro ?_ ?_) | ((with_reducible apply fin_eq); (try (simp (disch := omega) only [go_sem, hE, hH, hdl, hdt, z1, z2, z3, z4])); first | done | rfl) | (simp (disch := omega) only [go_sem, hE, hH, hdl, hdt, z1, z2, z3, z4]) | ((first | apply noMLL_sE | apply pk_sE) <;> (simp only [go_sem, hE, hH, hdl, hdt, z1, z2, z3, z4]; done)) | (simp only [go_sem, hE, hH, hdl, hdt, z1, z2, z3, z4]) | fail)
    all_goals try first | omega | rfl
    all_goals (
     refine ⟨some s', ?_, by (first | (rw [hst, stepS, hA]; done) | (rw [hst, stepS, hA]; rfl))⟩
     rw [hdn, List.map_append]
     rfl)
  ·try simp (disch := omega) only [go_sem, hE, hH, h]
   simp only [nf] at h
   have hjl : j = l.length := by omega
   have hdl := doneL_len l j
   rw [hjl, List.take_length] at hI
   subst hjl
   rw [← hI]
   simp [hdl, pk_map, packedL]
   exact ⟨rfl, rfl, rfl, rfl⟩
 | some s =>
  try simp only [go_sem, hE, hH, C57_l1, soF]
  first | refine gd_t (fun h => ?_) (fun h => ?_) | refine gd_f (fun h => ?_) (fun h => ?_)
  ·have hb := h
   simp only [nf] at h
   have hlt : j < l.length := by omega
   have cA := applied_ok hS s (nth l j) hSI (by omega) (hl _ (nth_mem hlt))
   have hst : stateL (l.take (j + 1)) = stepS s (nth l j) := by rw [stateL_succ hlt, ← hI]; rfl
   have hdn : doneL l (j + 1) = doneL l j ++ [(appS s (nth l j)).isSome] := by rw [doneL_succ, ← hI]; rfl
   have hdl := doneL_len l j
   have hdt : (doneL l j).take j = doneL l j := by rw [List.take_of_length_le (by omega)]
   cases hA : appS s (nth l j) with
   | none =>
    rw [hA, appR] at cA
    rw [hA] at hdn
    try simp (disch := omega) only [go_sem, hE, hH, hb]
    repeat' (first | ((with_reducible first | refine gd_t ?_ ?_ | refine gd_f ?_ ?_) <;> (intro h; have hb := h; (try simp only [nf] at h); simp (disch := omega) only [go_sem, hE, hH, hdl, hdt, hb]; (try clear hb))) | ((with_reducible refine And.intro ?_ ?_); · omega) | ((first | refine ok_view ?_ | refine cvA (cA) ?_); simp (disch := omega) only [go_sem, hE, hH, hdl, hdt]) | (with_reducible apply jn) | (with_reducible apply both) | (with_reducible refine And.intro ?_ ?_) | ((with_reducible apply fin_eq); (try (simp (disch := omega) only [go_sem, hE, hH, hdl, hdt])); first | done | rfl) | (simp (disch := omega) only [go_sem, hE, hH, hdl, hdt]) | ((first | apply noMLL_sE | apply pk_sE) <;> (simp only [go_sem, hE, hH, hdl, hdt]; done)) | (simp only [go_sem, hE, hH, hdl, hdt]) | fail)
    all_goals try first | omega | rfl
    all_goals (
     refine ⟨some s, ?_, by (first | (rw [hst, stepS, hA]; done) | (rw [hst, stepS, hA]; rfl))⟩
     rw [hdn, List.map_append]
     rfl)
   | some s' =>
    rw [hA, appR] at cA
    rw [hA] at hdn
    try simp (disch := omega) only [go_sem, hE, hH, hb]
    repeat' (first | ((with_reducible first | refine gd_t ?_ ?_ | refine gd_f ?_ ?_) <;> (intro h; have hb := h; (try simp only [nf] at h); simp (disch := omega) only [go_sem, hE, hH, hdl, hdt, hb]; (try clear hb))) | ((with_reducible refine And.intro ?_ ?_); · omega) | ((first | refine ok_view ?_ | refine cvA (cA) ?_); simp (disch := omega) only [go_sem, hE, hH, hdl, hdt]) | (with_reducible apply jn) | (with_reducible apply both) | (with_reducible refine And.intro ?_ ?_) | ((with_reducible apply fin_eq); (try (simp (disch := omega) only [go_sem, hE, hH, hdl, hdt])); first | done | rfl) | (simp (disch := omega) only [go_sem, hE, hH, hdl, hdt]) | ((first | apply noMLL_sE | apply pk_sE) <;> (simp only [go_sem, hE, hH, hdl, hdt]; done)) | (simp only [go_sem, hE, hH, hdl, hdt]) | fail)
    all_goals try first | omega | rfl
    all_goals (
     refine ⟨some s', ?_, by (first | (rw [hst, stepS, hA]; done) | (rw [hst, stepS, hA]; rfl))⟩
     rw [hdn, List.map_append]
     rfl)
  ·try simp (disch := omega) only [go_sem, hE, hH, h]
   simp only [nf] at h
   have hjl : j = l.length := by omega
   have hdl := doneL_len l j
   rw [hjl, List.take_length] at hI
   subst hjl
   rw [← hI]
   simp [hdl, pk_map, packedL]
def soG (l : List Rec) (j : Nat) : Option State → St
 | none => ⟨[(2, .ptr 3000000 0 0), (4, .ptr 5000000 0 0), (5, .ref 6000000 0 j), (10, .sl false 7 (l.map (Rec.row false))), (11, i64 l.length), (12, i64 j)], [(3000000, ⟨4, [[i64 0, nils, nils, nils]]⟩), (5000000, ⟨4, [[i64 0, nils, nils, nils]]⟩), (6000000, ⟨1, (doneL l j).map (fun b => [bl b])⟩)]⟩
 | some s => ⟨[(2, .ptr 3000000 0 0), (4, .ptr 5000000 0 0), (5, .ref 6000000 0 j), (10, .sl false 7 (l.map (Rec.row false))), (11, i64 l.length), (12, i64 j)], [(3000000, ⟨4, [[i64 0, nils, nils, nils]]⟩), (5000000, ⟨4, [State.row false s]⟩), (6000000, ⟨1, (doneL l j).map (fun b => [bl b])⟩)]⟩
set_option maxHeartbeats 2000000 in
theorem l13Of_ok (l : List Rec) (hl : ∀ r ∈ l, recOk r = true) (hn : l.length ≤ 60) : ACall Tryz.prog 53 [.sl false 7 (l.map (Rec.row false))] (fun x _ => x = .tup [.agg (State.row false (stateL l)), .sl true 1 ((doneL l l.length).map (fun b => [bl b]))]) := by
 have hmx := mx_eq
 refine fi H53 fun E hE hH => ?_; simp only [go_sem] at hE hH; simp only [go_sem, hE, hH, C53]
 try simp (disch := omega) only [go_sem, hE, hH]
 refine loopNe l.length (fun j x => soG l j x) (fun j x => x.getD st0 = stateL (l.take j)) none rfl rfl ?_
 intro j x hj hI
 have z1 : st0.Cells = [] := rfl
 have z2 : st0.Held = [] := rfl
 have z3 : st0.Told = [] := rfl
 have z4 : st0.Floor = 0 := rfl
 have hSI := stateL_takeI hl j hj
 rw [← hI] at hSI
 cases x with
 | none =>
  try simp only [go_sem, hE, hH, C53_l1, soG]
  first | refine gd_t (fun h => ?_) (fun h => ?_) | refine gd_f (fun h => ?_) (fun h => ?_)
  ·have hb := h
   simp only [nf] at h
   have hlt : j < l.length := by omega
   have cA := l13Apply_ok st0 (nth l j) hSI (by omega) (hl _ (nth_mem hlt))
   have hst : stateL (l.take (j + 1)) = stepS st0 (nth l j) := by rw [stateL_succ hlt, ← hI]; rfl
   have hdn : doneL l (j + 1) = doneL l j ++ [(appS st0 (nth l j)).isSome] := by rw [doneL_succ, ← hI]; rfl
   have hdl := doneL_len l j
   have hdt : (doneL l j).take j = doneL l j := by rw [List.take_of_length_le (by omega)]
   cases hA : appS st0 (nth l j) with
   | none =>
    rw [hA, Option.isSome_none] at cA
    simp only [sAppR] at cA
    rw [hA] at hdn
    try simp (disch := omega) only [go_sem, hE, hH, hb]
    repeat' (first | ((with_reducible first | refine gd_t ?_ ?_ | refine gd_f ?_ ?_) <;> (intro h; have hb := h; (try simp only [nf] at h); simp (disch := omega) only [go_sem, hE, hH, hdl, hdt, z1, z2, z3, z4, hb]; (try clear hb))) | ((with_reducible refine And.intro ?_ ?_); · omega) | (refine ok_view ?_; simp (disch := omega) only [go_sem, hE, hH, hdl, hdt, z1, z2, z3, z4]; refine cvAn (cA) (And.intro (by (simp (disch := omega) only [go_sem, hE, hH, hdl, hdt, z1, z2, z3, z4]); done) (aftV_intro ?_)); rintro _ _ ⟨q, rfl, _⟩; simp (disch := omega) only [go_sem, hE, hH, hdl, hdt, z1, z2, z3, z4]) | (with_reducible apply jn) | (with_reducible apply both) | (with_reducible refine And.intro ?_ ?_) | ((with_reducible apply fin_eq); (try (simp (disch := omega) only [go_sem, hE, hH, hdl, hdt, z1, z2, z3, z4])); first | done | rfl) | (simp (disch := omega) only [go_sem, hE, hH, hdl, hdt, z1, z2, z3, z4]) | ((first | apply noMLL_sE | apply pk_sE) <;> (simp only [go_sem, hE, hH, hdl, hdt, z1, z2, z3, z4]; done)) | (simp only [go_sem, hE, hH, hdl, hdt, z1, z2, z3, z4]) | fail)
    all_goals try first | omega | rfl
    all_goals (
     refine ⟨none, ?_, by (first | (rw [hst, stepS, hA]; done) | (rw [hst, stepS, hA]; rfl))⟩
     rw [hdn, List.map_append]
     rfl)
   | some s' =>
    rw [hA, Option.isSome_some] at cA
    simp only [sAppR] at cA
    rw [hA] at hdn
    try simp (disch := omega) only [go_sem, hE, hH, hb]
    repeat' (first | ((with_reducible first | refine gd_t ?_ ?_ | refine gd_f ?_ ?_) <;> (intro h; have hb := h; (try simp only [nf] at h); simp (disch := omega) only [go_sem, hE, hH, hdl, hdt, z1, z2, z3, z4, hb]; (try clear hb))) | ((with_reducible refine And.intro ?_ ?_); · omega) | (refine ok_view ?_; simp (disch := omega) only [go_sem, hE, hH, hdl, hdt, z1, z2, z3, z4]; refine cvAn (cA) (And.intro (by (simp (disch := omega) only [go_sem, hE, hH, hdl, hdt, z1, z2, z3, z4]); done) (aftV_intro ?_)); rintro _ _ ⟨q, rfl, hq⟩; simp (disch := omega) only [go_sem, hE, hH, hdl, hdt, z1, z2, z3, z4]) | (with_reducible apply jn) | (with_reducible apply both) | (with_reducible refine And.intro ?_ ?_) | ((with_reducible apply fin_eq); (try (simp (disch := omega) only [go_sem, hE, hH, hdl, hdt, z1, z2, z3, z4])); first | done | rfl) | (simp (disch := omega) only [go_sem, hE, hH, hdl, hdt, z1, z2, z3, z4]) | ((first | apply noMLL_sE | apply pk_sE) <;> (simp only [go_sem, hE, hH, hdl, hdt, z1, z2, z3, z4]; done)) | (simp only [go_sem, hE, hH, hdl, hdt, z1, z2, z3, z4]) | fail)
    all_goals try first | omega | rfl
    all_goals (
     obtain rfl := hq _ rfl
     refine ⟨some q, ?_, by (first | (rw [hst, stepS, hA]; done) | (rw [hst, stepS, hA]; rfl))⟩
     rw [hdn, List.map_append]
     rfl)
  ·try simp (disch := omega) only [go_sem, hE, hH, h]
   simp only [nf] at h
   have hjl : j = l.length := by omega
   have hdl := doneL_len l j
   rw [hjl, List.take_length] at hI
   subst hjl
   rw [← hI]
   simp [hdl, pk_map, packedL]
   exact ⟨rfl, rfl, rfl, rfl⟩
 | some s =>
  try simp only [go_sem, hE, hH, C53_l1, soG]
  first | refine gd_t (fun h => ?_) (fun h => ?_) | refine gd_f (fun h => ?_) (fun h => ?_)
  ·have hb := h
   simp only [nf] at h
   have hlt : j < l.length := by omega
   have cA := l13Apply_ok s (nth l j) hSI (by omega) (hl _ (nth_mem hlt))
   have hst : stateL (l.take (j + 1)) = stepS s (nth l j) := by rw [stateL_succ hlt, ← hI]; rfl
   have hdn : doneL l (j + 1) = doneL l j ++ [(appS s (nth l j)).isSome] := by rw [doneL_succ, ← hI]; rfl
   have hdl := doneL_len l j
   have hdt : (doneL l j).take j = doneL l j := by rw [List.take_of_length_le (by omega)]
   cases hA : appS s (nth l j) with
   | none =>
    rw [hA, Option.isSome_none] at cA
    simp only [sAppR] at cA
    rw [hA] at hdn
    try simp (disch := omega) only [go_sem, hE, hH, hb]
    repeat' (first | ((with_reducible first | refine gd_t ?_ ?_ | refine gd_f ?_ ?_) <;> (intro h; have hb := h; (try simp only [nf] at h); simp (disch := omega) only [go_sem, hE, hH, hdl, hdt, hb]; (try clear hb))) | ((with_reducible refine And.intro ?_ ?_); · omega) | (refine ok_view ?_; simp (disch := omega) only [go_sem, hE, hH, hdl, hdt]; refine cvA (cA) ?_; refine aftV_intro ?_; rintro _ _ ⟨q, rfl, _⟩; simp (disch := omega) only [go_sem, hE, hH, hdl, hdt]) | (with_reducible apply jn) | (with_reducible apply both) | (with_reducible refine And.intro ?_ ?_) | ((with_reducible apply fin_eq); (try (simp (disch := omega) only [go_sem, hE, hH, hdl, hdt])); first | done | rfl) | (simp (disch := omega) only [go_sem, hE, hH, hdl, hdt]) | ((first | apply noMLL_sE | apply pk_sE) <;> (simp only [go_sem, hE, hH, hdl, hdt]; done)) | (simp only [go_sem, hE, hH, hdl, hdt]) | fail)
    all_goals try first | omega | rfl
    all_goals (
     refine ⟨some s, ?_, by (first | (rw [hst, stepS, hA]; done) | (rw [hst, stepS, hA]; rfl))⟩
     rw [hdn, List.map_append]
     rfl)
   | some s' =>
    rw [hA, Option.isSome_some] at cA
    simp only [sAppR] at cA
    rw [hA] at hdn
    try simp (disch := omega) only [go_sem, hE, hH, hb]
    repeat' (first | ((with_reducible first | refine gd_t ?_ ?_ | refine gd_f ?_ ?_) <;> (intro h; have hb := h; (try simp only [nf] at h); simp (disch := omega) only [go_sem, hE, hH, hdl, hdt, hb]; (try clear hb))) | ((with_reducible refine And.intro ?_ ?_); · omega) | (refine ok_view ?_; simp (disch := omega) only [go_sem, hE, hH, hdl, hdt]; refine cvA (cA) ?_; refine aftV_intro ?_; rintro _ _ ⟨q, rfl, hq⟩; simp (disch := omega) only [go_sem, hE, hH, hdl, hdt]) | (with_reducible apply jn) | (with_reducible apply both) | (with_reducible refine And.intro ?_ ?_) | ((with_reducible apply fin_eq); (try (simp (disch := omega) only [go_sem, hE, hH, hdl, hdt])); first | done | rfl) | (simp (disch := omega) only [go_sem, hE, hH, hdl, hdt]) | ((first | apply noMLL_sE | apply pk_sE) <;> (simp only [go_sem, hE, hH, hdl, hdt]; done)) | (simp only [go_sem, hE, hH, hdl, hdt]) | fail)
    all_goals try first | omega | rfl
    all_goals (
     obtain rfl := hq _ rfl
     refine ⟨some q, ?_, by (first | (rw [hst, stepS, hA]; done) | (rw [hst, stepS, hA]; rfl))⟩
     rw [hdn, List.map_append]
     rfl)
  ·try simp (disch := omega) only [go_sem, hE, hH, h]
   simp only [nf] at h
   have hjl : j = l.length := by omega
   have hdl := doneL_len l j
   rw [hjl, List.take_length] at hI
   subst hjl
   rw [← hI]
   simp [hdl, pk_map, packedL]
structure repG (r : Replica) : Prop where
 s0 : 0 ≤ r.Sure
 s1 : r.Sure ≤ r.Log.length
 len : r.Log.length ≤ 60
 good : ∀ e ∈ r.Log, recOk e.Rec = true
theorem szL_bd2 {α : Type} {f : α → Nat} {C : Nat} : ∀ {l : List α}, (∀ x ∈ l, f x ≤ C) → szL f l ≤ (C + 1) * l.length
 | [], _ => by simp [szL]
 | x :: l, h => by
  have h1 := szL_bd2 (l := l) fun y hy => h y (List.mem_cons_of_mem _ hy)
  have h2 := h x List.mem_cons_self
  simp only [szL, List.map_cons, List.sum_cons, List.length_cons, Nat.mul_succ] at h1 ⊢
  omega
theorem risB_key {l : List ByteArray} (h : risB l = true) : ∀ x ∈ l, goodKey x = true := by
 intro x hx
 obtain ⟨i, hi, rfl⟩ := List.getElem_of_mem hx
 simp only [risB] at h
 have := allN_iff.1 h i hi
 simp only [Bool.and_eq_true, nth_lt hi] at this
 exact this.1
theorem stI.sz {n : Nat} {s : State} (h : stI n s) (hn : n ≤ 1000) : s.sz ≤ 2 ^ 20 := by
 have hc := goodCells_I h.cells
 have hl := hc.len
 have h1 : szL Cell.sz s.Cells ≤ (2000 + 1) * s.Cells.length := szL_bd2 fun c q => by
  have h2 := (hc.one c q).2
  have h3 := hc.wf c q
  have h4 : szL Ver.sz c.Vers ≤ (100 + 1) * c.Vers.length := szL_bd2 fun v hv => h3.2 v hv
  have h5 : (100 + 1) * c.Vers.length ≤ (100 + 1) * 16 := Nat.mul_le_mul_left _ (by omega)
  show c.Key.size + szL Ver.sz c.Vers ≤ 2000
  omega
 have h2 : szL Held.sz s.Held ≤ (2000 + 1) * s.Held.length := szL_bd2 fun x q => by
  have h3 := hldOk_lists (h.hok x q)
  have h4 : szL ByteArray.size x.Reads ≤ (100 + 1) * x.Reads.length := szL_bd2 fun v hv => by
   have := goodKey_size (risB_key h3.2.2.2.1 v hv); omega
  have h5 : szL Write.sz x.Writes ≤ (100 + 1) * x.Writes.length := szL_bd2 fun v hv => by
   obtain ⟨i, hi, rfl⟩ := List.getElem_of_mem hv
   have h6 := h3.2.2.1
   rw [goodWrites_eq] at h6
   simp only [Bool.and_eq_true, Bool.not_eq_true', List.any_eq_false] at h6
   have h7 := goodKey_size (risB_key h6.1.2 _ (List.mem_map.2 ⟨_, hv, rfl⟩))
   have h8 := h6.2 _ hv
   have h8 : stored (x.Writes[i]).Val (x.Writes[i]).Gone = true := by simpa using h8
   have := stored_size h8
   show (x.Writes[i]).Key.size + (x.Writes[i]).Val.size ≤ 100
   omega
  have h6 : (100 + 1) * x.Reads.length ≤ (100 + 1) * 8 := Nat.mul_le_mul_left _ (by omega)
  have h7 : (100 + 1) * x.Writes.length ≤ (100 + 1) * 8 := Nat.mul_le_mul_left _ (by omega)
  show szL ByteArray.size x.Reads + szL Write.sz x.Writes ≤ 2000
  omega
 have h3 := h.tlen
 have h4 := h.hlen
 have h5 : (2000 + 1) * s.Cells.length ≤ (2000 + 1) * 24 := Nat.mul_le_mul_left _ (by omega)
 have h6 : (2000 + 1) * s.Held.length ≤ (2000 + 1) * 12 := Nat.mul_le_mul_left _ (by omega)
 show szL Cell.sz s.Cells + szL Held.sz s.Held + s.Told.length ≤ 2 ^ 20
 omega
def stateO (l : List Rec) : Option State := if l.all recOk = true ∧ l.length ≤ 60 then some (stateL l) else none
def doneO (l : List Rec) : List Bool := if l.all recOk = true ∧ l.length ≤ 60 then doneL l l.length else []
def stOfR (o : Bool) (l : List Rec) : T := .tup [.agg (State.row o ((stateO l).getD st0)), .sl true 1 ((doneO l).map fun b => [bl b]), bl (stateO l).isSome]
theorem stOfR_no {o : Bool} {l : List Rec} (h : ¬(l.all recOk = true ∧ l.length ≤ 60)) : stOfR o l = .tup [.agg (State.row o st0), .sl true 1 [], bl false] := by
 rw [stOfR, stateO, doneO, if_neg h, if_neg h]; rfl
theorem stOfR_yes {o : Bool} {l : List Rec} (h : l.all recOk = true ∧ l.length ≤ 60) : stOfR o l = .tup [.agg (State.row o (stateL l)), .sl true 1 ((doneL l l.length).map fun b => [bl b]), bl true] := by
 rw [stOfR, stateO, doneO, if_pos h, if_pos h]; rfl
theorem StateOf_1_ok (r : Rec) (hw : r.wf) : ACall Tryz.prog 55 ([.agg (Rec.row false r)] ++ []) (fun x _ => x = bl (!recOk r)) := by
 refine fi H55 fun E hE hH => ?_; simp only [go_sem] at hE hH; simp only [go_sem, hE, hH, C55]
 repeat' (first | ((with_reducible first | refine gd_t ?_ ?_ | refine gd_f ?_ ?_) <;> (intro h; have hb := h; (try simp only [nf] at h); refine sb ?_; (try clear hb))) | ((with_reducible refine And.intro ?_ ?_); · omega) | ((first | refine ok_view ?_ | refine cvA (GoodRec_ok r hw) ?_); refine st ?_) | refine jn _ ?_ ?_ | (with_reducible first | refine both ?_ ?_ | refine And.intro ?_ ?_) | exact fe | refine st ?_ | exact fm | refine s1 ?_ | (with_reducible exact True.intro) | fail)
theorem StateOf_ok (hS : SortNe) (l : List Rec) (hl : l.length ≤ maxLen) (hw : ∀ r ∈ l, r.wf) : ACall Tryz.prog 18 [.sl false 7 (l.map (Rec.row false))] (fun x _ => x = stOfR true l) := by
 have hmx := mx_eq
 have z1 : st0.Cells = [] := rfl
 have z2 : st0.Held = [] := rfl
 have z3 : st0.Told = [] := rfl
 have z4 : st0.Floor = 0 := rfl
 have hany : (l.any fun x => !recOk x) = !(l.all recOk) := by
  rw [List.all_eq_not_any_not]; simp
 have cF := ContainsFunc_Rec_ok l 55 [] (fun x => !recOk x) (by kernel_rfl) rfl hl (fun x hx => StateOf_1_ok x (hw x hx))
 rw [hany] at cF
 by_cases hn : l.length ≤ 60
 ·have hn1 : decide ((60 : Int) < l.length) = false := decide_eq_false (by omega)
  cases hg : l.all recOk with
  | false =>
   rw [hg] at cF
   rw [stOfR_no (by rw [hg]; simp)]
   refine fi H18 fun E hE hH => ?_; simp only [go_sem] at hE hH; simp only [go_sem, hE, hH, C18]
   try simp (disch := omega) only [go_sem, hE, hH, z1, z2, z3, z4, hn1]
   repeat' (first | ((with_reducible first | refine gd_t ?_ ?_ | refine gd_f ?_ ?_) <;> (intro h; have hb := h; (try simp only [nf] at h); simp (disch := omega) only [go_sem, hE, hH, z1, z2, z3, z4, hn1, hb]; (try clear hb))) | ((with_reducible refine And.intro ?_ ?_); · omega) | ((first | refine ok_view ?_ | refine cvA (cF) ?_); simp (disch := omega) only [go_sem, hE, hH, z1, z2, z3, z4, hn1]) | (with_reducible apply jn) | (with_reducible apply both) | (with_reducible refine And.intro ?_ ?_) | ((with_reducible apply fin_eq); (try (simp (disch := omega) only [go_sem, hE, hH, z1, z2, z3, z4, hn1])); first | done | rfl) | (simp (disch := omega) only [go_sem, hE, hH, z1, z2, z3, z4, hn1]) | ((first | apply noMLL_sE | apply pk_sE) <;> (simp only [go_sem, hE, hH, z1, z2, z3, z4, hn1]; done)) | (simp only [go_sem, hE, hH, z1, z2, z3, z4, hn1]) | fail)
   all_goals first | rfl | trace_state
  | true =>
   rw [hg] at cF
   rw [stOfR_yes ⟨hg, hn⟩]
   refine fi H18 fun E hE hH => ?_; simp only [go_sem] at hE hH; simp only [go_sem, hE, hH, C18]
   try simp (disch := omega) only [go_sem, hE, hH, hn1]
   repeat' (first | ((with_reducible first | refine gd_t ?_ ?_ | refine gd_f ?_ ?_) <;> (intro h; have hb := h; (try simp only [nf] at h); simp (disch := omega) only [go_sem, hE, hH, hn1, hb]; (try clear hb))) | ((with_reducible refine And.intro ?_ ?_); · omega) | ((first | refine ok_view ?_ | refine cvA (cF) ?_ | refine cvA (stateOf_ok hS l (List.all_eq_true.1 hg) hn) ?_); simp (disch := omega) only [go_sem, hE, hH, hn1]) | (with_reducible apply jn) | (with_reducible apply both) | (with_reducible refine And.intro ?_ ?_) | ((with_reducible apply fin_eq); (try (simp (disch := omega) only [go_sem, hE, hH, hn1])); first | done | rfl) | (simp (disch := omega) only [go_sem, hE, hH, hn1]) | ((first | apply noMLL_sE | apply pk_sE) <;> (simp only [go_sem, hE, hH, hn1]; done)) | (simp only [go_sem, hE, hH, hn1]) | fail)
   all_goals first | rfl | trace_state
 ·have hn1 : decide ((60 : Int) < l.length) = true := decide_eq_true (by omega)
  rw [stOfR_no (fun q => hn q.2)]
  refine fi H18 fun E hE hH => ?_; simp only [go_sem] at hE hH; simp only [go_sem, hE, hH, C18]
  try simp (disch := omega) only [go_sem, hE, hH, z1, z2, z3, z4, hn1]
  repeat' (first | ((with_reducible first | refine gd_t ?_ ?_ | refine gd_f ?_ ?_) <;> (intro h; have hb := h; (try simp only [nf] at h); simp (disch := omega) only [go_sem, hE, hH, z1, z2, z3, z4, hn1, hb]; (try clear hb))) | ((with_reducible refine And.intro ?_ ?_); · omega) | (with_reducible apply jn) | (with_reducible apply both) | (with_reducible refine And.intro ?_ ?_) | ((with_reducible apply fin_eq); (try (simp (disch := omega) only [go_sem, hE, hH, z1, z2, z3, z4, hn1])); first | done | rfl) | (simp (disch := omega) only [go_sem, hE, hH, z1, z2, z3, z4, hn1]) | ((first | apply noMLL_sE | apply pk_sE) <;> (simp only [go_sem, hE, hH, z1, z2, z3, z4, hn1]; done)) | (simp only [go_sem, hE, hH, z1, z2, z3, z4, hn1]) | fail)
  all_goals first | rfl | trace_state
theorem sStateOf_ok (l : List Rec) (hl : l.length ≤ maxLen) (hw : ∀ r ∈ l, recW r) : ACall Tryz.prog 16 [.sl false 7 (l.map (Rec.row false))] (fun x _ => x = stOfR false l) := by
 have hmx := mx_eq
 have z1 : st0.Cells = [] := rfl
 have z2 : st0.Held = [] := rfl
 have z3 : st0.Told = [] := rfl
 have z4 : st0.Floor = 0 := rfl
 refine fi H16 fun E hE hH => ?_; simp only [go_sem] at hE hH; simp only [go_sem, hE, hH, C16]
 try simp (disch := omega) only [go_sem, hE, hH]
 refine loopNe l.length (fun j (_ : Unit) => ⟨[(0, .sl false 7 (l.map (Rec.row false))), (2, .ptr 3000000 0 0), (9, .sl false 7 (l.map (Rec.row false))), (10, i64 l.length), (11, i64 j)], [(3000000, ⟨4, [[i64 0, nils, nils, nils]]⟩)]⟩) (fun j _ => allN (fun i => recOk (nth l i)) j = true) () rfl rfl ?_
 intro j _ hj hI
 try simp only [go_sem, hE, hH, C16_l1]
 first | refine gd_t (fun h => ?_) (fun h => ?_) | refine gd_f (fun h => ?_) (fun h => ?_)
 ·have hb := h
  simp only [nf] at h
  have hlt : j < l.length := by omega
  have c1 := l4Good_ok (nth l j) (hw _ (nth_mem hlt))
  cases hg : recOk (nth l j) with
  | false =>
   rw [hg] at c1
   have hno : l.all recOk = false := by rw [← allN_all]; exact allN_no hlt hg
   rw [stOfR_no (by rw [hno]; simp)]
   try simp (disch := omega) only [go_sem, hE, hH, hb]
   repeat' (first | ((with_reducible first | refine gd_t ?_ ?_ | refine gd_f ?_ ?_) <;> (intro h; have hb := h; (try simp only [nf] at h); simp (disch := omega) only [go_sem, hE, hH, z1, z2, z3, z4, hb]; (try clear hb))) | ((with_reducible refine And.intro ?_ ?_); · omega) | ((first | refine ok_view ?_ | refine cvA (c1) ?_); simp (disch := omega) only [go_sem, hE, hH, z1, z2, z3, z4]) | (with_reducible apply jn) | (with_reducible apply both) | (with_reducible refine And.intro ?_ ?_) | ((with_reducible apply fin_eq); (try (simp (disch := omega) only [go_sem, hE, hH, z1, z2, z3, z4])); first | done | rfl) | (simp (disch := omega) only [go_sem, hE, hH, z1, z2, z3, z4]) | ((first | apply noMLL_sE | apply pk_sE) <;> (simp only [go_sem, hE, hH, z1, z2, z3, z4]; done)) | (simp only [go_sem, hE, hH, z1, z2, z3, z4]) | fail)
   all_goals first | rfl | trace_state
  | true =>
   rw [hg] at c1
   try simp (disch := omega) only [go_sem, hE, hH, hb]
   repeat' (first | ((with_reducible first | refine gd_t ?_ ?_ | refine gd_f ?_ ?_) <;> (intro h; have hb := h; (try simp only [nf] at h); refine sb ?_; (try clear hb))) | ((with_reducible refine And.intro ?_ ?_); · omega) | ((first | refine ok_view ?_ | refine cvA (c1) ?_); refine st ?_) | (with_reducible apply jn) | (with_reducible apply both) | (with_reducible refine And.intro ?_ ?_) | exact fj | refine st ?_ | exact fm | refine s1 ?_ | (with_reducible exact True.intro) | fail)
   all_goals first | rfl | exact ⟨(), rfl, allN_step hI hg⟩ | trace_state
 ·try simp (disch := omega) only [go_sem, hE, hH, h]
  simp only [nf] at h
  rw [show j = l.length by omega, allN_all] at hI
  by_cases hn : l.length ≤ 60
  ·have hn1 : decide ((60 : Int) < l.length) = false := decide_eq_false (by omega)
   rw [stOfR_yes ⟨hI, hn⟩]
   try simp (disch := omega) only [go_sem, hE, hH, hn1]
   repeat' (first | ((with_reducible first | refine gd_t ?_ ?_ | refine gd_f ?_ ?_) <;> (intro h; have hb := h; (try simp only [nf] at h); simp (disch := omega) only [go_sem, hE, hH, hn1, hb]; (try clear hb))) | ((with_reducible refine And.intro ?_ ?_); · omega) | ((first | refine ok_view ?_ | refine cvA (l13Of_ok l (List.all_eq_true.1 hI) hn) ?_); simp (disch := omega) only [go_sem, hE, hH, hn1]) | (with_reducible apply jn) | (with_reducible apply both) | (with_reducible refine And.intro ?_ ?_) | ((with_reducible apply fin_eq); (try (simp (disch := omega) only [go_sem, hE, hH, hn1])); first | done | rfl) | (simp (disch := omega) only [go_sem, hE, hH, hn1]) | ((first | apply noMLL_sE | apply pk_sE) <;> (simp only [go_sem, hE, hH, hn1]; done)) | (simp only [go_sem, hE, hH, hn1]) | fail)
   all_goals first | rfl | trace_state
  ·have hn1 : decide ((60 : Int) < l.length) = true := decide_eq_true (by omega)
   rw [stOfR_no (fun q => hn q.2)]
   try simp (disch := omega) only [go_sem, hE, hH, z1, z2, z3, z4, hn1]
   repeat' (first | ((with_reducible first | refine gd_t ?_ ?_ | refine gd_f ?_ ?_) <;> (intro h; have hb := h; (try simp only [nf] at h); simp (disch := omega) only [go_sem, hE, hH, z1, z2, z3, z4, hn1, hb]; (try clear hb))) | ((with_reducible refine And.intro ?_ ?_); · omega) | (with_reducible apply jn) | (with_reducible apply both) | (with_reducible refine And.intro ?_ ?_) | ((with_reducible apply fin_eq); (try (simp (disch := omega) only [go_sem, hE, hH, z1, z2, z3, z4, hn1])); first | done | rfl) | (simp (disch := omega) only [go_sem, hE, hH, z1, z2, z3, z4, hn1]) | ((first | apply noMLL_sE | apply pk_sE) <;> (simp only [go_sem, hE, hH, z1, z2, z3, z4, hn1]; done)) | (simp only [go_sem, hE, hH, z1, z2, z3, z4, hn1]) | fail)
   all_goals first | rfl | trace_state
theorem stateO_sz {l : List Rec} : ((stateO l).getD st0).sz ≤ 2 ^ 20 := by
 rw [stateO]
 split
 ·rename_i h
  exact (stateL_I (l := l) (List.all_eq_true.1 h.1)).sz (by omega)
 ·exact st0_I.sz (by omega)
theorem doneO_len {l : List Rec} : (doneO l).length ≤ 60 := by
 rw [doneO]
 split
 ·rename_i h
  rw [doneL_len]; exact h.2
 ·exact Nat.zero_le _
theorem FnExactStateOf_ok (hS : SortNe) (vL : List Rec) (wL : vL.length ≤ maxLen ∧ ∀ y ∈ vL, y.wf) : ACall Tryz.prog 5 [.sl false 7 (vL.map (Rec.row false))] (fun r _ => r = bl true) := by
 have hmx := mx_eq
 have wlL : wfL (Rec.wf) vL := wL
 have lL : limL (Rec.lim) vL := ⟨wL.1, fun y hy => Rec.lim_of (wL.2 y hy)⟩
 refine fi H5 fun E hE hH => ?_; simp only [go_sem] at hE hH; simp only [go_sem, hE, hH, C5]
 refine ok_view ?_; simp (disch := omega) only [go_sem, hE, hH]; refine cvA (szRecS_ok vL _ (by decide) (by decide) wlL) ?_
 refine aftV_intro ?_
 rintro r l ⟨n1, rfl, hn1, hsz1⟩
 try simp (disch := omega) only [go_sem, hE, hH]
 first | refine gd_t (fun h1 => ?_) (fun h1 => ?_) | refine gd_f (fun h1 => ?_) (fun h1 => ?_)
 ·try simp (disch := omega) only [go_sem, hE, hH, h1]
 have hb1 := h1
 simp only [nf] at h1
 try simp (disch := omega) only [go_sem, hE, hH, hb1]
 have sL : szL (Rec.sz) vL ≤ 2 ^ 20 := by have := hsz1 h1; omega
 have hw2 : ∀ r ∈ vL, recW r := fun r hr => by
  have h1 := szL_mem (f := Rec.sz) hr
  have h5 : Rec.sz r = szL ByteArray.size r.Reads + szL Write.sz r.Writes := rfl
  have h6 := szL_len (f := ByteArray.size) (l := r.Reads)
  have h7 := szL_len (f := Write.sz) (l := r.Writes)
  exact ⟨wL.2 r hr, by omega, by omega⟩
 have hz := stateO_sz (l := vL)
 have hd := doneO_len (l := vL)
 have hlim := State.lim_sz (x := (stateO vL).getD st0) (by omega)
 have cI := StateOf_ok hS vL wL.1 wL.2
 have cS2 : ACall Tryz.prog 16 [.sl true 7 (vL.map (Rec.row true))] (fun x a => x = stOfR false vL ∧ a = [.any]) := frz_eq (sStateOf_ok vL wL.1 hw2) (by simp only [go_sem]; rfl) rfl
 simp only [stOfR] at cI cS2
 generalize hS0 : (stateO vL).getD st0 = s at *
 generalize hB0 : (stateO vL).isSome = b at *
 generalize hD0 : doneO vL = d at *
 have c2 := State.cntv_le s
 have e2 := State.mkv_cnt s 1
 have c_L := cntL_le (c := Rec.cnt) (s := Rec.sz) Rec.cnt_le (l := vL)
 have e_L := mkN_cnt (f := Rec.mk2) (c := Rec.cnt) Rec.mk2_cnt (l := vL) (k := 1)
 have c_D : cntL (fun _ => 1) (d) ≤ 1 * (d).length := cntL_le1 (fun _ => Nat.le_refl _)
 have e_D := mkN_cnt (f := mkB) (c := fun _ => 1) (fun _ _ => rfl) (l := d) (k := (State.mkv s 1).2)
 repeat' (first | ((with_reducible first | refine gd_t ?_ ?_ | refine gd_f ?_ ?_) <;> (intro h; have hb := h; (try simp only [nf] at h); refine sb ?_; (try clear hb))) | ((with_reducible refine And.intro ?_ ?_); · omega) | (refine ok_lend [true] ?_; refine st ?_; refine cmA (cS2) ?_; refine st ?_) | (refine ok_lend [true, false] ?_; refine st ?_; refine cmA (markRecS_ok vL 1 (by omega) (by omega)) ?_; refine st ?_) | (refine ok_lend [true, false] ?_; refine st ?_; refine cmA (markState_ok s 1 (by omega) (by omega)) ?_; refine st ?_) | (refine ok_lend [true, false] ?_; refine st ?_; refine cmA (markBoolS_ok d (State.mkv s 1).2 (by omega) (by omega)) ?_; refine st ?_) | ((first | refine ok_view ?_ | refine cvA (toRecS_ok vL sL) ?_ | refine cvA (cI) ?_ | refine cvA (eqRecS_ok vL vL lL) ?_ | refine cvA (eqState_ok s s hlim) ?_ | refine cvA (eqBoolS_ok d d ⟨by omega, fun _ _ => trivial⟩) ?_ | refine cvA (heldState_ok s 1 (by omega) (by omega)) ?_ | refine cvA (heldBoolS_ok d (State.mkv s 1).2 (by omega) (by omega)) ?_); refine st ?_) | (with_reducible apply jn) | (with_reducible apply both) | (with_reducible refine And.intro ?_ ?_) | exact fj | refine st ?_ | exact fm | refine s1 ?_ | (with_reducible exact True.intro) | fail)
 all_goals omega
end Go.Proofs.Wb

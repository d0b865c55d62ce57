import Derived.Test.YtlcebphcohneaaaGreatFnExactSureStateN5
import Derived.Laws.Externs
set_option linter.unusedSimpArgs false
set_option linter.unusedVariables false
set_option linter.unusedSectionVars false
namespace Go.Proofs.Wb
open Go Go.Am
theorem goodWrites_sizes {l : List Write} (h : goodWrites l = true) {x : Write} (hx : x ∈ l) : x.Key.size ≤ 100 ∧ x.Val.size ≤ 100 := by
 obtain ⟨i, hi, rfl⟩ := List.getElem_of_mem hx
 simp only [goodWrites, Bool.and_eq_true] at h
 have := allN_iff.1 h.2 i hi
 simp only [Bool.and_eq_true, nth_lt hi] at this
 have h1 := goodKey_size this.1.1
 have h2 := stored_size this.1.2
 exact ⟨by omega, by omega⟩
theorem ok_pack {P : Program} {E : Env} (ms : List (Nat × Nat × List (Nat × Nat))) {i : IN} {K : St → Prop} {s : St} (h : clsQ (InstrOk P E i K) (clsM ms (True, s))) : InstrOk P E i K s := instrOk_ent (clsM_ent (r := (True, s)) (fun _ => Ent.refl s) h.1).2 h.2
theorem lt_sE {d : Nat} {rows : List (List T)} {i : Nat} {r : List T} (h1 : ltLL d rows) (h2 : ltL d r) : ltLL d (rows.set i r) := fun x hx => (List.mem_or_eq_of_mem_set hx).elim (h1 x) fun e => e ▸ h2
theorem set_same {α : Type} [Inhabited α] {f : α → List T} {l : List α} {k : Nat} (h : k < l.length) : (l.map f).set k (f (nth l k)) = l.map f := by
 rw [← List.map_set, nth_lt h, List.set_getElem_self]
def appR : Option State → T
 | none => .tup [.agg (State.row true st0), bl false]
 | some s => .tup [.agg (State.row true s), bl true]
theorem hF_at {l : List Held} {t : Int} (hs : srtX ltI Held.Txn l) (h : hF l t = true) : hI l t < l.length ∧ (nth l (hI l t)).Txn = t := fxF_here cmpJ_ord hs h
theorem delHeld_ok (l : List Held) (i : Nat) (hi : i < l.length) (hl : l.length ≤ 100) : ACall Tryz.prog 199 [.sl true 5 (l.map (Held.row true)), i64 i, i64 ((i : Int) + 1)] (fun r a => r = .sl true 5 ((cutAt l i).map (Held.row true)) ∧ a = [.any, i64 i, i64 ((i : Int) + 1)]) := by
 have hmx := mx_eq
 have q := Delete_Held_ok l i ((i : Int) + 1) (by omega) (by omega) (by omega) (by omega)
 rwa [show l.take ((i : Int)).toNat ++ l.drop ((i : Int) + 1).toNat = cutAt l i by unfold cutAt; rfl] at q
theorem insTold_ok (l : List Told) (i : Nat) (x : Told) (hi : i ≤ l.length) (hl : l.length ≤ 2 ^ 20) : ACall Tryz.prog 200 [.sl true 3 (l.map (Told.row true)), i64 i, .sl false 3 [Told.row false x]] (fun r a => r = .sl true 3 ((putAt l i x).map (Told.row true)) ∧ a = [.any, i64 i, .sl false 3 [Told.row false x]]) := by
 have q := Insert_Told_ok l [x] i (by omega) (by omega) hl (by simp)
 rwa [show l.take ((i : Int)).toNat ++ [x] ++ l.drop ((i : Int)).toNat = putAt l i x by unfold putAt; simp] at q
set_option maxHeartbeats 4000000 in
theorem decided_ok {n : Nat} (s : State) (r : Rec) (hi : stI n s) (hn : n ≤ 100) (ht : r.Yes = true → 1 ≤ r.Time) : ACall Tryz.prog 148 [.agg (State.row false s), .agg (Rec.row false r)] (fun x _ => x = appR (decS s r)) := by
 have hmx := mx_eq
 have hb := hi.b (by omega)
 have hHl := hi.hlen
 have hTl := hi.tlen
 have cFH := findHeld_ok s r.Txn (by omega) hi.hsrt
 have hIl : hI s.Held r.Txn ≤ s.Held.length := fxI_le
 have tIl : tI s.Told r.Txn ≤ s.Told.length := fxI_le
 have cIT := insTold_ok s.Told (tI s.Told r.Txn) ⟨r.Txn, r.Yes, r.Time⟩ tIl (by omega)
 rw [show putAt s.Told (tI s.Told r.Txn) (⟨r.Txn, r.Yes, r.Time⟩ : Told) = toldAdd s r from rfl] at cIT
 have hcl : (heldCut s r).length ≤ 12 := (heldCut_I hi r).1
 have hct : (toldAdd s r).length = s.Told.length + 1 := putAt_len tIl
 cases hY : r.Yes with
 | false =>
  rw [hY] at cIT
  have hD : decS s r = some ⟨s.Floor, s.Cells, heldCut s r, toldAdd s r⟩ := by rw [decS, hY]; rfl
  rw [hD, appR]
  have cFT := findTold_ok ⟨s.Floor, s.Cells, heldCut s r, s.Told⟩ r.Txn (by simp only; omega) hi.tsrt
  cases hH : hF s.Held r.Txn with
  | false =>
   rw [hH] at cFH
   have hC : heldCut s r = s.Held := by rw [heldCut, hH]; rfl
   rw [hC] at cFT ⊢
   refine fi H148 fun E hE hH => ?_; simp only [go_sem] at hE hH; simp only [go_sem, hE, hH, C148]
   repeat' (first | ((with_reducible first | refine gd_t ?_ ?_ | refine gd_f ?_ ?_) <;> (intro h; have hb := h; (try simp only [nf] at h); simp (disch := omega) only [go_sem, hE, hH, hY, hb]; (try clear hb))) | ((with_reducible refine And.intro ?_ ?_); · omega) | (refine ok_lend [true, false, false] ?_; simp (disch := omega) only [go_sem, hE, hH, hY]; refine cmA (cIT) ?_; simp (disch := omega) only [go_sem, hE, hH, hY]) | ((first | refine ok_view ?_ | refine cvA (copyState_ok s hb) ?_ | refine cvA (cFH) ?_ | refine cvA (cFT) ?_); simp (disch := omega) only [go_sem, hE, hH, hY]) | (with_reducible apply jn) | (with_reducible apply both) | (with_reducible refine And.intro ?_ ?_) | ((with_reducible apply fin_eq); (try (simp (disch := omega) only [go_sem, hE, hH, hY])); first | done | rfl) | (simp (disch := omega) only [go_sem, hE, hH, hY]) | ((first | apply noMLL_sE | apply pk_sE) <;> (simp only [go_sem, hE, hH, hY]; done)) | (simp only [go_sem, hE, hH, hY]) | fail)
  | true =>
   rw [hH] at cFH
   obtain ⟨k1, k2⟩ := hF_at hi.hsrt hH
   have cD := delHeld_ok s.Held (hI s.Held r.Txn) k1 (by omega)
   rw [show cutAt s.Held (hI s.Held r.Txn) = heldCut s r by rw [heldCut, hH]; rfl] at cD
   refine fi H148 fun E hE hH => ?_; simp only [go_sem] at hE hH; simp only [go_sem, hE, hH, C148]
   repeat' (first | ((with_reducible first | refine gd_t ?_ ?_ | refine gd_f ?_ ?_) <;> (intro h; have hb := h; (try simp only [nf] at h); simp (disch := omega) only [go_sem, hE, hH, hY, hb]; (try clear hb))) | ((with_reducible refine And.intro ?_ ?_); · omega) | (refine ok_lend [true, false, false] ?_; simp (disch := omega) only [go_sem, hE, hH, hY]; refine cmA (cD) ?_; simp (disch := omega) only [go_sem, hE, hH, hY]) | (refine ok_lend [true, false, false] ?_; simp (disch := omega) only [go_sem, hE, hH, hY]; refine cmA (cIT) ?_; simp (disch := omega) only [go_sem, hE, hH, hY]) | ((first | refine ok_view ?_ | refine cvA (copyState_ok s hb) ?_ | refine cvA (cFH) ?_ | refine cvA (cFT) ?_); simp (disch := omega) only [go_sem, hE, hH, hY]) | (with_reducible apply jn) | (with_reducible apply both) | (with_reducible refine And.intro ?_ ?_) | ((with_reducible apply fin_eq); (try (simp (disch := omega) only [go_sem, hE, hH, hY])); first | done | rfl) | (simp (disch := omega) only [go_sem, hE, hH, hY]) | ((first | apply noMLL_sE | apply pk_sE) <;> (simp only [go_sem, hE, hH, hY]; done)) | (simp only [go_sem, hE, hH, hY]) | fail)
 | true =>
  rw [hY] at cIT
  have ht := ht hY
  cases hH : hF s.Held r.Txn with
  | false =>
   rw [hH] at cFH
   have hD : decS s r = none := by rw [decS, hY, hH]; rfl
   rw [hD, appR]
   refine fi H148 fun E hE hH => ?_; simp only [go_sem] at hE hH; simp only [go_sem, hE, hH, C148]
   repeat' (first | ((with_reducible first | refine gd_t ?_ ?_ | refine gd_f ?_ ?_) <;> (intro h; have hb := h; (try simp only [nf] at h); simp (disch := omega) only [go_sem, hE, hH, hY, hb]; (try clear hb))) | ((with_reducible refine And.intro ?_ ?_); · omega) | ((first | refine ok_view ?_ | refine cvA (copyState_ok s hb) ?_ | refine cvA (cFH) ?_); simp (disch := omega) only [go_sem, hE, hH, hY]) | (with_reducible apply jn) | (with_reducible apply both) | (with_reducible refine And.intro ?_ ?_) | ((with_reducible apply fin_eq); (try (simp (disch := omega) only [go_sem, hE, hH, hY])); first | done | rfl) | (simp (disch := omega) only [go_sem, hE, hH, hY]) | ((first | apply noMLL_sE | apply pk_sE) <;> (simp only [go_sem, hE, hH, hY]; done)) | (simp only [go_sem, hE, hH, hY]) | fail)
   all_goals rfl
  | true =>
   rw [hH] at cFH
   obtain ⟨k1, k2⟩ := hF_at hi.hsrt hH
   have hld := hldOk_lists (hi.hok _ (nth_mem k1))
   have hI0 := goodCells_I hi.cells
   have cD := delHeld_ok s.Held (hI s.Held r.Txn) k1 (by omega)
   rw [show cutAt s.Held (hI s.Held r.Txn) = heldCut s r by rw [heldCut, hH]; rfl] at cD
   have hs := fun r => getD_set_map (f := Held.row true) (r := r) k1
   have hset := set_same (f := Held.row true) k1
   simp only [Held.row_eq] at hset
   by_cases hT : r.Time < (nth s.Held (hI s.Held r.Txn)).Time
   ·have hD : decS s r = none := by rw [decS, hY, hH, decide_eq_true hT]; rfl
    rw [hD, appR]
    have hT2 := decide_eq_true hT
    refine fi H148 fun E hE hH => ?_; simp only [go_sem] at hE hH; simp only [go_sem, hE, hH, C148]
    repeat' (first | ((with_reducible first | refine gd_t ?_ ?_ | refine gd_f ?_ ?_) <;> (intro h; have hb := h; (try simp only [nf] at h); simp (disch := omega) only [go_sem, hE, hH, hY, hT2, hb]; (try clear hb))) | ((with_reducible refine And.intro ?_ ?_); · omega) | ((first | refine ok_view ?_ | refine cvA (copyState_ok s hb) ?_ | refine cvA (cFH) ?_); simp (disch := omega) only [go_sem, hE, hH, hY, hT2]) | (with_reducible apply jn) | (with_reducible apply both) | (with_reducible refine And.intro ?_ ?_) | ((with_reducible apply fin_eq); (try (simp (disch := omega) only [go_sem, hE, hH, hY, hT2])); first | done | rfl) | (simp (disch := omega) only [go_sem, hE, hH, hY, hT2]) | ((first | apply noMLL_sE | apply pk_sE) <;> (simp only [go_sem, hE, hH, hY, hT2]; done)) | (simp only [go_sem, hE, hH, hY, hT2]) | fail)
    all_goals first | rfl | trace_state
   have hT2 := decide_eq_false hT
   have cP := putCells_ok s.Cells (nth s.Held (hI s.Held r.Txn)).Writes r.Time hI0 (fun x hx => goodWrites_sizes hld.2.2.1 hx) (by omega) ht
   cases hP : putC r.Time s.Cells (nth s.Held (hI s.Held r.Txn)).Writes with
   | none =>
    rw [hP, putR] at cP
    have hD : decS s r = none := by rw [decS, hY, hH, decide_eq_false hT, hP]; rfl
    rw [hD, appR]
    refine fi H148 fun E hE hH => ?_; simp only [go_sem] at hE hH; simp only [go_sem, hE, hH, C148]
    repeat' (first | ((with_reducible first | refine gd_t ?_ ?_ | refine gd_f ?_ ?_) <;> (intro h; have hb := h; (try simp only [nf] at h); simp (disch := omega) only [go_sem, hE, hH, hY, hT2, hs, hset, hb]; (try clear hb))) | ((with_reducible refine And.intro ?_ ?_); · omega) | ((first | refine ok_view ?_ | refine cvA (copyState_ok s hb) ?_ | refine cvA (cFH) ?_ | refine cvA (cP) ?_); simp (disch := omega) only [go_sem, hE, hH, hY, hT2, hs, hset]) | (with_reducible apply jn) | (with_reducible apply both) | (with_reducible refine And.intro ?_ ?_) | ((with_reducible apply fin_eq); (try (simp (disch := omega) only [go_sem, hE, hH, hY, hT2, hs, hset])); first | done | rfl) | (simp (disch := omega) only [go_sem, hE, hH, hY, hT2, hs, hset]) | ((first | apply noMLL_sE | apply pk_sE) <;> (simp only [go_sem, hE, hH, hY, hT2, hs, hset]; done)) | (simp only [go_sem, hE, hH, hY, hT2, hs, hset]) | fail)
    all_goals try (apply lt_sE <;> simp only [go_sem]; done)
    all_goals first | rfl | trace_state
   | some c =>
    rw [hP, putR] at cP
    have hD : decS s r = some ⟨max s.Floor r.Time, c, heldCut s r, toldAdd s r⟩ := by rw [decS, hY, hH, decide_eq_false hT, hP]; rfl
    rw [hD, appR]
    have hmax : (if r.Time > s.Floor then r.Time else s.Floor) = max s.Floor r.Time := by
     rw [Int.max_def]; split <;> split <;> omega
    have cFT := findTold_ok ⟨max s.Floor r.Time, c, heldCut s r, s.Told⟩ r.Txn (by simp only; omega) hi.tsrt
    refine fi H148 fun E hE hH => ?_; simp only [go_sem] at hE hH; simp only [go_sem, hE, hH, C148]
    repeat' (first | ((with_reducible first | refine gd_t ?_ ?_ | refine gd_f ?_ ?_) <;> (intro h; have hb := h; (try simp only [nf] at h); simp (disch := omega) only [go_sem, hE, hH, hY, hT2, hs, hset, hmax, hb]; (try clear hb))) | ((with_reducible refine And.intro ?_ ?_); · omega) | (refine ok_lend [true, false, false] ?_; simp (disch := omega) only [go_sem, hE, hH, hY, hT2, hs, hset, hmax]; refine cmA (cD) ?_; simp (disch := omega) only [go_sem, hE, hH, hY, hT2, hs, hset, hmax]) | (refine ok_lend [true, false, false] ?_; simp (disch := omega) only [go_sem, hE, hH, hY, hT2, hs, hset, hmax]; refine cmA (cIT) ?_; simp (disch := omega) only [go_sem, hE, hH, hY, hT2, hs, hset, hmax]) | ((first | refine ok_view ?_ | refine cvA (copyState_ok s hb) ?_ | refine cvA (cFH) ?_ | refine cvA (cP) ?_ | refine cvA (cFT) ?_); simp (disch := omega) only [go_sem, hE, hH, hY, hT2, hs, hset, hmax]) | (with_reducible apply jn) | (with_reducible apply both) | (with_reducible refine And.intro ?_ ?_) | ((with_reducible apply fin_eq); (try (simp (disch := omega) only [go_sem, hE, hH, hY, hT2, hs, hset, hmax])); first | done | rfl) | (simp (disch := omega) only [go_sem, hE, hH, hY, hT2, hs, hset, hmax]) | ((first | apply noMLL_sE | apply pk_sE) <;> (simp only [go_sem, hE, hH, hY, hT2, hs, hset, hmax]; done)) | (simp only [go_sem, hE, hH, hY, hT2, hs, hset, hmax]) | fail)
    all_goals try (apply lt_sE <;> simp only [go_sem]; done)
    all_goals first | rfl | trace_state
set_option maxHeartbeats 2000000 in
theorem applied_ok (hS : SortNe) {n : Nat} (s : State) (r : Rec) (hi : stI n s) (hn : n ≤ 100) (hr : recOk r = true) : ACall Tryz.prog 82 [.agg (State.row false s), .agg (Rec.row false r)] (fun x _ => x = appR (appS s r)) := by
 have hmx := mx_eq
 have hb := hi.b (by omega)
 have hHl := hi.hlen
 have hTl := hi.tlen
 have cFH := findHeld_ok s r.Txn (by omega) hi.hsrt
 have cFT := findTold_ok s r.Txn (by omega) hi.tsrt
 have hIl : hI s.Held r.Txn ≤ s.Held.length := fxI_le
 by_cases h4 : r.Kind = 4
 ·have z1 : decide (r.Kind = 4) = true := decide_eq_true h4
  by_cases hT : r.Time ≤ s.Floor
  ·have z2 := decide_eq_true hT
   have hD : appS s r = none := by rw [appS, if_pos h4, if_pos hT]
   rw [hD, appR]
   refine fi H82 fun E hE hH => ?_; simp only [go_sem] at hE hH; simp only [go_sem, hE, hH, C82]
   try simp (disch := omega) only [go_sem, hE, hH, z1, z2]
   repeat' (first | ((with_reducible first | refine gd_t ?_ ?_ | refine gd_f ?_ ?_) <;> (intro h; have hb := h; (try simp only [nf] at h); simp (disch := omega) only [go_sem, hE, hH, z1, z2, hb]; (try clear hb))) | ((with_reducible refine And.intro ?_ ?_); · omega) | (with_reducible apply jn) | (with_reducible apply both) | (with_reducible refine And.intro ?_ ?_) | ((with_reducible apply fin_eq); (try (simp (disch := omega) only [go_sem, hE, hH, z1, z2])); first | done | rfl) | (simp (disch := omega) only [go_sem, hE, hH, z1, z2]) | ((first | apply noMLL_sE | apply pk_sE) <;> (simp only [go_sem, hE, hH, z1, z2]; done)) | (simp only [go_sem, hE, hH, z1, z2]) | fail)
   all_goals first | rfl | trace_state
  ·have z2 := decide_eq_false hT
   have hD : appS s r = some ⟨r.Time, s.Cells, s.Held, s.Told⟩ := by rw [appS, if_pos h4, if_neg hT]
   rw [hD, appR]
   refine fi H82 fun E hE hH => ?_; simp only [go_sem] at hE hH; simp only [go_sem, hE, hH, C82]
   try simp (disch := omega) only [go_sem, hE, hH, z1, z2]
   repeat' (first | ((with_reducible first | refine gd_t ?_ ?_ | refine gd_f ?_ ?_) <;> (intro h; have hb := h; (try simp only [nf] at h); simp (disch := omega) only [go_sem, hE, hH, z1, z2, hb]; (try clear hb))) | ((with_reducible refine And.intro ?_ ?_); · omega) | ((first | refine ok_view ?_ | refine cvA (copyState_ok s hb) ?_); simp (disch := omega) only [go_sem, hE, hH, z1, z2]) | (with_reducible apply jn) | (with_reducible apply both) | (with_reducible refine And.intro ?_ ?_) | ((with_reducible apply fin_eq); (try (simp (disch := omega) only [go_sem, hE, hH, z1, z2])); first | done | rfl) | (simp (disch := omega) only [go_sem, hE, hH, z1, z2]) | ((first | apply noMLL_sE | apply pk_sE) <;> (simp only [go_sem, hE, hH, z1, z2]; done)) | (simp only [go_sem, hE, hH, z1, z2]) | fail)
   all_goals first | rfl | trace_state
 have z1 : decide (r.Kind = 4) = false := decide_eq_false h4
 cases hTF : tF s.Told r.Txn with
 | true =>
  rw [hTF] at cFT
  have hD : appS s r = none := by rw [appS, if_neg h4, hTF]; rfl
  rw [hD, appR]
  refine fi H82 fun E hE hH => ?_; simp only [go_sem] at hE hH; simp only [go_sem, hE, hH, C82]
  try simp (disch := omega) only [go_sem, hE, hH, z1]
  repeat' (first | ((with_reducible first | refine gd_t ?_ ?_ | refine gd_f ?_ ?_) <;> (intro h; have hb := h; (try simp only [nf] at h); simp (disch := omega) only [go_sem, hE, hH, z1, hb]; (try clear hb))) | ((with_reducible refine And.intro ?_ ?_); · omega) | ((first | refine ok_view ?_ | refine cvA (cFT) ?_); simp (disch := omega) only [go_sem, hE, hH, z1]) | (with_reducible apply jn) | (with_reducible apply both) | (with_reducible refine And.intro ?_ ?_) | ((with_reducible apply fin_eq); (try (simp (disch := omega) only [go_sem, hE, hH, z1])); first | done | rfl) | (simp (disch := omega) only [go_sem, hE, hH, z1]) | ((first | apply noMLL_sE | apply pk_sE) <;> (simp only [go_sem, hE, hH, z1]; done)) | (simp only [go_sem, hE, hH, z1]) | fail)
  all_goals first | rfl | trace_state
 | false =>
  rw [hTF] at cFT
  by_cases h1 : r.Kind = 1
  ·have z2 : decide (r.Kind = 1) = true := decide_eq_true h1
   have hld := hldOk_lists (recOk_kind hr h1)
   have hld1 : r.Reads.length ≤ 8 := hld.1
   have hld2 : r.Writes.length ≤ 8 := hld.2.1
   have cF := fits_ok hS s r.Reads r.Writes hi (by omega) (by omega) (goodWrites_srt hld.2.2.1)
   cases hHF : hF s.Held r.Txn with
   | true =>
    rw [hHF] at cFH
    have hD : appS s r = none := by rw [appS, if_neg h4, hTF, if_neg (by simp), if_neg (by simp [h1]), hHF]; rfl
    rw [hD, appR]
    refine fi H82 fun E hE hH => ?_; simp only [go_sem] at hE hH; simp only [go_sem, hE, hH, C82]
    try simp (disch := omega) only [go_sem, hE, hH, z1, z2]
    repeat' (first | ((with_reducible first | refine gd_t ?_ ?_ | refine gd_f ?_ ?_) <;> (intro h; have hb := h; (try simp only [nf] at h); simp (disch := omega) only [go_sem, hE, hH, z1, z2, hb]; (try clear hb))) | ((with_reducible refine And.intro ?_ ?_); · omega) | ((first | refine ok_view ?_ | refine cvA (cFT) ?_ | refine cvA (cFH) ?_); simp (disch := omega) only [go_sem, hE, hH, z1, z2]) | (with_reducible apply jn) | (with_reducible apply both) | (with_reducible refine And.intro ?_ ?_) | ((with_reducible apply fin_eq); (try (simp (disch := omega) only [go_sem, hE, hH, z1, z2])); first | done | rfl) | (simp (disch := omega) only [go_sem, hE, hH, z1, z2]) | ((first | apply noMLL_sE | apply pk_sE) <;> (simp only [go_sem, hE, hH, z1, z2]; done)) | (simp only [go_sem, hE, hH, z1, z2]) | fail)
    all_goals first | rfl | trace_state
   | false =>
    rw [hHF] at cFH
    by_cases hT : r.Time ≤ s.Floor
    ·have z3 := decide_eq_true hT
     have hD : appS s r = none := by rw [appS, if_neg h4, hTF, if_neg (by simp), if_neg (by simp [h1]), hHF, z3]; rfl
     rw [hD, appR]
     refine fi H82 fun E hE hH => ?_; simp only [go_sem] at hE hH; simp only [go_sem, hE, hH, C82]
     try simp (disch := omega) only [go_sem, hE, hH, z1, z2, z3]
     repeat' (first | ((with_reducible first | refine gd_t ?_ ?_ | refine gd_f ?_ ?_) <;> (intro h; have hb := h; (try simp only [nf] at h); simp (disch := omega) only [go_sem, hE, hH, z1, z2, z3, hb]; (try clear hb))) | ((with_reducible refine And.intro ?_ ?_); · omega) | ((first | refine ok_view ?_ | refine cvA (cFT) ?_ | refine cvA (cFH) ?_); simp (disch := omega) only [go_sem, hE, hH, z1, z2, z3]) | (with_reducible apply jn) | (with_reducible apply both) | (with_reducible refine And.intro ?_ ?_) | ((with_reducible apply fin_eq); (try (simp (disch := omega) only [go_sem, hE, hH, z1, z2, z3])); first | done | rfl) | (simp (disch := omega) only [go_sem, hE, hH, z1, z2, z3]) | ((first | apply noMLL_sE | apply pk_sE) <;> (simp only [go_sem, hE, hH, z1, z2, z3]; done)) | (simp only [go_sem, hE, hH, z1, z2, z3]) | fail)
     all_goals first | rfl | trace_state
    have z3 := decide_eq_false hT
    cases hFt : fitsS s r.Reads r.Writes with
    | false =>
     rw [hFt] at cF
     have hD : appS s r = none := by rw [appS, if_neg h4, hTF, if_neg (by simp), if_neg (by simp [h1]), hHF, z3, hFt]; rfl
     rw [hD, appR]
     refine fi H82 fun E hE hH => ?_; simp only [go_sem] at hE hH; simp only [go_sem, hE, hH, C82]
     try simp (disch := omega) only [go_sem, hE, hH, z1, z2, z3]
     repeat' (first | ((with_reducible first | refine gd_t ?_ ?_ | refine gd_f ?_ ?_) <;> (intro h; have hb := h; (try simp only [nf] at h); simp (disch := omega) only [go_sem, hE, hH, z1, z2, z3, hb]; (try clear hb))) | ((with_reducible refine And.intro ?_ ?_); · omega) | ((first | refine ok_view ?_ | refine cvA (cFT) ?_ | refine cvA (cFH) ?_ | refine cvA (cF) ?_); simp (disch := omega) only [go_sem, hE, hH, z1, z2, z3]) | (with_reducible apply jn) | (with_reducible apply both) | (with_reducible refine And.intro ?_ ?_) | ((with_reducible apply fin_eq); (try (simp (disch := omega) only [go_sem, hE, hH, z1, z2, z3])); first | done | rfl) | (simp (disch := omega) only [go_sem, hE, hH, z1, z2, z3]) | ((first | apply noMLL_sE | apply pk_sE) <;> (simp only [go_sem, hE, hH, z1, z2, z3]; done)) | (simp only [go_sem, hE, hH, z1, z2, z3]) | fail)
     all_goals first | rfl | trace_state
    | true =>
     rw [hFt] at cF
     have hD : appS s r = some ⟨r.Time, s.Cells, putAt s.Held (hI s.Held r.Txn) (hOf r), s.Told⟩ := by rw [appS, if_neg h4, hTF, if_neg (by simp), if_neg (by simp [h1]), hHF, z3, hFt]; rfl
     rw [hD, appR]
     have cI := Insert_Held_ok s.Held (hOf r) (hI s.Held r.Txn) (by omega) (by omega) (by omega)
     refine fi H82 fun E hE hH => ?_; simp only [go_sem] at hE hH; simp only [go_sem, hE, hH, C82]
     try simp (disch := omega) only [go_sem, hE, hH, z1, z2, z3]
     repeat' (first | ((with_reducible first | refine gd_t ?_ ?_ | refine gd_f ?_ ?_) <;> (intro h; have hb := h; (try simp only [nf] at h); simp (disch := omega) only [go_sem, hE, hH, z1, z2, z3, hb]; (try clear hb))) | ((with_reducible refine And.intro ?_ ?_); · omega) | (refine ok_pack [(76, 1, [(3, 1), (4, 3)])] ?_; simp (disch := omega) only [go_sem, hE, hH, z1, z2, z3]; refine ok_lend [true, false, true] ?_; simp (disch := omega) only [go_sem, hE, hH, z1, z2, z3]; refine cmA (cI) ?_; simp (disch := omega) only [go_sem, hE, hH, z1, z2, z3]) | ((first | refine ok_view ?_ | refine cvA (cFT) ?_ | refine cvA (cFH) ?_ | refine cvA (cF) ?_ | refine cvA (copyState_ok s hb) ?_ | refine cvA (heldOf_ok r (by omega) (by omega)) ?_); simp (disch := omega) only [go_sem, hE, hH, z1, z2, z3]) | (with_reducible apply jn) | (with_reducible apply both) | (with_reducible refine And.intro ?_ ?_) | ((with_reducible apply fin_eq); (try (simp (disch := omega) only [go_sem, hE, hH, z1, z2, z3])); first | done | rfl) | (simp (disch := omega) only [go_sem, hE, hH, z1, z2, z3]) | ((first | apply noMLL_sE | apply pk_sE) <;> (simp only [go_sem, hE, hH, z1, z2, z3]; done)) | (simp only [go_sem, hE, hH, z1, z2, z3]) | fail)
     all_goals first | rfl | trace_state
  ·have z2 : decide (r.Kind = 1) = false := decide_eq_false h1
   have hD : appS s r = decS s r := by rw [appS, if_neg h4, hTF, if_neg (by simp), if_pos h1]
   rw [hD]
   have hY : r.Yes = true → 1 ≤ r.Time := fun hY => by
    simp only [recOk, h1, h4, if_false, hY] at hr
    split at hr
    ·simp only [Bool.and_eq_true, Bool.or_eq_true, rng_iff, Bool.not_true, Bool.false_and, Bool.true_and, Bool.false_eq_true, or_false] at hr
     omega
    ·cases hr
   have cDec := decided_ok s r hi hn hY
   cases hdec : decS s r with
   | none =>
    rw [hdec, appR] at cDec
    rw [appR]
    refine fi H82 fun E hE hH => ?_; simp only [go_sem] at hE hH; simp only [go_sem, hE, hH, C82]
    try simp (disch := omega) only [go_sem, hE, hH, z1, z2]
    repeat' (first | ((with_reducible first | refine gd_t ?_ ?_ | refine gd_f ?_ ?_) <;> (intro h; have hb := h; (try simp only [nf] at h); simp (disch := omega) only [go_sem, hE, hH, z1, z2, hb]; (try clear hb))) | ((with_reducible refine And.intro ?_ ?_); · omega) | ((first | refine ok_view ?_ | refine cvA (cFT) ?_ | refine cvA (cDec) ?_); simp (disch := omega) only [go_sem, hE, hH, z1, z2]) | (with_reducible apply jn) | (with_reducible apply both) | (with_reducible refine And.intro ?_ ?_) | ((with_reducible apply fin_eq); (try (simp (disch := omega) only [go_sem, hE, hH, z1, z2])); first | done | rfl) | (simp (disch := omega) only [go_sem, hE, hH, z1, z2]) | ((first | apply noMLL_sE | apply pk_sE) <;> (simp only [go_sem, hE, hH, z1, z2]; done)) | (simp only [go_sem, hE, hH, z1, z2]) | fail)
    all_goals first | rfl | trace_state
   | some q =>
    rw [hdec, appR] at cDec
    rw [appR]
    refine fi H82 fun E hE hH => ?_; simp only [go_sem] at hE hH; simp only [go_sem, hE, hH, C82]
    try simp (disch := omega) only [go_sem, hE, hH, z1, z2]
    repeat' (first | ((with_reducible first | refine gd_t ?_ ?_ | refine gd_f ?_ ?_) <;> (intro h; have hb := h; (try simp only [nf] at h); simp (disch := omega) only [go_sem, hE, hH, z1, z2, hb]; (try clear hb))) | ((with_reducible refine And.intro ?_ ?_); · omega) | ((first | refine ok_view ?_ | refine cvA (cFT) ?_ | refine cvA (cDec) ?_); simp (disch := omega) only [go_sem, hE, hH, z1, z2]) | (with_reducible apply jn) | (with_reducible apply both) | (with_reducible refine And.intro ?_ ?_) | ((with_reducible apply fin_eq); (try (simp (disch := omega) only [go_sem, hE, hH, z1, z2])); first | done | rfl) | (simp (disch := omega) only [go_sem, hE, hH, z1, z2]) | ((first | apply noMLL_sE | apply pk_sE) <;> (simp only [go_sem, hE, hH, z1, z2]; done)) | (simp only [go_sem, hE, hH, z1, z2]) | fail)
    all_goals first | rfl | trace_state
def tPl (l : List Told) (t : Int) : Nat := dnI (fun y : Told => ltI t y.Txn) l l.length
def hPl (l : List Held) (t : Int) : Nat := dnI (fun y : Held => ltI t y.Txn) l l.length
theorem tPl_eq {l : List Told} (hs : srtX ltI Told.Txn l) {x : Told} (h : tF l x.Txn = false) : tPl l x.Txn = tI l x.Txn := dnI_eq (f := Told.Txn) cmpJ_ord hs h
theorem hPl_eq {l : List Held} (hs : srtX ltI Held.Txn l) {x : Held} (h : hF l x.Txn = false) : hPl l x.Txn = hI l x.Txn := dnI_eq (f := Held.Txn) cmpJ_ord hs h
set_option maxHeartbeats 1000000 in
theorem l13PutTold_ok (l : List Told) (t : Told) (hl : l.length ≤ 2 ^ 20) : ACall Tryz.prog 137 [.sl false 3 (l.map (Told.row false)), .agg (Told.row false t)] (fun r _ => r = .sl true 3 ((putAt l (tPl l t.Txn) t).map (Told.row true))) := by
 have hmx := mx_eq
 refine fi H137 fun E hE hH => ?_; simp only [go_sem] at hE hH; simp only [go_sem, hE, hH, C137]
 try simp (disch := omega) only [go_sem, hE, hH]
 refine loopM (fun (k : Nat) => ⟨[(0, .sl false 3 (l.map (Told.row false))), (3, .ptr 4000000 0 0), (5, i64 k)], [(4000000, ⟨3, [Told.row false t]⟩)]⟩) (fun k => k ≤ l.length ∧ ∀ i, k ≤ i → i < l.length → ltI t.Txn (nth l i).Txn = true) (fun k => k) l.length ⟨Nat.le_refl _, fun i a b => absurd b (by omega)⟩ ?_
 rintro k ⟨hk, hK⟩
 have e1 : ((k : Int) - 1).toNat = k - 1 := by omega
 by_cases hgo : k ≠ 0 ∧ ltI t.Txn (nth l (k - 1)).Txn = true
 ·obtain ⟨hk0, hq⟩ := hgo
  have e2 : decide ((0 : Int) < (k : Int)) = true := decide_eq_true (by omega)
  have e3 : decide (t.Txn < (nth l (k - 1)).Txn) = true := hq
  try simp only [go_sem, hE, hH, e1, e2, e3, C137_l1]
  repeat' (first | ((with_reducible first | refine gd_t ?_ ?_ | refine gd_f ?_ ?_) <;> (intro h; have hb := h; (try simp only [nf] at h); simp (disch := omega) only [go_sem, hE, hH, e1, e2, e3, hb]; (try clear hb))) | ((with_reducible refine And.intro ?_ ?_); · omega) | (with_reducible apply jn) | (with_reducible apply both) | (with_reducible refine And.intro ?_ ?_) | ((with_reducible apply fin_eq); (try (simp (disch := omega) only [go_sem, hE, hH, e1, e2, e3])); first | done | rfl) | (simp (disch := omega) only [go_sem, hE, hH, e1, e2, e3]) | ((first | apply noMLL_sE | apply pk_sE) <;> (simp only [go_sem, hE, hH, e1, e2, e3]; done)) | (simp only [go_sem, hE, hH, e1, e2, e3]) | fail)
  all_goals first | omega | (refine ⟨k - 1, ?_, ⟨by omega, fun i a b => ?_⟩, by omega⟩)
  ·rw [show ((k - 1 : Nat) : Int) = (k : Int) - 1 by omega]
  ·by_cases e : i = k - 1
   ·rw [e]; exact hq
   ·exact hK i (by omega) b
 have hd : tPl l t.Txn = k := dnI_at hk hK (by
  by_cases e : k = 0
  ·exact .inl e
  ·right
   cases q : ltI t.Txn (nth l (k - 1)).Txn with
   | false => rfl
   | true => exact absurd ⟨e, q⟩ hgo)
 rw [hd]
 have d1 : (l.drop k).take (l.length - k) = l.drop k := List.take_of_length_le (by simp)
 have lt1 : (l.take k).length = k := by rw [List.length_take]; omega
 have d2 : (l.take k).take k = l.take k := by rw [List.take_take, Nat.min_self]
 have d3 : ∀ (f : Told → List T) q, ((l.take k).map f ++ [q]).take (k + 1) = (l.take k).map f ++ [q] := fun f q => List.take_of_length_le (by simp; omega)
 have hdx : (l.drop k).length = l.length - k := by simp
 by_cases hk0 : k = 0
 ·subst hk0
  have fC : decide ((0 : Int) < ((0 : Nat) : Int)) = false := rfl
  have fD : decide ((0 : Int) < (0 : Int)) = false := rfl
  try simp only [go_sem, hE, hH, fC, fD, d1, d2, d3, hdx, C137_l1]
  repeat' (first | ((with_reducible first | refine gd_t ?_ ?_ | refine gd_f ?_ ?_) <;> (intro h; have hb := h; (try simp only [nf] at h); simp (disch := omega) only [go_sem, hE, hH, fC, fD, d1, d2, d3, hdx, hb]; (try clear hb))) | ((with_reducible refine And.intro ?_ ?_); · omega) | (with_reducible apply jn) | (with_reducible apply both) | (with_reducible refine And.intro ?_ ?_) | ((with_reducible apply fin_eq); (try (simp (disch := omega) only [go_sem, hE, hH, fC, fD, d1, d2, d3, hdx])); first | done | rfl) | (simp (disch := omega) only [go_sem, hE, hH, fC, fD, d1, d2, d3, hdx]) | ((first | apply noMLL_sE | apply pk_sE) <;> (simp only [go_sem, hE, hH, fC, fD, d1, d2, d3, hdx]; done)) | (simp only [go_sem, hE, hH, fC, fD, d1, d2, d3, hdx]) | fail)
  all_goals first | omega | (simp only [putAt, List.map_append, List.map_cons, List.take_zero, List.drop_zero, List.nil_append, List.append_assoc, List.cons_append]; rfl) | trace_state
 ·have fC : decide ((0 : Int) < (k : Int)) = true := decide_eq_true (by omega)
  have fE : decide (t.Txn < (nth l (k - 1)).Txn) = false := by
   cases q : ltI t.Txn (nth l (k - 1)).Txn with
   | false => exact q
   | true => exact absurd ⟨hk0, q⟩ hgo
  try simp only [go_sem, hE, hH, e1, fC, fE, d1, d2, d3, hdx, lt1, C137_l1]
  repeat' (first | ((with_reducible first | refine gd_t ?_ ?_ | refine gd_f ?_ ?_) <;> (intro h; have hb := h; (try simp only [nf] at h); simp (disch := omega) only [go_sem, hE, hH, e1, fC, fE, d1, d2, d3, hdx, lt1, hb]; (try clear hb))) | ((with_reducible refine And.intro ?_ ?_); · omega) | (with_reducible apply jn) | (with_reducible apply both) | (with_reducible refine And.intro ?_ ?_) | ((with_reducible apply fin_eq); (try (simp (disch := omega) only [go_sem, hE, hH, e1, fC, fE, d1, d2, d3, hdx, lt1])); first | done | rfl) | (simp (disch := omega) only [go_sem, hE, hH, e1, fC, fE, d1, d2, d3, hdx, lt1]) | ((first | apply noMLL_sE | apply pk_sE) <;> (simp only [go_sem, hE, hH, e1, fC, fE, d1, d2, d3, hdx, lt1]; done)) | (simp only [go_sem, hE, hH, e1, fC, fE, d1, d2, d3, hdx, lt1]) | fail)
  all_goals first | omega | (simp only [putAt, List.map_append, List.map_cons, List.take_zero, List.drop_zero, List.nil_append, List.append_assoc, List.cons_append]; rfl) | trace_state
set_option maxHeartbeats 1000000 in
theorem l13PutHeld_ok (l : List Held) (t : Held) (hl : l.length ≤ 2 ^ 20) : ACall Tryz.prog 131 [.sl false 5 (l.map (Held.row false)), .agg (Held.row false t)] (fun r _ => r = .sl true 5 ((putAt l (hPl l t.Txn) t).map (Held.row false))) := by
 have hmx := mx_eq
 refine fi H131 fun E hE hH => ?_; simp only [go_sem] at hE hH; simp only [go_sem, hE, hH, C131]
 try simp (disch := omega) only [go_sem, hE, hH]
 refine loopM (fun (k : Nat) => ⟨[(0, .sl false 5 (l.map (Held.row false))), (3, .ptr 4000000 0 0), (5, i64 k)], [(4000000, ⟨5, [Held.row false t]⟩)]⟩) (fun k => k ≤ l.length ∧ ∀ i, k ≤ i → i < l.length → ltI t.Txn (nth l i).Txn = true) (fun k => k) l.length ⟨Nat.le_refl _, fun i a b => absurd b (by omega)⟩ ?_
 rintro k ⟨hk, hK⟩
 have e1 : ((k : Int) - 1).toNat = k - 1 := by omega
 by_cases hgo : k ≠ 0 ∧ ltI t.Txn (nth l (k - 1)).Txn = true
 ·obtain ⟨hk0, hq⟩ := hgo
  have e2 : decide ((0 : Int) < (k : Int)) = true := decide_eq_true (by omega)
  have e3 : decide (t.Txn < (nth l (k - 1)).Txn) = true := hq
  try simp only [go_sem, hE, hH, e1, e2, e3, C131_l1]
  repeat' (first | ((with_reducible first | refine gd_t ?_ ?_ | refine gd_f ?_ ?_) <;> (intro h; have hb := h; (try simp only [nf] at h); simp (disch := omega) only [go_sem, hE, hH, e1, e2, e3, hb]; (try clear hb))) | ((with_reducible refine And.intro ?_ ?_); · omega) | (with_reducible apply jn) | (with_reducible apply both) | (with_reducible refine And.intro ?_ ?_) | ((with_reducible apply fin_eq); (try (simp (disch := omega) only [go_sem, hE, hH, e1, e2, e3])); first | done | rfl) | (simp (disch := omega) only [go_sem, hE, hH, e1, e2, e3]) | ((first | apply noMLL_sE | apply pk_sE) <;> (simp only [go_sem, hE, hH, e1, e2, e3]; done)) | (simp only [go_sem, hE, hH, e1, e2, e3]) | fail)
  all_goals first | omega | (refine ⟨k - 1, ?_, ⟨by omega, fun i a b => ?_⟩, by omega⟩)
  ·rw [show ((k - 1 : Nat) : Int) = (k : Int) - 1 by omega]
  ·by_cases e : i = k - 1
   ·rw [e]; exact hq
   ·exact hK i (by omega) b
 have hd : hPl l t.Txn = k := dnI_at hk hK (by
  by_cases e : k = 0
  ·exact .inl e
  ·right
   cases q : ltI t.Txn (nth l (k - 1)).Txn with
   | false => rfl
   | true => exact absurd ⟨e, q⟩ hgo)
 rw [hd]
 have d1 : (l.drop k).take (l.length - k) = l.drop k := List.take_of_length_le (by simp)
 have lt1 : (l.take k).length = k := by rw [List.length_take]; omega
 have d2 : (l.take k).take k = l.take k := by rw [List.take_take, Nat.min_self]
 have d3 : ∀ (f : Held → List T) q, ((l.take k).map f ++ [q]).take (k + 1) = (l.take k).map f ++ [q] := fun f q => List.take_of_length_le (by simp; omega)
 have hdx : (l.drop k).length = l.length - k := by simp
 by_cases hk0 : k = 0
 ·subst hk0
  have fC : decide ((0 : Int) < ((0 : Nat) : Int)) = false := rfl
  have fD : decide ((0 : Int) < (0 : Int)) = false := rfl
  try simp only [go_sem, hE, hH, fC, fD, d1, d2, d3, hdx, C131_l1]
  repeat' (first | ((with_reducible first | refine gd_t ?_ ?_ | refine gd_f ?_ ?_) <;> (intro h; have hb := h; (try simp only [nf] at h); simp (disch := omega) only [go_sem, hE, hH, fC, fD, d1, d2, d3, hdx, hb]; (try clear hb))) | ((with_reducible refine And.intro ?_ ?_); · omega) | (with_reducible apply jn) | (with_reducible apply both) | (with_reducible refine And.intro ?_ ?_) | ((with_reducible apply fin_eq); (try (simp (disch := omega) only [go_sem, hE, hH, fC, fD, d1, d2, d3, hdx])); first | done | rfl) | (simp (disch := omega) only [go_sem, hE, hH, fC, fD, d1, d2, d3, hdx]) | ((first | apply noMLL_sE | apply pk_sE) <;> (simp only [go_sem, hE, hH, fC, fD, d1, d2, d3, hdx]; done)) | (simp only [go_sem, hE, hH, fC, fD, d1, d2, d3, hdx]) | fail)
  all_goals first | omega | (simp only [putAt, List.map_append, List.map_cons, List.take_zero, List.drop_zero, List.nil_append, List.append_assoc, List.cons_append]; rfl) | trace_state
 ·have fC : decide ((0 : Int) < (k : Int)) = true := decide_eq_true (by omega)
  have fE : decide (t.Txn < (nth l (k - 1)).Txn) = false := by
   cases q : ltI t.Txn (nth l (k - 1)).Txn with
   | false => exact q
   | true => exact absurd ⟨hk0, q⟩ hgo
  have g3 : ∀ (f : Held → List T) q, ((l.take k).map f ++ [q] ++ (l.drop k).map f).getD k [] = q := fun f q => by
   have ea : ((l.take k).map f).length = k := by rw [List.length_map, lt1]
   rw [List.append_assoc, List.getD_eq_getElem?_getD, List.getElem?_append_right (by omega), ea, Nat.sub_self]; rfl
  try simp only [go_sem, hE, hH, e1, fC, fE, d1, d2, d3, hdx, lt1, g3, C131_l1]
  repeat' (first | ((with_reducible first | refine gd_t ?_ ?_ | refine gd_f ?_ ?_) <;> (intro h; have hb := h; (try simp only [nf] at h); simp (disch := omega) only [go_sem, hE, hH, e1, fC, fE, d1, d2, d3, hdx, lt1, g3, hb]; (try clear hb))) | ((with_reducible refine And.intro ?_ ?_); · omega) | (with_reducible apply jn) | (with_reducible apply both) | (with_reducible refine And.intro ?_ ?_) | ((with_reducible apply fin_eq); (try (simp (disch := omega) only [go_sem, hE, hH, e1, fC, fE, d1, d2, d3, hdx, lt1, g3])); first | done | rfl) | (simp (disch := omega) only [go_sem, hE, hH, e1, fC, fE, d1, d2, d3, hdx, lt1, g3]) | ((first | apply noMLL_sE | apply pk_sE) <;> (simp only [go_sem, hE, hH, e1, fC, fE, d1, d2, d3, hdx, lt1, g3]; done)) | (simp only [go_sem, hE, hH, e1, fC, fE, d1, d2, d3, hdx, lt1, g3]) | fail)
  all_goals first | omega | (simp only [putAt, List.map_append, List.map_cons, List.take_zero, List.drop_zero, List.nil_append, List.append_assoc, List.cons_append]; rfl) | trace_state
theorem l13Less_ok (l : List Held) (t : Int) (hl : l.length ≤ 2 ^ 20) : ACall Tryz.prog 136 [.sl false 5 (l.map (Held.row false)), i64 t] (fun r _ => r = .sl true 5 ((l.filter fun x => !decide (x.Txn = t)).map (Held.row false))) := by
 have hmx := mx_eq
 refine fi H136 fun E hE hH => ?_; simp only [go_sem] at hE hH; simp only [go_sem, hE, hH, C136]
 refine loopN l.length (fun j (x : List Held) => ⟨[(1, i64 t), (5, .ref 6000000 0 x.length), (8, .sl false 5 (l.map (Held.row false))), (9, i64 l.length), (10, i64 j)], [(6000000, ⟨5, x.map (Held.row false)⟩)]⟩) (fun j x => x = (l.take j).filter fun x => !decide (x.Txn = t)) [] rfl ?_
 intro j x hj hx
 have hxl : x.length ≤ j := by
  have h1 : x.length ≤ (l.take j).length := by rw [hx]; exact List.length_filter_le _ _
  rw [List.length_take] at h1; omega
 have hxt : x.take x.length = x := List.take_length
 try simp only [go_sem, hE, hH, C136_l1]
 first | refine gd_t (fun h => ?_) (fun h => ?_) | refine gd_f (fun h => ?_) (fun h => ?_)
 ·have hb := h
  simp only [nf] at h
  have hlt := h; clear h
  try simp (disch := omega) only [go_sem, hE, hH, hb]
  repeat' (first | ((with_reducible first | refine gd_t ?_ ?_ | refine gd_f ?_ ?_) <;> (intro h; have hb := h; (try simp only [nf] at h); refine sb ?_; (try clear hb))) | ((with_reducible refine And.intro ?_ ?_); · omega) | (with_reducible apply jn) | (with_reducible apply both) | (with_reducible refine And.intro ?_ ?_) | exact fj | refine st ?_ | exact fm | refine s1 ?_ | (with_reducible exact True.intro) | fail)
  all_goals try omega
  ·have e : (l.take (j + 1)).filter (fun x => !decide (x.Txn = t)) = x ++ [nth l j] := by
    rw [take_nth hlt, List.filter_append, ← hx]
    simp [h]
   rw [e, List.length_append, List.map_append]
   rfl
  ·have e : (l.take (j + 1)).filter (fun x => !decide (x.Txn = t)) = x := by
    rw [take_nth hlt, List.filter_append, ← hx]
    simp [h]
   rw [e]
   rfl
 ·try simp (disch := omega) only [go_sem, hE, hH, h]
  simp only [nf] at h
  rw [show j = l.length by omega, List.take_length] at hx
  subst hx
  rfl
theorem ACall.dshN {P : Program} {f : Nat} {args : List T} {α : Type} {X : α → T} {C : α → Prop} (h : ACall P f args (fun r _ => ∃ q, nilLe r.dsh (X q) ∧ C q)) : ACall P f args (fun r _ => ∃ q, r = X q ∧ C q) := by
 refine ACall.nil (h.dshR.mono ?_)
 rintro r l ⟨r0, ⟨q, h1, h2⟩, rfl⟩
 exact ⟨X q, h1, q, rfl, h2⟩
def sAppR (q : State) (b : Bool) : T := .tup [.agg (State.row false q), bl b]
theorem nilR_sApp {C : State → Prop} {r : T} {l : List T} {b : Bool} (q : State) (h : nilLe r.dsh (sAppR q b)) (hC : C q) : nilR (fun r _ => ∃ q, nilLe r.dsh (sAppR q b) ∧ C q) r l := nilR_of ⟨q, h, hC⟩
theorem nilR_sApp2 {C : State → Prop} {r : T} {l : List T} {b : Bool} (q : State) (b0 : Bool) (h : nilLe r.dsh (sAppR q b0)) (hb : b0 = b) (hC : C q) : nilR (fun r _ => ∃ q, nilLe r.dsh (sAppR q b) ∧ C q) r l := nilR_sApp q (hb ▸ h) hC
theorem heldCut_filter {n : Nat} {s : State} {r : Rec} (hi : stI n s) : heldCut s r = s.Held.filter fun x => !decide (x.Txn = r.Txn) := by
 unfold heldCut
 cases hH : hF s.Held r.Txn with
 | true =>
  obtain ⟨k1, k2⟩ := hF_at hi.hsrt hH
  rw [if_pos rfl, cutAt_filter (f := Held.Txn) cmpJ_ord hi.hsrt k1, k2]
 | false =>
  rw [if_neg (by simp)]
  symm
  rw [List.filter_eq_self]
  intro x hx
  rw [hF, fxF, List.any_eq_false] at hH
  simpa using hH x hx
set_option maxHeartbeats 4000000 in
theorem l13Apply_ok {n : Nat} (s : State) (r : Rec) (hi : stI n s) (hn : n ≤ 100) (hr : recOk r = true) : ACall Tryz.prog 75 [.agg (State.row false s), .agg (Rec.row false r)] (fun x _ => ∃ q, x = sAppR q (appS s r).isSome ∧ ∀ s', appS s r = some s' → q = s') := by
 have hmx := mx_eq
 have hb := hi.b (by omega)
 have hHl := hi.hlen
 have hTl := hi.tlen
 have cO := l13Own_ok s hb
 have cFH := l13HeldOf_ok s r.Txn (by omega) hi.hsrt
 have cFT := l13ToldOf_ok s r.Txn (by omega) hi.tsrt
 refine ACall.dshN (X := fun q => sAppR q (appS s r).isSome) ?_
 by_cases h4 : r.Kind = 4
 ·have z1 : decide (r.Kind = 4) = true := decide_eq_true h4
  have hD : appS s r = if r.Time ≤ s.Floor then none else some ⟨r.Time, s.Cells, s.Held, s.Told⟩ := by rw [appS, if_pos h4]
  refine fi H75 fun E hE hH => ?_; simp only [go_sem] at hE hH; simp only [go_sem, hE, hH, C75]
  try simp (disch := omega) only [go_sem, hE, hH, z1]
  repeat' (first | ((with_reducible first | refine gd_t ?_ ?_ | refine gd_f ?_ ?_) <;> (intro h; have hb := h; (try simp only [nf] at h); simp (disch := omega) only [go_sem, hE, hH, z1, hb]; (try clear hb))) | ((with_reducible refine And.intro ?_ ?_); · omega) | ((first | refine ok_view ?_ | refine cvA (cO) ?_ | refine cvA (cFH) ?_ | refine cvA (cFT) ?_); simp (disch := omega) only [go_sem, hE, hH, z1]) | (with_reducible apply jn) | (with_reducible apply both) | (with_reducible refine And.intro ?_ ?_) | ((with_reducible apply fin_eq); (try (simp (disch := omega) only [go_sem, hE, hH, z1])); first | done | rfl) | (simp (disch := omega) only [go_sem, hE, hH, z1]) | ((first | apply noMLL_sE | apply pk_sE) <;> (simp only [go_sem, hE, hH, z1]; done)) | (simp only [go_sem, hE, hH, z1]) | fail)
  by_cases hT : r.Time ≤ s.Floor
  ·rw [if_pos hT] at hD
   refine nilR_sApp ⟨r.Time, s.Cells, s.Held, s.Told⟩ ?_ (fun s' e => by rw [hD] at e; cases e)
   rw [hD, sAppR, decide_eq_false (by omega)]
   simp only [go_sem]
   (repeat' apply And.intro) <;> rfl
  ·rw [if_neg hT] at hD
   refine nilR_sApp ⟨r.Time, s.Cells, s.Held, s.Told⟩ ?_ (fun s' e => by rw [hD] at e; injection e)
   rw [hD, sAppR, decide_eq_true (by omega)]
   simp only [go_sem]
   (repeat' apply And.intro) <;> rfl
 have z1 : decide (r.Kind = 4) = false := decide_eq_false h4
 cases hTF : tF s.Told r.Txn with
 | true =>
  rw [hTF] at cFT
  have hD : appS s r = none := by rw [appS, if_neg h4, hTF]; rfl
  refine fi H75 fun E hE hH => ?_; simp only [go_sem] at hE hH; simp only [go_sem, hE, hH, C75]
  try simp (disch := omega) only [go_sem, hE, hH, z1]
  repeat' (first | ((with_reducible first | refine gd_t ?_ ?_ | refine gd_f ?_ ?_) <;> (intro h; have hb := h; (try simp only [nf] at h); simp (disch := omega) only [go_sem, hE, hH, z1, hb]; (try clear hb))) | ((with_reducible refine And.intro ?_ ?_); · omega) | ((first | refine ok_view ?_ | refine cvA (cO) ?_ | refine cvA (cFH) ?_ | refine cvA (cFT) ?_); simp (disch := omega) only [go_sem, hE, hH, z1]) | (with_reducible apply jn) | (with_reducible apply both) | (with_reducible refine And.intro ?_ ?_) | ((with_reducible apply fin_eq); (try (simp (disch := omega) only [go_sem, hE, hH, z1])); first | done | rfl) | (simp (disch := omega) only [go_sem, hE, hH, z1]) | ((first | apply noMLL_sE | apply pk_sE) <;> (simp only [go_sem, hE, hH, z1]; done)) | (simp only [go_sem, hE, hH, z1]) | fail)
  refine nilR_sApp s ?_ (fun s' e => by rw [hD] at e; cases e)
  rw [hD, sAppR]
  simp only [go_sem]
  (repeat' apply And.intro) <;> rfl
 | false =>
  rw [hTF] at cFT
  by_cases h1 : r.Kind = 1
  ·have z2 : decide (r.Kind = 1) = true := decide_eq_true h1
   have hld := hldOk_lists (recOk_kind hr h1)
   have hld1 : r.Reads.length ≤ 8 := hld.1
   have hld2 : r.Writes.length ≤ 8 := hld.2.1
   have cF := l13Fits_ok s r.Reads r.Writes hi (by omega) (by omega)
   have hA : appS s r = if (hF s.Held r.Txn || decide (r.Time ≤ s.Floor) || !fitsS s r.Reads r.Writes) = true then none else some ⟨r.Time, s.Cells, putAt s.Held (hI s.Held r.Txn) (hOf r), s.Told⟩ := by rw [appS, if_neg h4, hTF, if_neg (by simp), if_neg (by simp [h1])]
   have hQ : ∀ s', appS s r = some s' → (⟨r.Time, s.Cells, putAt s.Held (hPl s.Held r.Txn) (hOf r), s.Told⟩ : State) = s' := by
    intro s' e
    rw [hA] at e
    split at e
    ·cases e
    ·rename_i hcond
     injection e with e
     have hh : hF s.Held r.Txn = false := by
      cases q : hF s.Held r.Txn with
      | false => rfl
      | true => rw [q] at hcond; simp at hcond
     rw [← e, show hPl s.Held r.Txn = hI s.Held r.Txn from hPl_eq (x := hOf r) hi.hsrt hh]
   have cPH : ACall Tryz.prog 131 [.sl true 5 (s.Held.map (Held.row true)), .agg (Held.row true (hOf r))] (fun x l => x = .sl true 5 ((putAt s.Held (hPl s.Held r.Txn) (hOf r)).map (Held.row false)) ∧ l = [.any, .any]) := frz_eq (l13PutHeld_ok s.Held (hOf r) (by omega)) (by simp only [go_sem]; rfl) rfl
   refine fi H75 fun E hE hH => ?_; simp only [go_sem] at hE hH; simp only [go_sem, hE, hH, C75]
   try simp (disch := omega) only [go_sem, hE, hH, z1, z2]
   repeat' (first | ((with_reducible first | refine gd_t ?_ ?_ | refine gd_f ?_ ?_) <;> (intro h; have hb := h; (try simp only [nf] at h); simp (disch := omega) only [go_sem, hE, hH, z1, z2, hb]; (try clear hb))) | ((with_reducible refine And.intro ?_ ?_); · omega) | (refine ok_lend [true, true] ?_; simp (disch := omega) only [go_sem, hE, hH, z1, z2]; refine cmA (cPH) ?_; simp (disch := omega) only [go_sem, hE, hH, z1, z2]) | ((first | refine ok_view ?_ | refine cvA (cO) ?_ | refine cvA (cFH) ?_ | refine cvA (cFT) ?_ | refine cvA (l1OwnS_ok _ (by omega)) ?_ | refine cvA (cF) ?_); simp (disch := omega) only [go_sem, hE, hH, z1, z2]) | (with_reducible apply jn) | (with_reducible apply both) | (with_reducible refine And.intro ?_ ?_) | ((with_reducible apply fin_eq); (try (simp (disch := omega) only [go_sem, hE, hH, z1, z2])); first | done | rfl) | (simp (disch := omega) only [go_sem, hE, hH, z1, z2]) | ((first | apply noMLL_sE | apply pk_sE) <;> (simp only [go_sem, hE, hH, z1, z2]; done)) | (simp only [go_sem, hE, hH, z1, z2]) | fail)
   ·refine nilR_sApp2 ⟨r.Time, s.Cells, putAt s.Held (hPl s.Held r.Txn) (hOf r), s.Told⟩ (fitsS s r.Reads r.Writes) ?_ ?_ hQ
    ·(rw [sAppR]; simp only [go_sem]; (repeat' apply And.intro) <;> rfl)
    ·rw [hA]
     cases hq : fitsS s r.Reads r.Writes <;> (split <;> simp_all <;> omega)
   all_goals (
    refine nilR_sApp2 ⟨r.Time, s.Cells, putAt s.Held (hPl s.Held r.Txn) (hOf r), s.Told⟩ false ?_ ?_ hQ
    ·(rw [sAppR]; simp only [go_sem]; (repeat' apply And.intro) <;> rfl)
    ·rw [hA]
     split <;> simp_all <;> omega)
  ·have z2 : decide (r.Kind = 1) = false := decide_eq_false h1
   have hD : appS s r = decS s r := by rw [appS, if_neg h4, hTF, if_neg (by simp), if_pos h1]
   have hpt : tPl s.Told r.Txn = tI s.Told r.Txn := tPl_eq (x := (⟨r.Txn, r.Yes, r.Time⟩ : Told)) hi.tsrt hTF
   have cPT := l13PutTold_ok s.Told ⟨r.Txn, r.Yes, r.Time⟩ (by omega)
   rw [show (⟨r.Txn, r.Yes, r.Time⟩ : Told).Txn = r.Txn from rfl, hpt, show putAt s.Told (tI s.Told r.Txn) (⟨r.Txn, r.Yes, r.Time⟩ : Told) = toldAdd s r from rfl] at cPT
   have cLs : ACall Tryz.prog 136 [.sl true 5 (s.Held.map (Held.row true)), i64 r.Txn] (fun x l => x = .sl true 5 ((heldCut s r).map (Held.row false)) ∧ l = [.any, .any]) := by
    rw [heldCut_filter hi]
    exact frz_eq (l13Less_ok s.Held r.Txn (by omega)) (by simp only [go_sem]; rfl) rfl
   have hcl : (heldCut s r).length ≤ 12 := (heldCut_I hi r).1
   cases hY : r.Yes with
   | false =>
    rw [hY] at cPT
    have hE2 : decS s r = some ⟨s.Floor, s.Cells, heldCut s r, toldAdd s r⟩ := by rw [decS, hY]; rfl
    rw [hE2] at hD
    refine fi H75 fun E hE hH => ?_; simp only [go_sem] at hE hH; simp only [go_sem, hE, hH, C75]
    try simp (disch := omega) only [go_sem, hE, hH, z1, z2, hY]
    repeat' (first | ((with_reducible first | refine gd_t ?_ ?_ | refine gd_f ?_ ?_) <;> (intro h; have hb := h; (try simp only [nf] at h); simp (disch := omega) only [go_sem, hE, hH, z1, z2, hY, hb]; (try clear hb))) | ((with_reducible refine And.intro ?_ ?_); · omega) | (refine ok_lend [true, false] ?_; simp (disch := omega) only [go_sem, hE, hH, z1, z2, hY]; refine cmA (cLs) ?_; simp (disch := omega) only [go_sem, hE, hH, z1, z2, hY]) | ((first | refine ok_view ?_ | refine cvA (cO) ?_ | refine cvA (cFH) ?_ | refine cvA (cFT) ?_ | refine cvA (cPT) ?_); simp (disch := omega) only [go_sem, hE, hH, z1, z2, hY]) | (with_reducible apply jn) | (with_reducible apply both) | (with_reducible refine And.intro ?_ ?_) | ((with_reducible apply fin_eq); (try (simp (disch := omega) only [go_sem, hE, hH, z1, z2, hY])); first | done | rfl) | (simp (disch := omega) only [go_sem, hE, hH, z1, z2, hY]) | ((first | apply noMLL_sE | apply pk_sE) <;> (simp only [go_sem, hE, hH, z1, z2, hY]; done)) | (simp only [go_sem, hE, hH, z1, z2, hY]) | fail)
    refine nilR_sApp2 ⟨s.Floor, s.Cells, heldCut s r, toldAdd s r⟩ true ?_ (by rw [hD]; rfl) (fun s' e => by rw [hD] at e; injection e)
    (rw [sAppR]; simp only [go_sem]; (repeat' apply And.intro) <;> rfl)
   | true =>
    rw [hY] at cPT
    have hTm : 1 ≤ r.Time := by
     simp only [recOk, h1, h4, if_false, hY] at hr
     split at hr
     ·simp only [Bool.and_eq_true, Bool.or_eq_true, rng_iff, Bool.not_true, Bool.false_and, Bool.true_and, Bool.false_eq_true, or_false] at hr
      omega
     ·cases hr
    cases hH : hF s.Held r.Txn with
    | false =>
     rw [hH] at cFH
     have hE2 : decS s r = none := by rw [decS, hY, hH]; rfl
     rw [hE2] at hD
     refine fi H75 fun E hE hH => ?_; simp only [go_sem] at hE hH; simp only [go_sem, hE, hH, C75]
     try simp (disch := omega) only [go_sem, hE, hH, z1, z2, hY]
     repeat' (first | ((with_reducible first | refine gd_t ?_ ?_ | refine gd_f ?_ ?_) <;> (intro h; have hb := h; (try simp only [nf] at h); simp (disch := omega) only [go_sem, hE, hH, z1, z2, hY, hb]; (try clear hb))) | ((with_reducible refine And.intro ?_ ?_); · omega) | ((first | refine ok_view ?_ | refine cvA (cO) ?_ | refine cvA (cFH) ?_ | refine cvA (cFT) ?_); simp (disch := omega) only [go_sem, hE, hH, z1, z2, hY]) | (with_reducible apply jn) | (with_reducible apply both) | (with_reducible refine And.intro ?_ ?_) | ((with_reducible apply fin_eq); (try (simp (disch := omega) only [go_sem, hE, hH, z1, z2, hY])); first | done | rfl) | (simp (disch := omega) only [go_sem, hE, hH, z1, z2, hY]) | ((first | apply noMLL_sE | apply pk_sE) <;> (simp only [go_sem, hE, hH, z1, z2, hY]; done)) | (simp only [go_sem, hE, hH, z1, z2, hY]) | fail)
     refine nilR_sApp2 s false ?_ (by rw [hD]; rfl) (fun s' e => by rw [hD] at e; cases e)
     (rw [sAppR]; simp only [go_sem]; (repeat' apply And.intro) <;> rfl)
    | true =>
     rw [hH] at cFH
     obtain ⟨k1, k2⟩ := hF_at hi.hsrt hH
     have hld := hldOk_lists (hi.hok _ (nth_mem k1))
     have hI0 := goodCells_I hi.cells
     have hN : hNth s.Held r.Txn = nth s.Held (hI s.Held r.Txn) := by rw [hNth, hH, if_pos rfl]
     rw [hN] at cFH
     by_cases hT : r.Time < (nth s.Held (hI s.Held r.Txn)).Time
     ·have hE2 : decS s r = none := by rw [decS, hY, hH, decide_eq_true hT]; rfl
      rw [hE2] at hD
      have hT2 := decide_eq_true hT
      refine fi H75 fun E hE hH => ?_; simp only [go_sem] at hE hH; simp only [go_sem, hE, hH, C75]
      try simp (disch := omega) only [go_sem, hE, hH, z1, z2, hY, hT2]
      repeat' (first | ((with_reducible first | refine gd_t ?_ ?_ | refine gd_f ?_ ?_) <;> (intro h; have hb := h; (try simp only [nf] at h); simp (disch := omega) only [go_sem, hE, hH, z1, z2, hY, hT2, hb]; (try clear hb))) | ((with_reducible refine And.intro ?_ ?_); · omega) | ((first | refine ok_view ?_ | refine cvA (cO) ?_ | refine cvA (cFH) ?_ | refine cvA (cFT) ?_); simp (disch := omega) only [go_sem, hE, hH, z1, z2, hY, hT2]) | (with_reducible apply jn) | (with_reducible apply both) | (with_reducible refine And.intro ?_ ?_) | ((with_reducible apply fin_eq); (try (simp (disch := omega) only [go_sem, hE, hH, z1, z2, hY, hT2])); first | done | rfl) | (simp (disch := omega) only [go_sem, hE, hH, z1, z2, hY, hT2]) | ((first | apply noMLL_sE | apply pk_sE) <;> (simp only [go_sem, hE, hH, z1, z2, hY, hT2]; done)) | (simp only [go_sem, hE, hH, z1, z2, hY, hT2]) | fail)
      refine nilR_sApp2 s false ?_ (by rw [hD]; rfl) (fun s' e => by rw [hD] at e; cases e)
      (rw [sAppR]; simp only [go_sem]; (repeat' apply And.intro) <;> rfl)
     have hT2 := decide_eq_false hT
     have cP := l3Put_ok s.Cells (nth s.Held (hI s.Held r.Txn)).Writes r.Time hI0 (fun x hx => goodWrites_sizes hld.2.2.1 hx) (by omega) hTm
     cases hP : putVs r.Time (nth s.Held (hI s.Held r.Txn)).Writes (some s.Cells) with
     | none =>
      rw [hP] at cP
      simp only [sPutR] at cP
      have hE2 : decS s r = none := by rw [decS, hY, hH, hT2, putC, hP]; rfl
      rw [hE2] at hD
      refine fi H75 fun E hE hH => ?_; simp only [go_sem] at hE hH; simp only [go_sem, hE, hH, C75]
      try simp (disch := omega) only [go_sem, hE, hH, z1, z2, hY, hT2]
      repeat' (first | ((with_reducible first | refine gd_t ?_ ?_ | refine gd_f ?_ ?_) <;> (intro h; have hb := h; (try simp only [nf] at h); simp (disch := omega) only [go_sem, hE, hH, z1, z2, hY, hT2, hb]; (try clear hb))) | ((with_reducible refine And.intro ?_ ?_); · omega) | ((first | refine ok_view ?_ | refine cvA (cO) ?_ | refine cvA (cFH) ?_ | refine cvA (cFT) ?_ | refine cvA (cP) ?_); simp (disch := omega) only [go_sem, hE, hH, z1, z2, hY, hT2]) | (with_reducible apply jn) | (with_reducible apply both) | (with_reducible refine And.intro ?_ ?_) | ((with_reducible apply fin_eq); (try (simp (disch := omega) only [go_sem, hE, hH, z1, z2, hY, hT2])); first | done | rfl) | (simp (disch := omega) only [go_sem, hE, hH, z1, z2, hY, hT2]) | ((first | apply noMLL_sE | apply pk_sE) <;> (simp only [go_sem, hE, hH, z1, z2, hY, hT2]; done)) | (simp only [go_sem, hE, hH, z1, z2, hY, hT2]) | fail)
      refine nilR_sApp2 s false ?_ (by rw [hD]; rfl) (fun s' e => by rw [hD] at e; cases e)
      (rw [sAppR]; simp only [go_sem]; (repeat' apply And.intro) <;> rfl)
     | some c =>
      rw [hP] at cP
      simp only [sPutR] at cP
      cases hG : goodCells c with
      | false =>
       rw [hG] at cP
       have hE2 : decS s r = none := by rw [decS, hY, hH, hT2, putC, hP]; simp [hG]
       rw [hE2] at hD
       refine fi H75 fun E hE hH => ?_; simp only [go_sem] at hE hH; simp only [go_sem, hE, hH, C75]
       try simp (disch := omega) only [go_sem, hE, hH, z1, z2, hY, hT2]
       repeat' (first | ((with_reducible first | refine gd_t ?_ ?_ | refine gd_f ?_ ?_) <;> (intro h; have hb := h; (try simp only [nf] at h); simp (disch := omega) only [go_sem, hE, hH, z1, z2, hY, hT2, hb]; (try clear hb))) | ((with_reducible refine And.intro ?_ ?_); · omega) | ((first | refine ok_view ?_ | refine cvA (cO) ?_ | refine cvA (cFH) ?_ | refine cvA (cFT) ?_ | refine cvA (cP) ?_); simp (disch := omega) only [go_sem, hE, hH, z1, z2, hY, hT2]) | (with_reducible apply jn) | (with_reducible apply both) | (with_reducible refine And.intro ?_ ?_) | ((with_reducible apply fin_eq); (try (simp (disch := omega) only [go_sem, hE, hH, z1, z2, hY, hT2])); first | done | rfl) | (simp (disch := omega) only [go_sem, hE, hH, z1, z2, hY, hT2]) | ((first | apply noMLL_sE | apply pk_sE) <;> (simp only [go_sem, hE, hH, z1, z2, hY, hT2]; done)) | (simp only [go_sem, hE, hH, z1, z2, hY, hT2]) | fail)
       refine nilR_sApp2 s false ?_ (by rw [hD]; rfl) (fun s' e => by rw [hD] at e; cases e)
       (rw [sAppR]; simp only [go_sem]; (repeat' apply And.intro) <;> rfl)
      | true =>
       rw [hG] at cP
       have hE2 : decS s r = some ⟨max s.Floor r.Time, c, heldCut s r, toldAdd s r⟩ := by rw [decS, hY, hH, hT2, putC, hP]; simp [hG]
       rw [hE2] at hD
       have hmx2 : mostI s.Floor r.Time = max s.Floor r.Time := by
        rw [mostI, Int.max_def]; split <;> split <;> omega
       refine fi H75 fun E hE hH => ?_; simp only [go_sem] at hE hH; simp only [go_sem, hE, hH, C75]
       try simp (disch := omega) only [go_sem, hE, hH, z1, z2, hY, hT2, hmx2]
       repeat' (first | ((with_reducible first | refine gd_t ?_ ?_ | refine gd_f ?_ ?_) <;> (intro h; have hb := h; (try simp only [nf] at h); simp (disch := omega) only [go_sem, hE, hH, z1, z2, hY, hT2, hmx2, hb]; (try clear hb))) | ((with_reducible refine And.intro ?_ ?_); · omega) | (refine ok_lend [true, false] ?_; simp (disch := omega) only [go_sem, hE, hH, z1, z2, hY, hT2, hmx2]; refine cmA (cLs) ?_; simp (disch := omega) only [go_sem, hE, hH, z1, z2, hY, hT2, hmx2]) | ((first | refine ok_view ?_ | refine cvA (cO) ?_ | refine cvA (cFH) ?_ | refine cvA (cFT) ?_ | refine cvA (cP) ?_ | refine cvA (l1Most_ok _ _) ?_ | refine cvA (cPT) ?_); simp (disch := omega) only [go_sem, hE, hH, z1, z2, hY, hT2, hmx2]) | (with_reducible apply jn) | (with_reducible apply both) | (with_reducible refine And.intro ?_ ?_) | ((with_reducible apply fin_eq); (try (simp (disch := omega) only [go_sem, hE, hH, z1, z2, hY, hT2, hmx2])); first | done | rfl) | (simp (disch := omega) only [go_sem, hE, hH, z1, z2, hY, hT2, hmx2]) | ((first | apply noMLL_sE | apply pk_sE) <;> (simp only [go_sem, hE, hH, z1, z2, hY, hT2, hmx2]; done)) | (simp only [go_sem, hE, hH, z1, z2, hY, hT2, hmx2]) | fail)
       refine nilR_sApp2 ⟨max s.Floor r.Time, c, heldCut s r, toldAdd s r⟩ true ?_ (by rw [hD]; rfl) (fun s' e => by rw [hD] at e; injection e)
       (rw [sAppR]; simp only [go_sem]; (repeat' apply And.intro) <;> rfl)
def doneL (l : List Rec) (j : Nat) : List Bool := (List.range j).map fun i => (appS (stateL (l.take i)) (nth l i)).isSome
theorem doneL_len (l : List Rec) (j : Nat) : (doneL l j).length = j := by simp [doneL]
theorem doneL_succ (l : List Rec) (j : Nat) : doneL l (j + 1) = doneL l j ++ [(appS (stateL (l.take j)) (nth l j)).isSome] := by simp [doneL, List.range_succ]
theorem stateL_succ {l : List Rec} {j : Nat} (h : j < l.length) : stateL (l.take (j + 1)) = stepS (stateL (l.take j)) (nth l j) := by
 rw [take_nth h, stateL, List.foldl_append]; rfl
theorem stateL_takeI {l : List Rec} (hl : ∀ r ∈ l, recOk r = true) (j : Nat) (hj : j ≤ l.length) : stI j (stateL (l.take j)) := by
 have := stateL_I (l := l.take j) fun r h => hl r (List.mem_of_mem_take h)
 rwa [List.length_take, Nat.min_eq_left hj] at this
def soF (l : List Rec) (j : Nat) : Option State → St
 | none => ⟨[(2, .ptr 3000000 0 0), (4, .ptr 5000000 0 0), (5, .ref 6000000 0 j), (12, .sl false 7 (l.map (Rec.row false))), (13, i64 l.length), (14, i64 j)], [(3000000, ⟨4, [[i64 0, nils, nils, nils]]⟩), (5000000, ⟨4, [[i64 0, nils, nils, nils]]⟩), (6000000, ⟨1, (doneL l j).map (fun b => [bl b])⟩)]⟩
 | some s => ⟨[(2, .ptr 3000000 0 0), (4, .ptr 5000000 0 0), (5, .ref 6000000 0 j), (12, .sl false 7 (l.map (Rec.row false))), (13, i64 l.length), (14, i64 j)], [(3000000, ⟨4, [[i64 0, nils, nils, nils]]⟩), (5000000, ⟨4, [[i64 s.Floor, .ref 5000002 0 s.Cells.length, .ref 5000003 0 s.Held.length, .ref 5000004 0 s.Told.length]]⟩), (5000002, ⟨2, s.Cells.map (Cell.row true)⟩), (5000003, ⟨5, s.Held.map (Held.row true)⟩), (5000004, ⟨3, s.Told.map (Told.row true)⟩), (6000000, ⟨1, (doneL l j).map (fun b => [bl b])⟩)]⟩
set_option maxHeartbeats 2000000 in
theorem stateOf_ok (hS : SortNe) (l : List Rec) (hl : ∀ r ∈ l, recOk r = true) (hn : l.length ≤ 60) : ACall Tryz.prog 57 [.sl false 7 (l.map (Rec.row false))] (fun x _ => x = .tup [.agg (State.row true (stateL l)), .sl true 1 ((doneL l l.length).map (fun b => [bl b]))]) := by
 have hmx := mx_eq
 refine fi H57 fun E hE hH => ?_; simp only [go_sem] at hE hH; simp only [go_sem, hE, hH, C57]
 try simp (disch := omega) only [go_sem, hE, hH]
 refine loopNe l.length (fun j x => soF l j x) (fun j x => x.getD st0 = stateL (l.take j)) none rfl rfl ?_
 intro j x hj hI
 have z1 : st0.Cells = [] := rfl
 have z2 : st0.Held = [] := rfl
 have z3 : st0.Told = [] := rfl
 have z4 : st0.Floor = 0 := rfl
 have hSI := stateL_takeI hl j hj
 rw [← hI] at hSI
 cases x with
 | none =>
  try simp only [go_sem, hE, hH, C57_l1, soF]
  first | refine gd_t (fun h => ?_) (fun h => ?_) | refine gd_f (fun h => ?_) (fun h => ?_)
  ·have hb := h
   simp only [nf] at h
   have hlt : j < l.length := by omega
   have cA := applied_ok hS st0 (nth l j) hSI (by omega) (hl _ (nth_mem hlt))
   have hst : stateL (l.take (j + 1)) = stepS st0 (nth l j) := by rw [stateL_succ hlt, ← hI]; rfl
   have hdn : doneL l (j + 1) = doneL l j ++ [(appS st0 (nth l j)).isSome] := by rw [doneL_succ, ← hI]; rfl
   have hdl := doneL_len l j
   have hdt : (doneL l j).take j = doneL l j := by rw [List.take_of_length_le (by omega)]
   cases hA : appS st0 (nth l j) with
   | none =>
    rw [hA, appR] at cA
    rw [hA] at hdn
    try simp (disch := omega) only [go_sem, hE, hH, hb]
    repeat' (first | ((with_reducible first | refine gd_t ?_ ?_ | refine gd_f ?_ ?_) <;> (intro h; have hb := h; (try simp only [nf] at h); simp (disch := omega) only [go_sem, hE, hH, hdl, hdt, z1, z2, z3, z4, hb]; (try clear hb))) | ((with_reducible refine And.intro ?_ ?_); · omega) | ((first | refine ok_view ?_ | refine cvAn (cA) ?_); simp (disch := omega) only [go_sem, hE, hH, hdl, hdt, z1, z2, z3, z4]) | (with_reducible apply jn) | (with_reducible apply both) | (with_reducible refine And.intro ?_ ?_) | ((with_reducible apply fin_eq); (try (simp (disch := omega) only [go_sem, hE, hH, hdl, hdt, z1, z2, z3, z4])); first | done | rfl) | (simp (disch := omega) only [go_sem, hE, hH, hdl, hdt, z1, z2, z3, z4]) | ((first | apply noMLL_sE | apply pk_sE) <;> (simp only [go_sem, hE, hH, hdl, hdt, z1, z2, z3, z4]; done)) | (simp only [go_sem, hE, hH, hdl, hdt, z1, z2, z3, z4]) | fail)
    all_goals try first | omega | rfl
    all_goals (
     refine ⟨none, ?_, by (first | (rw [hst, stepS, hA]; done) | (rw [hst, stepS, hA]; rfl))⟩
     rw [hdn, List.map_append]
     rfl)
   | some s' =>
    rw [hA, appR] at cA
    rw [hA] at hdn
    try simp (disch := omega) only [go_sem, hE, hH, hb]
    repeat' (first | ((with_reducible first | refine gd_t ?_ ?_ | refine gd_f ?_ ?_) <;> (intro h; have hb := h; (try simp only [nf] at h); simp (disch := omega) only [go_sem, hE, hH, hdl, hdt, z1, z2, z3, z4, hb]; (try clear hb))) | ((with_reducible refine And.intro ?_ ?_); · omega) | ((first | refine ok_view ?_ | refine cvAn (cA) ?_); simp (disch := omega) only [go_sem, hE, hH, hdl, hdt, z1, z2, z3, z4]) | (with_reducible apply jn) | (with_reducible apply both) | (with_reducible refine And.intro ?_ ?_) | ((with_reducible apply fin_eq); (try (simp (disch := omega) only [go_sem, hE, hH, hdl, hdt, z1, z2, z3, z4])); first | done | rfl) | (simp (disch := omega) only [go_sem, hE, hH, hdl, hdt, z1, z2, z3, z4]) | ((first | apply noMLL_sE | apply pk_sE) <;> (simp only [go_sem, hE, hH, hdl, hdt, z1, z2, z3, z4]; done)) | (simp only [go_sem, hE, hH, hdl, hdt, z1, z2, z3, z4]) | fail)
    all_goals try first | omega | rfl
    all_goals (
     refine ⟨some s', ?_, by (first | (rw [hst, stepS, hA]; done) | (rw [hst, stepS, hA]; rfl))⟩
     rw [hdn, List.map_append]
     rfl)
  ·try simp (disch := omega) only [go_sem, hE, hH, h]
   simp only [nf] at h
   have hjl : j = l.length := by omega
   have hdl := doneL_len l j
   rw [hjl, List.take_length] at hI
   subst hjl
   rw [← hI]
   simp [hdl, pk_map, packedL]
   exact ⟨rfl, rfl, rfl, rfl⟩
 | some s =>
  try simp only [go_sem, hE, hH, C57_l1, soF]
  first | refine gd_t (fun h => ?_) (fun h => ?_) | refine gd_f (fun h => ?_) (fun h => ?_)
  ·have hb := h
   simp only [nf] at h
   have hlt : j < l.length := by omega
   have cA := applied_ok hS s (nth l j) hSI (by omega) (hl _ (nth_mem hlt))
   have hst : stateL (l.take (j + 1)) = stepS s (nth l j) := by rw [stateL_succ hlt, ← hI]; rfl
   have hdn : doneL l (j + 1) = doneL l j ++ [(appS s (nth l j)).isSome] := by rw [doneL_succ, ← hI]; rfl
   have hdl := doneL_len l j
   have hdt : (doneL l j).take j = doneL l j := by rw [List.take_of_length_le (by omega)]
   cases hA : appS s (nth l j) with
   | none =>
    rw [hA, appR] at cA
    rw [hA] at hdn
    try simp (disch := omega) only [go_sem, hE, hH, hb]
    repeat' (first | ((with_reducible first | refine gd_t ?_ ?_ | refine gd_f ?_ ?_) <;> (intro h; have hb := h; (try simp only [nf] at h); simp (disch := omega) only [go_sem, hE, hH, hdl, hdt, hb]; (try clear hb))) | ((with_reducible refine And.intro ?_ ?_); · omega) | ((first | refine ok_view ?_ | refine cvA (cA) ?_); simp (disch := omega) only [go_sem, hE, hH, hdl, hdt]) | (with_reducible apply jn) | (with_reducible apply both) | (with_reducible refine And.intro ?_ ?_) | ((with_reducible apply fin_eq); (try (simp (disch := omega) only [go_sem, hE, hH, hdl, hdt])); first | done | rfl) | (simp (disch := omega) only [go_sem, hE, hH, hdl, hdt]) | ((first | apply noMLL_sE | apply pk_sE) <;> (simp only [go_sem, hE, hH, hdl, hdt]; done)) | (simp only [go_sem, hE, hH, hdl, hdt]) | fail)
    all_goals try first | omega | rfl
    all_goals (
     refine ⟨some s, ?_, by (first | (rw [hst, stepS, hA]; done) | (rw [hst, stepS, hA]; rfl))⟩
     rw [hdn, List.map_append]
     rfl)
   | some s' =>
    rw [hA, appR] at cA
    rw [hA] at hdn
    try simp (disch := omega) only [go_sem, hE, hH, hb]
    repeat' (first | ((with_reducible first | refine gd_t ?_ ?_ | refine gd_f ?_ ?_) <;> (intro h; have hb := h; (try simp only [nf] at h); simp (disch := omega) only [go_sem, hE, hH, hdl, hdt, hb]; (try clear hb))) | ((with_reducible refine And.intro ?_ ?_); · omega) | ((first | refine ok_view ?_ | refine cvA (cA) ?_); simp (disch := omega) only [go_sem, hE, hH, hdl, hdt]) | (with_reducible apply jn) | (with_reducible apply both) | (with_reducible refine And.intro ?_ ?_) | ((with_reducible apply fin_eq); (try (simp (disch := omega) only [go_sem, hE, hH, hdl, hdt])); first | done | rfl) | (simp (disch := omega) only [go_sem, hE, hH, hdl, hdt]) | ((first | apply noMLL_sE | apply pk_sE) <;> (simp only [go_sem, hE, hH, hdl, hdt]; done)) | (simp only [go_sem, hE, hH, hdl, hdt]) | fail)
    all_goals try first | omega | rfl
    all_goals (
     refine ⟨some s', ?_, by (first | (rw [hst, stepS, hA]; done) | (rw [hst, stepS, hA]; rfl))⟩
     rw [hdn, List.map_append]
     rfl)
  ·try simp (disch := omega) only [go_sem, hE, hH, h]
   simp only [nf] at h
   have hjl : j = l.length := by omega
   have hdl := doneL_len l j
   rw [hjl, List.take_length] at hI
   subst hjl
   rw [← hI]
   simp [hdl, pk_map, packedL]
def soG (l : List Rec) (j : Nat) : Option State → St
 | none => ⟨[(2, .ptr 3000000 0 0), (4, .ptr 5000000 0 0), (5, .ref 6000000 0 j), (10, .sl false 7 (l.map (Rec.row false))), (11, i64 l.length), (12, i64 j)], [(3000000, ⟨4, [[i64 0, nils, nils, nils]]⟩), (5000000, ⟨4, [[i64 0, nils, nils, nils]]⟩), (6000000, ⟨1, (doneL l j).map (fun b => [bl b])⟩)]⟩
 | some s => ⟨[(2, .ptr 3000000 0 0), (4, .ptr 5000000 0 0), (5, .ref 6000000 0 j), (10, .sl false 7 (l.map (Rec.row false))), (11, i64 l.length), (12, i64 j)], [(3000000, ⟨4, [[i64 0, nils, nils, nils]]⟩), (5000000, ⟨4, [State.row false s]⟩), (6000000, ⟨1, (doneL l j).map (fun b => [bl b])⟩)]⟩
set_option maxHeartbeats 2000000 in
theorem l13Of_ok (l : List Rec) (hl : ∀ r ∈ l, recOk r = true) (hn : l.length ≤ 60) : ACall Tryz.prog 53 [.sl false 7 (l.map (Rec.row false))] (fun x _ => x = .tup [.agg (State.row false (stateL l)), .sl true 1 ((doneL l l.length).map (fun b => [bl b]))]) := by
 have hmx := mx_eq
 refine fi H53 fun E hE hH => ?_; simp only [go_sem] at hE hH; simp only [go_sem, hE, hH, C53]
 try simp (disch := omega) only [go_sem, hE, hH]
 refine loopNe l.length (fun j x => soG l j x) (fun j x => x.getD st0 = stateL (l.take j)) none rfl rfl ?_
 intro j x hj hI
 have z1 : st0.Cells = [] := rfl
 have z2 : st0.Held = [] := rfl
 have z3 : st0.Told = [] := rfl
 have z4 : st0.Floor = 0 := rfl
 have hSI := stateL_takeI hl j hj
 rw [← hI] at hSI
 cases x with
 | none =>
  try simp only [go_sem, hE, hH, C53_l1, soG]
  first | refine gd_t (fun h => ?_) (fun h => ?_) | refine gd_f (fun h => ?_) (fun h => ?_)
  ·have hb := h
   simp only [nf] at h
   have hlt : j < l.length := by omega
   have cA := l13Apply_ok st0 (nth l j) hSI (by omega) (hl _ (nth_mem hlt))
   have hst : stateL (l.take (j + 1)) = stepS st0 (nth l j) := by rw [stateL_succ hlt, ← hI]; rfl
   have hdn : doneL l (j + 1) = doneL l j ++ [(appS st0 (nth l j)).isSome] := by rw [doneL_succ, ← hI]; rfl
   have hdl := doneL_len l j
   have hdt : (doneL l j).take j = doneL l j := by rw [List.take_of_length_le (by omega)]
   cases hA : appS st0 (nth l j) with
   | none =>
    rw [hA, Option.isSome_none] at cA
    simp only [sAppR] at cA
    rw [hA] at hdn
    try simp (disch := omega) only [go_sem, hE, hH, hb]
    repeat' (first | ((with_reducible first | refine gd_t ?_ ?_ | refine gd_f ?_ ?_) <;> (intro h; have hb := h; (try simp only [nf] at h); simp (disch := omega) only [go_sem, hE, hH, hdl, hdt, z1, z2, z3, z4, hb]; (try clear hb))) | ((with_reducible refine And.intro ?_ ?_); · omega) | (refine ok_view ?_; simp (disch := omega) only [go_sem, hE, hH, hdl, hdt, z1, z2, z3, z4]; refine cvAn (cA) (And.intro (by (simp (disch := omega) only [go_sem, hE, hH, hdl, hdt, z1, z2, z3, z4]); done) (aftV_intro ?_)); rintro _ _ ⟨q, rfl, _⟩; simp (disch := omega) only [go_sem, hE, hH, hdl, hdt, z1, z2, z3, z4]) | (with_reducible apply jn) | (with_reducible apply both) | (with_reducible refine And.intro ?_ ?_) | ((with_reducible apply fin_eq); (try (simp (disch := omega) only [go_sem, hE, hH, hdl, hdt, z1, z2, z3, z4])); first | done | rfl) | (simp (disch := omega) only [go_sem, hE, hH, hdl, hdt, z1, z2, z3, z4]) | ((first | apply noMLL_sE | apply pk_sE) <;> (simp only [go_sem, hE, hH, hdl, hdt, z1, z2, z3, z4]; done)) | (simp only [go_sem, hE, hH, hdl, hdt, z1, z2, z3, z4]) | fail)
    all_goals try first | omega | rfl
    all_goals (
     refine ⟨none, ?_, by (first | (rw [hst, stepS, hA]; done) | (rw [hst, stepS, hA]; rfl))⟩
     rw [hdn, List.map_append]
     rfl)
   | some s' =>
    rw [hA, Option.isSome_some] at cA
    simp only [sAppR] at cA
    rw [hA] at hdn
    try simp (disch := omega) only [go_sem, hE, hH, hb]
    repeat' (first | ((with_reducible first | refine gd_t ?_ ?_ | refine gd_f ?_ ?_) <;> (intro h; have hb := h; (try simp only [nf] at h); simp (disch := omega) only [go_sem, hE, hH, hdl, hdt, z1, z2, z3, z4, hb]; (try clear hb))) | ((with_reducible refine And.intro ?_ ?_); · omega) | (refine ok_view ?_; simp (disch := omega) only [go_sem, hE, hH, hdl, hdt, z1, z2, z3, z4]; refine cvAn (cA) (And.intro (by (simp (disch := omega) only [go_sem, hE, hH, hdl, hdt, z1, z2, z3, z4]); done) (aftV_intro ?_)); rintro _ _ ⟨q, rfl, hq⟩; simp (disch := omega) only [go_sem, hE, hH, hdl, hdt, z1, z2, z3, z4]) | (with_reducible apply jn) | (with_reducible apply both) | (with_reducible refine And.intro ?_ ?_) | ((with_reducible apply fin_eq); (try (simp (disch := omega) only [go_sem, hE, hH, hdl, hdt, z1, z2, z3, z4])); first | done | rfl) | (simp (disch := omega) only [go_sem, hE, hH, hdl, hdt, z1, z2, z3, z4]) | ((first | apply noMLL_sE | apply pk_sE) <;> (simp only [go_sem, hE, hH, hdl, hdt, z1, z2, z3, z4]; done)) | (simp only [go_sem, hE, hH, hdl, hdt, z1, z2, z3, z4]) | fail)
    all_goals try first | omega | rfl
    all_goals (
     obtain rfl := hq _ rfl
     refine ⟨some q, ?_, by (first | (rw [hst, stepS, hA]; done) | (rw [hst, stepS, hA]; rfl))⟩
     rw [hdn, List.map_append]
     rfl)
  ·try simp (disch := omega) only [go_sem, hE, hH, h]
   simp only [nf] at h
   have hjl : j = l.length := by omega
   have hdl := doneL_len l j
   rw [hjl, List.take_length] at hI
   subst hjl
   rw [← hI]
   simp [hdl, pk_map, packedL]
   exact ⟨rfl, rfl, rfl, rfl⟩
 | some s =>
  try simp only [go_sem, hE, hH, C53_l1, soG]
  first | refine gd_t (fun h => ?_) (fun h => ?_) | refine gd_f (fun h => ?_) (fun h => ?_)
  ·have hb := h
   simp only [nf] at h
   have hlt : j < l.length := by omega
   have cA := l13Apply_ok s (nth l j) hSI (by omega) (hl _ (nth_mem hlt))
   have hst : stateL (l.take (j + 1)) = stepS s (nth l j) := by rw [stateL_succ hlt, ← hI]; rfl
   have hdn : doneL l (j + 1) = doneL l j ++ [(appS s (nth l j)).isSome] := by rw [doneL_succ, ← hI]; rfl
   have hdl := doneL_len l j
   have hdt : (doneL l j).take j = doneL l j := by rw [List.take_of_length_le (by omega)]
   cases hA : appS s (nth l j) with
   | none =>
    rw [hA, Option.isSome_none] at cA
    simp only [sAppR] at cA
    rw [hA] at hdn
    try simp (disch := omega) only [go_sem, hE, hH, hb]
    repeat' (first | ((with_reducible first | refine gd_t ?_ ?_ | refine gd_f ?_ ?_) <;> (intro h; have hb := h; (try simp only [nf] at h); simp (disch := omega) only [go_sem, hE, hH, hdl, hdt, hb]; (try clear hb))) | ((with_reducible refine And.intro ?_ ?_); · omega) | (refine ok_view ?_; simp (disch := omega) only [go_sem, hE, hH, hdl, hdt]; refine cvA (cA) ?_; refine aftV_intro ?_; rintro _ _ ⟨q, rfl, _⟩; simp (disch := omega) only [go_sem, hE, hH, hdl, hdt]) | (with_reducible apply jn) | (with_reducible apply both) | (with_reducible refine And.intro ?_ ?_) | ((with_reducible apply fin_eq); (try (simp (disch := omega) only [go_sem, hE, hH, hdl, hdt])); first | done | rfl) | (simp (disch := omega) only [go_sem, hE, hH, hdl, hdt]) | ((first | apply noMLL_sE | apply pk_sE) <;> (simp only [go_sem, hE, hH, hdl, hdt]; done)) | (simp only [go_sem, hE, hH, hdl, hdt]) | fail)
    all_goals try first | omega | rfl
    all_goals (
     refine ⟨some s, ?_, by (first | (rw [hst, stepS, hA]; done) | (rw [hst, stepS, hA]; rfl))⟩
     rw [hdn, List.map_append]
     rfl)
   | some s' =>
    rw [hA, Option.isSome_some] at cA
    simp only [sAppR] at cA
    rw [hA] at hdn
    try simp (disch := omega) only [go_sem, hE, hH, hb]
    repeat' (first | ((with_reducible first | refine gd_t ?_ ?_ | refine gd_f ?_ ?_) <;> (intro h; have hb := h; (try simp only [nf] at h); simp (disch := omega) only [go_sem, hE, hH, hdl, hdt, hb]; (try clear hb))) | ((with_reducible refine And.intro ?_ ?_); · omega) | (refine ok_view ?_; simp (disch := omega) only [go_sem, hE, hH, hdl, hdt]; refine cvA (cA) ?_; refine aftV_intro ?_; rintro _ _ ⟨q, rfl, hq⟩; simp (disch := omega) only [go_sem, hE, hH, hdl, hdt]) | (with_reducible apply jn) | (with_reducible apply both) | (with_reducible refine And.intro ?_ ?_) | ((with_reducible apply fin_eq); (try (simp (disch := omega) only [go_sem, hE, hH, hdl, hdt])); first | done | rfl) | (simp (disch := omega) only [go_sem, hE, hH, hdl, hdt]) | ((first | apply noMLL_sE | apply pk_sE) <;> (simp only [go_sem, hE, hH, hdl, hdt]; done)) | (simp only [go_sem, hE, hH, hdl, hdt]) | fail)
    all_goals try first | omega | rfl
    all_goals (
     obtain rfl := hq _ rfl
     refine ⟨some q, ?_, by (first | (rw [hst, stepS, hA]; done) | (rw [hst, stepS, hA]; rfl))⟩
     rw [hdn, List.map_append]
     rfl)
  ·try simp (disch := omega) only [go_sem, hE, hH, h]
   simp only [nf] at h
   have hjl : j = l.length := by omega
   have hdl := doneL_len l j
   rw [hjl, List.take_length] at hI
   subst hjl
   rw [← hI]
   simp [hdl, pk_map, packedL]
def denS (l : List Entry) : State := stateL (l.map Entry.Rec)
theorem denS_I {l : List Entry} (hl : ∀ e ∈ l, recOk e.Rec = true) : stI l.length (denS l) := by
 have := stateL_I (l := l.map Entry.Rec) fun r h => by
  obtain ⟨e, he, rfl⟩ := List.mem_map.1 h
  exact hl e he
 rwa [List.length_map] at this
theorem denoted_ok (hS : SortNe) (l : List Entry) (hl : ∀ e ∈ l, recOk e.Rec = true) (hn : l.length ≤ 60) : ACall Tryz.prog 96 [.sl false 8 (l.map (Entry.row false))] (fun x _ => x = .agg (State.row true (denS l))) := by
 have hmx := mx_eq
 have cO := stateOf_ok hS (l.map Entry.Rec) (fun r h => by obtain ⟨e, he, rfl⟩ := List.mem_map.1 h; exact hl e he) (by rw [List.length_map]; exact hn)
 refine fi H96 fun E hE hH => ?_; simp only [go_sem] at hE hH; simp only [go_sem, hE, hH, C96]
 try simp (disch := omega) only [go_sem, hE, hH]
 refine loopNe l.length (fun j (_ : Unit) => ⟨[(2, .ptr 3000000 0 0), (3, .ref 4000000 0 j), (9, .sl false 8 (l.map (Entry.row false))), (10, i64 l.length), (11, i64 j)], [(3000000, ⟨4, [[i64 0, nils, nils, nils]]⟩), (4000000, ⟨7, ((l.take j).map Entry.Rec).map (Rec.row false)⟩)]⟩) (fun _ _ => True) () rfl trivial ?_
 intro j x hj hI
 try simp only [go_sem, hE, hH, C96_l1]
 first | refine gd_t (fun h => ?_) (fun h => ?_) | refine gd_f (fun h => ?_) (fun h => ?_)
 ·have hb := h
  simp only [nf] at h
  have hlt : j < l.length := by omega
  have hjl : ((l.take j).map Entry.Rec).length = j := by simp; omega
  have hjt : (l.take j).take j = l.take j := by rw [List.take_take, Nat.min_self]
  have hs : (l.take (j + 1)).map Entry.Rec = (l.take j).map Entry.Rec ++ [(nth l j).Rec] := by rw [take_nth hlt, List.map_append]; rfl
  have hg := getD_map (f := Entry.row false) hlt
  have hga : ∀ r, (((l.take j).map Entry.Rec).map (Rec.row false) ++ [r]).getD j [] = r := fun r => by
   have := getD_ma (f := Rec.row false) (l := (l.take j).map Entry.Rec) (r := r)
   rwa [hjl] at this
  try simp (disch := omega) only [go_sem, hE, hH, hjl, hjt, hg, hga, hb]
  repeat' (first | ((with_reducible first | refine gd_t ?_ ?_ | refine gd_f ?_ ?_) <;> (intro h; have hb := h; (try simp only [nf] at h); simp (disch := omega) only [go_sem, hE, hH, hjl, hjt, hg, hga, hb]; (try clear hb))) | ((with_reducible refine And.intro ?_ ?_); · omega) | (with_reducible apply jn) | (with_reducible apply both) | (with_reducible refine And.intro ?_ ?_) | ((with_reducible apply fin_eq); (try (simp (disch := omega) only [go_sem, hE, hH, hjl, hjt, hg, hga])); first | done | rfl) | (simp (disch := omega) only [go_sem, hE, hH, hjl, hjt, hg, hga]) | ((first | apply noMLL_sE | apply pk_sE) <;> (simp only [go_sem, hE, hH, hjl, hjt, hg, hga]; done)) | (simp only [go_sem, hE, hH, hjl, hjt, hg, hga]) | fail)
  repeat' (first | (refine both ?_ ?_) | omega | ((first | apply noMLL_sE | apply pk_sE) <;> (simp only [go_sem, hE, hH]; done)) | fail)
  refine ⟨(), ?_⟩
  rw [hs, List.map_append]
  rfl
 ·try simp (disch := omega) only [go_sem, hE, hH, h]
  simp only [nf] at h
  have hjl : j = l.length := by omega
  rw [hjl, List.take_length]
  have hl2 : (l.map Entry.Rec).length = l.length := List.length_map _
  have hd : denS l = stateL (l.map Entry.Rec) := rfl
  rw [hd]
  try simp (disch := omega) only [go_sem, hE, hH]
  repeat' (first | ((with_reducible first | refine gd_t ?_ ?_ | refine gd_f ?_ ?_) <;> (intro h; have hb := h; (try simp only [nf] at h); simp (disch := omega) only [go_sem, hE, hH, hl2, hb]; (try clear hb))) | ((with_reducible refine And.intro ?_ ?_); · omega) | ((first | refine ok_view ?_ | refine cvA (cO) ?_); simp (disch := omega) only [go_sem, hE, hH, hl2]) | (with_reducible apply jn) | (with_reducible apply both) | (with_reducible refine And.intro ?_ ?_) | ((with_reducible apply fin_eq); (try (simp (disch := omega) only [go_sem, hE, hH, hl2])); first | done | rfl) | (simp (disch := omega) only [go_sem, hE, hH, hl2]) | ((first | apply noMLL_sE | apply pk_sE) <;> (simp only [go_sem, hE, hH, hl2]; done)) | (simp only [go_sem, hE, hH, hl2]) | fail)
theorem l16Means_ok (log : List Entry) (n : Nat) (hln : n ≤ log.length) (hmx0 : log.length ≤ maxLen) (l : List Entry) (hle : l = log.take n) (hl : ∀ e ∈ l, recOk e.Rec = true) (hn : l.length ≤ 60) : ACall Tryz.prog 93 [.sl false 8 (log.map (Entry.row false)), i64 n] (fun x _ => x = .agg (State.row false (denS l))) := by
 have hmx := mx_eq
 have cO := l13Of_ok (l.map Entry.Rec) (fun r h => by obtain ⟨e, he, rfl⟩ := List.mem_map.1 h; exact hl e he) (by rw [List.length_map]; exact hn)
 have hll : l.length = n := by rw [hle, List.length_take]; omega
 refine fi H93 fun E hE hH => ?_; simp only [go_sem] at hE hH; simp only [go_sem, hE, hH, C93]
 try simp (disch := omega) only [go_sem, hE, hH]
 repeat' (first | ((with_reducible first | refine gd_t ?_ ?_ | refine gd_f ?_ ?_) <;> (intro h; have hb := h; (try simp only [nf] at h); refine sb ?_; (try clear hb))) | ((with_reducible refine And.intro ?_ ?_); · omega) | (with_reducible apply jn) | (with_reducible apply both) | (with_reducible refine And.intro ?_ ?_) | exact fj | refine st ?_ | exact fm | refine s1 ?_ | (with_reducible exact True.intro) | fail)
 refine loopNe l.length (fun j (_ : Unit) => ⟨[(4, .ptr 5000000 0 0), (5, .ref 6000000 0 j), (12, .sl false 8 (l.map (Entry.row false))), (13, i64 l.length), (14, i64 j)], [(5000000, ⟨4, [[i64 0, nils, nils, nils]]⟩), (6000000, ⟨7, ((l.take j).map Entry.Rec).map (Rec.row false)⟩)]⟩) (fun _ _ => True) () (by rw [hle, List.map_take, List.length_take, Nat.min_eq_left hln]; rfl) trivial ?_
 intro j x hj hI
 try simp only [go_sem, hE, hH, C93_l1]
 first | refine gd_t (fun h => ?_) (fun h => ?_) | refine gd_f (fun h => ?_) (fun h => ?_)
 ·have hb := h
  simp only [nf] at h
  have hlt : j < l.length := by omega
  have hjl : ((l.take j).map Entry.Rec).length = j := by simp; omega
  have hjt : (l.take j).take j = l.take j := by rw [List.take_take, Nat.min_self]
  have hs : (l.take (j + 1)).map Entry.Rec = (l.take j).map Entry.Rec ++ [(nth l j).Rec] := by rw [take_nth hlt, List.map_append]; rfl
  have hg := getD_map (f := Entry.row false) hlt
  have hga : ∀ r, (((l.take j).map Entry.Rec).map (Rec.row false) ++ [r]).getD j [] = r := fun r => by
   have := getD_ma (f := Rec.row false) (l := (l.take j).map Entry.Rec) (r := r)
   rwa [hjl] at this
  try simp (disch := omega) only [go_sem, hE, hH, hjl, hjt, hg, hga, hb]
  repeat' (first | ((with_reducible first | refine gd_t ?_ ?_ | refine gd_f ?_ ?_) <;> (intro h; have hb := h; (try simp only [nf] at h); simp (disch := omega) only [go_sem, hE, hH, hjl, hjt, hg, hga, hb]; (try clear hb))) | ((with_reducible refine And.intro ?_ ?_); · omega) | (with_reducible apply jn) | (with_reducible apply both) | (with_reducible refine And.intro ?_ ?_) | ((with_reducible apply fin_eq); (try (simp (disch := omega) only [go_sem, hE, hH, hjl, hjt, hg, hga])); first | done | rfl) | (simp (disch := omega) only [go_sem, hE, hH, hjl, hjt, hg, hga]) | ((first | apply noMLL_sE | apply pk_sE) <;> (simp only [go_sem, hE, hH, hjl, hjt, hg, hga]; done)) | (simp only [go_sem, hE, hH, hjl, hjt, hg, hga]) | fail)
  repeat' (first | (refine both ?_ ?_) | omega | ((first | apply noMLL_sE | apply pk_sE) <;> (simp only [go_sem, hE, hH]; done)) | fail)
  refine ⟨(), ?_⟩
  rw [hs, List.map_append]
  rfl
 ·try simp (disch := omega) only [go_sem, hE, hH, h]
  simp only [nf] at h
  have hjl : j = l.length := by omega
  rw [hjl, List.take_length]
  have hl2 : (l.map Entry.Rec).length = l.length := List.length_map _
  have hd : denS l = stateL (l.map Entry.Rec) := rfl
  rw [hd]
  have cO2 : ACall Tryz.prog 53 [.sl true 7 ((l.map Entry.Rec).map (Rec.row false))] (fun x a => x = .tup [.agg (State.row false (stateL (l.map Entry.Rec))), .sl true 1 ((doneL (l.map Entry.Rec) (l.map Entry.Rec).length).map (fun b => [bl b]))] ∧ a = [.any]) := frz_eq cO (by simp only [go_sem]; rfl) rfl
  try simp (disch := omega) only [go_sem, hE, hH]
  repeat' (first | ((with_reducible first | refine gd_t ?_ ?_ | refine gd_f ?_ ?_) <;> (intro h; have hb := h; (try simp only [nf] at h); simp (disch := omega) only [go_sem, hE, hH, hl2, hb]; (try clear hb))) | ((with_reducible refine And.intro ?_ ?_); · omega) | (refine ok_lend [true] ?_; simp (disch := omega) only [go_sem, hE, hH, hl2]; refine cmA (cO2) ?_; simp (disch := omega) only [go_sem, hE, hH, hl2]) | (with_reducible apply jn) | (with_reducible apply both) | (with_reducible refine And.intro ?_ ?_) | ((with_reducible apply fin_eq); (try (simp (disch := omega) only [go_sem, hE, hH, hl2])); first | done | rfl) | (simp (disch := omega) only [go_sem, hE, hH, hl2]) | ((first | apply noMLL_sE | apply pk_sE) <;> (simp only [go_sem, hE, hH, hl2]; done)) | (simp only [go_sem, hE, hH, hl2]) | fail)
structure repG (r : Replica) : Prop where
 s0 : 0 ≤ r.Sure
 s1 : r.Sure ≤ r.Log.length
 len : r.Log.length ≤ 60
 good : ∀ e ∈ r.Log, recOk e.Rec = true
theorem repOk_g {t : Int} {r : Replica} (h : repOk t r = true) : repG r := by
 simp only [repOk, logOk, Bool.and_eq_true, decide_eq_true_eq] at h
 obtain ⟨⟨h1, h2⟩, h3⟩ := h
 have h3 := rng_iff.1 h3
 refine ⟨h3.1, h3.2, by omega, fun e he => ?_⟩
 obtain ⟨i, hi, rfl⟩ := List.getElem_of_mem he
 have := allN_iff.1 h1 i hi
 simp only [entOk, Bool.and_eq_true] at this
 rw [← nth_lt hi]
 exact this.1.2
theorem grpOk_g {g : Group} (h : grpOk g = true) : 3 ≤ g.Reps.length ∧ g.Reps.length ≤ 5 ∧ ∀ r ∈ g.Reps, repG r := by
 simp only [grpOk, Bool.and_eq_true, Bool.or_eq_true, decide_eq_true_eq, List.all_eq_true] at h
 obtain ⟨⟨⟨h1, _⟩, _⟩, h4⟩ := h
 exact ⟨by omega, by omega, fun r hr => repOk_g (h4 r hr)⟩
def repS (r : Replica) : State := denS (r.Log.take r.Sure.toNat)
theorem repG_take {r : Replica} (h : repG r) : (∀ e ∈ r.Log.take r.Sure.toNat, recOk e.Rec = true) ∧ (r.Log.take r.Sure.toNat).length ≤ 60 := by
 refine ⟨fun e he => h.good e (List.mem_of_mem_take he), ?_⟩
 have := h.len
 rw [List.length_take]; omega
theorem repS_I {r : Replica} (h : repG r) : stI 60 (repS r) := by
 obtain ⟨h1, h2⟩ := repG_take h
 have := denS_I h1
 exact ⟨this.cells, this.hlen, this.hsrt, this.hok, Nat.le_trans this.tlen h2, this.tsrt⟩
def bestN (g : Group) : Nat → Nat
 | 0 => 0
 | j + 1 => if (nth g.Reps (bestN g j)).Sure < (nth g.Reps j).Sure then j else bestN g j
theorem bestN_lt {g : Group} (h : 0 < g.Reps.length) : ∀ j, j ≤ g.Reps.length → bestN g j < g.Reps.length
 | 0, _ => h
 | j + 1, hj => by
  rw [bestN]
  split
  ·omega
  ·exact bestN_lt h j (by omega)
def sureS (g : Group) : State := repS (nth g.Reps (bestN g g.Reps.length))
theorem most_ok (g : Group) (h0 : 0 < g.Reps.length) (h1 : g.Reps.length ≤ 2 ^ 20) : ACall Tryz.prog 158 [.agg (Group.row false g)] (fun x _ => x = .agg (Replica.row false (nth g.Reps (bestN g g.Reps.length)))) := by
 have hmx := mx_eq
 refine fi H158 fun E hE hH => ?_; simp only [go_sem] at hE hH; simp only [go_sem, hE, hH, C158]
 try simp (disch := omega) only [go_sem, hE, hH]
 repeat' (first | ((with_reducible first | refine gd_t ?_ ?_ | refine gd_f ?_ ?_) <;> (intro h; have hb := h; (try simp only [nf] at h); refine sb ?_; (try clear hb))) | ((with_reducible refine And.intro ?_ ?_); · omega) | (with_reducible apply jn) | (with_reducible apply both) | (with_reducible refine And.intro ?_ ?_) | exact fj | refine st ?_ | exact fm | refine s1 ?_ | (with_reducible exact True.intro) | fail)
 refine loopNe g.Reps.length (fun j (_ : Unit) => ⟨[(2, .ptr 3000000 0 0), (3, .ptr 4000000 0 0), (11, .sl false 3 (g.Reps.map (Replica.row false))), (12, i64 g.Reps.length), (13, i64 j)], [(3000000, ⟨3, [[bl false, nils, i64 0]]⟩), (4000000, ⟨3, [Replica.row false (nth g.Reps (bestN g j))]⟩)]⟩) (fun _ _ => True) () rfl trivial ?_
 intro j _ hj _
 try simp only [go_sem, hE, hH, C158_l1]
 first | refine gd_t (fun h => ?_) (fun h => ?_) | refine gd_f (fun h => ?_) (fun h => ?_)
 ·have hb := h
  simp only [nf] at h
  have hlt : j < g.Reps.length := by omega
  try simp (disch := omega) only [go_sem, hE, hH, hb]
  repeat' (first | ((with_reducible first | refine gd_t ?_ ?_ | refine gd_f ?_ ?_) <;> (intro h; have hb := h; (try simp only [nf] at h); refine sb ?_; (try clear hb))) | ((with_reducible refine And.intro ?_ ?_); · omega) | (with_reducible apply jn) | (with_reducible apply both) | (with_reducible refine And.intro ?_ ?_) | exact fj | refine st ?_ | exact fm | refine s1 ?_ | (with_reducible exact True.intro) | fail)
  all_goals (
   refine ⟨(), ?_⟩
   rw [bestN]
   split <;> first | rfl | (exfalso; omega))
 ·try simp (disch := omega) only [go_sem, hE, hH, h]
  simp only [nf] at h
  have hjl : j = g.Reps.length := by omega
  rw [hjl]
  exact ⟨rfl, rfl, rfl⟩
theorem sureState_ok (hS : SortNe) (g : Group) (hg : grpOk g = true) : ACall Tryz.prog 88 [.agg (Group.row false g)] (fun x _ => x = .agg (State.row true (sureS g))) := by
 have hmx := mx_eq
 obtain ⟨h3, h5, hr⟩ := grpOk_g hg
 have hb := hr _ (nth_mem (bestN_lt (g := g) (by omega) g.Reps.length (Nat.le_refl _)))
 obtain ⟨q1, q2⟩ := repG_take hb
 refine fi H88 fun E hE hH => ?_; simp only [go_sem] at hE hH; simp only [go_sem, hE, hH, C88]
 repeat' (first | ((with_reducible first | refine gd_t ?_ ?_ | refine gd_f ?_ ?_) <;> (intro h; have hb := h; (try simp only [nf] at h); refine sb ?_; (try clear hb))) | ((with_reducible refine And.intro ?_ ?_); · omega) | ((first | refine ok_view ?_ | refine cvA (most_ok g (by omega) (by omega)) ?_ | refine cvA (sure_ok (nth g.Reps (bestN g g.Reps.length)) hb.s0 hb.s1) ?_ | refine cvA (denoted_ok hS _ q1 q2) ?_); refine st ?_) | (with_reducible apply jn) | (with_reducible apply both) | (with_reducible refine And.intro ?_ ?_) | exact fj | refine st ?_ | exact fm | refine s1 ?_ | (with_reducible exact True.intro) | fail)
 all_goals rfl
theorem repMeans_ok (r : Replica) (h : repG r) : ACall Tryz.prog 93 [.sl false 8 (r.Log.map (Entry.row false)), i64 r.Sure] (fun x _ => x = .agg (State.row false (repS r))) := by
 have hmx := mx_eq
 obtain ⟨q1, q2⟩ := repG_take h
 have h0 := h.s0
 have h1 := h.s1
 have hl := h.len
 have := l16Means_ok r.Log r.Sure.toNat (by omega) (by omega) _ rfl q1 q2
 rwa [Int.toNat_of_nonneg h0] at this
theorem l16Sure_ok (g : Group) (hg : grpOk g = true) : ACall Tryz.prog 86 [.agg (Group.row false g)] (fun x _ => x = .agg (State.row false (sureS g))) := by
 have hmx := mx_eq
 obtain ⟨h3, h5, hr⟩ := grpOk_g hg
 have hlb := bestN_lt (g := g) (by omega) g.Reps.length (Nat.le_refl _)
 have hb := hr _ (nth_mem hlb)
 refine fi H86 fun E hE hH => ?_; simp only [go_sem] at hE hH; simp only [go_sem, hE, hH, C86]
 try simp (disch := omega) only [go_sem, hE, hH]
 refine loopNe g.Reps.length (fun j (_ : Unit) => ⟨[(1, .ptr 2000000 0 0), (2, .ptr 3000000 0 0), (3, i64 (bestN g j)), (7, .sl false 3 (g.Reps.map (Replica.row false))), (8, i64 g.Reps.length), (9, i64 j)], [(2000000, ⟨3, [Group.row false g]⟩), (3000000, ⟨4, [[i64 0, nils, nils, nils]]⟩)]⟩) (fun _ _ => True) () rfl trivial ?_
 intro j _ hj _
 try simp only [go_sem, hE, hH, C86_l1]
 first | refine gd_t (fun h => ?_) (fun h => ?_) | refine gd_f (fun h => ?_) (fun h => ?_)
 ·have hb := h
  simp only [nf] at h
  have hlt : j < g.Reps.length := by omega
  have hlj := bestN_lt (g := g) (by omega) j hj
  try simp (disch := omega) only [go_sem, hE, hH, hb]
  repeat' (first | ((with_reducible first | refine gd_t ?_ ?_ | refine gd_f ?_ ?_) <;> (intro h; have hb := h; (try simp only [nf] at h); refine sb ?_; (try clear hb))) | ((with_reducible refine And.intro ?_ ?_); · omega) | (with_reducible apply jn) | (with_reducible apply both) | (with_reducible refine And.intro ?_ ?_) | exact fj | refine st ?_ | exact fm | refine s1 ?_ | (with_reducible exact True.intro) | fail)
  all_goals (
   refine ⟨(), ?_⟩
   rw [bestN]
   split <;> first | rfl | (exfalso; omega))
 ·try simp (disch := omega) only [go_sem, hE, hH, h]
  simp only [nf] at h
  have hjl : j = g.Reps.length := by omega
  rw [hjl]
  try simp (disch := omega) only [go_sem, hE, hH]
  repeat' (first | ((with_reducible first | refine gd_t ?_ ?_ | refine gd_f ?_ ?_) <;> (intro h; have hb := h; (try simp only [nf] at h); refine sb ?_; (try clear hb))) | ((with_reducible refine And.intro ?_ ?_); · omega) | ((first | refine ok_view ?_ | refine cvA (repMeans_ok _ hb) ?_); refine st ?_) | (with_reducible apply jn) | (with_reducible apply both) | (with_reducible refine And.intro ?_ ?_) | exact fj | refine st ?_ | exact fm | refine s1 ?_ | (with_reducible exact True.intro) | fail)
  all_goals first | rfl | trace_state
def sureO (g : Group) : Option State := if grpOk g = true then some (sureS g) else none
theorem SureState_ok (hS : SortNe) (g : Group) (hw : grpW g) : ACall Tryz.prog 36 [.agg (Group.row false g)] (fun x _ => x = appR (sureO g)) := by
 have hmx := mx_eq
 have z1 : st0.Cells = [] := rfl
 have z2 : st0.Held = [] := rfl
 have z3 : st0.Told = [] := rfl
 have z4 : st0.Floor = 0 := rfl
 have c1 := GoodGroup_ok g hw
 cases hg : grpOk g with
 | false =>
  rw [hg] at c1
  rw [show sureO g = none by rw [sureO, hg]; rfl, appR]
  refine fi H36 fun E hE hH => ?_; simp only [go_sem] at hE hH; simp only [go_sem, hE, hH, T1_x]
  try simp (disch := omega) only [go_sem, hE, hH]
  repeat' (first | ((with_reducible first | refine gd_t ?_ ?_ | refine gd_f ?_ ?_) <;> (intro h; have hb := h; (try simp only [nf] at h); simp (disch := omega) only [go_sem, hE, hH, z1, z2, z3, z4, hb]; (try clear hb))) | ((with_reducible refine And.intro ?_ ?_); · omega) | ((first | refine ok_view ?_ | refine cvA (c1) ?_); simp (disch := omega) only [go_sem, hE, hH, z1, z2, z3, z4]) | (with_reducible apply jn) | (with_reducible apply both) | (with_reducible refine And.intro ?_ ?_) | ((with_reducible apply fin_eq); (try (simp (disch := omega) only [go_sem, hE, hH, z1, z2, z3, z4])); first | done | rfl) | (simp (disch := omega) only [go_sem, hE, hH, z1, z2, z3, z4]) | ((first | apply noMLL_sE | apply pk_sE) <;> (simp only [go_sem, hE, hH, z1, z2, z3, z4]; done)) | (simp only [go_sem, hE, hH, z1, z2, z3, z4]) | fail)
  all_goals first | rfl | trace_state
 | true =>
  rw [hg] at c1
  rw [show sureO g = some (sureS g) by rw [sureO, hg]; rfl, appR]
  refine fi H36 fun E hE hH => ?_; simp only [go_sem] at hE hH; simp only [go_sem, hE, hH, T1_x]
  repeat' (first | ((with_reducible first | refine gd_t ?_ ?_ | refine gd_f ?_ ?_) <;> (intro h; have hb := h; (try simp only [nf] at h); refine sb ?_; (try clear hb))) | ((with_reducible refine And.intro ?_ ?_); · omega) | ((first | refine ok_view ?_ | refine cvA (c1) ?_ | refine cvA (sureState_ok hS g hg) ?_); refine st ?_) | (with_reducible apply jn) | (with_reducible apply both) | (with_reducible refine And.intro ?_ ?_) | exact fj | refine st ?_ | exact fm | refine s1 ?_ | (with_reducible exact True.intro) | fail)
  all_goals first | rfl | trace_state
theorem sSureState_ok (g : Group) (hw : grpW g) : ACall Tryz.prog 35 [.agg (Group.row false g)] (fun x _ => x = sAppR ((sureO g).getD st0) (sureO g).isSome) := by
 have hmx := mx_eq
 have z1 : st0.Cells = [] := rfl
 have z2 : st0.Held = [] := rfl
 have z3 : st0.Told = [] := rfl
 have z4 : st0.Floor = 0 := rfl
 have c1 := sGoodGroup_ok g hw
 cases hg : grpOk g with
 | false =>
  rw [hg] at c1
  rw [show sureO g = none by rw [sureO, hg]; rfl, Option.isSome_none, Option.getD_none, sAppR]
  refine fi H35 fun E hE hH => ?_; simp only [go_sem] at hE hH; simp only [go_sem, hE, hH, T1_x]
  try simp (disch := omega) only [go_sem, hE, hH]
  repeat' (first | ((with_reducible first | refine gd_t ?_ ?_ | refine gd_f ?_ ?_) <;> (intro h; have hb := h; (try simp only [nf] at h); simp (disch := omega) only [go_sem, hE, hH, z1, z2, z3, z4, hb]; (try clear hb))) | ((with_reducible refine And.intro ?_ ?_); · omega) | ((first | refine ok_view ?_ | refine cvA (c1) ?_); simp (disch := omega) only [go_sem, hE, hH, z1, z2, z3, z4]) | (with_reducible apply jn) | (with_reducible apply both) | (with_reducible refine And.intro ?_ ?_) | ((with_reducible apply fin_eq); (try (simp (disch := omega) only [go_sem, hE, hH, z1, z2, z3, z4])); first | done | rfl) | (simp (disch := omega) only [go_sem, hE, hH, z1, z2, z3, z4]) | ((first | apply noMLL_sE | apply pk_sE) <;> (simp only [go_sem, hE, hH, z1, z2, z3, z4]; done)) | (simp only [go_sem, hE, hH, z1, z2, z3, z4]) | fail)
  all_goals first | rfl | trace_state
 | true =>
  rw [hg] at c1
  rw [show sureO g = some (sureS g) by rw [sureO, hg]; rfl, Option.isSome_some, Option.getD_some, sAppR]
  refine fi H35 fun E hE hH => ?_; simp only [go_sem] at hE hH; simp only [go_sem, hE, hH, T1_x]
  repeat' (first | ((with_reducible first | refine gd_t ?_ ?_ | refine gd_f ?_ ?_) <;> (intro h; have hb := h; (try simp only [nf] at h); refine sb ?_; (try clear hb))) | ((with_reducible refine And.intro ?_ ?_); · omega) | ((first | refine ok_view ?_ | refine cvA (c1) ?_ | refine cvA (l16Sure_ok g hg) ?_); refine st ?_) | (with_reducible apply jn) | (with_reducible apply both) | (with_reducible refine And.intro ?_ ?_) | exact fj | refine st ?_ | exact fm | refine s1 ?_ | (with_reducible exact True.intro) | fail)
  all_goals first | rfl | trace_state
theorem szL_bd2 {α : Type} {f : α → Nat} {C : Nat} : ∀ {l : List α}, (∀ x ∈ l, f x ≤ C) → szL f l ≤ (C + 1) * l.length
 | [], _ => by simp [szL]
 | x :: l, h => by
  have h1 := szL_bd2 (l := l) fun y hy => h y (List.mem_cons_of_mem _ hy)
  have h2 := h x List.mem_cons_self
  simp only [szL, List.map_cons, List.sum_cons, List.length_cons, Nat.mul_succ] at h1 ⊢
  omega
theorem risB_key {l : List ByteArray} (h : risB l = true) : ∀ x ∈ l, goodKey x = true := by
 intro x hx
 obtain ⟨i, hi, rfl⟩ := List.getElem_of_mem hx
 simp only [risB] at h
 have := allN_iff.1 h i hi
 simp only [Bool.and_eq_true, nth_lt hi] at this
 exact this.1
theorem stI.sz {n : Nat} {s : State} (h : stI n s) (hn : n ≤ 1000) : s.sz ≤ 2 ^ 20 := by
 have hc := goodCells_I h.cells
 have hl := hc.len
 have h1 : szL Cell.sz s.Cells ≤ (2000 + 1) * s.Cells.length := szL_bd2 fun c q => by
  have h2 := (hc.one c q).2
  have h3 := hc.wf c q
  have h4 : szL Ver.sz c.Vers ≤ (100 + 1) * c.Vers.length := szL_bd2 fun v hv => h3.2 v hv
  have h5 : (100 + 1) * c.Vers.length ≤ (100 + 1) * 16 := Nat.mul_le_mul_left _ (by omega)
  show c.Key.size + szL Ver.sz c.Vers ≤ 2000
  omega
 have h2 : szL Held.sz s.Held ≤ (2000 + 1) * s.Held.length := szL_bd2 fun x q => by
  have h3 := hldOk_lists (h.hok x q)
  have h4 : szL ByteArray.size x.Reads ≤ (100 + 1) * x.Reads.length := szL_bd2 fun v hv => by
   have := goodKey_size (risB_key h3.2.2.2.1 v hv); omega
  have h5 : szL Write.sz x.Writes ≤ (100 + 1) * x.Writes.length := szL_bd2 fun v hv => by
   obtain ⟨i, hi, rfl⟩ := List.getElem_of_mem hv
   have h6 := h3.2.2.1
   rw [goodWrites_eq] at h6
   simp only [Bool.and_eq_true, Bool.not_eq_true', List.any_eq_false] at h6
   have h7 := goodKey_size (risB_key h6.1.2 _ (List.mem_map.2 ⟨_, hv, rfl⟩))
   have h8 := h6.2 _ hv
   have h8 : stored (x.Writes[i]).Val (x.Writes[i]).Gone = true := by simpa using h8
   have := stored_size h8
   show (x.Writes[i]).Key.size + (x.Writes[i]).Val.size ≤ 100
   omega
  have h6 : (100 + 1) * x.Reads.length ≤ (100 + 1) * 8 := Nat.mul_le_mul_left _ (by omega)
  have h7 : (100 + 1) * x.Writes.length ≤ (100 + 1) * 8 := Nat.mul_le_mul_left _ (by omega)
  show szL ByteArray.size x.Reads + szL Write.sz x.Writes ≤ 2000
  omega
 have h3 := h.tlen
 have h4 := h.hlen
 have h5 : (2000 + 1) * s.Cells.length ≤ (2000 + 1) * 24 := Nat.mul_le_mul_left _ (by omega)
 have h6 : (2000 + 1) * s.Held.length ≤ (2000 + 1) * 12 := Nat.mul_le_mul_left _ (by omega)
 show szL Cell.sz s.Cells + szL Held.sz s.Held + s.Told.length ≤ 2 ^ 20
 omega
theorem sureO_sz {g : Group} : ((sureO g).getD st0).sz ≤ 2 ^ 20 := by
 rw [sureO]
 split
 ·rename_i h
  obtain ⟨h3, h5, hr⟩ := grpOk_g h
  exact (repS_I (hr _ (nth_mem (bestN_lt (g := g) (by omega) g.Reps.length (Nat.le_refl _))))).sz (by omega)
 ·exact st0_I.sz (by omega)
theorem appR_eq (o : Option State) : appR o = .tup [.agg (State.row true (o.getD st0)), bl o.isSome] := by cases o <;> rfl
theorem FnExactSureState_ok (hS : SortNe) (vG : Group) (wG : vG.wf) : ACall Tryz.prog 7 [.agg (Group.row false vG)] (fun r _ => r = bl true) := by
 have hmx := mx_eq
 have lG : vG.lim := Group.lim_of wG
 refine fi H7 fun E hE hH => ?_; simp only [go_sem] at hE hH; simp only [go_sem, hE, hH, C7]
 refine ok_view ?_; simp (disch := omega) only [go_sem, hE, hH]; refine cvA (szGroup_ok vG _ (by decide) (by decide) wG) ?_
 refine aftV_intro ?_
 rintro r l ⟨n1, rfl, hn1, hsz1⟩
 try simp (disch := omega) only [go_sem, hE, hH]
 first | refine gd_t (fun h1 => ?_) (fun h1 => ?_) | refine gd_f (fun h1 => ?_) (fun h1 => ?_)
 ·try simp (disch := omega) only [go_sem, hE, hH, h1]
 have hb1 := h1
 simp only [nf] at h1
 try simp (disch := omega) only [go_sem, hE, hH, hb1]
 have sG : vG.sz ≤ 2 ^ 20 := by have := hsz1 h1; omega
 have hp := grpW_of wG sG
 have hz := sureO_sz (g := vG)
 have hlim := State.lim_sz (x := (sureO vG).getD st0) (by omega)
 have cI := SureState_ok hS vG hp
 rw [appR_eq] at cI
 have cS := sSureState_ok vG hp
 have cS2 : ACall Tryz.prog 35 [.agg (Group.row true vG)] (fun x a => x = sAppR ((sureO vG).getD st0) (sureO vG).isSome ∧ a = [.any]) := frz_eq cS (by simp only [go_sem]; rfl) rfl
 simp only [sAppR] at cS2
 generalize hS0 : (sureO vG).getD st0 = s at *
 generalize hB0 : (sureO vG).isSome = b at *
 have c1 := Group.cntv_le vG
 have c2 := State.cntv_le s
 have e1 := Group.mkv_cnt vG 1
 have e2 := State.mkv_cnt s 1
 repeat' (first | ((with_reducible first | refine gd_t ?_ ?_ | refine gd_f ?_ ?_) <;> (intro h; have hb := h; (try simp only [nf] at h); refine sb ?_; (try clear hb))) | ((with_reducible refine And.intro ?_ ?_); · omega) | (refine ok_lend [true] ?_; refine st ?_; refine cmA (cS2) ?_; refine st ?_) | (refine ok_lend [true, false] ?_; refine st ?_; refine cmA (markGroup_ok vG 1 (by omega) (by omega)) ?_; refine st ?_) | (refine ok_lend [true, false] ?_; refine st ?_; refine cmA (markState_ok s 1 (by omega) (by omega)) ?_; refine st ?_) | ((first | refine ok_view ?_ | refine cvA (toGroup_ok vG sG) ?_ | refine cvA (cI) ?_ | refine cvA (eqGroup_ok vG vG lG) ?_ | refine cvA (eqState_ok s s hlim) ?_ | refine cvA (heldState_ok s 1 (by omega) (by omega)) ?_); refine st ?_) | (with_reducible apply jn) | (with_reducible apply both) | (with_reducible refine And.intro ?_ ?_) | exact fj | refine st ?_ | exact fm | refine s1 ?_ | (with_reducible exact True.intro) | fail)
 all_goals omega
end Go.Proofs.Wb

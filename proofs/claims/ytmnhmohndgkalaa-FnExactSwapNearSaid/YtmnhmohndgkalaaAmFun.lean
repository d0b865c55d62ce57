/- Packing, leaving and entering functions. -/
import Derived.Test.YtmnhmohndgkalaaAmCall
set_option linter.unusedSimpArgs false
set_option linter.unusedVariables false
set_option linter.unusedSectionVars false
namespace Go.Am
open Go Go.RowKit

def pkLeaf (s : St) : T → Option (T × List Nat × Prop)
  | .ref id lo n =>
    match lk id s.objs with
    | some ob => some (.sl true ob.k ob.rows, [id], lo = 0 ∧ n = ob.rows.length ∧ packedLL ob.rows)
    | none => none
  | .ptr id i o =>
    match lk id s.objs with
    | some ⟨_, [row]⟩ => some (.bx true row, [id], i = 0 ∧ o = 0 ∧ packedL row)
    | _ => none
  | t => some (t, [], t.packed ∧ t.bare = true)
def pkRow (s : St) : List T → Option (List T × List Nat × Prop)
  | [] => some ([], [], True)
  | t :: ts =>
    match pkLeaf s t, pkRow s ts with
    | some (u, i, c), some (us, j, d) => some (u :: us, i ++ j, c ∧ d)
    | _, _ => none
def pkT (s : St) : T → Option (T × List Nat × Prop)
  | .agg row =>
    match pkRow s row with
    | some (us, i, c) => some (.agg us, i, c)
    | none => none
  | t => pkLeaf s t
def pkL (s : St) : List T → Option (List T × List Nat × Prop)
  | [] => some ([], [], True)
  | t :: ts =>
    match pkT s t, pkL s ts with
    | some (u, i, c), some (us, j, d) => some (u :: us, i ++ j, c ∧ d)
    | _, _ => none

section
variable {P : Program} {E : Env} {s : St} {a : Act} {w : World} {S : Nat → Prop} {ρ : Nat → Option Hd} {foot : Nat → List Nat} {o : Oper}

theorem pkLeaf_ok (h : SimX E s a w S ρ foot) {t : T} {y : Value} (hr : Rep S w ρ t y []) {t' : T} {ids : List Nat} {c : Prop} (hp : pkLeaf s t = some (t', ids, c)) (hc : c) :
    ∃ F, Rep S w noH t' y F ∧ F.Sublist (ids.flatMap foot) ∧ ∀ id, id ∈ ids → ∃ ob, lk id s.objs = some ob := by
  unfold pkLeaf at hp
  split at hp
  · rename_i id lo n
    split at hp
    · rename_i ob ho
      simp only [Option.some.injEq, Prod.mk.injEq] at hp
      obtain ⟨rfl, rfl, rfl⟩ := hp
      obtain ⟨rfl, rfl, hpk⟩ := hc
      simp only [Rep] at hr ⊢
      obtain ⟨_, hd, a0, c, e1, rfl, e3, e4, e5⟩ := hr
      obtain ⟨hd', e6, e7, e8⟩ := h.objs id ob ho
      rw [e1] at e6; simp at e6; subst e6
      have hex : ∀ i, i ∈ [id] → ∃ ob, lk i s.objs = some ob := by intro i hi; simp at hi; subst hi; exact ⟨ob, ho⟩
      have empty : ob.rows = [] → c = 0 → ∃ F, (∃ a cap, Value.slice a0 ob.rows.length c = .slice a ob.rows.length cap ∧ ((cap = 0 ∧ ob.rows = [] ∧ F = []) ∨
         ∃ b off arr el fr Fs, a = some ⟨b, off, none⟩ ∧ w.heap[b]? = some (.cells arr el fr) ∧ ob.rows.length ≤ cap ∧ off + cap * ob.k ≤ arr.size ∧ RepRows S w noH (fun i => arr[i]?) off ob.k ob.rows Fs ∧ Held S true b Fs arr fr F)) ∧ F.Sublist ([id].flatMap foot) ∧ ∀ i, i ∈ [id] → ∃ ob, lk i s.objs = some ob :=
        fun hr hcc => ⟨[], ⟨a0, c, rfl, .inl ⟨hcc, hr, rfl⟩⟩, List.nil_sublist _, hex⟩
      rcases e8 with ⟨e8, e9, e10⟩ | ⟨b, off, arr, el, fr, Fs, f1, f2, f3, f4, f5, f6, f7⟩
      · exact empty e9 (by omega)
      · rcases e5 with e5 | ⟨b', off', e5, rfl⟩
        · exact empty (List.length_eq_zero_iff.1 (by omega)) e5
        · rw [f1] at e5; simp at e5; obtain ⟨rfl, rfl⟩ := e5
          have hck : c * ob.k ≤ hd.cap * ob.k := Nat.mul_le_mul_right _ (by omega)
          exact ⟨b :: Fs, ⟨_, c, rfl, .inr ⟨b, off, arr, el, fr, Fs, by simp, f2, e4, by omega, repRows_packed _ hpk f6, rfl, f5⟩⟩, by simp [f7], hex⟩
    · cases hp
  · rename_i id i q
    split at hp
    · rename_i k row ho
      simp only [Option.some.injEq, Prod.mk.injEq] at hp
      obtain ⟨rfl, rfl, rfl⟩ := hp
      obtain ⟨rfl, rfl, hpk⟩ := hc
      simp only [Rep] at hr ⊢
      obtain ⟨_, hd, b, off, e1, e2, rfl⟩ := hr
      obtain ⟨hd', e6, e7, e8⟩ := h.objs id _ ho
      rw [e1] at e6; simp at e6; subst e6
      rcases e8 with ⟨e8, e9, e10⟩ | ⟨b', off', arr, el, fr, Fs, f1, f2, f3, f4, f5, f6, f7⟩
      · cases e9
      · rw [e2] at f1; simp at f1; obtain ⟨rfl, rfl⟩ := f1
        simp only [RepRows] at f6
        obtain ⟨F1, F2, g1, g2, rfl, rfl⟩ := f6
        simp only at f3 f4
        have hk1 : k ≤ hd.cap * k := by
          have : 1 * k ≤ hd.cap * k := Nat.mul_le_mul_right _ f3
          omega
        refine ⟨foot id, ⟨b, off, arr, el, fr, F1 ++ [], by simp, f2, by omega, repRow_packed _ hpk (by simpa using g2), f7, f5⟩, by simp, fun i hi => by simp at hi; subst hi; exact ⟨_, ho⟩⟩
    · cases hp
  · rename_i t0 h1 h2
    simp only [Option.some.injEq, Prod.mk.injEq] at hp
    obtain ⟨rfl, rfl, rfl⟩ := hp
    exact ⟨[], rep_packed _ hc.1 hr, by simp, by simp⟩
theorem pkRow_ok (h : SimX E s a w S ρ foot) : ∀ {row : List T} {cell : Nat → Option Value} {b : Nat} {row' : List T} {ids : List Nat} {c : Prop}, RepRow S w ρ cell b row [] → pkRow s row = some (row', ids, c) → c →
    ∃ F, RepRow S w noH cell b row' F ∧ F.Sublist (ids.flatMap foot) ∧ (∀ id, id ∈ ids → ∃ ob, lk id s.objs = some ob) ∧ row'.length = row.length
  | [], cell, b, row', ids, c, hr, hp, hc => by
    simp only [pkRow, Option.some.injEq, Prod.mk.injEq] at hp
    obtain ⟨rfl, rfl, rfl⟩ := hp
    exact ⟨[], by simp [RepRow], by simp, by simp, rfl⟩
  | t :: ts, cell, b, row', ids, c, hr, hp, hc => by
    simp only [pkRow] at hp
    split at hp
    · rename_i u i c1 us j c2 h1 h2
      simp only [Option.some.injEq, Prod.mk.injEq] at hp
      obtain ⟨rfl, rfl, rfl⟩ := hp
      simp only [RepRow] at hr
      obtain ⟨y, F1, F2, e0, e1, e2, e3⟩ := hr
      obtain ⟨rfl, rfl⟩ := List.append_eq_nil_iff.1 e3.symm
      obtain ⟨G1, g1, g2, g3⟩ := pkLeaf_ok h e1 h1 hc.1
      obtain ⟨G2, g4, g5, g6, g7⟩ := pkRow_ok h e2 h2 hc.2
      refine ⟨G1 ++ G2, ?_, by rw [List.flatMap_append]; exact List.Sublist.append g2 g5, fun id hid => (List.mem_append.1 hid).elim (g3 id) (g6 id), by simp [g7]⟩
      simp only [RepRow]
      exact ⟨y, G1, G2, e0, g1, g4, rfl⟩
    · cases hp
theorem pkT_ok (h : SimX E s a w S ρ foot) {t : T} {y : Value} (hr : Rep S w ρ t y []) {t' : T} {ids : List Nat} {c : Prop} (hp : pkT s t = some (t', ids, c)) (hc : c) :
    ∃ F, Rep S w noH t' y F ∧ F.Sublist (ids.flatMap foot) ∧ ∀ id, id ∈ ids → ∃ ob, lk id s.objs = some ob := by
  by_cases ha : ∃ row, t = .agg row
  · obtain ⟨row, rfl⟩ := ha
    simp only [pkT] at hp
    split at hp
    · rename_i us i c1 h1
      simp only [Option.some.injEq, Prod.mk.injEq] at hp
      obtain ⟨rfl, rfl, rfl⟩ := hp
      simp only [Rep] at hr ⊢
      obtain ⟨cs, rfl, e1, e2⟩ := hr
      obtain ⟨F, g1, g2, g3, g4⟩ := pkRow_ok h e2 h1 hc
      exact ⟨F, ⟨cs, rfl, by rw [g4]; exact e1, g1⟩, g2, g3⟩
    · cases hp
  · have e : pkT s t = pkLeaf s t := by cases t <;> first | rfl | exact absurd ⟨_, rfl⟩ ha
    rw [e] at hp
    exact pkLeaf_ok h hr hp hc
theorem pkL_ok (h : SimX E s a w S ρ foot) : ∀ {row : List T} {cell : Nat → Option Value} {b : Nat} {row' : List T} {ids : List Nat} {c : Prop}, RepRow S w ρ cell b row [] → pkL s row = some (row', ids, c) → c →
    ∃ F, RepRow S w noH cell b row' F ∧ F.Sublist (ids.flatMap foot) ∧ (∀ id, id ∈ ids → ∃ ob, lk id s.objs = some ob) ∧ row'.length = row.length
  | [], cell, b, row', ids, c, hr, hp, hc => by
    simp only [pkL, Option.some.injEq, Prod.mk.injEq] at hp
    obtain ⟨rfl, rfl, rfl⟩ := hp
    exact ⟨[], by simp [RepRow], by simp, by simp, rfl⟩
  | t :: ts, cell, b, row', ids, c, hr, hp, hc => by
    simp only [pkL] at hp
    split at hp
    · rename_i u i c1 us j c2 h1 h2
      simp only [Option.some.injEq, Prod.mk.injEq] at hp
      obtain ⟨rfl, rfl, rfl⟩ := hp
      simp only [RepRow] at hr
      obtain ⟨y, F1, F2, e0, e1, e2, e3⟩ := hr
      obtain ⟨rfl, rfl⟩ := List.append_eq_nil_iff.1 e3.symm
      obtain ⟨G1, g1, g2, g3⟩ := pkT_ok h e1 h1 hc.1
      obtain ⟨G2, g4, g5, g6, g7⟩ := pkL_ok h e2 h2 hc.2
      refine ⟨G1 ++ G2, ?_, by rw [List.flatMap_append]; exact List.Sublist.append g2 g5, fun id hid => (List.mem_append.1 hid).elim (g3 id) (g6 id), by simp [g7]⟩
      simp only [RepRow]
      exact ⟨y, G1, G2, e0, g1, g4, rfl⟩
    · cases hp
theorem foots_nodup (h : SimX E s a w S ρ foot) : ∀ {ids : List Nat}, ids.Nodup → (∀ id, id ∈ ids → ∃ ob, lk id s.objs = some ob) → (ids.flatMap foot).Nodup
  | [], _, _ => by simp
  | id :: ids, hn, hex => by
    obtain ⟨h1, h2⟩ := List.nodup_cons.1 hn
    obtain ⟨ob, ho⟩ := hex id (List.mem_cons_self ..)
    simp only [List.flatMap_cons]
    refine List.nodup_append.2 ⟨h.nodup id ob ho, foots_nodup h h2 (fun i hi => hex i (List.mem_cons_of_mem _ hi)), ?_⟩
    intro x hx y hy e
    subst e
    obtain ⟨j, hj, hxj⟩ := List.mem_flatMap.1 hy
    obtain ⟨ob', ho'⟩ := hex j (List.mem_cons_of_mem _ hj)
    exact h.apart id ob j ob' ho ho' (fun e => h1 (e ▸ hj)) x hx hxj
theorem foots_mine (h : SimX E s a w S ρ foot) {ids : List Nat} (hex : ∀ id, id ∈ ids → ∃ ob, lk id s.objs = some ob) : ∀ b, b ∈ ids.flatMap foot → ¬ S b ∧ b < w.heap.size ∧ (b ∈ E.F0 ∨ E.w0.heap.size ≤ b) := by
  intro b hb
  obtain ⟨j, hj, hxj⟩ := List.mem_flatMap.1 hb
  obtain ⟨ob', ho'⟩ := hex j hj
  exact h.mine j ob' ho' b hxj
end

/-! ### Entering -/
def enterL (s : St) (j : Nat) : List T → St
  | [] => s
  | t :: ts => enterL (s.unp j t) (j + 1) ts
def entOk (s : St) (j : Nat) : List T → Prop
  | [] => True
  | t :: ts => unpOk s j t ∧ entOk (s.unp j t) (j + 1) ts
def st0 (args : List T) : St := enterL ⟨[], []⟩ 0 args
def pinsOf (args : List T) : List T := (List.range args.length).map fun j => (lk j (st0 args).slots).getD .any

section
variable {P : Program} {E : Env} {s : St} {a : Act} {w : World} {S : Nat → Prop} {ρ : Nat → Option Hd} {foot : Nat → List Nat}
theorem put_same {a : Act} {j : Nat} {v : Value} (h : a.tmps[j]? = some v) : a.put (some j) v = a := by
  cases a with
  | mk tmps defers =>
    simp only [Act.put]
    congr 1
    apply Array.ext_getElem?
    intro i
    rw [Array.getElem?_setIfInBounds]
    split
    · rename_i e; subst e; simp only at h; rw [h, if_pos (Array.getElem?_eq_some_iff.1 h).1]
    · rfl
theorem enterL_ok (hp0 : E.pins = []) : ∀ {args : List T} {s : St} {ρ : Nat → Option Hd} {foot : Nat → List Nat} {j : Nat} {cell : Nat → Option Value} {F : List Nat}, SimX E s a w S ρ foot → RepRow S w noH cell j args F → (∀ i, i < args.length → ∃ v, cell (j + i) = some v ∧ a.tmps[j + i]? = some v) → Free E s w S foot F → entOk s j args → j + args.length ≤ E.nt →
    ∃ ρ' foot', SimX E (enterL s j args) a w S ρ' foot'
  | [], s, ρ, foot, j, cell, F, h, _, _, _, _, _ => ⟨ρ, foot, h⟩
  | t :: ts, s, ρ, foot, j, cell, F, h, hr, hv, hf, hok, hn => by
    simp only [RepRow] at hr
    obtain ⟨y, F1, F2, e0, e1, e2, rfl⟩ := hr
    obtain ⟨v, v1, v2⟩ := hv 0 (by simp)
    rw [Nat.add_zero] at v1 v2
    rw [e0] at v1; simp at v1; subst v1
    have hokd : ∀ i, E.okd i := fun i p hp => by rw [hp0] at hp; cases hp
    obtain ⟨ρ1, foot1, id, id', l1, l2, _⟩ := unp_ok h (d := j) (by simp at hn; omega) e1 (hf.sub (List.sublist_append_left _ _)) ⟨hokd j, fun i _ => hokd i⟩ hok.1
    rw [put_same v2] at l1
    exact enterL_ok (args := ts) (s := s.unp j t) (j := j + 1) hp0 l1 e2 (fun i hi => by
      have := hv (i + 1) (by simpa using hi)
      rwa [show j + (i + 1) = j + 1 + i from by omega] at this) (l2 F2 hf) hok.2 (by simp at hn; omega)
theorem simX_env {E' : Env} (h : SimX E s a w S ρ foot) (h1 : E'.w0 = E.w0) (h2 : E'.F0 = E.F0) (h3 : E'.S0 = E.S0) (h4 : E'.nt = E.nt) (hp : ∀ p, p ∈ E'.pins → Rep S w ρ p.1 p.2 []) : SimX E' s a w S ρ foot where
  nt := by rw [h4]; exact h.nt
  defers := h.defers
  slots := h.slots
  objs := h.objs
  nodup := h.nodup
  apart := h.apart
  mine := by rw [h1, h2]; exact h.mine
  shared := by rw [h1, h2, h3]; exact h.shared
  S0 := by rw [h3]; exact h.S0
  kept := by rw [h1, h2]; exact h.kept
  pins := hp

/-! ### Leaving -/
def resV (P : Program) (s : St) : ResultVar → Option T
  | .tmp t => lk t s.slots
  | .cell x t =>
    match lk x s.slots, wide P t with
    | some (.ptr id i q), some m =>
      match lk id s.objs with
      | some ob => if ((takeRow m ((ob.rows.getD i []).drop q)).all T.bare) && Nat.blt i ob.rows.length then wrapRow m (takeRow m ((ob.rows.getD i []).drop q)) else none
      | none => none
    | _, _ => none
def resL (P : Program) (s : St) : List ResultVar → Option (List T)
  | [] => some []
  | x :: r =>
    match resV P s x, resL P s r with
    | some t, some l => some (t :: l)
    | _, _ => none
def mkRes : List T → T
  | [x] => x
  | l => .tup l
def RetOk (P : Program) (rvs : List ResultVar) (us : List T) (R : T → List T → Prop) (s : St) : Prop :=
  ∃ rs l ids c, resL P s rvs = some rs ∧ pkL s (rs ++ us) = some (l, ids, c) ∧ c ∧ ids.Nodup ∧ R (mkRes (l.take rs.length)) (l.drop rs.length)
def resM (tmps : Array Value) : ResultVar → Sem Value
  | .tmp t => pure (tmps.getD t undef)
  | .cell x t => do loadVar t (← asAddr (tmps.getD x undef))
def mkVal : List Value → Value
  | [y] => y
  | l => .tuple ⟨l⟩
theorem resV_ok (h : SimX E s a w S ρ foot) {x : ResultVar} {t : T} (hx : resV P s x = some t) : ∃ y, Rep S w ρ t y [] ∧ (resM a.tmps x).run P w = .ok y w := by
  cases x with
  | tmp n => exact ⟨_, h.slots n t hx, by simp [resM]⟩
  | cell x ty =>
    simp only [resV] at hx
    split at hx
    · rename_i id i q m h1 h2
      split at hx
      · rename_i ob ho
        split at hx
        · rename_i hc
          simp only [Bool.and_eq_true, Nat.blt_eq] at hc
          have hr := h.slots x _ h1
          simp only [Rep] at hr
          obtain ⟨_, hd, b, off, e1, e2, e3⟩ := hr
          obtain ⟨hd', e4, e5, e6⟩ := h.objs id ob ho
          rw [e1] at e4; simp at e4; subst e4
          rcases e6 with ⟨_, e6, _⟩ | ⟨b', off', arr, el, fr, Fs, f1, f2, f3, f4, f5, f6, f7⟩
          · rw [e6] at hc; simp at hc
          · rw [e2] at f1; simp at f1; obtain ⟨rfl, rfl⟩ := f1
            have hri : ob.rows[i]? = some (ob.rows.getD i []) := by simp [List.getD_eq_getElem?_getD, List.getElem?_eq_getElem hc.2]
            obtain ⟨G, g1, g2, g3⟩ := repRows_get f6 hri
            obtain ⟨G2, g4, g5⟩ := repRow_part g1 q (m.getD 1) (part_in h2 hx)
            have : G2 = [] := repRow_bare hc.1 g4
            subst this
            obtain ⟨y, y1, y2⟩ := run_loadVar (P := P) (b := b) (el := el) (fr := fr) h2 g4 hx
            refine ⟨y, y2, ?_⟩
            have := y1 w f2
            simp only [resM, e3, asAddr, Sem.run_bind, Sem.run_pure, Result.andThen_ok, e5]
            exact this
        · cases hx
      · cases hx
    · cases hx
theorem resL_ok (h : SimX E s a w S ρ foot) : ∀ {xs : List ResultVar} {ts : List T}, resL P s xs = some ts → ∃ ys : List Value, ys.length = ts.length ∧ ts.length = xs.length ∧ RepRow S w ρ (fun i => ys[i]?) 0 ts [] ∧
    (xs.mapM (m := Sem) (resM a.tmps)).run P w = .ok ys w
  | [], ts, hr => by
    simp only [resL, Option.some.injEq] at hr
    subst hr
    exact ⟨[], rfl, rfl, by simp [RepRow], by simp⟩
  | x :: xs, ts, hr => by
    simp only [resL] at hr
    split at hr
    · rename_i t l h1 h2
      simp only [Option.some.injEq] at hr
      subst hr
      obtain ⟨y, y1, y2⟩ := resV_ok h h1
      obtain ⟨ys, z1, z2, z3, z4⟩ := resL_ok h h2
      refine ⟨y :: ys, by simp [z1], by simp [z2], ?_, ?_⟩
      · simp only [RepRow]
        exact ⟨y, [], [], rfl, y1, repRow_cell _ z3 (fun i _ => by simp [Nat.add_comm]), rfl⟩
      · rw [List.mapM_cons, Sem.run_bind, y2]
        simp only [Result.andThen_ok, Sem.run_bind, z4, Sem.run_pure]
    · cases hr
theorem run_results {fn : Func} {tmps : Array Value} {ys : List Value} (h : (fn.results.toList.mapM (m := Sem) (resM tmps)).run P w = .ok ys w) :
    (results fn tmps).run P w = .ok (mkVal ys) w := by
  have e : fn.results.mapM (m := Sem) (resM tmps) = (Functor.map List.toArray <| fn.results.toList.mapM (m := Sem) (resM tmps)) := by
    obtain ⟨l⟩ := fn.results
    simp
  have e2 : results fn tmps = (do let vs ← fn.results.mapM (m := Sem) (resM tmps); pure (if h : vs.size = 1 then vs[0] else .tuple vs)) := by
    unfold results
    congr 1
  rw [e2, Sem.run_bind, e, Sem.run_map, h]
  simp only [Result.andThen_ok]
  rcases ys with _ | ⟨y, _ | ⟨z, r⟩⟩ <;> simp [mkVal]
theorem acall_intro_us {f : Nat} {fn : Func} {c : Code} {st : Stmt} {args us : List T} (hus : us.length = args.length) (hus2 : ∀ i, i < args.length → us[i]? = some .any ∨ us[i]? = some ((lk i (st0 args).slots).getD .any)) {R : T → List T → Prop} (hf : P.funcs[f]? = some fn) (hb : fn.body = some c) (hst : comp P fn.ntmps c = some st) (hn : args.length ≤ fn.ntmps) (hent : entOk ⟨[], []⟩ 0 args)
    (H : ∀ E : Env, E.nt = fn.ntmps → E.pins.map (·.1) = pinsOf args → Ok P E st (fun e s => (e = .normal ∨ e = .ret) ∧ RetOk P fn.results.toList us R s) (st0 args)) : ACall P f args R := by
  intro w S0 F vs hvs hr hF hmine hS0
  let tmps0 : Array Value := vs ++ Array.replicate (fn.ntmps - vs.size) undef
  let E0 : Env := ⟨w, F, S0, fn.ntmps, []⟩
  have h0 : SimX E0 ⟨[], []⟩ ⟨tmps0, []⟩ w S0 (fun _ => none) (fun _ => []) := {
    nt := by simp [tmps0, E0]; omega
    defers := rfl
    slots := by intro n t h; simp [lk] at h
    objs := by intro d ob h; simp [lk] at h
    nodup := by intro d ob h; simp [lk] at h
    apart := by intro d ob d' ob' h; simp [lk] at h
    mine := by intro d ob h; simp [lk] at h
    shared := fun b hb => ⟨hS0 b hb, .inl hb⟩
    S0 := fun b hb => hb
    kept := Kept.refl _ _
    pins := by intro p hp; cases hp }
  have hcell : ∀ i, i < vs.size → tmps0[i]? = vs[i]? := fun i hi => by simp only [tmps0]; rw [Array.getElem?_append_left hi]
  obtain ⟨ρ1, foot1, h1⟩ := enterL_ok (E := E0) rfl h0 hr (fun i hi => by
    have hlt : i < vs.size := by omega
    exact ⟨vs[i], by simp [hlt], by simp only [Nat.zero_add]; rw [hcell i hlt]; simp [hlt]⟩) ⟨hF, fun b hb => ⟨(hmine b hb).1, (hmine b hb).2, .inl hb⟩, by intro d ob h; simp [lk] at h⟩ hent (by simp only [Nat.zero_add]; exact hn)
  let pins : List (T × Value) := (List.range args.length).map fun j => ((lk j (st0 args).slots).getD .any, vs.getD j undef)
  let E : Env := ⟨w, F, S0, fn.ntmps, pins⟩
  have h2 : SimX E (st0 args) ⟨tmps0, []⟩ w S0 ρ1 foot1 := simX_env h1 rfl rfl rfl rfl (by
    intro p hp
    obtain ⟨j, hj, rfl⟩ := List.mem_map.1 hp
    have hj' : j < args.length := by simpa using hj
    cases hl : lk j (st0 args).slots with
    | none => simp [Rep]
    | some t =>
      have := h1.slots j t hl
      have hlt : j < vs.size := by omega
      have e : tmps0.getD j undef = vs.getD j undef := by
        simp only [Array.getD_eq_getD_getElem?, hcell j hlt]
      rw [e] at this
      exact this)
  have hwp := H E rfl (by simp [E, pins, pinsOf]) c hst ⟨tmps0, []⟩ w ⟨S0, ρ1, foot1, h2⟩
  refine calls_of_wp hf hb (wp_mono hwp ?_)
  rintro e a' w' ⟨s', ⟨he, rs, l, ids, cc, r1, r2, r3, r4, r5⟩, S', ρ', foot', hs'⟩
  have key : a'.defers = [] ∧ ∃ v, (results fn a'.tmps).run P w' = .ok v w' ∧ ∃ rv r args' S' Fr Fa, Ending.returned v = .returned rv ∧ R r args' ∧ args'.length = args.length ∧ Back w S0 F vs rv w' r args' S' Fr Fa := by
    refine ⟨hs'.defers, ?_⟩
    obtain ⟨ys, y1, y2, y3, y4⟩ := resL_ok hs' r1
    refine ⟨_, run_results y4, ?_⟩
    -- the results and the pinned arguments, packed together
    have hpr : RepRow S' w' ρ' (fun i => (ys ++ vs.toList)[i]?) 0 (rs ++ us) [] := by
      refine (repRow_append _ _ _ _).2 ⟨[], [], ?_, ?_, rfl⟩
      · exact repRow_cell _ y3 fun i hi => by simp only [Nat.zero_add]; rw [List.getElem?_append_left (by omega)]
      · rw [repRow_iff]
        refine ⟨List.replicate us.length [], by simp, by simp, fun i t g hi hg => ?_⟩
        have hlt : i < args.length := by
          have := (List.getElem?_eq_some_iff.1 hi).1
          omega
        have hg' : g = [] := by
          have := List.mem_of_getElem? hg
          exact List.eq_of_mem_replicate this
        subst hg'
        have hp := hs'.pins ((lk i (st0 args).slots).getD .any, vs.getD i undef) (List.mem_map.2 ⟨i, by simpa using hlt, rfl⟩)
        have ht : t = .any ∨ t = (lk i (st0 args).slots).getD .any := by
          exact (hus2 i hlt).imp (fun h => by rw [hi] at h; simpa using h) (fun h => by rw [hi] at h; simpa using h)
        refine ⟨vs.getD i undef, ?_, (by rcases ht with rfl | rfl; simp [Rep]; exact hp)⟩
        simp only [Nat.zero_add]
        rw [List.getElem?_append_right (by omega)]
        have : i < vs.size := by omega
        simp [y1, this]
    obtain ⟨G, g1, g2, g3, g4⟩ := pkL_ok hs' hpr r2 r3
    have hnd := g2.nodup (foots_nodup hs' r4 g3)
    have hmn := fun b hb => foots_mine hs' g3 b (g2.subset hb)
    have hsplit : l = l.take rs.length ++ l.drop rs.length := (List.take_append_drop _ _).symm
    have hll : l.length = rs.length + args.length := by rw [g4]; simp [hus]
    have htl : (l.take rs.length).length = rs.length := by rw [List.length_take]; omega
    rw [hsplit] at g1
    obtain ⟨Fr, Fa, q1, q2, rfl⟩ := (repRow_append _ _ _ _).1 g1
    rw [htl] at q2
    have hres : ∃ rv, Ending.returned (mkVal ys) = .returned rv ∧ Rep S' w' noH (mkRes (l.take rs.length)) rv Fr := by
      refine ⟨_, rfl, ?_⟩
      have q1' : RepRow S' w' noH (fun i => ys[i]?) 0 (l.take rs.length) Fr := repRow_cell _ q1 fun i hi => by
        simp only [Nat.zero_add]
        rw [List.getElem?_append_left (by omega)]
      generalize l.take rs.length = m at *
      have hm : m.length = ys.length := by omega
      rcases ys with _ | ⟨y, _ | ⟨z, r⟩⟩
      · have : m = [] := List.length_eq_zero_iff.1 hm
        subst this
        simp only [mkRes, Rep]
        exact ⟨_, rfl, by simp, by simpa using q1'⟩
      · obtain ⟨t, rfl⟩ := List.length_eq_one_iff.1 (by simpa using hm)
        simp only [RepRow] at q1'
        obtain ⟨y', F1, F2, e0, e1, e2, rfl⟩ := q1'
        simp at e0; subst e0
        subst e2
        simpa [mkRes, mkVal] using e1
      · have : mkRes m = .tup m := by
          rcases m with _ | ⟨t, _ | ⟨u, r'⟩⟩
          · simp at hm
          · simp at hm
          · rfl
        rw [this]
        simp only [Rep]
        exact ⟨_, rfl, by simpa using hm.symm, by simpa using q1'⟩
    obtain ⟨rv, v1, v2⟩ := hres
    refine ⟨rv, _, _, S', Fr, Fa, v1, r5, by rw [List.length_drop]; omega, ⟨v2, ?_, hnd, hmn, hs'.shared, hs'.S0, hs'.kept⟩⟩
    refine repRow_cell _ q2 fun i hi => ?_
    simp only [Nat.zero_add]
    rw [List.getElem?_append_right (by omega)]
    simp [y1]
  cases e with
  | normal => exact key
  | ret => exact key
  | _ => exact absurd he (by simp)
theorem acall_intro {f : Nat} {fn : Func} {c : Code} {st : Stmt} {args : List T} {R : T → List T → Prop} (hf : P.funcs[f]? = some fn) (hb : fn.body = some c) (hst : comp P fn.ntmps c = some st) (hn : args.length ≤ fn.ntmps) (hent : entOk ⟨[], []⟩ 0 args)
    (H : ∀ E : Env, E.nt = fn.ntmps → E.pins.map (·.1) = pinsOf args → Ok P E st (fun e s => (e = .normal ∨ e = .ret) ∧ RetOk P fn.results.toList (pinsOf args) R s) (st0 args)) : ACall P f args R :=
  acall_intro_us (by simp [pinsOf]) (fun i hi => .inr (by simp [pinsOf, hi])) hf hb hst hn hent H
end
end Go.Am

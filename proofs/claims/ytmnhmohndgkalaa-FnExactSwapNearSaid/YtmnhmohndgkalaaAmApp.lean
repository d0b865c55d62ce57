/- append, and conversions between strings and bytes. -/
import Derived.Test.YtmnhmohndgkalaaAmBuf
set_option linter.unusedSimpArgs false
set_option linter.unusedVariables false
set_option linter.unusedSectionVars false
namespace Go.Am
open Go Go.RowKit
section
variable {P : Program} {E : Env} {s : St} {a : Act} {w : World} {S : Nat → Prop} {ρ : Nat → Option Hd} {foot : Nat → List Nat} {o : Oper}

/-- The cells of the first m elements, read in whatever world has the same blocks. -/
def Src (P : Program) (w : World) (k m : Nat) (y : Value) (new : Array Value) : Prop :=
  (∀ w', (Builtin.lenOf y).run P w' = .ok m w') ∧ ∀ n', (Builtin.firstCells k m y).run P { w with drawn := n' } = .ok new { w with drawn := n' }
structure BaseOk (S : Nat → Prop) (w : World) (ρ : Nat → Option Hd) (k : Nat) (rb : List (List T)) (x : Value) (F : List Nat) : Prop where
  ex : ∃ a0 c, x = .slice a0 rb.length c ∧ ((c = 0 ∧ rb = [] ∧ F = []) ∨
    ∃ b off arr el fr Fb, a0 = some ⟨b, off, none⟩ ∧ w.heap[b]? = some (.cells arr el fr) ∧ rb.length ≤ c ∧ off + c * k ≤ arr.size ∧ Thawed arr fr ∧ RepRows S w ρ (fun i => arr[i]?) off k rb Fb ∧ F = b :: Fb)
theorem rows_append {cell : Nat → Option Value} {k : Nat} {l m : List (List T)} {b : Nat} {F G : List Nat} (h : RepRows S w ρ cell b k l F) (h2 : RepRows S w ρ cell (b + l.length * k) k m G) : RepRows S w ρ cell b k (l ++ m) (F ++ G) := by
  rw [repRows_flatten] at h h2 ⊢
  refine ⟨fun r hr => (List.mem_append.1 hr).elim (h.1 r) (h2.1 r), ?_⟩
  rw [List.flatten_append, repRow_append]
  exact ⟨F, G, h.2, by rw [flatten_len h.1]; exact h2.2, rfl⟩
theorem run_append_fit0 {k : Nat} {sT yT e : TypeId} {inf : TypeInfo} {y : Value} (ty : TypeId) (h1 : P.underlying sT = some (.slice e)) (h2 : P.info? e = some inf) (hk : inf.size = k) (hyT : (∃ e2, P.underlying yT = some (.slice e2)) ∨ P.underlying yT = some .string)
    {a0 : Option Addr} (hl : (Builtin.lenOf y).run P w = .ok 0 w) (hf : (Builtin.firstCells k 0 y).run P w = .ok #[] w) :
    (Builtin.append_ #[sT, yT] ty #[.slice a0 0 0, y]).run P w = .ok (.slice a0 0 0) w := by
  have hsz : ∀ w', (sizeOf e).run P w' = .ok k w' := fun w' => by simp [sizeOf, typeInfo, h2, hk]
  rcases hyT with ⟨e2, hy⟩ | hy
  · cases a0 <;> simp [Builtin.append_, underlying, h1, hy, hsz, hl, hf, storeCells]
  · cases a0 <;> simp [Builtin.append_, underlying, h1, hy, hsz, hl, hf, storeCells]
theorem run_append_fit {k m : Nat} {sT yT e : TypeId} {inf : TypeInfo} {y : Value} (ty : TypeId) (h1 : P.underlying sT = some (.slice e)) (h2 : P.info? e = some inf) (hk : inf.size = k) (hyT : (∃ e2, P.underlying yT = some (.slice e2)) ∨ P.underlying yT = some .string)
    {b off n c : Nat} {new : Array Value} (hl : (Builtin.lenOf y).run P w = .ok m w) (hf : (Builtin.firstCells k m y).run P w = .ok new w) (hc : n + m ≤ c) {w' : World} (hs : (storeCells ⟨b, off + n * k, none⟩ new.toList 0).run P w = .ok () w') :
    (Builtin.append_ #[sT, yT] ty #[.slice (some ⟨b, off, none⟩) n c, y]).run P w = .ok (.slice (some ⟨b, off, none⟩) (n + m) c) w' := by
  have hsz : ∀ w', (sizeOf e).run P w' = .ok k w' := fun w' => by simp [sizeOf, typeInfo, h2, hk]
  rcases hyT with ⟨e2, hy⟩ | hy
  · simp [Builtin.append_, underlying, h1, hy, hsz, hl, hf, hc, add_none, hs]
  · simp [Builtin.append_, underlying, h1, hy, hsz, hl, hf, hc, add_none, hs]
theorem run_append_grow' {k m : Nat} {sT yT e : TypeId} {inf : TypeInfo} {z : Value} {y : Value} (ty : TypeId) (h1 : P.underlying sT = some (.slice e)) (h2 : P.info? e = some inf) (h3 : inf.zero = some z) (hk : inf.size = k) (hyT : (∃ e2, P.underlying yT = some (.slice e2)) ∨ P.underlying yT = some .string)
    {a0 : Option Addr} {n c : Nat} {new old : Array Value} (hl : (Builtin.lenOf y).run P w = .ok m w) (hf : (Builtin.firstCells k m y).run P w.drew = .ok new w.drew) (ho : (Builtin.firstCells k n (.slice a0 n c)).run P w.drew = .ok old w.drew) (hc : ¬ n + m ≤ c)
    (hb1 : (n + m) * inf.bytes ≤ 140737488355328) (hb2 : n + m ≤ 9223372036854775807) :
    ∃ cap, n + m ≤ cap ∧ (Builtin.append_ #[sT, yT] ty #[.slice a0 n c, y]).run P w = .ok (.slice (some ⟨w.heap.size, 0, none⟩) (n + m) cap) { w with heap := w.heap.push (.cells (old ++ new ++ Builtin.zeroCells z.cells (cap - (n + m))) e), drawn := w.drawn + 1 } := by
  have hsz : ∀ w', (sizeOf e).run P w' = .ok k w' := fun w' => by simp [sizeOf, typeInfo, h2, hk]
  have h48 : ¬ (281474976710656 < Builtin.nextslicecap (n + m) c * inf.bytes) := by
    have := growslice_fits (need := n + m) (old := c) (bytes := inf.bytes) (by omega) hb1
    omega
  have h63 : ¬ (9223372036854775807 < (n : Int) + (m : Int)) := by omega
  refine ⟨grownCap w (n + m) c e, by simp [grownCap, Question.cut], ?_⟩
  rcases hyT with ⟨e2, hy⟩ | hy
  · simp [Builtin.append_, underlying, h1, hy, hsz, hl, hc, h48, h63, typeInfo, h2, Question.forced, zeroValue, h3, newRow, grownCap]
    rw [ho]
    simp only [Result.andThen_ok]
    rw [hf]
    rfl
  · simp [Builtin.append_, underlying, h1, hy, hsz, hl, hc, h48, h63, typeInfo, h2, Question.forced, zeroValue, h3, newRow, grownCap]
    rw [ho]
    simp only [Result.andThen_ok]
    rw [hf]
    rfl
theorem app_core (h : SimX E s a w S ρ foot) {d : Nat} (hd : d < E.nt) {k m : Nat} {sT yT e : TypeId} {inf : TypeInfo} {z : Value} {rb ry : List (List T)} {x y : Value} {F Fy : List Nat} {new : Array Value} (ty : TypeId)
    (h1 : P.underlying sT = some (.slice e)) (h2 : P.info? e = some inf) (h3 : inf.zero = some z) (hz : z.cells.size = inf.size) (hk : inf.size = k) (hyT : (∃ e2, P.underlying yT = some (.slice e2)) ∨ P.underlying yT = some .string)
    (hx : BaseOk S w ρ k rb x F) (hy : Src P w k m y new) (hl : ry.length = m) (hry : RepRows S w ρ (fun i => new[i]?) 0 k ry Fy) (hns : new.size = m * k) (hone : ∀ v ∈ new.toList, v.oneCell' = true)
    (hb1 : (rb.length + m) * inf.bytes ≤ 140737488355328) (hb2 : rb.length + m ≤ 9223372036854775807)
    (hpi : E.okd d) (hno : objsNoM d s.objs) (hself : noMLL d (rb ++ ry)) (hn : (F ++ Fy).Nodup) (hm : ∀ b, b ∈ F ++ Fy → ¬ S b ∧ b < w.heap.size ∧ (b ∈ E.F0 ∨ E.w0.heap.size ≤ b)) (hap : ∀ d' ob', lk d' s.objs = some ob' → ∀ b, b ∈ F ++ Fy → b ∉ foot d') :
    ∃ v w', (Builtin.append_ #[sT, yT] ty #[x, y]).run P w = .ok v w' ∧ Sim E ((s.new d ⟨k, rb ++ ry⟩).set d (.ref d 0 (rb.length + m))) (a.put (some d) v) w' := by
  obtain ⟨a0, c, rfl, hbs⟩ := hx.ex
  clear hx
  have hyl := hy.1 w
  have hyf := hy.2 w.drawn
  by_cases hfit : rb.length + m ≤ c
  ·
    rcases hbs with ⟨hc0, hrb, hF⟩ | ⟨b, off, arr, el, fr, Fb, ha0, f2, f3, f4, f5, f6, hF⟩
    · subst hc0 hrb hF
      have hm0 : m = 0 := by simpa using hfit
      subst hm0
      have hry0 : ry = [] := List.length_eq_zero_iff.1 hl
      subst hry0
      have hnew : new = #[] := Array.size_eq_zero_iff.1 (by simpa using hns)
      subst hnew
      refine ⟨_, _, run_append_fit0 (a0 := a0) ty h1 h2 hk hyT hyl hyf, ?_⟩
      have h5 := h.new (d := d) (ob := ⟨k, []⟩) (hd := ⟨none, 0, k⟩) (F := []) hpi hno (by simp [noMLL]) ⟨rfl, .inl ⟨rfl, rfl, rfl⟩⟩ (by simp) (by simp) (by simp)
      refine ⟨S, _, _, h5.set (hd := hd) ?_⟩
      simp only [Rep]
      exact ⟨trivial, ⟨none, 0, k⟩, a0, 0, by simp, by simp, by simp, by simp, .inl rfl⟩
    · subst ha0 hF
      have hrl : rb.length * k + m * k ≤ c * k := by rw [← Nat.add_mul]; exact Nat.mul_le_mul_right _ hfit
      obtain ⟨arr', r1, r2, r3⟩ := run_storeCells (P := P) (off := off + rb.length * k) new.toList 0 arr w f2 f5 (by simp [hns]; omega) hone
      refine ⟨_, _, run_append_fit ty h1 h2 hk hyT hyl hyf hfit r1, ?_⟩
      have hlt : b < w.heap.size := (Array.getElem?_eq_some_iff.1 f2).1
      obtain ⟨m1, m2, m3⟩ := hm b (by simp)
      have hne : ∀ c', c' ≠ b → ({ w with heap := w.heap.setIfInBounds b (.cells arr' el fr) } : World).heap[c']? = w.heap[c']? := fun c' hc => by
        simp only [Array.getElem?_setIfInBounds]; rw [if_neg (Ne.symm hc)]
      have hkept := h.kept.setBlock (fr' := fr) f2 r2 m3
      have h4 : SimX E s a { w with heap := w.heap.setIfInBounds b (.cells arr' el fr) } S ρ foot := by
        refine h.world hkept (by simp) fun c' hc hh => hne c' fun e => ?_
        subst e
        rcases hh with hh | ⟨d2, ob2, hl2, hm2⟩
        · exact m1 hh
        · exact hap d2 ob2 hl2 c' (by simp) hm2
      have hnd := List.nodup_cons.1 (show (b :: (Fb ++ Fy)).Nodup by simpa using hn)
      have hsame : ∀ F' : List Nat, (∀ c', c' ∈ F' → c' ∈ Fb ++ Fy) → ∀ c', c' ∈ F' ∨ S c' → ({ w with heap := w.heap.setIfInBounds b (.cells arr' el fr) } : World).heap[c']? = w.heap[c']? := by
        intro F' hF' c' hc
        refine hne c' fun e => ?_
        subst e
        rcases hc with hc | hc
        · exact hnd.1 (hF' _ hc)
        · exact m1 hc
      have hg := (repRows_flatten _ _ _).1 f6
      have hgl := flatten_len hg.1
      have rows1 : RepRows S { w with heap := w.heap.setIfInBounds b (.cells arr' el fr) } ρ (fun i => arr'[i]?) off k rb Fb :=
        repRows_frame rb (repRows_cell rb f6 fun i hi => by rw [r3, if_neg (by omega)]) (hsame Fb fun c' hc => List.mem_append_left _ hc)
      have rows2 : RepRows S { w with heap := w.heap.setIfInBounds b (.cells arr' el fr) } ρ (fun i => arr'[i]?) (off + rb.length * k) k ry Fy :=
        repRows_frame ry (repRows_cell ry hry fun i hi => by
          rw [r3, if_pos (by simp [hns]; rw [hl] at hi; omega)]
          simp) (hsame Fy fun c' hc => List.mem_append_right _ hc)
      have h5 := h4.new (d := d) (ob := ⟨k, rb ++ ry⟩) (hd := ⟨some (b, off), c, k⟩) (F := b :: (Fb ++ Fy)) hpi hno hself
        ⟨rfl, .inr ⟨b, off, arr', el, fr, Fb ++ Fy, rfl, by simp [hlt], by simp [hl]; exact hfit, by rw [r2]; exact f4, by intro i hi; exact f5 i (by rw [← r2]; exact hi), rows_append rows1 rows2, rfl⟩⟩
        (by simpa using hn) (fun c' hc => by obtain ⟨q1, q2, q3⟩ := hm c' (by simpa using hc); exact ⟨q1, by simpa using q2, q3⟩) (fun d' ob' hl' _ c' hc => hap d' ob' hl' c' (by simpa using hc))
      refine ⟨S, _, _, h5.set (hd := hd) ?_⟩
      simp only [Rep]
      exact ⟨trivial, ⟨some (b, off), c, k⟩, some ⟨b, off, none⟩, c, by simp, rfl, by simp, hfit, .inr ⟨b, off, rfl, by simp⟩⟩
  ·
    have hold : ∃ old : Array Value, old.size = rb.length * k ∧ (Builtin.firstCells k rb.length (.slice a0 rb.length c)).run P w.drew = .ok old w.drew ∧
        ∃ Fb, RepRows S w ρ (fun i => old[i]?) 0 k rb Fb ∧ Fb.Sublist F := by
      rcases hbs with ⟨hc0, hrb, hF⟩ | ⟨b, off, arr, el, fr, Fb, ha0, f2, f3, f4, f5, f6, hF⟩
      · subst hc0 hrb hF
        refine ⟨#[], by simp, ?_, [], by simp [RepRows], List.Sublist.refl _⟩
        cases a0 <;> simp [Builtin.firstCells, loadCells, loadCellsFrom]
      · subst ha0 hF
        have hg := (repRows_flatten _ _ _).1 f6
        have hgl := flatten_len hg.1
        have hcc : rb.length * k ≤ c * k := Nat.mul_le_mul_right _ f3
        refine ⟨arr.extract off (off + rb.length * k), by simp; omega, ?_, Fb, ?_, List.sublist_cons_self _ _⟩
        · have := run_loadCellsFrom (P := P) (w' := w.drew) (b := b) (off := off) (arr := arr) (el := el) (fr := fr) f2 (rb.length * k) 0 #[] (by omega)
          simp only [Nat.add_zero, Array.empty_append] at this
          simp only [Builtin.firstCells, loadCells, this]
        · refine (repRows_flatten _ _ _).2 ⟨hg.1, ?_⟩
          exact (repRow_extract hg.2 (by omega)).2
    obtain ⟨old, o1, o2, Fb, o3, o4⟩ := hold
    obtain ⟨cap, c1, hrun⟩ := run_append_grow' (P := P) (w := w) (a0 := a0) (n := rb.length) (c := c) (z := z) ty h1 h2 h3 hk hyT hyl (hy.2 (w.drawn + 1)) o2 hfit hb1 hb2
    refine ⟨_, _, hrun, ?_⟩
    have hsub : (Fb ++ Fy).Sublist (F ++ Fy) := List.Sublist.append o4 (List.Sublist.refl _)
    have hzs : (Builtin.zeroCells z.cells (cap - (rb.length + m))).size = (cap - (rb.length + m)) * k := by simp [Builtin.zeroCells, hz, hk]
    have rows1 : RepRows S w ρ (fun i => (old ++ new ++ Builtin.zeroCells z.cells (cap - (rb.length + m)))[i]?) 0 k rb Fb :=
      repRows_cell rb o3 fun i hi => by
        simp only [Nat.zero_add]
        rw [Array.append_assoc, Array.getElem?_append_left (by omega)]
    have rows2 : RepRows S w ρ (fun i => (old ++ new ++ Builtin.zeroCells z.cells (cap - (rb.length + m)))[i]?) (0 + rb.length * k) k ry Fy :=
      repRows_cell ry hry fun i hi => by
        rw [hl] at hi
        simp only [Nat.zero_add]
        rw [Array.getElem?_append_left (by simp; omega), Array.getElem?_append_right (by omega)]
        congr 1; omega
    have := sim_new_buf h hd (k := k) (rows := rb ++ ry) (arr := old ++ new ++ Builtin.zeroCells z.cells (cap - (rb.length + m))) e (fr := (0, 0)) (cap := cap) (w.drawn + 1) (Fs := Fb ++ Fy) hpi hno hself (by simp [hl]; exact c1) (by
        simp only [Array.size_append, hzs, o1, hns, ← Nat.add_mul]
        exact Nat.mul_le_mul_right _ (by omega)) (by intro i _; simp) (rows_append rows1 rows2) (hsub.nodup hn) (fun b hb => hm b (hsub.subset hb)) (fun d' ob' hl' b hb => hap d' ob' hl' b (hsub.subset hb))
    rw [List.length_append, hl] at this
    exact this

/-! ### The base and the source of an append -/
theorem repRows_takeS {cell : Nat → Option Value} {k : Nat} {l : List (List T)} {b n : Nat} {F : List Nat} (h : RepRows S w ρ cell b k l F) (i : Nat) (hi : i ≤ l.length) : ∃ G, RepRows S w ρ cell (b + i * k) k ((l.drop i).take n) G ∧ G.Sublist F := by
  rw [repRows_flatten] at h
  obtain ⟨h1, h2⟩ := h
  have e : l = l.take i ++ ((l.drop i).take n ++ (l.drop i).drop n) := by rw [List.take_append_drop, List.take_append_drop]
  rw [e, List.flatten_append, List.flatten_append] at h2
  obtain ⟨F1, F2, _, f2, rfl⟩ := (repRow_append _ _ _ _).1 h2
  obtain ⟨G1, G2, g1, _, rfl⟩ := (repRow_append _ _ _ _).1 f2
  rw [flatten_len (fun r hr => h1 r (List.mem_of_mem_take hr)), List.length_take, Nat.min_eq_left hi] at g1
  exact ⟨G1, repRows_flatten _ _ _ |>.2 ⟨fun r hr => h1 r (List.mem_of_mem_drop (List.mem_of_mem_take hr)), g1⟩, (List.sublist_append_left _ _).trans (List.sublist_append_right _ _)⟩

def byteRow (b : UInt8) : List T := [.v (.int .u8 b.toNat)]
def baseT (s : St) (k : Nat) : T → Option (Prop × List (List T) × St)
  | .sl true _ [] => some (True, [], s)
  | .v (.slice none 0 0) => some (True, [], s)
  | .ref id lo n =>
    match lk id s.objs with
    | some ob => some (ob.k = k ∧ lo + n ≤ ob.rows.length, (ob.rows.drop lo).take n, s.del id)
    | none => none
  | _ => none
def srcT (s : St) (k : Nat) : T → Option (Prop × List (List T))
  | .sl true _ [] => some (True, [])
  | .v (.slice none 0 0) => some (True, [])
  | .ref id lo n =>
    match lk id s.objs with
    | some ob => some (ob.k = k ∧ lo + n ≤ ob.rows.length, (ob.rows.drop lo).take n)
    | none => none
  | .sl false k' rows => some (k' = k, rows.map fun r => r.map T.sh)
  | .v (.string b) => some (k = 1, b.data.toList.map byteRow)
  | _ => none
theorem base_ok (h : SimX E s a w S ρ foot) {k : Nat} {x : Operand} {t : T} (hx : s.eval x = some t) {c : Prop} {rb : List (List T)} {s0 : St} (hb : baseT s k t = some (c, rb, s0)) (hc : c) :
    SimX E s0 a w S ρ foot ∧ ∃ F, BaseOk S w ρ k rb (a.eval x) F ∧ F.Nodup ∧ (∀ b, b ∈ F → ¬ S b ∧ b < w.heap.size ∧ (b ∈ E.F0 ∨ E.w0.heap.size ≤ b)) ∧ (∀ d' ob', lk d' s0.objs = some ob' → ∀ b, b ∈ F → b ∉ foot d') ∧
      (∀ id2 ob2, lk id2 s0.objs = some ob2 → lk id2 s.objs = some ob2) := by
  have hr := h.eval hx
  unfold baseT at hb
  split at hb
  · simp only [Option.some.injEq, Prod.mk.injEq] at hb
    obtain ⟨rfl, rfl, rfl⟩ := hb
    simp only [Rep] at hr
    obtain ⟨a0, cap, e1, e2⟩ := hr
    refine ⟨h, [], ⟨⟨a0, cap, e1, ?_⟩⟩, by simp, by simp, by simp, fun _ _ h => h⟩
    rcases e2 with ⟨e2, _, _⟩ | ⟨b, off, arr, el, fr, Fs, _, _, _, _, _, e2⟩
    · exact .inl ⟨e2, rfl, rfl⟩
    · have := e2.1; simp at this
  · simp only [Option.some.injEq, Prod.mk.injEq] at hb
    obtain ⟨rfl, rfl, rfl⟩ := hb
    simp only [Rep] at hr
    exact ⟨h, [], ⟨⟨none, 0, hr.1, .inl ⟨rfl, rfl, rfl⟩⟩⟩, by simp, by simp, by simp, fun _ _ h => h⟩
  · rename_i id lo n
    split at hb
    · rename_i ob ho
      simp only [Option.some.injEq, Prod.mk.injEq] at hb
      obtain ⟨rfl, rfl, rfl⟩ := hb
      obtain ⟨rfl, hle⟩ := hc
      simp only [Rep] at hr
      obtain ⟨_, hd, a0, c, e1, e2, e3, e4, e5⟩ := hr
      obtain ⟨hd', e6, e7, e8⟩ := h.objs id ob ho
      rw [e1] at e6; simp at e6; subst e6
      have hlen : ((ob.rows.drop lo).take n).length = n := by rw [List.length_take, List.length_drop]; omega
      refine ⟨h.del id, ?_⟩
      rcases e8 with ⟨e8, e9, _⟩ | ⟨b, off, arr, el, fr, Fs, f1, f2, f3, f4, f5, f6, f7⟩
      · have hn : n = 0 := by rw [e9] at hle; simp at hle; omega
        subst hn
        have hc0 : c = 0 := by omega
        subst hc0
        refine ⟨[], ⟨⟨a0, 0, by rw [hlen]; exact e2, .inl ⟨rfl, by simp, rfl⟩⟩⟩, by simp, by simp, by simp, fun id2 ob2 h2 => by simp only [St.del, lk_del] at h2; exact h2.2⟩
      · obtain ⟨G, g1, g2⟩ := repRows_take (n := n) f6 lo (by omega)
        rcases e5 with e5 | ⟨b', off', e5, rfl⟩
        · subst e5
          have hn : n = 0 := by omega
          subst hn
          refine ⟨[], ⟨⟨a0, 0, by rw [hlen]; exact e2, .inl ⟨rfl, by simp, rfl⟩⟩⟩, by simp, by simp, by simp, fun id2 ob2 h2 => by simp only [St.del, lk_del] at h2; exact h2.2⟩
        · rw [f1] at e5; simp at e5; obtain ⟨rfl, rfl⟩ := e5
          obtain ⟨G', q1, q2⟩ := repRows_takeS (n := n) f6 lo (by omega)
          have hsub : (b :: G').Sublist (foot id) := by rw [f7]; exact List.Sublist.cons_cons b q2
          have hcc : (lo + c) * ob.k ≤ hd.cap * ob.k := Nat.mul_le_mul_right _ (by omega)
          rw [Nat.add_mul] at hcc
          refine ⟨b :: G', ⟨⟨some ⟨b, off + lo * hd.k, none⟩, c, by rw [hlen]; exact e2, .inr ⟨b, off + lo * hd.k, arr, el, fr, G', rfl, f2, by rw [hlen]; exact e4, by rw [e7]; omega, f5, by rw [e7]; exact q1, rfl⟩⟩⟩, hsub.nodup (h.nodup id ob ho),
            fun c' hc' => h.mine id ob ho c' (hsub.subset hc'), fun d' ob' hl' c' hc' => ?_, fun id2 ob2 h2 => by simp only [St.del, lk_del] at h2; exact h2.2⟩
          simp only [St.del, lk_del] at hl'
          exact h.apart id ob d' ob' ho hl'.2 (Ne.symm hl'.1) c' (hsub.subset hc')
    · cases hb
  · cases hb
theorem all_flatten {p : T → Bool} : ∀ {l : List (List T)}, l.all (fun r => r.all p) = true → l.flatten.all p = true
  | [], _ => by simp
  | r :: rs, h => by
    simp only [List.all_cons, Bool.and_eq_true] at h
    simp only [List.flatten_cons, List.all_append, Bool.and_eq_true]
    exact ⟨h.1, all_flatten h.2⟩
theorem bare_of_storable {l : List T} (h : l.all T.storable = true) : l.all T.bare = true := by
  rw [List.all_eq_true] at h ⊢
  intro t ht
  have := h t ht
  simp only [T.storable, Bool.and_eq_true] at this
  exact this.2
theorem rows_store {new : Array Value} {k : Nat} {ry : List (List T)} {F : List Nat} (h : RepRows S w ρ (fun i => new[i]?) 0 k ry F) (hs : ry.all (fun r => r.all T.storable) = true) (hn : new.size = ry.length * k) : F = [] ∧ ∀ v ∈ new.toList, v.oneCell' = true := by
  obtain ⟨h1, h2⟩ := (repRows_flatten _ _ _).1 h
  have hf := all_flatten hs
  refine ⟨repRow_bare (bare_of_storable hf) h2, fun v hv => ?_⟩
  obtain ⟨i, hi⟩ := List.getElem?_of_mem hv
  have hlt := (List.getElem?_eq_some_iff.1 hi).1
  exact storable_vals hf h2 i v (by rw [flatten_len h1]; simp at hlt; omega) (by simpa using hi)
theorem src_cells {b off n k c : Nat} {arr : Array Value} {el : TypeId} {fr : Nat × Nat} (f2 : w.heap[b]? = some (.cells arr el fr)) (hle : off + n * k ≤ arr.size) : Src P w k n (.slice (some ⟨b, off, none⟩) n c) (arr.extract off (off + n * k)) := by
  refine ⟨fun w' => by simp [Builtin.lenOf], fun n' => ?_⟩
  have := run_loadCellsFrom (P := P) (w' := { w with drawn := n' }) (b := b) (off := off) (arr := arr) (el := el) (fr := fr) f2 (n * k) 0 #[] (by omega)
  simp only [Nat.add_zero, Array.empty_append] at this
  simp only [Builtin.firstCells, loadCells, this]
theorem src_none {k c : Nat} {a0 : Option Addr} : Src P w k 0 (.slice a0 0 c) #[] := by
  refine ⟨fun w' => by simp [Builtin.lenOf], fun n' => ?_⟩
  cases a0 <;> simp [Builtin.firstCells, loadCells, loadCellsFrom]
theorem map_map_flatten (l : List (List T)) : (l.map fun r => r.map T.sh).flatten = l.flatten.map T.sh := by
  induction l with
  | nil => rfl
  | cons r rs ih => simp only [List.map_cons, List.flatten_cons, List.map_append, ih]
theorem repRow_bytes : ∀ (l : List UInt8) (b : Nat) (cell : Nat → Option Value), (∀ i x, l[i]? = some x → cell (b + i) = some (.int .u8 x.toNat)) → RepRow S w ρ cell b (l.map byteRow).flatten []
  | [], b, cell, _ => by simp [RepRow]
  | x :: l, b, cell, h => by
    simp only [List.map_cons, List.flatten_cons, byteRow, List.singleton_append, RepRow]
    refine ⟨.int .u8 x.toNat, [], [], by simpa using h 0 x rfl, by simp [Rep], ?_, rfl⟩
    exact repRow_bytes l (b + 1) cell fun i y hy => by
      have := h (i + 1) y (by simpa using hy)
      rwa [show b + (i + 1) = b + 1 + i from by omega] at this
theorem repRows_bytes (l : List UInt8) (cell : Nat → Option Value) (h : ∀ i x, l[i]? = some x → cell i = some (.int .u8 x.toNat)) : RepRows S w ρ cell 0 1 (l.map byteRow) [] :=
  (repRows_flatten _ _ _).2 ⟨fun r hr => by obtain ⟨x, _, rfl⟩ := List.mem_map.1 hr; rfl, repRow_bytes l 0 cell (fun i x hx => by simpa using h i x hx)⟩
theorem src_ok (h : SimX E s a w S ρ foot) {k : Nat} {y : Operand} {t : T} (hy : s.eval y = some t) {c : Prop} {ry : List (List T)} (hb : srcT s k t = some (c, ry)) (hc : c) (hs : ry.all (fun r => r.all T.storable) = true) :
    ∃ new : Array Value, Src P w k ry.length (a.eval y) new ∧ RepRows S w ρ (fun i => new[i]?) 0 k ry [] ∧ new.size = ry.length * k ∧ ∀ v ∈ new.toList, v.oneCell' = true := by
  have hr := h.eval hy
  have fin : ∀ (new : Array Value) (F : List Nat), Src P w k ry.length (a.eval y) new → RepRows S w ρ (fun i => new[i]?) 0 k ry F → new.size = ry.length * k → ∃ new : Array Value, Src P w k ry.length (a.eval y) new ∧ RepRows S w ρ (fun i => new[i]?) 0 k ry [] ∧ new.size = ry.length * k ∧ ∀ v ∈ new.toList, v.oneCell' = true := by
    intro new F h1 h2 h3
    obtain ⟨rfl, h4⟩ := rows_store h2 hs h3
    exact ⟨new, h1, h2, h3, h4⟩
  unfold srcT at hb
  split at hb
  · simp only [Option.some.injEq, Prod.mk.injEq] at hb
    obtain ⟨rfl, rfl⟩ := hb
    simp only [Rep] at hr
    obtain ⟨a0, cap, e1, _⟩ := hr
    refine fin #[] [] ?_ (by simp [RepRows]) (by simp)
    rw [e1]
    exact src_none
  · simp only [Option.some.injEq, Prod.mk.injEq] at hb
    obtain ⟨rfl, rfl⟩ := hb
    simp only [Rep] at hr
    refine fin #[] [] ?_ (by simp [RepRows]) (by simp)
    rw [hr.1]
    exact src_none
  · rename_i id lo n
    split at hb
    · rename_i ob ho
      simp only [Option.some.injEq, Prod.mk.injEq] at hb
      obtain ⟨rfl, rfl⟩ := hb
      obtain ⟨rfl, hle⟩ := hc
      simp only [Rep] at hr
      obtain ⟨_, hd, a0, c, e1, e2, e3, e4, e5⟩ := hr
      obtain ⟨hd', e6, e7, e8⟩ := h.objs id ob ho
      rw [e1] at e6; simp at e6; subst e6
      have hlen : ((ob.rows.drop lo).take n).length = n := by rw [List.length_take, List.length_drop]; omega
      rw [hlen] at fin ⊢
      have empty : n = 0 → ∃ new : Array Value, Src P w ob.k n (a.eval y) new ∧ RepRows S w ρ (fun i => new[i]?) 0 ob.k ((ob.rows.drop lo).take n) [] ∧ new.size = n * ob.k ∧ ∀ v ∈ new.toList, v.oneCell' = true := by
        rintro rfl
        refine fin #[] [] ?_ (by simp [RepRows]) (by simp)
        rw [e2]
        exact src_none
      rcases e8 with ⟨e8, e9, _⟩ | ⟨b, off, arr, el, fr, Fs, f1, f2, f3, f4, f5, f6, f7⟩
      · exact empty (by rw [e9] at hle; simp at hle; omega)
      · rcases e5 with e5 | ⟨b', off', e5, rfl⟩
        · exact empty (by omega)
        · rw [f1] at e5; simp at e5; obtain ⟨rfl, rfl⟩ := e5
          obtain ⟨G, g1, _⟩ := repRows_take (n := n) f6 lo (by omega)
          have hcc : (lo + n) * ob.k ≤ hd.cap * ob.k := Nat.mul_le_mul_right _ (by omega)
          rw [Nat.add_mul] at hcc
          have hsz : (arr.extract (off + lo * ob.k) (off + lo * ob.k + n * ob.k)).size = n * ob.k := by simp; omega
          refine fin (arr.extract (off + lo * ob.k) (off + lo * ob.k + n * ob.k)) G ?_ ?_ hsz
          · rw [e2, e7]
            exact src_cells f2 (by omega)
          · obtain ⟨q1, q2⟩ := (repRows_flatten _ _ _).1 g1
            exact (repRows_flatten _ _ _).2 ⟨q1, (repRow_extract q2 (by rw [flatten_len q1, hlen])).2⟩
    · cases hb
  · rename_i k' rows
    simp only [Option.some.injEq, Prod.mk.injEq] at hb
    obtain ⟨rfl, rfl⟩ := hb
    subst hc
    simp only [Rep] at hr
    obtain ⟨a0, cap, e1, e2⟩ := hr
    simp only [List.length_map] at fin ⊢
    rcases e2 with ⟨rfl, rfl, _⟩ | ⟨b, off, arr, el, fr, Fs, rfl, f2, f3, f4, f5, f6⟩
    · refine fin #[] [] ?_ (by simp [RepRows]) (by simp)
      rw [e1]
      exact src_none
    · obtain ⟨q1, q2⟩ := (repRows_flatten _ _ _).1 f5
      obtain ⟨G, g1, _⟩ := repRow_sh q2 f6.2.2
      have hcc : rows.length * k' ≤ cap * k' := Nat.mul_le_mul_right _ f3
      have hsz : (arr.extract off (off + rows.length * k')).size = rows.length * k' := by simp; omega
      refine fin (arr.extract off (off + rows.length * k')) G ?_ ?_ hsz
      · rw [e1]
        exact src_cells f2 (by omega)
      · refine (repRows_flatten _ _ _).2 ⟨fun r hr => by obtain ⟨r', hr', rfl⟩ := List.mem_map.1 hr; simpa using q1 r' hr', ?_⟩
        rw [map_map_flatten]
        exact (repRow_extract (repRow_noH g1) (by rw [List.length_map, flatten_len q1])).2
  · rename_i b
    simp only [Option.some.injEq, Prod.mk.injEq] at hb
    obtain ⟨rfl, rfl⟩ := hb
    subst hc
    simp only [Rep] at hr
    simp only [List.length_map] at fin ⊢
    refine fin (b.data.map fun x => .int .u8 x.toNat) [] ?_ (repRows_bytes _ _ fun i x hx => by
      have : b.data[i]? = some x := by simpa using hx
      simp [this]) (by simp)
    rw [hr.1]
    refine ⟨fun w' => rfl, fun n' => ?_⟩
    have : b.extract 0 b.data.toList.length = b := by
      have := extract_mk b 0 b.data.toList.length
      rw [this]
      apply ByteArray.ext
      apply Array.ext'
      simp only [Nat.sub_zero, List.drop_zero]
      exact List.take_of_length_le (Nat.le_refl _)
    simp only [Builtin.firstCells, this]
    simp
  · cases hb
theorem noMLL_append {d : Nat} {l m : List (List T)} (h1 : noMLL d l) (h2 : noMLL d m) : noMLL d (l ++ m) := fun r hr => (List.mem_append.1 hr).elim (h1 r) (h2 r)
theorem ok_app {i : IN} {K : St → Prop} {k bytes d : Nat} {z : Value} {x y : Operand} {tx tyy : T} {c1 c2 : Prop} {rb ry : List (List T)} {s0 : St} (hi : i.i = .app k bytes z x y) (hd : i.dst = some d) (hx : s.eval x = some tx) (hy : s.eval y = some tyy)
    (hb : baseT s k tx = some (c1, rb, s0)) (hc1 : c1) (hsr : srcT s k tyy = some (c2, ry)) (hc2 : c2) (hs : ry.all (fun r => r.all T.storable) = true)
    (hb1 : (rb.length + ry.length) * bytes ≤ 140737488355328) (hb2 : rb.length + ry.length ≤ 9223372036854775807)
    (hpi : E.okd d) (hno : objsNoM d s0.objs) (hself : noMLL d rb) (hself2 : noMLL d ry) (hK : K ((s0.new d ⟨k, rb ++ ry⟩).set d (.ref d 0 (rb.length + ry.length)))) : InstrOk P E i K s := by
  intro o g1 g2 g3 a w ⟨S, ρ, foot, hsx⟩ Q
  rw [hi] at g1
  unfold compI at g1
  split at g1 <;> try (simp at g1; done)
  case h_23 cl hop =>
    split at g1 <;> try (first | (simp at g1; done) | (repeat' split at g1) <;> simp at g1; done)
    rename_i hcal
    split at g1
    · rename_i x' y' sT yT hargs htys
      split at g1
      · rename_i e hes hyt
        split at g1
        · rename_i inf z' hinf hz'
          split at g1
          · rename_i hzs
            simp only [Option.some.injEq, I.app.injEq] at g1
            obtain ⟨rfl, rfl, rfl, rfl, rfl⟩ := g1
            have hel : P.underlying sT = some (.slice e) := by
              unfold sliceElem at hes; split at hes <;> simp at hes; subst hes; assumption
            have hyT : (∃ e2, P.underlying yT = some (.slice e2)) ∨ P.underlying yT = some .string := by
              split at hyt
              · rename_i e2 h2; exact .inl ⟨e2, h2⟩
              · rename_i h2; exact .inr h2
              · cases hyt
            have hz3 : inf.zero = some z' := by simpa [zeroOf, hinf] using hz'
            obtain ⟨q1, F, q2, q3, q4, q5, q6⟩ := base_ok hsx hx hb hc1
            obtain ⟨new, r1, r2, r3, r4⟩ := src_ok (P := P) hsx hy hsr hc2 hs
            obtain ⟨v, w', hrun, hsim⟩ := app_core (P := P) q1 (g3 d hd) (rb := rb) (ry := ry) o.type hel hinf hz3 hzs rfl hyT q2 r1 rfl r2 r3 r4 hb1 hb2 hpi hno (noMLL_append hself hself2) (by simpa using q3) (by simpa using q4) (by simpa using q5)
            have ha' : cl.args = #[x', y'] := by rw [← Array.toList_inj]; simpa using hargs
            have ht' : cl.argTypes = #[sT, yT] := by rw [← Array.toList_inj]; simpa using htys
            obtain ⟨cs, hcs⟩ := exec_builtin (a := a) hop hcal
            have : (execOp a.eval o).run P w = .ok (.value v) w' := by
              rw [hcs, ha', ht']
              simp [builtin, hrun]
            rw [this, Oper.upon_value, g2, hd]
            exact ⟨_, hK, hsim⟩
          · cases g1
        · cases g1
      · cases g1
    · cases g1
  all_goals (repeat' split at g1) <;> simp at g1
end
end Go.Am

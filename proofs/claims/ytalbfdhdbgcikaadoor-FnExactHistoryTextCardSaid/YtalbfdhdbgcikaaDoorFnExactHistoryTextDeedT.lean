import Derived.Test.YtalbfdhdbgcikaaDoorFnExactHistoryTextDeed
set_option linter.unusedVariables false
set_option linter.unusedSimpArgs false
namespace Go.Proofs.Wb
open Go Go.Am Go.RowKit Go.Proofs
theorem acall_dv {f : Nat} {ts : List T} {x : Value} (h : ACall Tryd.prog f ts (fun r _ => r = .v x)) {w : Go.World} {vs : Array Value} (hv : vs.size = ts.length) (hr : RepRow (fun b => b < w.heap.size) w noH (fun i => vs[i]?) 0 ts []) (hT : Inv w fun b => b < w.heap.size) :
    Calls Tryd.prog f vs w fun e w' => e = .returned x ∧ Below w.heap.size w w' := by
  refine (h w (fun b => b < w.heap.size) [] vs hv hr List.nodup_nil (by simp) (fun _ h => h) hT).mono ?_
  rintro e w' ⟨rv, r, l, S', Fr, Fa, rfl, rfl, _, hb⟩
  have := hb.res
  simp only [Rep] at this
  exact ⟨by rw [this.1], below_of_kept hb.kept⟩
theorem inv_dbelow {w w' : Go.World} (h : Inv w fun b => b < w.heap.size) (hB : Below w.heap.size w w') : Inv w' fun b => b < w'.heap.size :=
  h.mono (fun b hb => Nat.lt_of_lt_of_le hb hB.size) (fun b hb => hB.block b hb)
theorem itoa_d (w : Go.World) (hT : Inv w fun b => b < w.heap.size) (u : Nat) (hu : u < 10 ^ 18) : Calls Tryd.prog 24 #[.int .i64 u] w fun e w' => e = .returned (.string ⟨⟨dgt u⟩⟩) ∧ Below w.heap.size w w' :=
  acall_dv (itoaH u hu) rfl (by simp only [RepRow, Rep]; exact ⟨_, [], [], rfl, ⟨rfl, rfl⟩, rfl, rfl⟩) hT
theorem tri_cells {α : Type} (p q : α → ByteArray) (r : α → Bool) {S : Nat → Prop} {w : Go.World} {ρ : Nat → Option Hd} {cell : Nat → Option Value} : ∀ (l : List α) (o : Nat) (F : List Nat), RepRows S w ρ cell o 3 (l.map fun x => [str (p x), str (q x), bl (r x)]) F →
    F = [] ∧ ∀ j, ∀ x, l[j]? = some x → cell (o + j * 3) = some (.string (p x)) ∧ cell (o + j * 3 + 1) = some (.string (q x)) ∧ cell (o + j * 3 + 2) = some (.bool (r x))
  | [], _, _, h => by simp only [List.map_nil, RepRows] at h; exact ⟨h, fun j x hj => by simp at hj⟩
  | y :: l, o, F, h => by
    simp only [List.map_cons, RepRows, RepRow, Rep] at h
    obtain ⟨F1, F2, _, ⟨y1, G1, G2, a1, ⟨rfl, rfl⟩, ⟨y2, G3, G4, a2, ⟨rfl, rfl⟩, ⟨y3, G5, G6, a3, ⟨rfl, rfl⟩, rfl, rfl⟩, rfl⟩, rfl⟩, h2, rfl⟩ := h
    obtain ⟨rfl, h3⟩ := tri_cells p q r l (o + 3) _ h2
    refine ⟨rfl, fun j x hj => ?_⟩
    cases j with
    | zero => simp at hj; subst hj; exact ⟨by simpa using a1, by simpa using a2, by simpa using a3⟩
    | succ j =>
      have := h3 j x (by simpa using hj)
      rw [show o + (j + 1) * 3 = o + 3 + j * 3 by omega]
      exact this
theorem fl_flat {α : Type} [Inhabited α] (f : ByteArray × ByteArray × Bool → List UInt8) (g : α → List UInt8) (z : α → ByteArray × ByteArray × Bool) (h : ∀ x, f (z x) = g x) (l : List α) : ∀ k, k ≤ l.length → Bld.fl f (fun j => z (nth l j)) k = flat g l k
  | 0, _ => rfl
  | k + 1, hk => by rw [Bld.fl, fl_flat f g z h l k (by omega), flat_succ g (by omega), h]
theorem hdB_T (d : Deed) (a b t : Nat) (h1 : d.Txn = a) (h2 : d.Begin = b) (h3 : d.Time = t) (hE : d.End = -1 ∨ ∃ e : Nat, d.End = (e : Int) ∧ e < 2 ^ 40) : Bld.bs (Bld.hdB (fun u => ⟨⟨dgt u⟩⟩) a b t d.End d.Yes d.Look) = headT d := by
  have e1 : (0 ≤ d.End) = ¬ (d.End = -1) := by
    rcases hE with h | ⟨e, h, _⟩ <;> rw [h] <;> simp <;> omega
  unfold Bld.hdB headT Bld.bs
  rw [h1, h2, h3]
  simp only [e1, ByteArray.data_append, Int.toNat_natCast]
  cases d.Look <;> cases d.Yes <;> by_cases h : d.End = -1 <;> simp [h, ByteArray.data_append]
theorem slice_ws {α : Type} [Inhabited α] (row : α → List T) (p q : α → ByteArray) (r : α → Bool) (hrow : ∀ x, row x = [str (p x), str (q x), bl (r x)]) {S : Nat → Prop} {w : Go.World} (hS : ∀ b, S b → b < w.heap.size) {l : List α} {y : Value} {F : List Nat} (h : Rep S w noH (.sl false 3 (l.map row)) y F) :
    F = [] ∧ Bld.Ws w.heap.size w y l.length (fun j => (p (nth l j), q (nth l j), r (nth l j))) := by
  rw [show row = fun x => [str (p x), str (q x), bl (r x)] from funext hrow] at h
  simp only [Rep] at h
  obtain ⟨a, cap, rfl, hs⟩ := h
  rcases hs with ⟨_, h1, h2⟩ | ⟨b, off, arr, el, fr, Fs, rfl, hb, hcap, harr, hrows, hown⟩
  · have : l.length = 0 := by simpa using congrArg List.length h1
    exact ⟨h2, a, cap, by rw [List.length_map], .inl this⟩
  · obtain ⟨rfl, hc⟩ := tri_cells p q r _ _ _ hrows
    obtain ⟨h1, h2, h3⟩ := hown
    refine ⟨h1, _, cap, by rw [List.length_map], .inr ⟨b, off, rfl, hS b h2, fun j hj => ?_⟩⟩
    obtain ⟨d1, d2, d3⟩ := hc j _ (List.getElem?_eq_getElem hj)
    dsimp only
    rw [nth_lt hj]
    exact ⟨by simp only [World.cell?, hb]; exact d1, by simp only [World.cell?, hb]; exact d2, by simp only [World.cell?, hb]; exact d3⟩
theorem deedTextH : DeedTextH := by
  intro d hwf hgd w S0 F vs hsz hrep hnd hF hS0 hT
  have hrep0 := hrep
  obtain ⟨a, b, t, hN⟩ := deedN hgd
  simp only [RepRow] at hrep
  obtain ⟨y, F1, F2, c1, hy, rfl, hg6⟩ := hrep
  rw [Deed.row_eq] at hy
  rw [show Rep S0 w noH (.agg [i64 d.Txn, i64 d.Begin, i64 d.End, bl d.Yes, bl d.Look, i64 d.Time, .sl false 3 (d.Got.map (Got.row false)), .sl false 3 (d.Writes.map (Write.row false))]) y F1 = ∃ cs : Array Value, y = .agg cs ∧ cs.size = _ ∧ RepRow S0 w noH (fun i => cs[i]?) 0 _ F1 from rfl] at hy
  obtain ⟨cs, rfl, hcs, hy⟩ := hy
  simp only [RepRow] at hy
  obtain ⟨y1, G1, G2, b1, q1, ⟨y2, G3, G4, b2, q2, ⟨y3, G5, G6, b3, q3, ⟨y4, G7, G8, b4, q4, ⟨y5, G9, Ga, b5, q5, ⟨y6, Gb, Gc, b6, q6, ⟨y7, Gd, Ge, b7, q7, ⟨y8, Gf, Gg, b8, q8, rfl, r8⟩, r7⟩, r6⟩, r5⟩, r4⟩, r3⟩, r2⟩, r1⟩ := hy
  have hSb : ∀ b, S0 b → b < w.heap.size := fun b h => hS0 b h
  obtain ⟨rfl, hWg⟩ := slice_ws (Got.row false) (·.Key) (·.Val) (·.There) (fun x => Got.row_eq false x) hSb q7
  obtain ⟨rfl, hWx⟩ := slice_ws (Write.row false) (·.Key) (·.Val) (·.Gone) (fun x => Write.row_eq false x) hSb q8
  simp only [Rep] at q1 q2 q3 q4 q5 q6
  obtain ⟨rfl, rfl⟩ := q1
  obtain ⟨rfl, rfl⟩ := q2
  obtain ⟨rfl, rfl⟩ := q3
  obtain ⟨rfl, rfl⟩ := q4
  obtain ⟨rfl, rfl⟩ := q5
  obtain ⟨rfl, rfl⟩ := q6
  have hFn : F = [] := by rw [hg6, r1, r2, r3, r4, r5, r6, r7, r8]; rfl
  subst hFn
  have hcs2 : cs = #[.int .i64 d.Txn, .int .i64 d.Begin, .int .i64 d.End, .bool d.Yes, .bool d.Look, .int .i64 d.Time, y7, y8] := by
    have hcs' : cs.size = 8 := by simpa using hcs
    apply Array.ext
    · simpa using hcs'
    · intro i h1 h2
      have key : ∀ (k : Nat) (hk : k < cs.size) (z : Value), cs[k]? = some z → cs[k] = z := fun k hk z hz => by rw [Array.getElem?_eq_getElem hk] at hz; exact Option.some.inj hz
      have h2' : i < 8 := by simpa using h2
      have : i = 0 ∨ i = 1 ∨ i = 2 ∨ i = 3 ∨ i = 4 ∨ i = 5 ∨ i = 6 ∨ i = 7 := by omega
      rcases this with rfl | rfl | rfl | rfl | rfl | rfl | rfl | rfl
      · exact key _ _ _ b1
      · exact key _ _ _ b2
      · exact key _ _ _ b3
      · exact key _ _ _ b4
      · exact key _ _ _ b5
      · exact key _ _ _ b6
      · exact key _ _ _ b7
      · exact key _ _ _ b8
  have hvs : vs = #[.agg cs] := by
    apply Array.ext
    · simpa using hsz
    · intro i h1 h2
      simp at h2
      subst h2
      rw [Array.getElem?_eq_getElem h1] at c1; simpa using c1
  rw [hcs2] at hvs
  subst hvs
  have q9 : (10 : Nat) ^ 18 = 1000000000000000000 := by decide
  have m1 := hN.ba
  have m2 := hN.bb
  have m3 := hN.bt
  rw [hN.txn, hN.begin, hN.time]
  refine (Bld.deed_k (fun u => ⟨⟨dgt u⟩⟩) (fun w => Inv w fun b => b < w.heap.size) (fun w w' h hB => inv_dbelow h hB) (fun w h => h) (fun u hu w h => itoa_d w h u hu) (fun u => dgt_len u) a b t (by omega) (by omega) (by omega) d.End
    (hN.fin.imp id fun ⟨e, h1, h2⟩ => ⟨e, h1, by omega⟩) d.Yes d.Look y7 y8 d.Got.length d.Writes.length _ _ w (hT.mono (fun b hb => hS0 b hb) fun _ _ => rfl) hWg hWx hN.got hN.wrs (fun j hj => hN.gk j hj) (fun j hj => hN.wk j hj)).mono ?_
  rintro e w' ⟨rfl, hB⟩
  have eT : Bld.bs (Bld.hdB (fun u => ⟨⟨dgt u⟩⟩) a b t d.End d.Yes d.Look) ++ Bld.fl Bld.gS (fun j => ((nth d.Got j).Key, (nth d.Got j).Val, (nth d.Got j).There)) d.Got.length ++ Bld.fl Bld.xS (fun j => ((nth d.Writes j).Key, (nth d.Writes j).Val, (nth d.Writes j).Gone)) d.Writes.length ++ [10] = deedT d := by
    rw [hdB_T d a b t hN.txn hN.begin hN.time hN.fin, deedT, fl_flat Bld.gS gotT (fun x : Got => (x.Key, x.Val, x.There)) (fun x => rfl) d.Got _ (Nat.le_refl _), fl_flat Bld.xS wrT (fun x : Write => (x.Key, x.Val, x.Gone)) (fun x => rfl) d.Writes _ (Nat.le_refl _), flat_all gotT (Nat.le_refl _), flat_all wrT (Nat.le_refl _)]
  rw [eT]
  refine ⟨_, sD (deedT d), [.agg (Deed.row false d)], S0, [], [], rfl, rfl, rfl, ?_, ?_, by simp, by simp, fun b hb => ⟨Nat.lt_of_lt_of_le (hS0 b hb) hB.size, .inl hb⟩, fun b h => h, kept_below hB⟩
  · simp only [Rep]; exact ⟨trivial, trivial⟩
  · exact repRow_frame _ (by simpa [hcs2, hN.txn, hN.begin, hN.time] using hrep0) fun b hb => hB.block b (hb.elim (fun h => (hF b h).2) (hS0 b))
end Go.Proofs.Wb

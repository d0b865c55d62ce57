/- Drawn regions with calls: what only reads comes first, the calls in their order. -/
import Derived.Test.YthleienfmfdabaaAmTac
import Derived.Test.YthleienfmfdabaaAmOrd
set_option linter.unusedSimpArgs false
set_option linter.unusedVariables false
set_option linter.unusedSectionVars false
namespace Go.Am
open Go Go.RowKit
def InstrUp (P : Program) (E : Env) (i : IN) (K : St → Prop) (s : St) : Prop :=
  ∀ o : Oper, compI P o = some i.i → o.dst = i.dst → (∀ d, i.dst = some d → d < E.nt) → ∀ a w, Sim E s a w →
    Oper.up P a o w (fun a' w' => ∃ s', K s' ∧ Sim E s' a' w') ((execOp a.eval o).run P w)
def stepR (P : Program) (E : Env) (b : Bool) (i : IN) (K : St → Prop) (s : St) : Prop :=
  match b with
  | false => ∃ p t, pureI s i.i = some (p, t) ∧ p ∧ K (s.put i.dst t)
  | true => InstrUp P E i K s
def OkR (P : Program) (E : Env) : List (Bool × IN) → (St → Prop) → St → Prop
  | [], K, s => K s
  | (b, i) :: r, K, s =>
    match i.g with
    | none => stepR P E b i (OkR P E r K) s
    | some (t, g) => (∃ c, lk t s.slots = some (.v (.bool c)) ∧ (c = g → stepR P E b i (OkR P E r K) s) ∧ (c ≠ g → OkR P E r K (s.put i.dst (.tup [])))) ∨ (lk t s.slots = some (.tup []) ∧ OkR P E r K (s.put i.dst (.tup [])))
section
variable {P : Program} {E : Env} {s : St} {a : Act} {w : World}
theorem stepR_mono {b : Bool} {i : IN} {K K' : St → Prop} (hK : ∀ s, K s → K' s) (h : stepR P E b i K s) : stepR P E b i K' s := by
  cases b with
  | false => obtain ⟨p, t, h1, h2, h3⟩ := h; exact ⟨p, t, h1, h2, hK _ h3⟩
  | true => exact fun o h1 h2 h3 a w hs => up_mono (fun a' w' _ ⟨s', q1, q2⟩ => ⟨s', hK _ q1, q2⟩) (h o h1 h2 h3 a w hs)
theorem okR_lex {ops : Array Oper} {K : St → Prop} : ∀ {π : List (Bool × Nat)} {l : List (Bool × IN)} {s : St} {a : Act} {w : World}, compR P E.nt ops π = some l → Sim E s a w → OkR P E l K s →
    lexK P ops (fun a' w' => ∃ s', K s' ∧ Sim E s' a' w') π a w
  | [], l, s, a, w, hc, hs, h => by
    simp only [compR, Option.some.injEq] at hc; subst hc
    exact ⟨s, h, hs⟩
  | (b, i) :: r, l, s, a, w, hc, hs, h => by
    simp only [compR] at hc
    split at hc
    · rename_i o ho
      split at hc
      · rename_i x l' h1 h2
        simp only [Option.some.injEq] at hc; subst hc
        obtain ⟨e1, e2, e3, e4⟩ := compIN_spec h1
        have go : stepR P E b x (OkR P E l' K) s → Region.wanted o (yielded ops a.tmps) = true → lexK P ops (fun a' w' => ∃ s', K s' ∧ Sim E s' a' w') ((b, i) :: r) a w := by
          intro hst hw
          cases b with
          | false =>
            obtain ⟨p, t, h3, h4, h5⟩ := hst
            obtain ⟨S, ρ, foot, hx⟩ := hs
            obtain ⟨y, y1, y2⟩ := pure_sound hx e1 h3 h4
            refine ⟨o, y, ho, .inl ⟨hw, y2⟩, okR_lex h2 ?_ h5⟩
            rw [e2]
            exact ⟨S, ρ, foot, hx.put e3 y1⟩
          | true =>
            unfold lexK kOp
            simp only [ho, hw, if_true]
            exact up_mono (fun a' w' _ ⟨s', q1, q2⟩ => okR_lex h2 q2 q1) (hst o e1 e2 e3 a w hs)
        have skip : OkR P E l' K (s.put x.dst (.tup [])) → Region.wanted o (yielded ops a.tmps) = false → lexK P ops (fun a' w' => ∃ s', K s' ∧ Sim E s' a' w') ((b, i) :: r) a w := by
          intro hst hw
          have hsim : Sim E (s.put x.dst (.tup [])) (a.put o.dst undef) w := by rw [e2]; exact sim_put_undef hs e3
          cases b with
          | false => exact ⟨o, undef, ho, .inr ⟨hw, rfl⟩, okR_lex h2 hsim hst⟩
          | true =>
            unfold lexK kOp
            simp only [ho, hw, Bool.false_eq_true, if_false]
            exact okR_lex h2 hsim hst
        simp only [OkR] at h
        split at h
        · rename_i hg
          exact go h (wanted_none e4 hg)
        · rename_i t g hg
          rcases h with ⟨c, hl, hy, hn⟩ | ⟨hl, hn⟩
          · have hw := wanted_some e4 hg (sim_bool hs hl)
            by_cases e : c = g
            · exact go (hy e) (by rw [hw]; simp [e])
            · exact skip (hn e) (by rw [hw]; simp [e])
          · exact skip hn (wanted_undef e4 hg (sim_undef hs hl))
      · cases hc
    · cases hc
theorem ok_rops {Q : Exit → St → Prop} {s : St} {l : List (Bool × IN)} (h : OkR P E l (Q .normal) s) : Ok P E (.rops l) Q s := by
  intro c hc a w hs
  cases c <;> simp only [comp] at hc
  case region id ops draw =>
    rcases compReg_cases hc with ⟨l', h', _⟩ | ⟨l', h', _⟩ | ⟨l', h', hd', hD⟩
    · cases h'
    · cases h'
    · cases h'
      subst hd'
      unfold compD at hD
      simp only at hD
      split at hD
      · rename_i hB
        simp only [Bool.and_eq_true] at hB
        obtain ⟨S, ρ, foot, hx⟩ := hs
        exact wp_region_ord hB.2 hB.1 (okR_lex hD ⟨S, ρ, foot, hx.drawn (w.drawn + 1)⟩ h)
      · cases hD
  all_goals (first | (rcases compReg_cases hc with ⟨_, h', _⟩ | ⟨_, h', _⟩ | ⟨_, h', _⟩ <;> cases h'; done) | (split at hc <;> first | cases hc | (split at hc <;> first | cases hc | (split at hc <;> cases hc))) | (cases hc) | (simp at hc))
/-- A call in a drawn region; its arguments are only read. -/
theorem up_callV {d : Option Nat} {g : Option (Nat × Bool)} {K : St → Prop} {f : Nat} {xs : List Operand} {ts us : List T} {vw : List Nat} {c : Prop} {R : T → List T → Prop} (hev : evals s xs = some ts) (hp : argL s (zipF ts) = some (us, [], vw, c)) (hc : c) (hC : ACall P f us R) (hokd : E.okdO d)
    (hK : ∀ r l, R r l → (vw = [] ∨ r.noSh) ∧ unpOkO s d r ∧ K (s.unpO d r)) : InstrUp P E ⟨d, g, .call f xs⟩ K s := by
  intro o g1 g2 g3 a w ⟨S, ρ, foot, hsx⟩
  rw [zipF_eq] at hp
  simp only at g1 g2 g3
  unfold compI at g1
  split at g1 <;> try (simp at g1; done)
  case h_23 cl hop =>
    split at g1 <;> try (first | (simp at g1; done) | (repeat' split at g1) <;> simp at g1; done)
    rename_i f' hcal
    split at g1
    · rename_i fn hfn
      split at g1
      · rename_i hb
        simp only [Bool.and_eq_true, bne_iff_ne, ne_eq] at hb
        simp only [Option.some.injEq, I.call.injEq] at g1
        obtain ⟨rfl, rfl⟩ := g1
        rw [enter_run hop hcal hfn hb.1 hb.2]
        simp only [Oper.up, g2]
        have hl := evals_length _ _ hev
        refine (calls_ok (P := P) hsx (vs := cl.args.map a.eval) (ts := ts) (modes := ts.map fun _ => false) (ow := []) (d := d) (K := K) ?_ (by simpa using hl.symm) (by simp) hp hc (by simp) (by simp) hC g3 hokd fun r l hR => ?_).mono ?_
        · refine rep_evals hsx _ _ _ 0 hev fun j x hx => ?_
          have : cl.args[j]? = some x := by simpa using hx
          simp [this]
        · obtain ⟨k1, k2, k3⟩ := hK r l hR
          obtain ⟨b1, b2⟩ := bkL_views' (s0 := s) (s := delL s []) ts l
          refine ⟨k1.imp id (fun h => ⟨h, ownNoSh_views ts l⟩), b2, ?_, ?_⟩
          · rw [b1]; exact k2
          · rw [b1]; exact k3
        · rintro e w' ⟨rv, rfl, hab, s', h1, h2⟩
          exact ⟨rv, rfl, hab rfl, s', h1, h2⟩
      · cases g1
    · cases g1
  all_goals (repeat' split at g1) <;> simp at g1
end
end Go.Am

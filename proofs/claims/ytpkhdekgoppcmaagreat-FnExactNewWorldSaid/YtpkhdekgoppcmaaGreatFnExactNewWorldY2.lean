import Derived.Test.YtpkhdekgoppcmaaGreatFnExactNewWorldA1
import Derived.Laws.Externs
set_option linter.all false
set_option maxHeartbeats 4000000
namespace Go.Proofs.Wb
open Tryz renaming prog → p_
open Go Go.Am
theorem flR_wf : recW flR ∧ recB flR ∧ recOk flR = true := by
 have hmx := mx_eq
 refine ⟨⟨?_, by decide, by decide⟩, ⟨by decide, by decide⟩, by decide⟩
 simp [Rec.wf, flR, wfL]
theorem grp_mk {g : Group} (h1 : g.Reps.length ≤ 100) (h2 : ∀ r ∈ g.Reps, r.Log = [] ∨ r.Log = [flE]) : grpW g ∧ grpB g := by
 have hmx := mx_eq
 have key : ∀ r ∈ g.Reps, r.Log.length ≤ 1 ∧ ∀ e ∈ r.Log, e = flE := fun r hr => by
  rcases h2 r hr with e | e <;> rw [e] <;> simp
 refine ⟨⟨by omega, fun r hr => ⟨by have := (key r hr).1; omega, fun e he => ?_⟩⟩, by omega, fun r hr => ⟨by have := (key r hr).1; omega, fun e he => ?_⟩⟩
 ·rw [(key r hr).2 e he]; exact flR_wf.1
 ·rw [(key r hr).2 e he]; exact flR_wf.2.1
theorem newG_wf : grpW newG ∧ grpB newG := grp_mk (by decide) (by intro r hr; simp [newG, newR] at hr; subst hr; exact .inl rfl)
theorem elG_wf : grpW elG ∧ grpB elG := grp_mk (by decide) (by intro r hr; simp [elG, newR] at hr; subst hr; exact .inl rfl)
theorem ptG_wf : grpW ptG ∧ grpB ptG := grp_mk (by decide) (by intro r hr; simp [ptG, newR, rpN] at hr; rcases hr with rfl | rfl; exact .inr rfl; exact .inl rfl)
theorem c1G_wf : grpW c1G ∧ grpB c1G := grp_mk (by decide) (by intro r hr; simp [c1G, newR, rpN] at hr; rcases hr with rfl | rfl; exact .inr rfl; exact .inl rfl)
theorem c2G_wf : grpW c2G ∧ grpB c2G := grp_mk (by decide) (by intro r hr; simp [c2G, newR, rpN] at hr; subst hr; exact .inr rfl)
theorem grp_oks : grpOk newG = true ∧ grpOk elG = true ∧ grpOk ptG = true ∧ grpOk c1G = true ∧ grpOk c2G = true := by decide
def lastT (l : List Entry) : Int := if l.length = 0 then 0 else (nth l (l.length - 1)).Term
def newerE (a b : List Entry) : Bool := decide (lastT b < lastT a) || (decide (lastT a = lastT b) && decide (b.length < a.length))
open Go.Proofs.Wb renaming H149 → z0_, C149 → z1_ in
theorem lastTerm_ok (l : List Entry) (hl : l.length ≤ maxLen) : ACall p_ 149 [.sl false 8 (l.map (Entry.row false))] (fun x _ => x = i64 (lastT l)) := Q19_
open Go.Proofs.Wb renaming H119 → z0_, C119 → z1_, lastTerm_ok → z2_ in
theorem isNewer_ok (a b : List Entry) (ha : a.length ≤ maxLen) (hb0 : b.length ≤ maxLen) : ACall p_ 119 [.sl false 8 (a.map (Entry.row false)), .sl false 8 (b.map (Entry.row false))] (fun x _ => x = bl (newerE a b)) := Q20_
open Go.Proofs.Wb renaming H134 → z0_, C134 → z1_ in
theorem l9Last_ok (l : List Entry) (hl : l.length ≤ maxLen) : ACall p_ 134 [.sl false 8 (l.map (Entry.row false))] (fun x _ => x = i64 (lastT l)) := Q19_
open Go.Proofs.Wb renaming H103 → z0_, C103 → z1_, l9Last_ok → z2_ in
theorem l9Later_ok (a b : List Entry) (ha : a.length ≤ maxLen) (hb0 : b.length ≤ maxLen) : ACall p_ 103 [.sl false 8 (a.map (Entry.row false)), .sl false 8 (b.map (Entry.row false))] (fun x _ => x = bl (newerE a b)) := Q20_
theorem caps_nmb {caps : List T} (h : caps.all T.cap = true) (d : Nat) : noMLb d caps = true := (noMLb_iff d caps).2 (caps_noM h d)
theorem caps_ren {caps : List T} (h : caps.all T.cap = true) (d d' : Nat) : renL d d' caps = caps := renL_packed d d' (caps_pk h)
theorem isMost_ok (g : Group) (f : Nat) (caps : List T) (p : Replica → Bool) (hent : entB p_ f = true) (hcap : caps.all T.cap = true) (hl : g.Reps.length ≤ 2 ^ 20) (hp : ∀ x, x ∈ g.Reps → ACall p_ f ([.agg (Replica.row false x)] ++ caps) (fun r _ => r = bl (p x))) :
  ACall p_ 117 [.agg (Group.row false g), .fn f caps] (fun r _ => r = bl (decide ((g.Reps.length : Int) < 2 * (cntN (fun i => p (nth g.Reps i)) g.Reps.length : Nat)))) := by
 have hmx := mx_eq
 refine fn_in (hqA H117) (hqB H117) ⟨by simp only [go_sem, caps_bare hcap, caps_pk hcap, caps_noM hcap, caps_lt hcap, caps_ids hcap, caps_nmb hcap, caps_ren hcap], fun E hE hH => ?_⟩; simp only [go_sem, caps_bare hcap, caps_pk hcap, caps_noM hcap, caps_lt hcap, caps_ids hcap, caps_nmb hcap, caps_ren hcap] at hE hH; simp only [go_sem, hE, hH, caps_bare hcap, caps_pk hcap, caps_noM hcap, caps_lt hcap, caps_ids hcap, caps_nmb hcap, caps_ren hcap, C117]
 refine loopNe g.Reps.length (fun j (_ : Unit) => ⟨[(1, .fn f caps), (2, .ptr 3000000 0 0), (5, i64 (cntN (fun i => p (nth g.Reps i)) j : Nat)), (9, .sl false 3 (g.Reps.map (Replica.row false))), (10, i64 g.Reps.length), (11, i64 j)], [(3000000, ⟨3, [Group.row false g]⟩)]⟩) (fun _ _ => True) () rfl trivial ?_
 intro j _ hj _
 have hcn := cntN_le (p := fun i => p (nth g.Reps i)) (n := j)
 try simp only [go_sem, hE, hH, caps_bare hcap, caps_pk hcap, caps_noM hcap, caps_lt hcap, caps_ids hcap, caps_nmb hcap, caps_ren hcap, C117_l1]
 first | refine gd_t (fun h => ?_) (fun h => ?_) | refine gd_f (fun h => ?_) (fun h => ?_)
 ·have hb := h
  simp only [nf] at h
  have hlt : j < g.Reps.length := by omega
  clear h
  try simp (disch := omega) only [go_sem, hE, hH, caps_bare hcap, caps_pk hcap, caps_noM hcap, caps_lt hcap, caps_ids hcap, caps_nmb hcap, caps_ren hcap, hb]
  try refine And.intro (by omega) ?_
  refine ok_cfv rfl rfl rfl (hent) (hcap) (hp _ (nth_mem hlt)) ?_
  try simp (disch := omega) only [go_sem, hE, hH, caps_bare hcap, caps_pk hcap, caps_noM hcap, caps_lt hcap, caps_ids hcap, caps_nmb hcap, caps_ren hcap]
  repeat' (first | ((with_reducible apply ga) <;> refine gs5_ fun h => ?_) | ((with_reducible apply an); · omega) | (with_reducible first | apply jn | apply both | apply an | exact ti) | exact fj5_ | refine st5_ ?_ | exact fm5_ | refine s15_ ?_)
  all_goals first | omega | (refine ⟨(), ?_⟩; simp only [cntN]; simp [*]; done) | (refine ⟨(), ?_⟩; simp only [cntN]; simp_all; done)
 ·try simp (disch := omega) only [go_sem, hE, hH, caps_bare hcap, caps_pk hcap, caps_noM hcap, caps_lt hcap, caps_ids hcap, caps_nmb hcap, caps_ren hcap, h]
  simp only [nf] at h
  have e : j = g.Reps.length := by omega
  subst e
  repeat' (first | ((with_reducible apply ga) <;> refine gs5_ fun h => ?_) | ((with_reducible apply an); · omega) | (with_reducible first | apply jn | apply both | apply an | exact ti) | exact fj5_ | refine st5_ ?_ | exact fm5_ | refine s15_ ?_)
  all_goals first | omega | rfl | (congr 1; simp; omega)
theorem ElectRep_1_ok (x : Replica) (g : Group) (r : Nat) (hx : x.Log.length ≤ maxLen) (hr : r < g.Reps.length) (hl : g.Reps.length ≤ maxLen) (hg : (nth g.Reps r).Log.length ≤ maxLen) : ACall p_ 118 ([.agg (Replica.row false x)] ++ [.bx false (Group.row false g), .bx false [i64 r]]) (fun q _ => q = bl (x.Up && !newerE x.Log (nth g.Reps r).Log)) := by
 have hmx := mx_eq
 refine fg H118 fun E hE hH => ?_; simp only [go_sem, hE, hH, C118]
 repeat' (first | ((with_reducible apply ga) <;> refine gs fun h => ?_) | ((with_reducible apply an); · omega) | ((first | refine ok_view ?_ | refine cvA (isNewer_ok x.Log (nth g.Reps r).Log hx hg) ?_); refine st ?_) | (with_reducible first | apply jn | apply both | apply an | exact ti) | exact fj | refine st ?_ | exact fm | refine s1 ?_)
 all_goals first | omega | rfl | (simp_all; done)
theorem electNew_ok : ACall p_ 82 [.agg (Group.row false newG), i64 0] (fun x _ => x = .tup [.agg (Group.row true elG), bl true]) := by
 have hmx := mx_eq
 have c1 := GoodGroup_ok newG newG_wf.1
 rw [grp_oks.1] at c1
 have c2 := isRep_ok newG 0 newG_wf.1.1
 rw [show rng 0 0 ((newG.Reps.length : Int) - 1) = true from rfl] at c2
 have c3 := isMost_ok newG 118 [.bx false (Group.row false newG), .bx false [i64 0]] (fun x => x.Up && !newerE x.Log (nth newG.Reps 0).Log) (by kernel_rfl) rfl (by decide) (fun x hx => ElectRep_1_ok x newG 0 (by rcases List.mem_cons.1 hx with rfl | hx; exact Nat.zero_le _; rcases List.mem_cons.1 hx with rfl | hx; exact Nat.zero_le _; rcases List.mem_cons.1 hx with rfl | hx; exact Nat.zero_le _; cases hx) (by decide) (by decide) (by decide))
 rw [show decide ((newG.Reps.length : Int) < 2 * (cntN (fun i => (nth newG.Reps i).Up && !newerE (nth newG.Reps i).Log (nth newG.Reps 0).Log) newG.Reps.length : Nat)) = true by decide] at c3
 have c4 := copyGroup_ok newG newG_wf.2
 have e1 : newG.Reps.length = 3 := rfl
 have e2 : newG.Term = 0 := rfl
 have e3 : newG.Lead = -1 := rfl
 have e4 : (nth newG.Reps 0).Up = true := rfl
 refine fg H82 fun E hE hH => ?_; simp only [go_sem, hE, hH, C82]
 all_goals (have y1_ := e1; have y2_ := e2; have y3_ := e3; have y4_ := e4; repeat' (first | ((with_reducible apply ga) <;> refine gs3_ fun h => ?_) | ((with_reducible apply an); · omega) | ((first | refine ok_view ?_ | refine cvA (c1) ?_ | refine cvA (c2) ?_ | refine cvA (c3) ?_ | refine cvA (c4) ?_); refine st3_ ?_) | (with_reducible first | apply jn | apply both | apply an | exact ti) | exact fj3_ | refine st3_ ?_ | exact fm3_ | refine s13_ ?_))
 all_goals first | omega | rfl | (simp_all; done)
theorem l9Up_ok (g : Group) (r : Nat) (u : Bool) (hw : grpW g) (hg : grpOk g = true) (hr : r < g.Reps.length) : ACall p_ 102 [.agg (Group.row false g), i64 r, bl u] (fun x _ => x = bl (decide ((nth g.Reps r).Up = u))) := by
 have hmx := mx_eq
 have hl := hw.1
 have c1 := sGoodGroup_ok g hw
 rw [hg] at c1
 have c2 := l1In_ok r 0 ((g.Reps.length : Int) - 1)
 rw [rng_iff.2 (by omega)] at c2
 refine fg H102 fun E hE hH => ?_; simp only [go_sem, hE, hH, C102]
 repeat' (first | ((with_reducible apply ga) <;> refine gs fun h => ?_) | ((with_reducible apply an); · omega) | ((first | refine ok_view ?_ | refine cvA (c1) ?_ | refine cvA (c2) ?_); refine st ?_) | (with_reducible first | apply jn | apply both | apply an | exact ti) | exact fj | refine st ?_ | exact fm | refine s1 ?_)
 all_goals first | omega | rfl | (simp_all; done) | (simp_all; omega)
theorem selectNew_ok : ACall p_ 67 [.agg (Group.row false newG), i64 0] (fun x _ => x = .tup [.agg (Group.row true elG), bl true]) := by
 have hmx := mx_eq
 have c1 := l9Up_ok newG 0 true newG_wf.1 grp_oks.1 (by decide)
 rw [show decide ((nth newG.Reps 0).Up = true) = true by decide] at c1
 have c2 := l9Later_ok [] [] (Nat.zero_le _) (Nat.zero_le _)
 rw [show newerE [] [] = false from rfl] at c2
 have c4 := l9Own_ok newG newG_wf.2
 have e1 : newG.Reps.length = 3 := rfl
 have e2 : newG.Term = 0 := rfl
 have e3 : newG.Lead = -1 := rfl
 have e4 : ∀ j, j < 3 → nth newG.Reps j = ⟨true, [], 0⟩ := fun j hj => by
  obtain rfl | rfl | rfl : j = 0 ∨ j = 1 ∨ j = 2 := by omega
  all_goals rfl
 refine fg H67 fun E hE hH => ?_; simp only [go_sem, hE, hH, C67]
 all_goals (have y1_ := e1; have y2_ := e2; have y3_ := e3; have y4_ := e4; repeat' (first | ((with_reducible apply ga) <;> refine gs3_ fun h => ?_) | ((with_reducible apply an); · omega) | ((first | refine ok_view ?_ | refine cvA (c1) ?_); refine st3_ ?_) | (with_reducible first | apply jn | apply both | apply an | exact ti) | exact fj3_ | refine st3_ ?_ | exact fm3_ | refine s13_ ?_))
 all_goals try (exfalso; first | omega | (simp_all; done))
 refine loopNe 3 (fun j (_ : Unit) => ⟨[(1, i64 0), (2, .ptr 3000000 0 0), (4, .ptr 5000000 0 0), (6, i64 j), (7, i64 j)], [(3000000, ⟨3, [Group.row false newG]⟩), (5000000, ⟨3, [[nils, i64 0, i64 0]]⟩)]⟩) (fun _ _ => True) () rfl trivial ?_
 intro j _ hj _
 try simp only [go_sem, hE, hH, C67_l1]
 first | refine gd_t (fun h => ?_) (fun h => ?_) | refine gd_f (fun h => ?_) (fun h => ?_)
 ·have hb := h
  simp only [e1] at h
  simp only [nf] at h
  have hlt : j < 3 := by omega
  have e4' := e4 j hlt
  try simp (disch := omega) only [go_sem, hE, hH, e1, e2, e3, e4', e4, hb]
  all_goals (have y1_ := e1; have y2_ := e2; have y3_ := e3; have y4_ := e4'; have y5_ := e4; repeat' (first | ((with_reducible apply ga) <;> refine gs6_ fun h => ?_) | ((with_reducible apply an); · omega) | ((first | refine ok_view ?_ | refine cvA (c2) ?_); refine st6_ ?_) | (with_reducible first | apply jn | apply both | apply an | exact ti) | exact fj6_ | refine st6_ ?_ | exact fm6_ | refine s16_ ?_))
  all_goals first | omega | exact ⟨(), rfl⟩
 ·try simp (disch := omega) only [go_sem, hE, hH, h]
  simp only [e1] at h
  simp only [nf] at h
  have e : j = 3 := by omega
  subst e
  all_goals (have y1_ := e1; have y2_ := e2; have y3_ := e3; repeat' (first | ((with_reducible apply ga) <;> refine gs4_ fun h => ?_) | ((with_reducible apply an); · omega) | ((first | refine ok_view ?_ | refine cvA (c4) ?_); refine st4_ ?_) | (with_reducible first | apply jn | apply both | apply an | exact ti) | exact fj4_ | refine st4_ ?_ | exact fm4_ | refine s14_ ?_))
  all_goals first | omega | rfl | (simp_all; done)
def eqS1 (a b : List ByteArray) : Bool := decide (a.length = b.length) && allN (fun i => decide (nth a i = nth b i)) a.length
def wrEq (x y : Write) : Bool := decide (x.Key = y.Key) && decide (x.Val = y.Val) && decide (x.Gone = y.Gone)
def eqW1 (a b : List Write) : Bool := decide (a.length = b.length) && allN (fun i => wrEq (nth a i) (nth b i)) a.length
def sameR (a b : Rec) : Bool := decide (a.Kind = b.Kind) && decide (a.Txn = b.Txn) && decide (a.Time = b.Time) && decide (a.Lead = b.Lead) && decide (a.Yes = b.Yes) && eqS1 a.Reads b.Reads && eqW1 a.Writes b.Writes
def sameE (a b : Entry) : Bool := decide (a.Term = b.Term) && sameR a.Rec b.Rec
def eqE1 (a b : List Entry) : Bool := decide (a.length = b.length) && allN (fun i => sameE (nth a i) (nth b i)) a.length
def prefE (l f : List Entry) : Bool := decide (f.length ≤ l.length) && eqE1 (l.take f.length) f
theorem Equal_String_ok (a b : List ByteArray) (ha : a.length ≤ maxLen) (hb0 : b.length ≤ maxLen) : ACall p_ 292 [.sl false 1 (strs a), .sl false 1 (strs b)] (fun x _ => x = bl (eqS1 a b)) := by
 have hmx := mx_eq
 by_cases hl : a.length = b.length
 ·refine fg H292 fun E hE hH => ?_; simp only [go_sem, hE, hH, C292]
  repeat' (first | ((with_reducible apply ga) <;> refine gs fun h => ?_) | ((with_reducible apply an); · omega) | (with_reducible first | apply jn | apply both | apply an | exact ti) | exact fj | refine st ?_ | exact fm | refine s1 ?_)
  all_goals try (exfalso; omega)
  refine loopNe a.length (fun j (_ : Unit) => ⟨[(0, .sl false 1 (strs a)), (1, .sl false 1 (strs b)), (12, i64 a.length), (13, i64 j)], []⟩) (fun j _ => allN (fun i => decide (nth a i = nth b i)) j = true) () rfl rfl ?_
  intro j _ hj hI
  try simp only [go_sem, hE, hH, C292_l1]
  first | refine gd_t (fun h => ?_) (fun h => ?_) | refine gd_f (fun h => ?_) (fun h => ?_)
  ·have hb := h
   simp only [nf] at h
   have hlt : j < a.length := by omega
   clear h
   try refine sb ?_; try exact ⟨⟩
   repeat' (first | ((with_reducible apply ga) <;> refine gs fun h => ?_) | ((with_reducible apply an); · omega) | (with_reducible first | apply jn | apply both | apply an | exact ti) | exact fj | refine st ?_ | exact fm | refine s1 ?_)
   all_goals first | omega | exact ⟨(), rfl, allN_step hI (by simp_all)⟩ | (rw [eqS1, allN_no hlt (by simp_all)]; simp; done)
  ·try simp (disch := omega) only [go_sem, hE, hH, h]
   simp only [nf] at h
   rw [show j = a.length by omega] at hI
   rw [eqS1, hI, hl]
   repeat' (first | ((with_reducible apply ga) <;> refine gs fun h => ?_) | ((with_reducible apply an); · omega) | (with_reducible first | apply jn | apply both | apply an | exact ti) | exact fj | refine st ?_ | exact fm | refine s1 ?_)
   all_goals first | rfl | (simp; done)
 ·rw [show eqS1 a b = false by simp [eqS1, hl]]
  refine fg H292 fun E hE hH => ?_; simp only [go_sem, hE, hH, C292]
  repeat' (first | ((with_reducible apply ga) <;> refine gs fun h => ?_) | ((with_reducible apply an); · omega) | (with_reducible first | apply jn | apply both | apply an | exact ti) | exact fj | refine st ?_ | exact fm | refine s1 ?_)
  all_goals first | rfl | (exfalso; omega)
theorem Equal_Write_ok (a b : List Write) (ha : a.length ≤ maxLen) (hb0 : b.length ≤ maxLen) : ACall p_ 293 [.sl false 3 (a.map (Write.row false)), .sl false 3 (b.map (Write.row false))] (fun x _ => x = bl (eqW1 a b)) := by
 have hmx := mx_eq
 by_cases hl : a.length = b.length
 ·refine fg H293 fun E hE hH => ?_; simp only [go_sem, hE, hH, C293]
  repeat' (first | ((with_reducible apply ga) <;> refine gs fun h => ?_) | ((with_reducible apply an); · omega) | (with_reducible first | apply jn | apply both | apply an | exact ti) | exact fj | refine st ?_ | exact fm | refine s1 ?_)
  all_goals try (exfalso; omega)
  refine loopNe a.length (fun j (_ : Unit) => ⟨[(0, .sl false 3 (a.map (Write.row false))), (1, .sl false 3 (b.map (Write.row false))), (12, i64 a.length), (13, i64 j)], []⟩) (fun j _ => allN (fun i => wrEq (nth a i) (nth b i)) j = true) () rfl rfl ?_
  intro j _ hj hI
  try simp only [go_sem, hE, hH, C293_l1]
  first | refine gd_t (fun h => ?_) (fun h => ?_) | refine gd_f (fun h => ?_) (fun h => ?_)
  ·have hb := h
   simp only [nf] at h
   have hlt : j < a.length := by omega
   clear h
   try refine sb ?_; try exact ⟨⟩
   repeat' (first | ((with_reducible apply ga) <;> refine gs fun h => ?_) | ((with_reducible apply an); · omega) | (with_reducible first | apply jn | apply both | apply an | exact ti) | exact fj | refine st ?_ | exact fm | refine s1 ?_)
   all_goals first | omega | exact ⟨(), rfl, allN_step hI (by simp_all [wrEq])⟩ | (rw [eqW1, allN_no hlt (by simp_all [wrEq])]; simp; done)
  ·try simp (disch := omega) only [go_sem, hE, hH, h]
   simp only [nf] at h
   rw [show j = a.length by omega] at hI
   rw [eqW1, hI, hl]
   repeat' (first | ((with_reducible apply ga) <;> refine gs fun h => ?_) | ((with_reducible apply an); · omega) | (with_reducible first | apply jn | apply both | apply an | exact ti) | exact fj | refine st ?_ | exact fm | refine s1 ?_)
   all_goals first | rfl | (simp; done)
 ·rw [show eqW1 a b = false by simp [eqW1, hl]]
  refine fg H293 fun E hE hH => ?_; simp only [go_sem, hE, hH, C293]
  repeat' (first | ((with_reducible apply ga) <;> refine gs fun h => ?_) | ((with_reducible apply an); · omega) | (with_reducible first | apply jn | apply both | apply an | exact ti) | exact fj | refine st ?_ | exact fm | refine s1 ?_)
  all_goals first | rfl | (exfalso; omega)
theorem SameRec_ok (a b : Rec) (ha : recB a) (hb0 : recB b) : ACall p_ 281 [.agg (Rec.row false a), .agg (Rec.row false b)] (fun x _ => x = bl (sameR a b)) := by
 have hmx := mx_eq
 have c1 := Equal_String_ok a.Reads b.Reads (by have := ha.1; omega) (by have := hb0.1; omega)
 have c2 := Equal_Write_ok a.Writes b.Writes (by have := ha.2; omega) (by have := hb0.2; omega)
 rw [sameR]
 generalize eqS1 a.Reads b.Reads = q1 at *
 generalize eqW1 a.Writes b.Writes = q2 at *
 refine fg H281 fun E hE hH => ?_; simp only [go_sem, hE, hH, C281]
 repeat' (first | ((with_reducible apply ga) <;> refine gs fun h => ?_) | ((with_reducible apply an); · omega) | ((first | refine ok_view ?_ | refine cvA (c1) ?_ | refine cvA (c2) ?_); refine st ?_) | (with_reducible first | apply jn | apply both | apply an | exact ti) | exact fj | refine st ?_ | exact fm | refine s1 ?_)
 all_goals first | omega | rfl | (simp_all; done)
theorem sameEntry_ok (a b : Entry) (ha : recB a.Rec) (hb0 : recB b.Rec) : ACall p_ 254 [.agg (Entry.row false a), .agg (Entry.row false b)] (fun x _ => x = bl (sameE a b)) := by
 have hmx := mx_eq
 have c1 := SameRec_ok a.Rec b.Rec ha hb0
 rw [sameE]
 generalize sameR a.Rec b.Rec = q1 at *
 refine fg H254 fun E hE hH => ?_; simp only [go_sem, hE, hH, C254]
 repeat' (first | ((with_reducible apply ga) <;> refine gs fun h => ?_) | ((with_reducible apply an); · omega) | ((first | refine ok_view ?_ | refine cvA (c1) ?_); refine st ?_) | (with_reducible first | apply jn | apply both | apply an | exact ti) | exact fj | refine st ?_ | exact fm | refine s1 ?_)
 all_goals first | omega | rfl | (simp_all; done)
theorem EqualFunc_Entry_ok (a b : List Entry) (f : Nat) (caps : List T) (hent : entB p_ f = true) (hcap : caps.all T.cap = true) (ha : a.length ≤ maxLen) (hb0 : b.length ≤ maxLen) (hp : ∀ x y, x ∈ a → y ∈ b → ACall p_ f ([.agg (Entry.row false x), .agg (Entry.row false y)] ++ caps) (fun r _ => r = bl (sameE x y))) :
  ACall p_ 253 [.sl false 8 (a.map (Entry.row false)), .sl false 8 (b.map (Entry.row false)), .fn f caps] (fun r _ => r = bl (eqE1 a b)) := by
 have hmx := mx_eq
 by_cases hl : a.length = b.length
 ·refine fn_in (hqA H253) (hqB H253) ⟨by simp only [go_sem, caps_bare hcap, caps_pk hcap, caps_noM hcap, caps_lt hcap, caps_ids hcap, caps_nmb hcap, caps_ren hcap], fun E hE hH => ?_⟩; simp only [go_sem, caps_bare hcap, caps_pk hcap, caps_noM hcap, caps_lt hcap, caps_ids hcap, caps_nmb hcap, caps_ren hcap] at hE hH; simp only [go_sem, hE, hH, caps_bare hcap, caps_pk hcap, caps_noM hcap, caps_lt hcap, caps_ids hcap, caps_nmb hcap, caps_ren hcap, C253]
  repeat' (first | ((with_reducible apply ga) <;> refine gs5_ fun h => ?_) | ((with_reducible apply an); · omega) | (with_reducible first | apply jn | apply both | apply an | exact ti) | exact fj5_ | refine st5_ ?_ | exact fm5_ | refine s15_ ?_)
  all_goals try (exfalso; omega)
  refine loopNe a.length (fun j (_ : Unit) => ⟨[(1, .sl false 8 (b.map (Entry.row false))), (2, .fn f caps), (15, .sl false 8 (a.map (Entry.row false))), (16, i64 a.length), (17, i64 j)], []⟩) (fun j _ => allN (fun i => sameE (nth a i) (nth b i)) j = true) () rfl rfl ?_
  intro j _ hj hI
  try simp only [go_sem, hE, hH, caps_bare hcap, caps_pk hcap, caps_noM hcap, caps_lt hcap, caps_ids hcap, caps_nmb hcap, caps_ren hcap, C253_l1]
  first | refine gd_t (fun h => ?_) (fun h => ?_) | refine gd_f (fun h => ?_) (fun h => ?_)
  ·have hb := h
   simp only [nf] at h
   have hlt : j < a.length := by omega
   clear h
   try simp (disch := omega) only [go_sem, hE, hH, caps_bare hcap, caps_pk hcap, caps_noM hcap, caps_lt hcap, caps_ids hcap, caps_nmb hcap, caps_ren hcap, hb]
   repeat (refine And.intro (by omega) ?_)
   refine ok_cfv rfl rfl rfl (hent) (hcap) (hp _ _ (nth_mem hlt) (nth_mem (show j < b.length by omega))) ?_
   try simp (disch := omega) only [go_sem, hE, hH, caps_bare hcap, caps_pk hcap, caps_noM hcap, caps_lt hcap, caps_ids hcap, caps_nmb hcap, caps_ren hcap]
   repeat' (first | ((with_reducible apply ga) <;> refine gs5_ fun h => ?_) | ((with_reducible apply an); · omega) | (with_reducible first | apply jn | apply both | apply an | exact ti) | exact fj5_ | refine st5_ ?_ | exact fm5_ | refine s15_ ?_)
   all_goals first | omega | exact ⟨(), rfl, allN_step hI (by simp_all)⟩ | (rw [eqE1, allN_no hlt (by simp_all)]; simp; done)
  ·try simp (disch := omega) only [go_sem, hE, hH, caps_bare hcap, caps_pk hcap, caps_noM hcap, caps_lt hcap, caps_ids hcap, caps_nmb hcap, caps_ren hcap, h]
   simp only [nf] at h
   rw [show j = a.length by omega] at hI
   rw [eqE1, hI, hl]
   repeat' (first | ((with_reducible apply ga) <;> refine gs5_ fun h => ?_) | ((with_reducible apply an); · omega) | (with_reducible first | apply jn | apply both | apply an | exact ti) | exact fj5_ | refine st5_ ?_ | exact fm5_ | refine s15_ ?_)
   all_goals first | rfl | (simp; done)
 ·rw [show eqE1 a b = false by simp [eqE1, hl]]
  refine fn_in (hqA H253) (hqB H253) ⟨by simp only [go_sem, caps_bare hcap, caps_pk hcap, caps_noM hcap, caps_lt hcap, caps_ids hcap, caps_nmb hcap, caps_ren hcap], fun E hE hH => ?_⟩; simp only [go_sem, caps_bare hcap, caps_pk hcap, caps_noM hcap, caps_lt hcap, caps_ids hcap, caps_nmb hcap, caps_ren hcap] at hE hH; simp only [go_sem, hE, hH, caps_bare hcap, caps_pk hcap, caps_noM hcap, caps_lt hcap, caps_ids hcap, caps_nmb hcap, caps_ren hcap, C253]
  repeat' (first | ((with_reducible apply ga) <;> refine gs5_ fun h => ?_) | ((with_reducible apply an); · omega) | (with_reducible first | apply jn | apply both | apply an | exact ti) | exact fj5_ | refine st5_ ?_ | exact fm5_ | refine s15_ ?_)
  all_goals first | rfl | (exfalso; omega)
theorem sameEntries_ok (a b : List Entry) (ha : logB a) (hb0 : logB b) : ACall p_ 224 [.sl false 8 (a.map (Entry.row false)), .sl false 8 (b.map (Entry.row false))] (fun x _ => x = bl (eqE1 a b)) := by
 have hmx := mx_eq
 have h1 := ha.1
 have h2 := hb0.1
 refine fg H224 fun E hE hH => ?_; simp only [go_sem, hE, hH, C224]
 repeat' (first | ((with_reducible apply ga) <;> refine gs fun h => ?_) | ((with_reducible apply an); · omega) | ((first | refine ok_view ?_ | refine cvA (EqualFunc_Entry_ok a b 254 [] (by kernel_rfl) rfl (by omega) (by omega) (fun x y hx hy => sameEntry_ok x y (ha.2 x hx) (hb0.2 y hy))) ?_); refine st ?_) | (with_reducible first | apply jn | apply both | apply an | exact ti) | exact fj | refine st ?_ | exact fm | refine s1 ?_)
 all_goals first | omega | rfl
theorem hasPrefix_ok (a b : List Entry) (ha : logB a) (hb0 : logB b) : ACall p_ 191 [.sl false 8 (a.map (Entry.row false)), .sl false 8 (b.map (Entry.row false))] (fun x _ => x = bl (prefE a b)) := by
 have hmx := mx_eq
 have h1 := ha.1
 have h2 := hb0.1
 have c1 := sameEntries_ok (a.take b.length) b ⟨by rw [List.length_take]; omega, fun e he => ha.2 e (List.mem_of_mem_take he)⟩ hb0
 rw [prefE]
 generalize eqE1 (a.take b.length) b = q1 at *
 refine fg H191 fun E hE hH => ?_; simp only [go_sem, hE, hH, C191]
 repeat' (first | ((with_reducible apply ga) <;> refine gs fun h => ?_) | ((with_reducible apply an); · omega) | ((first | refine ok_view ?_ | refine cvA (c1) ?_); refine st ?_) | (with_reducible first | apply jn | apply both | apply an | exact ti) | exact fj | refine st ?_ | exact fm | refine s1 ?_)
 all_goals first | omega | rfl | (rw [decide_eq_false (by omega)]; rfl) | (rw [decide_eq_true (by omega)]; rfl) | (simp_all; done)
theorem Advance_1_ok (x ld : Replica) (n : Nat) (hx : logB x.Log) (hd : logB ld.Log) (hn : n ≤ ld.Log.length) : ACall p_ 190 ([.agg (Replica.row false x)] ++ [.bx false (Replica.row false ld), .bx false [i64 n]]) (fun q _ => q = bl (prefE x.Log (ld.Log.take n))) := by
 have hmx := mx_eq
 have h1 := hd.1
 have h2 := hx.1
 refine fg H190 fun E hE hH => ?_; simp only [go_sem, hE, hH, C190]
 repeat' (first | ((with_reducible apply ga) <;> refine gs fun h => ?_) | ((with_reducible apply an); · omega) | ((first | refine ok_view ?_ | refine cvA (hasPrefix_ok x.Log (ld.Log.take n) hx ⟨by rw [List.length_take]; omega, fun e he => hd.2 e (List.mem_of_mem_take he)⟩) ?_); refine st ?_) | (with_reducible first | apply jn | apply both | apply an | exact ti) | exact fj | refine st ?_ | exact fm | refine s1 ?_)
 all_goals first | omega | rfl | (simp_all; done)
theorem l9SameRec_ok (a b : Rec) (ha : recB a) (hb0 : recB b) : ACall p_ 227 [.agg (Rec.row false a), .agg (Rec.row false b)] (fun x _ => x = bl (sameR a b)) := by
 have hmx := mx_eq
 obtain ⟨ha1, ha2⟩ := ha
 obtain ⟨hb1, hb2⟩ := hb0
 by_cases hc : a.Kind = b.Kind ∧ a.Txn = b.Txn ∧ a.Time = b.Time ∧ a.Lead = b.Lead ∧ a.Yes = b.Yes ∧ a.Reads.length = b.Reads.length ∧ a.Writes.length = b.Writes.length
 ·obtain ⟨k1, k2, k3, k4, k5, k6, k7⟩ := hc
  have e : sameR a b = (allN (fun i => decide (nth a.Reads i = nth b.Reads i)) a.Reads.length && allN (fun i => wrEq (nth a.Writes i) (nth b.Writes i)) a.Writes.length) := by
   simp only [sameR, eqS1, eqW1, k1, k2, k3, k4, k5, k6, k7, decide_true, Bool.true_and]
  rw [e]
  refine fg H227 fun E hE hH => ?_; simp only [go_sem, hE, hH, C227]
  repeat' (first | ((with_reducible apply ga) <;> refine gs fun h => ?_) | ((with_reducible apply an); · omega) | (with_reducible first | apply jn | apply both | apply an | exact ti) | exact fj | refine st ?_ | exact fm | refine s1 ?_)
  all_goals try (exfalso; first | omega | (simp_all; done))
  all_goals try (
   refine loopNe a.Reads.length (fun j (_ : Unit) => ⟨[(2, .ptr 3000000 0 0), (3, .ptr 4000000 0 0), (5, i64 j)], [(3000000, ⟨7, [Rec.row false a]⟩), (4000000, ⟨7, [Rec.row false b]⟩)]⟩) (fun j _ => allN (fun i => decide (nth a.Reads i = nth b.Reads i)) j = true) () rfl rfl ?_
   intro j _ hj hI
   try simp only [go_sem, hE, hH, C227_l1]
   first | refine gd_t (fun h => ?_) (fun h => ?_) | refine gd_f (fun h => ?_) (fun h => ?_)
   ·have hb := h
    simp only [nf] at h
    have hlt : j < a.Reads.length := by omega
    clear h
    try refine sb ?_; try exact ⟨⟩
    repeat' (first | ((with_reducible apply ga) <;> refine gs fun h => ?_) | ((with_reducible apply an); · omega) | (with_reducible first | apply jn | apply both | apply an | exact ti) | exact fj | refine st ?_ | exact fm | refine s1 ?_)
    all_goals first | omega | exact ⟨(), rfl, allN_step hI (by simp_all)⟩ | (rw [allN_no hlt (by simp_all)]; simp; done)
   ·try simp (disch := omega) only [go_sem, hE, hH, h]
    simp only [nf] at h
    rw [show j = a.Reads.length by omega] at hI
    rw [hI, Bool.true_and]
    repeat' (first | ((with_reducible apply ga) <;> refine gs fun h => ?_) | ((with_reducible apply an); · omega) | (with_reducible first | apply jn | apply both | apply an | exact ti) | exact fj | refine st ?_ | exact fm | refine s1 ?_)
    refine loopNe a.Writes.length (fun j (_ : Unit) => ⟨[(2, .ptr 3000000 0 0), (3, .ptr 4000000 0 0), (6, i64 j)], [(3000000, ⟨7, [Rec.row false a]⟩), (4000000, ⟨7, [Rec.row false b]⟩)]⟩) (fun j _ => allN (fun i => wrEq (nth a.Writes i) (nth b.Writes i)) j = true) () rfl rfl ?_
    intro j _ hj hI
    try simp only [go_sem, hE, hH, C227_l2]
    first | refine gd_t (fun h => ?_) (fun h => ?_) | refine gd_f (fun h => ?_) (fun h => ?_)
    ·have hb := h
     simp only [nf] at h
     have hlt : j < a.Writes.length := by omega
     clear h
     try refine sb ?_; try exact ⟨⟩
     repeat' (first | ((with_reducible apply ga) <;> refine gs fun h => ?_) | ((with_reducible apply an); · omega) | (with_reducible first | apply jn | apply both | apply an | exact ti) | exact fj | refine st ?_ | exact fm | refine s1 ?_)
     all_goals first | omega | exact ⟨(), rfl, allN_step hI (by simp_all [wrEq])⟩ | (rw [allN_no hlt (by simp_all [wrEq])]; done)
    ·try simp (disch := omega) only [go_sem, hE, hH, h]
     simp only [nf] at h
     rw [show j = a.Writes.length by omega] at hI
     rw [hI]
     repeat' (first | ((with_reducible apply ga) <;> refine gs fun h => ?_) | ((with_reducible apply an); · omega) | (with_reducible first | apply jn | apply both | apply an | exact ti) | exact fj | refine st ?_ | exact fm | refine s1 ?_)
     all_goals first | rfl | trace_state)
 ·have e : sameR a b = false := by
   cases q : sameR a b with
   | false => rfl
   | true => simp only [sameR, eqS1, eqW1, Bool.and_eq_true, decide_eq_true_eq] at q; exact absurd ⟨q.1.1.1.1.1.1, q.1.1.1.1.1.2, q.1.1.1.1.2, q.1.1.1.2, q.1.1.2, q.1.2.1, q.2.1⟩ hc
  rw [e]
  refine fg H227 fun E hE hH => ?_; simp only [go_sem, hE, hH, C227]
  repeat' (first | ((with_reducible apply ga) <;> refine gs fun h => ?_) | ((with_reducible apply an); · omega) | (with_reducible first | apply jn | apply both | apply an | exact ti) | exact fj | refine st ?_ | exact fm | refine s1 ?_)
  all_goals first | rfl | (exfalso; apply hc; simp_all; done) | (exfalso; apply hc; simp_all; omega)
def begE (l o : List Entry) (n : Nat) : Bool := decide (n ≤ l.length) && decide (n ≤ o.length) && allN (fun i => sameE (nth l i) (nth o i)) n
theorem l9Begins_ok (a b : List Entry) (n : Nat) (ha : logB a) (hb0 : logB b) (hn0 : n ≤ 2 ^ 20) : ACall p_ 196 [.sl false 8 (a.map (Entry.row false)), .sl false 8 (b.map (Entry.row false)), i64 n] (fun x _ => x = bl (begE a b n)) := by
 have hmx := mx_eq
 obtain ⟨ha1, ha2⟩ := ha
 obtain ⟨hb1, hb2⟩ := hb0
 by_cases hc : n ≤ a.length ∧ n ≤ b.length
 ·obtain ⟨k1, k2⟩ := hc
  have e : begE a b n = allN (fun i => sameE (nth a i) (nth b i)) n := by simp [begE, k1, k2]
  rw [e]
  refine fg H196 fun E hE hH => ?_; simp only [go_sem, hE, hH, C196]
  repeat' (first | ((with_reducible apply ga) <;> refine gs fun h => ?_) | ((with_reducible apply an); · omega) | (with_reducible first | apply jn | apply both | apply an | exact ti) | exact fj | refine st ?_ | exact fm | refine s1 ?_)
  all_goals try (exfalso; omega)
  refine loopNe n (fun j (_ : Unit) => ⟨[(0, .sl false 8 (a.map (Entry.row false))), (1, .sl false 8 (b.map (Entry.row false))), (2, i64 n), (7, i64 j)], []⟩) (fun j _ => allN (fun i => sameE (nth a i) (nth b i)) j = true) () rfl rfl ?_
  intro j _ hj hI
  try simp only [go_sem, hE, hH, C196_l1]
  first | refine gd_t (fun h => ?_) (fun h => ?_) | refine gd_f (fun h => ?_) (fun h => ?_)
  ·have hb := h
   simp only [nf] at h
   have hlt : j < n := by omega
   clear h
   have c1 := l9SameRec_ok (nth a j).Rec (nth b j).Rec (ha2 _ (nth_mem (by omega))) (hb2 _ (nth_mem (by omega)))
   try refine sb ?_; try exact ⟨⟩
   repeat' (first | ((with_reducible apply ga) <;> refine gs fun h => ?_) | ((with_reducible apply an); · omega) | ((first | refine ok_view ?_ | refine cvA (c1) ?_); refine st ?_) | (with_reducible first | apply jn | apply both | apply an | exact ti) | exact fj | refine st ?_ | exact fm | refine s1 ?_)
   all_goals first | omega | exact ⟨(), rfl, allN_step hI (by simp_all [sameE])⟩ | (rw [allN_no hlt (by simp_all [sameE])]; done)
  ·try simp (disch := omega) only [go_sem, hE, hH, h]
   simp only [nf] at h
   rw [show j = n by omega] at hI
   rw [hI]
   repeat' (first | ((with_reducible apply ga) <;> refine gs fun h => ?_) | ((with_reducible apply an); · omega) | (with_reducible first | apply jn | apply both | apply an | exact ti) | exact fj | refine st ?_ | exact fm | refine s1 ?_)
   all_goals first | rfl
 ·have e : begE a b n = false := by
   simp only [begE, Bool.and_eq_false_iff, decide_eq_false_iff_not]; omega
  rw [e]
  refine fg H196 fun E hE hH => ?_; simp only [go_sem, hE, hH, C196]
  repeat' (first | ((with_reducible apply ga) <;> refine gs fun h => ?_) | ((with_reducible apply an); · omega) | (with_reducible first | apply jn | apply both | apply an | exact ti) | exact fj | refine st ?_ | exact fm | refine s1 ?_)
  all_goals first | rfl | (exfalso; omega)
theorem l9Many_ok (g : Group) (b : List Entry) (n : Nat) (hg : grpB g) (hb0 : logB b) (hn0 : n ≤ 2 ^ 20) : ACall p_ 169 [.agg (Group.row false g), .sl false 8 (b.map (Entry.row false)), i64 n] (fun x _ => x = i64 (cntN (fun i => begE (nth g.Reps i).Log b n) g.Reps.length : Nat)) := by
 have hmx := mx_eq
 obtain ⟨h1, h2⟩ := hg
 refine fg H169 fun E hE hH => ?_; simp only [go_sem, hE, hH, C169]
 repeat' (first | ((with_reducible apply ga) <;> refine gs fun h => ?_) | ((with_reducible apply an); · omega) | (with_reducible first | apply jn | apply both | apply an | exact ti) | exact fj | refine st ?_ | exact fm | refine s1 ?_)
 refine loopNe g.Reps.length (fun j (_ : Unit) => ⟨[(1, .sl false 8 (b.map (Entry.row false))), (2, i64 n), (3, .ptr 4000000 0 0), (7, i64 (cntN (fun i => begE (nth g.Reps i).Log b n) j : Nat)), (8, i64 j)], [(4000000, ⟨3, [Group.row false g]⟩)]⟩) (fun _ _ => True) () rfl trivial ?_
 intro j _ hj _
 have hcn := cntN_le (p := fun i => begE (nth g.Reps i).Log b n) (n := j)
 try simp only [go_sem, hE, hH, C169_l1]
 first | refine gd_t (fun h => ?_) (fun h => ?_) | refine gd_f (fun h => ?_) (fun h => ?_)
 ·have hb := h
  simp only [nf] at h
  have hlt : j < g.Reps.length := by omega
  clear h
  try refine sb ?_; try exact ⟨⟩
  repeat' (first | ((with_reducible apply ga) <;> refine gs fun h => ?_) | ((with_reducible apply an); · omega) | ((first | refine ok_view ?_ | refine cvA (l9Begins_ok (nth g.Reps j).Log b n (h2 _ (nth_mem hlt)) hb0 hn0) ?_); refine st ?_) | (with_reducible first | apply jn | apply both | apply an | exact ti) | exact fj | refine st ?_ | exact fm | refine s1 ?_)
  all_goals first | omega | (refine ⟨(), ?_⟩; simp only [cntN]; simp [*]; done) | (refine ⟨(), ?_⟩; simp only [cntN]; simp_all; done)
 ·try simp (disch := omega) only [go_sem, hE, hH, h]
  simp only [nf] at h
  have e : j = g.Reps.length := by omega
  subst e
  repeat' (first | ((with_reducible apply ga) <;> refine gs fun h => ?_) | ((with_reducible apply an); · omega) | (with_reducible first | apply jn | apply both | apply an | exact ti) | exact fj | refine st ?_ | exact fm | refine s1 ?_)
  all_goals first | omega | rfl
def cpyG (g : Group) (r : Nat) : Group := ⟨g.Reps.set r ⟨true, (nth g.Reps 0).Log, 0⟩, g.Term, g.Lead⟩
theorem cpy_pt : cpyG ptG 1 = c1G := rfl
theorem cpy_c1 : cpyG c1G 2 = c2G := rfl
theorem putNew_ok : ACall p_ 126 [.agg (Group.row false elG), .agg (Rec.row false flR)] (fun x _ => x = .tup [.agg (Group.row true ptG), bl true]) := by
 have hmx := mx_eq
 have c1 := GoodGroup_ok elG elG_wf.1
 rw [grp_oks.2.1] at c1
 have c2 := GoodRec_ok flR flR_wf.1.1
 rw [flR_wf.2.2] at c2
 have c3 := copyGroup_ok elG elG_wf.2
 have c4 := copyRec_ok flR flR_wf.2.1
 have e1 : elG.Reps.length = 3 := rfl
 have e2 : elG.Term = 1 := rfl
 have e3 : elG.Lead = 0 := rfl
 have e4 : nth elG.Reps 0 = ⟨true, [], 0⟩ := rfl
 have hk : 0 < elG.Reps.length := by decide
 have hs := fun r => getD_set_map (f := Replica.row true) (r := r) hk
 refine fg H126 fun E hE hH => ?_; simp only [go_sem, hE, hH, C126]
 all_goals (have y1_ := e1; have y2_ := e2; have y3_ := e3; have y4_ := e4; have y5_ := hs; repeat' (first | ((with_reducible apply ga) <;> refine gs6_ fun h => ?_) | ((with_reducible apply an); · omega) | ((first | refine ok_view ?_ | refine cvA (c1) ?_ | refine cvA (c2) ?_ | refine cvA (c3) ?_ | refine cvA (c4) ?_); refine st6_ ?_) | (with_reducible first | apply jn | apply both | apply an | exact ti) | exact fj6_ | refine st6_ ?_ | exact fm6_ | refine s16_ ?_))
 all_goals try exact lt_sE (by simp only [go_sem]) (by simp only [go_sem])
 all_goals first | omega | rfl | (simp_all; done)
theorem copyTo_ok (g : Group) (r : Nat) (hw : grpW g) (hB : grpB g) (hg : grpOk g = true) (h0 : g.Lead = 0) (hr : 0 < r) (hl : r < g.Reps.length) (hu : (nth g.Reps r).Up = true) (s0 : (nth g.Reps 0).Sure = 0) (s1 : (nth g.Reps r).Sure = 0) : ACall p_ 160 [.agg (Group.row false g), i64 r] (fun x _ => x = .tup [.agg (Group.row true (cpyG g r)), bl true]) := by
 have hmx := mx_eq
 rcases g with ⟨R, t, ld⟩
 simp only at *
 subst h0
 have c1 := GoodGroup_ok ⟨R, t, 0⟩ hw
 rw [hg] at c1
 have c2 := isRep_ok ⟨R, t, 0⟩ r hw.1
 rw [rng_iff.2 ⟨by omega, by show (r : Int) ≤ (R.length : Int) - 1; omega⟩] at c2
 have c3 := copyGroup_ok ⟨R, t, 0⟩ hB
 have c4 := copyEntries_ok (nth R 0).Log (hB.2 _ (nth_mem (show 0 < R.length by omega)))
 have hl2 := hB.1
 have hl3 := (hB.2 _ (nth_mem (show 0 < R.length by omega))).1
 have hs := fun x => getD_set_map (f := Replica.row true) (r := x) hl
 have hz : min (max 0 0) ((nth R 0).Log.length : Int) = 0 := by omega
 rw [cpyG]
 refine fg H160 fun E hE hH => ?_; simp only [go_sem, hE, hH, C160]
 all_goals (have y1_ := hu; have y2_ := s0; have y3_ := s1; have y4_ := hs; have y5_ := hz; repeat' (first | ((with_reducible apply ga) <;> refine gs6_ fun h => ?_) | ((with_reducible apply an); · omega) | ((first | refine ok_view ?_ | refine cvA (c1) ?_ | refine cvA (c2) ?_ | refine cvA (c3) ?_ | refine cvA (c4) ?_); refine st6_ ?_) | (with_reducible first | apply jn | apply both | apply an | exact ti) | exact fj6_ | refine st6_ ?_ | exact fm6_ | refine s16_ ?_))
 all_goals first | omega | rfl | (simp only [Group.row_eq, List.map_set]; rfl) | (simp_all; done)
theorem copySelf_ok (g : Group) (hw : grpW g) (hg : grpOk g = true) (h0 : g.Lead = 0) : ACall p_ 160 [.agg (Group.row false g), i64 0] (fun x _ => x = .tup [.agg (Group.row true ⟨[], 0, 0⟩), bl false]) := by
 have hmx := mx_eq
 rcases g with ⟨R, t, ld⟩
 simp only at *
 subst h0
 have c1 := GoodGroup_ok ⟨R, t, 0⟩ hw
 rw [hg] at c1
 refine fg H160 fun E hE hH => ?_; simp only [go_sem, hE, hH, C160]
 repeat' (first | ((with_reducible apply ga) <;> refine gs fun h => ?_) | ((with_reducible apply an); · omega) | ((first | refine ok_view ?_ | refine cvA (c1) ?_); refine st ?_) | (with_reducible first | apply jn | apply both | apply an | exact ti) | exact fj | refine st ?_ | exact fm | refine s1 ?_)
 all_goals first | omega | rfl | (simp_all; done)
theorem advNew_ok : ACall p_ 161 [.agg (Group.row false c2G)] (fun x _ => x = .tup [.agg (Group.row true adG), bl true]) := by
 have hmx := mx_eq
 have c1 := GoodGroup_ok c2G c2G_wf.1
 rw [grp_oks.2.2.2.2] at c1
 have c3 := copyGroup_ok c2G c2G_wf.2
 have hlg : logB [flE] := ⟨by decide, fun e he => by rw [List.mem_singleton] at he; subst he; exact flR_wf.2.1⟩
 have c4 := isMost_ok c2G 190 [.bx false (Replica.row false (rpN 0)), .bx false [i64 (1 : Nat)]] (fun x => prefE x.Log ((rpN 0).Log.take 1)) (by kernel_rfl) rfl (by decide) (fun x hx => Advance_1_ok x (rpN 0) 1 (c2G_wf.2.2 x hx) hlg (by decide))
 rw [show decide ((c2G.Reps.length : Int) < 2 * (cntN (fun i => prefE (nth c2G.Reps i).Log ((rpN 0).Log.take 1)) c2G.Reps.length : Nat)) = true by decide] at c4
 have e1 : c2G.Reps.length = 3 := rfl
 have e2 : c2G.Term = 1 := rfl
 have e3 : c2G.Lead = 0 := rfl
 have e4 : nth c2G.Reps 0 = ⟨true, [flE], 0⟩ := rfl
 have e5 : (rpN 0) = ⟨true, [flE], 0⟩ := rfl
 have e6 : flE.Term = 1 := rfl
 have hk : 0 < c2G.Reps.length := by decide
 have hs := fun r => getD_set_map (f := Replica.row true) (r := r) hk
 simp only [e5] at c4
 have z1 : ((1 : Int) - 1).toNat = 0 := rfl
 refine fg H161 fun E hE hH => ?_; simp only [go_sem, hE, hH, C161]
 all_goals (have y1_ := e1; have y2_ := e2; have y3_ := e3; have y4_ := e4; have y5_ := hs; repeat' (first | ((with_reducible apply ga) <;> refine gs6_ fun h => ?_) | ((with_reducible apply an); · omega) | ((first | refine ok_view ?_ | refine cvA (c1) ?_ | refine cvA (c3) ?_); refine st6_ ?_) | (with_reducible first | apply jn | apply both | apply an | exact ti) | exact fj6_ | refine st6_ ?_ | exact fm6_ | refine s16_ ?_))
 all_goals try (exfalso; omega)
 refine loopNe 1 (fun j (_ : Unit) => ⟨[(1, .ptr 2000000 0 0), (2, .ptr 3000000 0 0), (4, .ptr 5000000 0 0), (5, .ptr 6000000 0 0), (6, .ptr 7000000 0 0)], [(2000000, ⟨3, [Group.row false c2G]⟩), (3000000, ⟨3, [[nils, i64 0, i64 0]]⟩), (5000000, ⟨3, [[.ref 5000001 0 3, i64 1, i64 0]]⟩), (5000001, ⟨3, c2G.Reps.map (Replica.row true)⟩), (6000000, ⟨3, [Replica.row false ⟨true, [flE], 0⟩]⟩), (7000000, ⟨1, [[i64 (1 : Nat)]]⟩)]⟩) (fun j _ => j = 0) () rfl rfl ?_
 intro j _ hj hI
 try simp only [go_sem, hE, hH, C161_l1]
 all_goals (have y1_ := e1; have y2_ := e2; have y3_ := e3; have y4_ := e4; have y5_ := hs; have y6_ := e6; have y7_ := z1; repeat' (first | ((with_reducible apply ga) <;> refine gs7_ fun h => ?_) | ((with_reducible apply an); · omega) | ((first | refine ok_view ?_ | refine cvA (c4) ?_); refine st7_ ?_) | (with_reducible first | apply jn | apply both | apply an | exact ti) | exact fj7_ | refine st7_ ?_ | exact fm7_ | refine s17_ ?_))
 all_goals first | omega | rfl | (simp_all; done)
theorem sputNew_ok : ACall p_ 104 [.agg (Group.row false elG), .agg (Rec.row false flR)] (fun x _ => x = .tup [.agg (Group.row true ptG), bl true]) := by
 have hmx := mx_eq
 have c1 := sGoodGroup_ok elG elG_wf.1
 rw [grp_oks.2.1] at c1
 have c2 := sGoodRec_ok flR flR_wf.1
 rw [flR_wf.2.2] at c2
 have c3 := l9Own_ok elG elG_wf.2
 have c4 := l9OwnLog_ok [flE] ⟨by decide, fun e he => by rw [List.mem_singleton] at he; subst he; exact flR_wf.2.1⟩
 have e1 : elG.Reps.length = 3 := rfl
 have e2 : elG.Term = 1 := rfl
 have e3 : elG.Lead = 0 := rfl
 have e4 : nth elG.Reps 0 = ⟨true, [], 0⟩ := rfl
 have hk : 0 < elG.Reps.length := by decide
 have hs := fun r => getD_set_map (f := Replica.row true) (r := r) hk
 refine fg H104 fun E hE hH => ?_; simp only [go_sem, hE, hH, C104]
 all_goals (have y1_ := e1; have y2_ := e2; have y3_ := e3; have y4_ := e4; have y5_ := hs; repeat' (first | ((with_reducible apply ga) <;> refine gs6_ fun h => ?_) | ((with_reducible apply an); · omega) | ((first | refine ok_view ?_ | refine cvA (c1) ?_ | refine cvA (c2) ?_ | refine cvA (c3) ?_ | refine cvA (c4) ?_); refine st6_ ?_) | (with_reducible first | apply jn | apply both | apply an | exact ti) | exact fj6_ | refine st6_ ?_ | exact fm6_ | refine s16_ ?_))
 all_goals try exact lt_sE (by simp only [go_sem]) (by simp only [go_sem])
 all_goals first | omega | rfl | (simp_all; done)
theorem scopyTo_ok (g : Group) (r : Nat) (hw : grpW g) (hB : grpB g) (hg : grpOk g = true) (h0 : g.Lead = 0) (hr : 0 < r) (hl : r < g.Reps.length) (hu : (nth g.Reps r).Up = true) (s0 : (nth g.Reps 0).Sure = 0) (s1 : (nth g.Reps r).Sure = 0) : ACall p_ 136 [.agg (Group.row false g), i64 r] (fun x _ => x = .tup [.agg (Group.row true (cpyG g r)), bl true]) := by
 have hmx := mx_eq
 rcases g with ⟨R, t, ld⟩
 simp only at *
 subst h0
 have c1 := l9Up_ok ⟨R, t, 0⟩ r true hw hg hl
 rw [hu] at c1
 have c3 := l9Own_ok ⟨R, t, 0⟩ hB
 have c4 := l9OwnLog_ok (nth R 0).Log (hB.2 _ (nth_mem (show 0 < R.length by omega)))
 have hl2 := hB.1
 have hl3 := (hB.2 _ (nth_mem (show 0 < R.length by omega))).1
 have c5 := l1Most_ok 0 0
 rw [show mostI 0 0 = 0 by rfl] at c5
 have c6 := l1Least_ok ((nth R 0).Log.length : Int) 0
 rw [show (if ((nth R 0).Log.length : Int) < 0 then ((nth R 0).Log.length : Int) else 0) = 0 by rw [if_neg (by omega)]] at c6
 have hs := fun x => getD_set_map (f := Replica.row true) (r := x) hl
 rw [cpyG]
 refine fg H136 fun E hE hH => ?_; simp only [go_sem, hE, hH, C136]
 all_goals (have y1_ := hu; have y2_ := s0; have y3_ := s1; have y4_ := hs; repeat' (first | ((with_reducible apply ga) <;> refine gs3_ fun h => ?_) | ((with_reducible apply an); · omega) | ((first | refine ok_view ?_ | refine cvA (c1) ?_ | refine cvA (c3) ?_ | refine cvA (c4) ?_ | refine cvA (c5) ?_ | refine cvA (c6) ?_); refine st3_ ?_) | (with_reducible first | apply jn | apply both | apply an | exact ti) | exact fj3_ | refine st3_ ?_ | exact fm3_ | refine s13_ ?_))
 all_goals first | omega | rfl | (simp only [Group.row_eq, List.map_set]; rfl) | (simp_all; done)
theorem scopySelf_ok (g : Group) (hw : grpW g) (hg : grpOk g = true) (h0 : g.Lead = 0) (hl : 0 < g.Reps.length) (hu : (nth g.Reps 0).Up = true) : ACall p_ 136 [.agg (Group.row false g), i64 0] (fun x _ => x = .tup [.agg (Group.row true ⟨[], 0, 0⟩), bl false]) := by
 have hmx := mx_eq
 rcases g with ⟨R, t, ld⟩
 simp only at *
 subst h0
 have c1 := l9Up_ok ⟨R, t, 0⟩ 0 true hw hg hl
 rw [hu] at c1
 refine fg H136 fun E hE hH => ?_; simp only [go_sem, hE, hH, C136]
 repeat' (first | ((with_reducible apply ga) <;> refine gs fun h => ?_) | ((with_reducible apply an); · omega) | ((first | refine ok_view ?_ | refine cvA (c1) ?_); refine st ?_) | (with_reducible first | apply jn | apply both | apply an | exact ti) | exact fj | refine st ?_ | exact fm | refine s1 ?_)
 all_goals first | omega | rfl | (simp_all; done)
theorem sadvNew_ok : ACall p_ 137 [.agg (Group.row false c2G)] (fun x _ => x = .tup [.agg (Group.row true adG), bl true]) := by
 have hmx := mx_eq
 have c1 := sGoodGroup_ok c2G c2G_wf.1
 rw [grp_oks.2.2.2.2] at c1
 have c3 := l9Own_ok c2G c2G_wf.2
 have hlg : logB [flE] := ⟨by decide, fun e he => by rw [List.mem_singleton] at he; subst he; exact flR_wf.2.1⟩
 have c4 := l9Many_ok c2G [flE] 1 c2G_wf.2 hlg (by decide)
 have z1 : ((1 : Int) - 1).toNat = 0 := rfl
 rw [show cntN (fun i => begE (nth c2G.Reps i).Log [flE] 1) c2G.Reps.length = 3 by decide] at c4
 have e1 : c2G.Reps.length = 3 := rfl
 have e2 : c2G.Term = 1 := rfl
 have e3 : c2G.Lead = 0 := rfl
 have e4 : nth c2G.Reps 0 = ⟨true, [flE], 0⟩ := rfl
 have e6 : flE.Term = 1 := rfl
 have hk : 0 < c2G.Reps.length := by decide
 have hs := fun r => getD_set_map (f := Replica.row true) (r := r) hk
 refine fg H137 fun E hE hH => ?_; simp only [go_sem, hE, hH, C137]
 all_goals (have y1_ := e1; have y2_ := e2; have y3_ := e3; have y4_ := e4; have y5_ := hs; repeat' (first | ((with_reducible apply ga) <;> refine gs6_ fun h => ?_) | ((with_reducible apply an); · omega) | ((first | refine ok_view ?_ | refine cvA (c1) ?_ | refine cvA (c3) ?_); refine st6_ ?_) | (with_reducible first | apply jn | apply both | apply an | exact ti) | exact fj6_ | refine st6_ ?_ | exact fm6_ | refine s16_ ?_))
 all_goals try (exfalso; omega)
 refine loopNe 1 (fun j (_ : Unit) => ⟨[(1, .ptr 2000000 0 0), (2, .ptr 3000000 0 0), (4, .ptr 5000000 0 0), (5, .ptr 6000000 0 0), (6, i64 (1 : Nat))], [(2000000, ⟨3, [Group.row false c2G]⟩), (3000000, ⟨3, [[nils, i64 0, i64 0]]⟩), (5000000, ⟨3, [[.ref 5000001 0 3, i64 1, i64 0]]⟩), (5000001, ⟨3, c2G.Reps.map (Replica.row true)⟩), (6000000, ⟨3, [Replica.row false ⟨true, [flE], 0⟩]⟩)]⟩) (fun j _ => j = 0) () rfl rfl ?_
 intro j _ hj hI
 try simp only [go_sem, hE, hH, C137_l1]
 all_goals (have y1_ := e1; have y2_ := e2; have y3_ := e3; have y4_ := e4; have y5_ := hs; have y6_ := e6; have y7_ := z1; repeat' (first | ((with_reducible apply ga) <;> refine gs7_ fun h => ?_) | ((with_reducible apply an); · omega) | ((first | refine ok_view ?_ | refine cvA (c4) ?_); refine st7_ ?_) | (with_reducible first | apply jn | apply both | apply an | exact ti) | exact fj7_ | refine st7_ ?_ | exact fm7_ | refine s17_ ?_))
 all_goals first | omega | rfl | (simp_all; done)
def reqR : Nat → List (List T)
 | 0 => [[bl true, nils, i64 0], [bl false, nils, i64 0], [bl false, nils, i64 0]]
 | 1 => [[bl true, nils, i64 0], [bl true, nils, i64 0], [bl false, nils, i64 0]]
 | _ => [[bl true, nils, i64 0], [bl true, nils, i64 0], [bl true, nils, i64 0]]
theorem repRep3_ok : ACall p_ 81 [.sl false 3 [[bl true, nils, i64 0]], i64 3] (fun r _ => r = .sl true 3 [[bl true, nils, i64 0], [bl true, nils, i64 0], [bl true, nils, i64 0]]) := by
 have hmx := mx_eq
 have m1 : min 3 1 = 1 := rfl
 have m2 : min 2 1 = 1 := rfl
 have m3 : min 1 2 = 1 := rfl
 have p1 : putRows [[bl false, nils, i64 0], [bl false, nils, i64 0], [bl false, nils, i64 0]] 0 [[bl true, nils, i64 0]] = [[bl true, nils, i64 0], [bl false, nils, i64 0], [bl false, nils, i64 0]] := rfl
 have p2 : putRows [[bl true, nils, i64 0], [bl false, nils, i64 0], [bl false, nils, i64 0]] 1 [[bl true, nils, i64 0]] = [[bl true, nils, i64 0], [bl true, nils, i64 0], [bl false, nils, i64 0]] := rfl
 have p3 : putRows [[bl true, nils, i64 0], [bl true, nils, i64 0], [bl false, nils, i64 0]] 2 [[bl true, nils, i64 0]] = [[bl true, nils, i64 0], [bl true, nils, i64 0], [bl true, nils, i64 0]] := rfl
 refine fg H81 fun E hE hH => ?_; simp only [go_sem, hE, hH, C81]
 all_goals (have y1_ := m1; have y2_ := m2; have y3_ := m3; have y4_ := p1; have y5_ := p2; have y6_ := p3; repeat' (first | ((with_reducible apply ga) <;> refine gs8_ fun h => ?_) | ((with_reducible apply an); · omega) | ((first | refine ok_view ?_ | refine cvA (mul_13) ?_); refine st8_ ?_) | (with_reducible first | apply jn | apply both | apply an | exact ti) | exact fj8_ | refine st8_ ?_ | exact fm8_ | refine s18_ ?_))
 all_goals try (exfalso; omega)
 all_goals try (first | rfl | decide | (simp; done))
 refine loopNe 2 (fun j (_ : Unit) => ⟨[(7, .ref 8000000 0 3), (8, i64 (j + 1))], [(8000000, ⟨3, reqR j⟩)]⟩) (fun _ _ => True) () rfl trivial ?_
 intro j _ hj _
 obtain rfl | rfl | rfl : j = 0 ∨ j = 1 ∨ j = 2 := by omega
 all_goals
  simp only [reqR]
  try simp only [go_sem, hE, hH, C81_l1]
  all_goals (have y1_ := m1; have y2_ := m2; have y3_ := m3; have y4_ := p1; have y5_ := p2; have y6_ := p3; repeat' (first | ((with_reducible apply ga) <;> refine gs8_ fun h => ?_) | ((with_reducible apply an); · omega) | (with_reducible first | apply jn | apply both | apply an | exact ti) | exact fj8_ | refine st8_ ?_ | exact fm8_ | refine s18_ ?_))
 all_goals first | omega | exact ⟨(), rfl⟩ | rfl | decide
theorem NewGroup_ok : ACall p_ 38 [i64 3] (fun x _ => x = .tup [.agg (Group.row true newG), bl true]) := by
 have hmx := mx_eq
 refine fg H38 fun E hE hH => ?_; simp only [go_sem, hE, hH, C38]
 repeat' (first | ((with_reducible apply ga) <;> refine gs fun h => ?_) | ((with_reducible apply an); · omega) | ((first | refine ok_view ?_ | refine cvA (isMany_ok 3) ?_ | refine cvA (repRep3_ok) ?_); refine st ?_) | (with_reducible first | apply jn | apply both | apply an | exact ti) | exact fj | refine st ?_ | exact fm | refine s1 ?_)
 all_goals first | rfl | decide
def repNR (j : Nat) (vs : List Replica) : Prop := vs = List.replicate j newR
theorem sNewGroup_ok : ACall p_ 26 [i64 3] (fun x _ => x = .tup [.agg (Group.row true newG), bl true]) := by
 have hmx := mx_eq
 refine fg H26 fun E hE hH => ?_; simp only [go_sem, hE, hH, C26]
 repeat' (first | ((with_reducible apply ga) <;> refine gs fun h => ?_) | ((with_reducible apply an); · omega) | (with_reducible first | apply jn | apply both | apply an | exact ti) | exact fj | refine st ?_ | exact fm | refine s1 ?_)
 all_goals try (exfalso; omega)
 refine loopNe 3 (fun j (vs : List Replica) => ⟨[(0, i64 3), (2, .ptr 3000000 0 0), (4, .ptr 5000000 0 0), (5, i64 j)], [(3000000, ⟨3, [[nils, i64 0, i64 0]]⟩), (5000000, ⟨3, [[.ref 5000001 0 vs.length, i64 0, i64 (-1)]]⟩), (5000001, ⟨3, vs.map (Replica.row true)⟩)]⟩) (fun j vs => repNR j vs) [] rfl rfl ?_
 intro j vs hj hvs
 have hl : vs.length = j := by rw [show vs = _ from hvs, List.length_replicate]
 try simp only [go_sem, hE, hH, C26_l1]
 first | refine gd_t (fun h => ?_) (fun h => ?_) | refine gd_f (fun h => ?_) (fun h => ?_)
 ·have hb := h
  simp only [nf] at h
  try refine sb ?_; try exact ⟨⟩
  repeat' (first | ((with_reducible apply ga) <;> refine gs fun h => ?_) | ((with_reducible apply an); · omega) | (with_reducible first | apply jn | apply both | apply an | exact ti) | exact fj | refine st ?_ | exact fm | refine s1 ?_)
  all_goals first | omega | (refine ⟨vs ++ [newR], ?_, by unfold repNR at hvs ⊢; rw [List.replicate_succ', hvs]⟩; rw [List.map_append, List.length_append]; first | rfl | (simp [newR, Replica.row, hl]; done))
 ·try simp (disch := omega) only [go_sem, hE, hH, h]
  simp only [nf] at h
  obtain rfl : j = 3 := by omega
  have e9 : vs = [newR, newR, newR] := hvs
  all_goals first | (rw [e9]; exact ⟨rfl, rfl, rfl, rfl, rfl, rfl⟩) | (rw [e9]; exact ⟨rfl, rfl, rfl⟩)
def z0S : State := ⟨0, [], [], []⟩
theorem stateOf0_ok : ACall p_ 157 [.sl false 7 []] (fun x _ => x = .tup [.agg (State.row true z0S), .sl true 1 []]) := by
 have hmx := mx_eq
 refine fg H157 fun E hE hH => ?_; simp only [go_sem, hE, hH, C157]
 refine loopNe 0 (fun j (_ : Unit) => ⟨[(2, .ptr 3000000 0 0), (4, .ptr 5000000 0 0), (5, .ref 6000000 0 0), (12, .sl false 7 []), (13, i64 0), (14, i64 0)], [(3000000, ⟨4, [[i64 0, nils, nils, nils]]⟩), (5000000, ⟨4, [[i64 0, nils, nils, nils]]⟩), (6000000, ⟨1, []⟩)]⟩) (fun _ _ => True) () rfl trivial ?_
 intro j _ hj _
 try simp only [go_sem, hE, hH, C157_l1]
 repeat' (first | ((with_reducible apply ga) <;> refine gs fun h => ?_) | ((with_reducible apply an); · omega) | (with_reducible first | apply jn | apply both | apply an | exact ti) | exact fj | refine st ?_ | exact fm | refine s1 ?_)
 all_goals first | omega | rfl | exact ⟨rfl, rfl⟩ | (simp [State.row, z0S]; done)
theorem denoted0_ok : ACall p_ 124 [.sl false 8 []] (fun x _ => x = .agg (State.row true z0S)) := by
 have hmx := mx_eq
 have c1 := stateOf0_ok
 refine fg H124 fun E hE hH => ?_; simp only [go_sem, hE, hH, C124]
 refine loopNe 0 (fun j (_ : Unit) => ⟨[(2, .ptr 3000000 0 0), (3, .ref 4000000 0 0), (9, .sl false 8 []), (10, i64 0), (11, i64 0)], [(3000000, ⟨4, [[i64 0, nils, nils, nils]]⟩), (4000000, ⟨7, []⟩)]⟩) (fun _ _ => True) () rfl trivial ?_
 intro j _ hj _
 try simp only [go_sem, hE, hH, C124_l1]
 repeat' (first | ((with_reducible apply ga) <;> refine gs fun h => ?_) | ((with_reducible apply an); · omega) | ((first | refine ok_view ?_ | refine cvA (c1) ?_); refine st ?_) | (with_reducible first | apply jn | apply both | apply an | exact ti) | exact fj | refine st ?_ | exact fm | refine s1 ?_)
 all_goals first | omega | rfl | exact ⟨rfl, rfl⟩ | (simp [State.row, z0S]; done)
theorem leadFull0_ok : ACall p_ 84 [.agg (Group.row false elG)] (fun x _ => x = .agg (State.row true z0S)) := by
 have hmx := mx_eq
 have c1 := denoted0_ok
 have e1 : elG.Reps.length = 3 := rfl
 have e3 : elG.Lead = 0 := rfl
 have e4 : nth elG.Reps 0 = ⟨true, [], 0⟩ := rfl
 refine fg H84 fun E hE hH => ?_; simp only [go_sem, hE, hH, C84]
 all_goals (have y1_ := e1; have y2_ := e3; have y3_ := e4; repeat' (first | ((with_reducible apply ga) <;> refine gs4_ fun h => ?_) | ((with_reducible apply an); · omega) | ((first | refine ok_view ?_ | refine cvA (c1) ?_); refine st4_ ?_) | (with_reducible first | apply jn | apply both | apply an | exact ti) | exact fj4_ | refine st4_ ?_ | exact fm4_ | refine s14_ ?_))
 all_goals first | omega | rfl
theorem GoodCells0_ok : ACall p_ 152 [.sl false 2 []] (fun x _ => x = bl true) := by
 have hmx := mx_eq
 have c1 := areRising_ok [] ⟨Nat.zero_le _, fun x h => absurd h List.not_mem_nil⟩
 rw [show risB [] = true from rfl] at c1
 refine fg H152 fun E hE hH => ?_; simp only [go_sem, hE, hH, C152]
 refine loopNe 0 (fun j (_ : Unit) => ⟨[(0, .sl false 2 []), (3, .ref 4000000 0 0), (7, .sl false 2 []), (8, i64 0), (9, i64 0)], [(4000000, ⟨1, []⟩)]⟩) (fun _ _ => True) () rfl trivial ?_
 intro j _ hj _
 try simp only [go_sem, hE, hH, C152_l1]
 repeat' (first | ((with_reducible apply ga) <;> refine gs fun h => ?_) | ((with_reducible apply an); · omega) | ((first | refine ok_view ?_ | refine cvA (c1) ?_); refine st ?_) | (with_reducible first | apply jn | apply both | apply an | exact ti) | exact fj | refine st ?_ | exact fm | refine s1 ?_)
 all_goals first | omega | rfl
theorem Compact0_ok : ACall p_ 211 [.sl true 1 []] (fun r a => r = .sl true 1 [] ∧ a = [.any]) := by
 have hmx := mx_eq
 refine fn_inD [true] (hqA H211) (hqB H211) ⟨by simp only [go_sem], fun E hE hH => ?_⟩; simp only [go_sem] at hE hH; simp only [go_sem, hE, hH, C211]
 repeat' (first | ((with_reducible apply ga) <;> refine gs fun h => ?_) | ((with_reducible apply an); · omega) | (with_reducible first | apply jn | apply both | apply an | exact ti) | exact fj | refine st ?_ | exact fm | refine s1 ?_)
 all_goals first | omega | rfl
theorem room0_ok : ACall p_ 181 [.agg (State.row false z0S), .sl false 5 []] (fun x _ => x = bl true) := by
 have hmx := mx_eq
 have z1 : z0S.Cells = [] := rfl
 have z2 : z0S.Held = [] := rfl
 have z3 : z0S.Told = [] := rfl
 refine fg H181 fun E hE hH => ?_; simp only [go_sem, hE, hH, C181]
 try simp (disch := omega) only [go_sem, hE, hH, z1, z2, z3]
 refine loopNe 0 (fun j (_ : Unit) => ⟨[(1, .sl false 5 []), (2, .ptr 3000000 0 0), (5, .ref 6000000 0 0), (16, .sl false 2 []), (17, i64 0), (18, i64 0)], [(3000000, ⟨4, [State.row false z0S]⟩), (6000000, ⟨1, []⟩)]⟩) (fun _ _ => True) () rfl trivial ?_
 intro j _ hj _
 try simp only [go_sem, hE, hH, z1, z2, z3, C181_l1]
 all_goals (have y1_ := z1; have y2_ := z2; have y3_ := z3; repeat' (first | ((with_reducible apply ga) <;> refine gs4_ fun h => ?_) | ((with_reducible apply an); · omega) | (with_reducible first | apply jn | apply both | apply an | exact ti) | exact fj4_ | refine st4_ ?_ | exact fm4_ | refine s14_ ?_))
 all_goals try (exfalso; omega)
 refine loopNe 0 (fun j (_ : Unit) => ⟨[(1, .sl false 5 []), (2, .ptr 3000000 0 0), (5, .ref 6000000 0 0), (28, .sl false 5 []), (29, i64 0), (30, i64 0)], [(3000000, ⟨4, [State.row false z0S]⟩), (6000000, ⟨1, []⟩)]⟩) (fun _ _ => True) () rfl trivial ?_
 intro j _ hj _
 try simp only [go_sem, hE, hH, z1, z2, z3, C181_l3]
 all_goals (have y1_ := z1; have y2_ := z2; have y3_ := z3; repeat' (first | ((with_reducible apply ga) <;> refine gs4_ fun h => ?_) | ((with_reducible apply an); · omega) | (refine ok_lend [true] ?_; refine st4_ ?_; refine cmA (sort0_ok) ?_; refine st4_ ?_) | (refine ok_lend [true] ?_; refine st4_ ?_; refine cmA (Compact0_ok) ?_; refine st4_ ?_) | (with_reducible first | apply jn | apply both | apply an | exact ti) | exact fj4_ | refine st4_ ?_ | exact fm4_ | refine s14_ ?_))
 all_goals first | omega | rfl
theorem areHeld0_ok : ACall p_ 153 [.agg (State.row false z0S)] (fun x _ => x = bl true) := by
 have hmx := mx_eq
 have z2 : z0S.Held = [] := rfl
 have c1 := room0_ok
 refine fg H153 fun E hE hH => ?_; simp only [go_sem, hE, hH, C153]
 try simp (disch := omega) only [go_sem, hE, hH, z2]
 refine loopNe 0 (fun j (_ : Unit) => ⟨[(1, .ptr 2000000 0 0), (6, .sl false 5 []), (7, i64 0), (8, i64 0)], [(2000000, ⟨4, [State.row false z0S]⟩)]⟩) (fun _ _ => True) () rfl trivial ?_
 intro j _ hj _
 try simp only [go_sem, hE, hH, z2, C153_l1]
 all_goals (have y1_ := z2; repeat' (first | ((with_reducible apply ga) <;> refine gs1_ fun h => ?_) | ((with_reducible apply an); · omega) | ((first | refine ok_view ?_ | refine cvA (c1) ?_); refine st1_ ?_) | (with_reducible first | apply jn | apply both | apply an | exact ti) | exact fj1_ | refine st1_ ?_ | exact fm1_ | refine s11_ ?_))
 all_goals first | omega | rfl
theorem GoodState0_ok : ACall p_ 121 [.agg (State.row false z0S)] (fun x _ => x = bl true) := by
 have hmx := mx_eq
 have z1 : z0S.Cells = [] := rfl
 have z2 : z0S.Held = [] := rfl
 have z3 : z0S.Told = [] := rfl
 have z4 : z0S.Floor = 0 := rfl
 have c1 := isTrue_ok 0
 rw [show rng 0 0 100000 = true from rfl] at c1
 have c2 := GoodCells0_ok
 have c3 := areHeld0_ok
 refine fg H121 fun E hE hH => ?_; simp only [go_sem, hE, hH, C121]
 all_goals (have y1_ := z1; have y2_ := z2; have y3_ := z3; have y4_ := z4; repeat' (first | ((with_reducible apply ga) <;> refine gs3_ fun h => ?_) | ((with_reducible apply an); · omega) | ((first | refine ok_view ?_ | refine cvA (c1) ?_ | refine cvA (c2) ?_ | refine cvA (c3) ?_); refine st3_ ?_) | (with_reducible first | apply jn | apply both | apply an | exact ti) | exact fj3_ | refine st3_ ?_ | exact fm3_ | refine s13_ ?_))
 all_goals try (exfalso; omega)
 refine loopNe 0 (fun j (_ : Unit) => ⟨[(1, .ptr 2000000 0 0), (32, .sl false 2 []), (33, i64 0), (34, i64 0)], [(2000000, ⟨4, [State.row false z0S]⟩)]⟩) (fun _ _ => True) () rfl trivial ?_
 intro j _ hj _
 try simp only [go_sem, hE, hH, z1, z2, z3, z4, C121_l1]
 all_goals (have y1_ := z1; have y2_ := z2; have y3_ := z3; have y4_ := z4; repeat' (first | ((with_reducible apply ga) <;> refine gs3_ fun h => ?_) | ((with_reducible apply an); · omega) | (with_reducible first | apply jn | apply both | apply an | exact ti) | exact fj3_ | refine st3_ ?_ | exact fm3_ | refine s13_ ?_))
 all_goals try (exfalso; omega)
 refine loopNe 0 (fun j (_ : Unit) => ⟨[(1, .ptr 2000000 0 0), (48, .sl false 3 []), (49, i64 0), (50, i64 0)], [(2000000, ⟨4, [State.row false z0S]⟩)]⟩) (fun _ _ => True) () rfl trivial ?_
 intro j _ hj _
 try simp only [go_sem, hE, hH, z1, z2, z3, z4, C121_l2]
 all_goals (have y1_ := z1; have y2_ := z2; have y3_ := z3; have y4_ := z4; repeat' (first | ((with_reducible apply ga) <;> refine gs3_ fun h => ?_) | ((with_reducible apply an); · omega) | (with_reducible first | apply jn | apply both | apply an | exact ti) | exact fj3_ | refine st3_ ?_ | exact fm3_ | refine s13_ ?_))
 all_goals first | omega | rfl
def mid (j m : Nat) (A X B : List T) : List (List T) := List.replicate j A ++ X :: List.replicate m B
section
variable {j m : Nat} {A X B Y : List T} {d : Nat}
@[go_sem] theorem mid_len : (mid j m A X B).length = j + 1 + m := by simp [mid]; omega
@[go_sem] theorem mid_get : (mid j m A X B).getD j [] = X := by simp [mid, List.getD]
@[go_sem] theorem mid_set : (mid j m A X B).set j Y = mid j m A Y B := by
 rw [mid, List.set_append]; simp [mid]
@[go_sem] theorem mid_take : (mid j m A X B).take (j + 1 + m) = mid j m A X B := List.take_of_length_le (by rw [mid_len]; omega)
@[go_sem] theorem mid_dsh : dshLL (mid j m A X B) = mid j m (dshL A) (dshL X) (dshL B) := by simp [dshLL_eq, mid]
theorem mem_mid {r : List T} (h : r ∈ mid j m A X B) : r = A ∨ r = X ∨ r = B := by
 rw [mid, List.mem_append, List.mem_cons] at h
 rcases h with h | h | h
 ·exact .inl (List.eq_of_mem_replicate h)
 ·exact .inr (.inl h)
 ·exact .inr (.inr (List.eq_of_mem_replicate h))
theorem mid_all {p : List T → Prop} (hA : p A) (hB : p B) : (∀ r ∈ mid j m A X B, p r) ↔ p X := by
 constructor
 ·exact fun h => h X (by simp [mid])
 ·intro h r hr
  rcases mem_mid hr with rfl | rfl | rfl
  ·exact hA
  ·exact h
  ·exact hB
end
def mG (j m : Nat) (X : List T) : List (List T) := mid j m (Group.row true adG) X (Group.row true newG)
def mL (j m : Nat) (X : List T) : List (List T) := mid j m [.sl true 3 []] X [nils]
def mGs (j m : Nat) (X : List T) : List (List T) := mid j m (Group.row false adG) X (Group.row false newG)
def mLs (j m : Nat) (X : List T) : List (List T) := mid j m [.sl false 3 []] X [nils]
section
variable {j m : Nat} {X Y : List T} {d : Nat}
@[go_sem] theorem mG_len : (mG j m X).length = j + 1 + m := mid_len
@[go_sem] theorem mG_get : (mG j m X).getD j [] = X := mid_get
@[go_sem] theorem mG_set : (mG j m X).set j Y = mG j m Y := mid_set
@[go_sem] theorem mG_take : (mG j m X).take (j + 1 + m) = mG j m X := mid_take
@[go_sem] theorem mG_dsh : dshLL (mG j m X) = mGs j m (dshL X) := by rw [mG, mid_dsh]; rfl
@[go_sem] theorem mG_pk : packedLL (mG j m X) ↔ packedL X := mid_all (by simp only [go_sem]) (by simp only [go_sem])
@[go_sem] theorem mG_noM : noMLL d (mG j m X) ↔ noML d X := mid_all (by simp only [go_sem]) (by simp only [go_sem])
@[go_sem] theorem mG_lt : ltLL d (mG j m X) ↔ ltL d X := mid_all (by simp only [go_sem]) (by simp only [go_sem])
@[go_sem] theorem mGs_len : (mGs j m X).length = j + 1 + m := mid_len
@[go_sem] theorem mGs_get : (mGs j m X).getD j [] = X := mid_get
@[go_sem] theorem mGs_take : (mGs j m X).take (j + 1 + m) = mGs j m X := mid_take
@[go_sem] theorem mGs_dsh : dshLL (mGs j m X) = mGs j m (dshL X) := by rw [mGs, mid_dsh]; rfl
@[go_sem] theorem mGs_pk : packedLL (mGs j m X) ↔ packedL X := mid_all (by simp only [go_sem]) (by simp only [go_sem])
@[go_sem] theorem mGs_noM : noMLL d (mGs j m X) ↔ noML d X := mid_all (by simp only [go_sem]) (by simp only [go_sem])
@[go_sem] theorem mGs_lt : ltLL d (mGs j m X) ↔ ltL d X := mid_all (by simp only [go_sem]) (by simp only [go_sem])
@[go_sem] theorem mL_len : (mL j m X).length = j + 1 + m := mid_len
@[go_sem] theorem mL_get : (mL j m X).getD j [] = X := mid_get
@[go_sem] theorem mL_set : (mL j m X).set j Y = mL j m Y := mid_set
@[go_sem] theorem mL_take : (mL j m X).take (j + 1 + m) = mL j m X := mid_take
@[go_sem] theorem mL_dsh : dshLL (mL j m X) = mLs j m (dshL X) := by rw [mL, mid_dsh]; rfl
@[go_sem] theorem mL_pk : packedLL (mL j m X) ↔ packedL X := mid_all (by simp only [go_sem]) (by simp only [go_sem])
@[go_sem] theorem mL_noM : noMLL d (mL j m X) ↔ noML d X := mid_all (by simp only [go_sem]) (by simp only [go_sem])
@[go_sem] theorem mL_lt : ltLL d (mL j m X) ↔ ltL d X := mid_all (by simp only [go_sem]) (by simp only [go_sem])
@[go_sem] theorem mLs_len : (mLs j m X).length = j + 1 + m := mid_len
@[go_sem] theorem mLs_take : (mLs j m X).take (j + 1 + m) = mLs j m X := mid_take
@[go_sem] theorem mLs_dsh : dshLL (mLs j m X) = mLs j m (dshL X) := by rw [mLs, mid_dsh]; rfl
@[go_sem] theorem mLs_pk : packedLL (mLs j m X) ↔ packedL X := mid_all (by simp only [go_sem]) (by simp only [go_sem])
@[go_sem] theorem mLs_noM : noMLL d (mLs j m X) ↔ noML d X := mid_all (by simp only [go_sem]) (by simp only [go_sem])
@[go_sem] theorem mLs_lt : ltLL d (mLs j m X) ↔ ltL d X := mid_all (by simp only [go_sem]) (by simp only [go_sem])
end
def opT (k : Nat) : Option (List (List T)) → T
 | none => nils
 | some r => .sl true k r
def opTs (k : Nat) : Option (List (List T)) → T
 | none => nils
 | some r => .sl false k r
def opR (id : Nat) : Option (List (List T)) → T
 | none => nils
 | some r => .ref id 0 r.length
def opO (id k : Nat) : Option (List (List T)) → List (Nat × Ob)
 | none => []
 | some r => [(id, ⟨k, r⟩)]
def wRow (j m : Nat) (cuts : List ByteArray) (X L : List T) (tx lo : Option (List (List T))) : List T := [i64 0, i64 0, .sl true 1 (List.replicate (3 * (j + 1 + m)) [i64 0]), .sl true 1 (strs cuts), .sl true 3 (mG j m X), .sl true 1 (mL j m L), .sl true 1 (List.replicate (j + 1 + m) [i64 0]), opT 10 tx, opT 6 lo]
def wRowS (j m : Nat) (cuts : List ByteArray) (X L : List T) (tx lo : Option (List (List T))) : List T := [i64 0, i64 0, .sl false 1 (List.replicate (3 * (j + 1 + m)) [i64 0]), .sl false 1 (strs cuts), .sl false 3 (mGs j m X), .sl false 1 (mLs j m L), .sl false 1 (List.replicate (j + 1 + m) [i64 0]), opTs 10 tx, opTs 6 lo]
def wObj (j m : Nat) (cuts : List ByteArray) (X L : List T) (tx lo : Option (List (List T))) : List (Nat × Ob) := [(1000000, ⟨9, [[i64 0, i64 0, .ref 1000003 0 (3 * (j + 1 + m)), .ref 1000004 0 cuts.length, .ref 1000005 0 (j + 1 + m), .ref 1000006 0 (j + 1 + m), .ref 1000007 0 (j + 1 + m), opR 1000008 tx, opR 1000009 lo]]⟩), (1000003, ⟨1, List.replicate (3 * (j + 1 + m)) [i64 0]⟩), (1000004, ⟨1, strs cuts⟩), (1000005, ⟨3, mG j m X⟩), (1000006, ⟨1, mL j m L⟩), (1000007, ⟨1, List.replicate (j + 1 + m) [i64 0]⟩)] ++ (opO 1000008 10 tx ++ opO 1000009 6 lo)
@[go_sem] theorem wRow_eq (j m : Nat) (cuts : List ByteArray) (X L : List T) (tx lo : Option (List (List T))) : wRow j m cuts X L tx lo = [i64 0, i64 0, .sl true 1 (List.replicate (3 * (j + 1 + m)) [i64 0]), .sl true 1 (strs cuts), .sl true 3 (mG j m X), .sl true 1 (mL j m L), .sl true 1 (List.replicate (j + 1 + m) [i64 0]), opT 10 tx, opT 6 lo] := rfl
@[go_sem] theorem wRowS_eq (j m : Nat) (cuts : List ByteArray) (X L : List T) (tx lo : Option (List (List T))) : wRowS j m cuts X L tx lo = [i64 0, i64 0, .sl false 1 (List.replicate (3 * (j + 1 + m)) [i64 0]), .sl false 1 (strs cuts), .sl false 3 (mGs j m X), .sl false 1 (mLs j m L), .sl false 1 (List.replicate (j + 1 + m) [i64 0]), opTs 10 tx, opTs 6 lo] := rfl
@[go_sem] theorem wObj_eq (j m : Nat) (cuts : List ByteArray) (X L : List T) (tx lo : Option (List (List T))) : wObj j m cuts X L tx lo = [(1000000, ⟨9, [[i64 0, i64 0, .ref 1000003 0 (3 * (j + 1 + m)), .ref 1000004 0 cuts.length, .ref 1000005 0 (j + 1 + m), .ref 1000006 0 (j + 1 + m), .ref 1000007 0 (j + 1 + m), opR 1000008 tx, opR 1000009 lo]]⟩), (1000003, ⟨1, List.replicate (3 * (j + 1 + m)) [i64 0]⟩), (1000004, ⟨1, strs cuts⟩), (1000005, ⟨3, mG j m X⟩), (1000006, ⟨1, mL j m L⟩), (1000007, ⟨1, List.replicate (j + 1 + m) [i64 0]⟩)] ++ (opO 1000008 10 tx ++ opO 1000009 6 lo) := rfl
@[go_sem] theorem opT_none (k : Nat) : opT k none = nils := rfl
@[go_sem] theorem opT_some (k : Nat) (r : List (List T)) : opT k (some r) = .sl true k r := rfl
@[go_sem] theorem opTs_none (k : Nat) : opTs k none = nils := rfl
@[go_sem] theorem opTs_some (k : Nat) (r : List (List T)) : opTs k (some r) = .sl false k r := rfl
@[go_sem] theorem opR_none (k : Nat) : opR k none = nils := rfl
@[go_sem] theorem opR_some (k : Nat) (r : List (List T)) : opR k (some r) = .ref k 0 r.length := rfl
@[go_sem] theorem opO_none (i k : Nat) : opO i k none = [] := rfl
@[go_sem] theorem opO_some (i k : Nat) (r : List (List T)) : opO i k (some r) = [(i, ⟨k, r⟩)] := rfl
def spG : Nat → Group
 | 0 => ptG
 | 1 => ptG
 | 2 => c1G
 | _ => c2G
theorem ifTime_ok (t : Int) : ACall p_ 123 [i64 t] (fun x _ => x = .tup [i64 (if 100000 < t then 0 else t), bl (decide (t ≤ 100000))]) := by
 have hmx := mx_eq
 by_cases h0 : 100000 < t
 ·rw [if_pos h0, decide_eq_false (by omega)]
  refine fg H123 fun E hE hH => ?_; simp only [go_sem, hE, hH, C123]
  repeat' (first | ((with_reducible apply ga) <;> refine gs fun h => ?_) | ((with_reducible apply an); · omega) | (with_reducible first | apply jn | apply both | apply an | exact ti) | exact fj | refine st ?_ | exact fm | refine s1 ?_)
  all_goals first | rfl | (exfalso; omega)
 ·rw [if_neg h0, decide_eq_true (by omega)]
  refine fg H123 fun E hE hH => ?_; simp only [go_sem, hE, hH, C123]
  repeat' (first | ((with_reducible apply ga) <;> refine gs fun h => ?_) | ((with_reducible apply an); · omega) | (with_reducible first | apply jn | apply both | apply an | exact ti) | exact fj | refine st ?_ | exact fm | refine s1 ?_)
  all_goals first | rfl | (exfalso; omega)
theorem GoodSpan0_ok : ACall p_ 122 [.agg [i64 (-5), i64 5]] (fun x _ => x = bl true) := by
 have hmx := mx_eq
 refine fg H122 fun E hE hH => ?_; simp only [go_sem, hE, hH, C122]
 repeat' (first | ((with_reducible apply ga) <;> refine gs fun h => ?_) | ((with_reducible apply an); · omega) | (with_reducible first | apply jn | apply both | apply an | exact ti) | exact fj | refine st ?_ | exact fm | refine s1 ?_)
 all_goals first | rfl | (exfalso; omega)
theorem ok_bmax3 {P : Program} {E : Env} {s : St} {d : Option Nat} {g : Option (Nat × Bool)} {K : St → Prop} {x y z : Operand} {k k' k'' : IntKind} {p q t : Int} (r : Int) (hx : s.eval x = some (.v (.int k p))) (hy : s.eval y = some (.v (.int k' q))) (hz : s.eval z = some (.v (.int k'' t))) (hr : (if t > (if q > p then q else p) then t else (if q > p then q else p)) = r) (hK : K (s.put d (.v (.int k r)))) : InstrOk P E ⟨d, g, .bmax [x, y, z]⟩ K s := by
 intro o h1 h2 h3 a w ⟨S, ρ, foot, h⟩ Q
 simp only at h1 h2 h3
 unfold compI at h1
 split at h1 <;> try (simp at h1; done)
 case h_23 c hop =>
  split at h1 <;> try (first | (simp at h1; done) | (repeat' split at h1) <;> simp at h1; done)
  rename_i hcal
  simp only [Option.some.injEq, I.bmax.injEq] at h1
  have hrx := h.eval hx
  have hry := h.eval hy
  have hrz := h.eval hz
  simp only [Rep] at hrx hry hrz
  have ha' : c.args = #[x, y, z] := by rw [← Array.toList_inj]; simpa using h1
  have hrun : (execOp a.eval o).run P w = .ok (.value (.int k r)) w := by
   subst hr
   obtain ⟨cs, hcs⟩ := exec_builtin (a := a) hop hcal
   rw [hcs]
   simp [builtin, Builtin.max_, ha', hrx.1, hry.1, hrz.1, Builtin.max2]
  rw [hrun, Oper.upon_value, h2]
  exact ⟨_, hK, S, ρ, foot, h.put h3 (by simp [Rep])⟩
 all_goals (repeat' split at h1) <;> simp at h1
theorem LeadFloor0_ok : ACall p_ 83 [.agg (State.row false z0S), .agg [i64 (-5), i64 5]] (fun x _ => x = .tup [i64 15, bl true]) := by
 have hmx := mx_eq
 have c1 := GoodState0_ok
 have c2 := ifTime_ok 15
 have z4 : z0S.Floor = 0 := rfl
 refine fg H83 fun E hE hH => ?_; simp only [go_sem, hE, hH, C83]
 all_goals (have y1_ := z4; repeat' (first | ((with_reducible apply ga) <;> refine gs1_ fun h => ?_) | ((with_reducible apply an); · omega) | ((first | refine ok_view ?_ | refine cvA (c1) ?_ | refine cvA (GoodSpan0_ok) ?_); refine st1_ ?_) | (with_reducible first | apply jn | apply both | apply an | exact ti) | exact fj1_ | refine st1_ ?_ | exact fm1_ | refine s11_ ?_))
 all_goals try (exfalso; omega)
 refine ok_bmax3 15 rfl rfl rfl (by decide) ?_
 try refine st ?_; try exact ⟨⟩
 repeat' (first | ((with_reducible apply ga) <;> refine gs fun h => ?_) | ((with_reducible apply an); · omega) | ((first | refine ok_view ?_ | refine cvA (c2) ?_); refine st ?_) | (with_reducible first | apply jn | apply both | apply an | exact ti) | exact fj | refine st ?_ | exact fm | refine s1 ?_)
 all_goals first | rfl | (exfalso; omega)
open Go.Proofs.Wb renaming cspan_ok → z0_, H85 → z1_, C85 → z2_ in
theorem Wspan_ok (j m i : Nat) (hi : i < 3 * (j + 1 + m)) (hn : j + m ≤ 100) (cuts : List ByteArray) (X L : List T) (hX1 : packedL X) (hX2 : dshL X = X) (hL1 : packedL L) (hL2 : dshL L = L) : ACall p_ 85 [.agg (wRowS j m cuts X L (some []) (some [])), i64 i] (fun x _ => x = .agg [i64 (-5), i64 5]) := Q21_
theorem spreadW_ok (j m : Nat) (hn : j + m ≤ 100) (cuts : List ByteArray) : ACall p_ 127 [.bx true (wRow j m cuts (Group.row true ptG) [.sl true 3 []] (some []) (some [])), i64 j] (fun r a => r = .tup [] ∧ a = [.bx true (wRow j m cuts (Group.row true adG) [.sl true 3 []] (some []) (some [])), i64 j]) := by
 have hmx := mx_eq
 have k0 := copySelf_ok ptG ptG_wf.1 grp_oks.2.2.1 rfl
 have k1 := copyTo_ok ptG 1 ptG_wf.1 ptG_wf.2 grp_oks.2.2.1 rfl (by decide) (by decide) rfl rfl rfl
 rw [cpy_pt] at k1
 have k2 := copyTo_ok c1G 2 c1G_wf.1 c1G_wf.2 grp_oks.2.2.2.1 rfl (by decide) (by decide) rfl rfl rfl
 rw [cpy_c1] at k2
 have k3 := advNew_ok
 refine fg H127 fun E hE hH => ?_; simp only [go_sem, hE, hH, C127]
 refine loopNe 3 (fun q (_ : Unit) => ⟨[(0, .ptr 0 0 0), (1, i64 j), (9, i64 q)], [(0, ⟨9, [wRow j m cuts (Group.row true (spG q)) [.sl true 3 []] (some []) (some [])]⟩)]⟩) (fun _ _ => True) () rfl trivial ?_
 intro q _ hq _
 obtain rfl | rfl | rfl | rfl : q = 0 ∨ q = 1 ∨ q = 2 ∨ q = 3 := by omega
 ·try simp only [go_sem, hE, hH, C127_l1, spG]
  repeat' (first | ((with_reducible apply ga) <;> refine gs fun h => ?_) | ((with_reducible apply an); · omega) | ((first | refine ok_view ?_ | refine cvA (k0) ?_); refine st ?_) | (with_reducible first | apply jn | apply both | apply an | exact ti) | exact fj | refine st ?_ | exact fm | refine s1 ?_)
  all_goals first | omega | exact ⟨(), rfl⟩
 ·try simp only [go_sem, hE, hH, C127_l1, spG]
  repeat' (first | ((with_reducible apply ga) <;> refine gs fun h => ?_) | ((with_reducible apply an); · omega) | ((first | refine ok_view ?_ | refine cvA (k1) ?_); refine st ?_) | (with_reducible first | apply jn | apply both | apply an | exact ti) | exact fj | refine st ?_ | exact fm | refine s1 ?_)
  all_goals first | omega | exact ⟨(), rfl⟩
 ·try simp only [go_sem, hE, hH, C127_l1, spG]
  repeat' (first | ((with_reducible apply ga) <;> refine gs fun h => ?_) | ((with_reducible apply an); · omega) | ((first | refine ok_view ?_ | refine cvA (k2) ?_); refine st ?_) | (with_reducible first | apply jn | apply both | apply an | exact ti) | exact fj | refine st ?_ | exact fm | refine s1 ?_)
  all_goals first | omega | exact ⟨(), rfl⟩
 ·try simp only [go_sem, hE, hH, C127_l1, spG]
  repeat' (first | ((with_reducible apply ga) <;> refine gs fun h => ?_) | ((with_reducible apply an); · omega) | ((first | refine ok_view ?_ | refine cvA (k3) ?_); refine st ?_) | (with_reducible first | apply jn | apply both | apply an | exact ti) | exact fj | refine st ?_ | exact fm | refine s1 ?_)
  all_goals first | omega | rfl
theorem idsB_mG {j m : Nat} (h : 0 < j + m) (X : List T) : idsB (some ⟨3, mG j m X⟩) = [] := by
 have e : (mG j m X).length = j + 1 + m := mG_len
 unfold idsB
 split
 ·rename_i q
  injection q with q; injection q with _ q
  rw [q] at e; simp at e; omega
 ·rfl
theorem idsB_m0 (X : List T) : idsB (some ⟨3, mG 0 0 X⟩) = idsL X := rfl
theorem putW_ok (j m : Nat) (hn : j + m ≤ 100) (cuts : List ByteArray) : ACall p_ 86 [.bx true (wRow j m cuts (Group.row true elG) [.sl true 3 []] (some []) (some [])), i64 j, .agg [i64 4, i64 0, i64 15, i64 0, nils, nils, bl false]] (fun r a => r = bl true ∧ a = [.bx true (wRow j m cuts (Group.row true adG) [.sl true 3 []] (some []) (some [])), i64 j, .agg [i64 4, i64 0, i64 15, i64 0, nils, nils, bl false]]) := by
 have hmx := mx_eq
 by_cases hjm : 0 < j + m
 ·have hid := idsB_mG hjm
  simp only [idsB] at hid
  refine fg H86 fun E hE hH => ?_; simp only [go_sem, hE, hH, C86]
  all_goals (have y1_ := hid; repeat' (first | ((with_reducible apply ga) <;> refine gs1_ fun h => ?_) | ((with_reducible apply an); · omega) | (refine ok_lend [true, false] ?_; refine st1_ ?_; refine cmA (spreadW_ok j m hn cuts) ?_; refine st1_ ?_) | ((first | refine ok_view ?_ | refine cvAn (putNew_ok) ?_); refine st1_ ?_) | (with_reducible first | apply jn | apply both | apply an | exact ti) | exact fj1_ | refine st1_ ?_ | exact fm1_ | refine s11_ ?_))
  all_goals first | omega | rfl
 ·obtain rfl : j = 0 := by omega
  obtain rfl : m = 0 := by omega
  have hid := idsB_m0
  simp only [idsB] at hid
  refine fg H86 fun E hE hH => ?_; simp only [go_sem, hE, hH, C86]
  all_goals (have y1_ := hid; repeat' (first | ((with_reducible apply ga) <;> refine gs1_ fun h => ?_) | ((with_reducible apply an); · omega) | (refine ok_lend [true, false] ?_; refine st1_ ?_; refine cmA (spreadW_ok 0 0 hn cuts) ?_; refine st1_ ?_) | ((first | refine ok_view ?_ | refine cvAn (putNew_ok) ?_); refine st1_ ?_) | (with_reducible first | apply jn | apply both | apply an | exact ti) | exact fj1_ | refine st1_ ?_ | exact fm1_ | refine s11_ ?_))
  all_goals first | omega | rfl
theorem electW_ok (j m : Nat) (hn : j + m ≤ 100) (cuts : List ByteArray) : ACall p_ 39 [.bx true (wRow j m cuts (Group.row true newG) [nils] (some []) (some [])), i64 (3 * j : Nat)] (fun r a => r = bl true ∧ a = [.bx true (wRow j m cuts (Group.row true adG) [.sl true 3 []] (some []) (some [])), i64 (3 * j : Nat)]) := by
 have hmx := mx_eq
 have c1 := leadFull0_ok
 have q1 : Int.tdiv ((3 * j : Nat) : Int) 3 = j := by rw [Int.natCast_mul]; exact Int.mul_tdiv_cancel_left _ (by decide)
 have q2 : Int.tmod ((3 * j : Nat) : Int) 3 = 0 := by rw [Int.natCast_mul]; exact Int.mul_tmod_right _ _
 have r1 : (List.replicate (j + 1 + m) [i64 0]).getD j [] = [i64 0] := getD_rep (by omega)
 have r2 : List.drop 1 [i64 0] = [] := rfl
 have r3 : (List.replicate (j + 1 + m) [i64 0]).set j [i64 0] = List.replicate (j + 1 + m) [i64 0] := List.set_replicate_self ..
 have hj0 : j < j + 1 + m := by omega
 refine fg H39 fun E hE hH => ?_; simp only [go_sem, hE, hH, C39]
 all_goals (have y1_ := q1; have y2_ := q2; have y3_ := r1; have y4_ := r2; have y5_ := r3; have y6_ := hj0; repeat' (first | ((with_reducible apply ga) <;> refine gs10_ fun h => ?_) | ((with_reducible apply an); · omega) | (refine ok_pack [(33, 1, [(0, 3)])] ?_; refine st10_ ?_; refine ok_view ?_; refine st10_ ?_; refine cvA (Wspan_ok j m (3 * j) (by omega) hn cuts (Group.row false elG) [.sl false 3 []] (by simp only [go_sem]) rfl (by simp only [go_sem]) rfl) ?_; refine st10_ ?_) | (refine ok_pack [(0, 1, [(2, 1), (3, 1), (4, 3), (5, 1), (6, 1), (7, 10), (8, 6)])] ?_; refine st10_ ?_; refine ok_lend [true, false, false] ?_; refine st10_ ?_; refine cmA (putW_ok j m hn cuts) ?_; refine st10_ ?_) | ((first | refine ok_view ?_ | refine cvA (electNew_ok) ?_ | refine cvA (c1) ?_ | refine cvA (LeadFloor0_ok) ?_); refine st10_ ?_) | (with_reducible first | apply jn | apply both | apply an | exact ti) | exact fj10_ | refine st10_ ?_ | exact fm10_ | refine s110_ ?_))
 all_goals first | omega | rfl
theorem IndexFunc_StringS_ok (l : List (List ByteArray)) (f : Nat) (caps : List T) (p : List ByteArray → Bool) (hent : entB p_ f = true) (hcap : caps.all T.cap = true) (hl : l.length ≤ maxLen) (hp : ∀ x, x ∈ l → ACall p_ f ([.sl false 1 (strs x)] ++ caps) (fun r _ => r = bl (p x))) :
  ACall p_ 78 [.sl false 1 (l.map fun y => [.sl false 1 (strs y)]), .fn f caps] (fun r _ => r = i64 (ixf p l)) := by
 have hmx := mx_eq
 refine fn_in (hqA H78) (hqB H78) ⟨by simp only [go_sem, caps_bare hcap, caps_pk hcap, caps_noM hcap, caps_lt hcap, caps_ids hcap], fun E hE hH => ?_⟩; simp only [go_sem, caps_bare hcap, caps_pk hcap, caps_noM hcap, caps_lt hcap, caps_ids hcap] at hE hH; simp only [go_sem, hE, hH, caps_bare hcap, caps_pk hcap, caps_noM hcap, caps_lt hcap, caps_ids hcap, T10_x]
 refine loopN l.length (fun j (_ : Unit) => ⟨[(0, .sl false 1 (l.map fun y => [.sl false 1 (strs y)])), (1, .fn f caps), (7, i64 l.length), (8, i64 j)], []⟩) (fun j _ => allN (fun i => !p (nth l i)) j = true) () rfl ?_
 intro j _ hj hI
 try simp only [go_sem, hE, hH, caps_bare hcap, caps_pk hcap, caps_noM hcap, caps_lt hcap, caps_ids hcap, T10_x_l1]
 first | refine gd_t (fun h => ?_) (fun h => ?_) | refine gd_f (fun h => ?_) (fun h => ?_)
 ·have hb := h
  simp only [nf] at h
  have hlt := h; clear h
  try simp (disch := omega) only [go_sem, hE, hH, caps_bare hcap, caps_pk hcap, caps_noM hcap, caps_lt hcap, caps_ids hcap, hb]
  try refine And.intro (by omega) ?_
  refine ok_cfv rfl rfl rfl (hent) (hcap) (hp _ (nth_mem hlt)) ?_
  try simp (disch := omega) only [go_sem, hE, hH, caps_bare hcap, caps_pk hcap, caps_noM hcap, caps_lt hcap, caps_ids hcap]
  repeat' (first | ((with_reducible apply ga) <;> refine gs2_ fun h => ?_) | ((with_reducible apply an); · omega) | refine jn _ ?_ ?_ | (with_reducible first | apply both | apply an | exact ti) | exact fe2_ | refine st2_ ?_ | exact fm2_ | refine s12_ ?_)
  ·rw [ixf_at hlt hI h]
  ·exact ⟨(), rfl, allN_step hI (by simp [h])⟩
 ·try simp (disch := omega) only [go_sem, hE, hH, caps_bare hcap, caps_pk hcap, caps_noM hcap, caps_lt hcap, caps_ids hcap, h]
  simp only [nf] at h
  rw [show j = l.length by omega] at hI
  rw [ixf_none hI]
open Go.Proofs.Wb renaming H34 → z0_, IndexFunc_StringS_ok → z1_ in
theorem ContainsFunc_StringS_ok (l : List (List ByteArray)) (f : Nat) (caps : List T) (p : List ByteArray → Bool) (hent : entB p_ f = true) (hcap : caps.all T.cap = true) (hl : l.length ≤ maxLen) (hp : ∀ x, x ∈ l → ACall p_ f ([.sl false 1 (strs x)] ++ caps) (fun r _ => r = bl (p x))) :
  ACall p_ 34 [.sl false 1 (l.map fun y => [.sl false 1 (strs y)]), .fn f caps] (fun r _ => r = bl (l.any p)) := Q14_
theorem IndexFunc_OpS_ok (l : List (List Op)) (f : Nat) (caps : List T) (p : List Op → Bool) (hent : entB p_ f = true) (hcap : caps.all T.cap = true) (hl : l.length ≤ maxLen) (hp : ∀ x, x ∈ l → ACall p_ f ([.sl false 4 (x.map (Op.row false))] ++ caps) (fun r _ => r = bl (p x))) :
  ACall p_ 76 [.sl false 1 (l.map fun y => [.sl false 4 (y.map (Op.row false))]), .fn f caps] (fun r _ => r = i64 (ixf p l)) := by
 have hmx := mx_eq
 refine fn_in (hqA H76) (hqB H76) ⟨by simp only [go_sem, caps_bare hcap, caps_pk hcap, caps_noM hcap, caps_lt hcap, caps_ids hcap], fun E hE hH => ?_⟩; simp only [go_sem, caps_bare hcap, caps_pk hcap, caps_noM hcap, caps_lt hcap, caps_ids hcap] at hE hH; simp only [go_sem, hE, hH, caps_bare hcap, caps_pk hcap, caps_noM hcap, caps_lt hcap, caps_ids hcap, T10_x]
 refine loopN l.length (fun j (_ : Unit) => ⟨[(0, .sl false 1 (l.map fun y => [.sl false 4 (y.map (Op.row false))])), (1, .fn f caps), (7, i64 l.length), (8, i64 j)], []⟩) (fun j _ => allN (fun i => !p (nth l i)) j = true) () rfl ?_
 intro j _ hj hI
 try simp only [go_sem, hE, hH, caps_bare hcap, caps_pk hcap, caps_noM hcap, caps_lt hcap, caps_ids hcap, T10_x_l1]
 first | refine gd_t (fun h => ?_) (fun h => ?_) | refine gd_f (fun h => ?_) (fun h => ?_)
 ·have hb := h
  simp only [nf] at h
  have hlt := h; clear h
  try simp (disch := omega) only [go_sem, hE, hH, caps_bare hcap, caps_pk hcap, caps_noM hcap, caps_lt hcap, caps_ids hcap, hb]
  try refine And.intro (by omega) ?_
  refine ok_cfv rfl rfl rfl (hent) (hcap) (hp _ (nth_mem hlt)) ?_
  try simp (disch := omega) only [go_sem, hE, hH, caps_bare hcap, caps_pk hcap, caps_noM hcap, caps_lt hcap, caps_ids hcap]
  repeat' (first | ((with_reducible apply ga) <;> refine gs2_ fun h => ?_) | ((with_reducible apply an); · omega) | refine jn _ ?_ ?_ | (with_reducible first | apply both | apply an | exact ti) | exact fe2_ | refine st2_ ?_ | exact fm2_ | refine s12_ ?_)
  ·rw [ixf_at hlt hI h]
  ·exact ⟨(), rfl, allN_step hI (by simp [h])⟩
 ·try simp (disch := omega) only [go_sem, hE, hH, caps_bare hcap, caps_pk hcap, caps_noM hcap, caps_lt hcap, caps_ids hcap, h]
  simp only [nf] at h
  rw [show j = l.length by omega] at hI
  rw [ixf_none hI]
open Go.Proofs.Wb renaming H31 → z0_, IndexFunc_OpS_ok → z1_ in
theorem ContainsFunc_OpS_ok (l : List (List Op)) (f : Nat) (caps : List T) (p : List Op → Bool) (hent : entB p_ f = true) (hcap : caps.all T.cap = true) (hl : l.length ≤ maxLen) (hp : ∀ x, x ∈ l → ACall p_ f ([.sl false 4 (x.map (Op.row false))] ++ caps) (fun r _ => r = bl (p x))) :
  ACall p_ 31 [.sl false 1 (l.map fun y => [.sl false 4 (y.map (Op.row false))]), .fn f caps] (fun r _ => r = bl (l.any p)) := Q14_
open Go.Proofs.Wb renaming H32 → z0_, C32 → z1_, isProgram_ok → z2_ in
theorem NewWorld_1_ok (l : List Op) (hl : wfL Op.wf l) : ACall p_ 32 ([.sl false 4 (l.map (Op.row false))] ++ []) (fun r _ => r = bl (!wProgOk l)) := Q22_
open Go.Proofs.Wb renaming H35 → z0_, C35 → z1_, areLookKeys_ok → z2_ in
theorem NewWorld_2_ok (l : List ByteArray) (hl : limL (fun s => s.size ≤ maxLen) l) : ACall p_ 35 ([.sl false 1 (strs l)] ++ []) (fun r _ => r = bl (!keysOk l)) := Q22_
def newC (cuts : List ByteArray) (ps : List (List Op)) (ls : List (List ByteArray)) : Bool := decide ((cuts.length : Int) ≤ 2) && cutsOk cuts && decide ((ps.length : Int) ≤ 6) && ps.all wProgOk && decide ((ls.length : Int) ≤ 4) && ls.all keysOk
def newT (n : Nat) (p : List Op) : WorldTxn := ⟨p, [], List.replicate n 0, -1, -1, false, 0, false, false, false⟩
def newLk (n k : Nat) (l : List ByteArray) : WorldLook := ⟨((k % (3 * n) : Nat) : Int), l, [], 0, -1, -1⟩
def newTs (n : Nat) (ps : List (List Op)) : List WorldTxn := ps.map (newT n)
def newLs (n : Nat) (ls : List (List ByteArray)) : List WorldLook := (List.range ls.length).map fun k => newLk n k (nth ls k)
def newW (cuts : List ByteArray) (ps : List (List Op)) (ls : List (List ByteArray)) : World := ⟨0, 0, List.replicate (3 * (cuts.length + 1)) ⟨0⟩, cuts, List.replicate (cuts.length + 1) adG, List.replicate (cuts.length + 1) [], List.replicate (cuts.length + 1) 0, newTs (cuts.length + 1) ps, newLs (cuts.length + 1) ls⟩
def zeroW : World := ⟨0, 0, [], [], [], [], [], [], []⟩
def nwR (cuts : List ByteArray) (ps : List (List Op)) (ls : List (List ByteArray)) : World × Bool := if newC cuts ps ls then (newW cuts ps ls, true) else (zeroW, false)
theorem newTs_len {n : Nat} {ps : List (List Op)} : (newTs n ps).length = ps.length := by simp [newTs]
theorem newLs_len {n : Nat} {ls : List (List ByteArray)} : (newLs n ls).length = ls.length := by simp [newLs]
theorem newTs_succ {n j : Nat} {ps : List (List Op)} (h : j < ps.length) : newTs n (ps.take (j + 1)) = newTs n (ps.take j) ++ [newT n (nth ps j)] := by
 rw [newTs, take_nth h, List.map_append]; rfl
def lksN (n : Nat) (ls : List (List ByteArray)) (j : Nat) : List WorldLook := (List.range j).map fun k => newLk n k (nth ls k)
theorem lksN_len {n j : Nat} {ls : List (List ByteArray)} : (lksN n ls j).length = j := by simp [lksN]
theorem lksN_succ {n j : Nat} {ls : List (List ByteArray)} : lksN n ls (j + 1) = lksN n ls j ++ [newLk n j (nth ls j)] := by
 rw [lksN, List.range_succ, List.map_append]; rfl
def hG (n j : Nat) : List (List T) := List.replicate j (Group.row true adG) ++ List.replicate (n - j) (Group.row true newG)
def hL (n j : Nat) : List (List T) := List.replicate j [.sl true 3 []] ++ List.replicate (n - j) [nils]
theorem hG_mid (j m : Nat) : hG (j + 1 + m) j = mG j m (Group.row true newG) := by
 rw [hG, show j + 1 + m - j = m + 1 by omega, List.replicate_succ]; rfl
theorem hL_mid (j m : Nat) : hL (j + 1 + m) j = mL j m [nils] := by
 rw [hL, show j + 1 + m - j = m + 1 by omega, List.replicate_succ]; rfl
theorem mid_hG (j m : Nat) : mG j m (Group.row true adG) = hG (j + 1 + m) (j + 1) := by
 rw [hG, show j + 1 + m - (j + 1) = m by omega, List.replicate_succ', List.append_assoc]; rfl
theorem mid_hL (j m : Nat) : mL j m [.sl true 3 []] = hL (j + 1 + m) (j + 1) := by
 rw [hL, show j + 1 + m - (j + 1) = m by omega, List.replicate_succ', List.append_assoc]; rfl
theorem hG_end (n : Nat) : hG n n = List.replicate n (Group.row true adG) := by simp [hG]
theorem hL_end (n : Nat) : hL n n = List.replicate n [.sl true 3 []] := by simp [hL]
theorem hG_zero (n : Nat) : hG n 0 = List.replicate n (Group.row true newG) := by simp [hG]
theorem hL_zero (n : Nat) : hL n 0 = List.replicate n [nils] := by simp [hL]
def wkR (n : Nat) (cuts : List ByteArray) (G L T1 L1 : List (List T)) : List T := [i64 0, i64 0, .sl true 1 (List.replicate (3 * n) [i64 0]), .sl true 1 (strs cuts), .sl true 3 G, .sl true 1 L, .sl true 1 (List.replicate n [i64 0]), .sl true 10 T1, .sl true 6 L1]
theorem newW_row (cuts : List ByteArray) (ps : List (List Op)) (ls : List (List ByteArray)) : World.row true (newW cuts ps ls) = wkR (cuts.length + 1) cuts (List.replicate (cuts.length + 1) (Group.row true adG)) (List.replicate (cuts.length + 1) [.sl true 3 []]) ((newTs (cuts.length + 1) ps).map (WorldTxn.row true)) ((newLs (cuts.length + 1) ls).map (WorldLook.row true)) := by
 simp only [wkR, World.row, newW, List.map_replicate, ints]
 rfl
end Go.Proofs.Wb

import Derived.Orders
import Derived.Test.YthfpgpkdankdjaaGreatDoorAmCode
set_option linter.all false
namespace Go.Am
open Go Go.RowKit
section
variable {P:Program} {ops:Array Oper} {md:Region.Mode}
def Closed (md:Region.Mode) (ops:Array Oper) (listed:Array Bool):Prop:=
 ∀ (k:Nat) (o:Oper),ops[k]? =some o→listed.getD k false=true→∀ e∈o.after,Region.binds md e=true→listed.getD e.on false=true
theorem zLj (n:Nat):Closed md ops (Array.replicate n false):=by
 intro k o _ h
 simp only [Array.getD_eq_getD_getElem?,Array.getElem?_replicate] at h
 split at h<;>simp at h
theorem zSm {listed:Array Bool} {i k:Nat} (h:(listed.setIfInBounds i true).getD k false=true):k=i∨listed.getD k false=true:=by
 by_cases e:i=k
 ·exact .inl e.symm
 ·exact .inr (by rwa [getD_set_ne false e] at h)
theorem Closed.step {listed:Array Bool} (h:Closed md ops listed) {j:Nat} (hj:j∈Region.ready md ops listed):Closed md ops (listed.setIfInBounds j true):=by
 intro k o hk hl e he hb
 refine getD_set_true ?_
 rcases zSm hl with rfl|hl
 ·obtain ⟨_,o',ho',hall⟩:=mem_ready.1 hj
  rw [hk] at ho';simp at ho';subst ho'
  exact hall e he hb
 ·exact h k o hk hl e he hb
def zZT (md:Region.Mode) (ops:Array Oper) (j i:Nat):Prop:=∀ listed:Array Bool,Closed md ops listed→j∈Region.ready md ops listed→listed.getD i false=true
def zIJ (md:Region.Mode) (ops:Array Oper) (tab:List (Nat×Nat)):Prop:=
 ∀ (k m:Nat),lk k tab=some m→∀ listed:Array Bool,Closed md ops listed→listed.getD k false=true→∀ i,m.testBit i=true→listed.getD i false=true
theorem zQI (tab:List (Nat×Nat)) (i:Nat):∀ (l:List Edge) (m0:Nat),
  (l.foldl (fun m e=>bif Region.binds md e then m |||(2^e.on |||zQm tab e.on) else m) m0).testBit i=true→
  m0.testBit i=true∨∃ e∈l,Region.binds md e=true∧(e.on=i∨(zQm tab e.on).testBit i=true)
 |[],_,h=> .inl h
 |e::l,m0,h=>by
  simp only [List.foldl_cons] at h
  rcases zQI tab i l _ h with h|⟨e',h1,h2⟩
  ·cases hb:Region.binds md e with
   |false=>rw [hb] at h;exact .inl h
   |true=>
    rw [hb] at h
    simp only [cond_true,Nat.testBit_or,Bool.or_eq_true,Nat.testBit_two_pow,decide_eq_true_eq] at h
    rcases h with h|h
    ·exact .inl h
    ·exact .inr ⟨e,List.mem_cons_self ..,hb,h⟩
  ·exact .inr ⟨e',List.mem_cons_of_mem _ h1,h2⟩
theorem zO5 {tab:List (Nat×Nat)} (ht:zIJ md ops tab) {o:Oper} {listed:Array Bool} (hc:Closed md ops listed)
  (hall:∀ e∈o.after,Region.binds md e=true→listed.getD e.on false=true) {i:Nat} (hi:(zBS md tab o.after.toList).testBit i=true):listed.getD i false=true:=by
 rcases zQI tab i _ _ hi with h|⟨e,h1,h2,h3⟩
 ·simp at h
 ·have he:=hall e (by simpa using h1) h2
  rcases h3 with rfl|h3
  ·exact he
  ·unfold zQm at h3
   split at h3
   ·rename_i m hm
    exact ht _ _ hm listed hc he i h3
   ·simp at h3
theorem zIJ.cons {tab:List (Nat×Nat)} (ht:zIJ md ops tab) {j:Nat} {o:Oper} (ho:ops[j]? =some o):zIJ md ops ((j,zBS md tab o.after.toList)::tab):=by
 intro k m hk listed hc hl i hi
 simp only [lk] at hk
 split at hk
 ·rename_i e;subst e
  simp only [Option.some.injEq] at hk;subst hk
  exact zO5 ht hc (hc j o ho hl) hi
 ·exact ht k m hk listed hc hl i hi
theorem zMu {tab:List (Nat×Nat)} (ht:zIJ md ops tab) {j:Nat} {o:Oper} (ho:ops[j]? =some o) {i:Nat} (hi:(zBS md tab o.after.toList).testBit i=true):zZT md ops j i:=by
 intro listed hc hj
 obtain ⟨_,o',ho',hall⟩:=mem_ready.1 hj
 rw [ho] at ho';simp at ho';subst ho'
 exact zO5 ht hc hall hi
def kOp (P:Program) (ops:Array Oper) (j:Nat) (K:Act→World→Prop) (a:Act) (w:World):Prop:=
 match ops[j]? with
 |none=>False
 |some o=>if Region.wanted o (yielded ops a.tmps) then ∀ Q,o.upon P a K Q ((execOp a.eval o).run P w) else K (a.put o.dst undef) w
theorem zLK {i:Nat} {a:Act} {w:World} {K K':Act→World→Prop} (h:∀ a w',K a w'→K' a w') (hh:kOp P ops i K a w):kOp P ops i K' a w:=by
 unfold kOp at*
 split
 ·rename_i ho;simp only [ho] at hh
 ·rename_i o ho
  simp only [ho] at hh
  split
  ·rename_i hw;simp only [hw,if_true] at hh;exact fun Q=>zF1 h hh
  ·rename_i hw;simp only [hw] at hh;exact h _ _ hh
theorem zSn {i:Nat} {a:Act} {w:World} {K:Act→World→Prop} {Q:Exit→Act→World→Prop} (hh:kOp P ops i K a w):wpOp P ops Q i K a w:=by
 unfold kOp at hh
 unfold wpOp
 split at hh
 ·exact hh.elim
 ·rename_i o ho
  simp only [ho]
  split
  ·rename_i hw;simp only [hw,if_true] at hh;exact .inl (hh Q)
  ·rename_i hw;simp only [hw] at hh;exact hh
def zIi (P:Program) (ops:Array Oper) (o:Oper) (v:Value) (a:Act) (w:World):Prop:=
 (Region.wanted o (yielded ops a.tmps)=true∧(execOp a.eval o).run P w= .ok (.value v) w)∨
 (Region.wanted o (yielded ops a.tmps)=false∧v=undef)
theorem zIi.kOp {i:Nat} {o:Oper} {v:Value} {a:Act} {w:World} (hi:ops[i]? =some o) (hy:zIi P ops o v a w) {K:Act→World→Prop} (h:K (a.put o.dst v) w):kOp P ops i K a w:=by
 unfold Am.kOp
 simp only [hi]
 rcases hy with ⟨hw,hv⟩|⟨hw,rfl⟩
 ·simp only [hw,if_true];rw [hv];exact fun _=>h
 ·simp only [hw,Bool.false_eq_true,if_false];exact h
def atA (Q:Exit→Act→World→Prop) (a:Act):Exit→Act→World→Prop
 | .panic c,_,w=>Q (.panic c) a w
 |e,a',w=>Q e a' w
theorem zUx {oj:Oper} {a:Act} {d:Option Tmp} {v:Value} {K:Act→World→Prop} {r:Result Next} (h2:∀ t,d=some t→oj.dst≠some t)
  (hh:∀ Q,oj.upon P (a.put d v) K Q r):∀ Q,oj.upon P a (fun a' w'=>K (a'.put d v) w') Q r:=by
 intro Q
 have h:=hh (atA Q a)
 cases r with
 |ok n w'=>
  cases n<;>simp only [Oper.upon] at h ⊢
  case value u=>rw [←Act.put_comm a v u h2];exact h
  case skip=>rw [←Act.put_comm a v undef h2];exact h
  case defer dd=>rw [←Act.put_comm _ v undef h2, ←Act.put_defers];exact h
  case enter f args=>
   refine Calls.mono h fun e w'' he=> ?_
   cases e with
   |returned u=>simp only at he ⊢;rw [←Act.put_comm a v u h2];exact he
   |panicked c=>exact he
   |outgrown=>exact he
  case row row args=>exact Rows.mono h fun u w'' he=>by rw [←Act.put_comm a v u h2];exact he
 |halt x w'=>cases x<;>simp only [Oper.upon] at h ⊢;exact h
theorem zWg {i j:Nat} {oi oj:Oper} {v:Value} (hj:ops[j]? =some oj) (hap:oi.apart ops oj=true) (hsj:∀ cs b,oj.op≠ .select cs b)
  {K:Act→World→Prop} {a:Act} {w:World} (h:kOp P ops j K (a.put oi.dst v) w):kOp P ops j (fun a' w'=>K (a'.put oi.dst v) w') a w:=by
 obtain ⟨p1,p2,p3⟩:=Oper.apart_spec hap
 unfold kOp at h ⊢
 simp only [hj] at h ⊢
 rw [wanted_put oj a oi.dst v p1,execOp_put oj hsj a oi.dst v p1] at h
 split
 ·rename_i hw
  simp only [hw,if_true] at h
  exact zUx p2 h
 ·rename_i hw
  simp only [hw] at h
  rw [←Act.put_comm a v undef p2];exact h
end
end Go.Am

import Derived.Test.YthfpgpkdankdjaaGreatDoorAmTac
import Derived.Laws.Externs
set_option linter.all false
namespace Go.Am
open Go Go.RowKit
section
variable {P:Program} {E:Env} {s:St} {a:Act} {w:World} {S:Nat→Prop} {ρ:Nat→Option Hd} {foot:Nat→List Nat} {o:Oper}
def zBU (P:Program) (f:Nat):Bool:=
 match P.funcs[f]? with
 |some fn=>fn.body.isSome&&fn.name != "runtime.NumGoroutine"
 |none=>false
theorem zUI {c:Call} {t f:Nat} {fn:Func} {cv:Array Value} (hop:o.op= .call c) (hc:c.callee= .value (.tmp t)) (hv:a.eval (.tmp t)= .func (.func f) #[] cv) (hf:P.funcs[f]? =some fn) (hb:fn.body.isSome=true) (hn:fn.name≠ "runtime.NumGoroutine"):(execOp a.eval o).run P w= .ok (.enter f (c.args.map a.eval++cv)) w:=by
 have hbn:fn.body.isNone=false:=by cases h:fn.body<;>simp [h] at hb ⊢
 simp [execOp,hop,resolve,hc,hv,Deferred.ofValue,invoke,callFunc,hf,hn]
 intro h
 rw [h] at hbn
 simp at hbn
theorem zYl (modes:List Bool) {d:Option Nat} {g:Option (Nat×Bool)} {K:St→Prop} {f:Nat} {x:Operand} {xs:List Operand} {caps ts us:List T} {ow vw:List Nat} {c:Prop} {R:T→List T→Prop} (hx:s.eval x=some (.fn f caps)) (hev:zA6 s xs=some ts) (hf:zBU P f=true)
  (hp:zBT s (zC8 modes (ts++caps))=some (us,ow,vw,c)) (hm:Nat.beq modes.length (ts++caps).length=true) (hnd:nodupB ow=true) (hdis:zLT ow vw=true) (hc:c) (hokd:E.okdO d) (hC:ACall P f us R)
  (hK:∀ r l,R r l→(vw=[]∨(r.noSh∧zB3 modes l))∧(bkL s (delL s ow) (zC8 modes (ts++caps)) l).2∧zF4 (bkL s (delL s ow) (zC8 modes (ts++caps)) l).1 d r∧K ((bkL s (delL s ow) (zC8 modes (ts++caps)) l).1.unpO d r)):zAn P E ⟨d,g, .callv x xs⟩ K s:=by
 rw [zIl] at hp
 have hdis':∀ id,id∈ow→id∉vw:=by
  intro i hi hj
  simp only [zLT,List.all_eq_true,bne_iff_ne] at hdis
  exact hdis i hi i hj rfl
 intro o g1 g2 g3 a w ⟨S,ρ,foot,hsx⟩ Q
 simp only at g1 g2 g3
 unfold zBR at g1
 split at g1<;>try (simp at g1;done)
 case h_23 cl hop=>
  split at g1<;>try (first|(simp at g1;done)|(repeat' split at g1)<;>simp at g1;done)
  rename_i t hcal
  simp only [Option.some.injEq,I.callv.injEq] at g1
  obtain ⟨rfl,rfl⟩:=g1
  have hr:=hsx.eval hx
  simp only [Rep] at hr
  obtain ⟨cv,hv,hcv,hrow⟩:=hr
  unfold zBU at hf
  split at hf
  ·rename_i fn hfn
   simp only [Bool.and_eq_true,bne_iff_ne,ne_eq] at hf
   rw [zUI hop hcal hv hfn hf.1 hf.2,Oper.upon_enter,g2]
   have hl:=zC6 _ _ hev
   refine (zQZ (P:=P) hsx (vs:=cl.args.map a.eval++cv) (ts:=ts++caps) (modes:=modes) (d:=d) (K:=K) ?_ (by simp at hl ⊢;omega) (Nat.eq_of_beq_eq_true hm) hp hc (zJ0 hnd) hdis' hC g3 hokd (by simpa [zIl] using hK)).mono ?_
   ·have h1:RepRow S w ρ (fun i=>(cl.args.map a.eval)[i]?) 0 ts []:=by
     refine zEz hsx _ _ _ 0 hev fun j x hx=> ?_
     have:cl.args[j]? =some x:=by simpa using hx
     simp [this]
    have hsz:(cl.args.map a.eval).size=ts.length:=by simp at hl ⊢;omega
    rw [zAr]
    refine ⟨[],[],zAM ts h1 fun i hi=> ?_,zAM caps hrow fun i hi=> ?_,rfl⟩
    ·simp only [Nat.zero_add]
     rw [Array.getElem?_append_left (by omega)]
    ·simp only [Nat.zero_add]
     rw [Array.getElem?_append_right (by omega)]
     congr 1
     omega
   ·rintro e w' ⟨rv,rfl,_,s',h1,h2⟩
    exact ⟨s',h1,h2⟩
  ·cases hf
 all_goals (repeat' split at g1)<;>simp at g1
theorem zYm {d:Option Nat} {g:Option (Nat×Bool)} {K:St→Prop} {f:Nat} {xs:List Operand} {vs:List Value} {x:Value} (hev:zA6 s xs=some (vs.map T.v)) (hX:∀ w:World,(callFunc f vs.toArray).run P w= .ok (.value x) w) (hK:K (s.put d (.v x))):zAn P E ⟨d,g, .xcall f xs⟩ K s:=by
 intro o g1 g2 g3 a w ⟨S,ρ,foot,hsx⟩ Q
 simp only at g1 g2 g3
 unfold zBR at g1
 split at g1<;>try (simp at g1;done)
 case h_23 cl hop=>
  split at g1<;>try (first|(simp at g1;done)|(repeat' split at g1)<;>simp at g1;done)
  rename_i f' hcal
  split at g1
  ·split at g1
   ·simp at g1
   ·simp only [Option.some.injEq,I.xcall.injEq] at g1
    obtain ⟨rfl,rfl⟩:=g1
    have h1:RepRow S w ρ (fun i=>(cl.args.map a.eval)[i]?) 0 (vs.map T.v) []:=by
     refine zEz hsx _ _ _ 0 hev fun j x hx=> ?_
     have:cl.args[j]? =some x:=by simpa using hx
     simp [this]
    have hl:=zC6 _ _ hev
    have hv:cl.args.map a.eval=vs.toArray:=by
     apply Array.ext
     ·simp at hl ⊢;omega
     ·intro i hi hi'
      obtain ⟨fs,q1,q2,q3⟩:=(zCp _ _ _).1 h1
      have hi2:i<vs.length:=by simpa using hi'
      have hfs:i<fs.length:=by simp at q1;omega
      obtain ⟨y,y1,y2⟩:=q3 i (.v vs[i]) fs[i] (by simp [hi2]) (List.getElem?_eq_getElem hfs)
      simp only [Rep] at y2
      rw [Nat.zero_add,Array.getElem?_eq_getElem hi] at y1
      rw [Option.some.inj y1,y2.1]
      simp
    have e:(execOp a.eval o).run P w=(callFunc f' (cl.args.map a.eval)).run P w:=by
     simp [execOp,hop,resolve,hcal,Act.eval,Deferred.ofValue,invoke]
    rw [e,hv,hX,Oper.upon_value,g2]
    exact ⟨_,hK,S,ρ,foot,hsx.put g3 (by simp [Rep])⟩
  ·cases g1
 all_goals (repeat' split at g1)<;>simp at g1
end
end Go.Am

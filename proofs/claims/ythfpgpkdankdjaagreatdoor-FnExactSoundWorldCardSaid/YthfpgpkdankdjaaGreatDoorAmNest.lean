import Derived.Test.YthfpgpkdankdjaaGreatDoorAmTac
import Derived.Test.YthfpgpkdankdjaaGreatDoorAmCallv
import Derived.Test.YthfpgpkdankdjaaGreatDoorAmRop
set_option linter.all false
namespace Go.Am
open Go Go.RowKit
section
variable {P:Program} {E:Env} {s:St} {a:Act} {w:World} {S:Nat→Prop} {ρ:Nat→Option Hd} {foot:Nat→List Nat}
theorem Ent.trans {s1 s2 s3:St} (h1:Ent E s1 s2) (h2:Ent E s2 s3):Ent E s1 s3:=fun a w h=>h2 a w (h1 a w h)
theorem Ent.refl (s:St):Ent E s s:=fun _ _ h=>h
def St.re (s:St) (d:Nat) (ob:Ob):St:=⟨s.slots,(d,ob)::Am.del d s.objs⟩
theorem zHw {d m:Nat} {ob ob':Ob} (h:lk m (s.re d ob).objs=some ob'):(m=d∧ob'=ob)∨(m≠d∧lk m s.objs=some ob'):=by
 simp only [St.re,lk] at h
 split at h
 ·rename_i e;simp only [Option.some.injEq] at h;exact .inl ⟨e.symm,h.symm⟩
 ·exact .inr ((zB1 d m ob' s.objs).1 h)
theorem SimX.re (h:SimX E s a w S ρ foot) {d:Nat} {ob ob':Ob} {hd:Hd} {F':List Nat} (ho:lk d s.objs=some ob) (hr:ρ d=some hd) (hsub:F'.Sublist (foot d)) (hrep:zFZ S w ρ ob' hd F'):
  SimX E (s.re d ob') a w S ρ (fun i=>if i=d then F' else foot i) where
 nt:=h.nt
 defers:=h.defers
 slots:=h.slots
 objs:=fun m ob2 hl=>by
  rcases zHw hl with ⟨rfl,rfl⟩|⟨e,hl⟩
  ·exact ⟨hd,hr,by simpa using hrep⟩
  ·simp only [if_neg e];exact h.objs m ob2 hl
 nodup:=fun m ob2 hl=>by
  rcases zHw hl with ⟨rfl,rfl⟩|⟨e,hl⟩
  ·simp only [if_true];exact hsub.nodup (h.nodup m ob ho)
  ·simp only [if_neg e];exact h.nodup m ob2 hl
 apart:=fun m ob1 n ob2 h1 h2 hne b hb=>by
  rcases zHw h1 with ⟨rfl,rfl⟩|⟨e1,k1⟩
  ·rw [if_pos rfl] at hb
   rcases zHw h2 with ⟨e,_⟩|⟨e2,k2⟩
   ·exact absurd e.symm hne
   ·rw [if_neg e2];exact h.apart m ob n ob2 ho k2 hne b (hsub.subset hb)
  ·rw [if_neg e1] at hb
   rcases zHw h2 with ⟨rfl,rfl⟩|⟨e2,k2⟩
   ·rw [if_pos rfl];exact fun hb2=>h.apart m ob1 n ob k1 ho hne b hb (hsub.subset hb2)
   ·rw [if_neg e2];exact h.apart m ob1 n ob2 k1 k2 hne b hb
 mine:=fun m ob2 hl b hb=>by
  rcases zHw hl with ⟨rfl,rfl⟩|⟨e,hl⟩
  ·rw [if_pos rfl] at hb;exact h.mine m ob ho b (hsub.subset hb)
  ·rw [if_neg e] at hb;exact h.mine m ob2 hl b hb
 shared:=h.shared
 S0:=h.S0
 kept:=h.kept
 pins:=h.pins
theorem zHx {cell:Nat→Option Value} {k i c off:Nat} {rows:List (List T)} {F:List Nat} {t:T} (h:zAb S w ρ cell off k rows F) (hi:i<rows.length) (hc:(rows.getD i [])[c]? =some t):
  ∃ y F1 F2 F3,cell (off+(i*k+c))=some y∧Rep S w ρ t y F2∧F=F1++F2++F3∧
   ∀ (S':Nat→Prop) (w':World) (ρ':Nat→Option Hd) (u:T) (G:List Nat),(∀ l,RepRow S w ρ cell l [] []→True)→Rep S w ρ u y G→zAb S w ρ cell off k (rows.set i ((rows.getD i []).set c u)) (F1++G++F3):=by
 have hri:rows[i]? =some (rows.getD i []):=by simp [List.getD_eq_getElem?_getD,List.getElem?_eq_getElem hi]
 obtain ⟨g1,g2⟩:=(zAh _ _ _).1 h
 have hlen:=g1 _ (List.mem_of_getElem? hri)
 have hcl:=(List.getElem?_eq_some_iff.1 hc).1
 have hfl:=zAY g1
 have hjk:i*k+k≤rows.length*k:=by
  have:=Nat.mul_le_mul_right k (show i+1≤rows.length by omega)
  rwa [Nat.succ_mul] at this
 have hset:∀ u:T,(rows.set i ((rows.getD i []).set c u)).flatten=rows.flatten.take (i*k+c)++[u]++rows.flatten.drop (i*k+c+1):=by
  intro u
  have:=zHQ (i:=i) (q:=c) (m:=[u]) g1 hri (by simp;omega)
  have e:(rows.getD i []).take c++[u]++(rows.getD i []).drop (c+[u].length)=(rows.getD i []).set c u:=by
   rw [List.set_eq_take_append_cons_drop,if_pos hcl]
   simp
  rw [e] at this
  simpa using this
 have hself:rows.flatten=rows.flatten.take (i*k+c)++[t]++rows.flatten.drop (i*k+c+1):=by
  have:=hset t
  have e1:(rows.getD i []).set c t=rows.getD i []:=by
   apply List.ext_getElem?
   intro n
   rw [List.getElem?_set]
   split
   ·rename_i e;subst e;rw [hc]
   ·rfl
  have e2:rows.set i (rows.getD i [])=rows:=by
   apply List.ext_getElem?
   intro n
   rw [List.getElem?_set]
   split
   ·rename_i e;subst e;rw [hri]
   ·rfl
  rwa [e1,e2] at this
 have g3:=g2
 rw [hself] at g3
 obtain ⟨F',F3,f0,f3,rfl⟩:=(zAr _ _ _ _).1 g3
 obtain ⟨F1,F2,f1,f2,rfl⟩:=(zAr _ _ _ _).1 f0
 have l1:(rows.flatten.take (i*k+c)).length=i*k+c:=by rw [List.length_take];omega
 rw [l1] at f2
 simp only [RepRow] at f2
 obtain ⟨y,G1,G2,y1,y2,rfl,rfl⟩:=f2
 rw [List.append_nil] at*
 refine ⟨y,F1,G1,F3,y1,y2,rfl,fun _ _ _ u G _ hu=> ?_⟩
 rw [zAh]
 constructor
 ·intro r hr
  rcases List.mem_or_eq_of_mem_set hr with hr|rfl
  ·exact g1 r hr
  ·rw [List.length_set];exact hlen
 ·rw [hset u]
  refine (zAr _ _ _ _).2 ⟨F1++G,F3,(zAr _ _ _ _).2 ⟨F1,G,f1, ?_,rfl⟩,by simpa using f3,rfl⟩
  rw [l1]
  simp only [RepRow]
  exact ⟨y,G,[],y1,hu,rfl,by simp⟩
def St.open1 (s:St) (id i c new:Nat) (ob:Ob) (k:Nat) (rows2:List (List T)):St:=
 ⟨kill new s.slots,(id,⟨ob.k,ob.rows.set i ((ob.rows.getD i []).set c (.ref new 0 rows2.length))⟩)::Am.del id ((new,⟨k,rows2⟩)::s.objs)⟩
theorem zMH {d:Nat} {rows:List (List T)} {i c:Nat} {u:T} (h:zAy d rows) (hu:u.noM d):zAy d (rows.set i ((rows.getD i []).set c u)):=by
 intro r hr
 rcases List.mem_or_eq_of_mem_set hr with hr|rfl
 ·exact h r hr
 ·have hb:zAD d (rows.getD i []):=by
   by_cases hi:i<rows.length
   ·have:rows.getD i []∈rows:=by simp [List.getD,hi]
    exact h _ this
   ·simp [List.getD,List.getElem?_eq_none (Nat.le_of_not_lt hi),zAD]
  clear hr
  revert hb
  generalize rows.getD i []=l
  intro hb
  induction l generalizing c with
  |nil=>simpa using hb
  |cons t ts ih=>
   simp only [zAD] at hb
   cases c with
   |zero=>simp only [List.set_cons_zero,zAD];exact ⟨hu,hb.2⟩
   |succ c=>simp only [List.set_cons_succ,zAD];exact ⟨hb.1,ih hb.2⟩
theorem zFo {d id:Nat}:∀ {l:List (Nat×Ob)},zAk d l→zAk d (Am.del id l)
 |[],_=>trivial
 |(m,ob)::r,h=>by
  simp only [Am.del,zAk] at h ⊢
  split
  ·exact zFo h.2
  ·exact ⟨h.1,zFo h.2⟩
theorem zWt {id i c new k:Nat} {ob:Ob} {rows2:List (List T)} (ho:lk id s.objs=some ob) (hi:i<ob.rows.length) (hc:(ob.rows.getD i [])[c]? =some (.sl true k rows2)) (hp:E.okd new) (hno:zAk new s.objs) (hne:new≠id):
  Ent E s (s.open1 id i c new ob k rows2):=by
 rintro a w ⟨S,ρ,foot,h⟩
 obtain ⟨hd,e1,e2,e3⟩:=h.objs id ob ho
 rcases e3 with ⟨_,e3,_⟩|⟨b,off,arr,el,fr,Fs,f1,f2,f3,f4,f5,f6,f7⟩
 ·rw [e3] at hi;simp at hi
 obtain ⟨y,F1,F2,F3,y1,y2,rfl,hput⟩:=zHx f6 hi hc
 have hput:=fun u G=>hput S w ρ u G (fun _ _=>trivial)
 have hA:=h.re (F':=b::(F1++[]++F3)) (ob':=⟨ob.k,ob.rows.set i ((ob.rows.getD i []).set c .any)⟩) ho e1
  (by rw [f7];exact List.Sublist.cons_cons b (by rw [List.append_nil,List.append_assoc];exact List.Sublist.append (List.Sublist.refl _) (List.sublist_append_right _ _)))
  ⟨e2, .inr ⟨b,off,arr,el,fr,_,f1,f2,by simpa using f3,f4,f5,hput .any [] (by simp [Rep]),rfl⟩⟩
 have hnd:=h.nodup id ob ho
 rw [f7] at hnd
 have hnd2:=(List.nodup_cons.1 hnd).2
 have hobs:lk id (s.re id ⟨ob.k,ob.rows.set i ((ob.rows.getD i []).set c .any)⟩).objs=some ⟨ob.k,ob.rows.set i ((ob.rows.getD i []).set c .any)⟩:=by simp [St.re,lk]
 have hnoA:zAk new (s.re id ⟨ob.k,ob.rows.set i ((ob.rows.getD i []).set c .any)⟩).objs:=by
  simp only [St.re,zAk]
  have hr:zAy new ob.rows:=zEK hno id ob ho (Ne.symm hne)
  exact ⟨.inr (zMH hr (by simp [T.noM])),zFo hno⟩
 have hF2:∀ q,q∈F2→q∈foot id:=fun q hq=>by rw [f7];simp [hq]
 have hap:∀ d' ob',lk d' (s.re id ⟨ob.k,ob.rows.set i ((ob.rows.getD i []).set c .any)⟩).objs=some ob'→d'≠new→∀ q,q∈F2→q∉(fun j=>if j=id then b::(F1++[]++F3) else foot j) d':=by
  intro d' ob' hl _ q hq
  rcases zHw hl with ⟨rfl,_⟩|⟨e,hl⟩
  ·simp only [if_true]
   intro hq2
   have hx:(b::(F1++F2++F3)).Nodup:=hnd
   rw [List.append_assoc] at hx
   simp only [List.nodup_cons,List.mem_append,List.nodup_append] at hx
   simp only [List.append_nil,List.mem_cons,List.mem_append] at hq2
   obtain ⟨h1,h2,h3,h4⟩:=hx
   rcases hq2 with rfl|hq2|hq2
   ·exact h1 (.inr (.inl hq))
   ·exact h4 q hq2 q (.inl hq) rfl
   ·exact h3.2.2 q hq q hq2 rfl
  ·simp only [if_neg e]
   exact h.apart id ob d' ob' ho hl (Ne.symm e) q (hF2 q hq)
 simp only [Rep] at y2
 obtain ⟨a0,cap,rfl,y2⟩:=y2
 obtain ⟨hd2,foot2,hB,hrep2⟩:∃ hd2 foot2,SimX E ((s.re id ⟨ob.k,ob.rows.set i ((ob.rows.getD i []).set c .any)⟩).new new ⟨k,rows2⟩) a w S (fun j=>if j=new then some hd2 else ρ j) foot2∧(foot2 id=b::(F1++[]++F3)∧Rep S w (fun j=>if j=new then some hd2 else ρ j) (.ref new 0 rows2.length) (.slice a0 rows2.length cap) []):=by
  rcases y2 with ⟨rfl,rfl,rfl⟩|⟨b2,off2,arr2,el2,fr2,Fs2,rfl,z2,z3,z4,z5,z6⟩
  ·refine ⟨⟨none,0,k⟩,_,hA.new (F:=[]) hp hnoA (by simp [zAy]) ⟨rfl, .inl ⟨rfl,rfl,rfl⟩⟩ (by simp) (by simp) (by simp), ?_, ?_⟩
   ·simp [Ne.symm hne]
   ·simp only [Rep]
    exact ⟨trivial,⟨none,0,k⟩,a0,0,by simp,by simp,by simp,by simp, .inl rfl⟩
  ·obtain ⟨rfl,z7⟩:=z6
   have hp2:=zEN z5
   refine ⟨⟨some (b2,off2),cap,k⟩,_,hA.new (F:=b2::Fs2) hp hnoA (zCS new hp2) ⟨rfl, .inr ⟨b2,off2,arr2,el2,fr2,Fs2,rfl,z2,z3,z4,z7,zFR z5,rfl⟩⟩ ?_ (fun q hq=>h.mine id ob ho q (hF2 q hq)) hap, ?_, ?_⟩
   ·rw [List.append_assoc] at hnd2
    exact (List.nodup_append.1 (List.nodup_append.1 hnd2).2.1).1
   ·simp [Ne.symm hne]
   ·simp only [Rep]
    exact ⟨trivial,⟨some (b2,off2),cap,k⟩,some ⟨b2,off2,none⟩,cap,by simp,rfl,by simp,z3, .inr ⟨b2,off2,rfl,by simp⟩⟩
 have hob:lk id ((s.re id ⟨ob.k,ob.rows.set i ((ob.rows.getD i []).set c .any)⟩).new new ⟨k,rows2⟩).objs=some ⟨ob.k,ob.rows.set i ((ob.rows.getD i []).set c .any)⟩:=by
  simp [St.new,St.re,lk,hne]
 obtain ⟨hdr,q1,q2,q3⟩:=hB.objs id _ hob
 have hdr':hdr=hd:=by simpa [Ne.symm hne,e1] using q1.symm
 subst hdr'
 have hrow:zAb S w (fun j=>if j=new then some hd2 else ρ j) (fun i=>arr[i]?) off ob.k (ob.rows.set i ((ob.rows.getD i []).set c (.ref new 0 rows2.length))) (F1++[]++F3):=by
  have hr0:zAb S w (fun j=>if j=new then some hd2 else ρ j) (fun i=>arr[i]?) off ob.k (ob.rows.set i ((ob.rows.getD i []).set c .any)) (F1++[]++F3):=
   zHN new (fun j hj=>by simp [hj]) _ (zMH (zEK hno id ob ho (Ne.symm hne)) (by simp [T.noM])) (hput .any [] (by simp [Rep]))
  have hcl:=(List.getElem?_eq_some_iff.1 hc).1
  have hgd:(ob.rows.set i ((ob.rows.getD i []).set c .any)).getD i []=(ob.rows.getD i []).set c .any:=by simp [List.getD,hi]
  obtain ⟨y',G1,G2,G3,u1,u2,u3,u4⟩:=zHx (c:=c) (t:= .any) hr0 (by simpa using hi) (by rw [hgd];exact List.getElem?_set_self hcl)
  rw [y1] at u1
  simp only [Option.some.injEq] at u1
  subst u1
  have hG2:G2=[]:=by simpa [Rep] using u2
  subst hG2
  have:=u4 S w ρ (.ref new 0 rows2.length) [] (fun _ _=>trivial) hrep2.2
  rw [u3]
  simp only [hgd,List.set_set] at this
  exact this
 have hC:=hB.re (F':=b::(F1++[]++F3)) (ob':=⟨ob.k,ob.rows.set i ((ob.rows.getD i []).set c (.ref new 0 rows2.length))⟩) hob (by simp [Ne.symm hne,e1]) (by rw [hrep2.1];exact List.Sublist.refl _)
  ⟨e2, .inr ⟨b,off,arr,el,fr,_,f1,f2,by simpa using f3,f4,f5,hrow,rfl⟩⟩
 have e:s.open1 id i c new ob k rows2=((s.re id ⟨ob.k,ob.rows.set i ((ob.rows.getD i []).set c .any)⟩).new new ⟨k,rows2⟩).re id ⟨ob.k,ob.rows.set i ((ob.rows.getD i []).set c (.ref new 0 rows2.length))⟩:=by
  have hdd:∀ l:List (Nat×Ob),Am.del id (Am.del id l)=Am.del id l:=by
   intro l
   induction l with
   |nil=>rfl
   |cons p l ih=>
    obtain ⟨m,o⟩:=p
    simp only [Am.del]
    split
    ·exact ih
    ·rename_i e;simp only [Am.del,if_neg e,ih]
  simp only [St.open1,St.re,St.new,Am.del,if_neg hne,if_true,hdd]
 rw [e]
 exact ⟨S,_,_,hC⟩
def St.close1 (s:St) (id i c id2:Nat) (ob ob2:Ob):St:=
 ⟨s.slots,(id,⟨ob.k,ob.rows.set i ((ob.rows.getD i []).set c (.sl true ob2.k ob2.rows))⟩)::Am.del id (Am.del id2 s.objs)⟩
theorem zUJ {id i c id2 n:Nat} {ob ob2:Ob} (ho:lk id s.objs=some ob) (hi:i<ob.rows.length) (hc:(ob.rows.getD i [])[c]? =some (.ref id2 0 n)) (ho2:lk id2 s.objs=some ob2) (hn:n=ob2.rows.length) (hpk:zAv ob2.rows) (hne:id2≠id):
  Ent E s (s.close1 id i c id2 ob ob2):=by
 rintro a w ⟨S,ρ,foot,h⟩
 obtain ⟨hd,e1,e2,e3⟩:=h.objs id ob ho
 rcases e3 with ⟨_,e3,_⟩|⟨b,off,arr,el,fr,Fs,f1,f2,f3,f4,f5,f6,f7⟩
 ·rw [e3] at hi;simp at hi
 obtain ⟨y,F1,F2,F3,y1,y2,rfl,hput⟩:=zHx f6 hi hc
 have hput:=fun u G=>hput S w ρ u G (fun _ _=>trivial)
 obtain ⟨hd2,g1,g2,g3⟩:=h.objs id2 ob2 ho2
 simp only [Rep] at y2
 obtain ⟨rfl,hd2',a0,cap,r1,rfl,r3,r4,r5⟩:=y2
 rw [g1] at r1;simp only [Option.some.injEq] at r1;subst r1
 subst hn
 obtain ⟨G,hG,hGs⟩:∃ G,Rep S w ρ (.sl true ob2.k ob2.rows) (.slice a0 ob2.rows.length cap) G∧G.Sublist (foot id2):=by
  simp only [Rep]
  rcases g3 with ⟨g4,g5,g6⟩|⟨b2,off2,arr2,el2,fr2,Fs2,z1,z2,z3,z4,z5,z6,z7⟩
  ·exact ⟨[],⟨a0,cap,rfl, .inl ⟨by omega,g5,rfl⟩⟩,List.nil_sublist _⟩
  ·rcases r5 with r5|⟨b3,off3,r5,rfl⟩
   ·exact ⟨[],⟨a0,cap,rfl, .inl ⟨r5,List.length_eq_zero_iff.1 (by omega),rfl⟩⟩,List.nil_sublist _⟩
   ·rw [z1] at r5;simp only [Option.some.injEq,Prod.mk.injEq] at r5;obtain ⟨rfl,rfl⟩:=r5
    have hcap:cap=hd2.cap:=by omega
    exact ⟨b2::Fs2,⟨_,cap,rfl, .inr ⟨b2,off2,arr2,el2,fr2,Fs2,by simp,z2,r4,by rw [hcap];exact z4,zDX _ hpk z6,rfl,z5⟩⟩,by rw [z7];exact List.Sublist.refl _⟩
 have hnd:=h.nodup id ob ho
 have hnd2:=h.nodup id2 ob2 ho2
 have hap:=h.apart id ob id2 ob2 ho ho2 (Ne.symm hne)
 rw [f7] at hnd hap
 have hsim:=(h.del id2)
 have hFn:(b::(F1++G++F3)).Nodup:=by
  have hGn:G.Nodup:=hGs.nodup hnd2
  have hap':∀ q,q∈b::(F1++[]++F3)→q∉G:=fun q hq hq2=>hap q (by simpa using hq) (hGs.subset hq2)
  simp only [List.append_nil,List.nodup_cons,List.mem_append,List.nodup_append,not_or] at hnd ⊢
  refine ⟨⟨⟨hnd.1.1,fun hb=>hap' b (by simp) hb⟩,hnd.1.2⟩,⟨hnd.2.1,hGn,fun x hx y hy e=>hap' x (by simp [hx]) (e▸hy)⟩,hnd.2.2.1,fun x hx y hy e=> ?_⟩
  rcases hx with hx|hx
  ·exact hnd.2.2.2 x hx y hy e
  ·exact hap' y (by simp [hy]) (e▸hx)
 have hsub:∀ q,q∈b::(F1++G++F3)→q∈foot id∨q∈foot id2:=by
  intro q hq
  simp only [List.mem_cons,List.mem_append] at hq
  rw [f7]
  rcases hq with rfl|(hq|hq)|hq
  ·exact .inl (by simp)
  ·exact .inl (by simp [hq])
  ·exact .inr (hGs.subset hq)
  ·exact .inl (by simp [hq])
 refine ⟨S,ρ,fun j=>if j=id then b::(F1++G++F3) else foot j, ?_⟩
 have hlk:∀ m ob',lk m (s.close1 id i c id2 ob ob2).objs=some ob'→(m=id∧ob'=⟨ob.k,ob.rows.set i ((ob.rows.getD i []).set c (.sl true ob2.k ob2.rows))⟩)∨(m≠id∧m≠id2∧lk m s.objs=some ob'):=by
  intro m ob' hl
  simp only [St.close1,lk] at hl
  split at hl
  ·rename_i e;simp only [Option.some.injEq] at hl;exact .inl ⟨e.symm,hl.symm⟩
  ·rw [zB1,zB1] at hl;exact .inr ⟨hl.1,hl.2.1,hl.2.2⟩
 exact {
  nt:=h.nt,defers:=h.defers,slots:=h.slots
  objs:=fun m ob' hl=>by
   rcases hlk m ob' hl with ⟨rfl,rfl⟩|⟨n1,n2,hl⟩
   ·exact ⟨hd,e1,e2, .inr ⟨b,off,arr,el,fr,F1++G++F3,f1,f2,by simpa using f3,f4,f5,hput _ G hG,by simp⟩⟩
   ·simp only [if_neg n1];exact h.objs m ob' hl
  nodup:=fun m ob' hl=>by
   rcases hlk m ob' hl with ⟨rfl,rfl⟩|⟨n1,n2,hl⟩
   ·simp only [if_true];exact hFn
   ·simp only [if_neg n1];exact h.nodup m ob' hl
  apart:=fun m ob1 n ob2' hl1 hl2 hmn q hq=>by
   rcases hlk m ob1 hl1 with ⟨rfl,rfl⟩|⟨n1,n2,k1⟩
   ·rw [if_pos rfl] at hq
    rcases hlk n ob2' hl2 with ⟨e,_⟩|⟨n3,n4,k2⟩
    ·exact absurd e.symm hmn
    ·rw [if_neg n3]
     rcases hsub q hq with hq|hq
     ·exact h.apart m ob n ob2' ho k2 hmn q hq
     ·exact h.apart id2 ob2 n ob2' ho2 k2 (Ne.symm n4) q hq
   ·rw [if_neg n1] at hq
    rcases hlk n ob2' hl2 with ⟨rfl,rfl⟩|⟨n3,n4,k2⟩
    ·rw [if_pos rfl]
     intro hq2
     rcases hsub q hq2 with hq2|hq2
     ·exact h.apart m ob1 n ob k1 ho hmn q hq hq2
     ·exact h.apart m ob1 id2 ob2 k1 ho2 n2 q hq hq2
    ·rw [if_neg n3];exact h.apart m ob1 n ob2' k1 k2 hmn q hq
  mine:=fun m ob' hl q hq=>by
   rcases hlk m ob' hl with ⟨rfl,rfl⟩|⟨n1,n2,hl⟩
   ·rw [if_pos rfl] at hq
    rcases hsub q hq with hq|hq
    ·exact h.mine m ob ho q hq
    ·exact h.mine id2 ob2 ho2 q hq
   ·rw [if_neg n1] at hq;exact h.mine m ob' hl q hq
  shared:=h.shared,S0:=h.S0,kept:=h.kept,pins:=h.pins }
def St.nil1 (s:St) (id i c k:Nat) (ob:Ob):St:=
 ⟨s.slots,(id,⟨ob.k,ob.rows.set i ((ob.rows.getD i []).set c (.sl true k []))⟩)::Am.del id s.objs⟩
theorem zYn {id i c k:Nat} {ob:Ob} (ho:lk id s.objs=some ob) (hi:i<ob.rows.length) (hc:(ob.rows.getD i [])[c]? =some (.v (.slice none 0 0))):Ent E s (s.nil1 id i c k ob):=by
 rintro a w ⟨S,ρ,foot,h⟩
 obtain ⟨hd,e1,e2,e3⟩:=h.objs id ob ho
 rcases e3 with ⟨_,e3,_⟩|⟨b,off,arr,el,fr,Fs,f1,f2,f3,f4,f5,f6,f7⟩
 ·rw [e3] at hi;simp at hi
 obtain ⟨y,F1,F2,F3,y1,y2,rfl,hput⟩:=zHx f6 hi hc
 simp only [Rep] at y2
 obtain ⟨rfl,rfl⟩:=y2
 refine ⟨S,ρ,_,h.re (F':=b::(F1++[]++F3)) ho e1 (by rw [f7];exact List.Sublist.refl _) ⟨e2, .inr ⟨b,off,arr,el,fr,_,f1,f2,by simpa using f3,f4,f5,hput S w ρ _ [] (fun _ _=>trivial) ?_,rfl⟩⟩⟩
 simp only [Rep]
 exact ⟨none,0,rfl, .inl ⟨rfl,trivial,trivial⟩⟩
def zLU (E:Env) (id i c new k:Nat) (rows2:List (List T)) (r:Prop×St):Option Ob→Prop×St
 |some ob=>((r.1∧E.okd new∧zAk new r.2.objs∧new≠id),r.2.open1 id i c new ob k rows2)
 |none=>(False,r.2)
def zD9 (E:Env) (id i:Nat):Nat→Nat→List T→Prop×St→Prop×St
 |_,_,[],r=>r
 |c,new, .sl true k rows2::ts,r=>zD9 E id i (c+1) (new+1) ts (zLU E id i c new k rows2 r (lk id r.2.objs))
 |c,new,_::ts,r=>zD9 E id i (c+1) new ts r
def zDL (new:Nat):List T→List T
 |[]=>[]
 | .sl true _ rows2::ts=> .ref new 0 rows2.length::zDL (new+1) ts
 |t::ts=>t::zDL new ts
theorem zHW:∀ (ts:List T) (new:Nat),(zDL new ts).length=ts.length
 |[],_=>rfl
 |t::ts,new=>by
  unfold zDL
  split
  ·rename_i h;cases h
  ·rename_i h;cases h;simp [zHW]
  ·rename_i h;cases h;simp [zHW]
structure Opn (E:Env) (s:St) (id i:Nat) (len:Nat) (c:Nat) (ts:List T) (s':St):Prop where
 ent:Ent E s s'
 ob:∃ ob,lk id s'.objs=some ob∧i<ob.rows.length∧(ob.rows.getD i []).length=len∧∀ n t,ts[n]? =some t→(ob.rows.getD i [])[c+n]? =some t
 slots:∀ n t,lk n s.slots=some t→(∃ o,t= .ptr id i o)→lk n s'.slots=some t
theorem zJ5 {d n:Nat} {t:T}:∀ {l:List (Nat×T)},lk n l=some t→t.noM d→lk n (kill d l)=some t
 |[],h,_=>by simp [lk] at h
 |(m,u)::r,h,ht=>by
  simp only [kill,lk] at h ⊢
  split at h
  ·rename_i e
   simp only [Option.some.injEq] at h
   subst h
   rw [if_pos e,(T.noMb_iff d u).2 ht,cond_true]
  ·rename_i e;rw [if_neg e];exact zJ5 h ht
theorem zN0 {id i len c new k:Nat} {rows2:List (List T)} {ts:List T} {r:Prop×St} (h:r.1→Opn E s id i len c (.sl true k rows2::ts) r.2) {o:Option Ob} (ho:o=lk id r.2.objs) (hc:(zLU E id i c new k rows2 r o).1):
  r.1∧Opn E s id i len (c+1) ts (zLU E id i c new k rows2 r o).2∧∃ ob,lk id (zLU E id i c new k rows2 r o).2.objs=some ob∧(ob.rows.getD i [])[c]? =some (.ref new 0 rows2.length):=by
 cases o with
 |none=>exact hc.elim
 |some ob=>
  obtain ⟨h1,h2,h3,h4⟩:=hc
  obtain ⟨he,⟨ob',o1,o2,o3,o4⟩,hs⟩:=h h1
  rw [o1] at ho;simp only [Option.some.injEq] at ho;subst ho
  have hcell:=o4 0 _ rfl
  rw [Nat.add_zero] at hcell
  have hcl:=(List.getElem?_eq_some_iff.1 hcell).1
  have hg:(ob.rows.set i ((ob.rows.getD i []).set c (.ref new 0 rows2.length))).getD i []=(ob.rows.getD i []).set c (.ref new 0 rows2.length):=by simp [List.getD,o2]
  have hl:lk id (r.2.open1 id i c new ob k rows2).objs=some ⟨ob.k,ob.rows.set i ((ob.rows.getD i []).set c (.ref new 0 rows2.length))⟩:=by simp [St.open1,lk]
  refine ⟨h1,⟨he.trans (zWt o1 o2 hcell h2 h3 h4),⟨_,hl,by simpa using o2,by simp only [hg,List.length_set];exact o3,fun n t hn=> ?_⟩,fun n t hn ht=> ?_⟩,_,hl,by simp only [hg];exact List.getElem?_set_self hcl⟩
  ·simp only [hg]
   rw [List.getElem?_set_ne (by omega)]
   have:=o4 (n+1) t (by simpa using hn)
   rwa [show c+(n+1)=c+1+n from by omega] at this
  ·have:=hs n t hn ht
   obtain ⟨q,rfl⟩:=ht
   exact zJ5 this (by simpa [T.noM] using Ne.symm h4)
theorem zKY:∀ {ts:List T} {id i len c new:Nat} {r:Prop×St},(r.1→Opn E s id i len c ts r.2)→(zD9 E id i c new ts r).1→
  r.1∧Ent E s (zD9 E id i c new ts r).2∧(∀ n t,lk n s.slots=some t→(∃ o,t= .ptr id i o)→lk n (zD9 E id i c new ts r).2.slots=some t)∧
   ∃ ob,lk id (zD9 E id i c new ts r).2.objs=some ob∧i<ob.rows.length∧(ob.rows.getD i []).length=len∧(∀ n t,(zDL new ts)[n]? =some t→(ob.rows.getD i [])[c+n]? =some t)∧
    ∀ ob0,lk id r.2.objs=some ob0→∀ n,n<c→(ob.rows.getD i [])[n]? =(ob0.rows.getD i [])[n]?
 |[],id,i,len,c,new,r,h,hc=>by
  simp only [zD9] at hc ⊢
  obtain ⟨he,⟨ob,o1,o2,o3,o4⟩,hs⟩:=h hc
  exact ⟨hc,he,hs,ob,o1,o2,o3,fun n t hn=>by simp [zDL] at hn,fun ob0 h0 n _=>by rw [o1] at h0;simp only [Option.some.injEq] at h0;rw [h0]⟩
 |t::ts,id,i,len,c,new,r,h,hc=>by
  by_cases ht:∃ k rows2,t= .sl true k rows2
  ·obtain ⟨k,rows2,rfl⟩:=ht
   simp only [zD9] at hc ⊢
   have ih:=zKY (r:=zLU E id i c new k rows2 r (lk id r.2.objs)) (fun hq=>(zN0 h rfl hq).2.1) hc
   obtain ⟨j1,j2,j3,ob,j4,j5,j6,j7,j8⟩:=ih
   obtain ⟨l1,l2,obm,l3,l4⟩:=zN0 h rfl j1
   refine ⟨l1,j2,j3,ob,j4,j5,j6,fun n u hn=> ?_,fun ob0 h0 n hn=> ?_⟩
   ·simp only [zDL] at hn
    cases n with
    |zero=>
     simp only [List.getElem?_cons_zero,Option.some.injEq] at hn
     subst hn
     rw [Nat.add_zero,j8 obm l3 c (by omega)]
     exact l4
    |succ n=>
     have:=j7 n u (by simpa using hn)
     rwa [show c+1+n=c+(n+1) from by omega] at this
   ·rw [j8 obm l3 n (by omega)]
    rw [h0] at l3
    have h1:=(zN0 h rfl j1).1
    obtain ⟨_,⟨ob',o1,o2,o3,o4⟩,_⟩:=h h1
    rw [h0] at o1;simp only [Option.some.injEq] at o1;subst o1
    simp only [zLU,St.open1,lk,if_true,Option.some.injEq] at l3
    subst l3
    have hg:(ob0.rows.set i ((ob0.rows.getD i []).set c (.ref new 0 rows2.length))).getD i []=(ob0.rows.getD i []).set c (.ref new 0 rows2.length):=by simp [List.getD,o2]
    simp only [hg]
    rw [List.getElem?_set_ne (by omega)]
  ·have e1:∀ r,zD9 E id i c new (t::ts) r=zD9 E id i (c+1) new ts r:=by
    intro r
    cases t with
    |sl o k rows=>cases o with
     |true=>exact absurd ⟨_,_,rfl⟩ ht
     |false=>simp only [zD9]
    |_=>simp only [zD9]
   have e2:zDL new (t::ts)=t::zDL new ts:=by
    cases t with
    |sl o k rows=>cases o with
     |true=>exact absurd ⟨_,_,rfl⟩ ht
     |false=>simp only [zDL]
    |_=>simp only [zDL]
   rw [e1] at hc ⊢
   rw [e2]
   have ih:=zKY (ts:=ts) (c:=c+1) (len:=len) (new:=new) (r:=r) (fun hq=>by
    obtain ⟨he,⟨ob,o1,o2,o3,o4⟩,hs⟩:=h hq
    exact ⟨he,⟨ob,o1,o2,o3,fun n u hn=>by
     have:=o4 (n+1) u (by simpa using hn)
     rwa [show c+(n+1)=c+1+n from by omega] at this⟩,hs⟩) hc
   obtain ⟨j1,j2,j3,ob,j4,j5,j6,j7,j8⟩:=ih
   refine ⟨j1,j2,j3,ob,j4,j5,j6,fun n u hn=> ?_,fun ob0 h0 n hn=>j8 ob0 h0 n (by omega)⟩
   cases n with
   |zero=>
    simp only [List.getElem?_cons_zero,Option.some.injEq] at hn
    subst hn
    obtain ⟨_,⟨ob',o1,o2,o3,o4⟩,_⟩:=h j1
    rw [Nat.add_zero,j8 ob' o1 c (by omega)]
    exact o4 0 t rfl
   |succ n=>
    have:=j7 n u (by simpa using hn)
    rwa [show c+1+n=c+(n+1) from by omega] at this
def ldE (E:Env) (s:St) (d:Nat) (m:Option Nat) (id i o:Nat) (len:Prop) (row:List T):Option (Prop×St):=
 (zBE m (zDL (bif m.isNone then d else 1000*(d+1)) row)).map fun t=>(fun r:Prop×St=>((r.1∧(zDL (bif m.isNone then d else 1000*(d+1)) row).all T.bare=true),r.2.set d t)) (zD9 E id i o (bif m.isNone then d else 1000*(d+1)) row (len,s))
theorem zAbJ {d:Nat} {g:Option (Nat×Bool)} {m:Option Nat} {x:Operand} {K:St→Prop} {id i o:Nat} {ob:Ob} {p:Prop} {s':St} (hx:s.eval x=some (.ptr id i o)) (ho:lk id s.objs=some ob) (h:ldE E s d m id i o (i<ob.rows.length) (zAS m ((ob.rows.getD i []).drop o))=some (p,s')) (hp:p) (hK:K s'):
  zAn P E ⟨some d,g, .load m x⟩ K s:=by
 unfold ldE at h
 simp only [Option.map_eq_some_iff,Prod.mk.injEq] at h
 obtain ⟨t,ht,rfl,rfl⟩:=h
 obtain ⟨hp,hbare⟩:=hp
 have hget:∀ n u,(zAS m ((ob.rows.getD i []).drop o))[n]? =some u→(ob.rows.getD i [])[o+n]? =some u:=by
  intro n u hn
  unfold zAS at hn
  rw [List.getElem?_take] at hn
  split at hn
  ·rwa [List.getElem?_drop] at hn
  ·cases hn
 obtain ⟨j1,j2,j3,ob',j4,j5,j6,j7,j8⟩:=zKY (s:=s) (len:=(ob.rows.getD i []).length) (r:=(i<ob.rows.length,s)) (fun hq=>⟨Ent.refl s,⟨ob,ho,hq,rfl,hget⟩,fun _ _ h _=>h⟩) hp
 refine zLh j2 ?_
 have hx':(zD9 E id i o (bif m.isNone then d else 1000*(d+1)) (zAS m ((ob.rows.getD i []).drop o)) (i<ob.rows.length,s)).2.eval x=some (.ptr id i o):=by
  cases x with
  |tmp n=>exact j3 n _ hx ⟨o,rfl⟩
  |const v=>simp only [St.eval,Option.some.injEq] at hx ⊢;exact hx
  |func f=>simp [St.eval] at hx
  |global g=>simp [St.eval] at hx
 have hrow:zAS m ((ob'.rows.getD i []).drop o)=zDL (bif m.isNone then d else 1000*(d+1)) (zAS m ((ob.rows.getD i []).drop o)):=by
  apply List.ext_getElem?
  intro n
  have hl:=zHW (zAS m ((ob.rows.getD i []).drop o)) (bif m.isNone then d else 1000*(d+1))
  by_cases hn:n<(zAS m ((ob.rows.getD i []).drop o)).length
  ·have h1:=List.getElem?_eq_getElem (l:=zDL (bif m.isNone then d else 1000*(d+1)) (zAS m ((ob.rows.getD i []).drop o))) (i:=n) (by omega)
   rw [h1]
   have:=j7 n _ h1
   unfold zAS at hn ⊢
   rw [List.getElem?_take,if_pos (by simp at hn;omega),List.getElem?_drop]
   exact this
  ·rw [List.getElem?_eq_none (l:=zDL _ _) (by omega)]
   apply List.getElem?_eq_none
   unfold zAS at hn ⊢
   simp only [List.length_take,List.length_drop] at hn ⊢
   omega
 refine zS7 (i:=⟨some d,g, .load m x⟩) (p:=i<ob'.rows.length) (t:=t) ?_ j5 hK
 simp only [zAe,hx',j4,hrow,ldT,hbare,cond_true,ht,Option.map_some]
def cls3 (id i c id2 lo n:Nat) (r:Prop×St) (ob:Ob):Option Ob→Prop×St
 |some ob2=>((r.1∧i<ob.rows.length∧lo=0∧n=ob2.rows.length∧zAv ob2.rows∧id2≠id),r.2.close1 id i c id2 ob ob2)
 |none=>r
def zYo (id i c k:Nat) (r:Prop×St) (ob:Ob):Option T→Prop×St
 |some (.ref id2 lo n)=>cls3 id i c id2 lo n r ob (lk id2 r.2.objs)
 |some (.v (.slice none 0 0))=>((r.1∧i<ob.rows.length),r.2.nil1 id i c k ob)
 |_=>r
def zQ3 (id i c k:Nat) (r:Prop×St):Option Ob→Prop×St
 |some ob=>zYo id i c k r ob ((ob.rows.getD i [])[c]?)
 |none=>r
def zJ6 (id i:Nat):List (Nat×Nat)→Prop×St→Prop×St
 |[],r=>r
 |(c,k)::cs,r=>zJ6 id i cs (zQ3 id i c k r (lk id r.2.objs))
def zLV (id i:Nat) (cs:List (Nat×Nat)):Nat→Prop×St→Prop×St
 |0,r=>r
 |m+1,r=>zLV id (i+1) cs m (zJ6 id i cs r)
def zN1 (m:Nat) (cs:List (Nat×Nat)) (r:Prop×St):Option T→Prop×St
 |some (.ptr id i _)=>zJ6 id i cs r
 |some (.ref id lo n)=>zLV id (lo+n-m) cs m r
 |_=>r
theorem zQ4 {id i c k:Nat} {r:Prop×St} (h:r.1→Ent E s r.2) (hc:(zQ3 id i c k r (lk id r.2.objs)).1):r.1∧Ent E s (zQ3 id i c k r (lk id r.2.objs)).2:=by
 cases ho:lk id r.2.objs with
 |none=>rw [ho] at hc;exact ⟨hc,h hc⟩
 |some ob=>
  rw [ho] at hc
  simp only [zQ3] at hc ⊢
  cases hcell:(ob.rows.getD i [])[c]? with
  |none=>rw [hcell] at hc;exact ⟨hc,h hc⟩
  |some t=>
   rw [hcell] at hc
   unfold zYo at hc ⊢
   split
   ·rename_i id2 lo n he
    simp only [Option.some.injEq] at he;subst he
    simp only at hc
    cases ho2:lk id2 r.2.objs with
    |none=>rw [ho2] at hc;exact ⟨hc,h hc⟩
    |some ob2=>
     rw [ho2] at hc
     obtain ⟨h1,h2,rfl,h3,h4,h5⟩:=hc
     exact ⟨h1,(h h1).trans (zUJ ho h2 hcell ho2 h3 h4 h5)⟩
   ·rename_i he
    simp only [Option.some.injEq] at he;subst he
    simp only at hc
    exact ⟨hc.1,(h hc.1).trans (zYn ho hc.2 hcell)⟩
   ·rename_i h1 h2
    split at hc
    ·rename_i he;simp only [Option.some.injEq] at he;exact absurd (by rw [he]) (h1 _ _ _)
    ·rename_i he;simp only [Option.some.injEq] at he;exact absurd (by rw [he]) h2
    ·exact ⟨hc,h hc⟩
theorem zIU {id i:Nat}:∀ {cs:List (Nat×Nat)} {r:Prop×St},(r.1→Ent E s r.2)→(zJ6 id i cs r).1→r.1∧Ent E s (zJ6 id i cs r).2
 |[],r,h,hc=>by simp only [zJ6] at hc ⊢;exact ⟨hc,h hc⟩
 |(c,k)::cs,r,h,hc=>by
  simp only [zJ6] at hc ⊢
  have:=zIU (fun hq=>(zQ4 h hq).2) hc
  exact ⟨(zQ4 h this.1).1,this.2⟩
theorem zQ5 {id:Nat} {cs:List (Nat×Nat)}:∀ {m i:Nat} {r:Prop×St},(r.1→Ent E s r.2)→(zLV id i cs m r).1→r.1∧Ent E s (zLV id i cs m r).2
 |0,i,r,h,hc=>by simp only [zLV] at hc ⊢;exact ⟨hc,h hc⟩
 |m+1,i,r,h,hc=>by
  simp only [zLV] at hc ⊢
  have:=zQ5 (fun hq=>(zIU h hq).2) hc
  exact ⟨(zIU h this.1).1,this.2⟩
theorem zIV {m:Nat} {cs:List (Nat×Nat)} {o:Option T} {r:Prop×St} (h:r.1→Ent E s r.2) (hc:(zN1 m cs r o).1):r.1∧Ent E s (zN1 m cs r o).2:=by
 unfold zN1 at hc ⊢
 split
 ·exact zIU h hc
 ·exact zQ5 h hc
 ·rename_i h1 h2
  split at hc
  ·exact absurd rfl (h1 _ _ _)
  ·exact absurd rfl (h2 _ _ _)
  ·exact ⟨hc,h hc⟩
end
end Go.Am

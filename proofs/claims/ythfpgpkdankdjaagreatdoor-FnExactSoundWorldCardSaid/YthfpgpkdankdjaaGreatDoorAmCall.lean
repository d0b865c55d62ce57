import Derived.Test.YthfpgpkdankdjaaGreatDoorAmApp
set_option linter.all false
namespace Go.Am
open Go Go.RowKit
structure Back (w:World) (S0:Nat→Prop) (F:List Nat) (vs:Array Value) (rv:Value) (w':World) (r:T) (args':List T) (S':Nat→Prop) (Fr Fa:List Nat):Prop where
 res:Rep S' w' noH r rv Fr
 args:RepRow S' w' noH (fun i=>vs[i]?) 0 args' Fa
 nodup:(Fr++Fa).Nodup
 mine:∀ b,b∈Fr++Fa→¬ S' b∧b<w'.heap.size∧(b∈F∨w.heap.size≤b)
 shared:∀ b,S' b→b<w'.heap.size∧(S0 b∨b∈F∨w.heap.size≤b)
 S0:∀ b,S0 b→S' b
 kept:Kept F w w'
def ACall (P:Program) (f:Nat) (args:List T) (R:T→List T→Prop):Prop:=
 ∀ (w:World) (S0:Nat→Prop) (F:List Nat) (vs:Array Value),vs.size=args.length→RepRow S0 w noH (fun i=>vs[i]?) 0 args F→F.Nodup→(∀ b,b∈F→¬ S0 b∧b<w.heap.size)→(∀ b,S0 b→b<w.heap.size)→Inv w S0→
  Calls P f vs w fun e w'=>∃ rv r args' S' Fr Fa,e= .returned rv∧R r args'∧args'.length=args.length∧Back w S0 F vs rv w' r args' S' Fr Fa
theorem ACall.mono {P:Program} {f:Nat} {args:List T} {R R':T→List T→Prop} (h:ACall P f args R) (hR:∀ r l,R r l→R' r l):ACall P f args R':=
 fun w S0 F vs h1 h2 h3 h4 h5 h6=>(h w S0 F vs h1 h2 h3 h4 h5 h6).mono fun _ _ ⟨rv,r,l,S',Fr,Fa,q1,q2,q3,q4⟩=>⟨rv,r,l,S',Fr,Fa,q1,hR _ _ q2,q3,q4⟩
def zAt (s:St) (id:Nat):T→St×T×Nat
 | .sl true k rows=>(s.new id ⟨k,rows⟩, .ref id 0 rows.length,id+1)
 | .bo true row o=>(s.new id ⟨row.length,[row]⟩, .ptr id 0 o,id+1)
 |t=>(s,t,id)
def zBd (s:St) (id:Nat):List T→St×List T×Nat
 |[]=>(s,[],id)
 |t::ts=>
  let r:=zAt s id t
  let q:=zBd r.1 r.2.2 ts
  (q.1,r.2.1::q.2.1,q.2.2)
def zCC (s:St) (id:Nat):T→St×T×Nat
 | .agg row=>
  let q:=zBd s id row
  (q.1, .agg q.2.1,q.2.2)
 |t=>zAt s id t
def zBh (s:St) (id:Nat):List T→St×List T×Nat
 |[]=>(s,[],id)
 |t::ts=>
  let r:=zCC s id t
  let q:=zBh r.1 r.2.2 ts
  (q.1,r.2.1::q.2.1,q.2.2)
def T.okLeaf:T→Bool
 | .sl true _ _=>true
 | .bo true _ _=>true
 |t=>t.bare
def T.okT:T→Bool
 | .agg row=>row.all T.okLeaf
 |t=>t.okLeaf
def St.unp (s:St) (d:Nat) (t:T):St:=
 match t with
 | .tup l=>let q:=zBh s (1000*(d+1)) l;q.1.set d (.tup q.2.1)
 | .agg row=>let q:=zBd s (1000*(d+1)) row;q.1.set d (.agg q.2.1)
 |t=>let q:=zAt s d t;q.1.set d q.2.1
def zUA:T→Nat
 | .agg row=>row.length
 |_=>1
def zNR:List T→Nat
 |[]=>0
 |t::ts=>zUA t+zNR ts
theorem zMA (s:St) (id:Nat) (t:T):(zAt s id t).2.2≤id+1:=by
 unfold zAt;split<;>simp
theorem zGu (s:St) (id:Nat) (t:T):id≤(zAt s id t).2.2:=by
 unfold zAt;split<;>simp
theorem zJT:∀ (row:List T) (s:St) (id:Nat),id≤(zBd s id row).2.2
 |[],s,id=>by simp [zBd]
 |t::ts,s,id=>by
  have h1:=zGu s id t
  have h2:=zJT ts (zAt s id t).1 (zAt s id t).2.2
  simp only [zBd];omega
theorem zAap (s:St) (id:Nat) (t:T):id≤(zCC s id t).2.2:=by
 unfold zCC
 split
 ·exact zJT _ _ _
 ·exact zGu _ _ _
theorem zO8:∀ (row:List T) (s:St) (id:Nat),id≤(zBh s id row).2.2
 |[],s,id=>by simp [zBh]
 |t::ts,s,id=>by
  have h1:=zAap s id t
  have h2:=zO8 ts (zCC s id t).1 (zCC s id t).2.2
  simp only [zBh];omega
theorem zJU:∀ (row:List T) (s:St) (id:Nat),(zBd s id row).2.2≤id+row.length
 |[],s,id=>by simp [zBd]
 |t::ts,s,id=>by
  have h1:=zMA s id t
  have h2:=zJU ts (zAt s id t).1 (zAt s id t).2.2
  simp only [zBd,List.length_cons];omega
theorem zAaq (s:St) (id:Nat) (t:T):(zCC s id t).2.2≤id+zUA t:=by
 unfold zCC
 split
 ·exact zJU _ _ _
 ·rename_i h
  have:zUA t=1:=by cases t<;>first|rfl|exact absurd rfl (h _)
  rw [this];exact zMA _ _ _
theorem zO9:∀ (row:List T) (s:St) (id:Nat),(zBh s id row).2.2≤id+zNR row
 |[],s,id=>by simp [zBh]
 |t::ts,s,id=>by
  have h1:=zAaq s id t
  have h2:=zO9 ts (zCC s id t).1 (zCC s id t).2.2
  simp only [zBh,zNR];omega
def zIN (s:St) (d:Nat) (t:T):Prop:=
 match t with
 | .tup l=>l.all T.okT=true∧zNR l≤1000∧∀ i,1000*(d+1)≤i→i<1000*(d+1)+1000→zAk i s.objs
 | .agg row=>row.all T.okLeaf=true∧row.length≤1000∧∀ i,1000*(d+1)≤i→i<1000*(d+1)+1000→zAk i s.objs
 | .sl true _ _=>zAk d s.objs
 | .bo true _ _=>zAk d s.objs
 |t=>t.bare=true
section
variable {P:Program} {E:Env} {s:St} {a:Act} {w:World} {S:Nat→Prop} {ρ:Nat→Option Hd} {foot:Nat→List Nat} {o:Oper}
structure Free (E:Env) (s:St) (w:World) (S:Nat→Prop) (foot:Nat→List Nat) (F:List Nat):Prop where
 nodup:F.Nodup
 mine:∀ b,b∈F→¬ S b∧b<w.heap.size∧(b∈E.F0∨E.w0.heap.size≤b)
 apart:∀ d ob,lk d s.objs=some ob→∀ b,b∈F→b∉foot d
theorem Free.sub {F G:List Nat} (h:Free E s w S foot F) (hs:G.Sublist F):Free E s w S foot G:=⟨hs.nodup h.nodup,fun b hb=>h.mine b (hs.subset hb),fun d ob hl b hb=>h.apart d ob hl b (hs.subset hb)⟩
theorem zJu {t:T} {y:Value} {F:List Nat} (h:Rep S w noH t y F):t.packed:=by
 refine T.rec (motive_1:=fun t=>∀ y F,Rep S w noH t y F→t.packed) (motive_2:=fun l=>∀ cell o F,RepRow S w noH cell o l F→zAA l)
  (motive_3:=fun _=>True) ?_ ?_ ?_ ?_ ?_ ?_ ?_ ?_ ?_ ?_ ?_ ?_ ?_ t y F h
 ·intros;simp [T.packed]
 ·intros;simp [T.packed]
 ·intro row ih y F h;simp only [Rep,T.packed] at h ⊢;obtain ⟨cs,_,_,h⟩:=h;exact ih _ _ _ h
 ·intro row ih y F h;simp only [Rep,T.packed] at h ⊢;obtain ⟨cs,_,_,h⟩:=h;exact ih _ _ _ h
 ·intros;simp [T.packed]
 ·intros;simp [T.packed]
 ·intro id lo n y F h;simp [Rep,noH] at h
 ·intro id lo n y F h;simp [Rep,noH] at h
 ·intro f row ih y F h;simp only [Rep,T.packed] at h ⊢;obtain ⟨cs,_,_,h⟩:=h;exact ih _ _ _ h
 ·intros;simp [zAA]
 ·intro t ts ih1 ih2 cell o F h
  simp only [RepRow,zAA] at h ⊢
  obtain ⟨y,F1,F2,_,h1,h2,_⟩:=h
  exact ⟨ih1 _ _ h1,ih2 _ _ _ h2⟩
 ·trivial
 ·intros;trivial
theorem zFm {cell:Nat→Option Value}:∀ {l:List T} {b:Nat} {F:List Nat},RepRow S w noH cell b l F→zAA l
 |[],_,_,_=>by simp [zAA]
 |t::ts,b,F,h=>by
  simp only [RepRow] at h
  obtain ⟨y,F1,F2,_,h1,h2,_⟩:=h
  simp only [zAA]
  exact ⟨zJu h1,zFm h2⟩
mutual
theorem zJv (d:Nat):∀ {t:T},t.packed→t.noM d
 | .ref _ _ _,h=>by simp [T.packed] at h
 | .ptr _ _ _,h=>by simp [T.packed] at h
 | .agg row,h=>by simp only [T.packed,T.noM] at h ⊢;exact zB2 d h
 | .tup l,h=>by simp only [T.packed,T.noM] at h ⊢;exact zB2 d h
 | .fn _ caps,h=>by simp only [T.packed,T.noM] at h ⊢;exact zB2 d h
 | .any,_=>by simp [T.noM]
 | .v _,_=>by simp [T.noM]
 | .sl _ _ _,_=>by simp [T.noM]
 | .bo _ _ _,_=>by simp [T.noM]
theorem zB2 (d:Nat):∀ {l:List T},zAA l→zAD d l
 |[],_=>by simp [zAD]
 |t::ts,h=>by simp only [zAA,zAD] at h ⊢;exact ⟨zJv d h.1,zB2 d h.2⟩
end
theorem zEN {cell:Nat→Option Value} {k:Nat}:∀ {l:List (List T)} {b:Nat} {F:List Nat},zAb S w noH cell b k l F→zAv l
 |[],_,_,_=>by simp [zAv]
 |r::rs,b,F,h=>by
  simp only [zAb] at h
  obtain ⟨F1,F2,_,h1,h2,_⟩:=h
  intro x hx
  rcases List.mem_cons.1 hx with rfl|hx
  ·exact zFm h1
  ·exact zEN h2 x hx
theorem zCS (d:Nat) {l:List (List T)} (h:zAv l):zAy d l:=fun r hr=>zB2 d (h r hr)
theorem zFR {cell:Nat→Option Value} {k:Nat}:∀ {l:List (List T)} {b:Nat} {F:List Nat},zAb S w noH cell b k l F→zAb S w ρ cell b k l F
 |[],b,F,h=>by simpa [zAb] using h
 |t::ts,b,F,h=>by
  simp only [zAb] at h ⊢
  obtain ⟨F1,F2,h0,h1,h2,rfl⟩:=h
  exact ⟨F1,F2,h0,zDY h1,zFR h2,rfl⟩
theorem zHU {i id:Nat} {k:Nat} {rows:List (List T)} {s:St} (h:zAk i s.objs) (hp:zAv rows):zAk i (s.new id ⟨k,rows⟩).objs:=by
 simp only [St.new,zAk]
 exact ⟨.inr (zCS i hp),h⟩
structure LeafOut (E:Env) (s s':St) (a:Act) (w:World) (S:Nat→Prop) (ρ ρ':Nat→Option Hd) (foot foot':Nat→List Nat) (id id':Nat) (F:List Nat):Prop where
 sim:SimX E s' a w S ρ' foot'
 le:id≤id'
 free:∀ G,Free E s w S foot (F++G)→Free E s' w S foot' G
 nom:∀ i,id'≤i→zAk i s.objs→zAk i s'.objs
 rho:∀ i,¬ (id≤i∧i<id')→ρ' i=ρ i
 nt:True
theorem zIO (h:SimX E s a w S ρ foot) {id:Nat} {t:T} {y:Value} {F:List Nat} (hr:Rep S w noH t y F) (hf:Free E s w S foot F) (hok:t.okLeaf=true) (hpi:E.okd id∨(zAt s id t).2.2=id) (hno:zAk id s.objs∨(zAt s id t).2.2=id):
  ∃ ρ' foot',LeafOut E s (zAt s id t).1 a w S ρ ρ' foot foot' id (zAt s id t).2.2 F∧Rep S w ρ' (zAt s id t).2.1 y []∧∀ d,¬ (zAt s id t).2.1.noM d→id≤d∧d<(zAt s id t).2.2:=by
 have stay:t.bare=true→(zAt s id t)=(s,t,id)→∃ ρ' foot',LeafOut E s (zAt s id t).1 a w S ρ ρ' foot foot' id (zAt s id t).2.2 F∧Rep S w ρ' (zAt s id t).2.1 y []∧∀ d,¬ (zAt s id t).2.1.noM d→id≤d∧d<(zAt s id t).2.2:=by
  intro hb he
  rw [he]
  have:=zQJ hb hr
  subst this
  exact ⟨ρ,foot,⟨h,Nat.le_refl _,fun G hG=>by simpa using hG,fun _ _ h=>h,fun _ _=>rfl,trivial⟩,zS5 hr,fun d hd=>absurd (zJv d (zJu hr)) hd⟩
 cases t with
 |sl own k rows=>
  cases own with
  |false=>exact stay rfl rfl
  |true=>
   simp only [Rep] at hr
   obtain ⟨a0,cap,rfl,hr⟩:=hr
   have hno':zAk id s.objs:=hno.resolve_right (by simp [zAt])
   have hpi':E.okd id:=hpi.resolve_right (by simp [zAt])
   rcases hr with ⟨hc,hrows,hF⟩|⟨b,off,arr,el,fr,Fs,rfl,f2,f3,f4,f5,f6⟩
   ·subst hc hrows hF
    have h5:=h.new (d:=id) (ob:=⟨k,[]⟩) (hd:=⟨none,0,k⟩) (F:=[]) hpi' hno' (by simp [zAy]) ⟨rfl, .inl ⟨rfl,rfl,rfl⟩⟩ (by simp) (by simp) (by simp)
    refine ⟨_,_,⟨h5,by simp [zAt],fun G hG=>⟨by simpa using hG.nodup,by simpa using hG.mine,fun d ob hl b hb=> ?_⟩,fun i _ hi=>zHU hi (by simp [zAv]),fun i hi=>by simp [zAt] at hi;rw [if_neg (by omega)],trivial⟩, ?_⟩
    ·simp only [zAt,St.new,lk] at hl
     split
     ·simp
     ·rename_i e;rw [if_neg (Ne.symm e)] at hl;exact hG.apart d ob hl b (by simpa using hb)
    ·simp only [zAt,Rep]
     exact ⟨⟨trivial,⟨none,0,k⟩,a0,0,by simp,by simp,by simp,by simp, .inl rfl⟩,fun d hd=>by simp [T.noM] at hd;subst hd;simp⟩
   ·obtain ⟨rfl,f7⟩:=f6
    have hp:=zEN f5
    have h5:=h.new (d:=id) (ob:=⟨k,rows⟩) (hd:=⟨some (b,off),cap,k⟩) (F:=b::Fs) hpi' hno' (zCS id hp) ⟨rfl, .inr ⟨b,off,arr,el,fr,Fs,rfl,f2,f3,f4,f7,zFR f5,rfl⟩⟩ hf.nodup hf.mine (fun d' ob' hl _=>hf.apart d' ob' hl)
    refine ⟨_,_,⟨h5,by simp [zAt],fun G hG=>⟨(List.nodup_append.1 hG.nodup).2.1,fun c hc=>hG.mine c (List.mem_append_right _ hc),fun d ob hl c hc=> ?_⟩,fun i _ hi=>zHU hi hp,fun i hi=>by simp [zAt] at hi;rw [if_neg (by omega)],trivial⟩, ?_⟩
    ·simp only [zAt,St.new,lk] at hl
     split
     ·exact fun hc2=>(List.nodup_append.1 hG.nodup).2.2 c hc2 c hc rfl
     ·rename_i e;rw [if_neg (Ne.symm e)] at hl;exact hG.apart d ob hl c (List.mem_append_right _ hc)
    ·simp only [zAt,Rep]
     exact ⟨⟨trivial,⟨some (b,off),cap,k⟩,some ⟨b,off,none⟩,cap,by simp,rfl,by simp,f3, .inr ⟨b,off,rfl,by simp⟩⟩,fun d hd=>by simp [T.noM] at hd;subst hd;simp⟩
 |bo own row q=>
  cases own with
  |false=>exact stay rfl rfl
  |true=>
   simp only [Rep] at hr
   obtain ⟨b,off,arr,el,fr,Fs,rfl,f2,f3,f5,f6⟩:=hr
   have hno':zAk id s.objs:=hno.resolve_right (by simp [zAt])
   have hpi':E.okd id:=hpi.resolve_right (by simp [zAt])
   obtain ⟨rfl,f7⟩:=f6
   have hp:zAv [row]:=by intro r hr;simp at hr;subst hr;exact zFm f5
   have h5:=h.new (d:=id) (ob:=⟨row.length,[row]⟩) (hd:=⟨some (b,off),1,row.length⟩) (F:=b::Fs) hpi' hno' (zCS id hp) ⟨rfl, .inr ⟨b,off,arr,el,fr,Fs,rfl,f2,by simp,by simpa using f3,f7,by
    simp only [zAb]
    exact ⟨Fs,[],by simp,zDY f5,by simp,by simp⟩,rfl⟩⟩ hf.nodup hf.mine (fun d' ob' hl _=>hf.apart d' ob' hl)
   refine ⟨_,_,⟨h5,by simp [zAt],fun G hG=>⟨(List.nodup_append.1 hG.nodup).2.1,fun c hc=>hG.mine c (List.mem_append_right _ hc),fun d ob hl c hc=> ?_⟩,fun i _ hi=>zHU hi hp,fun i hi=>by simp [zAt] at hi;rw [if_neg (by omega)],trivial⟩, ?_⟩
   ·simp only [zAt,St.new,lk] at hl
    split
    ·exact fun hc2=>(List.nodup_append.1 hG.nodup).2.2 c hc2 c hc rfl
    ·rename_i e;rw [if_neg (Ne.symm e)] at hl;exact hG.apart d ob hl c (List.mem_append_right _ hc)
   ·simp only [zAt,Rep]
    exact ⟨⟨trivial,⟨some (b,off),1,row.length⟩,b,off,by simp,rfl,by simp⟩,fun d hd=>by simp [T.noM] at hd;subst hd;simp⟩
 |_=>exact stay hok rfl
theorem LeafOut.trans {s s1 s2:St} {ρ1 ρ2:Nat→Option Hd} {foot1 foot2:Nat→List Nat} {id id1 id2:Nat} {F1 F2:List Nat} (h1:LeafOut E s s1 a w S ρ ρ1 foot foot1 id id1 F1) (h2:LeafOut E s1 s2 a w S ρ1 ρ2 foot1 foot2 id1 id2 F2):LeafOut E s s2 a w S ρ ρ2 foot foot2 id id2 (F1++F2) where
 sim:=h2.sim
 le:=Nat.le_trans h1.le h2.le
 free:=fun G hG=>h2.free G (h1.free (F2++G) (by simpa using hG))
 nom:=fun i hi hn=>h2.nom i hi (h1.nom i (Nat.le_trans h2.le hi) hn)
 rho:=fun i hi=>by
  have:=h1.le;have:=h2.le
  rw [h2.rho i (by omega),h1.rho i (by omega)]
 nt:=trivial
theorem zJV {HI:Nat}:∀ {row:List T} {s:St} {ρ:Nat→Option Hd} {foot:Nat→List Nat} {id:Nat} {cell:Nat→Option Value} {b:Nat} {F:List Nat},SimX E s a w S ρ foot→RepRow S w noH cell b row F→Free E s w S foot F→row.all T.okLeaf=true→(∀ i,id≤i→i<HI→E.okd i)→(∀ i,id≤i→i<HI→zAk i s.objs)→(zBd s id row).2.2≤HI→
  ∃ ρ' foot',LeafOut E s (zBd s id row).1 a w S ρ ρ' foot foot' id (zBd s id row).2.2 F∧RepRow S w ρ' cell b (zBd s id row).2.1 []∧(∀ d,¬ zAD d (zBd s id row).2.1→id≤d∧d<(zBd s id row).2.2)∧(zBd s id row).2.1.length=row.length
 |[],s,ρ,foot,id,cell,b,F,h,hr,hf,_,_,_,_=>by
  simp only [RepRow] at hr
  subst hr
  exact ⟨ρ,foot,⟨h,Nat.le_refl _,fun G hG=>by simpa [zBd] using hG,fun _ _ h=>h,fun _ _=>rfl,trivial⟩,by simp [zBd,RepRow],fun d hd=>by simp [zBd,zAD] at hd,rfl⟩
 |t::ts,s,ρ,foot,id,cell,b,F,h,hr,hf,hok,hpi,hno,hhi=>by
  simp only [RepRow] at hr
  obtain ⟨y,F1,F2,h0,h1,h2,rfl⟩:=hr
  simp only [List.all_cons,Bool.and_eq_true] at hok
  have hle:=zJT ts (zAt s id t).1 (zAt s id t).2.2
  have hge:=zGu s id t
  simp only [zBd] at hhi
  have id':∀ {p:Prop},p→p:=fun h=>h
  have hone:id<HI∨(zAt s id t).2.2=id:=by omega
  obtain ⟨ρ1,foot1,l1,r1,m1⟩:=zIO h (id:=id) h1 (hf.sub (List.sublist_append_left _ _)) hok.1 (hone.imp (fun h=>hpi id (Nat.le_refl _) h) id') (hone.imp (fun h=>hno id (Nat.le_refl _) h) id')
  obtain ⟨ρ2,foot2,l2,r2,m2,e2⟩:=zJV (id:=(zAt s id t).2.2) l1.sim h2 (l1.free F2 hf) hok.2 (fun i hi hi2=>hpi i (Nat.le_trans l1.le hi) hi2) (fun i hi hi2=>l1.nom i hi (hno i (Nat.le_trans l1.le hi) hi2)) hhi
  refine ⟨ρ2,foot2,l1.trans l2, ?_,fun d hd=> ?_,by simp [zBd,e2]⟩
  ·simp only [zBd,RepRow]
   refine ⟨y,[],[],h0,zLI _ (fun d hd=> ?_) r1,r2,rfl⟩
   have:=m1 d hd
   exact l2.rho d (by omega)
  ·have hl1:=l1.le
   have hl2:=l2.le
   simp only [zBd,zAD] at hd
   by_cases hd1:(zAt s id t).2.1.noM d
   ·have:=m2 d (fun h=>hd ⟨hd1,h⟩)
    simp only [zBd]
    omega
   ·have:=m1 d hd1
    simp only [zBd]
    omega
theorem zAar {HI:Nat} (h:SimX E s a w S ρ foot) {id:Nat} {t:T} {y:Value} {F:List Nat} (hr:Rep S w noH t y F) (hf:Free E s w S foot F) (hok:t.okT=true) (hpi:∀ i,id≤i→i<HI→E.okd i) (hno:∀ i,id≤i→i<HI→zAk i s.objs) (hhi:(zCC s id t).2.2≤HI):
  ∃ ρ' foot',LeafOut E s (zCC s id t).1 a w S ρ ρ' foot foot' id (zCC s id t).2.2 F∧Rep S w ρ' (zCC s id t).2.1 y []∧∀ d,¬ (zCC s id t).2.1.noM d→id≤d∧d<(zCC s id t).2.2:=by
 by_cases ha:∃ row,t= .agg row
 ·obtain ⟨row,rfl⟩:=ha
  simp only [Rep] at hr
  obtain ⟨cs,rfl,e1,e2⟩:=hr
  obtain ⟨ρ1,foot1,l1,r1,m1,n1⟩:=zJV (id:=id) h e2 hf hok hpi hno hhi
  refine ⟨ρ1,foot1,l1, ?_,fun d hd=>m1 d (by simpa [zCC,T.noM] using hd)⟩
  simp only [zCC,Rep]
  exact ⟨cs,rfl,by rw [n1];exact e1,r1⟩
 ·have e:zCC s id t=zAt s id t:=by
   cases t<;>first|rfl|exact absurd ⟨_,rfl⟩ ha
  have hok':t.okLeaf=true:=by
   cases t<;>first|exact hok|exact absurd ⟨_,rfl⟩ ha
  rw [e]
  rw [e] at hhi
  have hge:=zGu s id t
  have hone:id<HI∨(zAt s id t).2.2=id:=by omega
  exact zIO h hr hf hok' (hone.imp (fun h=>hpi id (Nat.le_refl _) h) (fun h=>h)) (hone.imp (fun h=>hno id (Nat.le_refl _) h) (fun h=>h))
theorem zPa {HI:Nat}:∀ {row:List T} {s:St} {ρ:Nat→Option Hd} {foot:Nat→List Nat} {id:Nat} {cell:Nat→Option Value} {b:Nat} {F:List Nat},SimX E s a w S ρ foot→RepRow S w noH cell b row F→Free E s w S foot F→row.all T.okT=true→(∀ i,id≤i→i<HI→E.okd i)→(∀ i,id≤i→i<HI→zAk i s.objs)→(zBh s id row).2.2≤HI→
  ∃ ρ' foot',LeafOut E s (zBh s id row).1 a w S ρ ρ' foot foot' id (zBh s id row).2.2 F∧RepRow S w ρ' cell b (zBh s id row).2.1 []∧(∀ d,¬ zAD d (zBh s id row).2.1→id≤d∧d<(zBh s id row).2.2)∧(zBh s id row).2.1.length=row.length
 |[],s,ρ,foot,id,cell,b,F,h,hr,hf,_,_,_,_=>by
  simp only [RepRow] at hr
  subst hr
  exact ⟨ρ,foot,⟨h,Nat.le_refl _,fun G hG=>by simpa [zBh] using hG,fun _ _ h=>h,fun _ _=>rfl,trivial⟩,by simp [zBh,RepRow],fun d hd=>by simp [zBh,zAD] at hd,rfl⟩
 |t::ts,s,ρ,foot,id,cell,b,F,h,hr,hf,hok,hpi,hno,hhi=>by
  simp only [RepRow] at hr
  obtain ⟨y,F1,F2,h0,h1,h2,rfl⟩:=hr
  simp only [List.all_cons,Bool.and_eq_true] at hok
  have hle:=zO8 ts (zCC s id t).1 (zCC s id t).2.2
  simp only [zBh] at hhi
  obtain ⟨ρ1,foot1,l1,r1,m1⟩:=zAar h (id:=id) h1 (hf.sub (List.sublist_append_left _ _)) hok.1 hpi hno (by omega)
  obtain ⟨ρ2,foot2,l2,r2,m2,e2⟩:=zPa (id:=(zCC s id t).2.2) l1.sim h2 (l1.free F2 hf) hok.2 (fun i hi hi2=>hpi i (Nat.le_trans l1.le hi) hi2) (fun i hi hi2=>l1.nom i hi (hno i (Nat.le_trans l1.le hi) hi2)) hhi
  refine ⟨ρ2,foot2,l1.trans l2, ?_,fun d hd=> ?_,by simp [zBh,e2]⟩
  ·simp only [zBh,RepRow]
   refine ⟨y,[],[],h0,zLI _ (fun d hd=> ?_) r1,r2,rfl⟩
   have:=m1 d hd
   exact l2.rho d (by omega)
  ·have hl1:=l1.le
   have hl2:=l2.le
   simp only [zBh,zAD] at hd
   by_cases hd1:(zCC s id t).2.1.noM d
   ·have:=m2 d (fun h=>hd ⟨hd1,h⟩)
    simp only [zBh]
    omega
   ·have:=m1 d hd1
    simp only [zBh]
    omega
theorem zWn (h:SimX E s a w S ρ foot) {d:Nat} (hd:d<E.nt) {t:T} {y:Value} {F:List Nat} (hr:Rep S w noH t y F) (hf:Free E s w S foot F) (hpi:E.okd d∧∀ i,1000*(d+1)≤i→i<1000*(d+1)+1000→E.okd i) (hok:zIN s d t):
  ∃ ρ' foot' id id',SimX E (s.unp d t) (a.put (some d) y) w S ρ' foot'∧(∀ G,Free E s w S foot (F++G)→Free E (s.unp d t) w S foot' G)∧(∀ i,¬ (id≤i∧i<id')→ρ' i=ρ i):=by
 by_cases h1:∃ l,t= .tup l
 ·obtain ⟨l,rfl⟩:=h1
  simp only [Rep] at hr
  obtain ⟨vs,rfl,e1,e2⟩:=hr
  obtain ⟨ρ1,foot1,l1,r1,m1,n1⟩:=zPa (id:=1000*(d+1)) h e2 hf hok.1 hpi.2 hok.2.2 (Nat.le_trans (zO9 _ _ _) (Nat.add_le_add_left hok.2.1 _))
  refine ⟨ρ1,foot1,_,_,l1.sim.set hd ?_,fun G hG=>let q:=l1.free G hG;⟨q.nodup,q.mine,q.apart⟩,l1.rho⟩
  simp only [Rep]
  exact ⟨vs,rfl,by rw [n1];exact e1,r1⟩
 ·by_cases h2:∃ l,t= .agg l
  ·obtain ⟨l,rfl⟩:=h2
   simp only [Rep] at hr
   obtain ⟨vs,rfl,e1,e2⟩:=hr
   obtain ⟨ρ1,foot1,l1,r1,m1,n1⟩:=zJV (id:=1000*(d+1)) h e2 hf hok.1 hpi.2 hok.2.2 (Nat.le_trans (zJU _ _ _) (Nat.add_le_add_left hok.2.1 _))
   refine ⟨ρ1,foot1,_,_,l1.sim.set hd ?_,fun G hG=>let q:=l1.free G hG;⟨q.nodup,q.mine,q.apart⟩,l1.rho⟩
   simp only [Rep]
   exact ⟨vs,rfl,by rw [n1];exact e1,r1⟩
  ·have e:s.unp d t=(zAt s d t).1.set d (zAt s d t).2.1:=by
    cases t<;>first|rfl|exact absurd ⟨_,rfl⟩ h1|exact absurd ⟨_,rfl⟩ h2
   have hok':t.okLeaf=true∧(zAk d s.objs∨(zAt s d t).2.2=d):=by
    cases t with
    |sl own k rows=>cases own<;>first|exact ⟨rfl, .inl hok⟩|exact ⟨rfl, .inr rfl⟩
    |bo own row q=>cases own<;>first|exact ⟨rfl, .inl hok⟩|exact ⟨rfl, .inr rfl⟩
    |tup l=>exact absurd ⟨_,rfl⟩ h1
    |agg l=>exact absurd ⟨_,rfl⟩ h2
    |_=>exact ⟨hok, .inr rfl⟩
   obtain ⟨ρ1,foot1,l1,r1,m1⟩:=zIO (id:=d) h hr hf hok'.1 (.inl hpi.1) hok'.2
   rw [e]
   exact ⟨ρ1,foot1,_,_,l1.sim.set hd r1,fun G hG=>let q:=l1.free G hG;⟨q.nodup,q.mine,q.apart⟩,l1.rho⟩
end
end Go.Am

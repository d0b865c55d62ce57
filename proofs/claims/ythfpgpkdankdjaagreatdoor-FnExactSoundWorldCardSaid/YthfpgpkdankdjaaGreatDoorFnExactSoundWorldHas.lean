import Derived.Test.YthfpgpkdankdjaaGreatDoorFnExactSoundWorldU6
import Derived.Test.YthfpgpkdankdjaaGreatDoorAmRead
set_option linter.all false
set_option maxRecDepth 100000
namespace Go.Proofs.Wb
open Tryz renaming prog→p_
open Go Go.Am
theorem zUr {n:Nat} {row:List T} (hl:row.length=3) (h:has p_ (n+2) 232 row):∃ x:Got,row=Got.row false x∧x.wf:=by
 match row,hl with
 |[c0,c1,c2],_=>
  unfold has at h
  simp only [Tryz.underlying232] at h
  have hh:=h
  have f0:has p_ (n+0+1) 9 [c0]:=hh 0 _ rfl
  obtain ⟨v0,rfl,w0⟩:=zDz Tryz.underlying9 f0
  have f1:has p_ (n+0+1) 9 [c1]:=hh 1 _ rfl
  obtain ⟨v1,rfl,w1⟩:=zDz Tryz.underlying9 f1
  have f2:has p_ (n+0+1) 4 [c2]:=hh 2 _ rfl
  obtain ⟨v2,rfl⟩:=zDk Tryz.underlying4 f2
  exact ⟨⟨v0,v1,v2⟩,rfl,⟨w0,w1⟩⟩
theorem zZO {n:Nat} {row:List T} (hl:row.length=3) (h:has p_ (n+2) 170 row):∃ x:Lock,row=Lock.row false x∧x.wf:=by
 match row,hl with
 |[c0,c1,c2],_=>
  unfold has at h
  simp only [Tryz.underlying170] at h
  have hh:=h
  have f0:has p_ (n+0+1) 9 [c0]:=hh 0 _ rfl
  obtain ⟨v0,rfl,w0⟩:=zDz Tryz.underlying9 f0
  have f1:has p_ (n+0+1) 3 [c1]:=hh 1 _ rfl
  obtain ⟨v1,rfl,w1⟩:=zBc Tryz.underlying3 f1
  have f2:has p_ (n+0+1) 4 [c2]:=hh 2 _ rfl
  obtain ⟨v2,rfl⟩:=zDk Tryz.underlying4 f2
  exact ⟨⟨v0,v1,v2⟩,rfl,⟨w0,w1⟩⟩
theorem zAeN {n:Nat} {row:List T} (hl:row.length=4) (h:has p_ (n+2) 230 row):∃ x:Op,row=Op.row false x∧x.wf:=by
 match row,hl with
 |[c0,c1,c2,c3],_=>
  unfold has at h
  simp only [Tryz.underlying230] at h
  have hh:=h
  have f0:has p_ (n+0+1) 3 [c0]:=hh 0 _ rfl
  obtain ⟨v0,rfl,w0⟩:=zBc Tryz.underlying3 f0
  have f1:has p_ (n+0+1) 9 [c1]:=hh 1 _ rfl
  obtain ⟨v1,rfl,w1⟩:=zDz Tryz.underlying9 f1
  have f2:has p_ (n+0+1) 9 [c2]:=hh 2 _ rfl
  obtain ⟨v2,rfl,w2⟩:=zDz Tryz.underlying9 f2
  have f3:has p_ (n+0+1) 3 [c3]:=hh 3 _ rfl
  obtain ⟨v3,rfl,w3⟩:=zBc Tryz.underlying3 f3
  exact ⟨⟨v0,v1,v2,v3⟩,rfl,⟨w0,w1,w2,w3⟩⟩
theorem zX0 {n:Nat} {row:List T} (hl:row.length=3) (h:has p_ (n+2) 389 row):∃ x:Write,row=Write.row false x∧x.wf:=by
 match row,hl with
 |[c0,c1,c2],_=>
  unfold has at h
  simp only [Tryz.underlying389] at h
  have hh:=h
  have f0:has p_ (n+0+1) 9 [c0]:=hh 0 _ rfl
  obtain ⟨v0,rfl,w0⟩:=zDz Tryz.underlying9 f0
  have f1:has p_ (n+0+1) 9 [c1]:=hh 1 _ rfl
  obtain ⟨v1,rfl,w1⟩:=zDz Tryz.underlying9 f1
  have f2:has p_ (n+0+1) 4 [c2]:=hh 2 _ rfl
  obtain ⟨v2,rfl⟩:=zDk Tryz.underlying4 f2
  exact ⟨⟨v0,v1,v2⟩,rfl,⟨w0,w1⟩⟩
theorem zX1 {n:Nat} {row:List T} (hl:row.length=1) (h:has p_ (n+2) 139 row):∃ x:Clock,row=Clock.row false x∧x.wf:=by
 match row,hl with
 |[c0],_=>
  unfold has at h
  simp only [Tryz.underlying139] at h
  have hh:=h
  have f0:has p_ (n+0+1) 3 [c0]:=hh 0 _ rfl
  obtain ⟨v0,rfl,w0⟩:=zBc Tryz.underlying3 f0
  exact ⟨⟨v0⟩,rfl,w0⟩
theorem zAbk {n:Nat} {row:List T} (hl:row.length=7) (h:has p_ (n+4) 308 row):∃ x:Rec,row=Rec.row false x∧x.wf:=by
 match row,hl with
 |[c0,c1,c2,c3,c4,c5,c6],_=>
  unfold has at h
  simp only [Tryz.underlying308] at h
  have hh:=h
  have f0:has p_ (n+2+1) 3 [c0]:=hh 0 _ rfl
  obtain ⟨v0,rfl,w0⟩:=zBc Tryz.underlying3 f0
  have f1:has p_ (n+2+1) 3 [c1]:=hh 1 _ rfl
  obtain ⟨v1,rfl,w1⟩:=zBc Tryz.underlying3 f1
  have f2:has p_ (n+2+1) 3 [c2]:=hh 2 _ rfl
  obtain ⟨v2,rfl,w2⟩:=zBc Tryz.underlying3 f2
  have f3:has p_ (n+2+1) 3 [c3]:=hh 3 _ rfl
  obtain ⟨v3,rfl,w3⟩:=zBc Tryz.underlying3 f3
  have f4:has p_ (n+1+2) 23 [c4]:=hh 4 _ rfl
  obtain ⟨v4,rfl,w4⟩:=zB9 (fun x=>[str x]) (fun s=>s.size≤maxLen) Tryz.underlying23 (by kernel_rfl) (fun r hl h=>zGJ (F:=fun x=>str x) (Q:=fun s=>s.size≤maxLen) hl (fun c hc=>zDz Tryz.underlying9 (hc▸h))) f4
  have f5:has p_ (n+0+3) 306 [c5]:=hh 5 _ rfl
  obtain ⟨v5,rfl,w5⟩:=zB9 (Write.row false) (Write.wf) Tryz.underlying306 (by kernel_rfl) (fun r hl h=>zX0 hl h) f5
  have f6:has p_ (n+2+1) 4 [c6]:=hh 6 _ rfl
  obtain ⟨v6,rfl⟩:=zDk Tryz.underlying4 f6
  exact ⟨⟨v0,v1,v2,v3,v4,v5,v6⟩,rfl,⟨w0,w1,w2,w3,w4,w5⟩⟩
theorem zQk {n:Nat} {row:List T} (hl:row.length=6) (h:has p_ (n+4) 101 row):∃ x:WorldLook,row=WorldLook.row false x∧x.wf:=by
 match row,hl with
 |[c0,c1,c2,c3,c4,c5],_=>
  unfold has at h
  simp only [Tryz.underlying101] at h
  have hh:=h
  have f0:has p_ (n+2+1) 3 [c0]:=hh 0 _ rfl
  obtain ⟨v0,rfl,w0⟩:=zBc Tryz.underlying3 f0
  have f1:has p_ (n+1+2) 23 [c1]:=hh 1 _ rfl
  obtain ⟨v1,rfl,w1⟩:=zB9 (fun x=>[str x]) (fun s=>s.size≤maxLen) Tryz.underlying23 (by kernel_rfl) (fun r hl h=>zGJ (F:=fun x=>str x) (Q:=fun s=>s.size≤maxLen) hl (fun c hc=>zDz Tryz.underlying9 (hc▸h))) f1
  have f2:has p_ (n+0+3) 96 [c2]:=hh 2 _ rfl
  obtain ⟨v2,rfl,w2⟩:=zB9 (Got.row false) (Got.wf) Tryz.underlying96 (by kernel_rfl) (fun r hl h=>zUr hl h) f2
  have f3:has p_ (n+2+1) 3 [c3]:=hh 3 _ rfl
  obtain ⟨v3,rfl,w3⟩:=zBc Tryz.underlying3 f3
  have f4:has p_ (n+2+1) 3 [c4]:=hh 4 _ rfl
  obtain ⟨v4,rfl,w4⟩:=zBc Tryz.underlying3 f4
  have f5:has p_ (n+2+1) 3 [c5]:=hh 5 _ rfl
  obtain ⟨v5,rfl,w5⟩:=zBc Tryz.underlying3 f5
  exact ⟨⟨v0,v1,v2,v3,v4,v5⟩,rfl,⟨w0,w1,w2,w3,w4,w5⟩⟩
theorem zSj {n:Nat} {row:List T} (hl:row.length=10) (h:has p_ (n+4) 98 row):∃ x:WorldTxn,row=WorldTxn.row false x∧x.wf:=by
 match row,hl with
 |[c0,c1,c2,c3,c4,c5,c6,c7,c8,c9],_=>
  unfold has at h
  simp only [Tryz.underlying98] at h
  have hh:=h
  have f0:has p_ (n+0+3) 95 [c0]:=hh 0 _ rfl
  obtain ⟨v0,rfl,w0⟩:=zB9 (Op.row false) (Op.wf) Tryz.underlying95 (by kernel_rfl) (fun r hl h=>zAeN hl h) f0
  have f1:has p_ (n+0+3) 96 [c1]:=hh 1 _ rfl
  obtain ⟨v1,rfl,w1⟩:=zB9 (Got.row false) (Got.wf) Tryz.underlying96 (by kernel_rfl) (fun r hl h=>zUr hl h) f1
  have f2:has p_ (n+1+2) 26 [c2]:=hh 2 _ rfl
  obtain ⟨v2,rfl,w2⟩:=zB9 (fun x=>[i64 x]) (fun n=> -9223372036854775808≤n∧n≤9223372036854775807) Tryz.underlying26 (by kernel_rfl) (fun r hl h=>zGJ (F:=fun x=>i64 x) (Q:=fun n=> -9223372036854775808≤n∧n≤9223372036854775807) hl (fun c hc=>zBc Tryz.underlying3 (hc▸h))) f2
  have f3:has p_ (n+2+1) 3 [c3]:=hh 3 _ rfl
  obtain ⟨v3,rfl,w3⟩:=zBc Tryz.underlying3 f3
  have f4:has p_ (n+2+1) 3 [c4]:=hh 4 _ rfl
  obtain ⟨v4,rfl,w4⟩:=zBc Tryz.underlying3 f4
  have f5:has p_ (n+2+1) 4 [c5]:=hh 5 _ rfl
  obtain ⟨v5,rfl⟩:=zDk Tryz.underlying4 f5
  have f6:has p_ (n+2+1) 3 [c6]:=hh 6 _ rfl
  obtain ⟨v6,rfl,w6⟩:=zBc Tryz.underlying3 f6
  have f7:has p_ (n+2+1) 4 [c7]:=hh 7 _ rfl
  obtain ⟨v7,rfl⟩:=zDk Tryz.underlying4 f7
  have f8:has p_ (n+2+1) 4 [c8]:=hh 8 _ rfl
  obtain ⟨v8,rfl⟩:=zDk Tryz.underlying4 f8
  have f9:has p_ (n+2+1) 4 [c9]:=hh 9 _ rfl
  obtain ⟨v9,rfl⟩:=zDk Tryz.underlying4 f9
  exact ⟨⟨v0,v1,v2,v3,v4,v5,v6,v7,v8,v9⟩,rfl,⟨w0,w1,w2,w3,w4,w6⟩⟩
theorem zX2 {n:Nat} {row:List T} (hl:row.length=8) (h:has p_ (n+5) 310 row):∃ x:Entry,row=Entry.row false x∧x.wf:=by
 match row,hl with
 |[c0,c1,c2,c3,c4,c5,c6,c7],_=>
  unfold has at h
  simp only [Tryz.underlying310] at h
  have hh:=h
  have f0:has p_ (n+3+1) 3 [c0]:=hh 0 _ rfl
  obtain ⟨v0,rfl,w0⟩:=zBc Tryz.underlying3 f0
  have f1:has p_ (n+0+4) 308 [c1,c2,c3,c4,c5,c6,c7]:=hh 1 _ rfl
  obtain ⟨v1,e1,w1⟩:=zAbk rfl f1
  simp only [Rec.row,List.cons.injEq,and_true] at e1
  obtain ⟨rfl,rfl,rfl,rfl,rfl,rfl,rfl⟩:=e1
  exact ⟨⟨v0,v1⟩,rfl,⟨w0,w1⟩⟩
theorem zS4 {n:Nat} {row:List T} (hl:row.length=3) (h:has p_ (n+7) 227 row):∃ x:Replica,row=Replica.row false x∧x.wf:=by
 match row,hl with
 |[c0,c1,c2],_=>
  unfold has at h
  simp only [Tryz.underlying227] at h
  have hh:=h
  have f0:has p_ (n+5+1) 4 [c0]:=hh 0 _ rfl
  obtain ⟨v0,rfl⟩:=zDk Tryz.underlying4 f0
  have f1:has p_ (n+0+6) 225 [c1]:=hh 1 _ rfl
  obtain ⟨v1,rfl,w1⟩:=zB9 (Entry.row false) (Entry.wf) Tryz.underlying225 (by kernel_rfl) (fun r hl h=>zX2 hl h) f1
  have f2:has p_ (n+5+1) 3 [c2]:=hh 2 _ rfl
  obtain ⟨v2,rfl,w2⟩:=zBc Tryz.underlying3 f2
  exact ⟨⟨v0,v1,v2⟩,rfl,⟨w1,w2⟩⟩
theorem zX3 {n:Nat} {row:List T} (hl:row.length=3) (h:has p_ (n+9) 91 row):∃ x:Group,row=Group.row false x∧x.wf:=by
 match row,hl with
 |[c0,c1,c2],_=>
  unfold has at h
  simp only [Tryz.underlying91] at h
  have hh:=h
  have f0:has p_ (n+0+8) 89 [c0]:=hh 0 _ rfl
  obtain ⟨v0,rfl,w0⟩:=zB9 (Replica.row false) (Replica.wf) Tryz.underlying89 (by kernel_rfl) (fun r hl h=>zS4 hl h) f0
  have f1:has p_ (n+7+1) 3 [c1]:=hh 1 _ rfl
  obtain ⟨v1,rfl,w1⟩:=zBc Tryz.underlying3 f1
  have f2:has p_ (n+7+1) 3 [c2]:=hh 2 _ rfl
  obtain ⟨v2,rfl,w2⟩:=zBc Tryz.underlying3 f2
  exact ⟨⟨v0,v1,v2⟩,rfl,⟨w0,w1,w2⟩⟩
theorem zX4 {n:Nat} {row:List T} (hl:row.length=9) (h:has p_ (n+11) 30 row):∃ x:World,row=World.row false x∧x.wf:=by
 match row,hl with
 |[c0,c1,c2,c3,c4,c5,c6,c7,c8],_=>
  unfold has at h
  simp only [Tryz.underlying30] at h
  have hh:=h
  have f0:has p_ (n+9+1) 3 [c0]:=hh 0 _ rfl
  obtain ⟨v0,rfl,w0⟩:=zBc Tryz.underlying3 f0
  have f1:has p_ (n+9+1) 3 [c1]:=hh 1 _ rfl
  obtain ⟨v1,rfl,w1⟩:=zBc Tryz.underlying3 f1
  have f2:has p_ (n+7+3) 22 [c2]:=hh 2 _ rfl
  obtain ⟨v2,rfl,w2⟩:=zB9 (Clock.row false) (Clock.wf) Tryz.underlying22 (by kernel_rfl) (fun r hl h=>zX1 hl h) f2
  have f3:has p_ (n+8+2) 23 [c3]:=hh 3 _ rfl
  obtain ⟨v3,rfl,w3⟩:=zB9 (fun x=>[str x]) (fun s=>s.size≤maxLen) Tryz.underlying23 (by kernel_rfl) (fun r hl h=>zGJ (F:=fun x=>str x) (Q:=fun s=>s.size≤maxLen) hl (fun c hc=>zDz Tryz.underlying9 (hc▸h))) f3
  have f4:has p_ (n+0+10) 24 [c4]:=hh 4 _ rfl
  obtain ⟨v4,rfl,w4⟩:=zB9 (Group.row false) (Group.wf) Tryz.underlying24 (by kernel_rfl) (fun r hl h=>zX3 hl h) f4
  have f5:has p_ (n+6+4) 25 [c5]:=hh 5 _ rfl
  obtain ⟨v5,rfl,w5⟩:=zB9 (fun y=>[.sl false 3 (y.map (Lock.row false))]) (wfL (Lock.wf)) Tryz.underlying25 (by kernel_rfl) (fun r hl h=>zGJ (F:=fun y=> .sl false 3 (y.map (Lock.row false))) (Q:=wfL (Lock.wf)) hl (fun c hc=>zB9 (Lock.row false) (Lock.wf) Tryz.underlying93 (by kernel_rfl) (fun r hl h=>zZO hl h) (hc▸h))) f5
  have f6:has p_ (n+8+2) 26 [c6]:=hh 6 _ rfl
  obtain ⟨v6,rfl,w6⟩:=zB9 (fun x=>[i64 x]) (fun n=> -9223372036854775808≤n∧n≤9223372036854775807) Tryz.underlying26 (by kernel_rfl) (fun r hl h=>zGJ (F:=fun x=>i64 x) (Q:=fun n=> -9223372036854775808≤n∧n≤9223372036854775807) hl (fun c hc=>zBc Tryz.underlying3 (hc▸h))) f6
  have f7:has p_ (n+5+5) 27 [c7]:=hh 7 _ rfl
  obtain ⟨v7,rfl,w7⟩:=zB9 (WorldTxn.row false) (WorldTxn.wf) Tryz.underlying27 (by kernel_rfl) (fun r hl h=>zSj hl h) f7
  have f8:has p_ (n+5+5) 28 [c8]:=hh 8 _ rfl
  obtain ⟨v8,rfl,w8⟩:=zB9 (WorldLook.row false) (WorldLook.wf) Tryz.underlying28 (by kernel_rfl) (fun r hl h=>zQk hl h) f8
  exact ⟨⟨v0,v1,v2,v3,v4,v5,v6,v7,v8⟩,rfl,⟨w0,w1,w2,w3,w4,w5,w6,w7,w8⟩⟩
end Go.Proofs.Wb

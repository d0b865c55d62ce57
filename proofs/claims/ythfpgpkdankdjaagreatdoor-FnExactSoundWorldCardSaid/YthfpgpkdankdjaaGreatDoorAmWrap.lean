import Derived.Test.YthfpgpkdankdjaaGreatDoorAmFun
import Derived.Test.YthfpgpkdankdjaaGreatDoorAmPure2
import Derived.Below
set_option linter.all false
namespace Go.Am
open Go Go.RowKit
variable {w:World}
theorem zJz {w':World} (h:Kept [] w w'):Below w.heap.size w w':=⟨h.os,h.tape,h.output,h.size,fun b hb=>h.block b hb (by simp)⟩
theorem ACall.law {P:Program} {f:Nat} {ts:List T} (h:ACall P f ts (fun r _=>r= .v (.bool true))) {vs:Array Value} (hv:vs.size=ts.length) (hr:RepRow (fun b=>b<w.heap.size) w noH (fun i=>vs[i]?) 0 ts []) (hT:Inv w fun b=>b<w.heap.size:=by intro t ht;cases ht):
  Calls P f vs w fun e w'=>e= .returned (.bool true)∧Below w.heap.size w w':=by
 refine (h w (fun b=>b<w.heap.size) [] vs hv hr List.nodup_nil (by simp) (fun _ h=>h) hT).mono ?_
 rintro e w' ⟨rv,r,l,S',Fr,Fa,rfl,rfl,_,hb⟩
 have:=hb.res
 simp only [Rep] at this
 exact ⟨by rw [this.1],zJz hb.kept⟩
end Go.Am

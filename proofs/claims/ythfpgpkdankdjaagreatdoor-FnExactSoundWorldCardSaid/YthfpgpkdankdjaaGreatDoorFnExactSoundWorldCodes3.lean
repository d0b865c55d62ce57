import Derived.Test.YthfpgpkdankdjaaGreatDoorProg
import Derived.Test.YthfpgpkdankdjaaGreatDoorAmAuto
import Derived.Test.YthfpgpkdankdjaaGreatDoorAmMini
import Derived.Test.YthfpgpkdankdjaaGreatDoorFnExactSoundWorldCodes
set_option linter.all false
namespace Go.Proofs.Wb
open Tryz renaming prog→p_
open Go Go.Am Go.Am.K
open AS renaming seq→s,kept→z,cond→i,skip→n,ret→r,exit→e,block→b,loop→l,post→w,ops→p
open I renaming pick→x,alloc→y,load→h,sls→d,box→f,ext→a,not→j
def zY4:AS:=q [o 6 (.mv (.const (.slice none 0 0)))] (q [m 10 0,m 11 1,o 12 (d 2 10 (some 11) none none)] (q [m 13 2,Y 14 13,m 7 14] (s (q [m 15 7,B 16 .eql 15 (k 0)] (i 16 (s (w [(6,0,[])] (p [m 17 0,m 6 17])) r) n)) (q [m 18 0,Y 19 18,m 8 19] (s (q [m 20 1,m 21 8,B 22 .eql 20 21] (i 22 (s (w [(6,0,[])] (p [m 23 0,m 24 2,o 25 (.app 2 40 Z4 23 24),m 6 25])) r) n)) (z [0,1,2,7,8] (s (q [m 26 8,m 27 7,B 28 .add 26 27,m 29 0,o 30 (.capo 29),B 31 .gtr 28 30] (i 31 (q [m 32 0,m 33 1,o 34 (d 2 32 none (some 33) none),m 35 8,m 36 7,B 37 .add 35 36,m 38 1,B 39 .sub 37 38,o 40 (.apz 2 40 Z4 34 39),m 9 40] (z [0,1,2,7,9] (q [m 41 9,m 42 1,o 43 (d 2 41 (some 42) none none),m 44 2,o 45 (.cpy 2 43 44)] (s (.rops [(none,m 46 9),(none,m 47 1),(none,m 48 7),(none,B 49 .add 47 48),(none,o 50 (d 2 46 (some 49) none none)),(none,m 51 0),(none,m 52 1),(none,o 53 (d 2 51 (some 52) none none)),(some [],o 54 (.cpy 2 50 53))]) (z [9] (s (w [(6,0,[])] (p [m 55 9,m 6 55])) r)))))) n)) (z [0,1,2,7,8] (q [m 56 0,m 57 8,m 58 7,B 59 .add 57 58,o 60 (d 2 56 none (some 59) none),m 0 60] (s (q [m 61 2,m 62 0,m 63 1,m 64 7,B 65 .add 63 64,o 66 (d 2 62 (some 65) none none),o 67 (.xcall 347 [61,66]),o 68 (j 67)] (z [0,1,2,7,8,68] (i 68 (s (.rops [(none,m 69 0),(none,m 70 1),(none,m 71 7),(none,B 72 .add 70 71),(none,o 73 (d 2 69 (some 72) none none)),(none,m 74 0),(none,m 75 1),(none,o 76 (d 2 74 (some 75) none none)),(some [],o 77 (.cpy 2 73 76))]) (z [0,1,2] (q [m 78 0,m 79 1,o 80 (d 2 78 (some 79) none none),m 81 2,o 82 (.cpy 2 80 81)] (s (w [(6,0,[])] (p [m 83 0,m 6 83])) r)))) n))) (z [0,1,2,7,8] (q [m 84 0,m 85 8,o 86 (d 2 84 (some 85) none none),m 87 2,o 88 (.cpy 2 86 87)] (q [m 89 0,m 90 1,o 91 (d 2 89 (some 90) none none),m 92 7,c 93 348 [91,92]] (s (w [(6,0,[])] (p [m 94 0,m 6 94])) r))))))))))))))
theorem H327:hr p_ 327=ho zY4 [.tmp 6] 95:=by kernel_rfl
def zUg:AS:=q [B 10 .lss 9 8] (s (i 10 n (e 0)) (s (b 1 (s (w [(11,1,[(1,3)])] (p [A 11 2 7 9,o 12 (h (some 2) 11),o 5 (y Z4),W 2 5 12])) (s (q [o 13 (h (some 2) 5),c 14 349 [13],o 15 (j 14)] (i 15 (q [v 2 ff] r) n)) (p [m 16 3,F 17 0 5,L 18 17,o 19 (.bsl 1 (.string ⟨⟨[]⟩⟩) 1 [(0,18)]),o 20 (.app 1 16 (.string ⟨⟨[]⟩⟩) 16 19),m 3 20])))) (z [0,3,7,8,9] (p [B 21 .add 9 (k 1),m 9 21]))))
def C328:AS:=q [v 2 ff] (q [o 6 (.bsl 1 (.string ⟨⟨[]⟩⟩) 0 []),m 3 6] (s (q [m 7 0,Y 8 7,v 9 (k 0)] (b 0 (l 1 [(0,0),(3,1),(7,0),(8,0),(9,0)] zUg))) (z [0,3] (q [m 22 0,Y 23 22,B 24 .leq 23 (k 24),m 25 24,mg 26 25 true 3,gC 27 25 true 121 [26],o 28 (x 25 27 ff),m 2 28] r))))
theorem H328:hr p_ 328=ho C328 [.tmp 2] 29:=by kernel_rfl
theorem zFy:p_.funcs[329]? =some Tryz.f329:=by kernel_rfl
theorem zFz (vs:Array Value) (w:Go.World):(callFunc 329 vs).run p_ w=((Extern.SlicesOverlaps.overlaps #[59,59] #[4] vs).run p_ w).andThen fun v w'=> .ok (.value v) w':=run_callFunc_extern (e:=Extern.SlicesOverlaps.overlaps #[59,59] #[4]) zFy (by kernel_rfl) (by kernel_rfl) (by kernel_rfl) (by kernel_rfl) vs w
theorem zFA:p_.underlying 59=some (.slice 128):=by kernel_rfl
theorem zFj:width p_ 128=some 3:=by kernel_rfl
theorem H331:hr p_ 331=ho (zGy [(3,1),(4,3)] 5) [.tmp 4] 19:=by kernel_rfl
def C332:AS:=q [o 4 (f 1),o 5 (f 2),v 6 ff] (q [m 7 0,o 8 (.mkf 351 [5,4]),c 9 263 [7,8],m 6 9] r)
theorem H332:hr p_ 332=ho C332 [.tmp 6] 10:=by kernel_rfl
theorem H344:hr p_ 344=ho (zOe 3 359) [.tmp 4] 27:=by kernel_rfl
theorem H345:hr p_ 345=ho (zQt 0 1) [.tmp 4] 20:=by kernel_rfl
theorem H346:hr p_ 346=ho (zQr Z2) [.cell 2 238] 14:=by kernel_rfl
theorem zFB:p_.funcs[347]? =some Tryz.f347:=by kernel_rfl
theorem zFC (vs:Array Value) (w:Go.World):(callFunc 347 vs).run p_ w=((Extern.SlicesOverlaps.overlaps #[57,57] #[4] vs).run p_ w).andThen fun v w'=> .ok (.value v) w':=run_callFunc_extern (e:=Extern.SlicesOverlaps.overlaps #[57,57] #[4]) zFB (by kernel_rfl) (by kernel_rfl) (by kernel_rfl) (by kernel_rfl) vs w
theorem zFD:p_.underlying 57=some (.slice 201):=by kernel_rfl
theorem zFk:width p_ 201=some 2:=by kernel_rfl
def zUh:AS:=q [B 9 .lss 8 7] (s (i 9 n (e 0)) (s (b 1 (q [m 10 8,A 11 3 6 8,o 12 (h (some 3) 11),o 4 (y Z8),m 3 10,W 3 4 12] (s (.rops [(none,F 13 0 4),(none,L 14 13),(some [],c 15 218 [14]),(none,o 16 (j 15)),(none,m 17 16),(none,gF 18 17 false 1 4),(none,gL 19 17 false 18),(none,gF 20 17 false 2 4),(none,gL 21 17 false 20),(some [],gC 22 17 false 181 [19,21]),(none,g 23 17 false (j 22)),(none,o 24 (x 17 tt 23)),(none,m 25 24),(none,mg 26 25 false 3),(none,gB 27 25 false .gtr 26 (k 0)),(none,mg 28 25 false 27),(none,gF 29 28 true 0 4),(none,gL 30 28 true 29),(none,gF 31 28 true 1 1),(none,gL 32 28 true 31),(none,mg 33 28 true 3),(none,gB 34 28 true .sub 33 (k 1)),(none,gA 35 28 true 3 32 34),(none,gF 36 28 true 0 35),(none,gL 37 28 true 36),(none,gB 38 28 true .leq 30 37),(none,g 39 25 false (x 28 38 ff)),(none,o 40 (x 25 tt 39))]) (z [1,6,7,8,40] (i 40 (q [v 2 ff] r) n))))) (z [1,6,7,8] (p [B 41 .add 8 (k 1),m 8 41]))))
def C349:AS:=q [o 1 (f 0),v 2 ff] (s (q [F 5 1 1,L 6 5,Y 7 6,v 8 (k 0)] (b 0 (l 1 [(1,0),(6,0),(7,0),(8,0)] zUh))) (z [1] (q [F 42 1 1,L 43 42,Y 44 43,c 45 72 [44,(k 1),(k 16)],m 2 45] r)))
theorem H349:hr p_ 349=ho C349 [.tmp 2] 46:=by kernel_rfl
def C351:AS:=q [o 3 (f 0),v 4 ff] (q [L 8 1,F 9 0 3,L 10 9,c 11 227 [8,10],m 7 11,o 12 (a 0 7),o 13 (a 1 7),m 5 12,m 6 13] (z [2,3,6] (q [m 14 6,m 15 14,gL 16 15 false 2,gF 17 15 false 0 3,gL 18 15 false 17,gC 19 15 false 352 [16,18],o 20 (x 15 tt 19),m 4 20] r)))
theorem H351:hr p_ 351=ho C351 [.tmp 4] 21:=by kernel_rfl
theorem H352:hr p_ 352=ho (zDG 362) [.tmp 4] 9:=by kernel_rfl
theorem H359:hr p_ 359=ho zQs [.tmp 4] 20:=by kernel_rfl
def zUi:AS:=q [B 9 .lss 8 7] (s (i 9 n (e 0)) (s (b 1 (q [m 10 8,m 5 10] (q [m 11 1,m 12 0,m 13 5,A 14 1 12 13,L 15 14,B 16 .eql 11 15] (i 16 (q [m 17 5,m 4 17] r) n)))) (z [0,1,7,8] (p [B 18 .add 8 (k 1),m 8 18]))))
def C362:AS:=q [v 4 (k 0)] (s (q [m 6 0,Y 7 6,v 8 (k 0)] (b 0 (l 2 [(0,0),(1,0),(7,0),(8,0)] zUi))) (z [] (q [o 4 (.mv (k (-1)))] r)))
theorem H362:hr p_ 362=ho C362 [.tmp 4] 19:=by kernel_rfl
attribute [go_sem] zY4 C328 C332 C349 C351 C362
end Go.Proofs.Wb

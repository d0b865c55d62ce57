/-
  DERIVED: THE SHELF's CONTRACTS AT THIS DUMP, IN PLAIN WORDS (tools/lay-plain.mjs out of 'YtjfjakbgelikeaaGreatLay.lean', which tools/lay-shelf.mjs wrote): THE SAME DECLARATIONS UNDER THE SAME NAMES: 'import', 'namespace', 'open', 'def', 'theorem' AND NOTHING ELSE: no command of the shelf's: FOR A HAND-IN. Each laying: the table of numbers ('.._ren') and one theorem, a field a fact of the dump's own or the kernel's comparison; each contract: ONE APPLICATION.
-/
import Derived.Test.YtjfjakbgelikeaaGreatProg
import Derived.Shelf.Sort.Plain
import Derived.Ground.NamesProg
namespace Go.Proofs
open Go.Shelf
def Tryz.lays190_ren : Go.Shelf.Ren := ⟨fun | 190 => 168 | 125 => 201 | 258 => 200 | 128 => 230 | 129 => 231 | 302 => 221 | 303 => 222 | 304 => 223 | 305 => 224 | 306 => 225 | 307 => 226 | 308 => 227 | 309 => 228 | 310 => 229 | 333 => 241 | 329 => 242 | 330 => 243 | 334 => 244 | 335 => 245 | 336 => 220 | 344 => 251 | n => n, fun | 31 => 22 | 9 => 9 | 3 => 3 | 46 => 158 | 0 => 0 | 51 => 248 | 53 => 250 | 4 => 4 | 183 => 242 | 182 => 241 | 131 => 72 | 5 => 5 | 218 => 256 | 222 => 260 | 228 => 264 | 229 => 265 | n => n, fun | n => n⟩
theorem Tryz.lays190 : Go.Proofs.Lays.n190 Tryz.prog Tryz.lays190_ren := {
  mixed := by kernel_rfl
  f125 := Tryz.func201.trans (congrArg some (by kernel_rfl))
  f128 := Tryz.func230.trans (congrArg some (by kernel_rfl))
  f129 := Tryz.func231.trans (congrArg some (by kernel_rfl))
  f190 := Tryz.func168.trans (congrArg some (by kernel_rfl))
  f258 := Tryz.func200.trans (congrArg some (by kernel_rfl))
  f302 := Tryz.func221.trans (congrArg some (by kernel_rfl))
  f303 := Tryz.func222.trans (congrArg some (by kernel_rfl))
  f304 := Tryz.func223.trans (congrArg some (by kernel_rfl))
  f305 := Tryz.func224.trans (congrArg some (by kernel_rfl))
  f306 := Tryz.func225.trans (congrArg some (by kernel_rfl))
  f307 := Tryz.func226.trans (congrArg some (by kernel_rfl))
  f308 := Tryz.func227.trans (congrArg some (by kernel_rfl))
  f309 := Tryz.func228.trans (congrArg some (by kernel_rfl))
  f310 := Tryz.func229.trans (congrArg some (by kernel_rfl))
  f329 := Tryz.func242.trans (congrArg some (by kernel_rfl))
  f330 := Tryz.func243.trans (congrArg some (by kernel_rfl))
  f333 := Tryz.func241.trans (congrArg some (by kernel_rfl))
  f334 := Tryz.func244.trans (congrArg some (by kernel_rfl))
  f335 := Tryz.func245.trans (congrArg some (by kernel_rfl))
  f336 := Tryz.func220.trans (congrArg some (by kernel_rfl))
  f344 := Tryz.func251.trans (congrArg some (by kernel_rfl))
  t0 := Tryz.underlying0
  a0 := Tryz.isAgg0
  z0 := Tryz.sizeOf0
  v0 := Tryz.zeroValue0
  t3 := Tryz.underlying3
  a3 := Tryz.isAgg3
  z3 := Tryz.sizeOf3
  v3 := Tryz.zeroValue3
  t4 := Tryz.underlying4
  a4 := Tryz.isAgg4
  z4 := Tryz.sizeOf4
  v4 := Tryz.zeroValue4
  t5 := Tryz.underlying5
  a5 := Tryz.isAgg5
  z5 := Tryz.sizeOf5
  v5 := Tryz.zeroValue5
  t9 := Tryz.underlying9
  a9 := Tryz.isAgg9
  z9 := Tryz.sizeOf9
  v9 := Tryz.zeroValue9
  t31 := Tryz.underlying22
  a31 := Tryz.isAgg22
  z31 := Tryz.sizeOf22
  v31 := Tryz.zeroValue22
  t46 := Tryz.underlying158
  a46 := Tryz.isAgg158
  z46 := Tryz.sizeOf158
  v46 := Tryz.zeroValue158
  t51 := Tryz.underlying248
  a51 := Tryz.isAgg248
  z51 := Tryz.sizeOf248
  v51 := Tryz.zeroValue248
  t53 := Tryz.underlying250
  a53 := Tryz.isAgg250
  z53 := Tryz.sizeOf250
  v53 := Tryz.zeroValue250
  t131 := Tryz.underlying72
  a131 := Tryz.isAgg72
  z131 := Tryz.sizeOf72
  v131 := Tryz.zeroValue72
  t182 := Tryz.underlying241
  a182 := Tryz.isAgg241
  z182 := Tryz.sizeOf241
  v182 := Tryz.zeroValue241
  t183 := Tryz.underlying242
  a183 := Tryz.isAgg242
  z183 := Tryz.sizeOf242
  v183 := Tryz.zeroValue242
  t218 := Tryz.underlying256
  a218 := Tryz.isAgg256
  z218 := Tryz.sizeOf256
  v218 := Tryz.zeroValue256
  t222 := Tryz.underlying260
  a222 := Tryz.isAgg260
  z222 := Tryz.sizeOf260
  v222 := Tryz.zeroValue260
  t228 := Tryz.underlying264
  a228 := Tryz.isAgg264
  z228 := Tryz.sizeOf264
  v228 := Tryz.zeroValue264
  t229 := Tryz.underlying265
  a229 := Tryz.isAgg265
  z229 := Tryz.sizeOf265
  v229 := Tryz.zeroValue265 }
end Go.Proofs

/-
  DERIVED: THE SHELF's CONTRACTS AT THIS DUMP, IN PLAIN WORDS (tools/lay-plain.mjs out of 'YthfpgpkdankdjaaGreatDoorLay.lean', which tools/lay-shelf.mjs wrote): THE SAME DECLARATIONS UNDER THE SAME NAMES: 'import', 'namespace', 'open', 'def', 'theorem' AND NOTHING ELSE: no command of the shelf's: FOR A HAND-IN. Each laying: the table of numbers ('.._ren') and one theorem, a field a fact of the dump's own or the kernel's comparison; each contract: ONE APPLICATION.
-/
import Derived.Test.YthfpgpkdankdjaaGreatDoorProg
import Derived.Shelf.Sort.Plain
import Derived.Ground.NamesProg
namespace Go.Proofs
open Go.Shelf
def Tryz.lays190_ren : Go.Shelf.Ren := ⟨fun | 190 => 147 | 125 => 196 | 258 => 195 | 128 => 240 | 129 => 241 | 302 => 231 | 303 => 232 | 304 => 233 | 305 => 234 | 306 => 235 | 307 => 236 | 308 => 237 | 309 => 238 | 310 => 239 | 333 => 281 | 329 => 282 | 330 => 283 | 334 => 284 | 335 => 285 | 336 => 286 | 344 => 318 | n => n, fun | 31 => 23 | 9 => 9 | 3 => 3 | 46 => 264 | 0 => 0 | 51 => 295 | 53 => 297 | 4 => 4 | 183 => 289 | 182 => 288 | 131 => 159 | 5 => 5 | 218 => 335 | 222 => 339 | 228 => 365 | 229 => 366 | n => n, fun | n => n⟩
theorem Tryz.lays190 : Go.Proofs.Lays.n190 Tryz.prog Tryz.lays190_ren := {
  mixed := by kernel_rfl
  f125 := Tryz.func196.trans (congrArg some (by kernel_rfl))
  f128 := Tryz.func240.trans (congrArg some (by kernel_rfl))
  f129 := Tryz.func241.trans (congrArg some (by kernel_rfl))
  f190 := Tryz.func147.trans (congrArg some (by kernel_rfl))
  f258 := Tryz.func195.trans (congrArg some (by kernel_rfl))
  f302 := Tryz.func231.trans (congrArg some (by kernel_rfl))
  f303 := Tryz.func232.trans (congrArg some (by kernel_rfl))
  f304 := Tryz.func233.trans (congrArg some (by kernel_rfl))
  f305 := Tryz.func234.trans (congrArg some (by kernel_rfl))
  f306 := Tryz.func235.trans (congrArg some (by kernel_rfl))
  f307 := Tryz.func236.trans (congrArg some (by kernel_rfl))
  f308 := Tryz.func237.trans (congrArg some (by kernel_rfl))
  f309 := Tryz.func238.trans (congrArg some (by kernel_rfl))
  f310 := Tryz.func239.trans (congrArg some (by kernel_rfl))
  f329 := Tryz.func282.trans (congrArg some (by kernel_rfl))
  f330 := Tryz.func283.trans (congrArg some (by kernel_rfl))
  f333 := Tryz.func281.trans (congrArg some (by kernel_rfl))
  f334 := Tryz.func284.trans (congrArg some (by kernel_rfl))
  f335 := Tryz.func285.trans (congrArg some (by kernel_rfl))
  f336 := Tryz.func286.trans (congrArg some (by kernel_rfl))
  f344 := Tryz.func318.trans (congrArg some (by kernel_rfl))
  t0 := Tryz.underlying0
  a0 := Tryz.isAgg0
  z0 := Tryz.sizeOf0
  v0 := Tryz.zeroValue0
  t3 := Tryz.underlying3
  a3 := Tryz.isAgg3
  z3 := Tryz.sizeOf3
  v3 := Tryz.zeroValue3
  t4 := Tryz.underlying4
  a4 := Tryz.isAgg4
  z4 := Tryz.sizeOf4
  v4 := Tryz.zeroValue4
  t5 := Tryz.underlying5
  a5 := Tryz.isAgg5
  z5 := Tryz.sizeOf5
  v5 := Tryz.zeroValue5
  t9 := Tryz.underlying9
  a9 := Tryz.isAgg9
  z9 := Tryz.sizeOf9
  v9 := Tryz.zeroValue9
  t31 := Tryz.underlying23
  a31 := Tryz.isAgg23
  z31 := Tryz.sizeOf23
  v31 := Tryz.zeroValue23
  t46 := Tryz.underlying264
  a46 := Tryz.isAgg264
  z46 := Tryz.sizeOf264
  v46 := Tryz.zeroValue264
  t51 := Tryz.underlying295
  a51 := Tryz.isAgg295
  z51 := Tryz.sizeOf295
  v51 := Tryz.zeroValue295
  t53 := Tryz.underlying297
  a53 := Tryz.isAgg297
  z53 := Tryz.sizeOf297
  v53 := Tryz.zeroValue297
  t131 := Tryz.underlying159
  a131 := Tryz.isAgg159
  z131 := Tryz.sizeOf159
  v131 := Tryz.zeroValue159
  t182 := Tryz.underlying288
  a182 := Tryz.isAgg288
  z182 := Tryz.sizeOf288
  v182 := Tryz.zeroValue288
  t183 := Tryz.underlying289
  a183 := Tryz.isAgg289
  z183 := Tryz.sizeOf289
  v183 := Tryz.zeroValue289
  t218 := Tryz.underlying335
  a218 := Tryz.isAgg335
  z218 := Tryz.sizeOf335
  v218 := Tryz.zeroValue335
  t222 := Tryz.underlying339
  a222 := Tryz.isAgg339
  z222 := Tryz.sizeOf339
  v222 := Tryz.zeroValue339
  t228 := Tryz.underlying365
  a228 := Tryz.isAgg365
  z228 := Tryz.sizeOf365
  v228 := Tryz.zeroValue365
  t229 := Tryz.underlying366
  a229 := Tryz.isAgg366
  z229 := Tryz.sizeOf366
  v229 := Tryz.zeroValue366 }
end Go.Proofs

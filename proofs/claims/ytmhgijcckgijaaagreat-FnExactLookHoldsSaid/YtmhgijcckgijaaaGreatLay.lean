/-
  DERIVED: THE SHELF's CONTRACTS AT THIS DUMP, IN PLAIN WORDS (tools/lay-plain.mjs out of 'YtmhgijcckgijaaaGreatLay.lean', which tools/lay-shelf.mjs wrote): THE SAME DECLARATIONS UNDER THE SAME NAMES: 'import', 'namespace', 'open', 'def', 'theorem' AND NOTHING ELSE: no command of the shelf's: FOR A HAND-IN. Each laying: the table of numbers ('.._ren') and one theorem, a field a fact of the dump's own or the kernel's comparison; each contract: ONE APPLICATION.
-/
import Derived.Test.YtmhgijcckgijaaaGreatProg
import Derived.Shelf.Sort.Plain
import Derived.Ground.NamesProg
namespace Go.Proofs
open Go.Shelf
def Tryz.lays190_ren : Go.Shelf.Ren := ⟨fun | 190 => 289 | 125 => 301 | 258 => 300 | 128 => 315 | 129 => 316 | 302 => 306 | 303 => 307 | 304 => 308 | 305 => 309 | 306 => 310 | 307 => 311 | 308 => 312 | 309 => 313 | 310 => 314 | 333 => 318 | 329 => 319 | 330 => 320 | 334 => 321 | 335 => 322 | 336 => 211 | 344 => 323 | n => n, fun | 31 => 23 | 9 => 9 | 3 => 3 | 46 => 265 | 0 => 0 | 51 => 352 | 53 => 354 | 4 => 4 | 183 => 346 | 182 => 345 | 131 => 205 | 5 => 5 | 218 => 356 | 222 => 360 | 228 => 362 | 229 => 363 | n => n, fun | n => n⟩
theorem Tryz.lays190 : Go.Proofs.Lays.n190 Tryz.prog Tryz.lays190_ren := {
  mixed := by kernel_rfl
  f125 := Tryz.func301.trans (congrArg some (by kernel_rfl))
  f128 := Tryz.func315.trans (congrArg some (by kernel_rfl))
  f129 := Tryz.func316.trans (congrArg some (by kernel_rfl))
  f190 := Tryz.func289.trans (congrArg some (by kernel_rfl))
  f258 := Tryz.func300.trans (congrArg some (by kernel_rfl))
  f302 := Tryz.func306.trans (congrArg some (by kernel_rfl))
  f303 := Tryz.func307.trans (congrArg some (by kernel_rfl))
  f304 := Tryz.func308.trans (congrArg some (by kernel_rfl))
  f305 := Tryz.func309.trans (congrArg some (by kernel_rfl))
  f306 := Tryz.func310.trans (congrArg some (by kernel_rfl))
  f307 := Tryz.func311.trans (congrArg some (by kernel_rfl))
  f308 := Tryz.func312.trans (congrArg some (by kernel_rfl))
  f309 := Tryz.func313.trans (congrArg some (by kernel_rfl))
  f310 := Tryz.func314.trans (congrArg some (by kernel_rfl))
  f329 := Tryz.func319.trans (congrArg some (by kernel_rfl))
  f330 := Tryz.func320.trans (congrArg some (by kernel_rfl))
  f333 := Tryz.func318.trans (congrArg some (by kernel_rfl))
  f334 := Tryz.func321.trans (congrArg some (by kernel_rfl))
  f335 := Tryz.func322.trans (congrArg some (by kernel_rfl))
  f336 := Tryz.func211.trans (congrArg some (by kernel_rfl))
  f344 := Tryz.func323.trans (congrArg some (by kernel_rfl))
  t0 := Tryz.underlying0
  a0 := Tryz.isAgg0
  z0 := Tryz.sizeOf0
  v0 := Tryz.zeroValue0
  t3 := Tryz.underlying3
  a3 := Tryz.isAgg3
  z3 := Tryz.sizeOf3
  v3 := Tryz.zeroValue3
  t4 := Tryz.underlying4
  a4 := Tryz.isAgg4
  z4 := Tryz.sizeOf4
  v4 := Tryz.zeroValue4
  t5 := Tryz.underlying5
  a5 := Tryz.isAgg5
  z5 := Tryz.sizeOf5
  v5 := Tryz.zeroValue5
  t9 := Tryz.underlying9
  a9 := Tryz.isAgg9
  z9 := Tryz.sizeOf9
  v9 := Tryz.zeroValue9
  t31 := Tryz.underlying23
  a31 := Tryz.isAgg23
  z31 := Tryz.sizeOf23
  v31 := Tryz.zeroValue23
  t46 := Tryz.underlying265
  a46 := Tryz.isAgg265
  z46 := Tryz.sizeOf265
  v46 := Tryz.zeroValue265
  t51 := Tryz.underlying352
  a51 := Tryz.isAgg352
  z51 := Tryz.sizeOf352
  v51 := Tryz.zeroValue352
  t53 := Tryz.underlying354
  a53 := Tryz.isAgg354
  z53 := Tryz.sizeOf354
  v53 := Tryz.zeroValue354
  t131 := Tryz.underlying205
  a131 := Tryz.isAgg205
  z131 := Tryz.sizeOf205
  v131 := Tryz.zeroValue205
  t182 := Tryz.underlying345
  a182 := Tryz.isAgg345
  z182 := Tryz.sizeOf345
  v182 := Tryz.zeroValue345
  t183 := Tryz.underlying346
  a183 := Tryz.isAgg346
  z183 := Tryz.sizeOf346
  v183 := Tryz.zeroValue346
  t218 := Tryz.underlying356
  a218 := Tryz.isAgg356
  z218 := Tryz.sizeOf356
  v218 := Tryz.zeroValue356
  t222 := Tryz.underlying360
  a222 := Tryz.isAgg360
  z222 := Tryz.sizeOf360
  v222 := Tryz.zeroValue360
  t228 := Tryz.underlying362
  a228 := Tryz.isAgg362
  z228 := Tryz.sizeOf362
  v228 := Tryz.zeroValue362
  t229 := Tryz.underlying363
  a229 := Tryz.isAgg363
  z229 := Tryz.sizeOf363
  v229 := Tryz.zeroValue363 }
end Go.Proofs

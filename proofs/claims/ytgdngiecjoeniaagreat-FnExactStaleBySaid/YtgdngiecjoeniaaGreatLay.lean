/-
  DERIVED: THE SHELF's CONTRACTS AT THIS DUMP, IN PLAIN WORDS (tools/lay-plain.mjs out of 'YtgdngiecjoeniaaGreatLay.lean', which tools/lay-shelf.mjs wrote): THE SAME DECLARATIONS UNDER THE SAME NAMES: 'import', 'namespace', 'open', 'def', 'theorem' AND NOTHING ELSE: no command of the shelf's: FOR A HAND-IN. Each laying: the table of numbers ('.._ren') and one theorem, a field a fact of the dump's own or the kernel's comparison; each contract: ONE APPLICATION.
-/
import Derived.Test.YtgdngiecjoeniaaGreatProg
import Derived.Shelf.Sort.Plain
import Derived.Ground.NamesProg
namespace Go.Proofs
open Go.Shelf
def Tryz.lays190_ren : Go.Shelf.Ren := ⟨fun | 190 => 258 | 125 => 276 | 258 => 275 | 128 => 296 | 129 => 297 | 302 => 287 | 303 => 288 | 304 => 289 | 305 => 290 | 306 => 291 | 307 => 292 | 308 => 293 | 309 => 294 | 310 => 295 | 333 => 300 | 329 => 301 | 330 => 302 | 334 => 303 | 335 => 304 | 336 => 281 | 344 => 305 | n => n, fun | 31 => 23 | 9 => 9 | 3 => 3 | 46 => 243 | 0 => 0 | 51 => 329 | 53 => 331 | 4 => 4 | 183 => 323 | 182 => 322 | 131 => 32 | 5 => 5 | 218 => 334 | 222 => 338 | 228 => 340 | 229 => 341 | n => n, fun | n => n⟩
theorem Tryz.lays190 : Go.Proofs.Lays.n190 Tryz.prog Tryz.lays190_ren := {
  mixed := by kernel_rfl
  f125 := Tryz.func276.trans (congrArg some (by kernel_rfl))
  f128 := Tryz.func296.trans (congrArg some (by kernel_rfl))
  f129 := Tryz.func297.trans (congrArg some (by kernel_rfl))
  f190 := Tryz.func258.trans (congrArg some (by kernel_rfl))
  f258 := Tryz.func275.trans (congrArg some (by kernel_rfl))
  f302 := Tryz.func287.trans (congrArg some (by kernel_rfl))
  f303 := Tryz.func288.trans (congrArg some (by kernel_rfl))
  f304 := Tryz.func289.trans (congrArg some (by kernel_rfl))
  f305 := Tryz.func290.trans (congrArg some (by kernel_rfl))
  f306 := Tryz.func291.trans (congrArg some (by kernel_rfl))
  f307 := Tryz.func292.trans (congrArg some (by kernel_rfl))
  f308 := Tryz.func293.trans (congrArg some (by kernel_rfl))
  f309 := Tryz.func294.trans (congrArg some (by kernel_rfl))
  f310 := Tryz.func295.trans (congrArg some (by kernel_rfl))
  f329 := Tryz.func301.trans (congrArg some (by kernel_rfl))
  f330 := Tryz.func302.trans (congrArg some (by kernel_rfl))
  f333 := Tryz.func300.trans (congrArg some (by kernel_rfl))
  f334 := Tryz.func303.trans (congrArg some (by kernel_rfl))
  f335 := Tryz.func304.trans (congrArg some (by kernel_rfl))
  f336 := Tryz.func281.trans (congrArg some (by kernel_rfl))
  f344 := Tryz.func305.trans (congrArg some (by kernel_rfl))
  t0 := Tryz.underlying0
  a0 := Tryz.isAgg0
  z0 := Tryz.sizeOf0
  v0 := Tryz.zeroValue0
  t3 := Tryz.underlying3
  a3 := Tryz.isAgg3
  z3 := Tryz.sizeOf3
  v3 := Tryz.zeroValue3
  t4 := Tryz.underlying4
  a4 := Tryz.isAgg4
  z4 := Tryz.sizeOf4
  v4 := Tryz.zeroValue4
  t5 := Tryz.underlying5
  a5 := Tryz.isAgg5
  z5 := Tryz.sizeOf5
  v5 := Tryz.zeroValue5
  t9 := Tryz.underlying9
  a9 := Tryz.isAgg9
  z9 := Tryz.sizeOf9
  v9 := Tryz.zeroValue9
  t31 := Tryz.underlying23
  a31 := Tryz.isAgg23
  z31 := Tryz.sizeOf23
  v31 := Tryz.zeroValue23
  t46 := Tryz.underlying243
  a46 := Tryz.isAgg243
  z46 := Tryz.sizeOf243
  v46 := Tryz.zeroValue243
  t51 := Tryz.underlying329
  a51 := Tryz.isAgg329
  z51 := Tryz.sizeOf329
  v51 := Tryz.zeroValue329
  t53 := Tryz.underlying331
  a53 := Tryz.isAgg331
  z53 := Tryz.sizeOf331
  v53 := Tryz.zeroValue331
  t131 := Tryz.underlying32
  a131 := Tryz.isAgg32
  z131 := Tryz.sizeOf32
  v131 := Tryz.zeroValue32
  t182 := Tryz.underlying322
  a182 := Tryz.isAgg322
  z182 := Tryz.sizeOf322
  v182 := Tryz.zeroValue322
  t183 := Tryz.underlying323
  a183 := Tryz.isAgg323
  z183 := Tryz.sizeOf323
  v183 := Tryz.zeroValue323
  t218 := Tryz.underlying334
  a218 := Tryz.isAgg334
  z218 := Tryz.sizeOf334
  v218 := Tryz.zeroValue334
  t222 := Tryz.underlying338
  a222 := Tryz.isAgg338
  z222 := Tryz.sizeOf338
  v222 := Tryz.zeroValue338
  t228 := Tryz.underlying340
  a228 := Tryz.isAgg340
  z228 := Tryz.sizeOf340
  v228 := Tryz.zeroValue340
  t229 := Tryz.underlying341
  a229 := Tryz.isAgg341
  z229 := Tryz.sizeOf341
  v229 := Tryz.zeroValue341 }
end Go.Proofs

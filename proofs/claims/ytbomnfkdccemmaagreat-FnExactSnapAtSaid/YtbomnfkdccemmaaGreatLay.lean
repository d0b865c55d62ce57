/-
  DERIVED: THE SHELF's CONTRACTS AT THIS DUMP, IN PLAIN WORDS (tools/lay-plain.mjs out of 'YtbomnfkdccemmaaGreatLay.lean', which tools/lay-shelf.mjs wrote): THE SAME DECLARATIONS UNDER THE SAME NAMES: 'import', 'namespace', 'open', 'def', 'theorem' AND NOTHING ELSE: no command of the shelf's: FOR A HAND-IN. Each laying: the table of numbers ('.._ren') and one theorem, a field a fact of the dump's own or the kernel's comparison; each contract: ONE APPLICATION.
-/
import Derived.Test.YtbomnfkdccemmaaGreatProg
import Derived.Shelf.Sort.Plain
import Derived.Ground.NamesProg
namespace Go.Proofs
open Go.Shelf
def Tryz.lays190_ren : Go.Shelf.Ren := ⟨fun | 190 => 275 | 125 => 289 | 258 => 288 | 128 => 303 | 129 => 304 | 302 => 294 | 303 => 295 | 304 => 296 | 305 => 297 | 306 => 298 | 307 => 299 | 308 => 300 | 309 => 301 | 310 => 302 | 333 => 306 | 329 => 307 | 330 => 308 | 334 => 309 | 335 => 310 | 336 => 193 | 344 => 311 | n => n, fun | 31 => 23 | 9 => 9 | 3 => 3 | 46 => 251 | 0 => 0 | 51 => 345 | 53 => 347 | 4 => 4 | 183 => 339 | 182 => 338 | 131 => 190 | 5 => 5 | 218 => 349 | 222 => 353 | 228 => 355 | 229 => 356 | n => n, fun | n => n⟩
theorem Tryz.lays190 : Go.Proofs.Lays.n190 Tryz.prog Tryz.lays190_ren := {
  mixed := by kernel_rfl
  f125 := Tryz.func289.trans (congrArg some (by kernel_rfl))
  f128 := Tryz.func303.trans (congrArg some (by kernel_rfl))
  f129 := Tryz.func304.trans (congrArg some (by kernel_rfl))
  f190 := Tryz.func275.trans (congrArg some (by kernel_rfl))
  f258 := Tryz.func288.trans (congrArg some (by kernel_rfl))
  f302 := Tryz.func294.trans (congrArg some (by kernel_rfl))
  f303 := Tryz.func295.trans (congrArg some (by kernel_rfl))
  f304 := Tryz.func296.trans (congrArg some (by kernel_rfl))
  f305 := Tryz.func297.trans (congrArg some (by kernel_rfl))
  f306 := Tryz.func298.trans (congrArg some (by kernel_rfl))
  f307 := Tryz.func299.trans (congrArg some (by kernel_rfl))
  f308 := Tryz.func300.trans (congrArg some (by kernel_rfl))
  f309 := Tryz.func301.trans (congrArg some (by kernel_rfl))
  f310 := Tryz.func302.trans (congrArg some (by kernel_rfl))
  f329 := Tryz.func307.trans (congrArg some (by kernel_rfl))
  f330 := Tryz.func308.trans (congrArg some (by kernel_rfl))
  f333 := Tryz.func306.trans (congrArg some (by kernel_rfl))
  f334 := Tryz.func309.trans (congrArg some (by kernel_rfl))
  f335 := Tryz.func310.trans (congrArg some (by kernel_rfl))
  f336 := Tryz.func193.trans (congrArg some (by kernel_rfl))
  f344 := Tryz.func311.trans (congrArg some (by kernel_rfl))
  t0 := Tryz.underlying0
  a0 := Tryz.isAgg0
  z0 := Tryz.sizeOf0
  v0 := Tryz.zeroValue0
  t3 := Tryz.underlying3
  a3 := Tryz.isAgg3
  z3 := Tryz.sizeOf3
  v3 := Tryz.zeroValue3
  t4 := Tryz.underlying4
  a4 := Tryz.isAgg4
  z4 := Tryz.sizeOf4
  v4 := Tryz.zeroValue4
  t5 := Tryz.underlying5
  a5 := Tryz.isAgg5
  z5 := Tryz.sizeOf5
  v5 := Tryz.zeroValue5
  t9 := Tryz.underlying9
  a9 := Tryz.isAgg9
  z9 := Tryz.sizeOf9
  v9 := Tryz.zeroValue9
  t31 := Tryz.underlying23
  a31 := Tryz.isAgg23
  z31 := Tryz.sizeOf23
  v31 := Tryz.zeroValue23
  t46 := Tryz.underlying251
  a46 := Tryz.isAgg251
  z46 := Tryz.sizeOf251
  v46 := Tryz.zeroValue251
  t51 := Tryz.underlying345
  a51 := Tryz.isAgg345
  z51 := Tryz.sizeOf345
  v51 := Tryz.zeroValue345
  t53 := Tryz.underlying347
  a53 := Tryz.isAgg347
  z53 := Tryz.sizeOf347
  v53 := Tryz.zeroValue347
  t131 := Tryz.underlying190
  a131 := Tryz.isAgg190
  z131 := Tryz.sizeOf190
  v131 := Tryz.zeroValue190
  t182 := Tryz.underlying338
  a182 := Tryz.isAgg338
  z182 := Tryz.sizeOf338
  v182 := Tryz.zeroValue338
  t183 := Tryz.underlying339
  a183 := Tryz.isAgg339
  z183 := Tryz.sizeOf339
  v183 := Tryz.zeroValue339
  t218 := Tryz.underlying349
  a218 := Tryz.isAgg349
  z218 := Tryz.sizeOf349
  v218 := Tryz.zeroValue349
  t222 := Tryz.underlying353
  a222 := Tryz.isAgg353
  z222 := Tryz.sizeOf353
  v222 := Tryz.zeroValue353
  t228 := Tryz.underlying355
  a228 := Tryz.isAgg355
  z228 := Tryz.sizeOf355
  v228 := Tryz.zeroValue355
  t229 := Tryz.underlying356
  a229 := Tryz.isAgg356
  z229 := Tryz.sizeOf356
  v229 := Tryz.zeroValue356 }
end Go.Proofs

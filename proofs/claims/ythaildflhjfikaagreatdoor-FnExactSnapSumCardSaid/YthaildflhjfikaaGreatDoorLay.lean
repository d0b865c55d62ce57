/-
  DERIVED: THE SHELF's CONTRACTS AT THIS DUMP, IN PLAIN WORDS (tools/lay-plain.mjs out of 'YthaildflhjfikaaGreatDoorLay.lean', which tools/lay-shelf.mjs wrote): THE SAME DECLARATIONS UNDER THE SAME NAMES: 'import', 'namespace', 'open', 'def', 'theorem' AND NOTHING ELSE: no command of the shelf's: FOR A HAND-IN. Each laying: the table of numbers ('.._ren') and one theorem, a field a fact of the dump's own or the kernel's comparison; each contract: ONE APPLICATION.
-/
import Derived.Test.YthaildflhjfikaaGreatDoorProg
import Derived.Shelf.Sort.Plain
import Derived.Ground.NamesProg
namespace Go.Proofs
open Go.Shelf
def Tryz.lays190_ren : Go.Shelf.Ren := ⟨fun | 190 => 293 | 125 => 306 | 258 => 305 | 128 => 320 | 129 => 236 | 302 => 311 | 303 => 312 | 304 => 313 | 305 => 314 | 306 => 315 | 307 => 316 | 308 => 317 | 309 => 318 | 310 => 319 | 333 => 322 | 329 => 323 | 330 => 324 | 334 => 325 | 335 => 326 | 336 => 195 | 344 => 327 | n => n, fun | 31 => 23 | 9 => 9 | 3 => 3 | 46 => 262 | 0 => 0 | 51 => 311 | 53 => 264 | 4 => 4 | 183 => 368 | 182 => 367 | 131 => 32 | 5 => 5 | 218 => 374 | 222 => 378 | 228 => 380 | 229 => 381 | n => n, fun | n => n⟩
theorem Tryz.lays190 : Go.Proofs.Lays.n190 Tryz.prog Tryz.lays190_ren := {
  mixed := by kernel_rfl
  f125 := Tryz.func306.trans (congrArg some (by kernel_rfl))
  f128 := Tryz.func320.trans (congrArg some (by kernel_rfl))
  f129 := Tryz.func236.trans (congrArg some (by kernel_rfl))
  f190 := Tryz.func293.trans (congrArg some (by kernel_rfl))
  f258 := Tryz.func305.trans (congrArg some (by kernel_rfl))
  f302 := Tryz.func311.trans (congrArg some (by kernel_rfl))
  f303 := Tryz.func312.trans (congrArg some (by kernel_rfl))
  f304 := Tryz.func313.trans (congrArg some (by kernel_rfl))
  f305 := Tryz.func314.trans (congrArg some (by kernel_rfl))
  f306 := Tryz.func315.trans (congrArg some (by kernel_rfl))
  f307 := Tryz.func316.trans (congrArg some (by kernel_rfl))
  f308 := Tryz.func317.trans (congrArg some (by kernel_rfl))
  f309 := Tryz.func318.trans (congrArg some (by kernel_rfl))
  f310 := Tryz.func319.trans (congrArg some (by kernel_rfl))
  f329 := Tryz.func323.trans (congrArg some (by kernel_rfl))
  f330 := Tryz.func324.trans (congrArg some (by kernel_rfl))
  f333 := Tryz.func322.trans (congrArg some (by kernel_rfl))
  f334 := Tryz.func325.trans (congrArg some (by kernel_rfl))
  f335 := Tryz.func326.trans (congrArg some (by kernel_rfl))
  f336 := Tryz.func195.trans (congrArg some (by kernel_rfl))
  f344 := Tryz.func327.trans (congrArg some (by kernel_rfl))
  t0 := Tryz.underlying0
  a0 := Tryz.isAgg0
  z0 := Tryz.sizeOf0
  v0 := Tryz.zeroValue0
  t3 := Tryz.underlying3
  a3 := Tryz.isAgg3
  z3 := Tryz.sizeOf3
  v3 := Tryz.zeroValue3
  t4 := Tryz.underlying4
  a4 := Tryz.isAgg4
  z4 := Tryz.sizeOf4
  v4 := Tryz.zeroValue4
  t5 := Tryz.underlying5
  a5 := Tryz.isAgg5
  z5 := Tryz.sizeOf5
  v5 := Tryz.zeroValue5
  t9 := Tryz.underlying9
  a9 := Tryz.isAgg9
  z9 := Tryz.sizeOf9
  v9 := Tryz.zeroValue9
  t31 := Tryz.underlying23
  a31 := Tryz.isAgg23
  z31 := Tryz.sizeOf23
  v31 := Tryz.zeroValue23
  t46 := Tryz.underlying262
  a46 := Tryz.isAgg262
  z46 := Tryz.sizeOf262
  v46 := Tryz.zeroValue262
  t51 := Tryz.underlying311
  a51 := Tryz.isAgg311
  z51 := Tryz.sizeOf311
  v51 := Tryz.zeroValue311
  t53 := Tryz.underlying264
  a53 := Tryz.isAgg264
  z53 := Tryz.sizeOf264
  v53 := Tryz.zeroValue264
  t131 := Tryz.underlying32
  a131 := Tryz.isAgg32
  z131 := Tryz.sizeOf32
  v131 := Tryz.zeroValue32
  t182 := Tryz.underlying367
  a182 := Tryz.isAgg367
  z182 := Tryz.sizeOf367
  v182 := Tryz.zeroValue367
  t183 := Tryz.underlying368
  a183 := Tryz.isAgg368
  z183 := Tryz.sizeOf368
  v183 := Tryz.zeroValue368
  t218 := Tryz.underlying374
  a218 := Tryz.isAgg374
  z218 := Tryz.sizeOf374
  v218 := Tryz.zeroValue374
  t222 := Tryz.underlying378
  a222 := Tryz.isAgg378
  z222 := Tryz.sizeOf378
  v222 := Tryz.zeroValue378
  t228 := Tryz.underlying380
  a228 := Tryz.isAgg380
  z228 := Tryz.sizeOf380
  v228 := Tryz.zeroValue380
  t229 := Tryz.underlying381
  a229 := Tryz.isAgg381
  z229 := Tryz.sizeOf381
  v229 := Tryz.zeroValue381 }
end Go.Proofs

/-
  DERIVED: THE SHELF's CONTRACTS AT THIS DUMP, IN PLAIN WORDS (tools/lay-plain.mjs out of 'YtlcebphcohneaaaGreatLay.lean', which tools/lay-shelf.mjs wrote): THE SAME DECLARATIONS UNDER THE SAME NAMES: 'import', 'namespace', 'open', 'def', 'theorem' AND NOTHING ELSE: no command of the shelf's: FOR A HAND-IN. Each laying: the table of numbers ('.._ren') and one theorem, a field a fact of the dump's own or the kernel's comparison; each contract: ONE APPLICATION.
-/
import Derived.Test.YtlcebphcohneaaaGreatProg
import Derived.Shelf.Sort.Plain
import Derived.Ground.NamesProg
namespace Go.Proofs
open Go.Shelf
def Tryz.lays190_ren : Go.Shelf.Ren := ⟨fun | 190 => 226 | 125 => 240 | 258 => 239 | 128 => 257 | 129 => 258 | 302 => 248 | 303 => 249 | 304 => 250 | 305 => 251 | 306 => 252 | 307 => 253 | 308 => 254 | 309 => 255 | 310 => 256 | 333 => 261 | 329 => 262 | 330 => 263 | 334 => 264 | 335 => 265 | 336 => 213 | 344 => 267 | n => n, fun | 31 => 61 | 9 => 9 | 3 => 3 | 46 => 247 | 0 => 0 | 51 => 279 | 53 => 281 | 4 => 4 | 183 => 273 | 182 => 272 | 131 => 146 | 5 => 5 | 218 => 283 | 222 => 287 | 228 => 290 | 229 => 291 | n => n, fun | n => n⟩
theorem Tryz.lays190 : Go.Proofs.Lays.n190 Tryz.prog Tryz.lays190_ren := {
  mixed := by kernel_rfl
  f125 := Tryz.func240.trans (congrArg some (by kernel_rfl))
  f128 := Tryz.func257.trans (congrArg some (by kernel_rfl))
  f129 := Tryz.func258.trans (congrArg some (by kernel_rfl))
  f190 := Tryz.func226.trans (congrArg some (by kernel_rfl))
  f258 := Tryz.func239.trans (congrArg some (by kernel_rfl))
  f302 := Tryz.func248.trans (congrArg some (by kernel_rfl))
  f303 := Tryz.func249.trans (congrArg some (by kernel_rfl))
  f304 := Tryz.func250.trans (congrArg some (by kernel_rfl))
  f305 := Tryz.func251.trans (congrArg some (by kernel_rfl))
  f306 := Tryz.func252.trans (congrArg some (by kernel_rfl))
  f307 := Tryz.func253.trans (congrArg some (by kernel_rfl))
  f308 := Tryz.func254.trans (congrArg some (by kernel_rfl))
  f309 := Tryz.func255.trans (congrArg some (by kernel_rfl))
  f310 := Tryz.func256.trans (congrArg some (by kernel_rfl))
  f329 := Tryz.func262.trans (congrArg some (by kernel_rfl))
  f330 := Tryz.func263.trans (congrArg some (by kernel_rfl))
  f333 := Tryz.func261.trans (congrArg some (by kernel_rfl))
  f334 := Tryz.func264.trans (congrArg some (by kernel_rfl))
  f335 := Tryz.func265.trans (congrArg some (by kernel_rfl))
  f336 := Tryz.func213.trans (congrArg some (by kernel_rfl))
  f344 := Tryz.func267.trans (congrArg some (by kernel_rfl))
  t0 := Tryz.underlying0
  a0 := Tryz.isAgg0
  z0 := Tryz.sizeOf0
  v0 := Tryz.zeroValue0
  t3 := Tryz.underlying3
  a3 := Tryz.isAgg3
  z3 := Tryz.sizeOf3
  v3 := Tryz.zeroValue3
  t4 := Tryz.underlying4
  a4 := Tryz.isAgg4
  z4 := Tryz.sizeOf4
  v4 := Tryz.zeroValue4
  t5 := Tryz.underlying5
  a5 := Tryz.isAgg5
  z5 := Tryz.sizeOf5
  v5 := Tryz.zeroValue5
  t9 := Tryz.underlying9
  a9 := Tryz.isAgg9
  z9 := Tryz.sizeOf9
  v9 := Tryz.zeroValue9
  t31 := Tryz.underlying61
  a31 := Tryz.isAgg61
  z31 := Tryz.sizeOf61
  v31 := Tryz.zeroValue61
  t46 := Tryz.underlying247
  a46 := Tryz.isAgg247
  z46 := Tryz.sizeOf247
  v46 := Tryz.zeroValue247
  t51 := Tryz.underlying279
  a51 := Tryz.isAgg279
  z51 := Tryz.sizeOf279
  v51 := Tryz.zeroValue279
  t53 := Tryz.underlying281
  a53 := Tryz.isAgg281
  z53 := Tryz.sizeOf281
  v53 := Tryz.zeroValue281
  t131 := Tryz.underlying146
  a131 := Tryz.isAgg146
  z131 := Tryz.sizeOf146
  v131 := Tryz.zeroValue146
  t182 := Tryz.underlying272
  a182 := Tryz.isAgg272
  z182 := Tryz.sizeOf272
  v182 := Tryz.zeroValue272
  t183 := Tryz.underlying273
  a183 := Tryz.isAgg273
  z183 := Tryz.sizeOf273
  v183 := Tryz.zeroValue273
  t218 := Tryz.underlying283
  a218 := Tryz.isAgg283
  z218 := Tryz.sizeOf283
  v218 := Tryz.zeroValue283
  t222 := Tryz.underlying287
  a222 := Tryz.isAgg287
  z222 := Tryz.sizeOf287
  v222 := Tryz.zeroValue287
  t228 := Tryz.underlying290
  a228 := Tryz.isAgg290
  z228 := Tryz.sizeOf290
  v228 := Tryz.zeroValue290
  t229 := Tryz.underlying291
  a229 := Tryz.isAgg291
  z229 := Tryz.sizeOf291
  v229 := Tryz.zeroValue291 }
end Go.Proofs

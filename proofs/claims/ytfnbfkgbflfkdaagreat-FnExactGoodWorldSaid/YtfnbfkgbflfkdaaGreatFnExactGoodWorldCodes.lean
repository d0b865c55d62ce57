/- The compiled statements of the functions that the law reaches. -/
import Derived.Test.YtfnbfkgbflfkdaaGreatProg
import Derived.Test.YtfnbfkgbflfkdaaGreatAmAuto
import Derived.Test.YtfnbfkgbflfkdaaGreatAmSet
namespace Go.Proofs.Wb
open Go Go.Am Go.Am.K
@[go_sem] theorem w_7 : wide Tryz.prog 7 = some (some 4) := by kernel_rfl
@[go_sem] theorem w_8 : wide Tryz.prog 8 = some (some 4) := by kernel_rfl
@[go_sem] theorem w_13 : wide Tryz.prog 13 = some (some 2) := by kernel_rfl
@[go_sem] theorem w_14 : wide Tryz.prog 14 = some (some 2) := by kernel_rfl
@[go_sem] theorem w_18 : wide Tryz.prog 18 = some (some 1) := by kernel_rfl
@[go_sem] theorem w_19 : wide Tryz.prog 19 = some (some 1) := by kernel_rfl
@[go_sem] theorem w_29 : wide Tryz.prog 29 = some (some 9) := by kernel_rfl
@[go_sem] theorem w_30 : wide Tryz.prog 30 = some (some 9) := by kernel_rfl
@[go_sem] theorem w_38 : wide Tryz.prog 38 = some (some 9) := by kernel_rfl
@[go_sem] theorem w_39 : wide Tryz.prog 39 = some (some 9) := by kernel_rfl
@[go_sem] theorem w_59 : wide Tryz.prog 59 = some (some 3) := by kernel_rfl
@[go_sem] theorem w_60 : wide Tryz.prog 60 = some (some 3) := by kernel_rfl
@[go_sem] theorem w_67 : wide Tryz.prog 67 = some (some 1) := by kernel_rfl
@[go_sem] theorem w_68 : wide Tryz.prog 68 = some (some 1) := by kernel_rfl
@[go_sem] theorem w_73 : wide Tryz.prog 73 = some (some 10) := by kernel_rfl
@[go_sem] theorem w_74 : wide Tryz.prog 74 = some (some 10) := by kernel_rfl
@[go_sem] theorem w_77 : wide Tryz.prog 77 = some (some 6) := by kernel_rfl
@[go_sem] theorem w_78 : wide Tryz.prog 78 = some (some 6) := by kernel_rfl
@[go_sem] theorem w_89 : wide Tryz.prog 89 = some (some 3) := by kernel_rfl
@[go_sem] theorem w_90 : wide Tryz.prog 90 = some (some 3) := by kernel_rfl
@[go_sem] theorem w_96 : wide Tryz.prog 96 = some (some 10) := by kernel_rfl
@[go_sem] theorem w_97 : wide Tryz.prog 97 = some (some 10) := by kernel_rfl
@[go_sem] theorem w_99 : wide Tryz.prog 99 = some (some 6) := by kernel_rfl
@[go_sem] theorem w_100 : wide Tryz.prog 100 = some (some 6) := by kernel_rfl
@[go_sem] theorem w_105 : wide Tryz.prog 105 = some (some 1) := by kernel_rfl
@[go_sem] theorem w_111 : wide Tryz.prog 111 = some (some 3) := by kernel_rfl
@[go_sem] theorem w_112 : wide Tryz.prog 112 = some (some 3) := by kernel_rfl
@[go_sem] theorem w_116 : wide Tryz.prog 116 = some (some 3) := by kernel_rfl
@[go_sem] theorem w_117 : wide Tryz.prog 117 = some (some 3) := by kernel_rfl
@[go_sem] theorem w_127 : wide Tryz.prog 127 = some (some 3) := by kernel_rfl
@[go_sem] theorem w_128 : wide Tryz.prog 128 = some (some 3) := by kernel_rfl
@[go_sem] theorem w_136 : wide Tryz.prog 136 = some (some 3) := by kernel_rfl
@[go_sem] theorem w_147 : wide Tryz.prog 147 = some (some 7) := by kernel_rfl
@[go_sem] theorem w_148 : wide Tryz.prog 148 = some (some 7) := by kernel_rfl
@[go_sem] theorem w_149 : wide Tryz.prog 149 = some (some 8) := by kernel_rfl
@[go_sem] theorem w_150 : wide Tryz.prog 150 = some (some 8) := by kernel_rfl
@[go_sem] theorem w_162 : wide Tryz.prog 162 = some (some 3) := by kernel_rfl
@[go_sem] theorem w_163 : wide Tryz.prog 163 = some (some 3) := by kernel_rfl
@[go_sem] theorem w_165 : wide Tryz.prog 165 = some (some 4) := by kernel_rfl
@[go_sem] theorem w_166 : wide Tryz.prog 166 = some (some 4) := by kernel_rfl
@[go_sem] theorem w_168 : wide Tryz.prog 168 = some (some 3) := by kernel_rfl
@[go_sem] theorem w_170 : wide Tryz.prog 170 = some (some 4) := by kernel_rfl
@[go_sem] theorem w_187 : wide Tryz.prog 187 = some (some 3) := by kernel_rfl
@[go_sem] theorem w_188 : wide Tryz.prog 188 = some (some 3) := by kernel_rfl
@[go_sem] theorem w_194 : wide Tryz.prog 194 = some (some 7) := by kernel_rfl
@[go_sem] theorem w_195 : wide Tryz.prog 195 = some (some 7) := by kernel_rfl
@[go_sem] theorem w_196 : wide Tryz.prog 196 = some (some 8) := by kernel_rfl
@[go_sem] theorem w_197 : wide Tryz.prog 197 = some (some 8) := by kernel_rfl
@[go_sem] theorem w_209 : wide Tryz.prog 209 = some (some 3) := by kernel_rfl
@[go_sem] theorem w_213 : wide Tryz.prog 213 = some (some 4) := by kernel_rfl
@[go_sem] theorem w_214 : wide Tryz.prog 214 = some (some 4) := by kernel_rfl
@[go_sem] theorem w_226 : wide Tryz.prog 226 = some (some 11) := by kernel_rfl
@[go_sem] theorem w_227 : wide Tryz.prog 227 = some (some 11) := by kernel_rfl
@[go_sem] theorem w_232 : wide Tryz.prog 232 = some (some 2) := by kernel_rfl
@[go_sem] theorem w_233 : wide Tryz.prog 233 = some (some 2) := by kernel_rfl
-- 3 loop.example/g00850/laws.FnExactGoodWorld
abbrev n_laws_FnExactGoodWorld : Nat := 3
def c_laws_FnExactGoodWorld : AS :=
 .seq (.ops [o 1 (.box (t 0)),
 o 2 (.mv ff)])
 (.seq (.ops [o 3 (.mv (k 1048576))])
 (.seq (.ops [o 7 (.load (some 9) (t 1)),
 m 8 3,
 o 9 (.call 4 [(t 7), (t 8)]),
 m 3 9])
 (.seq (.seq (.ops [m 10 3,
 o 11 (.bin .lss (t 10) (k 0))])
 (.cond (t 11) (.seq (.ops [o 2 (.mv tt)])
 (.ret)) (.skip)))
 (.seq (.ops [o 12 (.load (some 9) (t 1)),
 o 13 (.call 6 [(t 12)]),
 o 14 (.call 5 [(t 13)]),
 m 4 14])
 (.seq (.ops [o 15 (.load (some 9) (t 1)),
 o 16 (.call 6 [(t 15)]),
 o 5 (.alloc (.agg #[.int .i64 0, .int .i64 0, .slice none 0 0, .slice none 0 0, .slice none 0 0, .slice none 0 0, .slice none 0 0, .slice none 0 0, .slice none 0 0])),
 u (.store 9 (t 5) (t 16))])
 (.seq (.ops [o 17 (.load (some 9) (t 5)),
 o 18 (.call 7 [(t 17)]),
 m 6 18])
 (.seq (.seq (.ops [m 19 6,
 m 20 4,
 o 21 (.eqb true (t 19) (t 20))])
 (.cond (t 21) (.seq (.ops [o 2 (.mv ff)])
 (.ret)) (.skip)))
 (.seq (.seq (.rops [(none, o 22 (.load (some 9) (t 5))),
 (none, o 23 (.load (some 9) (t 1))),
 (some [o 22 (.load (some 9) (t 5))], o 24 (.call 6 [(t 23)])),
 (some [], o 25 (.call 8 [(t 22), (t 24)])),
 (none, o 26 (.not (t 25)))])
 (.cond (t 26) (.seq (.ops [o 2 (.mv ff)])
 (.ret)) (.skip)))
 (.kept [] (.seq (.ops [o 2 (.mv tt)])
 (.ret)))))))))))
theorem h_laws_FnExactGoodWorld : hF Tryz.prog n_laws_FnExactGoodWorld = some c_laws_FnExactGoodWorld.strip := by kernel_rfl
theorem r_laws_FnExactGoodWorld : rF Tryz.prog n_laws_FnExactGoodWorld = some ([.tmp 2], 27) := by kernel_rfl
-- 4 loop.example/g00850/laws.szWorld
abbrev n_laws_szWorld : Nat := 4
def c_laws_szWorld : AS :=
 .seq (.ops [o 2 (.box (t 0)),
 o 4 (.mv (k 0))])
 (.seq (.ops [o 5 (.fa 2 (t 2)),
 o 6 (.load none (t 5)),
 m 7 1,
 o 8 (.call 9 [(t 6), (t 7)]),
 m 1 8])
 (.seq (.seq (.ops [m 9 1,
 o 10 (.bin .lss (t 9) (k 0))])
 (.cond (t 10) (.seq (.ops [o 4 (.mv (k (-1)))])
 (.ret)) (.skip)))
 (.seq (.ops [o 11 (.fa 3 (t 2)),
 o 12 (.load none (t 11)),
 m 13 1,
 o 14 (.call 10 [(t 12), (t 13)]),
 m 1 14])
 (.seq (.seq (.ops [m 15 1,
 o 16 (.bin .lss (t 15) (k 0))])
 (.cond (t 16) (.seq (.ops [o 4 (.mv (k (-1)))])
 (.ret)) (.skip)))
 (.seq (.ops [o 17 (.fa 4 (t 2)),
 o 18 (.load none (t 17)),
 m 19 1,
 o 20 (.call 11 [(t 18), (t 19)]),
 m 1 20])
 (.seq (.seq (.ops [m 21 1,
 o 22 (.bin .lss (t 21) (k 0))])
 (.cond (t 22) (.seq (.ops [o 4 (.mv (k (-1)))])
 (.ret)) (.skip)))
 (.seq (.ops [o 23 (.fa 5 (t 2)),
 o 24 (.load none (t 23)),
 m 25 1,
 o 26 (.call 12 [(t 24), (t 25)]),
 m 1 26])
 (.seq (.seq (.ops [m 27 1,
 o 28 (.bin .lss (t 27) (k 0))])
 (.cond (t 28) (.seq (.ops [o 4 (.mv (k (-1)))])
 (.ret)) (.skip)))
 (.seq (.ops [o 29 (.fa 6 (t 2)),
 o 30 (.load none (t 29)),
 m 31 1,
 o 32 (.call 13 [(t 30), (t 31)]),
 m 1 32])
 (.seq (.seq (.ops [m 33 1,
 o 34 (.bin .lss (t 33) (k 0))])
 (.cond (t 34) (.seq (.ops [o 4 (.mv (k (-1)))])
 (.ret)) (.skip)))
 (.seq (.ops [o 35 (.fa 7 (t 2)),
 o 36 (.load none (t 35)),
 m 37 1,
 o 38 (.call 14 [(t 36), (t 37)]),
 m 1 38])
 (.seq (.seq (.ops [m 39 1,
 o 40 (.bin .lss (t 39) (k 0))])
 (.cond (t 40) (.seq (.ops [o 4 (.mv (k (-1)))])
 (.ret)) (.skip)))
 (.seq (.ops [o 41 (.fa 8 (t 2)),
 o 42 (.load none (t 41)),
 m 43 1,
 o 44 (.call 15 [(t 42), (t 43)]),
 m 1 44])
 (.seq (.seq (.ops [m 45 1,
 o 46 (.bin .lss (t 45) (k 0))])
 (.cond (t 46) (.seq (.ops [o 4 (.mv (k (-1)))])
 (.ret)) (.skip)))
 (.seq (.ops [m 47 1,
 m 4 47])
 (.ret))))))))))))))))
theorem h_laws_szWorld : hF Tryz.prog n_laws_szWorld = some c_laws_szWorld.strip := by kernel_rfl
theorem r_laws_szWorld : rF Tryz.prog n_laws_szWorld = some ([.tmp 4], 48) := by kernel_rfl
-- 5 loop.example/g00850/spec.GoodWorld
abbrev n_spec_GoodWorld : Nat := 5
def c_spec_GoodWorld : AS :=
 .seq (.ops [o 1 (.box (t 0)),
 o 2 (.mv ff)])
 (.seq (.ops [o 3 (.load (some 9) (t 1)),
 o 4 (.call 16 [(t 3)]),
 m 2 4])
 (.ret))
theorem h_spec_GoodWorld : hF Tryz.prog n_spec_GoodWorld = some c_spec_GoodWorld.strip := by kernel_rfl
theorem r_spec_GoodWorld : rF Tryz.prog n_spec_GoodWorld = some ([.tmp 2], 5) := by kernel_rfl
-- 6 loop.example/g00850/laws.toWorld
abbrev n_laws_toWorld : Nat := 6
def c_laws_toWorld : AS :=
 .seq (.ops [o 1 (.box (t 0)),
 o 2 (.alloc (.agg #[.int .i64 0, .int .i64 0, .slice none 0 0, .slice none 0 0, .slice none 0 0, .slice none 0 0, .slice none 0 0, .slice none 0 0, .slice none 0 0]))])
 (.seq (.ops [o 3 (.alloc (.agg #[.int .i64 0, .int .i64 0, .slice none 0 0, .slice none 0 0, .slice none 0 0, .slice none 0 0, .slice none 0 0, .slice none 0 0, .slice none 0 0]))])
 (.seq (.ops [o 4 (.fa 0 (t 1)),
 o 5 (.load none (t 4)),
 o 6 (.fa 0 (t 3)),
 u (.store 1 (t 6) (t 5))])
 (.seq (.ops [o 7 (.fa 1 (t 1)),
 o 8 (.load none (t 7)),
 o 9 (.fa 1 (t 3)),
 u (.store 1 (t 9) (t 8))])
 (.seq (.ops [o 10 (.fa 2 (t 1)),
 o 11 (.load none (t 10)),
 o 12 (.call 17 [(t 11)]),
 o 13 (.fa 2 (t 3)),
 u (.store 1 (t 13) (t 12))])
 (.seq (.ops [o 14 (.fa 3 (t 1)),
 o 15 (.load none (t 14)),
 o 16 (.call 18 [(t 15)]),
 o 17 (.fa 3 (t 3)),
 u (.store 1 (t 17) (t 16))])
 (.seq (.ops [o 18 (.fa 4 (t 1)),
 o 19 (.load none (t 18)),
 o 20 (.call 19 [(t 19)]),
 o 21 (.fa 4 (t 3)),
 u (.store 1 (t 21) (t 20))])
 (.seq (.ops [o 22 (.fa 5 (t 1)),
 o 23 (.load none (t 22)),
 o 24 (.call 20 [(t 23)]),
 o 25 (.fa 5 (t 3)),
 u (.store 1 (t 25) (t 24))])
 (.seq (.ops [o 26 (.fa 6 (t 1)),
 o 27 (.load none (t 26)),
 o 28 (.call 21 [(t 27)]),
 o 29 (.fa 6 (t 3)),
 u (.store 1 (t 29) (t 28))])
 (.seq (.ops [o 30 (.fa 7 (t 1)),
 o 31 (.load none (t 30)),
 o 32 (.call 22 [(t 31)]),
 o 33 (.fa 7 (t 3)),
 u (.store 1 (t 33) (t 32))])
 (.seq (.ops [o 34 (.fa 8 (t 1)),
 o 35 (.load none (t 34)),
 o 36 (.call 23 [(t 35)]),
 o 37 (.fa 8 (t 3)),
 u (.store 1 (t 37) (t 36))])
 (.seq (.ops [o 38 (.load (some 9) (t 3)),
 u (.store 9 (t 2) (t 38))])
 (.ret))))))))))))
theorem h_laws_toWorld : hF Tryz.prog n_laws_toWorld = some c_laws_toWorld.strip := by kernel_rfl
theorem r_laws_toWorld : rF Tryz.prog n_laws_toWorld = some ([.cell 2 39], 39) := by kernel_rfl
-- 7 loop.example/g00850/impl.GoodWorld
abbrev n_impl_GoodWorld : Nat := 7
def c_impl_GoodWorld_l1 : AS :=
 .seq (.ops [o 53 (.bin .lss (t 52) (t 51))])
 (.seq (.cond (t 53) (.skip) (.exit 0))
 (.seq (.block 1 (.seq (.post [(55, 1, [(0, 3)])] (.ops [m 54 52,
 o 55 (.ia 3 (t 50) (t 52)),
 o 56 (.load (some 3) (t 55)),
 o 5 (.alloc (.agg #[.slice none 0 0, .int .i64 0, .int .i64 0])),
 m 4 54,
 u (.store 3 (t 5) (t 56))]))
 (.seq (.post [(70, 1, [(0, 3)])] (.ops [o 57 (.load (some 3) (t 5)),
 o 58 (.call 25 [(t 57)]),
 o 59 (.not (t 58)),
 m 60 59,
 g 61 60 false (.fa 0 (t 5)),
 g 62 60 false (.load none (t 61)),
 g 63 60 false (.lens (t 62)),
 g 64 60 false (.bin .neq (t 63) (k 3)),
 o 65 (.pick (t 60) tt (t 64)),
 m 66 65,
 g 67 66 false (.fa 5 (t 1)),
 g 68 66 false (.load none (t 67)),
 mg 69 66 false 4,
 g 70 66 false (.ia 1 (t 68) (t 69)),
 g 71 66 false (.load none (t 70)),
 g 72 66 false (.call 26 [(t 71)]),
 g 73 66 false (.not (t 72)),
 o 74 (.pick (t 66) tt (t 73)),
 m 75 74,
 g 76 75 false (.fa 6 (t 1)),
 g 77 75 false (.load none (t 76)),
 mg 78 75 false 4,
 g 79 75 false (.ia 1 (t 77) (t 78)),
 g 80 75 false (.load none (t 79)),
 g 81 75 false (.call 27 [(t 80)]),
 g 82 75 false (.not (t 81)),
 o 83 (.pick (t 75) tt (t 82))]))
 (.kept [1, 50, 51, 52, 83] (.cond (t 83) (.seq (.ops [o 2 (.mv ff)])
 (.ret)) (.skip))))))
 (.kept [1, 50, 51, 52] (.ops [o 84 (.bin .add (t 52) (k 1)),
 m 52 84]))))
def c_impl_GoodWorld : AS :=
 .seq (.ops [o 1 (.box (t 0)),
 o 2 (.mv ff)])
 (.seq (.ops [o 6 (.fa 3 (t 1)),
 o 7 (.load none (t 6)),
 o 8 (.lens (t 7)),
 o 9 (.bin .add (t 8) (k 1)),
 m 3 9])
 (.seq (.seq (.ops [o 10 (.fa 3 (t 1)),
 o 11 (.load none (t 10)),
 o 12 (.lens (t 11)),
 o 13 (.bin .gtr (t 12) (k 2)),
 m 14 13,
 g 15 14 false (.fa 3 (t 1)),
 g 16 14 false (.load none (t 15)),
 g 17 14 false (.call 24 [(t 16)]),
 g 18 14 false (.not (t 17)),
 o 19 (.pick (t 14) tt (t 18)),
 m 20 19,
 g 21 20 false (.fa 4 (t 1)),
 g 22 20 false (.load none (t 21)),
 g 23 20 false (.lens (t 22)),
 mg 24 20 false 3,
 g 25 20 false (.bin .neq (t 23) (t 24)),
 o 26 (.pick (t 20) tt (t 25)),
 m 27 26,
 g 28 27 false (.fa 5 (t 1)),
 g 29 27 false (.load none (t 28)),
 g 30 27 false (.lens (t 29)),
 mg 31 27 false 3,
 g 32 27 false (.bin .neq (t 30) (t 31)),
 o 33 (.pick (t 27) tt (t 32)),
 m 34 33,
 g 35 34 false (.fa 6 (t 1)),
 g 36 34 false (.load none (t 35)),
 g 37 34 false (.lens (t 36)),
 mg 38 34 false 3,
 g 39 34 false (.bin .neq (t 37) (t 38)),
 o 40 (.pick (t 34) tt (t 39)),
 m 41 40,
 g 42 41 false (.fa 2 (t 1)),
 g 43 41 false (.load none (t 42)),
 g 44 41 false (.lens (t 43)),
 mg 45 41 false 3,
 g 46 41 false (.bin .mul (k 3) (t 45)),
 g 47 41 false (.bin .neq (t 44) (t 46)),
 o 48 (.pick (t 41) tt (t 47))])
 (.kept [1, 48] (.cond (t 48) (.seq (.ops [o 2 (.mv ff)])
 (.ret)) (.skip))))
 (.kept [1] (.seq (.seq (.ops [o 49 (.fa 4 (t 1)),
 o 50 (.load none (t 49)),
 o 51 (.lens (t 50)),
 o 52 (.mv (k 0))])
 (.block 0 (.loop 1 [(1, 0), (50, 0), (51, 0), (52, 0)] c_impl_GoodWorld_l1)))
 (.kept [1] (.seq (.ops [o 85 (.fa 0 (t 1)),
 o 86 (.load none (t 85)),
 o 87 (.call 27 [(t 86)]),
 m 88 87,
 g 89 88 true (.fa 1 (t 1)),
 g 90 88 true (.load none (t 89)),
 g 91 88 true (.call 28 [(t 90), (k 0), (k 1000000)]),
 o 92 (.pick (t 88) (t 91) ff),
 m 93 92,
 g 94 93 true (.fa 7 (t 1)),
 g 95 93 true (.load none (t 94)),
 g 96 93 true (.lens (t 95)),
 g 97 93 true (.bin .leq (t 96) (k 6)),
 o 98 (.pick (t 93) (t 97) ff),
 m 99 98,
 g 100 99 true (.fa 8 (t 1)),
 g 101 99 true (.load none (t 100)),
 g 102 99 true (.lens (t 101)),
 g 103 99 true (.bin .leq (t 102) (k 4)),
 o 104 (.pick (t 99) (t 103) ff),
 m 105 104,
 g 106 105 true (.fa 2 (t 1)),
 g 107 105 true (.load none (t 106)),
 g 108 105 true (.call 29 [(t 107), (.func 30)]),
 g 109 105 true (.not (t 108)),
 o 110 (.pick (t 105) (t 109) ff),
 m 111 110,
 g 112 111 true (.fa 7 (t 1)),
 g 113 111 true (.load none (t 112)),
 g 114 111 true (.mkf 33 [(t 1)]),
 g 115 111 true (.call 32 [(t 113), (t 114)]),
 g 116 111 true (.not (t 115)),
 o 117 (.pick (t 111) (t 116) ff),
 m 118 117,
 g 119 118 true (.fa 8 (t 1)),
 g 120 118 true (.load none (t 119)),
 g 121 118 true (.mkf 36 [(t 1)]),
 g 122 118 true (.call 35 [(t 120), (t 121)]),
 g 123 118 true (.not (t 122)),
 o 124 (.pick (t 118) (t 123) ff),
 m 2 124])
 (.ret)))))))
theorem h_impl_GoodWorld : hF Tryz.prog n_impl_GoodWorld = some c_impl_GoodWorld.strip := by kernel_rfl
theorem r_impl_GoodWorld : rF Tryz.prog n_impl_GoodWorld = some ([.tmp 2], 125) := by kernel_rfl
-- 8 loop.example/g00850/laws.eqWorld
abbrev n_laws_eqWorld : Nat := 8
def c_laws_eqWorld : AS :=
 .seq (.ops [o 2 (.box (t 0)),
 o 3 (.box (t 1)),
 o 4 (.mv ff)])
 (.seq (.seq (.ops [o 5 (.fa 0 (t 2)),
 o 6 (.load none (t 5)),
 o 7 (.fa 0 (t 3)),
 o 8 (.load none (t 7)),
 o 9 (.bin .neq (t 6) (t 8))])
 (.cond (t 9) (.seq (.ops [o 4 (.mv ff)])
 (.ret)) (.skip)))
 (.kept [2, 3] (.seq (.seq (.ops [o 10 (.fa 1 (t 2)),
 o 11 (.load none (t 10)),
 o 12 (.fa 1 (t 3)),
 o 13 (.load none (t 12)),
 o 14 (.bin .neq (t 11) (t 13))])
 (.cond (t 14) (.seq (.ops [o 4 (.mv ff)])
 (.ret)) (.skip)))
 (.kept [2, 3] (.seq (.seq (.ops [o 15 (.fa 2 (t 2)),
 o 16 (.load none (t 15)),
 o 17 (.fa 2 (t 3)),
 o 18 (.load none (t 17)),
 o 19 (.call 38 [(t 16), (t 18)]),
 o 20 (.not (t 19))])
 (.cond (t 20) (.seq (.ops [o 4 (.mv ff)])
 (.ret)) (.skip)))
 (.kept [2, 3] (.seq (.seq (.ops [o 21 (.fa 3 (t 2)),
 o 22 (.load none (t 21)),
 o 23 (.fa 3 (t 3)),
 o 24 (.load none (t 23)),
 o 25 (.call 39 [(t 22), (t 24)]),
 o 26 (.not (t 25))])
 (.cond (t 26) (.seq (.ops [o 4 (.mv ff)])
 (.ret)) (.skip)))
 (.kept [2, 3] (.seq (.seq (.ops [o 27 (.fa 4 (t 2)),
 o 28 (.load none (t 27)),
 o 29 (.fa 4 (t 3)),
 o 30 (.load none (t 29)),
 o 31 (.call 40 [(t 28), (t 30)]),
 o 32 (.not (t 31))])
 (.cond (t 32) (.seq (.ops [o 4 (.mv ff)])
 (.ret)) (.skip)))
 (.kept [2, 3] (.seq (.seq (.ops [o 33 (.fa 5 (t 2)),
 o 34 (.load none (t 33)),
 o 35 (.fa 5 (t 3)),
 o 36 (.load none (t 35)),
 o 37 (.call 41 [(t 34), (t 36)]),
 o 38 (.not (t 37))])
 (.cond (t 38) (.seq (.ops [o 4 (.mv ff)])
 (.ret)) (.skip)))
 (.kept [2, 3] (.seq (.seq (.ops [o 39 (.fa 6 (t 2)),
 o 40 (.load none (t 39)),
 o 41 (.fa 6 (t 3)),
 o 42 (.load none (t 41)),
 o 43 (.call 42 [(t 40), (t 42)]),
 o 44 (.not (t 43))])
 (.cond (t 44) (.seq (.ops [o 4 (.mv ff)])
 (.ret)) (.skip)))
 (.kept [2, 3] (.seq (.seq (.ops [o 45 (.fa 7 (t 2)),
 o 46 (.load none (t 45)),
 o 47 (.fa 7 (t 3)),
 o 48 (.load none (t 47)),
 o 49 (.call 43 [(t 46), (t 48)]),
 o 50 (.not (t 49))])
 (.cond (t 50) (.seq (.ops [o 4 (.mv ff)])
 (.ret)) (.skip)))
 (.kept [2, 3] (.seq (.seq (.ops [o 51 (.fa 8 (t 2)),
 o 52 (.load none (t 51)),
 o 53 (.fa 8 (t 3)),
 o 54 (.load none (t 53)),
 o 55 (.call 44 [(t 52), (t 54)]),
 o 56 (.not (t 55))])
 (.cond (t 56) (.seq (.ops [o 4 (.mv ff)])
 (.ret)) (.skip)))
 (.kept [] (.seq (.ops [o 4 (.mv tt)])
 (.ret))))))))))))))))))))
theorem h_laws_eqWorld : hF Tryz.prog n_laws_eqWorld = some c_laws_eqWorld.strip := by kernel_rfl
theorem r_laws_eqWorld : rF Tryz.prog n_laws_eqWorld = some ([.tmp 4], 57) := by kernel_rfl
-- 9 loop.example/g00850/laws.szClockS
abbrev n_laws_szClockS : Nat := 9
def c_laws_szClockS : AS :=
 .seq (.ops [o 4 (.mv (k 0))])
 (.seq (.ops [m 5 1,
 m 6 0,
 o 7 (.lens (t 6)),
 o 8 (.bin .sub (t 5) (t 7)),
 m 1 8])
 (.seq (.seq (.ops [m 9 1,
 o 10 (.bin .lss (t 9) (k 0))])
 (.cond (t 10) (.seq (.ops [o 4 (.mv (k (-1)))])
 (.ret)) (.skip)))
 (.seq (.ops [m 11 1,
 m 4 11])
 (.ret))))
theorem h_laws_szClockS : hF Tryz.prog n_laws_szClockS = some c_laws_szClockS.strip := by kernel_rfl
theorem r_laws_szClockS : rF Tryz.prog n_laws_szClockS = some ([.tmp 4], 12) := by kernel_rfl
-- 10 loop.example/g00850/laws.szStringS
abbrev n_laws_szStringS : Nat := 10
def c_laws_szStringS_l1 : AS :=
 .seq (.seq (.ops [m 12 5,
 m 13 0,
 o 14 (.lens (t 13)),
 o 15 (.bin .lss (t 12) (t 14))])
 (.cond (t 15) (.skip) (.exit 0)))
 (.seq (.block 1 (.seq (.ops [m 18 1,
 m 19 0,
 m 20 5,
 o 21 (.ia 1 (t 19) (t 20)),
 o 22 (.load none (t 21)),
 o 23 (.lent (t 22)),
 o 24 (.bin .sub (t 18) (t 23)),
 m 1 24])
 (.kept [0, 1, 5] (.seq (.ops [m 25 1,
 o 26 (.bin .lss (t 25) (k 0))])
 (.cond (t 26) (.seq (.ops [o 4 (.mv (k (-1)))])
 (.ret)) (.skip))))))
 (.kept [0, 1, 5] (.ops [m 16 5,
 o 17 (.bin .add (t 16) (k 1)),
 m 5 17])))
def c_laws_szStringS : AS :=
 .seq (.ops [o 4 (.mv (k 0))])
 (.seq (.ops [m 6 1,
 m 7 0,
 o 8 (.lens (t 7)),
 o 9 (.bin .sub (t 6) (t 8)),
 m 1 9])
 (.seq (.seq (.ops [m 10 1,
 o 11 (.bin .lss (t 10) (k 0))])
 (.cond (t 11) (.seq (.ops [o 4 (.mv (k (-1)))])
 (.ret)) (.skip)))
 (.seq (.seq (.ops [o 5 (.mv (k 0))])
 (.block 0 (.loop 2 [(0, 0), (1, 0), (5, 0)] c_laws_szStringS_l1)))
 (.kept [1] (.seq (.ops [m 27 1,
 m 4 27])
 (.ret))))))
theorem h_laws_szStringS : hF Tryz.prog n_laws_szStringS = some c_laws_szStringS.strip := by kernel_rfl
theorem r_laws_szStringS : rF Tryz.prog n_laws_szStringS = some ([.tmp 4], 28) := by kernel_rfl
-- 11 loop.example/g00850/laws.szGroupS
abbrev n_laws_szGroupS : Nat := 11
def c_laws_szGroupS_l1 : AS :=
 .seq (.seq (.ops [m 12 5,
 m 13 0,
 o 14 (.lens (t 13)),
 o 15 (.bin .lss (t 12) (t 14))])
 (.cond (t 15) (.skip) (.exit 0)))
 (.seq (.block 1 (.seq (.post [(20, 1, [(0, 3)])] (.ops [m 18 0,
 m 19 5,
 o 20 (.ia 3 (t 18) (t 19)),
 o 21 (.load (some 3) (t 20)),
 m 22 1,
 o 23 (.call 45 [(t 21), (t 22)]),
 m 1 23]))
 (.kept [0, 1, 5] (.seq (.ops [m 24 1,
 o 25 (.bin .lss (t 24) (k 0))])
 (.cond (t 25) (.seq (.ops [o 4 (.mv (k (-1)))])
 (.ret)) (.skip))))))
 (.kept [0, 1, 5] (.ops [m 16 5,
 o 17 (.bin .add (t 16) (k 1)),
 m 5 17])))
def c_laws_szGroupS : AS :=
 .seq (.ops [o 4 (.mv (k 0))])
 (.seq (.ops [m 6 1,
 m 7 0,
 o 8 (.lens (t 7)),
 o 9 (.bin .sub (t 6) (t 8)),
 m 1 9])
 (.seq (.seq (.ops [m 10 1,
 o 11 (.bin .lss (t 10) (k 0))])
 (.cond (t 11) (.seq (.ops [o 4 (.mv (k (-1)))])
 (.ret)) (.skip)))
 (.seq (.seq (.ops [o 5 (.mv (k 0))])
 (.block 0 (.loop 2 [(0, 0), (1, 0), (5, 0)] c_laws_szGroupS_l1)))
 (.kept [1] (.seq (.ops [m 26 1,
 m 4 26])
 (.ret))))))
theorem h_laws_szGroupS : hF Tryz.prog n_laws_szGroupS = some c_laws_szGroupS.strip := by kernel_rfl
theorem r_laws_szGroupS : rF Tryz.prog n_laws_szGroupS = some ([.tmp 4], 27) := by kernel_rfl
-- 12 loop.example/g00850/laws.szLockSS
abbrev n_laws_szLockSS : Nat := 12
def c_laws_szLockSS_l1 : AS :=
 .seq (.seq (.ops [m 12 5,
 m 13 0,
 o 14 (.lens (t 13)),
 o 15 (.bin .lss (t 12) (t 14))])
 (.cond (t 15) (.skip) (.exit 0)))
 (.seq (.block 1 (.seq (.post [(20, 1, [(0, 3)])] (.ops [m 18 0,
 m 19 5,
 o 20 (.ia 1 (t 18) (t 19)),
 o 21 (.load none (t 20)),
 m 22 1,
 o 23 (.call 46 [(t 21), (t 22)]),
 m 1 23]))
 (.kept [0, 1, 5] (.seq (.ops [m 24 1,
 o 25 (.bin .lss (t 24) (k 0))])
 (.cond (t 25) (.seq (.ops [o 4 (.mv (k (-1)))])
 (.ret)) (.skip))))))
 (.kept [0, 1, 5] (.ops [m 16 5,
 o 17 (.bin .add (t 16) (k 1)),
 m 5 17])))
def c_laws_szLockSS : AS :=
 .seq (.ops [o 4 (.mv (k 0))])
 (.seq (.ops [m 6 1,
 m 7 0,
 o 8 (.lens (t 7)),
 o 9 (.bin .sub (t 6) (t 8)),
 m 1 9])
 (.seq (.seq (.ops [m 10 1,
 o 11 (.bin .lss (t 10) (k 0))])
 (.cond (t 11) (.seq (.ops [o 4 (.mv (k (-1)))])
 (.ret)) (.skip)))
 (.seq (.seq (.ops [o 5 (.mv (k 0))])
 (.block 0 (.loop 2 [(0, 0), (1, 0), (5, 0)] c_laws_szLockSS_l1)))
 (.kept [1] (.seq (.ops [m 26 1,
 m 4 26])
 (.ret))))))
theorem h_laws_szLockSS : hF Tryz.prog n_laws_szLockSS = some c_laws_szLockSS.strip := by kernel_rfl
theorem r_laws_szLockSS : rF Tryz.prog n_laws_szLockSS = some ([.tmp 4], 27) := by kernel_rfl
-- 13 loop.example/g00850/laws.szIntS
abbrev n_laws_szIntS : Nat := 13
def c_laws_szIntS : AS :=
 .seq (.ops [o 4 (.mv (k 0))])
 (.seq (.ops [m 5 1,
 m 6 0,
 o 7 (.lens (t 6)),
 o 8 (.bin .sub (t 5) (t 7)),
 m 1 8])
 (.seq (.seq (.ops [m 9 1,
 o 10 (.bin .lss (t 9) (k 0))])
 (.cond (t 10) (.seq (.ops [o 4 (.mv (k (-1)))])
 (.ret)) (.skip)))
 (.seq (.ops [m 11 1,
 m 4 11])
 (.ret))))
theorem h_laws_szIntS : hF Tryz.prog n_laws_szIntS = some c_laws_szIntS.strip := by kernel_rfl
theorem r_laws_szIntS : rF Tryz.prog n_laws_szIntS = some ([.tmp 4], 12) := by kernel_rfl
-- 14 loop.example/g00850/laws.szWorldTxnS
abbrev n_laws_szWorldTxnS : Nat := 14
def c_laws_szWorldTxnS_l1 : AS :=
 .seq (.seq (.ops [m 12 5,
 m 13 0,
 o 14 (.lens (t 13)),
 o 15 (.bin .lss (t 12) (t 14))])
 (.cond (t 15) (.skip) (.exit 0)))
 (.seq (.block 1 (.seq (.post [(20, 1, [(0, 4), (1, 3), (2, 1)])] (.ops [m 18 0,
 m 19 5,
 o 20 (.ia 10 (t 18) (t 19)),
 o 21 (.load (some 10) (t 20)),
 m 22 1,
 o 23 (.call 47 [(t 21), (t 22)]),
 m 1 23]))
 (.kept [0, 1, 5] (.seq (.ops [m 24 1,
 o 25 (.bin .lss (t 24) (k 0))])
 (.cond (t 25) (.seq (.ops [o 4 (.mv (k (-1)))])
 (.ret)) (.skip))))))
 (.kept [0, 1, 5] (.ops [m 16 5,
 o 17 (.bin .add (t 16) (k 1)),
 m 5 17])))
def c_laws_szWorldTxnS : AS :=
 .seq (.ops [o 4 (.mv (k 0))])
 (.seq (.ops [m 6 1,
 m 7 0,
 o 8 (.lens (t 7)),
 o 9 (.bin .sub (t 6) (t 8)),
 m 1 9])
 (.seq (.seq (.ops [m 10 1,
 o 11 (.bin .lss (t 10) (k 0))])
 (.cond (t 11) (.seq (.ops [o 4 (.mv (k (-1)))])
 (.ret)) (.skip)))
 (.seq (.seq (.ops [o 5 (.mv (k 0))])
 (.block 0 (.loop 2 [(0, 0), (1, 0), (5, 0)] c_laws_szWorldTxnS_l1)))
 (.kept [1] (.seq (.ops [m 26 1,
 m 4 26])
 (.ret))))))
theorem h_laws_szWorldTxnS : hF Tryz.prog n_laws_szWorldTxnS = some c_laws_szWorldTxnS.strip := by kernel_rfl
theorem r_laws_szWorldTxnS : rF Tryz.prog n_laws_szWorldTxnS = some ([.tmp 4], 27) := by kernel_rfl
-- 15 loop.example/g00850/laws.szWorldLookS
abbrev n_laws_szWorldLookS : Nat := 15
def c_laws_szWorldLookS_l1 : AS :=
 .seq (.seq (.ops [m 12 5,
 m 13 0,
 o 14 (.lens (t 13)),
 o 15 (.bin .lss (t 12) (t 14))])
 (.cond (t 15) (.skip) (.exit 0)))
 (.seq (.block 1 (.seq (.post [(20, 1, [(1, 1), (2, 3)])] (.ops [m 18 0,
 m 19 5,
 o 20 (.ia 6 (t 18) (t 19)),
 o 21 (.load (some 6) (t 20)),
 m 22 1,
 o 23 (.call 48 [(t 21), (t 22)]),
 m 1 23]))
 (.kept [0, 1, 5] (.seq (.ops [m 24 1,
 o 25 (.bin .lss (t 24) (k 0))])
 (.cond (t 25) (.seq (.ops [o 4 (.mv (k (-1)))])
 (.ret)) (.skip))))))
 (.kept [0, 1, 5] (.ops [m 16 5,
 o 17 (.bin .add (t 16) (k 1)),
 m 5 17])))
def c_laws_szWorldLookS : AS :=
 .seq (.ops [o 4 (.mv (k 0))])
 (.seq (.ops [m 6 1,
 m 7 0,
 o 8 (.lens (t 7)),
 o 9 (.bin .sub (t 6) (t 8)),
 m 1 9])
 (.seq (.seq (.ops [m 10 1,
 o 11 (.bin .lss (t 10) (k 0))])
 (.cond (t 11) (.seq (.ops [o 4 (.mv (k (-1)))])
 (.ret)) (.skip)))
 (.seq (.seq (.ops [o 5 (.mv (k 0))])
 (.block 0 (.loop 2 [(0, 0), (1, 0), (5, 0)] c_laws_szWorldLookS_l1)))
 (.kept [1] (.seq (.ops [m 26 1,
 m 4 26])
 (.ret))))))
theorem h_laws_szWorldLookS : hF Tryz.prog n_laws_szWorldLookS = some c_laws_szWorldLookS.strip := by kernel_rfl
theorem r_laws_szWorldLookS : rF Tryz.prog n_laws_szWorldLookS = some ([.tmp 4], 27) := by kernel_rfl
-- 16 loop.example/g00850/spec.l16Good
abbrev n_spec_l16Good : Nat := 16
def c_spec_l16Good_l1 : AS :=
 .seq (.ops [o 63 (.bin .lss (t 62) (t 61))])
 (.seq (.cond (t 63) (.skip) (.exit 0))
 (.seq (.block 1 (.seq (.post [(65, 1, [(0, 3)])] (.ops [m 64 62,
 o 65 (.ia 3 (t 60) (t 62)),
 o 66 (.load (some 3) (t 65)),
 o 5 (.alloc (.agg #[.slice none 0 0, .int .i64 0, .int .i64 0])),
 m 4 64,
 u (.store 3 (t 5) (t 66))]))
 (.seq (.post [(80, 1, [(0, 3)])] (.ops [o 67 (.load (some 3) (t 5)),
 o 68 (.call 51 [(t 67)]),
 o 69 (.not (t 68)),
 m 70 69,
 g 71 70 false (.fa 0 (t 5)),
 g 72 70 false (.load none (t 71)),
 g 73 70 false (.lens (t 72)),
 g 74 70 false (.bin .neq (t 73) (k 3)),
 o 75 (.pick (t 70) tt (t 74)),
 m 76 75,
 g 77 76 false (.fa 5 (t 1)),
 g 78 76 false (.load none (t 77)),
 mg 79 76 false 4,
 g 80 76 false (.ia 1 (t 78) (t 79)),
 g 81 76 false (.load none (t 80)),
 g 82 76 false (.call 52 [(t 81)]),
 g 83 76 false (.not (t 82)),
 o 84 (.pick (t 76) tt (t 83))]))
 (.kept [1, 60, 61, 62, 84] (.cond (t 84) (.seq (.ops [o 2 (.mv ff)])
 (.ret)) (.skip))))))
 (.kept [1, 60, 61, 62] (.ops [o 85 (.bin .add (t 62) (k 1)),
 m 62 85]))))
def c_spec_l16Good_l2 : AS :=
 .seq (.ops [o 90 (.bin .lss (t 89) (t 88))])
 (.seq (.cond (t 90) (.skip) (.exit 2))
 (.seq (.block 3 (.seq (.ops [o 91 (.ia 1 (t 87) (t 89)),
 o 92 (.load (some 1) (t 91)),
 o 7 (.alloc (.agg #[.int .i64 0])),
 u (.store 1 (t 7) (t 92))])
 (.seq (.ops [o 93 (.load (some 1) (t 7)),
 o 94 (.call 53 [(t 93)]),
 o 95 (.not (t 94))])
 (.cond (t 95) (.seq (.ops [o 2 (.mv ff)])
 (.ret)) (.skip)))))
 (.kept [1, 87, 88, 89] (.ops [o 96 (.bin .add (t 89) (k 1)),
 m 89 96]))))
def c_spec_l16Good_l3 : AS :=
 .seq (.ops [o 101 (.bin .lss (t 100) (t 99))])
 (.seq (.cond (t 101) (.skip) (.exit 4))
 (.seq (.block 5 (.seq (.post [(102, 1, [(0, 4), (1, 3), (2, 1)])] (.ops [o 102 (.ia 10 (t 98) (t 100)),
 o 103 (.load (some 10) (t 102)),
 o 9 (.alloc (.agg #[.slice none 0 0, .slice none 0 0, .slice none 0 0, .int .i64 0, .int .i64 0, .bool false, .int .i64 0, .bool false, .bool false, .bool false])),
 u (.store 10 (t 9) (t 103))]))
 (.seq (.ops [o 104 (.load (some 9) (t 1)),
 o 105 (.load (some 10) (t 9)),
 o 106 (.call 54 [(t 104), (t 105)]),
 o 107 (.not (t 106))])
 (.cond (t 107) (.seq (.ops [o 2 (.mv ff)])
 (.ret)) (.skip)))))
 (.kept [1, 98, 99, 100] (.ops [o 108 (.bin .add (t 100) (k 1)),
 m 100 108]))))
def c_spec_l16Good_l4 : AS :=
 .seq (.ops [o 113 (.bin .lss (t 112) (t 111))])
 (.seq (.cond (t 113) (.skip) (.exit 6))
 (.seq (.block 7 (.seq (.post [(114, 1, [(1, 1), (2, 3)])] (.ops [o 114 (.ia 6 (t 110) (t 112)),
 o 115 (.load (some 6) (t 114)),
 o 11 (.alloc (.agg #[.int .i64 0, .slice none 0 0, .slice none 0 0, .int .i64 0, .int .i64 0, .int .i64 0])),
 u (.store 6 (t 11) (t 115))]))
 (.seq (.ops [o 116 (.load (some 9) (t 1)),
 o 117 (.load (some 6) (t 11)),
 o 118 (.call 55 [(t 116), (t 117)]),
 o 119 (.not (t 118))])
 (.cond (t 119) (.seq (.ops [o 2 (.mv ff)])
 (.ret)) (.skip)))))
 (.kept [1, 110, 111, 112] (.ops [o 120 (.bin .add (t 112) (k 1)),
 m 112 120]))))
def c_spec_l16Good : AS :=
 .seq (.ops [o 1 (.box (t 0)),
 o 2 (.mv ff)])
 (.seq (.ops [o 12 (.fa 3 (t 1)),
 o 13 (.load none (t 12)),
 o 14 (.lens (t 13)),
 o 15 (.bin .add (t 14) (k 1)),
 m 3 15])
 (.seq (.seq (.ops [o 16 (.fa 3 (t 1)),
 o 17 (.load none (t 16)),
 o 18 (.call 49 [(t 17)]),
 o 19 (.not (t 18)),
 m 20 19,
 mg 21 20 false 3,
 g 22 20 false (.bin .gtr (t 21) (k 3)),
 o 23 (.pick (t 20) tt (t 22)),
 m 24 23,
 g 25 24 false (.fa 4 (t 1)),
 g 26 24 false (.load none (t 25)),
 g 27 24 false (.lens (t 26)),
 mg 28 24 false 3,
 g 29 24 false (.bin .neq (t 27) (t 28)),
 o 30 (.pick (t 24) tt (t 29)),
 m 31 30,
 g 32 31 false (.fa 2 (t 1)),
 g 33 31 false (.load none (t 32)),
 g 34 31 false (.lens (t 33)),
 mg 35 31 false 3,
 g 36 31 false (.bin .mul (k 3) (t 35)),
 g 37 31 false (.bin .neq (t 34) (t 36)),
 o 38 (.pick (t 31) tt (t 37)),
 m 39 38,
 g 40 39 false (.fa 5 (t 1)),
 g 41 39 false (.load none (t 40)),
 g 42 39 false (.lens (t 41)),
 mg 43 39 false 3,
 g 44 39 false (.bin .neq (t 42) (t 43)),
 o 45 (.pick (t 39) tt (t 44)),
 m 46 45,
 g 47 46 false (.fa 6 (t 1)),
 g 48 46 false (.load none (t 47)),
 g 49 46 false (.lens (t 48)),
 mg 50 46 false 3,
 g 51 46 false (.bin .neq (t 49) (t 50)),
 o 52 (.pick (t 46) tt (t 51)),
 m 53 52,
 g 54 53 false (.fa 6 (t 1)),
 g 55 53 false (.load none (t 54)),
 g 56 53 false (.call 50 [(t 55), (k 0), (k 100000)]),
 g 57 53 false (.not (t 56)),
 o 58 (.pick (t 53) tt (t 57))])
 (.kept [1, 58] (.cond (t 58) (.seq (.ops [o 2 (.mv ff)])
 (.ret)) (.skip))))
 (.kept [1] (.seq (.seq (.ops [o 59 (.fa 4 (t 1)),
 o 60 (.load none (t 59)),
 o 61 (.lens (t 60)),
 o 62 (.mv (k 0))])
 (.block 0 (.loop 1 [(1, 0), (60, 0), (61, 0), (62, 0)] c_spec_l16Good_l1)))
 (.kept [1] (.seq (.seq (.ops [o 86 (.fa 2 (t 1)),
 o 87 (.load none (t 86)),
 o 88 (.lens (t 87)),
 o 89 (.mv (k 0))])
 (.block 2 (.loop 1 [(1, 0), (87, 0), (88, 0), (89, 0)] c_spec_l16Good_l2)))
 (.kept [1] (.seq (.seq (.ops [o 97 (.fa 7 (t 1)),
 o 98 (.load none (t 97)),
 o 99 (.lens (t 98)),
 o 100 (.mv (k 0))])
 (.block 4 (.loop 1 [(1, 0), (98, 0), (99, 0), (100, 0)] c_spec_l16Good_l3)))
 (.kept [1] (.seq (.seq (.ops [o 109 (.fa 8 (t 1)),
 o 110 (.load none (t 109)),
 o 111 (.lens (t 110)),
 o 112 (.mv (k 0))])
 (.block 6 (.loop 1 [(1, 0), (110, 0), (111, 0), (112, 0)] c_spec_l16Good_l4)))
 (.kept [1] (.seq (.ops [o 121 (.fa 0 (t 1)),
 o 122 (.load none (t 121)),
 o 123 (.call 56 [(t 122)]),
 m 124 123,
 g 125 124 true (.fa 1 (t 1)),
 g 126 124 true (.load none (t 125)),
 g 127 124 true (.call 57 [(t 126), (k 0), (k 1000000)]),
 o 128 (.pick (t 124) (t 127) ff),
 m 129 128,
 g 130 129 true (.fa 7 (t 1)),
 g 131 129 true (.load none (t 130)),
 g 132 129 true (.lens (t 131)),
 g 133 129 true (.bin .leq (t 132) (k 6)),
 o 134 (.pick (t 129) (t 133) ff),
 m 135 134,
 g 136 135 true (.fa 8 (t 1)),
 g 137 135 true (.load none (t 136)),
 g 138 135 true (.lens (t 137)),
 g 139 135 true (.bin .leq (t 138) (k 4)),
 o 140 (.pick (t 135) (t 139) ff),
 m 2 140])
 (.ret)))))))))))))
theorem h_spec_l16Good : hF Tryz.prog n_spec_l16Good = some c_spec_l16Good.strip := by kernel_rfl
theorem r_spec_l16Good : rF Tryz.prog n_spec_l16Good = some ([.tmp 2], 141) := by kernel_rfl
-- 17 loop.example/g00850/laws.toClockS
abbrev n_laws_toClockS : Nat := 17
def c_laws_toClockS_l1 : AS :=
 .seq (.seq (.ops [m 8 4,
 m 9 0,
 o 10 (.lens (t 9)),
 o 11 (.bin .lss (t 8) (t 10))])
 (.cond (t 11) (.skip) (.exit 0)))
 (.seq (.block 1 (.ops [m 14 3,
 m 15 4,
 m 16 0,
 m 17 4,
 o 18 (.ia 1 (t 16) (t 17)),
 o 19 (.load (some 1) (t 18)),
 o 20 (.call 58 [(t 19)]),
 o 21 (.ia 1 (t 14) (t 15)),
 u (.store 1 (t 21) (t 20))]))
 (.kept [0, 3, 4] (.ops [m 12 4,
 o 13 (.bin .add (t 12) (k 1)),
 m 4 13])))
def c_laws_toClockS : AS :=
 .seq (.ops [o 2 (.mv (.const (.slice none 0 0)))])
 (.seq (.ops [m 5 0,
 o 6 (.lens (t 5)),
 o 7 (.mks 1 8 (.agg #[.int .i64 0]) (t 6) (t 6)),
 m 3 7])
 (.seq (.seq (.ops [o 4 (.mv (k 0))])
 (.block 0 (.loop 1 [(0, 0), (3, 0), (4, 0)] c_laws_toClockS_l1)))
 (.kept [3] (.seq (.ops [m 22 3,
 m 2 22])
 (.ret)))))
theorem h_laws_toClockS : hF Tryz.prog n_laws_toClockS = some c_laws_toClockS.strip := by kernel_rfl
theorem r_laws_toClockS : rF Tryz.prog n_laws_toClockS = some ([.tmp 2], 23) := by kernel_rfl
-- 18 loop.example/g00850/laws.toStringS
abbrev n_laws_toStringS : Nat := 18
def c_laws_toStringS_l1 : AS :=
 .seq (.seq (.ops [m 8 4,
 m 9 0,
 o 10 (.lens (t 9)),
 o 11 (.bin .lss (t 8) (t 10))])
 (.cond (t 11) (.skip) (.exit 0)))
 (.seq (.block 1 (.ops [m 14 3,
 m 15 4,
 m 16 0,
 m 17 4,
 o 18 (.ia 1 (t 16) (t 17)),
 o 19 (.load none (t 18)),
 o 20 (.ia 1 (t 14) (t 15)),
 u (.store 1 (t 20) (t 19))]))
 (.kept [0, 3, 4] (.ops [m 12 4,
 o 13 (.bin .add (t 12) (k 1)),
 m 4 13])))
def c_laws_toStringS : AS :=
 .seq (.ops [o 2 (.mv (.const (.slice none 0 0)))])
 (.seq (.ops [m 5 0,
 o 6 (.lens (t 5)),
 o 7 (.mks 1 16 (.string ⟨⟨[]⟩⟩) (t 6) (t 6)),
 m 3 7])
 (.seq (.seq (.ops [o 4 (.mv (k 0))])
 (.block 0 (.loop 1 [(0, 0), (3, 0), (4, 0)] c_laws_toStringS_l1)))
 (.kept [3] (.seq (.ops [m 21 3,
 m 2 21])
 (.ret)))))
theorem h_laws_toStringS : hF Tryz.prog n_laws_toStringS = some c_laws_toStringS.strip := by kernel_rfl
theorem r_laws_toStringS : rF Tryz.prog n_laws_toStringS = some ([.tmp 2], 22) := by kernel_rfl
-- 19 loop.example/g00850/laws.toGroupS
abbrev n_laws_toGroupS : Nat := 19
def c_laws_toGroupS_l1 : AS :=
 .seq (.seq (.ops [m 8 4,
 m 9 0,
 o 10 (.lens (t 9)),
 o 11 (.bin .lss (t 8) (t 10))])
 (.cond (t 11) (.skip) (.exit 0)))
 (.seq (.block 1 (.post [(21, 1, [(0, 3)]), (18, 1, [(0, 3)])] (.ops [m 14 3,
 m 15 4,
 m 16 0,
 m 17 4,
 o 18 (.ia 3 (t 16) (t 17)),
 o 19 (.load (some 3) (t 18)),
 o 20 (.call 59 [(t 19)]),
 o 21 (.ia 3 (t 14) (t 15)),
 u (.store 3 (t 21) (t 20))])))
 (.kept [0, 3, 4] (.ops [m 12 4,
 o 13 (.bin .add (t 12) (k 1)),
 m 4 13])))
def c_laws_toGroupS : AS :=
 .seq (.ops [o 2 (.mv (.const (.slice none 0 0)))])
 (.seq (.ops [m 5 0,
 o 6 (.lens (t 5)),
 o 7 (.mks 3 40 (.agg #[.slice none 0 0, .int .i64 0, .int .i64 0]) (t 6) (t 6)),
 m 3 7])
 (.seq (.seq (.ops [o 4 (.mv (k 0))])
 (.block 0 (.loop 1 [(0, 0), (3, 0), (4, 0)] c_laws_toGroupS_l1)))
 (.kept [3] (.seq (.ops [m 22 3,
 m 2 22])
 (.ret)))))
theorem h_laws_toGroupS : hF Tryz.prog n_laws_toGroupS = some c_laws_toGroupS.strip := by kernel_rfl
theorem r_laws_toGroupS : rF Tryz.prog n_laws_toGroupS = some ([.tmp 2], 23) := by kernel_rfl
-- 20 loop.example/g00850/laws.toLockSS
abbrev n_laws_toLockSS : Nat := 20
def c_laws_toLockSS_l1 : AS :=
 .seq (.seq (.ops [m 8 4,
 m 9 0,
 o 10 (.lens (t 9)),
 o 11 (.bin .lss (t 8) (t 10))])
 (.cond (t 11) (.skip) (.exit 0)))
 (.seq (.block 1 (.post [(21, 1, [(0, 3)]), (18, 1, [(0, 3)])] (.ops [m 14 3,
 m 15 4,
 m 16 0,
 m 17 4,
 o 18 (.ia 1 (t 16) (t 17)),
 o 19 (.load none (t 18)),
 o 20 (.call 60 [(t 19)]),
 o 21 (.ia 1 (t 14) (t 15)),
 u (.store 1 (t 21) (t 20))])))
 (.kept [0, 3, 4] (.ops [m 12 4,
 o 13 (.bin .add (t 12) (k 1)),
 m 4 13])))
def c_laws_toLockSS : AS :=
 .seq (.ops [o 2 (.mv (.const (.slice none 0 0)))])
 (.seq (.ops [m 5 0,
 o 6 (.lens (t 5)),
 o 7 (.mks 1 24 (.slice none 0 0) (t 6) (t 6)),
 m 3 7])
 (.seq (.seq (.ops [o 4 (.mv (k 0))])
 (.block 0 (.loop 1 [(0, 0), (3, 0), (4, 0)] c_laws_toLockSS_l1)))
 (.kept [3] (.seq (.ops [m 22 3,
 m 2 22])
 (.ret)))))
theorem h_laws_toLockSS : hF Tryz.prog n_laws_toLockSS = some c_laws_toLockSS.strip := by kernel_rfl
theorem r_laws_toLockSS : rF Tryz.prog n_laws_toLockSS = some ([.tmp 2], 23) := by kernel_rfl
-- 21 loop.example/g00850/laws.toIntS
abbrev n_laws_toIntS : Nat := 21
def c_laws_toIntS_l1 : AS :=
 .seq (.seq (.ops [m 8 4,
 m 9 0,
 o 10 (.lens (t 9)),
 o 11 (.bin .lss (t 8) (t 10))])
 (.cond (t 11) (.skip) (.exit 0)))
 (.seq (.block 1 (.ops [m 14 3,
 m 15 4,
 m 16 0,
 m 17 4,
 o 18 (.ia 1 (t 16) (t 17)),
 o 19 (.load none (t 18)),
 o 20 (.ia 1 (t 14) (t 15)),
 u (.store 1 (t 20) (t 19))]))
 (.kept [0, 3, 4] (.ops [m 12 4,
 o 13 (.bin .add (t 12) (k 1)),
 m 4 13])))
def c_laws_toIntS : AS :=
 .seq (.ops [o 2 (.mv (.const (.slice none 0 0)))])
 (.seq (.ops [m 5 0,
 o 6 (.lens (t 5)),
 o 7 (.mks 1 8 (.int .i64 0) (t 6) (t 6)),
 m 3 7])
 (.seq (.seq (.ops [o 4 (.mv (k 0))])
 (.block 0 (.loop 1 [(0, 0), (3, 0), (4, 0)] c_laws_toIntS_l1)))
 (.kept [3] (.seq (.ops [m 21 3,
 m 2 21])
 (.ret)))))
theorem h_laws_toIntS : hF Tryz.prog n_laws_toIntS = some c_laws_toIntS.strip := by kernel_rfl
theorem r_laws_toIntS : rF Tryz.prog n_laws_toIntS = some ([.tmp 2], 22) := by kernel_rfl
-- 22 loop.example/g00850/laws.toWorldTxnS
abbrev n_laws_toWorldTxnS : Nat := 22
def c_laws_toWorldTxnS_l1 : AS :=
 .seq (.seq (.ops [m 8 4,
 m 9 0,
 o 10 (.lens (t 9)),
 o 11 (.bin .lss (t 8) (t 10))])
 (.cond (t 11) (.skip) (.exit 0)))
 (.seq (.block 1 (.post [(21, 1, [(0, 4), (1, 3), (2, 1)]), (18, 1, [(0, 4), (1, 3), (2, 1)])] (.ops [m 14 3,
 m 15 4,
 m 16 0,
 m 17 4,
 o 18 (.ia 10 (t 16) (t 17)),
 o 19 (.load (some 10) (t 18)),
 o 20 (.call 61 [(t 19)]),
 o 21 (.ia 10 (t 14) (t 15)),
 u (.store 10 (t 21) (t 20))])))
 (.kept [0, 3, 4] (.ops [m 12 4,
 o 13 (.bin .add (t 12) (k 1)),
 m 4 13])))
def c_laws_toWorldTxnS : AS :=
 .seq (.ops [o 2 (.mv (.const (.slice none 0 0)))])
 (.seq (.ops [m 5 0,
 o 6 (.lens (t 5)),
 o 7 (.mks 10 112 (.agg #[.slice none 0 0, .slice none 0 0, .slice none 0 0, .int .i64 0, .int .i64 0, .bool false, .int .i64 0, .bool false, .bool false, .bool false]) (t 6) (t 6)),
 m 3 7])
 (.seq (.seq (.ops [o 4 (.mv (k 0))])
 (.block 0 (.loop 1 [(0, 0), (3, 0), (4, 0)] c_laws_toWorldTxnS_l1)))
 (.kept [3] (.seq (.ops [m 22 3,
 m 2 22])
 (.ret)))))
theorem h_laws_toWorldTxnS : hF Tryz.prog n_laws_toWorldTxnS = some c_laws_toWorldTxnS.strip := by kernel_rfl
theorem r_laws_toWorldTxnS : rF Tryz.prog n_laws_toWorldTxnS = some ([.tmp 2], 23) := by kernel_rfl
-- 23 loop.example/g00850/laws.toWorldLookS
abbrev n_laws_toWorldLookS : Nat := 23
def c_laws_toWorldLookS_l1 : AS :=
 .seq (.seq (.ops [m 8 4,
 m 9 0,
 o 10 (.lens (t 9)),
 o 11 (.bin .lss (t 8) (t 10))])
 (.cond (t 11) (.skip) (.exit 0)))
 (.seq (.block 1 (.post [(21, 1, [(1, 1), (2, 3)]), (18, 1, [(1, 1), (2, 3)])] (.ops [m 14 3,
 m 15 4,
 m 16 0,
 m 17 4,
 o 18 (.ia 6 (t 16) (t 17)),
 o 19 (.load (some 6) (t 18)),
 o 20 (.call 62 [(t 19)]),
 o 21 (.ia 6 (t 14) (t 15)),
 u (.store 6 (t 21) (t 20))])))
 (.kept [0, 3, 4] (.ops [m 12 4,
 o 13 (.bin .add (t 12) (k 1)),
 m 4 13])))
def c_laws_toWorldLookS : AS :=
 .seq (.ops [o 2 (.mv (.const (.slice none 0 0)))])
 (.seq (.ops [m 5 0,
 o 6 (.lens (t 5)),
 o 7 (.mks 6 80 (.agg #[.int .i64 0, .slice none 0 0, .slice none 0 0, .int .i64 0, .int .i64 0, .int .i64 0]) (t 6) (t 6)),
 m 3 7])
 (.seq (.seq (.ops [o 4 (.mv (k 0))])
 (.block 0 (.loop 1 [(0, 0), (3, 0), (4, 0)] c_laws_toWorldLookS_l1)))
 (.kept [3] (.seq (.ops [m 22 3,
 m 2 22])
 (.ret)))))
theorem h_laws_toWorldLookS : hF Tryz.prog n_laws_toWorldLookS = some c_laws_toWorldLookS.strip := by kernel_rfl
theorem r_laws_toWorldLookS : rF Tryz.prog n_laws_toWorldLookS = some ([.tmp 2], 23) := by kernel_rfl
-- 24 loop.example/g00850/impl.GoodCuts
abbrev n_impl_GoodCuts : Nat := 24
def c_impl_GoodCuts : AS :=
 .seq (.ops [o 2 (.mv ff)])
 (.seq (.ops [m 3 0,
 o 4 (.lens (t 3)),
 o 5 (.bin .lss (t 4) (k 4)),
 m 6 5,
 mg 7 6 true 0,
 g 8 6 true (.call 63 [(t 7)]),
 o 9 (.pick (t 6) (t 8) ff),
 m 2 9])
 (.ret))
theorem h_impl_GoodCuts : hF Tryz.prog n_impl_GoodCuts = some c_impl_GoodCuts.strip := by kernel_rfl
theorem r_impl_GoodCuts : rF Tryz.prog n_impl_GoodCuts = some ([.tmp 2], 10) := by kernel_rfl
-- 25 loop.example/g00850/impl.GoodGroup
abbrev n_impl_GoodGroup : Nat := 25
def c_impl_GoodGroup : AS :=
 .seq (.ops [o 1 (.box (t 0)),
 o 2 (.mv ff)])
 (.seq (.seq (.ops [o 3 (.fa 0 (t 1)),
 o 4 (.load none (t 3)),
 o 5 (.lens (t 4)),
 o 6 (.call 64 [(t 5)]),
 o 7 (.not (t 6)),
 m 8 7,
 g 9 8 false (.fa 1 (t 1)),
 g 10 8 false (.load none (t 9)),
 g 11 8 false (.call 28 [(t 10), (k 0), (k 200)]),
 g 12 8 false (.not (t 11)),
 o 13 (.pick (t 8) tt (t 12)),
 m 14 13,
 g 15 14 false (.fa 2 (t 1)),
 g 16 14 false (.load none (t 15)),
 g 17 14 false (.bin .neq (t 16) (k (-1))),
 mg 18 14 false 17,
 g 19 18 true (.load (some 3) (t 1)),
 g 20 18 true (.fa 2 (t 1)),
 g 21 18 true (.load none (t 20)),
 g 22 18 true (.call 65 [(t 19), (t 21)]),
 mg 23 18 true 22,
 g 24 23 true (.fa 0 (t 1)),
 g 25 23 true (.load none (t 24)),
 g 26 23 true (.fa 2 (t 1)),
 g 27 23 true (.load none (t 26)),
 g 28 23 true (.ia 3 (t 25) (t 27)),
 g 29 23 true (.fa 0 (t 28)),
 g 30 23 true (.load none (t 29)),
 g 31 18 true (.pick (t 23) (t 30) ff),
 g 32 18 true (.not (t 31)),
 g 33 14 false (.pick (t 18) (t 32) ff),
 o 34 (.pick (t 14) tt (t 33))])
 (.kept [1, 34] (.cond (t 34) (.seq (.ops [o 2 (.mv ff)])
 (.ret)) (.skip))))
 (.kept [1] (.seq (.ops [o 35 (.fa 0 (t 1)),
 o 36 (.load none (t 35)),
 o 37 (.mkf 67 [(t 1)]),
 o 38 (.call 66 [(t 36), (t 37)]),
 o 39 (.not (t 38)),
 m 2 39])
 (.ret))))
theorem h_impl_GoodGroup : hF Tryz.prog n_impl_GoodGroup = some c_impl_GoodGroup.strip := by kernel_rfl
theorem r_impl_GoodGroup : rF Tryz.prog n_impl_GoodGroup = some ([.tmp 2], 40) := by kernel_rfl
-- 26 loop.example/g00850/impl.GoodLocks
abbrev n_impl_GoodLocks : Nat := 26
def c_impl_GoodLocks_l1 : AS :=
 .seq (.ops [o 8 (.bin .lss (t 7) (t 6))])
 (.seq (.cond (t 8) (.skip) (.exit 0))
 (.seq (.block 1 (.seq (.ops [m 9 7,
 o 10 (.ia 3 (t 5) (t 7)),
 o 11 (.load (some 3) (t 10)),
 o 4 (.alloc (.agg #[.string ⟨⟨[]⟩⟩, .int .i64 0, .bool false])),
 m 3 9,
 u (.store 3 (t 4) (t 11))])
 (.seq (.ops [o 12 (.load (some 3) (t 4)),
 o 13 (.call 69 [(t 12)]),
 o 14 (.not (t 13)),
 m 15 14,
 mg 16 15 false 0,
 mg 17 15 false 3,
 g 18 15 false (.sls 3 (t 16) none (some (t 17)) none),
 g 19 15 false (.mkf 71 [(t 4)]),
 g 20 15 false (.call 70 [(t 18), (t 19)]),
 o 21 (.pick (t 15) tt (t 20))])
 (.kept [0, 5, 6, 7, 21] (.cond (t 21) (.seq (.ops [o 2 (.mv ff)])
 (.ret)) (.skip))))))
 (.kept [0, 5, 6, 7] (.ops [o 22 (.bin .add (t 7) (k 1)),
 m 7 22]))))
def c_impl_GoodLocks : AS :=
 .seq (.ops [o 2 (.mv ff)])
 (.seq (.seq (.ops [m 5 0,
 o 6 (.lens (t 5)),
 o 7 (.mv (k 0))])
 (.block 0 (.loop 1 [(0, 0), (5, 0), (6, 0), (7, 0)] c_impl_GoodLocks_l1)))
 (.kept [0] (.seq (.ops [m 23 0,
 o 24 (.lens (t 23)),
 o 25 (.bin .leq (t 24) (k 60)),
 m 2 25])
 (.ret))))
theorem h_impl_GoodLocks : hF Tryz.prog n_impl_GoodLocks = some c_impl_GoodLocks.strip := by kernel_rfl
theorem r_impl_GoodLocks : rF Tryz.prog n_impl_GoodLocks = some ([.tmp 2], 26) := by kernel_rfl
-- 27 loop.example/g00850/impl.isTrue
abbrev n_impl_isTrue : Nat := 27
def c_impl_isTrue : AS :=
 .seq (.ops [o 2 (.mv ff)])
 (.seq (.ops [m 3 0,
 o 4 (.call 28 [(t 3), (k 0), (k 100000)]),
 m 2 4])
 (.ret))
theorem h_impl_isTrue : hF Tryz.prog n_impl_isTrue = some c_impl_isTrue.strip := by kernel_rfl
theorem r_impl_isTrue : rF Tryz.prog n_impl_isTrue = some ([.tmp 2], 5) := by kernel_rfl
-- 28 loop.example/g00850/impl.within
abbrev n_impl_within : Nat := 28
def c_impl_within : AS :=
 .seq (.ops [o 6 (.mv ff)])
 (.seq (.ops [m 7 0,
 m 8 1,
 o 9 (.bin .geq (t 7) (t 8)),
 m 10 9,
 mg 11 10 true 0,
 mg 12 10 true 2,
 g 13 10 true (.bin .leq (t 11) (t 12)),
 o 14 (.pick (t 10) (t 13) ff),
 m 6 14])
 (.ret))
theorem h_impl_within : hF Tryz.prog n_impl_within = some c_impl_within.strip := by kernel_rfl
theorem r_impl_within : rF Tryz.prog n_impl_within = some ([.tmp 6], 15) := by kernel_rfl
-- 29 slices.ContainsFunc[[]loop.example/g00850/impl.Clock,loop.example/g00850/impl.Clock]
abbrev n_slices_ContainsFunc___impl_Clock_impl_Clock_ : Nat := 29
def c_slices_ContainsFunc___impl_Clock_impl_Clock_ : AS :=
 .seq (.ops [o 4 (.mv ff)])
 (.seq (.ops [m 5 0,
 m 6 1,
 o 7 (.call 73 [(t 5), (t 6)]),
 o 8 (.bin .geq (t 7) (k 0)),
 m 4 8])
 (.ret))
theorem h_slices_ContainsFunc___impl_Clock_impl_Clock_ : hF Tryz.prog n_slices_ContainsFunc___impl_Clock_impl_Clock_ = some c_slices_ContainsFunc___impl_Clock_impl_Clock_.strip := by kernel_rfl
theorem r_slices_ContainsFunc___impl_Clock_impl_Clock_ : rF Tryz.prog n_slices_ContainsFunc___impl_Clock_impl_Clock_ = some ([.tmp 4], 9) := by kernel_rfl
-- 30 loop.example/g00850/impl.GoodWorld$1
abbrev n_impl_GoodWorld_1 : Nat := 30
def c_impl_GoodWorld_1 : AS :=
 .seq (.ops [o 1 (.box (t 0)),
 o 2 (.mv ff)])
 (.seq (.ops [o 3 (.load (some 1) (t 1)),
 o 4 (.call 31 [(t 3)]),
 o 5 (.not (t 4)),
 m 2 5])
 (.ret))
theorem h_impl_GoodWorld_1 : hF Tryz.prog n_impl_GoodWorld_1 = some c_impl_GoodWorld_1.strip := by kernel_rfl
theorem r_impl_GoodWorld_1 : rF Tryz.prog n_impl_GoodWorld_1 = some ([.tmp 2], 6) := by kernel_rfl
-- 31 loop.example/g00850/impl.GoodClock
abbrev n_impl_GoodClock : Nat := 31
def c_impl_GoodClock : AS :=
 .seq (.ops [o 1 (.box (t 0)),
 o 2 (.mv ff)])
 (.seq (.ops [o 3 (.fa 0 (t 1)),
 o 4 (.load none (t 3)),
 o 5 (.call 28 [(t 4), (k (-5)), (k 5)]),
 m 2 5])
 (.ret))
theorem h_impl_GoodClock : hF Tryz.prog n_impl_GoodClock = some c_impl_GoodClock.strip := by kernel_rfl
theorem r_impl_GoodClock : rF Tryz.prog n_impl_GoodClock = some ([.tmp 2], 6) := by kernel_rfl
-- 32 slices.ContainsFunc[[]loop.example/g00850/impl.WorldTxn,loop.example/g00850/impl.WorldTxn]
abbrev n_slices_ContainsFunc___impl_WorldTxn_impl_WorldTxn_ : Nat := 32
def c_slices_ContainsFunc___impl_WorldTxn_impl_WorldTxn_ : AS :=
 .seq (.ops [o 4 (.mv ff)])
 (.seq (.ops [m 5 0,
 m 6 1,
 o 7 (.call 74 [(t 5), (t 6)]),
 o 8 (.bin .geq (t 7) (k 0)),
 m 4 8])
 (.ret))
theorem h_slices_ContainsFunc___impl_WorldTxn_impl_WorldTxn_ : hF Tryz.prog n_slices_ContainsFunc___impl_WorldTxn_impl_WorldTxn_ = some c_slices_ContainsFunc___impl_WorldTxn_impl_WorldTxn_.strip := by kernel_rfl
theorem r_slices_ContainsFunc___impl_WorldTxn_impl_WorldTxn_ : rF Tryz.prog n_slices_ContainsFunc___impl_WorldTxn_impl_WorldTxn_ = some ([.tmp 4], 9) := by kernel_rfl
-- 33 loop.example/g00850/impl.GoodWorld$2
abbrev n_impl_GoodWorld_2 : Nat := 33
def c_impl_GoodWorld_2 : AS :=
 .seq (.ops [o 2 (.box (t 0)),
 o 3 (.mv ff)])
 (.seq (.ops [o 4 (.load (some 9) (t 1)),
 o 5 (.load (some 10) (t 2)),
 o 6 (.call 34 [(t 4), (t 5)]),
 o 7 (.not (t 6)),
 m 3 7])
 (.ret))
theorem h_impl_GoodWorld_2 : hF Tryz.prog n_impl_GoodWorld_2 = some c_impl_GoodWorld_2.strip := by kernel_rfl
theorem r_impl_GoodWorld_2 : rF Tryz.prog n_impl_GoodWorld_2 = some ([.tmp 3], 8) := by kernel_rfl
-- 34 (loop.example/g00850/impl.World).isWorldTxn
abbrev n_impl_World_isWorldTxn : Nat := 34
def c_impl_World_isWorldTxn : AS :=
 .seq (.ops [o 2 (.box (t 0)),
 o 3 (.box (t 1)),
 o 4 (.mv ff)])
 (.seq (.ops [o 5 (.fa 0 (t 3)),
 o 6 (.load none (t 5)),
 o 7 (.call 75 [(t 6)]),
 m 8 7,
 g 9 8 true (.fa 1 (t 3)),
 g 10 8 true (.load none (t 9)),
 g 11 8 true (.call 76 [(t 10)]),
 o 12 (.pick (t 8) (t 11) ff),
 m 13 12,
 g 14 13 true (.fa 2 (t 3)),
 g 15 13 true (.load none (t 14)),
 g 16 13 true (.lens (t 15)),
 g 17 13 true (.fa 4 (t 2)),
 g 18 13 true (.load none (t 17)),
 g 19 13 true (.lens (t 18)),
 g 20 13 true (.bin .eql (t 16) (t 19)),
 o 21 (.pick (t 13) (t 20) ff),
 m 22 21,
 g 23 22 true (.fa 2 (t 3)),
 g 24 22 true (.load none (t 23)),
 g 25 22 true (.call 77 [(t 24), (.func 78)]),
 g 26 22 true (.not (t 25)),
 o 27 (.pick (t 22) (t 26) ff),
 m 28 27,
 g 29 28 true (.load (some 9) (t 2)),
 g 30 28 true (.fa 3 (t 3)),
 g 31 28 true (.load none (t 30)),
 g 32 28 true (.call 79 [(t 29), (t 31)]),
 o 33 (.pick (t 28) (t 32) ff),
 m 34 33,
 g 35 34 true (.load (some 9) (t 2)),
 g 36 34 true (.fa 4 (t 3)),
 g 37 34 true (.load none (t 36)),
 g 38 34 true (.call 79 [(t 35), (t 37)]),
 o 39 (.pick (t 34) (t 38) ff),
 m 40 39,
 g 41 40 true (.fa 6 (t 3)),
 g 42 40 true (.load none (t 41)),
 g 43 40 true (.call 27 [(t 42)]),
 o 44 (.pick (t 40) (t 43) ff),
 m 4 44])
 (.ret))
theorem h_impl_World_isWorldTxn : hF Tryz.prog n_impl_World_isWorldTxn = some c_impl_World_isWorldTxn.strip := by kernel_rfl
theorem r_impl_World_isWorldTxn : rF Tryz.prog n_impl_World_isWorldTxn = some ([.tmp 4], 45) := by kernel_rfl
-- 35 slices.ContainsFunc[[]loop.example/g00850/impl.WorldLook,loop.example/g00850/impl.WorldLook]
abbrev n_slices_ContainsFunc___impl_WorldLook_impl_WorldLook_ : Nat := 35
def c_slices_ContainsFunc___impl_WorldLook_impl_WorldLook_ : AS :=
 .seq (.ops [o 4 (.mv ff)])
 (.seq (.ops [m 5 0,
 m 6 1,
 o 7 (.call 80 [(t 5), (t 6)]),
 o 8 (.bin .geq (t 7) (k 0)),
 m 4 8])
 (.ret))
theorem h_slices_ContainsFunc___impl_WorldLook_impl_WorldLook_ : hF Tryz.prog n_slices_ContainsFunc___impl_WorldLook_impl_WorldLook_ = some c_slices_ContainsFunc___impl_WorldLook_impl_WorldLook_.strip := by kernel_rfl
theorem r_slices_ContainsFunc___impl_WorldLook_impl_WorldLook_ : rF Tryz.prog n_slices_ContainsFunc___impl_WorldLook_impl_WorldLook_ = some ([.tmp 4], 9) := by kernel_rfl
-- 36 loop.example/g00850/impl.GoodWorld$3
abbrev n_impl_GoodWorld_3 : Nat := 36
def c_impl_GoodWorld_3 : AS :=
 .seq (.ops [o 2 (.box (t 0)),
 o 3 (.mv ff)])
 (.seq (.ops [o 4 (.load (some 9) (t 1)),
 o 5 (.load (some 6) (t 2)),
 o 6 (.call 37 [(t 4), (t 5)]),
 o 7 (.not (t 6)),
 m 3 7])
 (.ret))
theorem h_impl_GoodWorld_3 : hF Tryz.prog n_impl_GoodWorld_3 = some c_impl_GoodWorld_3.strip := by kernel_rfl
theorem r_impl_GoodWorld_3 : rF Tryz.prog n_impl_GoodWorld_3 = some ([.tmp 3], 8) := by kernel_rfl
-- 37 (loop.example/g00850/impl.World).isWorldLook
abbrev n_impl_World_isWorldLook : Nat := 37
def c_impl_World_isWorldLook_l1 : AS :=
 .seq (.ops [o 37 (.bin .lss (t 36) (t 35))])
 (.seq (.cond (t 37) (.skip) (.exit 0))
 (.seq (.block 1 (.seq (.ops [m 38 36,
 o 39 (.ia 3 (t 34) (t 36)),
 o 40 (.load (some 3) (t 39)),
 o 6 (.alloc (.agg #[.string ⟨⟨[]⟩⟩, .string ⟨⟨[]⟩⟩, .bool false])),
 m 5 38,
 u (.store 3 (t 6) (t 40))])
 (.seq (.dops [o 41 (.fa 0 (t 6)),
 o 42 (.load none (t 41)),
 o 43 (.fa 1 (t 3)),
 o 44 (.load none (t 43)),
 m 45 5,
 o 46 (.ia 1 (t 44) (t 45)),
 o 47 (.load none (t 46)),
 o 48 (.bin .neq (t 42) (t 47))])
 (.kept [2, 3, 34, 35, 36, 48] (.cond (t 48) (.seq (.ops [o 4 (.mv ff)])
 (.ret)) (.skip))))))
 (.kept [2, 3, 34, 35, 36] (.ops [o 49 (.bin .add (t 36) (k 1)),
 m 36 49]))))
def c_impl_World_isWorldLook : AS :=
 .seq (.ops [o 2 (.box (t 0)),
 o 3 (.box (t 1)),
 o 4 (.mv ff)])
 (.seq (.seq (.ops [o 7 (.load (some 9) (t 2)),
 o 8 (.fa 0 (t 3)),
 o 9 (.load none (t 8)),
 o 10 (.call 81 [(t 7), (t 9)]),
 o 11 (.not (t 10)),
 m 12 11,
 g 13 12 false (.fa 1 (t 3)),
 g 14 12 false (.load none (t 13)),
 g 15 12 false (.call 82 [(t 14)]),
 g 16 12 false (.not (t 15)),
 o 17 (.pick (t 12) tt (t 16)),
 m 18 17,
 g 19 18 false (.fa 2 (t 3)),
 g 20 18 false (.load none (t 19)),
 g 21 18 false (.lens (t 20)),
 g 22 18 false (.fa 1 (t 3)),
 g 23 18 false (.load none (t 22)),
 g 24 18 false (.lens (t 23)),
 g 25 18 false (.bin .gtr (t 21) (t 24)),
 o 26 (.pick (t 18) tt (t 25)),
 m 27 26,
 g 28 27 false (.fa 2 (t 3)),
 g 29 27 false (.load none (t 28)),
 g 30 27 false (.call 76 [(t 29)]),
 g 31 27 false (.not (t 30)),
 o 32 (.pick (t 27) tt (t 31))])
 (.kept [2, 3, 32] (.cond (t 32) (.seq (.ops [o 4 (.mv ff)])
 (.ret)) (.skip))))
 (.kept [2, 3] (.seq (.seq (.ops [o 33 (.fa 2 (t 3)),
 o 34 (.load none (t 33)),
 o 35 (.lens (t 34)),
 o 36 (.mv (k 0))])
 (.block 0 (.loop 2 [(2, 0), (3, 0), (34, 0), (35, 0), (36, 0)] c_impl_World_isWorldLook_l1)))
 (.kept [2, 3] (.seq (.ops [o 50 (.fa 3 (t 3)),
 o 51 (.load none (t 50)),
 o 52 (.call 27 [(t 51)]),
 m 53 52,
 g 54 53 true (.load (some 9) (t 2)),
 g 55 53 true (.fa 4 (t 3)),
 g 56 53 true (.load none (t 55)),
 g 57 53 true (.call 79 [(t 54), (t 56)]),
 o 58 (.pick (t 53) (t 57) ff),
 m 59 58,
 g 60 59 true (.load (some 9) (t 2)),
 g 61 59 true (.fa 5 (t 3)),
 g 62 59 true (.load none (t 61)),
 g 63 59 true (.call 79 [(t 60), (t 62)]),
 o 64 (.pick (t 59) (t 63) ff),
 m 4 64])
 (.ret))))))
theorem h_impl_World_isWorldLook : hF Tryz.prog n_impl_World_isWorldLook = some c_impl_World_isWorldLook.strip := by kernel_rfl
theorem r_impl_World_isWorldLook : rF Tryz.prog n_impl_World_isWorldLook = some ([.tmp 4], 65) := by kernel_rfl
-- 38 loop.example/g00850/laws.eqClockS
abbrev n_laws_eqClockS : Nat := 38
def c_laws_eqClockS_l1 : AS :=
 .seq (.seq (.ops [m 11 5,
 m 12 0,
 o 13 (.lens (t 12)),
 o 14 (.bin .lss (t 11) (t 13))])
 (.cond (t 14) (.skip) (.exit 0)))
 (.seq (.block 1 (.seq (.rops [(none, m 17 0),
 (none, m 18 5),
 (none, o 19 (.ia 1 (t 17) (t 18))),
 (none, o 20 (.load (some 1) (t 19))),
 (none, m 21 1),
 (none, m 22 5),
 (none, o 23 (.ia 1 (t 21) (t 22))),
 (none, o 24 (.load (some 1) (t 23))),
 (some [], o 25 (.call 83 [(t 20), (t 24)])),
 (none, o 26 (.not (t 25)))])
 (.kept [0, 1, 5, 26] (.cond (t 26) (.seq (.ops [o 4 (.mv ff)])
 (.ret)) (.skip)))))
 (.kept [0, 1, 5] (.ops [m 15 5,
 o 16 (.bin .add (t 15) (k 1)),
 m 5 16])))
def c_laws_eqClockS : AS :=
 .seq (.ops [o 4 (.mv ff)])
 (.seq (.seq (.ops [m 6 0,
 o 7 (.lens (t 6)),
 m 8 1,
 o 9 (.lens (t 8)),
 o 10 (.bin .neq (t 7) (t 9))])
 (.cond (t 10) (.seq (.ops [o 4 (.mv ff)])
 (.ret)) (.skip)))
 (.kept [0, 1] (.seq (.seq (.ops [o 5 (.mv (k 0))])
 (.block 0 (.loop 2 [(0, 0), (1, 0), (5, 0)] c_laws_eqClockS_l1)))
 (.kept [] (.seq (.ops [o 4 (.mv tt)])
 (.ret))))))
theorem h_laws_eqClockS : hF Tryz.prog n_laws_eqClockS = some c_laws_eqClockS.strip := by kernel_rfl
theorem r_laws_eqClockS : rF Tryz.prog n_laws_eqClockS = some ([.tmp 4], 27) := by kernel_rfl
-- 39 loop.example/g00850/laws.eqStringS
abbrev n_laws_eqStringS : Nat := 39
def c_laws_eqStringS_l1 : AS :=
 .seq (.seq (.ops [m 11 5,
 m 12 0,
 o 13 (.lens (t 12)),
 o 14 (.bin .lss (t 11) (t 13))])
 (.cond (t 14) (.skip) (.exit 0)))
 (.seq (.block 1 (.seq (.dops [m 17 0,
 m 18 5,
 o 19 (.ia 1 (t 17) (t 18)),
 o 20 (.load none (t 19)),
 m 21 1,
 m 22 5,
 o 23 (.ia 1 (t 21) (t 22)),
 o 24 (.load none (t 23)),
 o 25 (.bin .neq (t 20) (t 24))])
 (.kept [0, 1, 5, 25] (.cond (t 25) (.seq (.ops [o 4 (.mv ff)])
 (.ret)) (.skip)))))
 (.kept [0, 1, 5] (.ops [m 15 5,
 o 16 (.bin .add (t 15) (k 1)),
 m 5 16])))
def c_laws_eqStringS : AS :=
 .seq (.ops [o 4 (.mv ff)])
 (.seq (.seq (.ops [m 6 0,
 o 7 (.lens (t 6)),
 m 8 1,
 o 9 (.lens (t 8)),
 o 10 (.bin .neq (t 7) (t 9))])
 (.cond (t 10) (.seq (.ops [o 4 (.mv ff)])
 (.ret)) (.skip)))
 (.kept [0, 1] (.seq (.seq (.ops [o 5 (.mv (k 0))])
 (.block 0 (.loop 2 [(0, 0), (1, 0), (5, 0)] c_laws_eqStringS_l1)))
 (.kept [] (.seq (.ops [o 4 (.mv tt)])
 (.ret))))))
theorem h_laws_eqStringS : hF Tryz.prog n_laws_eqStringS = some c_laws_eqStringS.strip := by kernel_rfl
theorem r_laws_eqStringS : rF Tryz.prog n_laws_eqStringS = some ([.tmp 4], 26) := by kernel_rfl
-- 40 loop.example/g00850/laws.eqGroupS
abbrev n_laws_eqGroupS : Nat := 40
def c_laws_eqGroupS_l1 : AS :=
 .seq (.seq (.ops [m 11 5,
 m 12 0,
 o 13 (.lens (t 12)),
 o 14 (.bin .lss (t 11) (t 13))])
 (.cond (t 14) (.skip) (.exit 0)))
 (.seq (.block 1 (.seq (.post [(23, 1, [(0, 3)]), (19, 1, [(0, 3)])] (.rops [(none, m 17 0),
 (none, m 18 5),
 (none, o 19 (.ia 3 (t 17) (t 18))),
 (none, o 20 (.load (some 3) (t 19))),
 (none, m 21 1),
 (none, m 22 5),
 (none, o 23 (.ia 3 (t 21) (t 22))),
 (none, o 24 (.load (some 3) (t 23))),
 (some [], o 25 (.call 84 [(t 20), (t 24)])),
 (none, o 26 (.not (t 25)))]))
 (.kept [0, 1, 5, 26] (.cond (t 26) (.seq (.ops [o 4 (.mv ff)])
 (.ret)) (.skip)))))
 (.kept [0, 1, 5] (.ops [m 15 5,
 o 16 (.bin .add (t 15) (k 1)),
 m 5 16])))
def c_laws_eqGroupS : AS :=
 .seq (.ops [o 4 (.mv ff)])
 (.seq (.seq (.ops [m 6 0,
 o 7 (.lens (t 6)),
 m 8 1,
 o 9 (.lens (t 8)),
 o 10 (.bin .neq (t 7) (t 9))])
 (.cond (t 10) (.seq (.ops [o 4 (.mv ff)])
 (.ret)) (.skip)))
 (.kept [0, 1] (.seq (.seq (.ops [o 5 (.mv (k 0))])
 (.block 0 (.loop 2 [(0, 0), (1, 0), (5, 0)] c_laws_eqGroupS_l1)))
 (.kept [] (.seq (.ops [o 4 (.mv tt)])
 (.ret))))))
theorem h_laws_eqGroupS : hF Tryz.prog n_laws_eqGroupS = some c_laws_eqGroupS.strip := by kernel_rfl
theorem r_laws_eqGroupS : rF Tryz.prog n_laws_eqGroupS = some ([.tmp 4], 27) := by kernel_rfl
-- 41 loop.example/g00850/laws.eqLockSS
abbrev n_laws_eqLockSS : Nat := 41
def c_laws_eqLockSS_l1 : AS :=
 .seq (.seq (.ops [m 11 5,
 m 12 0,
 o 13 (.lens (t 12)),
 o 14 (.bin .lss (t 11) (t 13))])
 (.cond (t 14) (.skip) (.exit 0)))
 (.seq (.block 1 (.seq (.post [(23, 1, [(0, 3)]), (19, 1, [(0, 3)])] (.rops [(none, m 17 0),
 (none, m 18 5),
 (none, o 19 (.ia 1 (t 17) (t 18))),
 (none, o 20 (.load none (t 19))),
 (none, m 21 1),
 (none, m 22 5),
 (none, o 23 (.ia 1 (t 21) (t 22))),
 (none, o 24 (.load none (t 23))),
 (some [], o 25 (.call 85 [(t 20), (t 24)])),
 (none, o 26 (.not (t 25)))]))
 (.kept [0, 1, 5, 26] (.cond (t 26) (.seq (.ops [o 4 (.mv ff)])
 (.ret)) (.skip)))))
 (.kept [0, 1, 5] (.ops [m 15 5,
 o 16 (.bin .add (t 15) (k 1)),
 m 5 16])))
def c_laws_eqLockSS : AS :=
 .seq (.ops [o 4 (.mv ff)])
 (.seq (.seq (.ops [m 6 0,
 o 7 (.lens (t 6)),
 m 8 1,
 o 9 (.lens (t 8)),
 o 10 (.bin .neq (t 7) (t 9))])
 (.cond (t 10) (.seq (.ops [o 4 (.mv ff)])
 (.ret)) (.skip)))
 (.kept [0, 1] (.seq (.seq (.ops [o 5 (.mv (k 0))])
 (.block 0 (.loop 2 [(0, 0), (1, 0), (5, 0)] c_laws_eqLockSS_l1)))
 (.kept [] (.seq (.ops [o 4 (.mv tt)])
 (.ret))))))
theorem h_laws_eqLockSS : hF Tryz.prog n_laws_eqLockSS = some c_laws_eqLockSS.strip := by kernel_rfl
theorem r_laws_eqLockSS : rF Tryz.prog n_laws_eqLockSS = some ([.tmp 4], 27) := by kernel_rfl
-- 42 loop.example/g00850/laws.eqIntS
abbrev n_laws_eqIntS : Nat := 42
def c_laws_eqIntS_l1 : AS :=
 .seq (.seq (.ops [m 11 5,
 m 12 0,
 o 13 (.lens (t 12)),
 o 14 (.bin .lss (t 11) (t 13))])
 (.cond (t 14) (.skip) (.exit 0)))
 (.seq (.block 1 (.seq (.dops [m 17 0,
 m 18 5,
 o 19 (.ia 1 (t 17) (t 18)),
 o 20 (.load none (t 19)),
 m 21 1,
 m 22 5,
 o 23 (.ia 1 (t 21) (t 22)),
 o 24 (.load none (t 23)),
 o 25 (.bin .neq (t 20) (t 24))])
 (.kept [0, 1, 5, 25] (.cond (t 25) (.seq (.ops [o 4 (.mv ff)])
 (.ret)) (.skip)))))
 (.kept [0, 1, 5] (.ops [m 15 5,
 o 16 (.bin .add (t 15) (k 1)),
 m 5 16])))
def c_laws_eqIntS : AS :=
 .seq (.ops [o 4 (.mv ff)])
 (.seq (.seq (.ops [m 6 0,
 o 7 (.lens (t 6)),
 m 8 1,
 o 9 (.lens (t 8)),
 o 10 (.bin .neq (t 7) (t 9))])
 (.cond (t 10) (.seq (.ops [o 4 (.mv ff)])
 (.ret)) (.skip)))
 (.kept [0, 1] (.seq (.seq (.ops [o 5 (.mv (k 0))])
 (.block 0 (.loop 2 [(0, 0), (1, 0), (5, 0)] c_laws_eqIntS_l1)))
 (.kept [] (.seq (.ops [o 4 (.mv tt)])
 (.ret))))))
theorem h_laws_eqIntS : hF Tryz.prog n_laws_eqIntS = some c_laws_eqIntS.strip := by kernel_rfl
theorem r_laws_eqIntS : rF Tryz.prog n_laws_eqIntS = some ([.tmp 4], 26) := by kernel_rfl
-- 43 loop.example/g00850/laws.eqWorldTxnS
abbrev n_laws_eqWorldTxnS : Nat := 43
def c_laws_eqWorldTxnS_l1 : AS :=
 .seq (.seq (.ops [m 11 5,
 m 12 0,
 o 13 (.lens (t 12)),
 o 14 (.bin .lss (t 11) (t 13))])
 (.cond (t 14) (.skip) (.exit 0)))
 (.seq (.block 1 (.seq (.post [(23, 1, [(0, 4), (1, 3), (2, 1)]), (19, 1, [(0, 4), (1, 3), (2, 1)])] (.rops [(none, m 17 0),
 (none, m 18 5),
 (none, o 19 (.ia 10 (t 17) (t 18))),
 (none, o 20 (.load (some 10) (t 19))),
 (none, m 21 1),
 (none, m 22 5),
 (none, o 23 (.ia 10 (t 21) (t 22))),
 (none, o 24 (.load (some 10) (t 23))),
 (some [], o 25 (.call 86 [(t 20), (t 24)])),
 (none, o 26 (.not (t 25)))]))
 (.kept [0, 1, 5, 26] (.cond (t 26) (.seq (.ops [o 4 (.mv ff)])
 (.ret)) (.skip)))))
 (.kept [0, 1, 5] (.ops [m 15 5,
 o 16 (.bin .add (t 15) (k 1)),
 m 5 16])))
def c_laws_eqWorldTxnS : AS :=
 .seq (.ops [o 4 (.mv ff)])
 (.seq (.seq (.ops [m 6 0,
 o 7 (.lens (t 6)),
 m 8 1,
 o 9 (.lens (t 8)),
 o 10 (.bin .neq (t 7) (t 9))])
 (.cond (t 10) (.seq (.ops [o 4 (.mv ff)])
 (.ret)) (.skip)))
 (.kept [0, 1] (.seq (.seq (.ops [o 5 (.mv (k 0))])
 (.block 0 (.loop 2 [(0, 0), (1, 0), (5, 0)] c_laws_eqWorldTxnS_l1)))
 (.kept [] (.seq (.ops [o 4 (.mv tt)])
 (.ret))))))
theorem h_laws_eqWorldTxnS : hF Tryz.prog n_laws_eqWorldTxnS = some c_laws_eqWorldTxnS.strip := by kernel_rfl
theorem r_laws_eqWorldTxnS : rF Tryz.prog n_laws_eqWorldTxnS = some ([.tmp 4], 27) := by kernel_rfl
-- 44 loop.example/g00850/laws.eqWorldLookS
abbrev n_laws_eqWorldLookS : Nat := 44
def c_laws_eqWorldLookS_l1 : AS :=
 .seq (.seq (.ops [m 11 5,
 m 12 0,
 o 13 (.lens (t 12)),
 o 14 (.bin .lss (t 11) (t 13))])
 (.cond (t 14) (.skip) (.exit 0)))
 (.seq (.block 1 (.seq (.post [(23, 1, [(1, 1), (2, 3)]), (19, 1, [(1, 1), (2, 3)])] (.rops [(none, m 17 0),
 (none, m 18 5),
 (none, o 19 (.ia 6 (t 17) (t 18))),
 (none, o 20 (.load (some 6) (t 19))),
 (none, m 21 1),
 (none, m 22 5),
 (none, o 23 (.ia 6 (t 21) (t 22))),
 (none, o 24 (.load (some 6) (t 23))),
 (some [], o 25 (.call 87 [(t 20), (t 24)])),
 (none, o 26 (.not (t 25)))]))
 (.kept [0, 1, 5, 26] (.cond (t 26) (.seq (.ops [o 4 (.mv ff)])
 (.ret)) (.skip)))))
 (.kept [0, 1, 5] (.ops [m 15 5,
 o 16 (.bin .add (t 15) (k 1)),
 m 5 16])))
def c_laws_eqWorldLookS : AS :=
 .seq (.ops [o 4 (.mv ff)])
 (.seq (.seq (.ops [m 6 0,
 o 7 (.lens (t 6)),
 m 8 1,
 o 9 (.lens (t 8)),
 o 10 (.bin .neq (t 7) (t 9))])
 (.cond (t 10) (.seq (.ops [o 4 (.mv ff)])
 (.ret)) (.skip)))
 (.kept [0, 1] (.seq (.seq (.ops [o 5 (.mv (k 0))])
 (.block 0 (.loop 2 [(0, 0), (1, 0), (5, 0)] c_laws_eqWorldLookS_l1)))
 (.kept [] (.seq (.ops [o 4 (.mv tt)])
 (.ret))))))
theorem h_laws_eqWorldLookS : hF Tryz.prog n_laws_eqWorldLookS = some c_laws_eqWorldLookS.strip := by kernel_rfl
theorem r_laws_eqWorldLookS : rF Tryz.prog n_laws_eqWorldLookS = some ([.tmp 4], 27) := by kernel_rfl
-- 45 loop.example/g00850/laws.szGroup
abbrev n_laws_szGroup : Nat := 45
def c_laws_szGroup : AS :=
 .seq (.ops [o 2 (.box (t 0)),
 o 4 (.mv (k 0))])
 (.seq (.ops [o 5 (.fa 0 (t 2)),
 o 6 (.load none (t 5)),
 m 7 1,
 o 8 (.call 88 [(t 6), (t 7)]),
 m 1 8])
 (.seq (.seq (.ops [m 9 1,
 o 10 (.bin .lss (t 9) (k 0))])
 (.cond (t 10) (.seq (.ops [o 4 (.mv (k (-1)))])
 (.ret)) (.skip)))
 (.seq (.ops [m 11 1,
 m 4 11])
 (.ret))))
theorem h_laws_szGroup : hF Tryz.prog n_laws_szGroup = some c_laws_szGroup.strip := by kernel_rfl
theorem r_laws_szGroup : rF Tryz.prog n_laws_szGroup = some ([.tmp 4], 12) := by kernel_rfl
-- 46 loop.example/g00850/laws.szLockS
abbrev n_laws_szLockS : Nat := 46
def c_laws_szLockS_l1 : AS :=
 .seq (.seq (.ops [m 12 5,
 m 13 0,
 o 14 (.lens (t 13)),
 o 15 (.bin .lss (t 12) (t 14))])
 (.cond (t 15) (.skip) (.exit 0)))
 (.seq (.block 1 (.seq (.ops [m 18 0,
 m 19 5,
 o 20 (.ia 3 (t 18) (t 19)),
 o 21 (.load (some 3) (t 20)),
 m 22 1,
 o 23 (.call 89 [(t 21), (t 22)]),
 m 1 23])
 (.kept [0, 1, 5] (.seq (.ops [m 24 1,
 o 25 (.bin .lss (t 24) (k 0))])
 (.cond (t 25) (.seq (.ops [o 4 (.mv (k (-1)))])
 (.ret)) (.skip))))))
 (.kept [0, 1, 5] (.ops [m 16 5,
 o 17 (.bin .add (t 16) (k 1)),
 m 5 17])))
def c_laws_szLockS : AS :=
 .seq (.ops [o 4 (.mv (k 0))])
 (.seq (.ops [m 6 1,
 m 7 0,
 o 8 (.lens (t 7)),
 o 9 (.bin .sub (t 6) (t 8)),
 m 1 9])
 (.seq (.seq (.ops [m 10 1,
 o 11 (.bin .lss (t 10) (k 0))])
 (.cond (t 11) (.seq (.ops [o 4 (.mv (k (-1)))])
 (.ret)) (.skip)))
 (.seq (.seq (.ops [o 5 (.mv (k 0))])
 (.block 0 (.loop 2 [(0, 0), (1, 0), (5, 0)] c_laws_szLockS_l1)))
 (.kept [1] (.seq (.ops [m 26 1,
 m 4 26])
 (.ret))))))
theorem h_laws_szLockS : hF Tryz.prog n_laws_szLockS = some c_laws_szLockS.strip := by kernel_rfl
theorem r_laws_szLockS : rF Tryz.prog n_laws_szLockS = some ([.tmp 4], 27) := by kernel_rfl
-- 47 loop.example/g00850/laws.szWorldTxn
abbrev n_laws_szWorldTxn : Nat := 47
def c_laws_szWorldTxn : AS :=
 .seq (.ops [o 2 (.box (t 0)),
 o 4 (.mv (k 0))])
 (.seq (.ops [o 5 (.fa 0 (t 2)),
 o 6 (.load none (t 5)),
 m 7 1,
 o 8 (.call 90 [(t 6), (t 7)]),
 m 1 8])
 (.seq (.seq (.ops [m 9 1,
 o 10 (.bin .lss (t 9) (k 0))])
 (.cond (t 10) (.seq (.ops [o 4 (.mv (k (-1)))])
 (.ret)) (.skip)))
 (.seq (.ops [o 11 (.fa 1 (t 2)),
 o 12 (.load none (t 11)),
 m 13 1,
 o 14 (.call 91 [(t 12), (t 13)]),
 m 1 14])
 (.seq (.seq (.ops [m 15 1,
 o 16 (.bin .lss (t 15) (k 0))])
 (.cond (t 16) (.seq (.ops [o 4 (.mv (k (-1)))])
 (.ret)) (.skip)))
 (.seq (.ops [o 17 (.fa 2 (t 2)),
 o 18 (.load none (t 17)),
 m 19 1,
 o 20 (.call 13 [(t 18), (t 19)]),
 m 1 20])
 (.seq (.seq (.ops [m 21 1,
 o 22 (.bin .lss (t 21) (k 0))])
 (.cond (t 22) (.seq (.ops [o 4 (.mv (k (-1)))])
 (.ret)) (.skip)))
 (.seq (.ops [m 23 1,
 m 4 23])
 (.ret))))))))
theorem h_laws_szWorldTxn : hF Tryz.prog n_laws_szWorldTxn = some c_laws_szWorldTxn.strip := by kernel_rfl
theorem r_laws_szWorldTxn : rF Tryz.prog n_laws_szWorldTxn = some ([.tmp 4], 24) := by kernel_rfl
-- 48 loop.example/g00850/laws.szWorldLook
abbrev n_laws_szWorldLook : Nat := 48
def c_laws_szWorldLook : AS :=
 .seq (.ops [o 2 (.box (t 0)),
 o 4 (.mv (k 0))])
 (.seq (.ops [o 5 (.fa 1 (t 2)),
 o 6 (.load none (t 5)),
 m 7 1,
 o 8 (.call 10 [(t 6), (t 7)]),
 m 1 8])
 (.seq (.seq (.ops [m 9 1,
 o 10 (.bin .lss (t 9) (k 0))])
 (.cond (t 10) (.seq (.ops [o 4 (.mv (k (-1)))])
 (.ret)) (.skip)))
 (.seq (.ops [o 11 (.fa 2 (t 2)),
 o 12 (.load none (t 11)),
 m 13 1,
 o 14 (.call 91 [(t 12), (t 13)]),
 m 1 14])
 (.seq (.seq (.ops [m 15 1,
 o 16 (.bin .lss (t 15) (k 0))])
 (.cond (t 16) (.seq (.ops [o 4 (.mv (k (-1)))])
 (.ret)) (.skip)))
 (.seq (.ops [m 17 1,
 m 4 17])
 (.ret))))))
theorem h_laws_szWorldLook : hF Tryz.prog n_laws_szWorldLook = some c_laws_szWorldLook.strip := by kernel_rfl
theorem r_laws_szWorldLook : rF Tryz.prog n_laws_szWorldLook = some ([.tmp 4], 18) := by kernel_rfl
-- 49 loop.example/g00850/spec.l15Cuts
abbrev n_spec_l15Cuts : Nat := 49
def c_spec_l15Cuts_l1 : AS :=
 .seq (.ops [o 8 (.bin .lss (t 7) (t 6))])
 (.seq (.cond (t 8) (.skip) (.exit 0))
 (.seq (.block 1 (.seq (.ops [m 9 7,
 o 10 (.ia 1 (t 5) (t 7)),
 o 11 (.load none (t 10)),
 m 3 9,
 m 4 11])
 (.seq (.ops [m 12 4,
 o 13 (.call 92 [(t 12)]),
 o 14 (.not (t 13)),
 m 15 14,
 mg 16 15 false 3,
 g 17 15 false (.bin .gtr (t 16) (k 0)),
 mg 18 15 false 17,
 mg 19 18 true 0,
 mg 20 18 true 3,
 g 21 18 true (.bin .sub (t 20) (k 1)),
 g 22 18 true (.ia 1 (t 19) (t 21)),
 g 23 18 true (.load none (t 22)),
 mg 24 18 true 4,
 g 25 18 true (.bin .geq (t 23) (t 24)),
 g 26 15 false (.pick (t 18) (t 25) ff),
 o 27 (.pick (t 15) tt (t 26))])
 (.kept [0, 5, 6, 7, 27] (.cond (t 27) (.seq (.ops [o 2 (.mv ff)])
 (.ret)) (.skip))))))
 (.kept [0, 5, 6, 7] (.ops [o 28 (.bin .add (t 7) (k 1)),
 m 7 28]))))
def c_spec_l15Cuts : AS :=
 .seq (.ops [o 2 (.mv ff)])
 (.seq (.seq (.ops [m 5 0,
 o 6 (.lens (t 5)),
 o 7 (.mv (k 0))])
 (.block 0 (.loop 1 [(0, 0), (5, 0), (6, 0), (7, 0)] c_spec_l15Cuts_l1)))
 (.kept [0] (.seq (.ops [m 29 0,
 o 30 (.lens (t 29)),
 o 31 (.bin .lss (t 30) (k 4)),
 m 2 31])
 (.ret))))
theorem h_spec_l15Cuts : hF Tryz.prog n_spec_l15Cuts = some c_spec_l15Cuts.strip := by kernel_rfl
theorem r_spec_l15Cuts : rF Tryz.prog n_spec_l15Cuts = some ([.tmp 2], 32) := by kernel_rfl
-- 50 loop.example/g00850/spec.l1All
abbrev n_spec_l1All : Nat := 50
def c_spec_l1All_l1 : AS :=
 .seq (.ops [o 12 (.bin .lss (t 11) (t 10))])
 (.seq (.cond (t 12) (.skip) (.exit 0))
 (.seq (.block 1 (.seq (.ops [o 13 (.ia 1 (t 9) (t 11)),
 o 14 (.load none (t 13)),
 m 8 14])
 (.seq (.ops [m 15 8,
 m 16 1,
 m 17 2,
 o 18 (.call 57 [(t 15), (t 16), (t 17)]),
 o 19 (.not (t 18))])
 (.cond (t 19) (.seq (.ops [o 6 (.mv ff)])
 (.ret)) (.skip)))))
 (.kept [1, 2, 9, 10, 11] (.ops [o 20 (.bin .add (t 11) (k 1)),
 m 11 20]))))
def c_spec_l1All : AS :=
 .seq (.ops [o 6 (.mv ff)])
 (.seq (.seq (.ops [m 9 0,
 o 10 (.lens (t 9)),
 o 11 (.mv (k 0))])
 (.block 0 (.loop 3 [(1, 0), (2, 0), (9, 0), (10, 0), (11, 0)] c_spec_l1All_l1)))
 (.kept [] (.seq (.ops [o 6 (.mv tt)])
 (.ret))))
theorem h_spec_l1All : hF Tryz.prog n_spec_l1All = some c_spec_l1All.strip := by kernel_rfl
theorem r_spec_l1All : rF Tryz.prog n_spec_l1All = some ([.tmp 6], 21) := by kernel_rfl
-- 51 loop.example/g00850/spec.GoodGroup
abbrev n_spec_GoodGroup : Nat := 51
def c_spec_GoodGroup_l1 : AS :=
 .seq (.seq (.ops [m 30 3,
 o 31 (.fa 0 (t 1)),
 o 32 (.load none (t 31)),
 o 33 (.lens (t 32)),
 o 34 (.bin .lss (t 30) (t 33))])
 (.cond (t 34) (.skip) (.exit 0)))
 (.seq (.block 1 (.seq (.post [(40, 1, [(1, 8)])] (.rops [(none, o 37 (.fa 0 (t 1))),
 (none, o 38 (.load none (t 37))),
 (none, m 39 3),
 (none, o 40 (.ia 3 (t 38) (t 39))),
 (none, o 41 (.load (some 3) (t 40))),
 (none, o 42 (.fa 1 (t 1))),
 (none, o 43 (.load none (t 42))),
 (some [], o 44 (.call 93 [(t 41), (t 43)])),
 (none, o 45 (.not (t 44)))]))
 (.kept [1, 3, 45] (.cond (t 45) (.seq (.ops [o 2 (.mv ff)])
 (.ret)) (.skip)))))
 (.kept [1, 3] (.ops [m 35 3,
 o 36 (.bin .add (t 35) (k 1)),
 m 3 36])))
def c_spec_GoodGroup : AS :=
 .seq (.ops [o 1 (.box (t 0)),
 o 2 (.mv ff)])
 (.seq (.seq (.ops [o 4 (.fa 0 (t 1)),
 o 5 (.load none (t 4)),
 o 6 (.lens (t 5)),
 o 7 (.bin .neq (t 6) (k 3)),
 m 8 7,
 g 9 8 true (.fa 0 (t 1)),
 g 10 8 true (.load none (t 9)),
 g 11 8 true (.lens (t 10)),
 g 12 8 true (.bin .neq (t 11) (k 5)),
 o 13 (.pick (t 8) (t 12) ff),
 m 14 13,
 g 15 14 false (.fa 1 (t 1)),
 g 16 14 false (.load none (t 15)),
 g 17 14 false (.call 57 [(t 16), (k 0), (k 200)]),
 g 18 14 false (.not (t 17)),
 o 19 (.pick (t 14) tt (t 18)),
 m 20 19,
 g 21 20 false (.fa 2 (t 1)),
 g 22 20 false (.load none (t 21)),
 g 23 20 false (.fa 0 (t 1)),
 g 24 20 false (.load none (t 23)),
 g 25 20 false (.lens (t 24)),
 g 26 20 false (.bin .sub (t 25) (k 1)),
 g 27 20 false (.call 57 [(t 22), (k (-1)), (t 26)]),
 g 28 20 false (.not (t 27)),
 o 29 (.pick (t 20) tt (t 28))])
 (.kept [1, 29] (.cond (t 29) (.seq (.ops [o 2 (.mv ff)])
 (.ret)) (.skip))))
 (.kept [1] (.seq (.seq (.ops [o 3 (.mv (k 0))])
 (.block 0 (.loop 1 [(1, 0), (3, 0)] c_spec_GoodGroup_l1)))
 (.kept [1] (.seq (.ops [o 46 (.fa 2 (t 1)),
 o 47 (.load none (t 46)),
 o 48 (.bin .lss (t 47) (k 0)),
 m 49 48,
 g 50 49 false (.fa 0 (t 1)),
 g 51 49 false (.load none (t 50)),
 g 52 49 false (.fa 2 (t 1)),
 g 53 49 false (.load none (t 52)),
 g 54 49 false (.ia 3 (t 51) (t 53)),
 g 55 49 false (.fa 0 (t 54)),
 g 56 49 false (.load none (t 55)),
 o 57 (.pick (t 49) tt (t 56)),
 m 2 57])
 (.ret))))))
theorem h_spec_GoodGroup : hF Tryz.prog n_spec_GoodGroup = some c_spec_GoodGroup.strip := by kernel_rfl
theorem r_spec_GoodGroup : rF Tryz.prog n_spec_GoodGroup = some ([.tmp 2], 58) := by kernel_rfl
-- 52 loop.example/g00850/spec.l12Good
abbrev n_spec_l12Good : Nat := 52
def c_spec_l12Good_l1 : AS :=
 .seq (.ops [o 22 (.bin .lss (t 21) (t 20))])
 (.seq (.cond (t 22) (.skip) (.exit 2))
 (.seq (.block 3 (.seq (.ops [o 23 (.ia 3 (t 19) (t 21)),
 o 24 (.load (some 3) (t 23)),
 o 6 (.alloc (.agg #[.string ⟨⟨[]⟩⟩, .int .i64 0, .bool false])),
 u (.store 3 (t 6) (t 24))])
 (.seq (.ops [o 25 (.fa 0 (t 4)),
 o 26 (.load none (t 25)),
 o 27 (.fa 0 (t 6)),
 o 28 (.load none (t 27)),
 o 29 (.bin .eql (t 26) (t 28)),
 m 30 29,
 g 31 30 true (.fa 1 (t 4)),
 g 32 30 true (.load none (t 31)),
 g 33 30 true (.fa 1 (t 6)),
 g 34 30 true (.load none (t 33)),
 g 35 30 true (.bin .eql (t 32) (t 34)),
 o 36 (.pick (t 30) (t 35) ff),
 m 37 36,
 g 38 37 false (.load (some 3) (t 4)),
 g 39 37 false (.load (some 3) (t 6)),
 g 40 37 false (.call 95 [(t 38), (t 39)]),
 o 41 (.pick (t 37) tt (t 40))])
 (.kept [0, 4, 7, 8, 9, 19, 20, 21, 41] (.cond (t 41) (.seq (.ops [o 2 (.mv ff)])
 (.ret)) (.skip))))))
 (.kept [0, 4, 7, 8, 9, 19, 20, 21] (.ops [o 42 (.bin .add (t 21) (k 1)),
 m 21 42]))))
def c_spec_l12Good_l2 : AS :=
 .seq (.ops [o 10 (.bin .lss (t 9) (t 8))])
 (.seq (.cond (t 10) (.skip) (.exit 0))
 (.seq (.block 1 (.seq (.ops [m 11 9,
 o 12 (.ia 3 (t 7) (t 9)),
 o 13 (.load (some 3) (t 12)),
 o 4 (.alloc (.agg #[.string ⟨⟨[]⟩⟩, .int .i64 0, .bool false])),
 m 3 11,
 u (.store 3 (t 4) (t 13))])
 (.seq (.seq (.ops [o 14 (.load (some 3) (t 4)),
 o 15 (.call 94 [(t 14)]),
 o 16 (.not (t 15))])
 (.cond (t 16) (.seq (.ops [o 2 (.mv ff)])
 (.ret)) (.skip)))
 (.seq (.ops [m 17 0,
 m 18 3,
 o 19 (.sls 3 (t 17) none (some (t 18)) none),
 o 20 (.lens (t 19)),
 o 21 (.mv (k 0))])
 (.block 2 (.loop 1 [(0, 0), (4, 0), (7, 0), (8, 0), (9, 0), (19, 0), (20, 0), (21, 0)] c_spec_l12Good_l1))))))
 (.kept [0, 7, 8, 9] (.ops [o 43 (.bin .add (t 9) (k 1)),
 m 9 43]))))
def c_spec_l12Good : AS :=
 .seq (.ops [o 2 (.mv ff)])
 (.seq (.seq (.ops [m 7 0,
 o 8 (.lens (t 7)),
 o 9 (.mv (k 0))])
 (.block 0 (.loop 1 [(0, 0), (7, 0), (8, 0), (9, 0)] c_spec_l12Good_l2)))
 (.kept [0] (.seq (.ops [m 44 0,
 o 45 (.lens (t 44)),
 o 46 (.bin .leq (t 45) (k 60)),
 m 2 46])
 (.ret))))
theorem h_spec_l12Good : hF Tryz.prog n_spec_l12Good = some c_spec_l12Good.strip := by kernel_rfl
theorem r_spec_l12Good : rF Tryz.prog n_spec_l12Good = some ([.tmp 2], 47) := by kernel_rfl
-- 53 loop.example/g00850/spec.l2Clock
abbrev n_spec_l2Clock : Nat := 53
def c_spec_l2Clock : AS :=
 .seq (.ops [o 1 (.box (t 0)),
 o 2 (.mv ff)])
 (.seq (.ops [o 3 (.fa 0 (t 1)),
 o 4 (.load none (t 3)),
 o 5 (.call 57 [(t 4), (k (-5)), (k 5)]),
 m 2 5])
 (.ret))
theorem h_spec_l2Clock : hF Tryz.prog n_spec_l2Clock = some c_spec_l2Clock.strip := by kernel_rfl
theorem r_spec_l2Clock : rF Tryz.prog n_spec_l2Clock = some ([.tmp 2], 6) := by kernel_rfl
-- 54 loop.example/g00850/spec.l16Txn
abbrev n_spec_l16Txn : Nat := 54
def c_spec_l16Txn : AS :=
 .seq (.ops [o 2 (.box (t 0)),
 o 3 (.box (t 1)),
 o 4 (.mv ff)])
 (.seq (.ops [o 5 (.fa 0 (t 3)),
 o 6 (.load none (t 5)),
 o 7 (.call 96 [(t 6)]),
 m 8 7,
 g 9 8 true (.fa 0 (t 3)),
 g 10 8 true (.load none (t 9)),
 g 11 8 true (.lens (t 10)),
 g 12 8 true (.bin .gtr (t 11) (k 0)),
 o 13 (.pick (t 8) (t 12) ff),
 m 14 13,
 g 15 14 true (.fa 1 (t 3)),
 g 16 14 true (.load none (t 15)),
 g 17 14 true (.call 97 [(t 16)]),
 o 18 (.pick (t 14) (t 17) ff),
 m 19 18,
 g 20 19 true (.fa 2 (t 3)),
 g 21 19 true (.load none (t 20)),
 g 22 19 true (.lens (t 21)),
 g 23 19 true (.fa 4 (t 2)),
 g 24 19 true (.load none (t 23)),
 g 25 19 true (.lens (t 24)),
 g 26 19 true (.bin .eql (t 22) (t 25)),
 o 27 (.pick (t 19) (t 26) ff),
 m 28 27,
 g 29 28 true (.fa 2 (t 3)),
 g 30 28 true (.load none (t 29)),
 g 31 28 true (.call 50 [(t 30), (k 0), (k 200)]),
 o 32 (.pick (t 28) (t 31) ff),
 m 33 32,
 g 34 33 true (.fa 3 (t 3)),
 g 35 33 true (.load none (t 34)),
 g 36 33 true (.fa 1 (t 2)),
 g 37 33 true (.load none (t 36)),
 g 38 33 true (.call 57 [(t 35), (k (-1)), (t 37)]),
 o 39 (.pick (t 33) (t 38) ff),
 m 40 39,
 g 41 40 true (.fa 4 (t 3)),
 g 42 40 true (.load none (t 41)),
 g 43 40 true (.fa 1 (t 2)),
 g 44 40 true (.load none (t 43)),
 g 45 40 true (.call 57 [(t 42), (k (-1)), (t 44)]),
 o 46 (.pick (t 40) (t 45) ff),
 m 47 46,
 g 48 47 true (.fa 6 (t 3)),
 g 49 47 true (.load none (t 48)),
 g 50 47 true (.call 56 [(t 49)]),
 o 51 (.pick (t 47) (t 50) ff),
 m 4 51])
 (.ret))
theorem h_spec_l16Txn : hF Tryz.prog n_spec_l16Txn = some c_spec_l16Txn.strip := by kernel_rfl
theorem r_spec_l16Txn : rF Tryz.prog n_spec_l16Txn = some ([.tmp 4], 52) := by kernel_rfl
-- 55 loop.example/g00850/spec.l16Look
abbrev n_spec_l16Look : Nat := 55
def c_spec_l16Look_l1 : AS :=
 .seq (.ops [o 30 (.bin .lss (t 29) (t 28))])
 (.seq (.cond (t 30) (.skip) (.exit 0))
 (.seq (.block 1 (.seq (.ops [m 31 29,
 o 32 (.ia 3 (t 27) (t 29)),
 o 33 (.load (some 3) (t 32)),
 o 6 (.alloc (.agg #[.string ⟨⟨[]⟩⟩, .string ⟨⟨[]⟩⟩, .bool false])),
 m 5 31,
 u (.store 3 (t 6) (t 33))])
 (.seq (.dops [o 34 (.fa 0 (t 6)),
 o 35 (.load none (t 34)),
 o 36 (.fa 1 (t 3)),
 o 37 (.load none (t 36)),
 m 38 5,
 o 39 (.ia 1 (t 37) (t 38)),
 o 40 (.load none (t 39)),
 o 41 (.bin .neq (t 35) (t 40))])
 (.kept [2, 3, 27, 28, 29, 41] (.cond (t 41) (.seq (.ops [o 4 (.mv ff)])
 (.ret)) (.skip))))))
 (.kept [2, 3, 27, 28, 29] (.ops [o 42 (.bin .add (t 29) (k 1)),
 m 29 42]))))
def c_spec_l16Look : AS :=
 .seq (.ops [o 2 (.box (t 0)),
 o 3 (.box (t 1)),
 o 4 (.mv ff)])
 (.seq (.seq (.ops [o 7 (.fa 1 (t 3)),
 o 8 (.load none (t 7)),
 o 9 (.call 98 [(t 8)]),
 o 10 (.not (t 9)),
 m 11 10,
 g 12 11 false (.fa 2 (t 3)),
 g 13 11 false (.load none (t 12)),
 g 14 11 false (.lens (t 13)),
 g 15 11 false (.fa 1 (t 3)),
 g 16 11 false (.load none (t 15)),
 g 17 11 false (.lens (t 16)),
 g 18 11 false (.bin .gtr (t 14) (t 17)),
 o 19 (.pick (t 11) tt (t 18)),
 m 20 19,
 g 21 20 false (.fa 2 (t 3)),
 g 22 20 false (.load none (t 21)),
 g 23 20 false (.call 97 [(t 22)]),
 g 24 20 false (.not (t 23)),
 o 25 (.pick (t 20) tt (t 24))])
 (.kept [2, 3, 25] (.cond (t 25) (.seq (.ops [o 4 (.mv ff)])
 (.ret)) (.skip))))
 (.kept [2, 3] (.seq (.seq (.ops [o 26 (.fa 2 (t 3)),
 o 27 (.load none (t 26)),
 o 28 (.lens (t 27)),
 o 29 (.mv (k 0))])
 (.block 0 (.loop 2 [(2, 0), (3, 0), (27, 0), (28, 0), (29, 0)] c_spec_l16Look_l1)))
 (.kept [2, 3] (.seq (.ops [o 43 (.fa 0 (t 3)),
 o 44 (.load none (t 43)),
 o 45 (.fa 2 (t 2)),
 o 46 (.load none (t 45)),
 o 47 (.lens (t 46)),
 o 48 (.bin .sub (t 47) (k 1)),
 o 49 (.call 57 [(t 44), (k 0), (t 48)]),
 m 50 49,
 g 51 50 true (.fa 3 (t 3)),
 g 52 50 true (.load none (t 51)),
 g 53 50 true (.call 56 [(t 52)]),
 o 54 (.pick (t 50) (t 53) ff),
 m 55 54,
 g 56 55 true (.fa 4 (t 3)),
 g 57 55 true (.load none (t 56)),
 g 58 55 true (.fa 1 (t 2)),
 g 59 55 true (.load none (t 58)),
 g 60 55 true (.call 57 [(t 57), (k (-1)), (t 59)]),
 o 61 (.pick (t 55) (t 60) ff),
 m 62 61,
 g 63 62 true (.fa 5 (t 3)),
 g 64 62 true (.load none (t 63)),
 g 65 62 true (.fa 1 (t 2)),
 g 66 62 true (.load none (t 65)),
 g 67 62 true (.call 57 [(t 64), (k (-1)), (t 66)]),
 o 68 (.pick (t 62) (t 67) ff),
 m 4 68])
 (.ret))))))
theorem h_spec_l16Look : hF Tryz.prog n_spec_l16Look = some c_spec_l16Look.strip := by kernel_rfl
theorem r_spec_l16Look : rF Tryz.prog n_spec_l16Look = some ([.tmp 4], 69) := by kernel_rfl
-- 56 loop.example/g00850/spec.l2True
abbrev n_spec_l2True : Nat := 56
def c_spec_l2True : AS :=
 .seq (.ops [o 2 (.mv ff)])
 (.seq (.ops [m 3 0,
 o 4 (.call 57 [(t 3), (k 0), (k 100000)]),
 m 2 4])
 (.ret))
theorem h_spec_l2True : hF Tryz.prog n_spec_l2True = some c_spec_l2True.strip := by kernel_rfl
theorem r_spec_l2True : rF Tryz.prog n_spec_l2True = some ([.tmp 2], 5) := by kernel_rfl
-- 57 loop.example/g00850/spec.l1In
abbrev n_spec_l1In : Nat := 57
def c_spec_l1In : AS :=
 .seq (.ops [o 6 (.mv ff)])
 (.seq (.ops [m 7 0,
 m 8 1,
 o 9 (.bin .geq (t 7) (t 8)),
 m 10 9,
 mg 11 10 true 0,
 mg 12 10 true 2,
 g 13 10 true (.bin .leq (t 11) (t 12)),
 o 14 (.pick (t 10) (t 13) ff),
 m 6 14])
 (.ret))
theorem h_spec_l1In : hF Tryz.prog n_spec_l1In = some c_spec_l1In.strip := by kernel_rfl
theorem r_spec_l1In : rF Tryz.prog n_spec_l1In = some ([.tmp 6], 15) := by kernel_rfl
-- 58 loop.example/g00850/laws.toClock
abbrev n_laws_toClock : Nat := 58
def c_laws_toClock : AS :=
 .seq (.ops [o 1 (.box (t 0)),
 o 2 (.alloc (.agg #[.int .i64 0]))])
 (.seq (.ops [o 3 (.alloc (.agg #[.int .i64 0]))])
 (.seq (.ops [o 4 (.fa 0 (t 1)),
 o 5 (.load none (t 4)),
 o 6 (.fa 0 (t 3)),
 u (.store 1 (t 6) (t 5))])
 (.seq (.ops [o 7 (.load (some 1) (t 3)),
 u (.store 1 (t 2) (t 7))])
 (.ret))))
theorem h_laws_toClock : hF Tryz.prog n_laws_toClock = some c_laws_toClock.strip := by kernel_rfl
theorem r_laws_toClock : rF Tryz.prog n_laws_toClock = some ([.cell 2 68], 8) := by kernel_rfl
-- 59 loop.example/g00850/laws.toGroup
abbrev n_laws_toGroup : Nat := 59
def c_laws_toGroup : AS :=
 .seq (.ops [o 1 (.box (t 0)),
 o 2 (.alloc (.agg #[.slice none 0 0, .int .i64 0, .int .i64 0]))])
 (.seq (.ops [o 3 (.alloc (.agg #[.slice none 0 0, .int .i64 0, .int .i64 0]))])
 (.seq (.ops [o 4 (.fa 0 (t 1)),
 o 5 (.load none (t 4)),
 o 6 (.call 99 [(t 5)]),
 o 7 (.fa 0 (t 3)),
 u (.store 1 (t 7) (t 6))])
 (.seq (.ops [o 8 (.fa 1 (t 1)),
 o 9 (.load none (t 8)),
 o 10 (.fa 1 (t 3)),
 u (.store 1 (t 10) (t 9))])
 (.seq (.ops [o 11 (.fa 2 (t 1)),
 o 12 (.load none (t 11)),
 o 13 (.fa 2 (t 3)),
 u (.store 1 (t 13) (t 12))])
 (.seq (.ops [o 14 (.load (some 3) (t 3)),
 u (.store 3 (t 2) (t 14))])
 (.ret))))))
theorem h_laws_toGroup : hF Tryz.prog n_laws_toGroup = some c_laws_toGroup.strip := by kernel_rfl
theorem r_laws_toGroup : rF Tryz.prog n_laws_toGroup = some ([.cell 2 60], 15) := by kernel_rfl
-- 60 loop.example/g00850/laws.toLockS
abbrev n_laws_toLockS : Nat := 60
def c_laws_toLockS_l1 : AS :=
 .seq (.seq (.ops [m 8 4,
 m 9 0,
 o 10 (.lens (t 9)),
 o 11 (.bin .lss (t 8) (t 10))])
 (.cond (t 11) (.skip) (.exit 0)))
 (.seq (.block 1 (.ops [m 14 3,
 m 15 4,
 m 16 0,
 m 17 4,
 o 18 (.ia 3 (t 16) (t 17)),
 o 19 (.load (some 3) (t 18)),
 o 20 (.call 100 [(t 19)]),
 o 21 (.ia 3 (t 14) (t 15)),
 u (.store 3 (t 21) (t 20))]))
 (.kept [0, 3, 4] (.ops [m 12 4,
 o 13 (.bin .add (t 12) (k 1)),
 m 4 13])))
def c_laws_toLockS : AS :=
 .seq (.ops [o 2 (.mv (.const (.slice none 0 0)))])
 (.seq (.ops [m 5 0,
 o 6 (.lens (t 5)),
 o 7 (.mks 3 32 (.agg #[.string ⟨⟨[]⟩⟩, .int .i64 0, .bool false]) (t 6) (t 6)),
 m 3 7])
 (.seq (.seq (.ops [o 4 (.mv (k 0))])
 (.block 0 (.loop 1 [(0, 0), (3, 0), (4, 0)] c_laws_toLockS_l1)))
 (.kept [3] (.seq (.ops [m 22 3,
 m 2 22])
 (.ret)))))
theorem h_laws_toLockS : hF Tryz.prog n_laws_toLockS = some c_laws_toLockS.strip := by kernel_rfl
theorem r_laws_toLockS : rF Tryz.prog n_laws_toLockS = some ([.tmp 2], 23) := by kernel_rfl
-- 61 loop.example/g00850/laws.toWorldTxn
abbrev n_laws_toWorldTxn : Nat := 61
def c_laws_toWorldTxn : AS :=
 .seq (.ops [o 1 (.box (t 0)),
 o 2 (.alloc (.agg #[.slice none 0 0, .slice none 0 0, .slice none 0 0, .int .i64 0, .int .i64 0, .bool false, .int .i64 0, .bool false, .bool false, .bool false]))])
 (.seq (.ops [o 3 (.alloc (.agg #[.slice none 0 0, .slice none 0 0, .slice none 0 0, .int .i64 0, .int .i64 0, .bool false, .int .i64 0, .bool false, .bool false, .bool false]))])
 (.seq (.ops [o 4 (.fa 0 (t 1)),
 o 5 (.load none (t 4)),
 o 6 (.call 101 [(t 5)]),
 o 7 (.fa 0 (t 3)),
 u (.store 1 (t 7) (t 6))])
 (.seq (.ops [o 8 (.fa 1 (t 1)),
 o 9 (.load none (t 8)),
 o 10 (.call 102 [(t 9)]),
 o 11 (.fa 1 (t 3)),
 u (.store 1 (t 11) (t 10))])
 (.seq (.ops [o 12 (.fa 2 (t 1)),
 o 13 (.load none (t 12)),
 o 14 (.call 21 [(t 13)]),
 o 15 (.fa 2 (t 3)),
 u (.store 1 (t 15) (t 14))])
 (.seq (.ops [o 16 (.fa 3 (t 1)),
 o 17 (.load none (t 16)),
 o 18 (.fa 3 (t 3)),
 u (.store 1 (t 18) (t 17))])
 (.seq (.ops [o 19 (.fa 4 (t 1)),
 o 20 (.load none (t 19)),
 o 21 (.fa 4 (t 3)),
 u (.store 1 (t 21) (t 20))])
 (.seq (.ops [o 22 (.fa 5 (t 1)),
 o 23 (.load none (t 22)),
 o 24 (.fa 5 (t 3)),
 u (.store 1 (t 24) (t 23))])
 (.seq (.ops [o 25 (.fa 6 (t 1)),
 o 26 (.load none (t 25)),
 o 27 (.fa 6 (t 3)),
 u (.store 1 (t 27) (t 26))])
 (.seq (.ops [o 28 (.fa 7 (t 1)),
 o 29 (.load none (t 28)),
 o 30 (.fa 7 (t 3)),
 u (.store 1 (t 30) (t 29))])
 (.seq (.ops [o 31 (.fa 8 (t 1)),
 o 32 (.load none (t 31)),
 o 33 (.fa 8 (t 3)),
 u (.store 1 (t 33) (t 32))])
 (.seq (.ops [o 34 (.fa 9 (t 1)),
 o 35 (.load none (t 34)),
 o 36 (.fa 9 (t 3)),
 u (.store 1 (t 36) (t 35))])
 (.seq (.ops [o 37 (.load (some 10) (t 3)),
 u (.store 10 (t 2) (t 37))])
 (.ret)))))))))))))
theorem h_laws_toWorldTxn : hF Tryz.prog n_laws_toWorldTxn = some c_laws_toWorldTxn.strip := by kernel_rfl
theorem r_laws_toWorldTxn : rF Tryz.prog n_laws_toWorldTxn = some ([.cell 2 74], 38) := by kernel_rfl
-- 62 loop.example/g00850/laws.toWorldLook
abbrev n_laws_toWorldLook : Nat := 62
def c_laws_toWorldLook : AS :=
 .seq (.ops [o 1 (.box (t 0)),
 o 2 (.alloc (.agg #[.int .i64 0, .slice none 0 0, .slice none 0 0, .int .i64 0, .int .i64 0, .int .i64 0]))])
 (.seq (.ops [o 3 (.alloc (.agg #[.int .i64 0, .slice none 0 0, .slice none 0 0, .int .i64 0, .int .i64 0, .int .i64 0]))])
 (.seq (.ops [o 4 (.fa 0 (t 1)),
 o 5 (.load none (t 4)),
 o 6 (.fa 0 (t 3)),
 u (.store 1 (t 6) (t 5))])
 (.seq (.ops [o 7 (.fa 1 (t 1)),
 o 8 (.load none (t 7)),
 o 9 (.call 18 [(t 8)]),
 o 10 (.fa 1 (t 3)),
 u (.store 1 (t 10) (t 9))])
 (.seq (.ops [o 11 (.fa 2 (t 1)),
 o 12 (.load none (t 11)),
 o 13 (.call 102 [(t 12)]),
 o 14 (.fa 2 (t 3)),
 u (.store 1 (t 14) (t 13))])
 (.seq (.ops [o 15 (.fa 3 (t 1)),
 o 16 (.load none (t 15)),
 o 17 (.fa 3 (t 3)),
 u (.store 1 (t 17) (t 16))])
 (.seq (.ops [o 18 (.fa 4 (t 1)),
 o 19 (.load none (t 18)),
 o 20 (.fa 4 (t 3)),
 u (.store 1 (t 20) (t 19))])
 (.seq (.ops [o 21 (.fa 5 (t 1)),
 o 22 (.load none (t 21)),
 o 23 (.fa 5 (t 3)),
 u (.store 1 (t 23) (t 22))])
 (.seq (.ops [o 24 (.load (some 6) (t 3)),
 u (.store 6 (t 2) (t 24))])
 (.ret)))))))))
theorem h_laws_toWorldLook : hF Tryz.prog n_laws_toWorldLook = some c_laws_toWorldLook.strip := by kernel_rfl
theorem r_laws_toWorldLook : rF Tryz.prog n_laws_toWorldLook = some ([.cell 2 78], 25) := by kernel_rfl
-- 63 loop.example/g00850/impl.areRising
abbrev n_impl_areRising : Nat := 63
def c_impl_areRising_l1 : AS :=
 .seq (.ops [o 8 (.bin .lss (t 7) (t 6))])
 (.seq (.cond (t 8) (.skip) (.exit 0))
 (.seq (.block 1 (.seq (.ops [m 9 7,
 o 10 (.ia 1 (t 5) (t 7)),
 o 11 (.load none (t 10)),
 m 3 9,
 m 4 11])
 (.seq (.ops [m 12 4,
 o 13 (.call 103 [(t 12)]),
 o 14 (.not (t 13)),
 m 15 14,
 mg 16 15 false 3,
 g 17 15 false (.bin .gtr (t 16) (k 0)),
 mg 18 15 false 17,
 mg 19 18 true 4,
 mg 20 18 true 0,
 mg 21 18 true 3,
 g 22 18 true (.bin .sub (t 21) (k 1)),
 g 23 18 true (.ia 1 (t 20) (t 22)),
 g 24 18 true (.load none (t 23)),
 g 25 18 true (.bin .leq (t 19) (t 24)),
 g 26 15 false (.pick (t 18) (t 25) ff),
 o 27 (.pick (t 15) tt (t 26))])
 (.kept [0, 5, 6, 7, 27] (.cond (t 27) (.seq (.ops [o 2 (.mv ff)])
 (.ret)) (.skip))))))
 (.kept [0, 5, 6, 7] (.ops [o 28 (.bin .add (t 7) (k 1)),
 m 7 28]))))
def c_impl_areRising : AS :=
 .seq (.ops [o 2 (.mv ff)])
 (.seq (.seq (.ops [m 5 0,
 o 6 (.lens (t 5)),
 o 7 (.mv (k 0))])
 (.block 0 (.loop 1 [(0, 0), (5, 0), (6, 0), (7, 0)] c_impl_areRising_l1)))
 (.kept [] (.seq (.ops [o 2 (.mv tt)])
 (.ret))))
theorem h_impl_areRising : hF Tryz.prog n_impl_areRising = some c_impl_areRising.strip := by kernel_rfl
theorem r_impl_areRising : rF Tryz.prog n_impl_areRising = some ([.tmp 2], 29) := by kernel_rfl
-- 64 loop.example/g00850/impl.isMany
abbrev n_impl_isMany : Nat := 64
def c_impl_isMany : AS :=
 .seq (.ops [o 2 (.mv ff)])
 (.seq (.ops [m 3 0,
 o 4 (.bin .eql (t 3) (k 3)),
 m 5 4,
 mg 6 5 false 0,
 g 7 5 false (.bin .eql (t 6) (k 5)),
 o 8 (.pick (t 5) tt (t 7)),
 m 2 8])
 (.ret))
theorem h_impl_isMany : hF Tryz.prog n_impl_isMany = some c_impl_isMany.strip := by kernel_rfl
theorem r_impl_isMany : rF Tryz.prog n_impl_isMany = some ([.tmp 2], 9) := by kernel_rfl
-- 65 (loop.example/g00850/impl.Group).isRep
abbrev n_impl_Group_isRep : Nat := 65
def c_impl_Group_isRep : AS :=
 .seq (.ops [o 2 (.box (t 0)),
 o 4 (.mv ff)])
 (.seq (.ops [m 5 1,
 o 6 (.fa 0 (t 2)),
 o 7 (.load none (t 6)),
 o 8 (.lens (t 7)),
 o 9 (.bin .sub (t 8) (k 1)),
 o 10 (.call 28 [(t 5), (k 0), (t 9)]),
 m 4 10])
 (.ret))
theorem h_impl_Group_isRep : hF Tryz.prog n_impl_Group_isRep = some c_impl_Group_isRep.strip := by kernel_rfl
theorem r_impl_Group_isRep : rF Tryz.prog n_impl_Group_isRep = some ([.tmp 4], 11) := by kernel_rfl
-- 66 slices.ContainsFunc[[]loop.example/g00850/impl.Replica,loop.example/g00850/impl.Replica]
abbrev n_slices_ContainsFunc___impl_Replica_impl_Replica_ : Nat := 66
def c_slices_ContainsFunc___impl_Replica_impl_Replica_ : AS :=
 .seq (.ops [o 4 (.mv ff)])
 (.seq (.ops [m 5 0,
 m 6 1,
 o 7 (.call 104 [(t 5), (t 6)]),
 o 8 (.bin .geq (t 7) (k 0)),
 m 4 8])
 (.ret))
theorem h_slices_ContainsFunc___impl_Replica_impl_Replica_ : hF Tryz.prog n_slices_ContainsFunc___impl_Replica_impl_Replica_ = some c_slices_ContainsFunc___impl_Replica_impl_Replica_.strip := by kernel_rfl
theorem r_slices_ContainsFunc___impl_Replica_impl_Replica_ : rF Tryz.prog n_slices_ContainsFunc___impl_Replica_impl_Replica_ = some ([.tmp 4], 9) := by kernel_rfl
-- 67 loop.example/g00850/impl.GoodGroup$1
abbrev n_impl_GoodGroup_1 : Nat := 67
def c_impl_GoodGroup_1 : AS :=
 .seq (.ops [o 2 (.box (t 0)),
 o 3 (.mv ff)])
 (.seq (.ops [o 4 (.fa 1 (t 2)),
 o 5 (.load none (t 4)),
 o 6 (.fa 1 (t 1)),
 o 7 (.load none (t 6)),
 o 8 (.call 68 [(t 5), (t 7)]),
 o 9 (.not (t 8)),
 m 10 9,
 g 11 10 false (.fa 2 (t 2)),
 g 12 10 false (.load none (t 11)),
 g 13 10 false (.fa 1 (t 2)),
 g 14 10 false (.load none (t 13)),
 g 15 10 false (.lens (t 14)),
 g 16 10 false (.call 28 [(t 12), (k 0), (t 15)]),
 g 17 10 false (.not (t 16)),
 o 18 (.pick (t 10) tt (t 17)),
 m 3 18])
 (.ret))
theorem h_impl_GoodGroup_1 : hF Tryz.prog n_impl_GoodGroup_1 = some c_impl_GoodGroup_1.strip := by kernel_rfl
theorem r_impl_GoodGroup_1 : rF Tryz.prog n_impl_GoodGroup_1 = some ([.tmp 3], 19) := by kernel_rfl
-- 68 loop.example/g00850/impl.isLog
abbrev n_impl_isLog : Nat := 68
def c_impl_isLog_l1 : AS :=
 .seq (.ops [o 10 (.bin .lss (t 9) (t 8))])
 (.seq (.cond (t 10) (.skip) (.exit 0))
 (.seq (.block 1 (.seq (.post [(12, 1, [(5, 1), (6, 3)])] (.ops [m 11 9,
 o 12 (.ia 8 (t 7) (t 9)),
 o 13 (.load (some 8) (t 12)),
 o 6 (.alloc (.agg #[.int .i64 0, .int .i64 0, .int .i64 0, .int .i64 0, .int .i64 0, .slice none 0 0, .slice none 0 0, .bool false])),
 m 5 11,
 u (.store 8 (t 6) (t 13))]))
 (.seq (.rops [(none, o 14 (.fa 0 (t 6))),
 (none, o 15 (.load none (t 14))),
 (none, m 16 1),
 (some [], o 17 (.call 28 [(t 15), (k 1), (t 16)])),
 (none, o 18 (.not (t 17))),
 (none, m 19 18),
 (none, g 20 19 false (.fa 1 (t 6))),
 (none, g 21 19 false (.load (some 7) (t 20))),
 (some [], g 22 19 false (.call 105 [(t 21)])),
 (none, g 23 19 false (.not (t 22))),
 (none, o 24 (.pick (t 19) tt (t 23))),
 (none, m 25 24),
 (none, mg 26 25 false 5),
 (none, g 27 25 false (.bin .gtr (t 26) (k 0))),
 (none, mg 28 25 false 27),
 (none, g 29 28 true (.fa 0 (t 6))),
 (none, g 30 28 true (.load none (t 29))),
 (none, mg 31 28 true 0),
 (none, mg 32 28 true 5),
 (none, g 33 28 true (.bin .sub (t 32) (k 1))),
 (none, g 34 28 true (.ia 8 (t 31) (t 33))),
 (none, g 35 28 true (.fa 0 (t 34))),
 (none, g 36 28 true (.load none (t 35))),
 (none, g 37 28 true (.bin .lss (t 30) (t 36))),
 (none, g 38 25 false (.pick (t 28) (t 37) ff)),
 (none, o 39 (.pick (t 25) tt (t 38)))])
 (.kept [0, 1, 7, 8, 9, 39] (.cond (t 39) (.seq (.ops [o 4 (.mv ff)])
 (.ret)) (.skip))))))
 (.kept [0, 1, 7, 8, 9] (.ops [o 40 (.bin .add (t 9) (k 1)),
 m 9 40]))))
def c_impl_isLog : AS :=
 .seq (.ops [o 4 (.mv ff)])
 (.seq (.seq (.ops [m 7 0,
 o 8 (.lens (t 7)),
 o 9 (.mv (k 0))])
 (.block 0 (.loop 2 [(0, 0), (1, 0), (7, 0), (8, 0), (9, 0)] c_impl_isLog_l1)))
 (.kept [0] (.seq (.ops [m 41 0,
 o 42 (.lens (t 41)),
 o 43 (.bin .leq (t 42) (k 60)),
 m 4 43])
 (.ret))))
theorem h_impl_isLog : hF Tryz.prog n_impl_isLog = some c_impl_isLog.strip := by kernel_rfl
theorem r_impl_isLog : rF Tryz.prog n_impl_isLog = some ([.tmp 4], 44) := by kernel_rfl
-- 69 loop.example/g00850/impl.isLock
abbrev n_impl_isLock : Nat := 69
def c_impl_isLock : AS :=
 .seq (.ops [o 1 (.box (t 0)),
 o 2 (.mv ff)])
 (.seq (.ops [o 3 (.fa 0 (t 1)),
 o 4 (.load none (t 3)),
 o 5 (.call 103 [(t 4)]),
 m 6 5,
 g 7 6 true (.fa 1 (t 1)),
 g 8 6 true (.load none (t 7)),
 g 9 6 true (.call 106 [(t 8)]),
 o 10 (.pick (t 6) (t 9) ff),
 m 2 10])
 (.ret))
theorem h_impl_isLock : hF Tryz.prog n_impl_isLock = some c_impl_isLock.strip := by kernel_rfl
theorem r_impl_isLock : rF Tryz.prog n_impl_isLock = some ([.tmp 2], 11) := by kernel_rfl
-- 70 slices.ContainsFunc[[]loop.example/g00850/impl.Lock,loop.example/g00850/impl.Lock]
abbrev n_slices_ContainsFunc___impl_Lock_impl_Lock_ : Nat := 70
def c_slices_ContainsFunc___impl_Lock_impl_Lock_ : AS :=
 .seq (.ops [o 4 (.mv ff)])
 (.seq (.ops [m 5 0,
 m 6 1,
 o 7 (.call 107 [(t 5), (t 6)]),
 o 8 (.bin .geq (t 7) (k 0)),
 m 4 8])
 (.ret))
theorem h_slices_ContainsFunc___impl_Lock_impl_Lock_ : hF Tryz.prog n_slices_ContainsFunc___impl_Lock_impl_Lock_ = some c_slices_ContainsFunc___impl_Lock_impl_Lock_.strip := by kernel_rfl
theorem r_slices_ContainsFunc___impl_Lock_impl_Lock_ : rF Tryz.prog n_slices_ContainsFunc___impl_Lock_impl_Lock_ = some ([.tmp 4], 9) := by kernel_rfl
-- 71 loop.example/g00850/impl.GoodLocks$1
abbrev n_impl_GoodLocks_1 : Nat := 71
def c_impl_GoodLocks_1 : AS :=
 .seq (.ops [o 2 (.box (t 0)),
 o 3 (.mv ff)])
 (.seq (.ops [o 4 (.load (some 3) (t 1)),
 o 5 (.load (some 3) (t 2)),
 o 6 (.call 72 [(t 4), (t 5)]),
 m 7 6,
 g 8 7 false (.fa 0 (t 1)),
 g 9 7 false (.load none (t 8)),
 g 10 7 false (.fa 0 (t 2)),
 g 11 7 false (.load none (t 10)),
 g 12 7 false (.bin .eql (t 9) (t 11)),
 mg 13 7 false 12,
 g 14 13 true (.fa 1 (t 1)),
 g 15 13 true (.load none (t 14)),
 g 16 13 true (.fa 1 (t 2)),
 g 17 13 true (.load none (t 16)),
 g 18 13 true (.bin .eql (t 15) (t 17)),
 g 19 7 false (.pick (t 13) (t 18) ff),
 o 20 (.pick (t 7) tt (t 19)),
 m 3 20])
 (.ret))
theorem h_impl_GoodLocks_1 : hF Tryz.prog n_impl_GoodLocks_1 = some c_impl_GoodLocks_1.strip := by kernel_rfl
theorem r_impl_GoodLocks_1 : rF Tryz.prog n_impl_GoodLocks_1 = some ([.tmp 3], 21) := by kernel_rfl
-- 72 loop.example/g00850/impl.conflict
abbrev n_impl_conflict : Nat := 72
def c_impl_conflict : AS :=
 .seq (.ops [o 2 (.box (t 0)),
 o 3 (.box (t 1)),
 o 4 (.mv ff)])
 (.seq (.ops [o 5 (.fa 0 (t 2)),
 o 6 (.load none (t 5)),
 o 7 (.fa 0 (t 3)),
 o 8 (.load none (t 7)),
 o 9 (.bin .eql (t 6) (t 8)),
 m 10 9,
 g 11 10 true (.fa 1 (t 2)),
 g 12 10 true (.load none (t 11)),
 g 13 10 true (.fa 1 (t 3)),
 g 14 10 true (.load none (t 13)),
 g 15 10 true (.bin .neq (t 12) (t 14)),
 o 16 (.pick (t 10) (t 15) ff),
 m 17 16,
 g 18 17 true (.fa 2 (t 2)),
 g 19 17 true (.load none (t 18)),
 mg 20 17 true 19,
 g 21 20 false (.fa 2 (t 3)),
 g 22 20 false (.load none (t 21)),
 g 23 17 true (.pick (t 20) tt (t 22)),
 o 24 (.pick (t 17) (t 23) ff),
 m 4 24])
 (.ret))
theorem h_impl_conflict : hF Tryz.prog n_impl_conflict = some c_impl_conflict.strip := by kernel_rfl
theorem r_impl_conflict : rF Tryz.prog n_impl_conflict = some ([.tmp 4], 25) := by kernel_rfl
-- 73 slices.IndexFunc[[]loop.example/g00850/impl.Clock,loop.example/g00850/impl.Clock]
abbrev n_slices_IndexFunc___impl_Clock_impl_Clock_ : Nat := 73
def c_slices_IndexFunc___impl_Clock_impl_Clock__l1 : AS :=
 .seq (.ops [o 9 (.bin .lss (t 8) (t 7))])
 (.seq (.cond (t 9) (.skip) (.exit 0))
 (.seq (.block 1 (.seq (.ops [m 10 8,
 m 5 10])
 (.seq (.ops [m 11 1,
 m 12 0,
 m 13 5,
 o 14 (.ia 1 (t 12) (t 13)),
 o 15 (.load (some 1) (t 14)),
 o 16 (.callv (t 11) [(t 15)])])
 (.cond (t 16) (.seq (.ops [m 17 5,
 m 4 17])
 (.ret)) (.skip)))))
 (.kept [0, 1, 7, 8] (.ops [o 18 (.bin .add (t 8) (k 1)),
 m 8 18]))))
def c_slices_IndexFunc___impl_Clock_impl_Clock_ : AS :=
 .seq (.ops [o 4 (.mv (k 0))])
 (.seq (.seq (.ops [m 6 0,
 o 7 (.lens (t 6)),
 o 8 (.mv (k 0))])
 (.block 0 (.loop 2 [(0, 0), (1, 0), (7, 0), (8, 0)] c_slices_IndexFunc___impl_Clock_impl_Clock__l1)))
 (.kept [] (.seq (.ops [o 4 (.mv (k (-1)))])
 (.ret))))
theorem h_slices_IndexFunc___impl_Clock_impl_Clock_ : hF Tryz.prog n_slices_IndexFunc___impl_Clock_impl_Clock_ = some c_slices_IndexFunc___impl_Clock_impl_Clock_.strip := by kernel_rfl
theorem r_slices_IndexFunc___impl_Clock_impl_Clock_ : rF Tryz.prog n_slices_IndexFunc___impl_Clock_impl_Clock_ = some ([.tmp 4], 19) := by kernel_rfl
-- 74 slices.IndexFunc[[]loop.example/g00850/impl.WorldTxn,loop.example/g00850/impl.WorldTxn]
abbrev n_slices_IndexFunc___impl_WorldTxn_impl_WorldTxn_ : Nat := 74
def c_slices_IndexFunc___impl_WorldTxn_impl_WorldTxn__l1 : AS :=
 .seq (.ops [o 9 (.bin .lss (t 8) (t 7))])
 (.seq (.cond (t 9) (.skip) (.exit 0))
 (.seq (.block 1 (.seq (.ops [m 10 8,
 m 5 10])
 (.seq (.post [(14, 1, [(0, 4), (1, 3), (2, 1)])] (.ops [m 11 1,
 m 12 0,
 m 13 5,
 o 14 (.ia 10 (t 12) (t 13)),
 o 15 (.load (some 10) (t 14)),
 o 16 (.callv (t 11) [(t 15)])]))
 (.cond (t 16) (.seq (.ops [m 17 5,
 m 4 17])
 (.ret)) (.skip)))))
 (.kept [0, 1, 7, 8] (.ops [o 18 (.bin .add (t 8) (k 1)),
 m 8 18]))))
def c_slices_IndexFunc___impl_WorldTxn_impl_WorldTxn_ : AS :=
 .seq (.ops [o 4 (.mv (k 0))])
 (.seq (.seq (.ops [m 6 0,
 o 7 (.lens (t 6)),
 o 8 (.mv (k 0))])
 (.block 0 (.loop 2 [(0, 0), (1, 0), (7, 0), (8, 0)] c_slices_IndexFunc___impl_WorldTxn_impl_WorldTxn__l1)))
 (.kept [] (.seq (.ops [o 4 (.mv (k (-1)))])
 (.ret))))
theorem h_slices_IndexFunc___impl_WorldTxn_impl_WorldTxn_ : hF Tryz.prog n_slices_IndexFunc___impl_WorldTxn_impl_WorldTxn_ = some c_slices_IndexFunc___impl_WorldTxn_impl_WorldTxn_.strip := by kernel_rfl
theorem r_slices_IndexFunc___impl_WorldTxn_impl_WorldTxn_ : rF Tryz.prog n_slices_IndexFunc___impl_WorldTxn_impl_WorldTxn_ = some ([.tmp 4], 19) := by kernel_rfl
-- 75 loop.example/g00850/impl.isProgram
abbrev n_impl_isProgram : Nat := 75
def c_impl_isProgram : AS :=
 .seq (.ops [o 2 (.mv ff)])
 (.seq (.ops [m 3 0,
 o 4 (.lens (t 3)),
 o 5 (.bin .gtr (t 4) (k 0)),
 m 6 5,
 mg 7 6 true 0,
 g 8 6 true (.call 108 [(t 7)]),
 o 9 (.pick (t 6) (t 8) ff),
 m 2 9])
 (.ret))
theorem h_impl_isProgram : hF Tryz.prog n_impl_isProgram = some c_impl_isProgram.strip := by kernel_rfl
theorem r_impl_isProgram : rF Tryz.prog n_impl_isProgram = some ([.tmp 2], 10) := by kernel_rfl
-- 76 loop.example/g00850/impl.areGot
abbrev n_impl_areGot : Nat := 76
def c_impl_areGot_l1 : AS :=
 .seq (.ops [o 8 (.bin .lss (t 7) (t 6))])
 (.seq (.cond (t 8) (.skip) (.exit 0))
 (.seq (.block 1 (.seq (.ops [m 9 7,
 o 10 (.ia 3 (t 5) (t 7)),
 o 11 (.load (some 3) (t 10)),
 o 4 (.alloc (.agg #[.string ⟨⟨[]⟩⟩, .string ⟨⟨[]⟩⟩, .bool false])),
 m 3 9,
 u (.store 3 (t 4) (t 11))])
 (.seq (.ops [o 12 (.fa 0 (t 4)),
 o 13 (.load none (t 12)),
 o 14 (.call 103 [(t 13)]),
 o 15 (.not (t 14)),
 m 16 15,
 g 17 16 false (.fa 1 (t 4)),
 g 18 16 false (.load none (t 17)),
 g 19 16 false (.fa 2 (t 4)),
 g 20 16 false (.load none (t 19)),
 g 21 16 false (.not (t 20)),
 g 22 16 false (.call 109 [(t 18), (t 21)]),
 g 23 16 false (.not (t 22)),
 o 24 (.pick (t 16) tt (t 23)),
 m 25 24,
 mg 26 25 false 0,
 mg 27 25 false 3,
 g 28 25 false (.sls 3 (t 26) none (some (t 27)) none),
 g 29 25 false (.mkf 111 [(t 4)]),
 g 30 25 false (.call 110 [(t 28), (t 29)]),
 o 31 (.pick (t 25) tt (t 30))])
 (.kept [0, 5, 6, 7, 31] (.cond (t 31) (.seq (.ops [o 2 (.mv ff)])
 (.ret)) (.skip))))))
 (.kept [0, 5, 6, 7] (.ops [o 32 (.bin .add (t 7) (k 1)),
 m 7 32]))))
def c_impl_areGot : AS :=
 .seq (.ops [o 2 (.mv ff)])
 (.seq (.seq (.ops [m 5 0,
 o 6 (.lens (t 5)),
 o 7 (.mv (k 0))])
 (.block 0 (.loop 1 [(0, 0), (5, 0), (6, 0), (7, 0)] c_impl_areGot_l1)))
 (.kept [0] (.seq (.ops [m 33 0,
 o 34 (.lens (t 33)),
 o 35 (.bin .leq (t 34) (k 8)),
 m 2 35])
 (.ret))))
theorem h_impl_areGot : hF Tryz.prog n_impl_areGot = some c_impl_areGot.strip := by kernel_rfl
theorem r_impl_areGot : rF Tryz.prog n_impl_areGot = some ([.tmp 2], 36) := by kernel_rfl
-- 77 slices.ContainsFunc[[]int,int]
abbrev n_slices_ContainsFunc___int_int_ : Nat := 77
def c_slices_ContainsFunc___int_int_ : AS :=
 .seq (.ops [o 4 (.mv ff)])
 (.seq (.ops [m 5 0,
 m 6 1,
 o 7 (.call 112 [(t 5), (t 6)]),
 o 8 (.bin .geq (t 7) (k 0)),
 m 4 8])
 (.ret))
theorem h_slices_ContainsFunc___int_int_ : hF Tryz.prog n_slices_ContainsFunc___int_int_ = some c_slices_ContainsFunc___int_int_.strip := by kernel_rfl
theorem r_slices_ContainsFunc___int_int_ : rF Tryz.prog n_slices_ContainsFunc___int_int_ = some ([.tmp 4], 9) := by kernel_rfl
-- 78 (loop.example/g00850/impl.World).isWorldTxn$1
abbrev n_impl_World_isWorldTxn_1 : Nat := 78
def c_impl_World_isWorldTxn_1 : AS :=
 .seq (.ops [o 2 (.mv ff)])
 (.seq (.ops [m 3 0,
 o 4 (.call 28 [(t 3), (k 0), (k 200)]),
 o 5 (.not (t 4)),
 m 2 5])
 (.ret))
theorem h_impl_World_isWorldTxn_1 : hF Tryz.prog n_impl_World_isWorldTxn_1 = some c_impl_World_isWorldTxn_1.strip := by kernel_rfl
theorem r_impl_World_isWorldTxn_1 : rF Tryz.prog n_impl_World_isWorldTxn_1 = some ([.tmp 2], 6) := by kernel_rfl
-- 79 (loop.example/g00850/impl.World).isMoment
abbrev n_impl_World_isMoment : Nat := 79
def c_impl_World_isMoment : AS :=
 .seq (.ops [o 2 (.box (t 0)),
 o 4 (.mv ff)])
 (.seq (.ops [m 5 1,
 o 6 (.fa 1 (t 2)),
 o 7 (.load none (t 6)),
 o 8 (.call 28 [(t 5), (k (-1)), (t 7)]),
 m 4 8])
 (.ret))
theorem h_impl_World_isMoment : hF Tryz.prog n_impl_World_isMoment = some c_impl_World_isMoment.strip := by kernel_rfl
theorem r_impl_World_isMoment : rF Tryz.prog n_impl_World_isMoment = some ([.tmp 4], 9) := by kernel_rfl
-- 80 slices.IndexFunc[[]loop.example/g00850/impl.WorldLook,loop.example/g00850/impl.WorldLook]
abbrev n_slices_IndexFunc___impl_WorldLook_impl_WorldLook_ : Nat := 80
def c_slices_IndexFunc___impl_WorldLook_impl_WorldLook__l1 : AS :=
 .seq (.ops [o 9 (.bin .lss (t 8) (t 7))])
 (.seq (.cond (t 9) (.skip) (.exit 0))
 (.seq (.block 1 (.seq (.ops [m 10 8,
 m 5 10])
 (.seq (.post [(14, 1, [(1, 1), (2, 3)])] (.ops [m 11 1,
 m 12 0,
 m 13 5,
 o 14 (.ia 6 (t 12) (t 13)),
 o 15 (.load (some 6) (t 14)),
 o 16 (.callv (t 11) [(t 15)])]))
 (.cond (t 16) (.seq (.ops [m 17 5,
 m 4 17])
 (.ret)) (.skip)))))
 (.kept [0, 1, 7, 8] (.ops [o 18 (.bin .add (t 8) (k 1)),
 m 8 18]))))
def c_slices_IndexFunc___impl_WorldLook_impl_WorldLook_ : AS :=
 .seq (.ops [o 4 (.mv (k 0))])
 (.seq (.seq (.ops [m 6 0,
 o 7 (.lens (t 6)),
 o 8 (.mv (k 0))])
 (.block 0 (.loop 2 [(0, 0), (1, 0), (7, 0), (8, 0)] c_slices_IndexFunc___impl_WorldLook_impl_WorldLook__l1)))
 (.kept [] (.seq (.ops [o 4 (.mv (k (-1)))])
 (.ret))))
theorem h_slices_IndexFunc___impl_WorldLook_impl_WorldLook_ : hF Tryz.prog n_slices_IndexFunc___impl_WorldLook_impl_WorldLook_ = some c_slices_IndexFunc___impl_WorldLook_impl_WorldLook_.strip := by kernel_rfl
theorem r_slices_IndexFunc___impl_WorldLook_impl_WorldLook_ : rF Tryz.prog n_slices_IndexFunc___impl_WorldLook_impl_WorldLook_ = some ([.tmp 4], 19) := by kernel_rfl
-- 81 (loop.example/g00850/impl.World).isNode
abbrev n_impl_World_isNode : Nat := 81
def c_impl_World_isNode : AS :=
 .seq (.ops [o 2 (.box (t 0)),
 o 4 (.mv ff)])
 (.seq (.ops [m 5 1,
 o 6 (.fa 2 (t 2)),
 o 7 (.load none (t 6)),
 o 8 (.lens (t 7)),
 o 9 (.bin .sub (t 8) (k 1)),
 o 10 (.call 28 [(t 5), (k 0), (t 9)]),
 m 4 10])
 (.ret))
theorem h_impl_World_isNode : hF Tryz.prog n_impl_World_isNode = some c_impl_World_isNode.strip := by kernel_rfl
theorem r_impl_World_isNode : rF Tryz.prog n_impl_World_isNode = some ([.tmp 4], 11) := by kernel_rfl
-- 82 loop.example/g00850/impl.areLookKeys
abbrev n_impl_areLookKeys : Nat := 82
def c_impl_areLookKeys : AS :=
 .seq (.ops [o 2 (.mv ff)])
 (.seq (.ops [m 3 0,
 o 4 (.lens (t 3)),
 o 5 (.call 28 [(t 4), (k 1), (k 8)]),
 m 6 5,
 mg 7 6 true 0,
 g 8 6 true (.call 63 [(t 7)]),
 o 9 (.pick (t 6) (t 8) ff),
 m 2 9])
 (.ret))
theorem h_impl_areLookKeys : hF Tryz.prog n_impl_areLookKeys = some c_impl_areLookKeys.strip := by kernel_rfl
theorem r_impl_areLookKeys : rF Tryz.prog n_impl_areLookKeys = some ([.tmp 2], 10) := by kernel_rfl
-- 83 loop.example/g00850/laws.eqClock
abbrev n_laws_eqClock : Nat := 83
def c_laws_eqClock : AS :=
 .seq (.ops [o 2 (.box (t 0)),
 o 3 (.box (t 1)),
 o 4 (.mv ff)])
 (.seq (.seq (.ops [o 5 (.fa 0 (t 2)),
 o 6 (.load none (t 5)),
 o 7 (.fa 0 (t 3)),
 o 8 (.load none (t 7)),
 o 9 (.bin .neq (t 6) (t 8))])
 (.cond (t 9) (.seq (.ops [o 4 (.mv ff)])
 (.ret)) (.skip)))
 (.kept [] (.seq (.ops [o 4 (.mv tt)])
 (.ret))))
theorem h_laws_eqClock : hF Tryz.prog n_laws_eqClock = some c_laws_eqClock.strip := by kernel_rfl
theorem r_laws_eqClock : rF Tryz.prog n_laws_eqClock = some ([.tmp 4], 10) := by kernel_rfl
-- 84 loop.example/g00850/laws.eqGroup
abbrev n_laws_eqGroup : Nat := 84
def c_laws_eqGroup : AS :=
 .seq (.ops [o 2 (.box (t 0)),
 o 3 (.box (t 1)),
 o 4 (.mv ff)])
 (.seq (.seq (.ops [o 5 (.fa 0 (t 2)),
 o 6 (.load none (t 5)),
 o 7 (.fa 0 (t 3)),
 o 8 (.load none (t 7)),
 o 9 (.call 113 [(t 6), (t 8)]),
 o 10 (.not (t 9))])
 (.cond (t 10) (.seq (.ops [o 4 (.mv ff)])
 (.ret)) (.skip)))
 (.kept [2, 3] (.seq (.seq (.ops [o 11 (.fa 1 (t 2)),
 o 12 (.load none (t 11)),
 o 13 (.fa 1 (t 3)),
 o 14 (.load none (t 13)),
 o 15 (.bin .neq (t 12) (t 14))])
 (.cond (t 15) (.seq (.ops [o 4 (.mv ff)])
 (.ret)) (.skip)))
 (.kept [2, 3] (.seq (.seq (.ops [o 16 (.fa 2 (t 2)),
 o 17 (.load none (t 16)),
 o 18 (.fa 2 (t 3)),
 o 19 (.load none (t 18)),
 o 20 (.bin .neq (t 17) (t 19))])
 (.cond (t 20) (.seq (.ops [o 4 (.mv ff)])
 (.ret)) (.skip)))
 (.kept [] (.seq (.ops [o 4 (.mv tt)])
 (.ret))))))))
theorem h_laws_eqGroup : hF Tryz.prog n_laws_eqGroup = some c_laws_eqGroup.strip := by kernel_rfl
theorem r_laws_eqGroup : rF Tryz.prog n_laws_eqGroup = some ([.tmp 4], 21) := by kernel_rfl
-- 85 loop.example/g00850/laws.eqLockS
abbrev n_laws_eqLockS : Nat := 85
def c_laws_eqLockS_l1 : AS :=
 .seq (.seq (.ops [m 11 5,
 m 12 0,
 o 13 (.lens (t 12)),
 o 14 (.bin .lss (t 11) (t 13))])
 (.cond (t 14) (.skip) (.exit 0)))
 (.seq (.block 1 (.seq (.rops [(none, m 17 0),
 (none, m 18 5),
 (none, o 19 (.ia 3 (t 17) (t 18))),
 (none, o 20 (.load (some 3) (t 19))),
 (none, m 21 1),
 (none, m 22 5),
 (none, o 23 (.ia 3 (t 21) (t 22))),
 (none, o 24 (.load (some 3) (t 23))),
 (some [], o 25 (.call 114 [(t 20), (t 24)])),
 (none, o 26 (.not (t 25)))])
 (.kept [0, 1, 5, 26] (.cond (t 26) (.seq (.ops [o 4 (.mv ff)])
 (.ret)) (.skip)))))
 (.kept [0, 1, 5] (.ops [m 15 5,
 o 16 (.bin .add (t 15) (k 1)),
 m 5 16])))
def c_laws_eqLockS : AS :=
 .seq (.ops [o 4 (.mv ff)])
 (.seq (.seq (.ops [m 6 0,
 o 7 (.lens (t 6)),
 m 8 1,
 o 9 (.lens (t 8)),
 o 10 (.bin .neq (t 7) (t 9))])
 (.cond (t 10) (.seq (.ops [o 4 (.mv ff)])
 (.ret)) (.skip)))
 (.kept [0, 1] (.seq (.seq (.ops [o 5 (.mv (k 0))])
 (.block 0 (.loop 2 [(0, 0), (1, 0), (5, 0)] c_laws_eqLockS_l1)))
 (.kept [] (.seq (.ops [o 4 (.mv tt)])
 (.ret))))))
theorem h_laws_eqLockS : hF Tryz.prog n_laws_eqLockS = some c_laws_eqLockS.strip := by kernel_rfl
theorem r_laws_eqLockS : rF Tryz.prog n_laws_eqLockS = some ([.tmp 4], 27) := by kernel_rfl
-- 86 loop.example/g00850/laws.eqWorldTxn
abbrev n_laws_eqWorldTxn : Nat := 86
def c_laws_eqWorldTxn : AS :=
 .seq (.ops [o 2 (.box (t 0)),
 o 3 (.box (t 1)),
 o 4 (.mv ff)])
 (.seq (.seq (.ops [o 5 (.fa 0 (t 2)),
 o 6 (.load none (t 5)),
 o 7 (.fa 0 (t 3)),
 o 8 (.load none (t 7)),
 o 9 (.call 115 [(t 6), (t 8)]),
 o 10 (.not (t 9))])
 (.cond (t 10) (.seq (.ops [o 4 (.mv ff)])
 (.ret)) (.skip)))
 (.kept [2, 3] (.seq (.seq (.ops [o 11 (.fa 1 (t 2)),
 o 12 (.load none (t 11)),
 o 13 (.fa 1 (t 3)),
 o 14 (.load none (t 13)),
 o 15 (.call 116 [(t 12), (t 14)]),
 o 16 (.not (t 15))])
 (.cond (t 16) (.seq (.ops [o 4 (.mv ff)])
 (.ret)) (.skip)))
 (.kept [2, 3] (.seq (.seq (.ops [o 17 (.fa 2 (t 2)),
 o 18 (.load none (t 17)),
 o 19 (.fa 2 (t 3)),
 o 20 (.load none (t 19)),
 o 21 (.call 42 [(t 18), (t 20)]),
 o 22 (.not (t 21))])
 (.cond (t 22) (.seq (.ops [o 4 (.mv ff)])
 (.ret)) (.skip)))
 (.kept [2, 3] (.seq (.seq (.ops [o 23 (.fa 3 (t 2)),
 o 24 (.load none (t 23)),
 o 25 (.fa 3 (t 3)),
 o 26 (.load none (t 25)),
 o 27 (.bin .neq (t 24) (t 26))])
 (.cond (t 27) (.seq (.ops [o 4 (.mv ff)])
 (.ret)) (.skip)))
 (.kept [2, 3] (.seq (.seq (.ops [o 28 (.fa 4 (t 2)),
 o 29 (.load none (t 28)),
 o 30 (.fa 4 (t 3)),
 o 31 (.load none (t 30)),
 o 32 (.bin .neq (t 29) (t 31))])
 (.cond (t 32) (.seq (.ops [o 4 (.mv ff)])
 (.ret)) (.skip)))
 (.kept [2, 3] (.seq (.seq (.ops [o 33 (.fa 5 (t 2)),
 o 34 (.load none (t 33)),
 o 35 (.fa 5 (t 3)),
 o 36 (.load none (t 35)),
 o 37 (.eqb true (t 34) (t 36))])
 (.cond (t 37) (.seq (.ops [o 4 (.mv ff)])
 (.ret)) (.skip)))
 (.kept [2, 3] (.seq (.seq (.ops [o 38 (.fa 6 (t 2)),
 o 39 (.load none (t 38)),
 o 40 (.fa 6 (t 3)),
 o 41 (.load none (t 40)),
 o 42 (.bin .neq (t 39) (t 41))])
 (.cond (t 42) (.seq (.ops [o 4 (.mv ff)])
 (.ret)) (.skip)))
 (.kept [2, 3] (.seq (.seq (.ops [o 43 (.fa 7 (t 2)),
 o 44 (.load none (t 43)),
 o 45 (.fa 7 (t 3)),
 o 46 (.load none (t 45)),
 o 47 (.eqb true (t 44) (t 46))])
 (.cond (t 47) (.seq (.ops [o 4 (.mv ff)])
 (.ret)) (.skip)))
 (.kept [2, 3] (.seq (.seq (.ops [o 48 (.fa 8 (t 2)),
 o 49 (.load none (t 48)),
 o 50 (.fa 8 (t 3)),
 o 51 (.load none (t 50)),
 o 52 (.eqb true (t 49) (t 51))])
 (.cond (t 52) (.seq (.ops [o 4 (.mv ff)])
 (.ret)) (.skip)))
 (.kept [2, 3] (.seq (.seq (.ops [o 53 (.fa 9 (t 2)),
 o 54 (.load none (t 53)),
 o 55 (.fa 9 (t 3)),
 o 56 (.load none (t 55)),
 o 57 (.eqb true (t 54) (t 56))])
 (.cond (t 57) (.seq (.ops [o 4 (.mv ff)])
 (.ret)) (.skip)))
 (.kept [] (.seq (.ops [o 4 (.mv tt)])
 (.ret))))))))))))))))))))))
theorem h_laws_eqWorldTxn : hF Tryz.prog n_laws_eqWorldTxn = some c_laws_eqWorldTxn.strip := by kernel_rfl
theorem r_laws_eqWorldTxn : rF Tryz.prog n_laws_eqWorldTxn = some ([.tmp 4], 58) := by kernel_rfl
-- 87 loop.example/g00850/laws.eqWorldLook
abbrev n_laws_eqWorldLook : Nat := 87
def c_laws_eqWorldLook : AS :=
 .seq (.ops [o 2 (.box (t 0)),
 o 3 (.box (t 1)),
 o 4 (.mv ff)])
 (.seq (.seq (.ops [o 5 (.fa 0 (t 2)),
 o 6 (.load none (t 5)),
 o 7 (.fa 0 (t 3)),
 o 8 (.load none (t 7)),
 o 9 (.bin .neq (t 6) (t 8))])
 (.cond (t 9) (.seq (.ops [o 4 (.mv ff)])
 (.ret)) (.skip)))
 (.kept [2, 3] (.seq (.seq (.ops [o 10 (.fa 1 (t 2)),
 o 11 (.load none (t 10)),
 o 12 (.fa 1 (t 3)),
 o 13 (.load none (t 12)),
 o 14 (.call 39 [(t 11), (t 13)]),
 o 15 (.not (t 14))])
 (.cond (t 15) (.seq (.ops [o 4 (.mv ff)])
 (.ret)) (.skip)))
 (.kept [2, 3] (.seq (.seq (.ops [o 16 (.fa 2 (t 2)),
 o 17 (.load none (t 16)),
 o 18 (.fa 2 (t 3)),
 o 19 (.load none (t 18)),
 o 20 (.call 116 [(t 17), (t 19)]),
 o 21 (.not (t 20))])
 (.cond (t 21) (.seq (.ops [o 4 (.mv ff)])
 (.ret)) (.skip)))
 (.kept [2, 3] (.seq (.seq (.ops [o 22 (.fa 3 (t 2)),
 o 23 (.load none (t 22)),
 o 24 (.fa 3 (t 3)),
 o 25 (.load none (t 24)),
 o 26 (.bin .neq (t 23) (t 25))])
 (.cond (t 26) (.seq (.ops [o 4 (.mv ff)])
 (.ret)) (.skip)))
 (.kept [2, 3] (.seq (.seq (.ops [o 27 (.fa 4 (t 2)),
 o 28 (.load none (t 27)),
 o 29 (.fa 4 (t 3)),
 o 30 (.load none (t 29)),
 o 31 (.bin .neq (t 28) (t 30))])
 (.cond (t 31) (.seq (.ops [o 4 (.mv ff)])
 (.ret)) (.skip)))
 (.kept [2, 3] (.seq (.seq (.ops [o 32 (.fa 5 (t 2)),
 o 33 (.load none (t 32)),
 o 34 (.fa 5 (t 3)),
 o 35 (.load none (t 34)),
 o 36 (.bin .neq (t 33) (t 35))])
 (.cond (t 36) (.seq (.ops [o 4 (.mv ff)])
 (.ret)) (.skip)))
 (.kept [] (.seq (.ops [o 4 (.mv tt)])
 (.ret))))))))))))))
theorem h_laws_eqWorldLook : hF Tryz.prog n_laws_eqWorldLook = some c_laws_eqWorldLook.strip := by kernel_rfl
theorem r_laws_eqWorldLook : rF Tryz.prog n_laws_eqWorldLook = some ([.tmp 4], 37) := by kernel_rfl
-- 88 loop.example/g00850/laws.szReplicaS
abbrev n_laws_szReplicaS : Nat := 88
def c_laws_szReplicaS_l1 : AS :=
 .seq (.seq (.ops [m 12 5,
 m 13 0,
 o 14 (.lens (t 13)),
 o 15 (.bin .lss (t 12) (t 14))])
 (.cond (t 15) (.skip) (.exit 0)))
 (.seq (.block 1 (.seq (.post [(20, 1, [(1, 8)])] (.ops [m 18 0,
 m 19 5,
 o 20 (.ia 3 (t 18) (t 19)),
 o 21 (.load (some 3) (t 20)),
 m 22 1,
 o 23 (.call 117 [(t 21), (t 22)]),
 m 1 23]))
 (.kept [0, 1, 5] (.seq (.ops [m 24 1,
 o 25 (.bin .lss (t 24) (k 0))])
 (.cond (t 25) (.seq (.ops [o 4 (.mv (k (-1)))])
 (.ret)) (.skip))))))
 (.kept [0, 1, 5] (.ops [m 16 5,
 o 17 (.bin .add (t 16) (k 1)),
 m 5 17])))
def c_laws_szReplicaS : AS :=
 .seq (.ops [o 4 (.mv (k 0))])
 (.seq (.ops [m 6 1,
 m 7 0,
 o 8 (.lens (t 7)),
 o 9 (.bin .sub (t 6) (t 8)),
 m 1 9])
 (.seq (.seq (.ops [m 10 1,
 o 11 (.bin .lss (t 10) (k 0))])
 (.cond (t 11) (.seq (.ops [o 4 (.mv (k (-1)))])
 (.ret)) (.skip)))
 (.seq (.seq (.ops [o 5 (.mv (k 0))])
 (.block 0 (.loop 2 [(0, 0), (1, 0), (5, 0)] c_laws_szReplicaS_l1)))
 (.kept [1] (.seq (.ops [m 26 1,
 m 4 26])
 (.ret))))))
theorem h_laws_szReplicaS : hF Tryz.prog n_laws_szReplicaS = some c_laws_szReplicaS.strip := by kernel_rfl
theorem r_laws_szReplicaS : rF Tryz.prog n_laws_szReplicaS = some ([.tmp 4], 27) := by kernel_rfl
-- 89 loop.example/g00850/laws.szLock
abbrev n_laws_szLock : Nat := 89
def c_laws_szLock : AS :=
 .seq (.ops [o 2 (.box (t 0)),
 o 4 (.mv (k 0))])
 (.seq (.ops [m 5 1,
 o 6 (.fa 0 (t 2)),
 o 7 (.load none (t 6)),
 o 8 (.lent (t 7)),
 o 9 (.bin .sub (t 5) (t 8)),
 m 1 9])
 (.seq (.seq (.ops [m 10 1,
 o 11 (.bin .lss (t 10) (k 0))])
 (.cond (t 11) (.seq (.ops [o 4 (.mv (k (-1)))])
 (.ret)) (.skip)))
 (.seq (.ops [m 12 1,
 m 4 12])
 (.ret))))
theorem h_laws_szLock : hF Tryz.prog n_laws_szLock = some c_laws_szLock.strip := by kernel_rfl
theorem r_laws_szLock : rF Tryz.prog n_laws_szLock = some ([.tmp 4], 13) := by kernel_rfl
-- 90 loop.example/g00850/laws.szOpS
abbrev n_laws_szOpS : Nat := 90
def c_laws_szOpS_l1 : AS :=
 .seq (.seq (.ops [m 12 5,
 m 13 0,
 o 14 (.lens (t 13)),
 o 15 (.bin .lss (t 12) (t 14))])
 (.cond (t 15) (.skip) (.exit 0)))
 (.seq (.block 1 (.seq (.ops [m 18 0,
 m 19 5,
 o 20 (.ia 4 (t 18) (t 19)),
 o 21 (.load (some 4) (t 20)),
 m 22 1,
 o 23 (.call 118 [(t 21), (t 22)]),
 m 1 23])
 (.kept [0, 1, 5] (.seq (.ops [m 24 1,
 o 25 (.bin .lss (t 24) (k 0))])
 (.cond (t 25) (.seq (.ops [o 4 (.mv (k (-1)))])
 (.ret)) (.skip))))))
 (.kept [0, 1, 5] (.ops [m 16 5,
 o 17 (.bin .add (t 16) (k 1)),
 m 5 17])))
def c_laws_szOpS : AS :=
 .seq (.ops [o 4 (.mv (k 0))])
 (.seq (.ops [m 6 1,
 m 7 0,
 o 8 (.lens (t 7)),
 o 9 (.bin .sub (t 6) (t 8)),
 m 1 9])
 (.seq (.seq (.ops [m 10 1,
 o 11 (.bin .lss (t 10) (k 0))])
 (.cond (t 11) (.seq (.ops [o 4 (.mv (k (-1)))])
 (.ret)) (.skip)))
 (.seq (.seq (.ops [o 5 (.mv (k 0))])
 (.block 0 (.loop 2 [(0, 0), (1, 0), (5, 0)] c_laws_szOpS_l1)))
 (.kept [1] (.seq (.ops [m 26 1,
 m 4 26])
 (.ret))))))
theorem h_laws_szOpS : hF Tryz.prog n_laws_szOpS = some c_laws_szOpS.strip := by kernel_rfl
theorem r_laws_szOpS : rF Tryz.prog n_laws_szOpS = some ([.tmp 4], 27) := by kernel_rfl
-- 91 loop.example/g00850/laws.szGotS
abbrev n_laws_szGotS : Nat := 91
def c_laws_szGotS_l1 : AS :=
 .seq (.seq (.ops [m 12 5,
 m 13 0,
 o 14 (.lens (t 13)),
 o 15 (.bin .lss (t 12) (t 14))])
 (.cond (t 15) (.skip) (.exit 0)))
 (.seq (.block 1 (.seq (.ops [m 18 0,
 m 19 5,
 o 20 (.ia 3 (t 18) (t 19)),
 o 21 (.load (some 3) (t 20)),
 m 22 1,
 o 23 (.call 119 [(t 21), (t 22)]),
 m 1 23])
 (.kept [0, 1, 5] (.seq (.ops [m 24 1,
 o 25 (.bin .lss (t 24) (k 0))])
 (.cond (t 25) (.seq (.ops [o 4 (.mv (k (-1)))])
 (.ret)) (.skip))))))
 (.kept [0, 1, 5] (.ops [m 16 5,
 o 17 (.bin .add (t 16) (k 1)),
 m 5 17])))
def c_laws_szGotS : AS :=
 .seq (.ops [o 4 (.mv (k 0))])
 (.seq (.ops [m 6 1,
 m 7 0,
 o 8 (.lens (t 7)),
 o 9 (.bin .sub (t 6) (t 8)),
 m 1 9])
 (.seq (.seq (.ops [m 10 1,
 o 11 (.bin .lss (t 10) (k 0))])
 (.cond (t 11) (.seq (.ops [o 4 (.mv (k (-1)))])
 (.ret)) (.skip)))
 (.seq (.seq (.ops [o 5 (.mv (k 0))])
 (.block 0 (.loop 2 [(0, 0), (1, 0), (5, 0)] c_laws_szGotS_l1)))
 (.kept [1] (.seq (.ops [m 26 1,
 m 4 26])
 (.ret))))))
theorem h_laws_szGotS : hF Tryz.prog n_laws_szGotS = some c_laws_szGotS.strip := by kernel_rfl
theorem r_laws_szGotS : rF Tryz.prog n_laws_szGotS = some ([.tmp 4], 27) := by kernel_rfl
-- 92 loop.example/g00850/spec.l3Key
abbrev n_spec_l3Key : Nat := 92
def c_spec_l3Key : AS :=
 .seq (.ops [o 2 (.mv ff)])
 (.seq (.ops [m 3 0,
 o 4 (.lent (t 3)),
 o 5 (.call 57 [(t 4), (k 1), (k 12)]),
 m 6 5,
 mg 7 6 true 0,
 g 8 6 true (.call 120 [(t 7), (.const (.string ⟨⟨[46, 47]⟩⟩))]),
 o 9 (.pick (t 6) (t 8) ff),
 m 2 9])
 (.ret))
theorem h_spec_l3Key : hF Tryz.prog n_spec_l3Key = some c_spec_l3Key.strip := by kernel_rfl
theorem r_spec_l3Key : rF Tryz.prog n_spec_l3Key = some ([.tmp 2], 10) := by kernel_rfl
-- 93 loop.example/g00850/spec.l9GoodRep
abbrev n_spec_l9GoodRep : Nat := 93
def c_spec_l9GoodRep_l1 : AS :=
 .seq (.seq (.ops [m 20 6,
 o 21 (.fa 1 (t 2)),
 o 22 (.load none (t 21)),
 o 23 (.lens (t 22)),
 o 24 (.bin .lss (t 20) (t 23))])
 (.cond (t 24) (.skip) (.exit 0)))
 (.seq (.block 1 (.seq (.seq (.post [(41, 1, [(5, 1), (6, 3)])] (.ops [o 27 (.fa 1 (t 2)),
 o 28 (.load none (t 27)),
 m 29 6,
 o 30 (.ia 8 (t 28) (t 29)),
 o 31 (.fa 0 (t 30)),
 o 32 (.load none (t 31)),
 m 33 5,
 m 34 1,
 o 35 (.call 57 [(t 32), (t 33), (t 34)]),
 o 36 (.not (t 35)),
 m 37 36,
 g 38 37 false (.fa 1 (t 2)),
 g 39 37 false (.load none (t 38)),
 mg 40 37 false 6,
 g 41 37 false (.ia 8 (t 39) (t 40)),
 g 42 37 false (.fa 1 (t 41)),
 g 43 37 false (.load (some 7) (t 42)),
 g 44 37 false (.call 121 [(t 43)]),
 g 45 37 false (.not (t 44)),
 o 46 (.pick (t 37) tt (t 45))]))
 (.kept [1, 2, 6, 46] (.cond (t 46) (.seq (.ops [o 4 (.mv ff)])
 (.ret)) (.skip))))
 (.kept [1, 2, 6] (.ops [o 47 (.fa 1 (t 2)),
 o 48 (.load none (t 47)),
 m 49 6,
 o 50 (.ia 8 (t 48) (t 49)),
 o 51 (.fa 0 (t 50)),
 o 52 (.load none (t 51)),
 m 5 52]))))
 (.kept [1, 2, 5, 6] (.ops [m 25 6,
 o 26 (.bin .add (t 25) (k 1)),
 m 6 26])))
def c_spec_l9GoodRep : AS :=
 .seq (.ops [o 2 (.box (t 0)),
 o 4 (.mv ff)])
 (.seq (.ops [o 5 (.mv (k 1))])
 (.seq (.seq (.ops [o 7 (.fa 1 (t 2)),
 o 8 (.load none (t 7)),
 o 9 (.lens (t 8)),
 o 10 (.bin .gtr (t 9) (k 60)),
 m 11 10,
 g 12 11 false (.fa 2 (t 2)),
 g 13 11 false (.load none (t 12)),
 g 14 11 false (.fa 1 (t 2)),
 g 15 11 false (.load none (t 14)),
 g 16 11 false (.lens (t 15)),
 g 17 11 false (.call 57 [(t 13), (k 0), (t 16)]),
 g 18 11 false (.not (t 17)),
 o 19 (.pick (t 11) tt (t 18))])
 (.kept [1, 2, 5, 19] (.cond (t 19) (.seq (.ops [o 4 (.mv ff)])
 (.ret)) (.skip))))
 (.kept [1, 2, 5] (.seq (.seq (.ops [o 6 (.mv (k 0))])
 (.block 0 (.loop 2 [(1, 0), (2, 0), (5, 0), (6, 0)] c_spec_l9GoodRep_l1)))
 (.kept [] (.seq (.ops [o 4 (.mv tt)])
 (.ret)))))))
theorem h_spec_l9GoodRep : hF Tryz.prog n_spec_l9GoodRep = some c_spec_l9GoodRep.strip := by kernel_rfl
theorem r_spec_l9GoodRep : rF Tryz.prog n_spec_l9GoodRep = some ([.tmp 4], 53) := by kernel_rfl
-- 94 loop.example/g00850/spec.l12Lock
abbrev n_spec_l12Lock : Nat := 94
def c_spec_l12Lock : AS :=
 .seq (.ops [o 1 (.box (t 0)),
 o 2 (.mv ff)])
 (.seq (.ops [o 3 (.fa 0 (t 1)),
 o 4 (.load none (t 3)),
 o 5 (.call 92 [(t 4)]),
 m 6 5,
 g 7 6 true (.fa 1 (t 1)),
 g 8 6 true (.load none (t 7)),
 g 9 6 true (.call 57 [(t 8), (k 1), (k 60)]),
 o 10 (.pick (t 6) (t 9) ff),
 m 2 10])
 (.ret))
theorem h_spec_l12Lock : hF Tryz.prog n_spec_l12Lock = some c_spec_l12Lock.strip := by kernel_rfl
theorem r_spec_l12Lock : rF Tryz.prog n_spec_l12Lock = some ([.tmp 2], 11) := by kernel_rfl
-- 95 loop.example/g00850/spec.l12Clash
abbrev n_spec_l12Clash : Nat := 95
def c_spec_l12Clash : AS :=
 .seq (.ops [o 2 (.box (t 0)),
 o 3 (.box (t 1)),
 o 4 (.mv ff)])
 (.seq (.ops [o 5 (.fa 0 (t 2)),
 o 6 (.load none (t 5)),
 o 7 (.fa 0 (t 3)),
 o 8 (.load none (t 7)),
 o 9 (.bin .eql (t 6) (t 8)),
 m 10 9,
 g 11 10 true (.fa 1 (t 2)),
 g 12 10 true (.load none (t 11)),
 g 13 10 true (.fa 1 (t 3)),
 g 14 10 true (.load none (t 13)),
 g 15 10 true (.bin .neq (t 12) (t 14)),
 o 16 (.pick (t 10) (t 15) ff),
 m 17 16,
 g 18 17 true (.fa 2 (t 2)),
 g 19 17 true (.load none (t 18)),
 mg 20 17 true 19,
 g 21 20 false (.fa 2 (t 3)),
 g 22 20 false (.load none (t 21)),
 g 23 17 true (.pick (t 20) tt (t 22)),
 o 24 (.pick (t 17) (t 23) ff),
 m 4 24])
 (.ret))
theorem h_spec_l12Clash : hF Tryz.prog n_spec_l12Clash = some c_spec_l12Clash.strip := by kernel_rfl
theorem r_spec_l12Clash : rF Tryz.prog n_spec_l12Clash = some ([.tmp 4], 25) := by kernel_rfl
-- 96 loop.example/g00850/spec.l5Good
abbrev n_spec_l5Good : Nat := 96
def c_spec_l5Good_l1 : AS :=
 .seq (.ops [o 8 (.bin .lss (t 7) (t 6))])
 (.seq (.cond (t 8) (.skip) (.exit 0))
 (.seq (.block 1 (.seq (.ops [o 9 (.ia 4 (t 5) (t 7)),
 o 10 (.load (some 4) (t 9)),
 o 4 (.alloc (.agg #[.int .i64 0, .string ⟨⟨[]⟩⟩, .string ⟨⟨[]⟩⟩, .int .i64 0])),
 u (.store 4 (t 4) (t 10))])
 (.seq (.ops [o 11 (.load (some 4) (t 4)),
 o 12 (.call 122 [(t 11)]),
 o 13 (.not (t 12))])
 (.cond (t 13) (.seq (.ops [o 2 (.mv ff)])
 (.ret)) (.skip)))))
 (.kept [0, 5, 6, 7] (.ops [o 14 (.bin .add (t 7) (k 1)),
 m 7 14]))))
def c_spec_l5Good : AS :=
 .seq (.ops [o 2 (.mv ff)])
 (.seq (.seq (.ops [m 5 0,
 o 6 (.lens (t 5)),
 o 7 (.mv (k 0))])
 (.block 0 (.loop 1 [(0, 0), (5, 0), (6, 0), (7, 0)] c_spec_l5Good_l1)))
 (.kept [0] (.seq (.ops [m 15 0,
 o 16 (.lens (t 15)),
 o 17 (.bin .leq (t 16) (k 8)),
 m 2 17])
 (.ret))))
theorem h_spec_l5Good : hF Tryz.prog n_spec_l5Good = some c_spec_l5Good.strip := by kernel_rfl
theorem r_spec_l5Good : rF Tryz.prog n_spec_l5Good = some ([.tmp 2], 18) := by kernel_rfl
-- 97 loop.example/g00850/spec.l5Gots
abbrev n_spec_l5Gots : Nat := 97
def c_spec_l5Gots_l1 : AS :=
 .seq (.ops [o 39 (.bin .lss (t 38) (t 37))])
 (.seq (.cond (t 39) (.skip) (.exit 2))
 (.seq (.block 3 (.seq (.ops [o 40 (.ia 3 (t 36) (t 38)),
 o 41 (.load (some 3) (t 40)),
 o 6 (.alloc (.agg #[.string ⟨⟨[]⟩⟩, .string ⟨⟨[]⟩⟩, .bool false])),
 u (.store 3 (t 6) (t 41))])
 (.seq (.ops [o 42 (.fa 0 (t 4)),
 o 43 (.load none (t 42)),
 o 44 (.fa 0 (t 6)),
 o 45 (.load none (t 44)),
 o 46 (.bin .eql (t 43) (t 45))])
 (.cond (t 46) (.seq (.ops [o 2 (.mv ff)])
 (.ret)) (.skip)))))
 (.kept [0, 4, 7, 8, 9, 36, 37, 38] (.ops [o 47 (.bin .add (t 38) (k 1)),
 m 38 47]))))
def c_spec_l5Gots_l2 : AS :=
 .seq (.ops [o 10 (.bin .lss (t 9) (t 8))])
 (.seq (.cond (t 10) (.skip) (.exit 0))
 (.seq (.block 1 (.seq (.ops [m 11 9,
 o 12 (.ia 3 (t 7) (t 9)),
 o 13 (.load (some 3) (t 12)),
 o 4 (.alloc (.agg #[.string ⟨⟨[]⟩⟩, .string ⟨⟨[]⟩⟩, .bool false])),
 m 3 11,
 u (.store 3 (t 4) (t 13))])
 (.seq (.seq (.ops [o 14 (.fa 0 (t 4)),
 o 15 (.load none (t 14)),
 o 16 (.call 92 [(t 15)]),
 o 17 (.not (t 16)),
 m 18 17,
 g 19 18 false (.fa 1 (t 4)),
 g 20 18 false (.load none (t 19)),
 g 21 18 false (.call 123 [(t 20)]),
 g 22 18 false (.not (t 21)),
 o 23 (.pick (t 18) tt (t 22)),
 m 24 23,
 g 25 24 false (.fa 2 (t 4)),
 g 26 24 false (.load none (t 25)),
 g 27 24 false (.not (t 26)),
 mg 28 24 false 27,
 g 29 28 true (.fa 1 (t 4)),
 g 30 28 true (.load none (t 29)),
 g 31 28 true (.bin .neq (t 30) (.const (.string ⟨⟨[]⟩⟩))),
 g 32 24 false (.pick (t 28) (t 31) ff),
 o 33 (.pick (t 24) tt (t 32))])
 (.kept [0, 3, 4, 7, 8, 9, 33] (.cond (t 33) (.seq (.ops [o 2 (.mv ff)])
 (.ret)) (.skip))))
 (.kept [0, 3, 4, 7, 8, 9] (.seq (.ops [m 34 0,
 m 35 3,
 o 36 (.sls 3 (t 34) none (some (t 35)) none),
 o 37 (.lens (t 36)),
 o 38 (.mv (k 0))])
 (.block 2 (.loop 1 [(0, 0), (4, 0), (7, 0), (8, 0), (9, 0), (36, 0), (37, 0), (38, 0)] c_spec_l5Gots_l1)))))))
 (.kept [0, 7, 8, 9] (.ops [o 48 (.bin .add (t 9) (k 1)),
 m 9 48]))))
def c_spec_l5Gots : AS :=
 .seq (.ops [o 2 (.mv ff)])
 (.seq (.seq (.ops [m 7 0,
 o 8 (.lens (t 7)),
 o 9 (.mv (k 0))])
 (.block 0 (.loop 1 [(0, 0), (7, 0), (8, 0), (9, 0)] c_spec_l5Gots_l2)))
 (.kept [0] (.seq (.ops [m 49 0,
 o 50 (.lens (t 49)),
 o 51 (.bin .leq (t 50) (k 8)),
 m 2 51])
 (.ret))))
theorem h_spec_l5Gots : hF Tryz.prog n_spec_l5Gots = some c_spec_l5Gots.strip := by kernel_rfl
theorem r_spec_l5Gots : rF Tryz.prog n_spec_l5Gots = some ([.tmp 2], 52) := by kernel_rfl
-- 98 loop.example/g00850/spec.l16Keys
abbrev n_spec_l16Keys : Nat := 98
def c_spec_l16Keys_l1 : AS :=
 .seq (.ops [o 8 (.bin .lss (t 7) (t 6))])
 (.seq (.cond (t 8) (.skip) (.exit 0))
 (.seq (.block 1 (.seq (.ops [m 9 7,
 o 10 (.ia 1 (t 5) (t 7)),
 o 11 (.load none (t 10)),
 m 3 9,
 m 4 11])
 (.seq (.ops [m 12 4,
 o 13 (.call 92 [(t 12)]),
 o 14 (.not (t 13)),
 m 15 14,
 mg 16 15 false 3,
 g 17 15 false (.bin .gtr (t 16) (k 0)),
 mg 18 15 false 17,
 mg 19 18 true 0,
 mg 20 18 true 3,
 g 21 18 true (.bin .sub (t 20) (k 1)),
 g 22 18 true (.ia 1 (t 19) (t 21)),
 g 23 18 true (.load none (t 22)),
 mg 24 18 true 4,
 g 25 18 true (.bin .geq (t 23) (t 24)),
 g 26 15 false (.pick (t 18) (t 25) ff),
 o 27 (.pick (t 15) tt (t 26))])
 (.kept [0, 5, 6, 7, 27] (.cond (t 27) (.seq (.ops [o 2 (.mv ff)])
 (.ret)) (.skip))))))
 (.kept [0, 5, 6, 7] (.ops [o 28 (.bin .add (t 7) (k 1)),
 m 7 28]))))
def c_spec_l16Keys : AS :=
 .seq (.ops [o 2 (.mv ff)])
 (.seq (.seq (.ops [m 5 0,
 o 6 (.lens (t 5)),
 o 7 (.mv (k 0))])
 (.block 0 (.loop 1 [(0, 0), (5, 0), (6, 0), (7, 0)] c_spec_l16Keys_l1)))
 (.kept [0] (.seq (.ops [m 29 0,
 o 30 (.lens (t 29)),
 o 31 (.call 57 [(t 30), (k 1), (k 8)]),
 m 2 31])
 (.ret))))
theorem h_spec_l16Keys : hF Tryz.prog n_spec_l16Keys = some c_spec_l16Keys.strip := by kernel_rfl
theorem r_spec_l16Keys : rF Tryz.prog n_spec_l16Keys = some ([.tmp 2], 32) := by kernel_rfl
-- 99 loop.example/g00850/laws.toReplicaS
abbrev n_laws_toReplicaS : Nat := 99
def c_laws_toReplicaS_l1 : AS :=
 .seq (.seq (.ops [m 8 4,
 m 9 0,
 o 10 (.lens (t 9)),
 o 11 (.bin .lss (t 8) (t 10))])
 (.cond (t 11) (.skip) (.exit 0)))
 (.seq (.block 1 (.post [(21, 1, [(1, 8)]), (18, 1, [(1, 8)])] (.ops [m 14 3,
 m 15 4,
 m 16 0,
 m 17 4,
 o 18 (.ia 3 (t 16) (t 17)),
 o 19 (.load (some 3) (t 18)),
 o 20 (.call 124 [(t 19)]),
 o 21 (.ia 3 (t 14) (t 15)),
 u (.store 3 (t 21) (t 20))])))
 (.kept [0, 3, 4] (.ops [m 12 4,
 o 13 (.bin .add (t 12) (k 1)),
 m 4 13])))
def c_laws_toReplicaS : AS :=
 .seq (.ops [o 2 (.mv (.const (.slice none 0 0)))])
 (.seq (.ops [m 5 0,
 o 6 (.lens (t 5)),
 o 7 (.mks 3 40 (.agg #[.bool false, .slice none 0 0, .int .i64 0]) (t 6) (t 6)),
 m 3 7])
 (.seq (.seq (.ops [o 4 (.mv (k 0))])
 (.block 0 (.loop 1 [(0, 0), (3, 0), (4, 0)] c_laws_toReplicaS_l1)))
 (.kept [3] (.seq (.ops [m 22 3,
 m 2 22])
 (.ret)))))
theorem h_laws_toReplicaS : hF Tryz.prog n_laws_toReplicaS = some c_laws_toReplicaS.strip := by kernel_rfl
theorem r_laws_toReplicaS : rF Tryz.prog n_laws_toReplicaS = some ([.tmp 2], 23) := by kernel_rfl
-- 100 loop.example/g00850/laws.toLock
abbrev n_laws_toLock : Nat := 100
def c_laws_toLock : AS :=
 .seq (.ops [o 1 (.box (t 0)),
 o 2 (.alloc (.agg #[.string ⟨⟨[]⟩⟩, .int .i64 0, .bool false]))])
 (.seq (.ops [o 3 (.alloc (.agg #[.string ⟨⟨[]⟩⟩, .int .i64 0, .bool false]))])
 (.seq (.ops [o 4 (.fa 0 (t 1)),
 o 5 (.load none (t 4)),
 o 6 (.fa 0 (t 3)),
 u (.store 1 (t 6) (t 5))])
 (.seq (.ops [o 7 (.fa 1 (t 1)),
 o 8 (.load none (t 7)),
 o 9 (.fa 1 (t 3)),
 u (.store 1 (t 9) (t 8))])
 (.seq (.ops [o 10 (.fa 2 (t 1)),
 o 11 (.load none (t 10)),
 o 12 (.fa 2 (t 3)),
 u (.store 1 (t 12) (t 11))])
 (.seq (.ops [o 13 (.load (some 3) (t 3)),
 u (.store 3 (t 2) (t 13))])
 (.ret))))))
theorem h_laws_toLock : hF Tryz.prog n_laws_toLock = some c_laws_toLock.strip := by kernel_rfl
theorem r_laws_toLock : rF Tryz.prog n_laws_toLock = some ([.cell 2 117], 14) := by kernel_rfl
-- 101 loop.example/g00850/laws.toOpS
abbrev n_laws_toOpS : Nat := 101
def c_laws_toOpS_l1 : AS :=
 .seq (.seq (.ops [m 8 4,
 m 9 0,
 o 10 (.lens (t 9)),
 o 11 (.bin .lss (t 8) (t 10))])
 (.cond (t 11) (.skip) (.exit 0)))
 (.seq (.block 1 (.ops [m 14 3,
 m 15 4,
 m 16 0,
 m 17 4,
 o 18 (.ia 4 (t 16) (t 17)),
 o 19 (.load (some 4) (t 18)),
 o 20 (.call 125 [(t 19)]),
 o 21 (.ia 4 (t 14) (t 15)),
 u (.store 4 (t 21) (t 20))]))
 (.kept [0, 3, 4] (.ops [m 12 4,
 o 13 (.bin .add (t 12) (k 1)),
 m 4 13])))
def c_laws_toOpS : AS :=
 .seq (.ops [o 2 (.mv (.const (.slice none 0 0)))])
 (.seq (.ops [m 5 0,
 o 6 (.lens (t 5)),
 o 7 (.mks 4 48 (.agg #[.int .i64 0, .string ⟨⟨[]⟩⟩, .string ⟨⟨[]⟩⟩, .int .i64 0]) (t 6) (t 6)),
 m 3 7])
 (.seq (.seq (.ops [o 4 (.mv (k 0))])
 (.block 0 (.loop 1 [(0, 0), (3, 0), (4, 0)] c_laws_toOpS_l1)))
 (.kept [3] (.seq (.ops [m 22 3,
 m 2 22])
 (.ret)))))
theorem h_laws_toOpS : hF Tryz.prog n_laws_toOpS = some c_laws_toOpS.strip := by kernel_rfl
theorem r_laws_toOpS : rF Tryz.prog n_laws_toOpS = some ([.tmp 2], 23) := by kernel_rfl
-- 102 loop.example/g00850/laws.toGotS
abbrev n_laws_toGotS : Nat := 102
def c_laws_toGotS_l1 : AS :=
 .seq (.seq (.ops [m 8 4,
 m 9 0,
 o 10 (.lens (t 9)),
 o 11 (.bin .lss (t 8) (t 10))])
 (.cond (t 11) (.skip) (.exit 0)))
 (.seq (.block 1 (.ops [m 14 3,
 m 15 4,
 m 16 0,
 m 17 4,
 o 18 (.ia 3 (t 16) (t 17)),
 o 19 (.load (some 3) (t 18)),
 o 20 (.call 126 [(t 19)]),
 o 21 (.ia 3 (t 14) (t 15)),
 u (.store 3 (t 21) (t 20))]))
 (.kept [0, 3, 4] (.ops [m 12 4,
 o 13 (.bin .add (t 12) (k 1)),
 m 4 13])))
def c_laws_toGotS : AS :=
 .seq (.ops [o 2 (.mv (.const (.slice none 0 0)))])
 (.seq (.ops [m 5 0,
 o 6 (.lens (t 5)),
 o 7 (.mks 3 40 (.agg #[.string ⟨⟨[]⟩⟩, .string ⟨⟨[]⟩⟩, .bool false]) (t 6) (t 6)),
 m 3 7])
 (.seq (.seq (.ops [o 4 (.mv (k 0))])
 (.block 0 (.loop 1 [(0, 0), (3, 0), (4, 0)] c_laws_toGotS_l1)))
 (.kept [3] (.seq (.ops [m 22 3,
 m 2 22])
 (.ret)))))
theorem h_laws_toGotS : hF Tryz.prog n_laws_toGotS = some c_laws_toGotS.strip := by kernel_rfl
theorem r_laws_toGotS : rF Tryz.prog n_laws_toGotS = some ([.tmp 2], 23) := by kernel_rfl
-- 103 loop.example/g00850/impl.GoodKey
abbrev n_impl_GoodKey : Nat := 103
def c_impl_GoodKey : AS :=
 .seq (.ops [o 2 (.mv ff)])
 (.seq (.ops [m 3 0,
 o 4 (.lent (t 3)),
 o 5 (.call 28 [(t 4), (k 1), (k 12)]),
 m 6 5,
 mg 7 6 true 0,
 g 8 6 true (.call 127 [(t 7), (.const (.string ⟨⟨[46, 47]⟩⟩))]),
 o 9 (.pick (t 6) (t 8) ff),
 m 2 9])
 (.ret))
theorem h_impl_GoodKey : hF Tryz.prog n_impl_GoodKey = some c_impl_GoodKey.strip := by kernel_rfl
theorem r_impl_GoodKey : rF Tryz.prog n_impl_GoodKey = some ([.tmp 2], 10) := by kernel_rfl
-- 104 slices.IndexFunc[[]loop.example/g00850/impl.Replica,loop.example/g00850/impl.Replica]
abbrev n_slices_IndexFunc___impl_Replica_impl_Replica_ : Nat := 104
def c_slices_IndexFunc___impl_Replica_impl_Replica__l1 : AS :=
 .seq (.ops [o 9 (.bin .lss (t 8) (t 7))])
 (.seq (.cond (t 9) (.skip) (.exit 0))
 (.seq (.block 1 (.seq (.ops [m 10 8,
 m 5 10])
 (.seq (.post [(14, 1, [(1, 8)])] (.ops [m 11 1,
 m 12 0,
 m 13 5,
 o 14 (.ia 3 (t 12) (t 13)),
 o 15 (.load (some 3) (t 14)),
 o 16 (.callv (t 11) [(t 15)])]))
 (.cond (t 16) (.seq (.ops [m 17 5,
 m 4 17])
 (.ret)) (.skip)))))
 (.kept [0, 1, 7, 8] (.ops [o 18 (.bin .add (t 8) (k 1)),
 m 8 18]))))
def c_slices_IndexFunc___impl_Replica_impl_Replica_ : AS :=
 .seq (.ops [o 4 (.mv (k 0))])
 (.seq (.seq (.ops [m 6 0,
 o 7 (.lens (t 6)),
 o 8 (.mv (k 0))])
 (.block 0 (.loop 2 [(0, 0), (1, 0), (7, 0), (8, 0)] c_slices_IndexFunc___impl_Replica_impl_Replica__l1)))
 (.kept [] (.seq (.ops [o 4 (.mv (k (-1)))])
 (.ret))))
theorem h_slices_IndexFunc___impl_Replica_impl_Replica_ : hF Tryz.prog n_slices_IndexFunc___impl_Replica_impl_Replica_ = some c_slices_IndexFunc___impl_Replica_impl_Replica_.strip := by kernel_rfl
theorem r_slices_IndexFunc___impl_Replica_impl_Replica_ : rF Tryz.prog n_slices_IndexFunc___impl_Replica_impl_Replica_ = some ([.tmp 4], 19) := by kernel_rfl
-- 105 loop.example/g00850/impl.GoodRec
abbrev n_impl_GoodRec : Nat := 105
def c_impl_GoodRec : AS :=
 .seq (.ops [o 1 (.box (t 0)),
 o 2 (.mv ff)])
 (.seq (.ops [o 4 (.fa 3 (t 1)),
 o 5 (.load none (t 4)),
 o 6 (.bin .eql (t 5) (k 0)),
 m 7 6,
 g 8 7 true (.fa 4 (t 1)),
 g 9 7 true (.load none (t 8)),
 g 10 7 true (.lens (t 9)),
 g 11 7 true (.bin .eql (t 10) (k 0)),
 o 12 (.pick (t 7) (t 11) ff),
 m 13 12,
 g 14 13 true (.fa 5 (t 1)),
 g 15 13 true (.load none (t 14)),
 g 16 13 true (.lens (t 15)),
 g 17 13 true (.bin .eql (t 16) (k 0)),
 o 18 (.pick (t 13) (t 17) ff),
 m 3 18])
 (.kept [1, 3] (.seq (.seq (.ops [o 19 (.fa 0 (t 1)),
 o 20 (.load none (t 19))])
 (.block 0 (.seq (.ops [o 22 (.bin .eql (t 20) (k 1)),
 m 21 22])
 (.cond (t 21) (.seq (.ops [o 23 (.fa 1 (t 1)),
 o 24 (.load none (t 23)),
 o 25 (.call 106 [(t 24)]),
 m 26 25,
 g 27 26 true (.fa 2 (t 1)),
 g 28 26 true (.load none (t 27)),
 g 29 26 true (.call 128 [(t 28)]),
 o 30 (.pick (t 26) (t 29) ff),
 m 31 30,
 g 32 31 true (.fa 3 (t 1)),
 g 33 31 true (.load none (t 32)),
 g 34 31 true (.call 28 [(t 33), (k 0), (k 3)]),
 o 35 (.pick (t 31) (t 34) ff),
 m 36 35,
 g 37 36 true (.fa 4 (t 1)),
 g 38 36 true (.load none (t 37)),
 g 39 36 true (.lens (t 38)),
 g 40 36 true (.bin .leq (t 39) (k 8)),
 o 41 (.pick (t 36) (t 40) ff),
 m 42 41,
 g 43 42 true (.fa 4 (t 1)),
 g 44 42 true (.load none (t 43)),
 g 45 42 true (.call 63 [(t 44)]),
 o 46 (.pick (t 42) (t 45) ff),
 m 47 46,
 g 48 47 true (.fa 5 (t 1)),
 g 49 47 true (.load none (t 48)),
 g 50 47 true (.lens (t 49)),
 g 51 47 true (.bin .leq (t 50) (k 8)),
 o 52 (.pick (t 47) (t 51) ff),
 m 53 52,
 g 54 53 true (.fa 5 (t 1)),
 g 55 53 true (.load none (t 54)),
 g 56 53 true (.call 129 [(t 55)]),
 o 57 (.pick (t 53) (t 56) ff),
 m 58 57,
 g 59 58 true (.fa 4 (t 1)),
 g 60 58 true (.load none (t 59)),
 g 61 58 true (.lens (t 60)),
 g 62 58 true (.fa 5 (t 1)),
 g 63 58 true (.load none (t 62)),
 g 64 58 true (.lens (t 63)),
 g 65 58 true (.bin .add (t 61) (t 64)),
 g 66 58 true (.bin .gtr (t 65) (k 0)),
 o 67 (.pick (t 58) (t 66) ff),
 m 68 67,
 g 69 68 true (.fa 6 (t 1)),
 g 70 68 true (.load none (t 69)),
 g 71 68 true (.not (t 70)),
 o 72 (.pick (t 68) (t 71) ff),
 m 2 72])
 (.ret)) (.seq (.seq (.ops [o 74 (.bin .eql (t 20) (k 2)),
 m 73 74])
 (.cond (t 73) (.skip) (.ops [o 75 (.bin .eql (t 20) (k 3)),
 m 73 75])))
 (.cond (t 73) (.seq (.ops [m 76 3,
 m 77 76,
 g 78 77 true (.fa 1 (t 1)),
 g 79 77 true (.load none (t 78)),
 g 80 77 true (.call 106 [(t 79)]),
 o 81 (.pick (t 77) (t 80) ff),
 m 82 81,
 g 83 82 true (.fa 6 (t 1)),
 g 84 82 true (.load none (t 83)),
 mg 85 82 true 84,
 g 86 85 true (.fa 2 (t 1)),
 g 87 85 true (.load none (t 86)),
 g 88 85 true (.call 128 [(t 87)]),
 g 89 82 true (.pick (t 85) (t 88) ff),
 mg 90 82 true 89,
 g 91 90 false (.fa 6 (t 1)),
 g 92 90 false (.load none (t 91)),
 g 93 90 false (.not (t 92)),
 mg 94 90 false 93,
 g 95 94 true (.fa 2 (t 1)),
 g 96 94 true (.load none (t 95)),
 g 97 94 true (.bin .eql (t 96) (k 0)),
 g 98 90 false (.pick (t 94) (t 97) ff),
 g 99 82 true (.pick (t 90) tt (t 98)),
 o 100 (.pick (t 82) (t 99) ff),
 m 2 100])
 (.ret)) (.seq (.ops [o 102 (.bin .eql (t 20) (k 4)),
 m 101 102])
 (.cond (t 101) (.seq (.ops [m 103 3,
 m 104 103,
 g 105 104 true (.fa 1 (t 1)),
 g 106 104 true (.load none (t 105)),
 g 107 104 true (.bin .eql (t 106) (k 0)),
 o 108 (.pick (t 104) (t 107) ff),
 m 109 108,
 g 110 109 true (.fa 2 (t 1)),
 g 111 109 true (.load none (t 110)),
 g 112 109 true (.call 128 [(t 111)]),
 o 113 (.pick (t 109) (t 112) ff),
 m 114 113,
 g 115 114 true (.fa 6 (t 1)),
 g 116 114 true (.load none (t 115)),
 g 117 114 true (.not (t 116)),
 o 118 (.pick (t 114) (t 117) ff),
 m 2 118])
 (.ret)) (.skip)))))))))
 (.kept [] (.seq (.ops [o 2 (.mv ff)])
 (.ret))))))
theorem h_impl_GoodRec : hF Tryz.prog n_impl_GoodRec = some c_impl_GoodRec.strip := by kernel_rfl
theorem r_impl_GoodRec : rF Tryz.prog n_impl_GoodRec = some ([.tmp 2], 119) := by kernel_rfl
-- 106 loop.example/g00850/impl.isTxn
abbrev n_impl_isTxn : Nat := 106
def c_impl_isTxn : AS :=
 .seq (.ops [o 2 (.mv ff)])
 (.seq (.ops [m 3 0,
 o 4 (.call 28 [(t 3), (k 1), (k 60)]),
 m 2 4])
 (.ret))
theorem h_impl_isTxn : hF Tryz.prog n_impl_isTxn = some c_impl_isTxn.strip := by kernel_rfl
theorem r_impl_isTxn : rF Tryz.prog n_impl_isTxn = some ([.tmp 2], 5) := by kernel_rfl
-- 107 slices.IndexFunc[[]loop.example/g00850/impl.Lock,loop.example/g00850/impl.Lock]
abbrev n_slices_IndexFunc___impl_Lock_impl_Lock_ : Nat := 107
def c_slices_IndexFunc___impl_Lock_impl_Lock__l1 : AS :=
 .seq (.ops [o 9 (.bin .lss (t 8) (t 7))])
 (.seq (.cond (t 9) (.skip) (.exit 0))
 (.seq (.block 1 (.seq (.ops [m 10 8,
 m 5 10])
 (.seq (.ops [m 11 1,
 m 12 0,
 m 13 5,
 o 14 (.ia 3 (t 12) (t 13)),
 o 15 (.load (some 3) (t 14)),
 o 16 (.callv (t 11) [(t 15)])])
 (.cond (t 16) (.seq (.ops [m 17 5,
 m 4 17])
 (.ret)) (.skip)))))
 (.kept [0, 1, 7, 8] (.ops [o 18 (.bin .add (t 8) (k 1)),
 m 8 18]))))
def c_slices_IndexFunc___impl_Lock_impl_Lock_ : AS :=
 .seq (.ops [o 4 (.mv (k 0))])
 (.seq (.seq (.ops [m 6 0,
 o 7 (.lens (t 6)),
 o 8 (.mv (k 0))])
 (.block 0 (.loop 2 [(0, 0), (1, 0), (7, 0), (8, 0)] c_slices_IndexFunc___impl_Lock_impl_Lock__l1)))
 (.kept [] (.seq (.ops [o 4 (.mv (k (-1)))])
 (.ret))))
theorem h_slices_IndexFunc___impl_Lock_impl_Lock_ : hF Tryz.prog n_slices_IndexFunc___impl_Lock_impl_Lock_ = some c_slices_IndexFunc___impl_Lock_impl_Lock_.strip := by kernel_rfl
theorem r_slices_IndexFunc___impl_Lock_impl_Lock_ : rF Tryz.prog n_slices_IndexFunc___impl_Lock_impl_Lock_ = some ([.tmp 4], 19) := by kernel_rfl
-- 108 loop.example/g00850/impl.GoodOps
abbrev n_impl_GoodOps : Nat := 108
def c_impl_GoodOps : AS :=
 .seq (.ops [o 2 (.mv ff)])
 (.seq (.ops [m 3 0,
 o 4 (.lens (t 3)),
 o 5 (.bin .leq (t 4) (k 8)),
 m 6 5,
 mg 7 6 true 0,
 g 8 6 true (.call 130 [(t 7), (.func 131)]),
 g 9 6 true (.not (t 8)),
 o 10 (.pick (t 6) (t 9) ff),
 m 2 10])
 (.ret))
theorem h_impl_GoodOps : hF Tryz.prog n_impl_GoodOps = some c_impl_GoodOps.strip := by kernel_rfl
theorem r_impl_GoodOps : rF Tryz.prog n_impl_GoodOps = some ([.tmp 2], 11) := by kernel_rfl
-- 109 loop.example/g00850/impl.isStored
abbrev n_impl_isStored : Nat := 109
def c_impl_isStored : AS :=
 .seq (.ops [o 4 (.mv ff)])
 (.seq (.ops [m 5 0,
 o 6 (.call 133 [(t 5)]),
 m 7 6,
 mg 8 7 true 1,
 mg 9 7 true 8,
 mg 10 9 true 0,
 g 11 9 true (.bin .neq (t 10) (.const (.string ⟨⟨[]⟩⟩))),
 g 12 7 true (.pick (t 9) (t 11) ff),
 g 13 7 true (.not (t 12)),
 o 14 (.pick (t 7) (t 13) ff),
 m 4 14])
 (.ret))
theorem h_impl_isStored : hF Tryz.prog n_impl_isStored = some c_impl_isStored.strip := by kernel_rfl
theorem r_impl_isStored : rF Tryz.prog n_impl_isStored = some ([.tmp 4], 15) := by kernel_rfl
-- 110 slices.ContainsFunc[[]loop.example/g00850/impl.Got,loop.example/g00850/impl.Got]
abbrev n_slices_ContainsFunc___impl_Got_impl_Got_ : Nat := 110
def c_slices_ContainsFunc___impl_Got_impl_Got_ : AS :=
 .seq (.ops [o 4 (.mv ff)])
 (.seq (.ops [m 5 0,
 m 6 1,
 o 7 (.call 134 [(t 5), (t 6)]),
 o 8 (.bin .geq (t 7) (k 0)),
 m 4 8])
 (.ret))
theorem h_slices_ContainsFunc___impl_Got_impl_Got_ : hF Tryz.prog n_slices_ContainsFunc___impl_Got_impl_Got_ = some c_slices_ContainsFunc___impl_Got_impl_Got_.strip := by kernel_rfl
theorem r_slices_ContainsFunc___impl_Got_impl_Got_ : rF Tryz.prog n_slices_ContainsFunc___impl_Got_impl_Got_ = some ([.tmp 4], 9) := by kernel_rfl
-- 111 loop.example/g00850/impl.areGot$1
abbrev n_impl_areGot_1 : Nat := 111
def c_impl_areGot_1 : AS :=
 .seq (.ops [o 2 (.box (t 0)),
 o 3 (.mv ff)])
 (.seq (.ops [o 4 (.fa 0 (t 2)),
 o 5 (.load none (t 4)),
 o 6 (.fa 0 (t 1)),
 o 7 (.load none (t 6)),
 o 8 (.bin .eql (t 5) (t 7)),
 m 3 8])
 (.ret))
theorem h_impl_areGot_1 : hF Tryz.prog n_impl_areGot_1 = some c_impl_areGot_1.strip := by kernel_rfl
theorem r_impl_areGot_1 : rF Tryz.prog n_impl_areGot_1 = some ([.tmp 3], 9) := by kernel_rfl
-- 112 slices.IndexFunc[[]int,int]
abbrev n_slices_IndexFunc___int_int_ : Nat := 112
def c_slices_IndexFunc___int_int__l1 : AS :=
 .seq (.ops [o 9 (.bin .lss (t 8) (t 7))])
 (.seq (.cond (t 9) (.skip) (.exit 0))
 (.seq (.block 1 (.seq (.ops [m 10 8,
 m 5 10])
 (.seq (.ops [m 11 1,
 m 12 0,
 m 13 5,
 o 14 (.ia 1 (t 12) (t 13)),
 o 15 (.load none (t 14)),
 o 16 (.callv (t 11) [(t 15)])])
 (.cond (t 16) (.seq (.ops [m 17 5,
 m 4 17])
 (.ret)) (.skip)))))
 (.kept [0, 1, 7, 8] (.ops [o 18 (.bin .add (t 8) (k 1)),
 m 8 18]))))
def c_slices_IndexFunc___int_int_ : AS :=
 .seq (.ops [o 4 (.mv (k 0))])
 (.seq (.seq (.ops [m 6 0,
 o 7 (.lens (t 6)),
 o 8 (.mv (k 0))])
 (.block 0 (.loop 2 [(0, 0), (1, 0), (7, 0), (8, 0)] c_slices_IndexFunc___int_int__l1)))
 (.kept [] (.seq (.ops [o 4 (.mv (k (-1)))])
 (.ret))))
theorem h_slices_IndexFunc___int_int_ : hF Tryz.prog n_slices_IndexFunc___int_int_ = some c_slices_IndexFunc___int_int_.strip := by kernel_rfl
theorem r_slices_IndexFunc___int_int_ : rF Tryz.prog n_slices_IndexFunc___int_int_ = some ([.tmp 4], 19) := by kernel_rfl
-- 113 loop.example/g00850/laws.eqReplicaS
abbrev n_laws_eqReplicaS : Nat := 113
def c_laws_eqReplicaS_l1 : AS :=
 .seq (.seq (.ops [m 11 5,
 m 12 0,
 o 13 (.lens (t 12)),
 o 14 (.bin .lss (t 11) (t 13))])
 (.cond (t 14) (.skip) (.exit 0)))
 (.seq (.block 1 (.seq (.post [(23, 1, [(1, 8)]), (19, 1, [(1, 8)])] (.rops [(none, m 17 0),
 (none, m 18 5),
 (none, o 19 (.ia 3 (t 17) (t 18))),
 (none, o 20 (.load (some 3) (t 19))),
 (none, m 21 1),
 (none, m 22 5),
 (none, o 23 (.ia 3 (t 21) (t 22))),
 (none, o 24 (.load (some 3) (t 23))),
 (some [], o 25 (.call 135 [(t 20), (t 24)])),
 (none, o 26 (.not (t 25)))]))
 (.kept [0, 1, 5, 26] (.cond (t 26) (.seq (.ops [o 4 (.mv ff)])
 (.ret)) (.skip)))))
 (.kept [0, 1, 5] (.ops [m 15 5,
 o 16 (.bin .add (t 15) (k 1)),
 m 5 16])))
def c_laws_eqReplicaS : AS :=
 .seq (.ops [o 4 (.mv ff)])
 (.seq (.seq (.ops [m 6 0,
 o 7 (.lens (t 6)),
 m 8 1,
 o 9 (.lens (t 8)),
 o 10 (.bin .neq (t 7) (t 9))])
 (.cond (t 10) (.seq (.ops [o 4 (.mv ff)])
 (.ret)) (.skip)))
 (.kept [0, 1] (.seq (.seq (.ops [o 5 (.mv (k 0))])
 (.block 0 (.loop 2 [(0, 0), (1, 0), (5, 0)] c_laws_eqReplicaS_l1)))
 (.kept [] (.seq (.ops [o 4 (.mv tt)])
 (.ret))))))
theorem h_laws_eqReplicaS : hF Tryz.prog n_laws_eqReplicaS = some c_laws_eqReplicaS.strip := by kernel_rfl
theorem r_laws_eqReplicaS : rF Tryz.prog n_laws_eqReplicaS = some ([.tmp 4], 27) := by kernel_rfl
-- 114 loop.example/g00850/laws.eqLock
abbrev n_laws_eqLock : Nat := 114
def c_laws_eqLock : AS :=
 .seq (.ops [o 2 (.box (t 0)),
 o 3 (.box (t 1)),
 o 4 (.mv ff)])
 (.seq (.seq (.ops [o 5 (.fa 0 (t 2)),
 o 6 (.load none (t 5)),
 o 7 (.fa 0 (t 3)),
 o 8 (.load none (t 7)),
 o 9 (.bin .neq (t 6) (t 8))])
 (.cond (t 9) (.seq (.ops [o 4 (.mv ff)])
 (.ret)) (.skip)))
 (.kept [2, 3] (.seq (.seq (.ops [o 10 (.fa 1 (t 2)),
 o 11 (.load none (t 10)),
 o 12 (.fa 1 (t 3)),
 o 13 (.load none (t 12)),
 o 14 (.bin .neq (t 11) (t 13))])
 (.cond (t 14) (.seq (.ops [o 4 (.mv ff)])
 (.ret)) (.skip)))
 (.kept [2, 3] (.seq (.seq (.ops [o 15 (.fa 2 (t 2)),
 o 16 (.load none (t 15)),
 o 17 (.fa 2 (t 3)),
 o 18 (.load none (t 17)),
 o 19 (.eqb true (t 16) (t 18))])
 (.cond (t 19) (.seq (.ops [o 4 (.mv ff)])
 (.ret)) (.skip)))
 (.kept [] (.seq (.ops [o 4 (.mv tt)])
 (.ret))))))))
theorem h_laws_eqLock : hF Tryz.prog n_laws_eqLock = some c_laws_eqLock.strip := by kernel_rfl
theorem r_laws_eqLock : rF Tryz.prog n_laws_eqLock = some ([.tmp 4], 20) := by kernel_rfl
-- 115 loop.example/g00850/laws.eqOpS
abbrev n_laws_eqOpS : Nat := 115
def c_laws_eqOpS_l1 : AS :=
 .seq (.seq (.ops [m 11 5,
 m 12 0,
 o 13 (.lens (t 12)),
 o 14 (.bin .lss (t 11) (t 13))])
 (.cond (t 14) (.skip) (.exit 0)))
 (.seq (.block 1 (.seq (.rops [(none, m 17 0),
 (none, m 18 5),
 (none, o 19 (.ia 4 (t 17) (t 18))),
 (none, o 20 (.load (some 4) (t 19))),
 (none, m 21 1),
 (none, m 22 5),
 (none, o 23 (.ia 4 (t 21) (t 22))),
 (none, o 24 (.load (some 4) (t 23))),
 (some [], o 25 (.call 136 [(t 20), (t 24)])),
 (none, o 26 (.not (t 25)))])
 (.kept [0, 1, 5, 26] (.cond (t 26) (.seq (.ops [o 4 (.mv ff)])
 (.ret)) (.skip)))))
 (.kept [0, 1, 5] (.ops [m 15 5,
 o 16 (.bin .add (t 15) (k 1)),
 m 5 16])))
def c_laws_eqOpS : AS :=
 .seq (.ops [o 4 (.mv ff)])
 (.seq (.seq (.ops [m 6 0,
 o 7 (.lens (t 6)),
 m 8 1,
 o 9 (.lens (t 8)),
 o 10 (.bin .neq (t 7) (t 9))])
 (.cond (t 10) (.seq (.ops [o 4 (.mv ff)])
 (.ret)) (.skip)))
 (.kept [0, 1] (.seq (.seq (.ops [o 5 (.mv (k 0))])
 (.block 0 (.loop 2 [(0, 0), (1, 0), (5, 0)] c_laws_eqOpS_l1)))
 (.kept [] (.seq (.ops [o 4 (.mv tt)])
 (.ret))))))
theorem h_laws_eqOpS : hF Tryz.prog n_laws_eqOpS = some c_laws_eqOpS.strip := by kernel_rfl
theorem r_laws_eqOpS : rF Tryz.prog n_laws_eqOpS = some ([.tmp 4], 27) := by kernel_rfl
-- 116 loop.example/g00850/laws.eqGotS
abbrev n_laws_eqGotS : Nat := 116
def c_laws_eqGotS_l1 : AS :=
 .seq (.seq (.ops [m 11 5,
 m 12 0,
 o 13 (.lens (t 12)),
 o 14 (.bin .lss (t 11) (t 13))])
 (.cond (t 14) (.skip) (.exit 0)))
 (.seq (.block 1 (.seq (.rops [(none, m 17 0),
 (none, m 18 5),
 (none, o 19 (.ia 3 (t 17) (t 18))),
 (none, o 20 (.load (some 3) (t 19))),
 (none, m 21 1),
 (none, m 22 5),
 (none, o 23 (.ia 3 (t 21) (t 22))),
 (none, o 24 (.load (some 3) (t 23))),
 (some [], o 25 (.call 137 [(t 20), (t 24)])),
 (none, o 26 (.not (t 25)))])
 (.kept [0, 1, 5, 26] (.cond (t 26) (.seq (.ops [o 4 (.mv ff)])
 (.ret)) (.skip)))))
 (.kept [0, 1, 5] (.ops [m 15 5,
 o 16 (.bin .add (t 15) (k 1)),
 m 5 16])))
def c_laws_eqGotS : AS :=
 .seq (.ops [o 4 (.mv ff)])
 (.seq (.seq (.ops [m 6 0,
 o 7 (.lens (t 6)),
 m 8 1,
 o 9 (.lens (t 8)),
 o 10 (.bin .neq (t 7) (t 9))])
 (.cond (t 10) (.seq (.ops [o 4 (.mv ff)])
 (.ret)) (.skip)))
 (.kept [0, 1] (.seq (.seq (.ops [o 5 (.mv (k 0))])
 (.block 0 (.loop 2 [(0, 0), (1, 0), (5, 0)] c_laws_eqGotS_l1)))
 (.kept [] (.seq (.ops [o 4 (.mv tt)])
 (.ret))))))
theorem h_laws_eqGotS : hF Tryz.prog n_laws_eqGotS = some c_laws_eqGotS.strip := by kernel_rfl
theorem r_laws_eqGotS : rF Tryz.prog n_laws_eqGotS = some ([.tmp 4], 27) := by kernel_rfl
-- 117 loop.example/g00850/laws.szReplica
abbrev n_laws_szReplica : Nat := 117
def c_laws_szReplica : AS :=
 .seq (.ops [o 2 (.box (t 0)),
 o 4 (.mv (k 0))])
 (.seq (.ops [o 5 (.fa 1 (t 2)),
 o 6 (.load none (t 5)),
 m 7 1,
 o 8 (.call 138 [(t 6), (t 7)]),
 m 1 8])
 (.seq (.seq (.ops [m 9 1,
 o 10 (.bin .lss (t 9) (k 0))])
 (.cond (t 10) (.seq (.ops [o 4 (.mv (k (-1)))])
 (.ret)) (.skip)))
 (.seq (.ops [m 11 1,
 m 4 11])
 (.ret))))
theorem h_laws_szReplica : hF Tryz.prog n_laws_szReplica = some c_laws_szReplica.strip := by kernel_rfl
theorem r_laws_szReplica : rF Tryz.prog n_laws_szReplica = some ([.tmp 4], 12) := by kernel_rfl
-- 118 loop.example/g00850/laws.szOp
abbrev n_laws_szOp : Nat := 118
def c_laws_szOp : AS :=
 .seq (.ops [o 2 (.box (t 0)),
 o 4 (.mv (k 0))])
 (.seq (.ops [m 5 1,
 o 6 (.fa 1 (t 2)),
 o 7 (.load none (t 6)),
 o 8 (.lent (t 7)),
 o 9 (.bin .sub (t 5) (t 8)),
 m 1 9])
 (.seq (.seq (.ops [m 10 1,
 o 11 (.bin .lss (t 10) (k 0))])
 (.cond (t 11) (.seq (.ops [o 4 (.mv (k (-1)))])
 (.ret)) (.skip)))
 (.seq (.ops [m 12 1,
 o 13 (.fa 2 (t 2)),
 o 14 (.load none (t 13)),
 o 15 (.lent (t 14)),
 o 16 (.bin .sub (t 12) (t 15)),
 m 1 16])
 (.seq (.seq (.ops [m 17 1,
 o 18 (.bin .lss (t 17) (k 0))])
 (.cond (t 18) (.seq (.ops [o 4 (.mv (k (-1)))])
 (.ret)) (.skip)))
 (.seq (.ops [m 19 1,
 m 4 19])
 (.ret))))))
theorem h_laws_szOp : hF Tryz.prog n_laws_szOp = some c_laws_szOp.strip := by kernel_rfl
theorem r_laws_szOp : rF Tryz.prog n_laws_szOp = some ([.tmp 4], 20) := by kernel_rfl
-- 119 loop.example/g00850/laws.szGot
abbrev n_laws_szGot : Nat := 119
def c_laws_szGot : AS :=
 .seq (.ops [o 2 (.box (t 0)),
 o 4 (.mv (k 0))])
 (.seq (.ops [m 5 1,
 o 6 (.fa 0 (t 2)),
 o 7 (.load none (t 6)),
 o 8 (.lent (t 7)),
 o 9 (.bin .sub (t 5) (t 8)),
 m 1 9])
 (.seq (.seq (.ops [m 10 1,
 o 11 (.bin .lss (t 10) (k 0))])
 (.cond (t 11) (.seq (.ops [o 4 (.mv (k (-1)))])
 (.ret)) (.skip)))
 (.seq (.ops [m 12 1,
 o 13 (.fa 1 (t 2)),
 o 14 (.load none (t 13)),
 o 15 (.lent (t 14)),
 o 16 (.bin .sub (t 12) (t 15)),
 m 1 16])
 (.seq (.seq (.ops [m 17 1,
 o 18 (.bin .lss (t 17) (k 0))])
 (.cond (t 18) (.seq (.ops [o 4 (.mv (k (-1)))])
 (.ret)) (.skip)))
 (.seq (.ops [m 19 1,
 m 4 19])
 (.ret))))))
theorem h_laws_szGot : hF Tryz.prog n_laws_szGot = some c_laws_szGot.strip := by kernel_rfl
theorem r_laws_szGot : rF Tryz.prog n_laws_szGot = some ([.tmp 4], 20) := by kernel_rfl

end Go.Proofs.Wb

import Derived.Test.YtoelnhjecaellaaGreatDoorProg
import Derived.Test.YtoelnhjecaellaaGreatDoorAmAuto
import Derived.Test.YtoelnhjecaellaaGreatDoorAmRaw
namespace Go.Proofs.Wb
open Go Go.Am Go.Am.K
@[go_sem] theorem w_7 : wide Tryz.prog 7 = some (some 4) := by kernel_rfl
@[go_sem] theorem w_8 : wide Tryz.prog 8 = some (some 4) := by kernel_rfl
@[go_sem] theorem w_13 : wide Tryz.prog 13 = some (some 2) := by kernel_rfl
@[go_sem] theorem w_14 : wide Tryz.prog 14 = some (some 2) := by kernel_rfl
@[go_sem] theorem w_18 : wide Tryz.prog 18 = some (some 1) := by kernel_rfl
@[go_sem] theorem w_19 : wide Tryz.prog 19 = some (some 1) := by kernel_rfl
@[go_sem] theorem w_37 : wide Tryz.prog 37 = some (some 8) := by kernel_rfl
@[go_sem] theorem w_38 : wide Tryz.prog 38 = some (some 8) := by kernel_rfl
@[go_sem] theorem w_44 : wide Tryz.prog 44 = some (some 8) := by kernel_rfl
@[go_sem] theorem w_45 : wide Tryz.prog 45 = some (some 8) := by kernel_rfl
@[go_sem] theorem w_49 : wide Tryz.prog 49 = some (some 3) := by kernel_rfl
@[go_sem] theorem w_50 : wide Tryz.prog 50 = some (some 3) := by kernel_rfl
@[go_sem] theorem w_68 : wide Tryz.prog 68 = some (some 3) := by kernel_rfl
@[go_sem] theorem w_69 : wide Tryz.prog 69 = some (some 3) := by kernel_rfl
@[go_sem] theorem w_75 : wide Tryz.prog 75 = some (some 3) := by kernel_rfl
@[go_sem] theorem w_76 : wide Tryz.prog 76 = some (some 3) := by kernel_rfl
@[go_sem] theorem w_78 : wide Tryz.prog 78 = some (some 3) := by kernel_rfl
@[go_sem] theorem w_80 : wide Tryz.prog 80 = some (some 3) := by kernel_rfl
@[go_sem] theorem w_114 : wide Tryz.prog 114 = some (some 24) := by kernel_rfl
@[go_sem] theorem w_128 : wide Tryz.prog 128 = some (some 20) := by kernel_rfl
@[go_sem] theorem w_130 : wide Tryz.prog 130 = some (some 65) := by kernel_rfl
@[go_sem] theorem w_135 : wide Tryz.prog 135 = some (some 32) := by kernel_rfl
@[go_sem] theorem w_136 : wide Tryz.prog 136 = some (some 64) := by kernel_rfl
@[go_sem] theorem w_138 : wide Tryz.prog 138 = some (some 4) := by kernel_rfl
@[go_sem] theorem w_139 : wide Tryz.prog 139 = some (some 4) := by kernel_rfl
@[go_sem] theorem w_150 : wide Tryz.prog 150 = some (some 11) := by kernel_rfl
@[go_sem] theorem w_151 : wide Tryz.prog 151 = some (some 11) := by kernel_rfl
abbrev n_laws_FnExactFindOrder : Nat := 3
def c_laws_FnExactFindOrder : AS :=
 .seq (.ops [o 2 (.mv ff)])
 (.seq (.ops [o 3 (.mv (k 1048576))])
 (.seq (.ops [m 17 0,
 m 18 3,
 (o 19 (.call 4 [(t 17), (t 18)])),
 m 3 19])
 (.seq (.seq (.ops [m 20 3,
 (o 21 (.bin .lss (t 20) (k 0)))])
 (.cond (t 21) (.seq (.ops [o 2 (.mv tt)])
 (.ret)) (.skip)))
 (.seq (.ops [m 23 0,
 (o 24 (.call 6 [(t 23)])),
 (o 25 (.call 5 [(t 24)])),
 m 22 25,
 (o 26 (.ext 0 (t 22))),
 (o 27 (.ext 1 (t 22))),
 (o 28 (.ext 2 (t 22))),
 m 4 26,
 m 5 27,
 m 6 28])
 (.kept [0, 4, 5, 6] (.seq (.ops [m 29 0,
 (o 30 (.call 6 [(t 29)])),
 m 7 30])
 (.seq (.ops [m 32 7,
 (o 33 (.call 7 [(t 32)])),
 m 31 33,
 (o 34 (.ext 0 (t 31))),
 (o 35 (.ext 1 (t 31))),
 (o 36 (.ext 2 (t 31))),
 m 8 34,
 m 9 35,
 m 10 36])
 (.kept [0, 4, 5, 6, 7, 8, 9, 10] (.seq (.seq (.ops [m 37 8,
 m 38 4,
 (o 39 (.call 8 [(t 37), (t 38)])),
 (o 40 (.not (t 39))),
 m 41 40,
 mg 42 41 false 9,
 mg 43 41 false 5,
 (g 44 41 false (.eqb true (t 42) (t 43))),
 (o 45 (.pick (t 41) tt (t 44))),
 m 46 45,
 mg 47 46 false 10,
 mg 48 46 false 6,
 (g 49 46 false (.eqb true (t 47) (t 48))),
 (o 50 (.pick (t 46) tt (t 49)))])
 (.kept [0, 4, 5, 6, 7, 8, 9, 10, 50] (.cond (t 50) (.seq (.ops [o 2 (.mv ff)])
 (.ret)) (.skip))))
 (.kept [0, 4, 5, 6, 7, 8, 9, 10] (.seq (.seq (.ops [m 51 7,
 m 52 0,
 (o 53 (.call 6 [(t 52)])),
 (o 54 (.call 9 [(t 51), (t 53)])),
 (o 55 (.not (t 54)))])
 (.cond (t 55) (.seq (.ops [o 2 (.mv ff)])
 (.ret)) (.skip)))
 (.kept [0, 4, 5, 6, 7, 8, 9, 10] (.seq (.ops [o 11 (.mv (k 1))])
 (.seq (.ops [m 56 7,
 m 57 11,
 (o 58 (.call 10 [(t 56), (t 57)])),
 m 11 58])
 (.seq (.seq (.ops [m 59 11,
 (o 60 (.bin .lss (t 59) (k 0))),
 m 61 60,
 mg 62 61 false 8,
 mg 63 61 false 4,
 (g 64 61 false (.call 8 [(t 62), (t 63)])),
 (g 65 61 false (.not (t 64))),
 (o 66 (.pick (t 61) tt (t 65))),
 m 67 66,
 mg 68 67 false 9,
 mg 69 67 false 5,
 (g 70 67 false (.eqb true (t 68) (t 69))),
 (o 71 (.pick (t 67) tt (t 70))),
 m 72 71,
 mg 73 72 false 10,
 mg 74 72 false 6,
 (g 75 72 false (.eqb true (t 73) (t 74))),
 (o 76 (.pick (t 72) tt (t 75)))])
 (.kept [0, 4, 5, 6, 8, 76] (.cond (t 76) (.seq (.ops [o 2 (.mv ff)])
 (.ret)) (.skip))))
 (.kept [0, 4, 5, 6, 8] (.seq (.ops [o 12 (.mv (k 1))])
 (.seq (.ops [m 77 8,
 m 78 12,
 (o 79 (.call 11 [(t 77), (t 78)])),
 m 12 79])
 (.seq (.ops [o 13 (.mv (k 1))])
 (.seq (.ops [m 80 8,
 m 81 13,
 (o 82 (.call 12 [(t 80), (t 81)])),
 m 13 82])
 (.seq (.seq (.ops [m 83 13,
 (o 84 (.bin .lss (t 83) (k 0)))])
 (.cond (t 84) (.seq (.ops [o 2 (.mv ff)])
 (.ret)) (.skip)))
 (.seq (.seq (.ops [m 85 13,
 m 86 12,
 (o 87 (.bin .neq (t 85) (t 86)))])
 (.cond (t 87) (.seq (.ops [o 2 (.mv ff)])
 (.ret)) (.skip)))
 (.seq (.ops [m 89 0,
 (o 90 (.call 6 [(t 89)])),
 (o 91 (.call 7 [(t 90)])),
 m 88 91,
 (o 92 (.ext 0 (t 88))),
 (o 93 (.ext 1 (t 88))),
 (o 94 (.ext 2 (t 88))),
 m 14 92,
 m 15 93,
 m 16 94])
 (.kept [4, 5, 6, 8, 12, 14, 15, 16] (.seq (.seq (.ops [m 95 14,
 m 96 4,
 (o 97 (.call 8 [(t 95), (t 96)])),
 (o 98 (.not (t 97))),
 m 99 98,
 mg 100 99 false 15,
 mg 101 99 false 5,
 (g 102 99 false (.eqb true (t 100) (t 101))),
 (o 103 (.pick (t 99) tt (t 102))),
 m 104 103,
 mg 105 104 false 16,
 mg 106 104 false 6,
 (g 107 104 false (.eqb true (t 105) (t 106))),
 (o 108 (.pick (t 104) tt (t 107)))])
 (.kept [8, 12, 108] (.cond (t 108) (.seq (.ops [o 2 (.mv ff)])
 (.ret)) (.skip))))
 (.kept [8, 12] (.seq (.ops [o 13 (.mv (k 1))])
 (.seq (.ops [m 109 8,
 m 110 13,
 (o 111 (.call 12 [(t 109), (t 110)])),
 m 13 111])
 (.seq (.seq (.ops [m 112 13,
 (o 113 (.bin .lss (t 112) (k 0)))])
 (.cond (t 113) (.seq (.ops [o 2 (.mv ff)])
 (.ret)) (.skip)))
 (.seq (.seq (.ops [m 114 13,
 m 115 12,
 (o 116 (.bin .neq (t 114) (t 115)))])
 (.cond (t 116) (.seq (.ops [o 2 (.mv ff)])
 (.ret)) (.skip)))
 (.seq (.ops [o 2 (.mv tt)])
 (.ret))))))))))))))))))))))))))))))))
theorem h_laws_FnExactFindOrder : hF Tryz.prog n_laws_FnExactFindOrder = some c_laws_FnExactFindOrder.strip := by kernel_rfl
theorem r_laws_FnExactFindOrder : rF Tryz.prog n_laws_FnExactFindOrder = some ([.tmp 2], 117) := by kernel_rfl
abbrev n_laws_szDeedS : Nat := 4
def c_laws_szDeedS_l1 : AS :=
 .seq (.seq (.ops [m 12 5,
 m 13 0,
 (o 14 (.lens (t 13))),
 (o 15 (.bin .lss (t 12) (t 14)))])
 (.cond (t 15) (.skip) (.exit 0)))
 (.seq (.block 1 (.seq (.post [(20, 1, [(6, 3), (7, 3)])] (.ops [m 18 0,
 m 19 5,
 (o 20 (.ia 8 (t 18) (t 19))),
 (o 21 (.load (some 8) (t 20))),
 m 22 1,
 (o 23 (.call 13 [(t 21), (t 22)])),
 m 1 23]))
 (.kept [0, 1, 5] (.seq (.ops [m 24 1,
 (o 25 (.bin .lss (t 24) (k 0)))])
 (.cond (t 25) (.seq (.ops [o 4 (.mv (k (-1)))])
 (.ret)) (.skip))))))
 (.kept [0, 1, 5] (.ops [m 16 5,
 (o 17 (.bin .add (t 16) (k 1))),
 m 5 17])))
def c_laws_szDeedS : AS :=
 .seq (.ops [o 4 (.mv (k 0))])
 (.seq (.ops [m 6 1,
 m 7 0,
 (o 8 (.lens (t 7))),
 (o 9 (.bin .sub (t 6) (t 8))),
 m 1 9])
 (.seq (.seq (.ops [m 10 1,
 (o 11 (.bin .lss (t 10) (k 0)))])
 (.cond (t 11) (.seq (.ops [o 4 (.mv (k (-1)))])
 (.ret)) (.skip)))
 (.seq (.seq (.ops [o 5 (.mv (k 0))])
 (.block 0 (.loop 2 [(0, 0), (1, 0), (5, 0)] c_laws_szDeedS_l1)))
 (.kept [1] (.seq (.ops [m 26 1,
 m 4 26])
 (.ret))))))
theorem h_laws_szDeedS : hF Tryz.prog n_laws_szDeedS = some c_laws_szDeedS.strip := by kernel_rfl
theorem r_laws_szDeedS : rF Tryz.prog n_laws_szDeedS = some ([.tmp 4], 27) := by kernel_rfl
abbrev n_spec_FindOrder : Nat := 5
def c_spec_FindOrder : AS :=
 .seq (.ops [o 2 (.mv (.const (.slice none 0 0))),
 (o 3 (.mv ff)),
 (o 4 (.mv ff))])
 (.seq (.seq (.ops [m 7 0,
 (o 8 (.call 14 [(t 7)])),
 (o 9 (.not (t 8)))])
 (.cond (t 9) (.seq (.ops [o 2 (.mv (.const (.slice none 0 0))),
 (o 3 (.mv ff)),
 (o 4 (.mv ff))])
 (.ret)) (.skip)))
 (.kept [0] (.seq (.ops [m 11 0,
 (o 12 (.call 15 [(t 11), (.const (.slice none 0 0)), (.const (.slice none 0 0))])),
 m 10 12,
 (o 13 (.ext 0 (t 10))),
 (o 14 (.ext 1 (t 10))),
 m 5 13,
 m 6 14])
 (.seq (.ops [m 15 5,
 m 16 6,
 m 2 15,
 m 3 16,
 (o 4 (.mv tt))])
 (.ret)))))
theorem h_spec_FindOrder : hF Tryz.prog n_spec_FindOrder = some c_spec_FindOrder.strip := by kernel_rfl
theorem r_spec_FindOrder : rF Tryz.prog n_spec_FindOrder = some ([.tmp 2, .tmp 3, .tmp 4], 17) := by kernel_rfl
abbrev n_laws_toDeedS : Nat := 6
def c_laws_toDeedS_l1 : AS :=
 .seq (.seq (.ops [m 8 4,
 m 9 0,
 (o 10 (.lens (t 9))),
 (o 11 (.bin .lss (t 8) (t 10)))])
 (.cond (t 11) (.skip) (.exit 0)))
 (.seq (.block 1 (.post [(21, 1, [(6, 3), (7, 3)]), (18, 1, [(6, 3), (7, 3)])] (.ops [m 14 3,
 m 15 4,
 m 16 0,
 m 17 4,
 (o 18 (.ia 8 (t 16) (t 17))),
 (o 19 (.load (some 8) (t 18))),
 (o 20 (.call 16 [(t 19)])),
 (o 21 (.ia 8 (t 14) (t 15))),
 (u (.store 8 (t 21) (t 20)))])))
 (.kept [0, 3, 4] (.ops [m 12 4,
 (o 13 (.bin .add (t 12) (k 1))),
 m 4 13])))
def c_laws_toDeedS : AS :=
 .seq (.ops [o 2 (.mv (.const (.slice none 0 0)))])
 (.seq (.ops [m 5 0,
 (o 6 (.lens (t 5))),
 (o 7 (.mks 8 88 (.agg #[.int .i64 0, .int .i64 0, .int .i64 0, .bool false, .bool false, .int .i64 0, .slice none 0 0, .slice none 0 0]) (t 6) (t 6))),
 m 3 7])
 (.seq (.seq (.ops [o 4 (.mv (k 0))])
 (.block 0 (.loop 1 [(0, 0), (3, 0), (4, 0)] c_laws_toDeedS_l1)))
 (.kept [3] (.seq (.ops [m 22 3,
 m 2 22])
 (.ret)))))
theorem h_laws_toDeedS : hF Tryz.prog n_laws_toDeedS = some c_laws_toDeedS.strip := by kernel_rfl
theorem r_laws_toDeedS : rF Tryz.prog n_laws_toDeedS = some ([.tmp 2], 23) := by kernel_rfl
abbrev n_impl_FindOrder : Nat := 7
abbrev n_laws_eqIntS : Nat := 8
def c_laws_eqIntS_l1 : AS :=
 .seq (.seq (.ops [m 11 5,
 m 12 0,
 (o 13 (.lens (t 12))),
 (o 14 (.bin .lss (t 11) (t 13)))])
 (.cond (t 14) (.skip) (.exit 0)))
 (.seq (.block 1 (.seq (.dops [m 17 0,
 m 18 5,
 (o 19 (.ia 1 (t 17) (t 18))),
 (o 20 (.load none (t 19))),
 m 21 1,
 m 22 5,
 (o 23 (.ia 1 (t 21) (t 22))),
 (o 24 (.load none (t 23))),
 (o 25 (.bin .neq (t 20) (t 24)))])
 (.kept [0, 1, 5, 25] (.cond (t 25) (.seq (.ops [o 4 (.mv ff)])
 (.ret)) (.skip)))))
 (.kept [0, 1, 5] (.ops [m 15 5,
 (o 16 (.bin .add (t 15) (k 1))),
 m 5 16])))
def c_laws_eqIntS : AS :=
 .seq (.ops [o 4 (.mv ff)])
 (.seq (.seq (.ops [m 6 0,
 (o 7 (.lens (t 6))),
 m 8 1,
 (o 9 (.lens (t 8))),
 (o 10 (.bin .neq (t 7) (t 9)))])
 (.cond (t 10) (.seq (.ops [o 4 (.mv ff)])
 (.ret)) (.skip)))
 (.kept [0, 1] (.seq (.seq (.ops [o 5 (.mv (k 0))])
 (.block 0 (.loop 2 [(0, 0), (1, 0), (5, 0)] c_laws_eqIntS_l1)))
 (.kept [] (.seq (.ops [o 4 (.mv tt)])
 (.ret))))))
theorem h_laws_eqIntS : hF Tryz.prog n_laws_eqIntS = some c_laws_eqIntS.strip := by kernel_rfl
theorem r_laws_eqIntS : rF Tryz.prog n_laws_eqIntS = some ([.tmp 4], 26) := by kernel_rfl
abbrev n_laws_eqDeedS : Nat := 9
def c_laws_eqDeedS_l1 : AS :=
 .seq (.seq (.ops [m 11 5,
 m 12 0,
 (o 13 (.lens (t 12))),
 (o 14 (.bin .lss (t 11) (t 13)))])
 (.cond (t 14) (.skip) (.exit 0)))
 (.seq (.block 1 (.seq (.post [(23, 1, [(6, 3), (7, 3)]), (19, 1, [(6, 3), (7, 3)])] (.rops [(none, m 17 0),
 (none, m 18 5),
 (none, o 19 (.ia 8 (t 17) (t 18))),
 (none, o 20 (.load (some 8) (t 19))),
 (none, m 21 1),
 (none, m 22 5),
 (none, o 23 (.ia 8 (t 21) (t 22))),
 (none, o 24 (.load (some 8) (t 23))),
 (some [], o 25 (.call 20 [(t 20), (t 24)])),
 (none, o 26 (.not (t 25)))]))
 (.kept [0, 1, 5, 26] (.cond (t 26) (.seq (.ops [o 4 (.mv ff)])
 (.ret)) (.skip)))))
 (.kept [0, 1, 5] (.ops [m 15 5,
 (o 16 (.bin .add (t 15) (k 1))),
 m 5 16])))
def c_laws_eqDeedS : AS :=
 .seq (.ops [o 4 (.mv ff)])
 (.seq (.seq (.ops [m 6 0,
 (o 7 (.lens (t 6))),
 m 8 1,
 (o 9 (.lens (t 8))),
 (o 10 (.bin .neq (t 7) (t 9)))])
 (.cond (t 10) (.seq (.ops [o 4 (.mv ff)])
 (.ret)) (.skip)))
 (.kept [0, 1] (.seq (.seq (.ops [o 5 (.mv (k 0))])
 (.block 0 (.loop 2 [(0, 0), (1, 0), (5, 0)] c_laws_eqDeedS_l1)))
 (.kept [] (.seq (.ops [o 4 (.mv tt)])
 (.ret))))))
theorem h_laws_eqDeedS : hF Tryz.prog n_laws_eqDeedS = some c_laws_eqDeedS.strip := by kernel_rfl
theorem r_laws_eqDeedS : rF Tryz.prog n_laws_eqDeedS = some ([.tmp 4], 27) := by kernel_rfl
abbrev n_laws_markDeedS : Nat := 10
def c_laws_markDeedS_l1 : AS :=
 .seq (.seq (.ops [m 6 5,
 m 7 0,
 (o 8 (.lens (t 7))),
 (o 9 (.bin .lss (t 6) (t 8)))])
 (.cond (t 9) (.skip) (.exit 0)))
 (.seq (.block 1 (.seq (.ops [m 12 0,
 m 13 5,
 m 14 1,
 (o 15 (.ia 8 (t 12) (t 13))),
 (o 16 (.fa 0 (t 15))),
 (u (.store 1 (t 16) (t 14)))])
 (.seq (.ops [m 17 1,
 (o 18 (.bin .add (t 17) (k 1))),
 m 1 18])
 (.seq (.ops [m 19 0,
 m 20 5,
 m 21 1,
 (o 22 (.ia 8 (t 19) (t 20))),
 (o 23 (.fa 1 (t 22))),
 (u (.store 1 (t 23) (t 21)))])
 (.seq (.ops [m 24 1,
 (o 25 (.bin .add (t 24) (k 1))),
 m 1 25])
 (.seq (.ops [m 26 0,
 m 27 5,
 m 28 1,
 (o 29 (.ia 8 (t 26) (t 27))),
 (o 30 (.fa 2 (t 29))),
 (u (.store 1 (t 30) (t 28)))])
 (.seq (.ops [m 31 1,
 (o 32 (.bin .add (t 31) (k 1))),
 m 1 32])
 (.seq (.ops [m 33 0,
 m 34 5,
 m 35 1,
 (o 36 (.bin .rem (t 35) (k 3))),
 (o 37 (.bin .eql (t 36) (k 0))),
 (o 38 (.ia 8 (t 33) (t 34))),
 (o 39 (.fa 3 (t 38))),
 (u (.store 1 (t 39) (t 37)))])
 (.kept [0, 1, 5] (.seq (.ops [m 40 1,
 (o 41 (.bin .add (t 40) (k 1))),
 m 1 41])
 (.seq (.ops [m 42 0,
 m 43 5,
 m 44 1,
 (o 45 (.bin .rem (t 44) (k 3))),
 (o 46 (.bin .eql (t 45) (k 0))),
 (o 47 (.ia 8 (t 42) (t 43))),
 (o 48 (.fa 4 (t 47))),
 (u (.store 1 (t 48) (t 46)))])
 (.kept [0, 1, 5] (.seq (.ops [m 49 1,
 (o 50 (.bin .add (t 49) (k 1))),
 m 1 50])
 (.seq (.ops [m 51 0,
 m 52 5,
 m 53 1,
 (o 54 (.ia 8 (t 51) (t 52))),
 (o 55 (.fa 5 (t 54))),
 (u (.store 1 (t 55) (t 53)))])
 (.seq (.ops [m 56 1,
 (o 57 (.bin .add (t 56) (k 1))),
 m 1 57])
 (.seq (.post [(60, 1, [(6, 3), (7, 3)])] (.ops [m 58 0,
 m 59 5,
 (o 60 (.ia 8 (t 58) (t 59))),
 (o 61 (.fa 6 (t 60))),
 (o 62 (.load none (t 61))),
 m 63 1,
 (o 64 (.call 21 [(t 62), (t 63)])),
 m 1 64]))
 (.kept [0, 1, 5] (.post [(67, 1, [(6, 3), (7, 3)])] (.ops [m 65 0,
 m 66 5,
 (o 67 (.ia 8 (t 65) (t 66))),
 (o 68 (.fa 7 (t 67))),
 (o 69 (.load none (t 68))),
 m 70 1,
 (o 71 (.call 22 [(t 69), (t 70)])),
 m 1 71])))))))))))))))))))
 (.kept [0, 1, 5] (.ops [m 10 5,
 (o 11 (.bin .add (t 10) (k 1))),
 m 5 11])))
def c_laws_markDeedS : AS :=
 .seq (.ops [o 4 (.mv (k 0))])
 (.seq (.seq (.ops [o 5 (.mv (k 0))])
 (.block 0 (.loop 2 [(0, 0), (1, 0), (5, 0)] c_laws_markDeedS_l1)))
 (.kept [1] (.seq (.ops [m 72 1,
 m 4 72])
 (.ret))))
theorem h_laws_markDeedS : hF Tryz.prog n_laws_markDeedS = some c_laws_markDeedS.strip := by kernel_rfl
theorem r_laws_markDeedS : rF Tryz.prog n_laws_markDeedS = some ([.tmp 4], 73) := by kernel_rfl
abbrev n_laws_markIntS : Nat := 11
def c_laws_markIntS_l1 : AS :=
 .seq (.seq (.ops [m 6 5,
 m 7 0,
 (o 8 (.lens (t 7))),
 (o 9 (.bin .lss (t 6) (t 8)))])
 (.cond (t 9) (.skip) (.exit 0)))
 (.seq (.block 1 (.seq (.ops [m 12 0,
 m 13 5,
 m 14 1,
 (o 15 (.ia 1 (t 12) (t 13))),
 (u (.store 1 (t 15) (t 14)))])
 (.ops [m 16 1,
 (o 17 (.bin .add (t 16) (k 1))),
 m 1 17])))
 (.kept [0, 1, 5] (.ops [m 10 5,
 (o 11 (.bin .add (t 10) (k 1))),
 m 5 11])))
def c_laws_markIntS : AS :=
 .seq (.ops [o 4 (.mv (k 0))])
 (.seq (.seq (.ops [o 5 (.mv (k 0))])
 (.block 0 (.loop 2 [(0, 0), (1, 0), (5, 0)] c_laws_markIntS_l1)))
 (.kept [1] (.seq (.ops [m 18 1,
 m 4 18])
 (.ret))))
theorem h_laws_markIntS : hF Tryz.prog n_laws_markIntS = some c_laws_markIntS.strip := by kernel_rfl
theorem r_laws_markIntS : rF Tryz.prog n_laws_markIntS = some ([.tmp 4], 19) := by kernel_rfl
abbrev n_laws_heldIntS : Nat := 12
def c_laws_heldIntS_l1 : AS :=
 .seq (.seq (.ops [m 6 5,
 m 7 0,
 (o 8 (.lens (t 7))),
 (o 9 (.bin .lss (t 6) (t 8)))])
 (.cond (t 9) (.skip) (.exit 0)))
 (.seq (.block 1 (.seq (.seq (.ops [m 12 0,
 m 13 5,
 (o 14 (.ia 1 (t 12) (t 13))),
 (o 15 (.load none (t 14))),
 m 16 1,
 (o 17 (.bin .neq (t 15) (t 16)))])
 (.cond (t 17) (.seq (.ops [o 4 (.mv (k (-1)))])
 (.ret)) (.skip)))
 (.kept [0, 1, 5] (.ops [m 18 1,
 (o 19 (.bin .add (t 18) (k 1))),
 m 1 19]))))
 (.kept [0, 1, 5] (.ops [m 10 5,
 (o 11 (.bin .add (t 10) (k 1))),
 m 5 11])))
def c_laws_heldIntS : AS :=
 .seq (.ops [o 4 (.mv (k 0))])
 (.seq (.seq (.ops [o 5 (.mv (k 0))])
 (.block 0 (.loop 2 [(0, 0), (1, 0), (5, 0)] c_laws_heldIntS_l1)))
 (.kept [1] (.seq (.ops [m 20 1,
 m 4 20])
 (.ret))))
theorem h_laws_heldIntS : hF Tryz.prog n_laws_heldIntS = some c_laws_heldIntS.strip := by kernel_rfl
theorem r_laws_heldIntS : rF Tryz.prog n_laws_heldIntS = some ([.tmp 4], 21) := by kernel_rfl
abbrev n_laws_szDeed : Nat := 13
def c_laws_szDeed : AS :=
 .seq (.ops [o 2 (.box (t 0)),
 (o 4 (.mv (k 0)))])
 (.seq (.ops [o 5 (.fa 6 (t 2)),
 (o 6 (.load none (t 5))),
 m 7 1,
 (o 8 (.call 23 [(t 6), (t 7)])),
 m 1 8])
 (.seq (.seq (.ops [m 9 1,
 (o 10 (.bin .lss (t 9) (k 0)))])
 (.cond (t 10) (.seq (.ops [o 4 (.mv (k (-1)))])
 (.ret)) (.skip)))
 (.seq (.ops [o 11 (.fa 7 (t 2)),
 (o 12 (.load none (t 11))),
 m 13 1,
 (o 14 (.call 24 [(t 12), (t 13)])),
 m 1 14])
 (.seq (.seq (.ops [m 15 1,
 (o 16 (.bin .lss (t 15) (k 0)))])
 (.cond (t 16) (.seq (.ops [o 4 (.mv (k (-1)))])
 (.ret)) (.skip)))
 (.seq (.ops [m 17 1,
 m 4 17])
 (.ret))))))
theorem h_laws_szDeed : hF Tryz.prog n_laws_szDeed = some c_laws_szDeed.strip := by kernel_rfl
theorem r_laws_szDeed : rF Tryz.prog n_laws_szDeed = some ([.tmp 4], 18) := by kernel_rfl
abbrev n_spec_l18Good : Nat := 14
def c_spec_l18Good_l1 : AS :=
 .seq (.ops [o 8 (.bin .lss (t 7) (t 6))])
 (.seq (.cond (t 8) (.skip) (.exit 0))
 (.seq (.block 1 (.seq (.post [(9, 1, [(6, 3), (7, 3)])] (.ops [o 9 (.ia 8 (t 5) (t 7)),
 (o 10 (.load (some 8) (t 9))),
 (o 4 (.alloc (.agg #[.int .i64 0, .int .i64 0, .int .i64 0, .bool false, .bool false, .int .i64 0, .slice none 0 0, .slice none 0 0]))),
 (u (.store 8 (t 4) (t 10)))]))
 (.seq (.ops [o 11 (.load (some 8) (t 4)),
 (o 12 (.call 25 [(t 11)])),
 (o 13 (.not (t 12)))])
 (.cond (t 13) (.seq (.ops [o 2 (.mv ff)])
 (.ret)) (.skip)))))
 (.kept [0, 5, 6, 7] (.ops [o 14 (.bin .add (t 7) (k 1)),
 m 7 14]))))
def c_spec_l18Good : AS :=
 .seq (.ops [o 2 (.mv ff)])
 (.seq (.seq (.ops [m 5 0,
 (o 6 (.lens (t 5))),
 (o 7 (.mv (k 0)))])
 (.block 0 (.loop 1 [(0, 0), (5, 0), (6, 0), (7, 0)] c_spec_l18Good_l1)))
 (.kept [0] (.seq (.ops [m 15 0,
 (o 16 (.lens (t 15))),
 (o 17 (.bin .leq (t 16) (k 10))),
 m 2 17])
 (.ret))))
theorem h_spec_l18Good : hF Tryz.prog n_spec_l18Good = some c_spec_l18Good.strip := by kernel_rfl
theorem r_spec_l18Good : rF Tryz.prog n_spec_l18Good = some ([.tmp 2], 18) := by kernel_rfl
abbrev n_spec_l18Find : Nat := 15
def c_spec_l18Find_l1 : AS :=
 .seq (.ops [o 21 (.bin .lss (t 20) (t 19))])
 (.seq (.cond (t 21) (.skip) (.exit 0))
 (.seq (.block 1 (.seq (.ops [m 22 20,
 m 8 22])
 (.seq (.seq (.post [(32, 1, [(6, 3), (7, 3)])] (.ops [m 23 0,
 m 24 1,
 m 25 8,
 (o 26 (.call 27 [(t 23), (t 24), (t 25)])),
 (o 27 (.not (t 26))),
 m 28 27,
 mg 29 28 false 2,
 mg 30 28 false 0,
 mg 31 28 false 8,
 (g 32 28 false (.ia 8 (t 30) (t 31))),
 (g 33 28 false (.load (some 8) (t 32))),
 (g 34 28 false (.call 28 [(t 29), (t 33)])),
 (g 35 28 false (.not (t 34))),
 (o 36 (.pick (t 28) tt (t 35)))]))
 (.kept [0, 1, 2, 8, 19, 20, 36] (.cond (t 36) (.exit 1) (.skip))))
 (.kept [0, 1, 2, 8, 19, 20] (.seq (.post [(40, 1, [(6, 3), (7, 3)])] (.ops [m 37 2,
 m 38 0,
 m 39 8,
 (o 40 (.ia 8 (t 38) (t 39))),
 (o 41 (.fa 7 (t 40))),
 (o 42 (.load none (t 41))),
 (o 43 (.call 29 [(t 37), (t 42)])),
 m 9 43]))
 (.kept [0, 1, 2, 8, 9, 19, 20] (.seq (.seq (.ops [m 44 9,
 (o 45 (.call 30 [(t 44)])),
 (o 46 (.not (t 45)))])
 (.cond (t 46) (.exit 1) (.skip)))
 (.seq (.ops [m 48 0,
 m 49 1,
 (o 50 (.call 31 [(t 49)])),
 m 51 8,
 (o 52 (.bsl 1 (.int .i64 0) 1 [(0, (t 51))])),
 (o 53 (.app 1 8 (.int .i64 0) (t 50) (t 52))),
 m 54 9,
 (o 55 (.call 15 [(t 48), (t 53), (t 54)])),
 m 47 55,
 (o 56 (.ext 0 (t 47))),
 (o 57 (.ext 1 (t 47))),
 m 10 56,
 m 11 57])
 (.kept [0, 1, 2, 10, 11, 19, 20] (.seq (.ops [m 58 11])
 (.cond (t 58) (.seq (.ops [m 59 10,
 m 6 59,
 (o 7 (.mv tt))])
 (.ret)) (.skip))))))))))))
 (.kept [0, 1, 2, 19, 20] (.ops [o 60 (.bin .add (t 20) (k 1)),
 m 20 60]))))
def c_spec_l18Find : AS :=
 .seq (.ops [o 6 (.mv (.const (.slice none 0 0))),
 (o 7 (.mv ff))])
 (.seq (.seq (.ops [m 12 1,
 (o 13 (.lens (t 12))),
 m 14 0,
 (o 15 (.call 26 [(t 14)])),
 (o 16 (.bin .eql (t 13) (t 15)))])
 (.cond (t 16) (.seq (.ops [m 17 1,
 m 6 17,
 (o 7 (.mv tt))])
 (.ret)) (.skip)))
 (.kept [0, 1, 2] (.seq (.seq (.ops [m 18 0,
 (o 19 (.lens (t 18))),
 (o 20 (.mv (k 0)))])
 (.block 0 (.loop 3 [(0, 0), (1, 1), (2, 0), (19, 0), (20, 0)] c_spec_l18Find_l1)))
 (.kept [] (.seq (.ops [o 6 (.mv (.const (.slice none 0 0))),
 (o 7 (.mv ff))])
 (.ret))))))
theorem h_spec_l18Find : hF Tryz.prog n_spec_l18Find = some c_spec_l18Find.strip := by kernel_rfl
theorem r_spec_l18Find : rF Tryz.prog n_spec_l18Find = some ([.tmp 6, .tmp 7], 61) := by kernel_rfl
abbrev n_laws_toDeed : Nat := 16
def c_laws_toDeed : AS :=
 .seq (.ops [o 1 (.box (t 0)),
 (o 2 (.alloc (.agg #[.int .i64 0, .int .i64 0, .int .i64 0, .bool false, .bool false, .int .i64 0, .slice none 0 0, .slice none 0 0])))])
 (.seq (.ops [o 3 (.alloc (.agg #[.int .i64 0, .int .i64 0, .int .i64 0, .bool false, .bool false, .int .i64 0, .slice none 0 0, .slice none 0 0]))])
 (.seq (.ops [o 4 (.fa 0 (t 1)),
 (o 5 (.load none (t 4))),
 (o 6 (.fa 0 (t 3))),
 (u (.store 1 (t 6) (t 5)))])
 (.seq (.ops [o 7 (.fa 1 (t 1)),
 (o 8 (.load none (t 7))),
 (o 9 (.fa 1 (t 3))),
 (u (.store 1 (t 9) (t 8)))])
 (.seq (.ops [o 10 (.fa 2 (t 1)),
 (o 11 (.load none (t 10))),
 (o 12 (.fa 2 (t 3))),
 (u (.store 1 (t 12) (t 11)))])
 (.seq (.ops [o 13 (.fa 3 (t 1)),
 (o 14 (.load none (t 13))),
 (o 15 (.fa 3 (t 3))),
 (u (.store 1 (t 15) (t 14)))])
 (.seq (.ops [o 16 (.fa 4 (t 1)),
 (o 17 (.load none (t 16))),
 (o 18 (.fa 4 (t 3))),
 (u (.store 1 (t 18) (t 17)))])
 (.seq (.ops [o 19 (.fa 5 (t 1)),
 (o 20 (.load none (t 19))),
 (o 21 (.fa 5 (t 3))),
 (u (.store 1 (t 21) (t 20)))])
 (.seq (.ops [o 22 (.fa 6 (t 1)),
 (o 23 (.load none (t 22))),
 (o 24 (.call 32 [(t 23)])),
 (o 25 (.fa 6 (t 3))),
 (u (.store 1 (t 25) (t 24)))])
 (.seq (.ops [o 26 (.fa 7 (t 1)),
 (o 27 (.load none (t 26))),
 (o 28 (.call 33 [(t 27)])),
 (o 29 (.fa 7 (t 3))),
 (u (.store 1 (t 29) (t 28)))])
 (.seq (.ops [o 30 (.load (some 8) (t 3)),
 (u (.store 8 (t 2) (t 30)))])
 (.ret)))))))))))
theorem h_laws_toDeed : hF Tryz.prog n_laws_toDeed = some c_laws_toDeed.strip := by kernel_rfl
theorem r_laws_toDeed : rF Tryz.prog n_laws_toDeed = some ([.cell 2 45], 31) := by kernel_rfl
abbrev n_impl_GoodHistory : Nat := 17
def c_impl_GoodHistory : AS :=
 .seq (.ops [o 2 (.mv ff)])
 (.seq (.ops [m 3 0,
 (o 4 (.lens (t 3))),
 (o 5 (.bin .leq (t 4) (k 10))),
 m 6 5,
 mg 7 6 true 0,
 (g 8 6 true (.call 34 [(t 7), (.func 35)])),
 (g 9 6 true (.not (t 8))),
 (o 10 (.pick (t 6) (t 9) ff)),
 m 2 10])
 (.ret))
theorem h_impl_GoodHistory : hF Tryz.prog n_impl_GoodHistory = some c_impl_GoodHistory.strip := by kernel_rfl
theorem r_impl_GoodHistory : rF Tryz.prog n_impl_GoodHistory = some ([.tmp 2], 11) := by kernel_rfl
abbrev n_impl_committed : Nat := 18
def c_impl_committed_l1 : AS :=
 .seq (.ops [o 10 (.bin .lss (t 9) (t 8))])
 (.seq (.cond (t 10) (.skip) (.exit 0))
 (.seq (.block 1 (.seq (.post [(12, 1, [(6, 3), (7, 3)])] (.ops [m 11 9,
 (o 12 (.ia 8 (t 7) (t 9))),
 (o 13 (.load (some 8) (t 12))),
 (o 5 (.alloc (.agg #[.int .i64 0, .int .i64 0, .int .i64 0, .bool false, .bool false, .int .i64 0, .slice none 0 0, .slice none 0 0]))),
 m 4 11,
 (u (.store 8 (t 5) (t 13)))]))
 (.seq (.ops [o 14 (.fa 3 (t 5)),
 (o 15 (.load none (t 14)))])
 (.cond (t 15) (.ops [m 16 3,
 m 17 4,
 (o 18 (.bsl 1 (.int .i64 0) 1 [(0, (t 17))])),
 (o 19 (.app 1 8 (.int .i64 0) (t 16) (t 18))),
 m 3 19]) (.skip)))))
 (.kept [3, 7, 8, 9] (.ops [o 20 (.bin .add (t 9) (k 1)),
 m 9 20]))))
def c_impl_committed : AS :=
 .seq (.ops [o 2 (.mv (.const (.slice none 0 0)))])
 (.seq (.ops [o 6 (.bsl 1 (.int .i64 0) 0 []),
 m 3 6])
 (.seq (.seq (.ops [m 7 0,
 (o 8 (.lens (t 7))),
 (o 9 (.mv (k 0)))])
 (.block 0 (.loop 1 [(3, 1), (7, 0), (8, 0), (9, 0)] c_impl_committed_l1)))
 (.kept [3] (.seq (.ops [m 21 3,
 m 2 21])
 (.ret)))))
theorem h_impl_committed : hF Tryz.prog n_impl_committed = some c_impl_committed.strip := by kernel_rfl
theorem r_impl_committed : rF Tryz.prog n_impl_committed = some ([.tmp 2], 22) := by kernel_rfl
abbrev n_laws_eqDeed : Nat := 20
def c_laws_eqDeed : AS :=
 .seq (.ops [o 2 (.box (t 0)),
 (o 3 (.box (t 1))),
 (o 4 (.mv ff))])
 (.seq (.seq (.ops [o 5 (.fa 0 (t 2)),
 (o 6 (.load none (t 5))),
 (o 7 (.fa 0 (t 3))),
 (o 8 (.load none (t 7))),
 (o 9 (.bin .neq (t 6) (t 8)))])
 (.cond (t 9) (.seq (.ops [o 4 (.mv ff)])
 (.ret)) (.skip)))
 (.kept [2, 3] (.seq (.seq (.ops [o 10 (.fa 1 (t 2)),
 (o 11 (.load none (t 10))),
 (o 12 (.fa 1 (t 3))),
 (o 13 (.load none (t 12))),
 (o 14 (.bin .neq (t 11) (t 13)))])
 (.cond (t 14) (.seq (.ops [o 4 (.mv ff)])
 (.ret)) (.skip)))
 (.kept [2, 3] (.seq (.seq (.ops [o 15 (.fa 2 (t 2)),
 (o 16 (.load none (t 15))),
 (o 17 (.fa 2 (t 3))),
 (o 18 (.load none (t 17))),
 (o 19 (.bin .neq (t 16) (t 18)))])
 (.cond (t 19) (.seq (.ops [o 4 (.mv ff)])
 (.ret)) (.skip)))
 (.kept [2, 3] (.seq (.seq (.ops [o 20 (.fa 3 (t 2)),
 (o 21 (.load none (t 20))),
 (o 22 (.fa 3 (t 3))),
 (o 23 (.load none (t 22))),
 (o 24 (.eqb true (t 21) (t 23)))])
 (.cond (t 24) (.seq (.ops [o 4 (.mv ff)])
 (.ret)) (.skip)))
 (.kept [2, 3] (.seq (.seq (.ops [o 25 (.fa 4 (t 2)),
 (o 26 (.load none (t 25))),
 (o 27 (.fa 4 (t 3))),
 (o 28 (.load none (t 27))),
 (o 29 (.eqb true (t 26) (t 28)))])
 (.cond (t 29) (.seq (.ops [o 4 (.mv ff)])
 (.ret)) (.skip)))
 (.kept [2, 3] (.seq (.seq (.ops [o 30 (.fa 5 (t 2)),
 (o 31 (.load none (t 30))),
 (o 32 (.fa 5 (t 3))),
 (o 33 (.load none (t 32))),
 (o 34 (.bin .neq (t 31) (t 33)))])
 (.cond (t 34) (.seq (.ops [o 4 (.mv ff)])
 (.ret)) (.skip)))
 (.kept [2, 3] (.seq (.seq (.ops [o 35 (.fa 6 (t 2)),
 (o 36 (.load none (t 35))),
 (o 37 (.fa 6 (t 3))),
 (o 38 (.load none (t 37))),
 (o 39 (.call 41 [(t 36), (t 38)])),
 (o 40 (.not (t 39)))])
 (.cond (t 40) (.seq (.ops [o 4 (.mv ff)])
 (.ret)) (.skip)))
 (.kept [2, 3] (.seq (.seq (.ops [o 41 (.fa 7 (t 2)),
 (o 42 (.load none (t 41))),
 (o 43 (.fa 7 (t 3))),
 (o 44 (.load none (t 43))),
 (o 45 (.call 42 [(t 42), (t 44)])),
 (o 46 (.not (t 45)))])
 (.cond (t 46) (.seq (.ops [o 4 (.mv ff)])
 (.ret)) (.skip)))
 (.kept [] (.seq (.ops [o 4 (.mv tt)])
 (.ret))))))))))))))))))
theorem h_laws_eqDeed : hF Tryz.prog n_laws_eqDeed = some c_laws_eqDeed.strip := by kernel_rfl
theorem r_laws_eqDeed : rF Tryz.prog n_laws_eqDeed = some ([.tmp 4], 47) := by kernel_rfl
abbrev n_laws_markGotS : Nat := 21
def c_laws_markGotS_l1 : AS :=
 .seq (.seq (.ops [m 6 5,
 m 7 0,
 (o 8 (.lens (t 7))),
 (o 9 (.bin .lss (t 6) (t 8)))])
 (.cond (t 9) (.skip) (.exit 0)))
 (.seq (.block 1 (.seq (.ops [m 12 0,
 m 13 5,
 m 14 1,
 (o 15 (.call 43 [(t 14)])),
 (o 16 (.ia 3 (t 12) (t 13))),
 (o 17 (.fa 0 (t 16))),
 (u (.store 1 (t 17) (t 15)))])
 (.kept [0, 1, 5] (.seq (.ops [m 18 1,
 (o 19 (.bin .add (t 18) (k 1))),
 m 1 19])
 (.seq (.ops [m 20 0,
 m 21 5,
 m 22 1,
 (o 23 (.call 43 [(t 22)])),
 (o 24 (.ia 3 (t 20) (t 21))),
 (o 25 (.fa 1 (t 24))),
 (u (.store 1 (t 25) (t 23)))])
 (.kept [0, 1, 5] (.seq (.ops [m 26 1,
 (o 27 (.bin .add (t 26) (k 1))),
 m 1 27])
 (.seq (.ops [m 28 0,
 m 29 5,
 m 30 1,
 (o 31 (.bin .rem (t 30) (k 3))),
 (o 32 (.bin .eql (t 31) (k 0))),
 (o 33 (.ia 3 (t 28) (t 29))),
 (o 34 (.fa 2 (t 33))),
 (u (.store 1 (t 34) (t 32)))])
 (.kept [0, 1, 5] (.ops [m 35 1,
 (o 36 (.bin .add (t 35) (k 1))),
 m 1 36]))))))))))
 (.kept [0, 1, 5] (.ops [m 10 5,
 (o 11 (.bin .add (t 10) (k 1))),
 m 5 11])))
def c_laws_markGotS : AS :=
 .seq (.ops [o 4 (.mv (k 0))])
 (.seq (.seq (.ops [o 5 (.mv (k 0))])
 (.block 0 (.loop 2 [(0, 0), (1, 0), (5, 0)] c_laws_markGotS_l1)))
 (.kept [1] (.seq (.ops [m 37 1,
 m 4 37])
 (.ret))))
theorem h_laws_markGotS : hF Tryz.prog n_laws_markGotS = some c_laws_markGotS.strip := by kernel_rfl
theorem r_laws_markGotS : rF Tryz.prog n_laws_markGotS = some ([.tmp 4], 38) := by kernel_rfl
abbrev n_laws_markWriteS : Nat := 22
def c_laws_markWriteS_l1 : AS :=
 .seq (.seq (.ops [m 6 5,
 m 7 0,
 (o 8 (.lens (t 7))),
 (o 9 (.bin .lss (t 6) (t 8)))])
 (.cond (t 9) (.skip) (.exit 0)))
 (.seq (.block 1 (.seq (.ops [m 12 0,
 m 13 5,
 m 14 1,
 (o 15 (.call 43 [(t 14)])),
 (o 16 (.ia 3 (t 12) (t 13))),
 (o 17 (.fa 0 (t 16))),
 (u (.store 1 (t 17) (t 15)))])
 (.kept [0, 1, 5] (.seq (.ops [m 18 1,
 (o 19 (.bin .add (t 18) (k 1))),
 m 1 19])
 (.seq (.ops [m 20 0,
 m 21 5,
 m 22 1,
 (o 23 (.call 43 [(t 22)])),
 (o 24 (.ia 3 (t 20) (t 21))),
 (o 25 (.fa 1 (t 24))),
 (u (.store 1 (t 25) (t 23)))])
 (.kept [0, 1, 5] (.seq (.ops [m 26 1,
 (o 27 (.bin .add (t 26) (k 1))),
 m 1 27])
 (.seq (.ops [m 28 0,
 m 29 5,
 m 30 1,
 (o 31 (.bin .rem (t 30) (k 3))),
 (o 32 (.bin .eql (t 31) (k 0))),
 (o 33 (.ia 3 (t 28) (t 29))),
 (o 34 (.fa 2 (t 33))),
 (u (.store 1 (t 34) (t 32)))])
 (.kept [0, 1, 5] (.ops [m 35 1,
 (o 36 (.bin .add (t 35) (k 1))),
 m 1 36]))))))))))
 (.kept [0, 1, 5] (.ops [m 10 5,
 (o 11 (.bin .add (t 10) (k 1))),
 m 5 11])))
def c_laws_markWriteS : AS :=
 .seq (.ops [o 4 (.mv (k 0))])
 (.seq (.seq (.ops [o 5 (.mv (k 0))])
 (.block 0 (.loop 2 [(0, 0), (1, 0), (5, 0)] c_laws_markWriteS_l1)))
 (.kept [1] (.seq (.ops [m 37 1,
 m 4 37])
 (.ret))))
theorem h_laws_markWriteS : hF Tryz.prog n_laws_markWriteS = some c_laws_markWriteS.strip := by kernel_rfl
theorem r_laws_markWriteS : rF Tryz.prog n_laws_markWriteS = some ([.tmp 4], 38) := by kernel_rfl
abbrev n_laws_szGotS : Nat := 23
def c_laws_szGotS_l1 : AS :=
 .seq (.seq (.ops [m 12 5,
 m 13 0,
 (o 14 (.lens (t 13))),
 (o 15 (.bin .lss (t 12) (t 14)))])
 (.cond (t 15) (.skip) (.exit 0)))
 (.seq (.block 1 (.seq (.ops [m 18 0,
 m 19 5,
 (o 20 (.ia 3 (t 18) (t 19))),
 (o 21 (.load (some 3) (t 20))),
 m 22 1,
 (o 23 (.call 44 [(t 21), (t 22)])),
 m 1 23])
 (.kept [0, 1, 5] (.seq (.ops [m 24 1,
 (o 25 (.bin .lss (t 24) (k 0)))])
 (.cond (t 25) (.seq (.ops [o 4 (.mv (k (-1)))])
 (.ret)) (.skip))))))
 (.kept [0, 1, 5] (.ops [m 16 5,
 (o 17 (.bin .add (t 16) (k 1))),
 m 5 17])))
def c_laws_szGotS : AS :=
 .seq (.ops [o 4 (.mv (k 0))])
 (.seq (.ops [m 6 1,
 m 7 0,
 (o 8 (.lens (t 7))),
 (o 9 (.bin .sub (t 6) (t 8))),
 m 1 9])
 (.seq (.seq (.ops [m 10 1,
 (o 11 (.bin .lss (t 10) (k 0)))])
 (.cond (t 11) (.seq (.ops [o 4 (.mv (k (-1)))])
 (.ret)) (.skip)))
 (.seq (.seq (.ops [o 5 (.mv (k 0))])
 (.block 0 (.loop 2 [(0, 0), (1, 0), (5, 0)] c_laws_szGotS_l1)))
 (.kept [1] (.seq (.ops [m 26 1,
 m 4 26])
 (.ret))))))
theorem h_laws_szGotS : hF Tryz.prog n_laws_szGotS = some c_laws_szGotS.strip := by kernel_rfl
theorem r_laws_szGotS : rF Tryz.prog n_laws_szGotS = some ([.tmp 4], 27) := by kernel_rfl
abbrev n_laws_szWriteS : Nat := 24
def c_laws_szWriteS_l1 : AS :=
 .seq (.seq (.ops [m 12 5,
 m 13 0,
 (o 14 (.lens (t 13))),
 (o 15 (.bin .lss (t 12) (t 14)))])
 (.cond (t 15) (.skip) (.exit 0)))
 (.seq (.block 1 (.seq (.ops [m 18 0,
 m 19 5,
 (o 20 (.ia 3 (t 18) (t 19))),
 (o 21 (.load (some 3) (t 20))),
 m 22 1,
 (o 23 (.call 45 [(t 21), (t 22)])),
 m 1 23])
 (.kept [0, 1, 5] (.seq (.ops [m 24 1,
 (o 25 (.bin .lss (t 24) (k 0)))])
 (.cond (t 25) (.seq (.ops [o 4 (.mv (k (-1)))])
 (.ret)) (.skip))))))
 (.kept [0, 1, 5] (.ops [m 16 5,
 (o 17 (.bin .add (t 16) (k 1))),
 m 5 17])))
def c_laws_szWriteS : AS :=
 .seq (.ops [o 4 (.mv (k 0))])
 (.seq (.ops [m 6 1,
 m 7 0,
 (o 8 (.lens (t 7))),
 (o 9 (.bin .sub (t 6) (t 8))),
 m 1 9])
 (.seq (.seq (.ops [m 10 1,
 (o 11 (.bin .lss (t 10) (k 0)))])
 (.cond (t 11) (.seq (.ops [o 4 (.mv (k (-1)))])
 (.ret)) (.skip)))
 (.seq (.seq (.ops [o 5 (.mv (k 0))])
 (.block 0 (.loop 2 [(0, 0), (1, 0), (5, 0)] c_laws_szWriteS_l1)))
 (.kept [1] (.seq (.ops [m 26 1,
 m 4 26])
 (.ret))))))
theorem h_laws_szWriteS : hF Tryz.prog n_laws_szWriteS = some c_laws_szWriteS.strip := by kernel_rfl
theorem r_laws_szWriteS : rF Tryz.prog n_laws_szWriteS = some ([.tmp 4], 27) := by kernel_rfl
abbrev n_spec_l18Deed : Nat := 25
def c_spec_l18Deed : AS :=
 .seq (.ops [o 1 (.box (t 0)),
 (o 2 (.mv ff))])
 (.seq (.seq (.ops [o 3 (.fa 4 (t 1)),
 (o 4 (.load none (t 3))),
 m 5 4,
 (g 6 5 true (.fa 3 (t 1))),
 (g 7 5 true (.load none (t 6))),
 (g 8 5 true (.not (t 7))),
 mg 9 5 true 8,
 (g 10 9 false (.fa 7 (t 1))),
 (g 11 9 false (.load none (t 10))),
 (g 12 9 false (.lens (t 11))),
 (g 13 9 false (.bin .gtr (t 12) (k 0))),
 (g 14 5 true (.pick (t 9) tt (t 13))),
 (o 15 (.pick (t 5) (t 14) ff))])
 (.kept [1, 15] (.cond (t 15) (.seq (.ops [o 2 (.mv ff)])
 (.ret)) (.skip))))
 (.kept [1] (.seq (.ops [o 16 (.fa 0 (t 1)),
 (o 17 (.load none (t 16))),
 (o 18 (.call 46 [(t 17), (k 1), (k 60)])),
 m 19 18,
 (g 20 19 true (.fa 1 (t 1))),
 (g 21 19 true (.load none (t 20))),
 (g 22 19 true (.call 46 [(t 21), (k 0), (k 1000000)])),
 (o 23 (.pick (t 19) (t 22) ff)),
 m 24 23,
 (g 25 24 true (.fa 2 (t 1))),
 (g 26 24 true (.load none (t 25))),
 (g 27 24 true (.bin .eql (t 26) (k (-1)))),
 mg 28 24 true 27,
 (g 29 28 false (.fa 2 (t 1))),
 (g 30 28 false (.load none (t 29))),
 (g 31 28 false (.fa 1 (t 1))),
 (g 32 28 false (.load none (t 31))),
 (g 33 28 false (.bin .gtr (t 30) (t 32))),
 mg 34 28 false 33,
 (g 35 34 true (.fa 2 (t 1))),
 (g 36 34 true (.load none (t 35))),
 (g 37 34 true (.bin .leq (t 36) (k 1000000))),
 (g 38 28 false (.pick (t 34) (t 37) ff)),
 (g 39 24 true (.pick (t 28) tt (t 38))),
 (o 40 (.pick (t 24) (t 39) ff)),
 m 41 40,
 (g 42 41 true (.fa 5 (t 1))),
 (g 43 41 true (.load none (t 42))),
 (g 44 41 true (.call 47 [(t 43)])),
 (o 45 (.pick (t 41) (t 44) ff)),
 m 46 45,
 (g 47 46 true (.fa 6 (t 1))),
 (g 48 46 true (.load none (t 47))),
 (g 49 46 true (.call 48 [(t 48)])),
 (o 50 (.pick (t 46) (t 49) ff)),
 m 51 50,
 (g 52 51 true (.fa 7 (t 1))),
 (g 53 51 true (.load none (t 52))),
 (g 54 51 true (.call 49 [(t 53)])),
 (o 55 (.pick (t 51) (t 54) ff)),
 m 2 55])
 (.ret))))
theorem h_spec_l18Deed : hF Tryz.prog n_spec_l18Deed = some c_spec_l18Deed.strip := by kernel_rfl
theorem r_spec_l18Deed : rF Tryz.prog n_spec_l18Deed = some ([.tmp 2], 56) := by kernel_rfl
abbrev n_spec_l18Many : Nat := 26
def c_spec_l18Many_l1 : AS :=
 .seq (.ops [o 9 (.bin .lss (t 8) (t 7))])
 (.seq (.cond (t 9) (.skip) (.exit 0))
 (.seq (.block 1 (.seq (.post [(10, 1, [(6, 3), (7, 3)])] (.ops [o 10 (.ia 8 (t 6) (t 8)),
 (o 11 (.load (some 8) (t 10))),
 (o 5 (.alloc (.agg #[.int .i64 0, .int .i64 0, .int .i64 0, .bool false, .bool false, .int .i64 0, .slice none 0 0, .slice none 0 0]))),
 (u (.store 8 (t 5) (t 11)))]))
 (.seq (.ops [o 12 (.fa 3 (t 5)),
 (o 13 (.load none (t 12)))])
 (.cond (t 13) (.ops [m 14 3,
 (o 15 (.bin .add (t 14) (k 1))),
 m 3 15]) (.skip)))))
 (.kept [3, 6, 7, 8] (.ops [o 16 (.bin .add (t 8) (k 1)),
 m 8 16]))))
def c_spec_l18Many : AS :=
 .seq (.ops [o 2 (.mv (k 0))])
 (.seq (.ops [o 3 (.mv (k 0))])
 (.seq (.seq (.ops [m 6 0,
 (o 7 (.lens (t 6))),
 (o 8 (.mv (k 0)))])
 (.block 0 (.loop 1 [(3, 0), (6, 0), (7, 0), (8, 0)] c_spec_l18Many_l1)))
 (.kept [3] (.seq (.ops [m 17 3,
 m 2 17])
 (.ret)))))
theorem h_spec_l18Many : hF Tryz.prog n_spec_l18Many = some c_spec_l18Many.strip := by kernel_rfl
theorem r_spec_l18Many : rF Tryz.prog n_spec_l18Many = some ([.tmp 2], 18) := by kernel_rfl
abbrev n_spec_l18First : Nat := 27
def c_spec_l18First_l1 : AS :=
 .seq (.ops [o 23 (.bin .lss (t 22) (t 21))])
 (.seq (.cond (t 23) (.skip) (.exit 0))
 (.seq (.block 1 (.seq (.post [(25, 1, [(6, 3), (7, 3)])] (.ops [m 24 22,
 (o 25 (.ia 8 (t 20) (t 22))),
 (o 26 (.load (some 8) (t 25))),
 (o 8 (.alloc (.agg #[.int .i64 0, .int .i64 0, .int .i64 0, .bool false, .bool false, .int .i64 0, .slice none 0 0, .slice none 0 0]))),
 m 7 24,
 (u (.store 8 (t 8) (t 26)))]))
 (.seq (.post [(44, 1, [(6, 3), (7, 3)])] (.rops [(none, m 27 7),
 (none, m 28 2),
 (none, o 29 (.bin .neq (t 27) (t 28))),
 (none, m 30 29),
 (none, g 31 30 true (.fa 3 (t 8))),
 (none, g 32 30 true (.load none (t 31))),
 (none, o 33 (.pick (t 30) (t 32) ff)),
 (none, m 34 33),
 (none, mg 35 34 true 1),
 (none, mg 36 34 true 7),
 (some [], g 37 34 true (.call 50 [(t 35), (t 36)])),
 (none, g 38 34 true (.not (t 37))),
 (none, o 39 (.pick (t 34) (t 38) ff)),
 (none, m 40 39),
 (none, g 41 40 true (.load (some 8) (t 8))),
 (none, mg 42 40 true 0),
 (none, mg 43 40 true 2),
 (none, g 44 40 true (.ia 8 (t 42) (t 43))),
 (none, g 45 40 true (.load (some 8) (t 44))),
 (some [], g 46 40 true (.call 51 [(t 41), (t 45)])),
 (none, o 47 (.pick (t 40) (t 46) ff))]))
 (.kept [0, 1, 2, 20, 21, 22, 47] (.cond (t 47) (.seq (.ops [o 6 (.mv ff)])
 (.ret)) (.skip))))))
 (.kept [0, 1, 2, 20, 21, 22] (.ops [o 48 (.bin .add (t 22) (k 1)),
 m 22 48]))))
def c_spec_l18First : AS :=
 .seq (.ops [o 6 (.mv ff)])
 (.seq (.seq (.ops [m 9 0,
 m 10 2,
 (o 11 (.ia 8 (t 9) (t 10))),
 (o 12 (.fa 3 (t 11))),
 (o 13 (.load none (t 12))),
 (o 14 (.not (t 13))),
 m 15 14,
 mg 16 15 false 1,
 mg 17 15 false 2,
 (g 18 15 false (.call 50 [(t 16), (t 17)])),
 (o 19 (.pick (t 15) tt (t 18)))])
 (.kept [0, 1, 2, 19] (.cond (t 19) (.seq (.ops [o 6 (.mv ff)])
 (.ret)) (.skip))))
 (.kept [0, 1, 2] (.seq (.seq (.ops [m 20 0,
 (o 21 (.lens (t 20))),
 (o 22 (.mv (k 0)))])
 (.block 0 (.loop 3 [(0, 0), (1, 0), (2, 0), (20, 0), (21, 0), (22, 0)] c_spec_l18First_l1)))
 (.kept [] (.seq (.ops [o 6 (.mv tt)])
 (.ret))))))
theorem h_spec_l18First : hF Tryz.prog n_spec_l18First = some c_spec_l18First.strip := by kernel_rfl
theorem r_spec_l18First : rF Tryz.prog n_spec_l18First = some ([.tmp 6], 49) := by kernel_rfl
abbrev n_spec_l18Fits : Nat := 28
def c_spec_l18Fits_l1 : AS :=
 .seq (.ops [o 11 (.bin .lss (t 10) (t 9))])
 (.seq (.cond (t 11) (.skip) (.exit 0))
 (.seq (.block 1 (.seq (.ops [o 12 (.ia 3 (t 8) (t 10)),
 (o 13 (.load (some 3) (t 12))),
 (o 6 (.alloc (.agg #[.string ⟨⟨[]⟩⟩, .string ⟨⟨[]⟩⟩, .bool false]))),
 (u (.store 3 (t 6) (t 13)))])
 (.seq (.rops [(none, m 14 0),
 (none, o 15 (.fa 0 (t 6))),
 (none, o 16 (.load none (t 15))),
 (none, o 18 (.load (some 3) (t 6))),
 (some [o 18 (.load (some 3) (t 6))], o 17 (.call 52 [(t 14), (t 16)])),
 (none, o 19 (.eqs true [(0, 2), (1, 2), (2, 1)] (t 17) (t 18)))])
 (.cond (t 19) (.seq (.ops [o 4 (.mv ff)])
 (.ret)) (.skip)))))
 (.kept [0, 8, 9, 10] (.ops [o 20 (.bin .add (t 10) (k 1)),
 m 10 20]))))
def c_spec_l18Fits : AS :=
 .seq (.ops [o 3 (.box (t 1)),
 (o 4 (.mv ff))])
 (.seq (.seq (.ops [o 7 (.fa 6 (t 3)),
 (o 8 (.load none (t 7))),
 (o 9 (.lens (t 8))),
 (o 10 (.mv (k 0)))])
 (.block 0 (.loop 2 [(0, 0), (8, 0), (9, 0), (10, 0)] c_spec_l18Fits_l1)))
 (.kept [] (.seq (.ops [o 4 (.mv tt)])
 (.ret))))
theorem h_spec_l18Fits : hF Tryz.prog n_spec_l18Fits = some c_spec_l18Fits.strip := by kernel_rfl
theorem r_spec_l18Fits : rF Tryz.prog n_spec_l18Fits = some ([.tmp 4], 21) := by kernel_rfl
abbrev n_spec_l5PutRows : Nat := 29
def c_spec_l5PutRows_l1 : AS :=
 .seq (.ops [o 17 (.bin .lss (t 16) (t 15))])
 (.seq (.cond (t 17) (.skip) (.exit 0))
 (.seq (.block 1 (.seq (.ops [o 18 (.ia 3 (t 14) (t 16)),
 (o 19 (.load (some 3) (t 18))),
 (o 7 (.alloc (.agg #[.string ⟨⟨[]⟩⟩, .string ⟨⟨[]⟩⟩, .bool false]))),
 (u (.store 3 (t 7) (t 19)))])
 (.ops [m 20 5,
 (o 21 (.load (some 3) (t 7))),
 (o 22 (.call 53 [(t 20), (t 21)])),
 m 5 22])))
 (.kept [5, 14, 15, 16] (.ops [o 23 (.bin .add (t 16) (k 1)),
 m 16 23]))))
def c_spec_l5PutRows_l2 : AS :=
 .seq (.ops [o 27 (.bin .lss (t 26) (t 25))])
 (.seq (.cond (t 27) (.skip) (.exit 2))
 (.seq (.block 3 (.seq (.ops [o 28 (.ia 3 (t 24) (t 26)),
 (o 29 (.load (some 3) (t 28))),
 (o 10 (.alloc (.agg #[.string ⟨⟨[]⟩⟩, .string ⟨⟨[]⟩⟩, .bool false]))),
 (u (.store 3 (t 10) (t 29)))])
 (.seq (.ops [o 30 (.fa 2 (t 10)),
 (o 31 (.load none (t 30))),
 (o 32 (.not (t 31)))])
 (.cond (t 32) (.ops [m 33 8,
 (o 34 (.load (some 3) (t 10))),
 (o 35 (.bsl 3 (.agg #[.string ⟨⟨[]⟩⟩, .string ⟨⟨[]⟩⟩, .bool false]) 1 [(0, (t 34))])),
 (o 36 (.app 3 40 (.agg #[.string ⟨⟨[]⟩⟩, .string ⟨⟨[]⟩⟩, .bool false]) (t 33) (t 35))),
 m 8 36]) (.skip)))))
 (.kept [8, 24, 25, 26] (.ops [o 37 (.bin .add (t 26) (k 1)),
 m 26 37]))))
def c_spec_l5PutRows : AS :=
 .seq (.ops [o 4 (.mv (.const (.slice none 0 0)))])
 (.seq (.ops [o 11 (.bsl 3 (.agg #[.string ⟨⟨[]⟩⟩, .string ⟨⟨[]⟩⟩, .bool false]) 0 []),
 m 12 0,
 (o 13 (.app 3 40 (.agg #[.string ⟨⟨[]⟩⟩, .string ⟨⟨[]⟩⟩, .bool false]) (t 11) (t 12))),
 m 5 13])
 (.seq (.seq (.ops [m 14 1,
 (o 15 (.lens (t 14))),
 (o 16 (.mv (k 0)))])
 (.block 0 (.loop 2 [(5, 3), (14, 0), (15, 0), (16, 0)] c_spec_l5PutRows_l1)))
 (.kept [5] (.seq (.ops [o 8 (.mv (.const (.slice none 0 0)))])
 (.seq (.seq (.ops [m 24 5,
 (o 25 (.lens (t 24))),
 (o 26 (.mv (k 0)))])
 (.block 2 (.loop 2 [(8, 3), (24, 3), (25, 0), (26, 0)] c_spec_l5PutRows_l2)))
 (.kept [8] (.seq (.ops [m 38 8,
 m 4 38])
 (.ret))))))))
theorem h_spec_l5PutRows : hF Tryz.prog n_spec_l5PutRows = some c_spec_l5PutRows.strip := by kernel_rfl
theorem r_spec_l5PutRows : rF Tryz.prog n_spec_l5PutRows = some ([.tmp 4], 39) := by kernel_rfl
abbrev n_spec_l5Rows : Nat := 30
def c_spec_l5Rows_l1 : AS :=
 .seq (.ops [o 8 (.bin .lss (t 7) (t 6))])
 (.seq (.cond (t 8) (.skip) (.exit 0))
 (.seq (.block 1 (.seq (.ops [o 9 (.ia 3 (t 5) (t 7)),
 (o 10 (.load (some 3) (t 9))),
 (o 4 (.alloc (.agg #[.string ⟨⟨[]⟩⟩, .string ⟨⟨[]⟩⟩, .bool false]))),
 (u (.store 3 (t 4) (t 10)))])
 (.seq (.ops [o 11 (.fa 2 (t 4)),
 (o 12 (.load none (t 11)))])
 (.cond (t 12) (.seq (.ops [o 2 (.mv ff)])
 (.ret)) (.skip)))))
 (.kept [0, 5, 6, 7] (.ops [o 13 (.bin .add (t 7) (k 1)),
 m 7 13]))))
def c_spec_l5Rows : AS :=
 .seq (.ops [o 2 (.mv ff)])
 (.seq (.seq (.ops [m 5 0,
 (o 6 (.lens (t 5))),
 (o 7 (.mv (k 0)))])
 (.block 0 (.loop 1 [(0, 0), (5, 0), (6, 0), (7, 0)] c_spec_l5Rows_l1)))
 (.kept [0] (.seq (.ops [m 14 0,
 (o 15 (.call 49 [(t 14)])),
 m 2 15])
 (.ret))))
theorem h_spec_l5Rows : hF Tryz.prog n_spec_l5Rows = some c_spec_l5Rows.strip := by kernel_rfl
theorem r_spec_l5Rows : rF Tryz.prog n_spec_l5Rows = some ([.tmp 2], 16) := by kernel_rfl
abbrev n_spec_l1Own : Nat := 31
def c_spec_l1Own : AS :=
 .seq (.ops [o 2 (.mv (.const (.slice none 0 0)))])
 (.seq (.ops [o 3 (.bsl 1 (.int .i64 0) 0 []),
 m 4 0,
 (o 5 (.app 1 8 (.int .i64 0) (t 3) (t 4))),
 m 2 5])
 (.ret))
theorem h_spec_l1Own : hF Tryz.prog n_spec_l1Own = some c_spec_l1Own.strip := by kernel_rfl
theorem r_spec_l1Own : rF Tryz.prog n_spec_l1Own = some ([.tmp 2], 6) := by kernel_rfl
abbrev n_laws_toGotS : Nat := 32
def c_laws_toGotS_l1 : AS :=
 .seq (.seq (.ops [m 8 4,
 m 9 0,
 (o 10 (.lens (t 9))),
 (o 11 (.bin .lss (t 8) (t 10)))])
 (.cond (t 11) (.skip) (.exit 0)))
 (.seq (.block 1 (.ops [m 14 3,
 m 15 4,
 m 16 0,
 m 17 4,
 (o 18 (.ia 3 (t 16) (t 17))),
 (o 19 (.load (some 3) (t 18))),
 (o 20 (.call 54 [(t 19)])),
 (o 21 (.ia 3 (t 14) (t 15))),
 (u (.store 3 (t 21) (t 20)))]))
 (.kept [0, 3, 4] (.ops [m 12 4,
 (o 13 (.bin .add (t 12) (k 1))),
 m 4 13])))
def c_laws_toGotS : AS :=
 .seq (.ops [o 2 (.mv (.const (.slice none 0 0)))])
 (.seq (.ops [m 5 0,
 (o 6 (.lens (t 5))),
 (o 7 (.mks 3 40 (.agg #[.string ⟨⟨[]⟩⟩, .string ⟨⟨[]⟩⟩, .bool false]) (t 6) (t 6))),
 m 3 7])
 (.seq (.seq (.ops [o 4 (.mv (k 0))])
 (.block 0 (.loop 1 [(0, 0), (3, 0), (4, 0)] c_laws_toGotS_l1)))
 (.kept [3] (.seq (.ops [m 22 3,
 m 2 22])
 (.ret)))))
theorem h_laws_toGotS : hF Tryz.prog n_laws_toGotS = some c_laws_toGotS.strip := by kernel_rfl
theorem r_laws_toGotS : rF Tryz.prog n_laws_toGotS = some ([.tmp 2], 23) := by kernel_rfl
abbrev n_laws_toWriteS : Nat := 33
def c_laws_toWriteS_l1 : AS :=
 .seq (.seq (.ops [m 8 4,
 m 9 0,
 (o 10 (.lens (t 9))),
 (o 11 (.bin .lss (t 8) (t 10)))])
 (.cond (t 11) (.skip) (.exit 0)))
 (.seq (.block 1 (.ops [m 14 3,
 m 15 4,
 m 16 0,
 m 17 4,
 (o 18 (.ia 3 (t 16) (t 17))),
 (o 19 (.load (some 3) (t 18))),
 (o 20 (.call 55 [(t 19)])),
 (o 21 (.ia 3 (t 14) (t 15))),
 (u (.store 3 (t 21) (t 20)))]))
 (.kept [0, 3, 4] (.ops [m 12 4,
 (o 13 (.bin .add (t 12) (k 1))),
 m 4 13])))
def c_laws_toWriteS : AS :=
 .seq (.ops [o 2 (.mv (.const (.slice none 0 0)))])
 (.seq (.ops [m 5 0,
 (o 6 (.lens (t 5))),
 (o 7 (.mks 3 40 (.agg #[.string ⟨⟨[]⟩⟩, .string ⟨⟨[]⟩⟩, .bool false]) (t 6) (t 6))),
 m 3 7])
 (.seq (.seq (.ops [o 4 (.mv (k 0))])
 (.block 0 (.loop 1 [(0, 0), (3, 0), (4, 0)] c_laws_toWriteS_l1)))
 (.kept [3] (.seq (.ops [m 22 3,
 m 2 22])
 (.ret)))))
theorem h_laws_toWriteS : hF Tryz.prog n_laws_toWriteS = some c_laws_toWriteS.strip := by kernel_rfl
theorem r_laws_toWriteS : rF Tryz.prog n_laws_toWriteS = some ([.tmp 2], 23) := by kernel_rfl
abbrev n_slices_ContainsFunc___impl_Deed_impl_Deed_ : Nat := 34
def c_slices_ContainsFunc___impl_Deed_impl_Deed_ : AS :=
 .seq (.ops [o 4 (.mv ff)])
 (.seq (.ops [m 5 0,
 m 6 1,
 (o 7 (.call 56 [(t 5), (t 6)])),
 (o 8 (.bin .geq (t 7) (k 0))),
 m 4 8])
 (.ret))
theorem h_slices_ContainsFunc___impl_Deed_impl_Deed_ : hF Tryz.prog n_slices_ContainsFunc___impl_Deed_impl_Deed_ = some c_slices_ContainsFunc___impl_Deed_impl_Deed_.strip := by kernel_rfl
theorem r_slices_ContainsFunc___impl_Deed_impl_Deed_ : rF Tryz.prog n_slices_ContainsFunc___impl_Deed_impl_Deed_ = some ([.tmp 4], 9) := by kernel_rfl
abbrev n_impl_GoodHistory_1 : Nat := 35
def c_impl_GoodHistory_1 : AS :=
 .seq (.ops [o 1 (.box (t 0)),
 (o 2 (.mv ff))])
 (.seq (.ops [o 3 (.load (some 8) (t 1)),
 (o 4 (.call 36 [(t 3)])),
 (o 5 (.not (t 4))),
 m 2 5])
 (.ret))
theorem h_impl_GoodHistory_1 : hF Tryz.prog n_impl_GoodHistory_1 = some c_impl_GoodHistory_1.strip := by kernel_rfl
theorem r_impl_GoodHistory_1 : rF Tryz.prog n_impl_GoodHistory_1 = some ([.tmp 2], 6) := by kernel_rfl
abbrev n_impl_isDeed : Nat := 36
def c_impl_isDeed : AS :=
 .seq (.ops [o 1 (.box (t 0)),
 (o 2 (.mv ff))])
 (.seq (.ops [o 3 (.fa 0 (t 1)),
 (o 4 (.load none (t 3))),
 (o 5 (.call 57 [(t 4)])),
 m 6 5,
 (g 7 6 true (.fa 1 (t 1))),
 (g 8 6 true (.load none (t 7))),
 (g 9 6 true (.call 58 [(t 8), (k 0), (k 1000000)])),
 (o 10 (.pick (t 6) (t 9) ff)),
 m 11 10,
 (g 12 11 true (.fa 2 (t 1))),
 (g 13 11 true (.load none (t 12))),
 (g 14 11 true (.bin .eql (t 13) (k (-1)))),
 mg 15 11 true 14,
 (g 16 15 false (.fa 2 (t 1))),
 (g 17 15 false (.load none (t 16))),
 (g 18 15 false (.fa 1 (t 1))),
 (g 19 15 false (.load none (t 18))),
 (g 20 15 false (.bin .add (t 19) (k 1))),
 (g 21 15 false (.call 58 [(t 17), (t 20), (k 1000000)])),
 (g 22 11 true (.pick (t 15) tt (t 21))),
 (o 23 (.pick (t 11) (t 22) ff)),
 m 24 23,
 (g 25 24 true (.fa 4 (t 1))),
 (g 26 24 true (.load none (t 25))),
 (g 27 24 true (.not (t 26))),
 mg 28 24 true 27,
 (g 29 28 false (.fa 3 (t 1))),
 (g 30 28 false (.load none (t 29))),
 mg 31 28 false 30,
 (g 32 31 true (.fa 7 (t 1))),
 (g 33 31 true (.load none (t 32))),
 (g 34 31 true (.lens (t 33))),
 (g 35 31 true (.bin .eql (t 34) (k 0))),
 (g 36 28 false (.pick (t 31) (t 35) ff)),
 (g 37 24 true (.pick (t 28) tt (t 36))),
 (o 38 (.pick (t 24) (t 37) ff)),
 m 39 38,
 (g 40 39 true (.fa 5 (t 1))),
 (g 41 39 true (.load none (t 40))),
 (g 42 39 true (.call 59 [(t 41)])),
 (o 43 (.pick (t 39) (t 42) ff)),
 m 44 43,
 (g 45 44 true (.fa 6 (t 1))),
 (g 46 44 true (.load none (t 45))),
 (g 47 44 true (.call 60 [(t 46)])),
 (o 48 (.pick (t 44) (t 47) ff)),
 m 49 48,
 (g 50 49 true (.fa 7 (t 1))),
 (g 51 49 true (.load none (t 50))),
 (g 52 49 true (.call 61 [(t 51)])),
 (o 53 (.pick (t 49) (t 52) ff)),
 m 2 53])
 (.ret))
theorem h_impl_isDeed : hF Tryz.prog n_impl_isDeed = some c_impl_isDeed.strip := by kernel_rfl
theorem r_impl_isDeed : rF Tryz.prog n_impl_isDeed = some ([.tmp 2], 54) := by kernel_rfl
abbrev n_strconv_Itoa : Nat := 37
abbrev n_impl_mayCome : Nat := 38
def c_impl_mayCome : AS :=
 .seq (.ops [o 4 (.box (t 0)),
 (o 6 (.box (t 2))),
 (o 7 (.box (t 3))),
 (o 8 (.mv ff))])
 (.seq (.ops [o 9 (.load none (t 6)),
 (o 10 (.load none (t 7))),
 (o 11 (.bin .shr (t 9) (t 10))),
 (o 12 (.bin .and (t 11) (k 1))),
 (o 13 (.bin .eql (t 12) (k 0))),
 m 14 13,
 mg 15 14 true 1,
 (g 16 14 true (.mkf 64 [(t 6), (t 4), (t 7)])),
 (g 17 14 true (.call 63 [(t 15), (t 16)])),
 (g 18 14 true (.not (t 17))),
 (o 19 (.pick (t 14) (t 18) ff)),
 m 8 19])
 (.ret))
theorem h_impl_mayCome : hF Tryz.prog n_impl_mayCome = some c_impl_mayCome.strip := by kernel_rfl
theorem r_impl_mayCome : rF Tryz.prog n_impl_mayCome = some ([.tmp 8], 20) := by kernel_rfl
abbrev n_impl_Deed_confirms : Nat := 39
def c_impl_Deed_confirms : AS :=
 .seq (.ops [o 2 (.box (t 0)),
 (o 3 (.box (t 1))),
 (o 4 (.mv ff))])
 (.seq (.ops [o 5 (.fa 6 (t 2)),
 (o 6 (.load none (t 5))),
 (o 7 (.mkf 67 [(t 3)])),
 (o 8 (.call 66 [(t 6), (t 7)])),
 (o 9 (.not (t 8))),
 m 4 9])
 (.ret))
theorem h_impl_Deed_confirms : hF Tryz.prog n_impl_Deed_confirms = some c_impl_Deed_confirms.strip := by kernel_rfl
theorem r_impl_Deed_confirms : rF Tryz.prog n_impl_Deed_confirms = some ([.tmp 4], 10) := by kernel_rfl
abbrev n_impl_putRows : Nat := 40
def c_impl_putRows_l1 : AS :=
 .seq (.ops [o 14 (.bin .lss (t 13) (t 12))])
 (.seq (.cond (t 14) (.skip) (.exit 0))
 (.seq (.block 1 (.seq (.ops [o 15 (.ia 3 (t 11) (t 13)),
 (o 16 (.load (some 3) (t 15))),
 (o 8 (.alloc (.agg #[.string ⟨⟨[]⟩⟩, .string ⟨⟨[]⟩⟩, .bool false]))),
 (u (.store 3 (t 8) (t 16)))])
 (.ops [m 17 6,
 (o 18 (.load (some 3) (t 8))),
 (o 19 (.call 70 [(t 17), (t 18)])),
 m 6 19])))
 (.kept [6, 11, 12, 13] (.ops [o 20 (.bin .add (t 13) (k 1)),
 m 13 20]))))
def c_impl_putRows : AS :=
 .seq (.ops [o 4 (.mv (.const (.slice none 0 0))),
 (o 5 (.mv ff))])
 (.seq (.ops [m 9 0,
 (o 10 (.call 69 [(t 9)])),
 m 6 10])
 (.seq (.seq (.ops [m 11 1,
 (o 12 (.lens (t 11))),
 (o 13 (.mv (k 0)))])
 (.block 0 (.loop 2 [(6, 3), (11, 0), (12, 0), (13, 0)] c_impl_putRows_l1)))
 (.kept [6] (.seq (.ops [m 21 6,
 (o 22 (.call 71 [(t 21), (.func 72)])),
 m 6 22])
 (.seq (.seq (.ops [m 23 6,
 (o 24 (.lens (t 23))),
 (o 25 (.bin .gtr (t 24) (k 24)))])
 (.cond (t 25) (.seq (.ops [o 4 (.mv (.const (.slice none 0 0))),
 (o 5 (.mv ff))])
 (.ret)) (.skip)))
 (.seq (.ops [m 26 6,
 m 4 26,
 (o 5 (.mv tt))])
 (.ret)))))))
theorem h_impl_putRows : hF Tryz.prog n_impl_putRows = some c_impl_putRows.strip := by kernel_rfl
theorem r_impl_putRows : rF Tryz.prog n_impl_putRows = some ([.tmp 4, .tmp 5], 27) := by kernel_rfl
abbrev n_laws_eqGotS : Nat := 41
def c_laws_eqGotS_l1 : AS :=
 .seq (.seq (.ops [m 11 5,
 m 12 0,
 (o 13 (.lens (t 12))),
 (o 14 (.bin .lss (t 11) (t 13)))])
 (.cond (t 14) (.skip) (.exit 0)))
 (.seq (.block 1 (.seq (.rops [(none, m 17 0),
 (none, m 18 5),
 (none, o 19 (.ia 3 (t 17) (t 18))),
 (none, o 20 (.load (some 3) (t 19))),
 (none, m 21 1),
 (none, m 22 5),
 (none, o 23 (.ia 3 (t 21) (t 22))),
 (none, o 24 (.load (some 3) (t 23))),
 (some [], o 25 (.call 73 [(t 20), (t 24)])),
 (none, o 26 (.not (t 25)))])
 (.kept [0, 1, 5, 26] (.cond (t 26) (.seq (.ops [o 4 (.mv ff)])
 (.ret)) (.skip)))))
 (.kept [0, 1, 5] (.ops [m 15 5,
 (o 16 (.bin .add (t 15) (k 1))),
 m 5 16])))
def c_laws_eqGotS : AS :=
 .seq (.ops [o 4 (.mv ff)])
 (.seq (.seq (.ops [m 6 0,
 (o 7 (.lens (t 6))),
 m 8 1,
 (o 9 (.lens (t 8))),
 (o 10 (.bin .neq (t 7) (t 9)))])
 (.cond (t 10) (.seq (.ops [o 4 (.mv ff)])
 (.ret)) (.skip)))
 (.kept [0, 1] (.seq (.seq (.ops [o 5 (.mv (k 0))])
 (.block 0 (.loop 2 [(0, 0), (1, 0), (5, 0)] c_laws_eqGotS_l1)))
 (.kept [] (.seq (.ops [o 4 (.mv tt)])
 (.ret))))))
theorem h_laws_eqGotS : hF Tryz.prog n_laws_eqGotS = some c_laws_eqGotS.strip := by kernel_rfl
theorem r_laws_eqGotS : rF Tryz.prog n_laws_eqGotS = some ([.tmp 4], 27) := by kernel_rfl
abbrev n_laws_eqWriteS : Nat := 42
def c_laws_eqWriteS_l1 : AS :=
 .seq (.seq (.ops [m 11 5,
 m 12 0,
 (o 13 (.lens (t 12))),
 (o 14 (.bin .lss (t 11) (t 13)))])
 (.cond (t 14) (.skip) (.exit 0)))
 (.seq (.block 1 (.seq (.rops [(none, m 17 0),
 (none, m 18 5),
 (none, o 19 (.ia 3 (t 17) (t 18))),
 (none, o 20 (.load (some 3) (t 19))),
 (none, m 21 1),
 (none, m 22 5),
 (none, o 23 (.ia 3 (t 21) (t 22))),
 (none, o 24 (.load (some 3) (t 23))),
 (some [], o 25 (.call 74 [(t 20), (t 24)])),
 (none, o 26 (.not (t 25)))])
 (.kept [0, 1, 5, 26] (.cond (t 26) (.seq (.ops [o 4 (.mv ff)])
 (.ret)) (.skip)))))
 (.kept [0, 1, 5] (.ops [m 15 5,
 (o 16 (.bin .add (t 15) (k 1))),
 m 5 16])))
def c_laws_eqWriteS : AS :=
 .seq (.ops [o 4 (.mv ff)])
 (.seq (.seq (.ops [m 6 0,
 (o 7 (.lens (t 6))),
 m 8 1,
 (o 9 (.lens (t 8))),
 (o 10 (.bin .neq (t 7) (t 9)))])
 (.cond (t 10) (.seq (.ops [o 4 (.mv ff)])
 (.ret)) (.skip)))
 (.kept [0, 1] (.seq (.seq (.ops [o 5 (.mv (k 0))])
 (.block 0 (.loop 2 [(0, 0), (1, 0), (5, 0)] c_laws_eqWriteS_l1)))
 (.kept [] (.seq (.ops [o 4 (.mv tt)])
 (.ret))))))
theorem h_laws_eqWriteS : hF Tryz.prog n_laws_eqWriteS = some c_laws_eqWriteS.strip := by kernel_rfl
theorem r_laws_eqWriteS : rF Tryz.prog n_laws_eqWriteS = some ([.tmp 4], 27) := by kernel_rfl
abbrev n_laws_markText : Nat := 43
def c_laws_markText_l1 : AS :=
 .seq (.seq (.ops [m 6 0,
 (o 7 (.bin .gtr (t 6) (k 0)))])
 (.cond (t 7) (.skip) (.exit 0)))
 (.block 1 (.seq (.ops [m 8 0,
 (o 9 (.bin .rem (t 8) (k 10))),
 (o 10 (.bin .add (k 48) (t 9))),
 (o 11 (.cvi .u8 (t 10))),
 (o 12 (.bsl 1 (.int .u8 0) 1 [(0, (t 11))])),
 (o 13 (.cvbs (t 12))),
 m 14 3,
 (o 15 (.bin .add (t 13) (t 14))),
 m 3 15])
 (.kept [0, 3] (.ops [m 16 0,
 (o 17 (.bin .quo (t 16) (k 10))),
 m 0 17]))))
def c_laws_markText : AS :=
 .seq (.ops [o 2 (.mv (.const (.string ⟨⟨[]⟩⟩)))])
 (.seq (.seq (.ops [m 4 0,
 (o 5 (.bin .leq (t 4) (k 0)))])
 (.cond (t 5) (.seq (.ops [o 2 (.mv (.const (.string ⟨⟨[109, 48]⟩⟩)))])
 (.ret)) (.skip)))
 (.seq (.ops [o 3 (.mv (.const (.string ⟨⟨[]⟩⟩)))])
 (.seq (.block 0 (.loop 1 [(0, 0), (3, 0)] c_laws_markText_l1))
 (.kept [3] (.seq (.ops [m 18 3,
 (o 19 (.bin .add (.const (.string ⟨⟨[109]⟩⟩)) (t 18))),
 m 2 19])
 (.ret))))))
theorem h_laws_markText : hF Tryz.prog n_laws_markText = some c_laws_markText.strip := by kernel_rfl
theorem r_laws_markText : rF Tryz.prog n_laws_markText = some ([.tmp 2], 20) := by kernel_rfl
abbrev n_laws_szGot : Nat := 44
def c_laws_szGot : AS :=
 .seq (.ops [o 2 (.box (t 0)),
 (o 4 (.mv (k 0)))])
 (.seq (.ops [m 5 1,
 (o 6 (.fa 0 (t 2))),
 (o 7 (.load none (t 6))),
 (o 8 (.lent (t 7))),
 (o 9 (.bin .sub (t 5) (t 8))),
 m 1 9])
 (.seq (.seq (.ops [m 10 1,
 (o 11 (.bin .lss (t 10) (k 0)))])
 (.cond (t 11) (.seq (.ops [o 4 (.mv (k (-1)))])
 (.ret)) (.skip)))
 (.seq (.ops [m 12 1,
 (o 13 (.fa 1 (t 2))),
 (o 14 (.load none (t 13))),
 (o 15 (.lent (t 14))),
 (o 16 (.bin .sub (t 12) (t 15))),
 m 1 16])
 (.seq (.seq (.ops [m 17 1,
 (o 18 (.bin .lss (t 17) (k 0)))])
 (.cond (t 18) (.seq (.ops [o 4 (.mv (k (-1)))])
 (.ret)) (.skip)))
 (.seq (.ops [m 19 1,
 m 4 19])
 (.ret))))))
theorem h_laws_szGot : hF Tryz.prog n_laws_szGot = some c_laws_szGot.strip := by kernel_rfl
theorem r_laws_szGot : rF Tryz.prog n_laws_szGot = some ([.tmp 4], 20) := by kernel_rfl
abbrev n_laws_szWrite : Nat := 45
def c_laws_szWrite : AS :=
 .seq (.ops [o 2 (.box (t 0)),
 (o 4 (.mv (k 0)))])
 (.seq (.ops [m 5 1,
 (o 6 (.fa 0 (t 2))),
 (o 7 (.load none (t 6))),
 (o 8 (.lent (t 7))),
 (o 9 (.bin .sub (t 5) (t 8))),
 m 1 9])
 (.seq (.seq (.ops [m 10 1,
 (o 11 (.bin .lss (t 10) (k 0)))])
 (.cond (t 11) (.seq (.ops [o 4 (.mv (k (-1)))])
 (.ret)) (.skip)))
 (.seq (.ops [m 12 1,
 (o 13 (.fa 1 (t 2))),
 (o 14 (.load none (t 13))),
 (o 15 (.lent (t 14))),
 (o 16 (.bin .sub (t 12) (t 15))),
 m 1 16])
 (.seq (.seq (.ops [m 17 1,
 (o 18 (.bin .lss (t 17) (k 0)))])
 (.cond (t 18) (.seq (.ops [o 4 (.mv (k (-1)))])
 (.ret)) (.skip)))
 (.seq (.ops [m 19 1,
 m 4 19])
 (.ret))))))
theorem h_laws_szWrite : hF Tryz.prog n_laws_szWrite = some c_laws_szWrite.strip := by kernel_rfl
theorem r_laws_szWrite : rF Tryz.prog n_laws_szWrite = some ([.tmp 4], 20) := by kernel_rfl
abbrev n_spec_l1In : Nat := 46
def c_spec_l1In : AS :=
 .seq (.ops [o 6 (.mv ff)])
 (.seq (.ops [m 7 0,
 m 8 1,
 (o 9 (.bin .geq (t 7) (t 8))),
 m 10 9,
 mg 11 10 true 0,
 mg 12 10 true 2,
 (g 13 10 true (.bin .leq (t 11) (t 12))),
 (o 14 (.pick (t 10) (t 13) ff)),
 m 6 14])
 (.ret))
theorem h_spec_l1In : hF Tryz.prog n_spec_l1In = some c_spec_l1In.strip := by kernel_rfl
theorem r_spec_l1In : rF Tryz.prog n_spec_l1In = some ([.tmp 6], 15) := by kernel_rfl
abbrev n_spec_l2True : Nat := 47
def c_spec_l2True : AS :=
 .seq (.ops [o 2 (.mv ff)])
 (.seq (.ops [m 3 0,
 (o 4 (.call 46 [(t 3), (k 0), (k 100000)])),
 m 2 4])
 (.ret))
theorem h_spec_l2True : hF Tryz.prog n_spec_l2True = some c_spec_l2True.strip := by kernel_rfl
theorem r_spec_l2True : rF Tryz.prog n_spec_l2True = some ([.tmp 2], 5) := by kernel_rfl
abbrev n_spec_l5Gots : Nat := 48
def c_spec_l5Gots_l1 : AS :=
 .seq (.ops [o 39 (.bin .lss (t 38) (t 37))])
 (.seq (.cond (t 39) (.skip) (.exit 2))
 (.seq (.block 3 (.seq (.ops [o 40 (.ia 3 (t 36) (t 38)),
 (o 41 (.load (some 3) (t 40))),
 (o 6 (.alloc (.agg #[.string ⟨⟨[]⟩⟩, .string ⟨⟨[]⟩⟩, .bool false]))),
 (u (.store 3 (t 6) (t 41)))])
 (.seq (.ops [o 42 (.fa 0 (t 4)),
 (o 43 (.load none (t 42))),
 (o 44 (.fa 0 (t 6))),
 (o 45 (.load none (t 44))),
 (o 46 (.bin .eql (t 43) (t 45)))])
 (.cond (t 46) (.seq (.ops [o 2 (.mv ff)])
 (.ret)) (.skip)))))
 (.kept [0, 4, 7, 8, 9, 36, 37, 38] (.ops [o 47 (.bin .add (t 38) (k 1)),
 m 38 47]))))
def c_spec_l5Gots_l2 : AS :=
 .seq (.ops [o 10 (.bin .lss (t 9) (t 8))])
 (.seq (.cond (t 10) (.skip) (.exit 0))
 (.seq (.block 1 (.seq (.ops [m 11 9,
 (o 12 (.ia 3 (t 7) (t 9))),
 (o 13 (.load (some 3) (t 12))),
 (o 4 (.alloc (.agg #[.string ⟨⟨[]⟩⟩, .string ⟨⟨[]⟩⟩, .bool false]))),
 m 3 11,
 (u (.store 3 (t 4) (t 13)))])
 (.seq (.seq (.ops [o 14 (.fa 0 (t 4)),
 (o 15 (.load none (t 14))),
 (o 16 (.call 75 [(t 15)])),
 (o 17 (.not (t 16))),
 m 18 17,
 (g 19 18 false (.fa 1 (t 4))),
 (g 20 18 false (.load none (t 19))),
 (g 21 18 false (.call 76 [(t 20)])),
 (g 22 18 false (.not (t 21))),
 (o 23 (.pick (t 18) tt (t 22))),
 m 24 23,
 (g 25 24 false (.fa 2 (t 4))),
 (g 26 24 false (.load none (t 25))),
 (g 27 24 false (.not (t 26))),
 mg 28 24 false 27,
 (g 29 28 true (.fa 1 (t 4))),
 (g 30 28 true (.load none (t 29))),
 (g 31 28 true (.bin .neq (t 30) (.const (.string ⟨⟨[]⟩⟩)))),
 (g 32 24 false (.pick (t 28) (t 31) ff)),
 (o 33 (.pick (t 24) tt (t 32)))])
 (.kept [0, 3, 4, 7, 8, 9, 33] (.cond (t 33) (.seq (.ops [o 2 (.mv ff)])
 (.ret)) (.skip))))
 (.kept [0, 3, 4, 7, 8, 9] (.seq (.ops [m 34 0,
 m 35 3,
 (o 36 (.sls 3 (t 34) none (some (t 35)) none)),
 (o 37 (.lens (t 36))),
 (o 38 (.mv (k 0)))])
 (.block 2 (.loop 1 [(0, 0), (4, 0), (7, 0), (8, 0), (9, 0), (36, 0), (37, 0), (38, 0)] c_spec_l5Gots_l1)))))))
 (.kept [0, 7, 8, 9] (.ops [o 48 (.bin .add (t 9) (k 1)),
 m 9 48]))))
def c_spec_l5Gots : AS :=
 .seq (.ops [o 2 (.mv ff)])
 (.seq (.seq (.ops [m 7 0,
 (o 8 (.lens (t 7))),
 (o 9 (.mv (k 0)))])
 (.block 0 (.loop 1 [(0, 0), (7, 0), (8, 0), (9, 0)] c_spec_l5Gots_l2)))
 (.kept [0] (.seq (.ops [m 49 0,
 (o 50 (.lens (t 49))),
 (o 51 (.bin .leq (t 50) (k 8))),
 m 2 51])
 (.ret))))
theorem h_spec_l5Gots : hF Tryz.prog n_spec_l5Gots = some c_spec_l5Gots.strip := by kernel_rfl
theorem r_spec_l5Gots : rF Tryz.prog n_spec_l5Gots = some ([.tmp 2], 52) := by kernel_rfl
abbrev n_spec_l3Writes : Nat := 49
def c_spec_l3Writes_l1 : AS :=
 .seq (.ops [o 8 (.bin .lss (t 7) (t 6))])
 (.seq (.cond (t 8) (.skip) (.exit 0))
 (.seq (.block 1 (.seq (.ops [m 9 7,
 (o 10 (.ia 3 (t 5) (t 7))),
 (o 11 (.load (some 3) (t 10))),
 (o 4 (.alloc (.agg #[.string ⟨⟨[]⟩⟩, .string ⟨⟨[]⟩⟩, .bool false]))),
 m 3 9,
 (u (.store 3 (t 4) (t 11)))])
 (.seq (.rops [(none, o 12 (.fa 0 (t 4))),
 (none, o 13 (.load none (t 12))),
 (none, o 14 (.fa 1 (t 4))),
 (none, o 15 (.load none (t 14))),
 (none, o 16 (.fa 2 (t 4))),
 (none, o 17 (.load none (t 16))),
 (some [], o 18 (.call 77 [(t 13), (t 15), (t 17)])),
 (none, o 19 (.not (t 18))),
 (none, m 20 19),
 (none, mg 21 20 false 3),
 (none, g 22 20 false (.bin .gtr (t 21) (k 0))),
 (none, mg 23 20 false 22),
 (none, mg 24 23 true 0),
 (none, mg 25 23 true 3),
 (none, g 26 23 true (.bin .sub (t 25) (k 1))),
 (none, g 27 23 true (.ia 3 (t 24) (t 26))),
 (none, g 28 23 true (.fa 0 (t 27))),
 (none, g 29 23 true (.load none (t 28))),
 (none, g 30 23 true (.fa 0 (t 4))),
 (none, g 31 23 true (.load none (t 30))),
 (none, g 32 23 true (.bin .geq (t 29) (t 31))),
 (none, g 33 20 false (.pick (t 23) (t 32) ff)),
 (none, o 34 (.pick (t 20) tt (t 33)))])
 (.kept [0, 5, 6, 7, 34] (.cond (t 34) (.seq (.ops [o 2 (.mv ff)])
 (.ret)) (.skip))))))
 (.kept [0, 5, 6, 7] (.ops [o 35 (.bin .add (t 7) (k 1)),
 m 7 35]))))
def c_spec_l3Writes : AS :=
 .seq (.ops [o 2 (.mv ff)])
 (.seq (.seq (.ops [m 5 0,
 (o 6 (.lens (t 5))),
 (o 7 (.mv (k 0)))])
 (.block 0 (.loop 1 [(0, 0), (5, 0), (6, 0), (7, 0)] c_spec_l3Writes_l1)))
 (.kept [0] (.seq (.ops [m 36 0,
 (o 37 (.lens (t 36))),
 (o 38 (.bin .leq (t 37) (k 24))),
 m 2 38])
 (.ret))))
theorem h_spec_l3Writes : hF Tryz.prog n_spec_l3Writes = some c_spec_l3Writes.strip := by kernel_rfl
theorem r_spec_l3Writes : rF Tryz.prog n_spec_l3Writes = some ([.tmp 2], 39) := by kernel_rfl
abbrev n_spec_l1Has : Nat := 50
def c_spec_l1Has_l1 : AS :=
 .seq (.ops [o 10 (.bin .lss (t 9) (t 8))])
 (.seq (.cond (t 10) (.skip) (.exit 0))
 (.seq (.block 1 (.seq (.ops [o 11 (.ia 1 (t 7) (t 9)),
 (o 12 (.load none (t 11))),
 m 6 12])
 (.seq (.ops [m 13 6,
 m 14 1,
 (o 15 (.bin .eql (t 13) (t 14)))])
 (.cond (t 15) (.seq (.ops [o 4 (.mv tt)])
 (.ret)) (.skip)))))
 (.kept [1, 7, 8, 9] (.ops [o 16 (.bin .add (t 9) (k 1)),
 m 9 16]))))
def c_spec_l1Has : AS :=
 .seq (.ops [o 4 (.mv ff)])
 (.seq (.seq (.ops [m 7 0,
 (o 8 (.lens (t 7))),
 (o 9 (.mv (k 0)))])
 (.block 0 (.loop 2 [(1, 0), (7, 0), (8, 0), (9, 0)] c_spec_l1Has_l1)))
 (.kept [] (.seq (.ops [o 4 (.mv ff)])
 (.ret))))
theorem h_spec_l1Has : hF Tryz.prog n_spec_l1Has = some c_spec_l1Has.strip := by kernel_rfl
theorem r_spec_l1Has : rF Tryz.prog n_spec_l1Has = some ([.tmp 4], 17) := by kernel_rfl
abbrev n_spec_l18Ahead : Nat := 51
def c_spec_l18Ahead : AS :=
 .seq (.ops [o 2 (.box (t 0)),
 (o 3 (.box (t 1))),
 (o 4 (.mv ff))])
 (.seq (.ops [o 5 (.fa 2 (t 2)),
 (o 6 (.load none (t 5))),
 (o 7 (.bin .geq (t 6) (k 0))),
 m 8 7,
 (g 9 8 true (.fa 2 (t 2))),
 (g 10 8 true (.load none (t 9))),
 (g 11 8 true (.fa 1 (t 3))),
 (g 12 8 true (.load none (t 11))),
 (g 13 8 true (.bin .lss (t 10) (t 12))),
 (o 14 (.pick (t 8) (t 13) ff)),
 m 4 14])
 (.ret))
theorem h_spec_l18Ahead : hF Tryz.prog n_spec_l18Ahead = some c_spec_l18Ahead.strip := by kernel_rfl
theorem r_spec_l18Ahead : rF Tryz.prog n_spec_l18Ahead = some ([.tmp 4], 15) := by kernel_rfl
abbrev n_spec_l5Tell : Nat := 52
def c_spec_l5Tell_l1 : AS :=
 .seq (.ops [o 10 (.bin .lss (t 9) (t 8))])
 (.seq (.cond (t 10) (.skip) (.exit 0))
 (.seq (.block 1 (.seq (.ops [o 11 (.ia 3 (t 7) (t 9)),
 (o 12 (.load (some 3) (t 11))),
 (o 6 (.alloc (.agg #[.string ⟨⟨[]⟩⟩, .string ⟨⟨[]⟩⟩, .bool false]))),
 (u (.store 3 (t 6) (t 12)))])
 (.seq (.ops [o 13 (.fa 0 (t 6)),
 (o 14 (.load none (t 13))),
 m 15 1,
 (o 16 (.bin .eql (t 14) (t 15)))])
 (.cond (t 16) (.seq (.ops [m 17 1,
 (o 18 (.fa 1 (t 6))),
 (o 19 (.load none (t 18))),
 (o 20 (.build (.agg #[.string ⟨⟨[]⟩⟩, .string ⟨⟨[]⟩⟩, .bool false]) [(0, 1, (t 17)), (1, 1, (t 19)), (2, 1, tt)])),
 (u (.store 3 (t 4) (t 20)))])
 (.ret)) (.skip)))))
 (.kept [1, 4, 7, 8, 9] (.ops [o 21 (.bin .add (t 9) (k 1)),
 m 9 21]))))
def c_spec_l5Tell : AS :=
 .seq (.ops [o 4 (.alloc (.agg #[.string ⟨⟨[]⟩⟩, .string ⟨⟨[]⟩⟩, .bool false]))])
 (.seq (.seq (.ops [m 7 0,
 (o 8 (.lens (t 7))),
 (o 9 (.mv (k 0)))])
 (.block 0 (.loop 2 [(1, 0), (4, 0), (7, 0), (8, 0), (9, 0)] c_spec_l5Tell_l1)))
 (.kept [1, 4] (.seq (.ops [m 22 1,
 (o 23 (.build (.agg #[.string ⟨⟨[]⟩⟩, .string ⟨⟨[]⟩⟩, .bool false]) [(0, 1, (t 22))])),
 (u (.store 3 (t 4) (t 23)))])
 (.ret))))
theorem h_spec_l5Tell : hF Tryz.prog n_spec_l5Tell = some c_spec_l5Tell.strip := by kernel_rfl
theorem r_spec_l5Tell : rF Tryz.prog n_spec_l5Tell = some ([.cell 4 76], 24) := by kernel_rfl
abbrev n_spec_l5PutW : Nat := 53
def c_spec_l5PutW_l1 : AS :=
 .seq (.seq (.dops [m 10 5,
 (o 11 (.bin .gtr (t 10) (k 0))),
 m 12 11,
 mg 13 12 true 0,
 mg 14 12 true 5,
 (g 15 12 true (.bin .sub (t 14) (k 1))),
 (g 16 12 true (.ia 3 (t 13) (t 15))),
 (g 17 12 true (.fa 0 (t 16))),
 (g 18 12 true (.load none (t 17))),
 (g 19 12 true (.fa 0 (t 3))),
 (g 20 12 true (.load none (t 19))),
 (g 21 12 true (.bin .gtr (t 18) (t 20))),
 (o 22 (.pick (t 12) (t 21) ff))])
 (.kept [0, 3, 5, 22] (.cond (t 22) (.skip) (.exit 0))))
 (.kept [0, 3, 5] (.block 1 (.ops [m 23 5,
 (o 24 (.bin .sub (t 23) (k 1))),
 m 5 24])))
def c_spec_l5PutW : AS :=
 .seq (.ops [o 3 (.box (t 1)),
 (o 4 (.mv (.const (.slice none 0 0))))])
 (.seq (.ops [m 8 0,
 (o 9 (.lens (t 8))),
 m 5 9])
 (.seq (.block 0 (.loop 2 [(0, 0), (3, 0), (5, 0)] c_spec_l5PutW_l1))
 (.kept [0, 3, 5] (.seq (.seq (.dops [m 25 5,
 (o 26 (.bin .gtr (t 25) (k 0))),
 m 27 26,
 mg 28 27 true 0,
 mg 29 27 true 5,
 (g 30 27 true (.bin .sub (t 29) (k 1))),
 (g 31 27 true (.ia 3 (t 28) (t 30))),
 (g 32 27 true (.fa 0 (t 31))),
 (g 33 27 true (.load none (t 32))),
 (g 34 27 true (.fa 0 (t 3))),
 (g 35 27 true (.load none (t 34))),
 (g 36 27 true (.bin .eql (t 33) (t 35))),
 (o 37 (.pick (t 27) (t 36) ff))])
 (.kept [0, 3, 5, 37] (.cond (t 37) (.seq (.ops [o 38 (.bsl 3 (.agg #[.string ⟨⟨[]⟩⟩, .string ⟨⟨[]⟩⟩, .bool false]) 0 []),
 m 39 0,
 (o 40 (.app 3 40 (.agg #[.string ⟨⟨[]⟩⟩, .string ⟨⟨[]⟩⟩, .bool false]) (t 38) (t 39))),
 m 6 40])
 (.seq (.ops [m 41 6,
 m 42 5,
 (o 43 (.bin .sub (t 42) (k 1))),
 (o 44 (.load (some 3) (t 3))),
 (o 45 (.ia 3 (t 41) (t 43))),
 (u (.store 3 (t 45) (t 44)))])
 (.seq (.ops [m 46 6,
 m 4 46])
 (.ret)))) (.skip))))
 (.kept [0, 3, 5] (.seq (.ops [o 47 (.bsl 3 (.agg #[.string ⟨⟨[]⟩⟩, .string ⟨⟨[]⟩⟩, .bool false]) 0 []),
 m 48 0,
 m 49 5,
 (o 50 (.sls 3 (t 48) (some (t 49)) none none)),
 (o 51 (.app 3 40 (.agg #[.string ⟨⟨[]⟩⟩, .string ⟨⟨[]⟩⟩, .bool false]) (t 47) (t 50))),
 m 7 51])
 (.seq (.tops [(0, 0), (4, 0)] (.rd (m 53 0) (.rd (m 54 5) (.rd (o 55 (.sls 3 (t 53) none (some (t 54)) none)) (.rd (o 57 (.load (some 3) (t 3))) (.rd (m 60 7) (.alt [m 60 7, o 57 (.load (some 3) (t 3)), o 55 (.sls 3 (t 53) none (some (t 54)) none), m 54 5, m 53 0] (o 52 (.bsl 3 (.agg #[.string ⟨⟨[]⟩⟩, .string ⟨⟨[]⟩⟩, .bool false]) 0 []))
 (.alt [m 60 7, o 57 (.load (some 3) (t 3))] (o 56 (.app 3 40 (.agg #[.string ⟨⟨[]⟩⟩, .string ⟨⟨[]⟩⟩, .bool false]) (t 52) (t 55)))
 (.alt [m 60 7] (o 58 (.bsl 3 (.agg #[.string ⟨⟨[]⟩⟩, .string ⟨⟨[]⟩⟩, .bool false]) 1 [(0, (t 57))]))
 (.alt [m 60 7] (o 59 (.app 3 40 (.agg #[.string ⟨⟨[]⟩⟩, .string ⟨⟨[]⟩⟩, .bool false]) (t 56) (t 58)))
 (.alt [] (o 61 (.app 3 40 (.agg #[.string ⟨⟨[]⟩⟩, .string ⟨⟨[]⟩⟩, .bool false]) (t 59) (t 60)))
 (.rd (m 4 61) (.done))
 (.none))
 (.none))
 (.none))
 (.alt [m 60 7, o 55 (.sls 3 (t 53) none (some (t 54)) none), m 54 5, m 53 0] (o 58 (.bsl 3 (.agg #[.string ⟨⟨[]⟩⟩, .string ⟨⟨[]⟩⟩, .bool false]) 1 [(0, (t 57))]))
 (.alt [m 60 7] (o 56 (.app 3 40 (.agg #[.string ⟨⟨[]⟩⟩, .string ⟨⟨[]⟩⟩, .bool false]) (t 52) (t 55)))
 (.alt [m 60 7] (o 59 (.app 3 40 (.agg #[.string ⟨⟨[]⟩⟩, .string ⟨⟨[]⟩⟩, .bool false]) (t 56) (t 58)))
 (.alt [] (o 61 (.app 3 40 (.agg #[.string ⟨⟨[]⟩⟩, .string ⟨⟨[]⟩⟩, .bool false]) (t 59) (t 60)))
 (.rd (m 4 61) (.done))
 (.none))
 (.none))
 (.none))
 (.none)))
 (.alt [m 60 7, o 55 (.sls 3 (t 53) none (some (t 54)) none), m 54 5, m 53 0] (o 58 (.bsl 3 (.agg #[.string ⟨⟨[]⟩⟩, .string ⟨⟨[]⟩⟩, .bool false]) 1 [(0, (t 57))]))
 (.alt [m 60 7, o 55 (.sls 3 (t 53) none (some (t 54)) none), m 54 5, m 53 0] (o 52 (.bsl 3 (.agg #[.string ⟨⟨[]⟩⟩, .string ⟨⟨[]⟩⟩, .bool false]) 0 []))
 (.alt [m 60 7] (o 56 (.app 3 40 (.agg #[.string ⟨⟨[]⟩⟩, .string ⟨⟨[]⟩⟩, .bool false]) (t 52) (t 55)))
 (.alt [m 60 7] (o 59 (.app 3 40 (.agg #[.string ⟨⟨[]⟩⟩, .string ⟨⟨[]⟩⟩, .bool false]) (t 56) (t 58)))
 (.alt [] (o 61 (.app 3 40 (.agg #[.string ⟨⟨[]⟩⟩, .string ⟨⟨[]⟩⟩, .bool false]) (t 59) (t 60)))
 (.rd (m 4 61) (.done))
 (.none))
 (.none))
 (.none))
 (.none))
 (.none)))))))))
 (.ret))))))))
theorem h_spec_l5PutW : hF Tryz.prog n_spec_l5PutW = some c_spec_l5PutW.strip := by kernel_rfl
theorem r_spec_l5PutW : rF Tryz.prog n_spec_l5PutW = some ([.tmp 4], 62) := by kernel_rfl
abbrev n_laws_toGot : Nat := 54
def c_laws_toGot : AS :=
 .seq (.ops [o 1 (.box (t 0)),
 (o 2 (.alloc (.agg #[.string ⟨⟨[]⟩⟩, .string ⟨⟨[]⟩⟩, .bool false])))])
 (.seq (.ops [o 3 (.alloc (.agg #[.string ⟨⟨[]⟩⟩, .string ⟨⟨[]⟩⟩, .bool false]))])
 (.seq (.ops [o 4 (.fa 0 (t 1)),
 (o 5 (.load none (t 4))),
 (o 6 (.fa 0 (t 3))),
 (u (.store 1 (t 6) (t 5)))])
 (.seq (.ops [o 7 (.fa 1 (t 1)),
 (o 8 (.load none (t 7))),
 (o 9 (.fa 1 (t 3))),
 (u (.store 1 (t 9) (t 8)))])
 (.seq (.ops [o 10 (.fa 2 (t 1)),
 (o 11 (.load none (t 10))),
 (o 12 (.fa 2 (t 3))),
 (u (.store 1 (t 12) (t 11)))])
 (.seq (.ops [o 13 (.load (some 3) (t 3)),
 (u (.store 3 (t 2) (t 13)))])
 (.ret))))))
theorem h_laws_toGot : hF Tryz.prog n_laws_toGot = some c_laws_toGot.strip := by kernel_rfl
theorem r_laws_toGot : rF Tryz.prog n_laws_toGot = some ([.cell 2 76], 14) := by kernel_rfl
abbrev n_laws_toWrite : Nat := 55
def c_laws_toWrite : AS :=
 .seq (.ops [o 1 (.box (t 0)),
 (o 2 (.alloc (.agg #[.string ⟨⟨[]⟩⟩, .string ⟨⟨[]⟩⟩, .bool false])))])
 (.seq (.ops [o 3 (.alloc (.agg #[.string ⟨⟨[]⟩⟩, .string ⟨⟨[]⟩⟩, .bool false]))])
 (.seq (.ops [o 4 (.fa 0 (t 1)),
 (o 5 (.load none (t 4))),
 (o 6 (.fa 0 (t 3))),
 (u (.store 1 (t 6) (t 5)))])
 (.seq (.ops [o 7 (.fa 1 (t 1)),
 (o 8 (.load none (t 7))),
 (o 9 (.fa 1 (t 3))),
 (u (.store 1 (t 9) (t 8)))])
 (.seq (.ops [o 10 (.fa 2 (t 1)),
 (o 11 (.load none (t 10))),
 (o 12 (.fa 2 (t 3))),
 (u (.store 1 (t 12) (t 11)))])
 (.seq (.ops [o 13 (.load (some 3) (t 3)),
 (u (.store 3 (t 2) (t 13)))])
 (.ret))))))
theorem h_laws_toWrite : hF Tryz.prog n_laws_toWrite = some c_laws_toWrite.strip := by kernel_rfl
theorem r_laws_toWrite : rF Tryz.prog n_laws_toWrite = some ([.cell 2 69], 14) := by kernel_rfl
abbrev n_slices_IndexFunc___impl_Deed_impl_Deed_ : Nat := 56
def c_slices_IndexFunc___impl_Deed_impl_Deed__l1 : AS :=
 .seq (.ops [o 9 (.bin .lss (t 8) (t 7))])
 (.seq (.cond (t 9) (.skip) (.exit 0))
 (.seq (.block 1 (.seq (.ops [m 10 8,
 m 5 10])
 (.seq (.post [(14, 1, [(6, 3), (7, 3)])] (.ops [m 11 1,
 m 12 0,
 m 13 5,
 (o 14 (.ia 8 (t 12) (t 13))),
 (o 15 (.load (some 8) (t 14))),
 (o 16 (.callv (t 11) [(t 15)]))]))
 (.cond (t 16) (.seq (.ops [m 17 5,
 m 4 17])
 (.ret)) (.skip)))))
 (.kept [0, 1, 7, 8] (.ops [o 18 (.bin .add (t 8) (k 1)),
 m 8 18]))))
def c_slices_IndexFunc___impl_Deed_impl_Deed_ : AS :=
 .seq (.ops [o 4 (.mv (k 0))])
 (.seq (.seq (.ops [m 6 0,
 (o 7 (.lens (t 6))),
 (o 8 (.mv (k 0)))])
 (.block 0 (.loop 2 [(0, 0), (1, 0), (7, 0), (8, 0)] c_slices_IndexFunc___impl_Deed_impl_Deed__l1)))
 (.kept [] (.seq (.ops [o 4 (.mv (k (-1)))])
 (.ret))))
theorem h_slices_IndexFunc___impl_Deed_impl_Deed_ : hF Tryz.prog n_slices_IndexFunc___impl_Deed_impl_Deed_ = some c_slices_IndexFunc___impl_Deed_impl_Deed_.strip := by kernel_rfl
theorem r_slices_IndexFunc___impl_Deed_impl_Deed_ : rF Tryz.prog n_slices_IndexFunc___impl_Deed_impl_Deed_ = some ([.tmp 4], 19) := by kernel_rfl
abbrev n_impl_isTxn : Nat := 57
def c_impl_isTxn : AS :=
 .seq (.ops [o 2 (.mv ff)])
 (.seq (.ops [m 3 0,
 (o 4 (.call 58 [(t 3), (k 1), (k 60)])),
 m 2 4])
 (.ret))
theorem h_impl_isTxn : hF Tryz.prog n_impl_isTxn = some c_impl_isTxn.strip := by kernel_rfl
theorem r_impl_isTxn : rF Tryz.prog n_impl_isTxn = some ([.tmp 2], 5) := by kernel_rfl
abbrev n_impl_within : Nat := 58
def c_impl_within : AS :=
 .seq (.ops [o 6 (.mv ff)])
 (.seq (.ops [m 7 0,
 m 8 1,
 (o 9 (.bin .geq (t 7) (t 8))),
 m 10 9,
 mg 11 10 true 0,
 mg 12 10 true 2,
 (g 13 10 true (.bin .leq (t 11) (t 12))),
 (o 14 (.pick (t 10) (t 13) ff)),
 m 6 14])
 (.ret))
theorem h_impl_within : hF Tryz.prog n_impl_within = some c_impl_within.strip := by kernel_rfl
theorem r_impl_within : rF Tryz.prog n_impl_within = some ([.tmp 6], 15) := by kernel_rfl
abbrev n_impl_isTrue : Nat := 59
def c_impl_isTrue : AS :=
 .seq (.ops [o 2 (.mv ff)])
 (.seq (.ops [m 3 0,
 (o 4 (.call 58 [(t 3), (k 0), (k 100000)])),
 m 2 4])
 (.ret))
theorem h_impl_isTrue : hF Tryz.prog n_impl_isTrue = some c_impl_isTrue.strip := by kernel_rfl
theorem r_impl_isTrue : rF Tryz.prog n_impl_isTrue = some ([.tmp 2], 5) := by kernel_rfl
abbrev n_impl_areGot : Nat := 60
def c_impl_areGot_l1 : AS :=
 .seq (.ops [o 8 (.bin .lss (t 7) (t 6))])
 (.seq (.cond (t 8) (.skip) (.exit 0))
 (.seq (.block 1 (.seq (.ops [m 9 7,
 (o 10 (.ia 3 (t 5) (t 7))),
 (o 11 (.load (some 3) (t 10))),
 (o 4 (.alloc (.agg #[.string ⟨⟨[]⟩⟩, .string ⟨⟨[]⟩⟩, .bool false]))),
 m 3 9,
 (u (.store 3 (t 4) (t 11)))])
 (.seq (.ops [o 12 (.fa 0 (t 4)),
 (o 13 (.load none (t 12))),
 (o 14 (.call 78 [(t 13)])),
 (o 15 (.not (t 14))),
 m 16 15,
 (g 17 16 false (.fa 1 (t 4))),
 (g 18 16 false (.load none (t 17))),
 (g 19 16 false (.fa 2 (t 4))),
 (g 20 16 false (.load none (t 19))),
 (g 21 16 false (.not (t 20))),
 (g 22 16 false (.call 79 [(t 18), (t 21)])),
 (g 23 16 false (.not (t 22))),
 (o 24 (.pick (t 16) tt (t 23))),
 m 25 24,
 mg 26 25 false 0,
 mg 27 25 false 3,
 (g 28 25 false (.sls 3 (t 26) none (some (t 27)) none)),
 (g 29 25 false (.mkf 80 [(t 4)])),
 (g 30 25 false (.call 66 [(t 28), (t 29)])),
 (o 31 (.pick (t 25) tt (t 30)))])
 (.kept [0, 5, 6, 7, 31] (.cond (t 31) (.seq (.ops [o 2 (.mv ff)])
 (.ret)) (.skip))))))
 (.kept [0, 5, 6, 7] (.ops [o 32 (.bin .add (t 7) (k 1)),
 m 7 32]))))
def c_impl_areGot : AS :=
 .seq (.ops [o 2 (.mv ff)])
 (.seq (.seq (.ops [m 5 0,
 (o 6 (.lens (t 5))),
 (o 7 (.mv (k 0)))])
 (.block 0 (.loop 1 [(0, 0), (5, 0), (6, 0), (7, 0)] c_impl_areGot_l1)))
 (.kept [0] (.seq (.ops [m 33 0,
 (o 34 (.lens (t 33))),
 (o 35 (.bin .leq (t 34) (k 8))),
 m 2 35])
 (.ret))))
theorem h_impl_areGot : hF Tryz.prog n_impl_areGot = some c_impl_areGot.strip := by kernel_rfl
theorem r_impl_areGot : rF Tryz.prog n_impl_areGot = some ([.tmp 2], 36) := by kernel_rfl
abbrev n_impl_GoodWrites : Nat := 61
def c_impl_GoodWrites : AS :=
 .seq (.ops [o 2 (.mv ff)])
 (.seq (.ops [m 3 0,
 (o 4 (.lens (t 3))),
 (o 5 (.bin .leq (t 4) (k 24))),
 m 6 5,
 mg 7 6 true 0,
 (g 8 6 true (.call 82 [(t 7)])),
 (g 9 6 true (.call 81 [(t 8)])),
 (o 10 (.pick (t 6) (t 9) ff)),
 m 11 10,
 mg 12 11 true 0,
 (g 13 11 true (.call 83 [(t 12), (.func 84)])),
 (g 14 11 true (.not (t 13))),
 (o 15 (.pick (t 11) (t 14) ff)),
 m 2 15])
 (.ret))
theorem h_impl_GoodWrites : hF Tryz.prog n_impl_GoodWrites = some c_impl_GoodWrites.strip := by kernel_rfl
theorem r_impl_GoodWrites : rF Tryz.prog n_impl_GoodWrites = some ([.tmp 2], 16) := by kernel_rfl
abbrev n_slices_ContainsFunc___int_int_ : Nat := 63
def c_slices_ContainsFunc___int_int_ : AS :=
 .seq (.ops [o 4 (.mv ff)])
 (.seq (.ops [m 5 0,
 m 6 1,
 (o 7 (.call 86 [(t 5), (t 6)])),
 (o 8 (.bin .geq (t 7) (k 0))),
 m 4 8])
 (.ret))
theorem h_slices_ContainsFunc___int_int_ : hF Tryz.prog n_slices_ContainsFunc___int_int_ = some c_slices_ContainsFunc___int_int_.strip := by kernel_rfl
theorem r_slices_ContainsFunc___int_int_ : rF Tryz.prog n_slices_ContainsFunc___int_int_ = some ([.tmp 4], 9) := by kernel_rfl
abbrev n_impl_mayCome_1 : Nat := 64
def c_impl_mayCome_1 : AS :=
 .seq (.ops [o 5 (.mv ff)])
 (.seq (.post [(18, 1, [(6, 3), (7, 3)]), (14, 1, [(6, 3), (7, 3)])] (.rops [(none, o 6 (.load none (t 1))),
 (none, m 7 0),
 (none, o 8 (.bin .shr (t 6) (t 7))),
 (none, o 9 (.bin .and (t 8) (k 1))),
 (none, o 10 (.bin .eql (t 9) (k 0))),
 (none, m 11 10),
 (none, g 12 11 true (.load none (t 2))),
 (none, mg 13 11 true 0),
 (none, g 14 11 true (.ia 8 (t 12) (t 13))),
 (none, g 15 11 true (.load (some 8) (t 14))),
 (none, g 16 11 true (.load none (t 2))),
 (none, g 17 11 true (.load none (t 3))),
 (none, g 18 11 true (.ia 8 (t 16) (t 17))),
 (none, g 19 11 true (.load (some 8) (t 18))),
 (some [], g 20 11 true (.call 65 [(t 15), (t 19)])),
 (none, o 21 (.pick (t 11) (t 20) ff)),
 (none, m 5 21)]))
 (.ret))
theorem h_impl_mayCome_1 : hF Tryz.prog n_impl_mayCome_1 = some c_impl_mayCome_1.strip := by kernel_rfl
theorem r_impl_mayCome_1 : rF Tryz.prog n_impl_mayCome_1 = some ([.tmp 5], 22) := by kernel_rfl
abbrev n_impl_ahead : Nat := 65
def c_impl_ahead : AS :=
 .seq (.ops [o 2 (.box (t 0)),
 (o 3 (.box (t 1))),
 (o 4 (.mv ff))])
 (.seq (.ops [o 5 (.fa 2 (t 2)),
 (o 6 (.load none (t 5))),
 (o 7 (.bin .neq (t 6) (k (-1)))),
 m 8 7,
 (g 9 8 true (.fa 2 (t 2))),
 (g 10 8 true (.load none (t 9))),
 (g 11 8 true (.fa 1 (t 3))),
 (g 12 8 true (.load none (t 11))),
 (g 13 8 true (.bin .lss (t 10) (t 12))),
 (o 14 (.pick (t 8) (t 13) ff)),
 m 4 14])
 (.ret))
theorem h_impl_ahead : hF Tryz.prog n_impl_ahead = some c_impl_ahead.strip := by kernel_rfl
theorem r_impl_ahead : rF Tryz.prog n_impl_ahead = some ([.tmp 4], 15) := by kernel_rfl
abbrev n_slices_ContainsFunc___impl_Got_impl_Got_ : Nat := 66
def c_slices_ContainsFunc___impl_Got_impl_Got_ : AS :=
 .seq (.ops [o 4 (.mv ff)])
 (.seq (.ops [m 5 0,
 m 6 1,
 (o 7 (.call 87 [(t 5), (t 6)])),
 (o 8 (.bin .geq (t 7) (k 0))),
 m 4 8])
 (.ret))
theorem h_slices_ContainsFunc___impl_Got_impl_Got_ : hF Tryz.prog n_slices_ContainsFunc___impl_Got_impl_Got_ = some c_slices_ContainsFunc___impl_Got_impl_Got_.strip := by kernel_rfl
theorem r_slices_ContainsFunc___impl_Got_impl_Got_ : rF Tryz.prog n_slices_ContainsFunc___impl_Got_impl_Got_ = some ([.tmp 4], 9) := by kernel_rfl
abbrev n_impl_Deed_confirms_1 : Nat := 67
def c_impl_Deed_confirms_1 : AS :=
 .seq (.ops [o 2 (.box (t 0)),
 (o 3 (.mv ff))])
 (.seq (.rops [(none, o 4 (.load none (t 1))),
 (none, o 5 (.fa 0 (t 2))),
 (none, o 6 (.load none (t 5))),
 (none, o 8 (.load (some 3) (t 2))),
 (some [o 8 (.load (some 3) (t 2))], o 7 (.call 68 [(t 4), (t 6)])),
 (none, o 9 (.eqs true [(0, 2), (1, 2), (2, 1)] (t 7) (t 8))),
 (none, m 3 9)])
 (.ret))
theorem h_impl_Deed_confirms_1 : hF Tryz.prog n_impl_Deed_confirms_1 = some c_impl_Deed_confirms_1.strip := by kernel_rfl
theorem r_impl_Deed_confirms_1 : rF Tryz.prog n_impl_Deed_confirms_1 = some ([.tmp 3], 10) := by kernel_rfl
abbrev n_impl_gotOf : Nat := 68
def c_impl_gotOf : AS :=
 .seq (.ops [o 4 (.alloc (.agg #[.string ⟨⟨[]⟩⟩, .string ⟨⟨[]⟩⟩, .bool false]))])
 (.seq (.ops [m 8 0,
 m 9 1,
 (o 10 (.call 88 [(t 8), (t 9)])),
 m 7 10,
 (o 11 (.ext 0 (t 7))),
 (o 12 (.ext 1 (t 7))),
 m 5 11,
 m 6 12])
 (.kept [0, 1, 4, 5, 6] (.seq (.seq (.ops [m 13 6,
 (o 14 (.not (t 13)))])
 (.cond (t 14) (.seq (.ops [m 15 1,
 (o 16 (.build (.agg #[.string ⟨⟨[]⟩⟩, .string ⟨⟨[]⟩⟩, .bool false]) [(0, 1, (t 15))])),
 (u (.store 3 (t 4) (t 16)))])
 (.ret)) (.skip)))
 (.seq (.ops [m 17 1,
 m 18 0,
 m 19 5,
 (o 20 (.ia 3 (t 18) (t 19))),
 (o 21 (.fa 1 (t 20))),
 (o 22 (.load none (t 21))),
 (o 23 (.build (.agg #[.string ⟨⟨[]⟩⟩, .string ⟨⟨[]⟩⟩, .bool false]) [(0, 1, (t 17)), (1, 1, (t 22)), (2, 1, tt)])),
 (u (.store 3 (t 4) (t 23)))])
 (.ret)))))
theorem h_impl_gotOf : hF Tryz.prog n_impl_gotOf = some c_impl_gotOf.strip := by kernel_rfl
theorem r_impl_gotOf : rF Tryz.prog n_impl_gotOf = some ([.cell 4 76], 24) := by kernel_rfl
abbrev n_slices_Clone___impl_Write_impl_Write_ : Nat := 69
def c_slices_Clone___impl_Write_impl_Write_ : AS :=
 .seq (.ops [o 2 (.mv (.const (.slice none 0 0)))])
 (.seq (.seq (.ops [m 3 0,
 (o 4 (.isn false (t 3)))])
 (.cond (t 4) (.seq (.ops [o 2 (.mv (.const (.slice none 0 0)))])
 (.ret)) (.skip)))
 (.seq (.ops [o 5 (.bsl 3 (.agg #[.string ⟨⟨[]⟩⟩, .string ⟨⟨[]⟩⟩, .bool false]) 0 []),
 m 6 0,
 (o 7 (.app 3 40 (.agg #[.string ⟨⟨[]⟩⟩, .string ⟨⟨[]⟩⟩, .bool false]) (t 5) (t 6))),
 m 2 7])
 (.ret)))
theorem h_slices_Clone___impl_Write_impl_Write_ : hF Tryz.prog n_slices_Clone___impl_Write_impl_Write_ = some c_slices_Clone___impl_Write_impl_Write_.strip := by kernel_rfl
theorem r_slices_Clone___impl_Write_impl_Write_ : rF Tryz.prog n_slices_Clone___impl_Write_impl_Write_ = some ([.tmp 2], 8) := by kernel_rfl
abbrev n_impl_putWrite : Nat := 70
def c_impl_putWrite : AS :=
 .seq (.ops [o 3 (.box (t 1)),
 (o 4 (.mv (.const (.slice none 0 0))))])
 (.seq (.ops [m 8 0,
 (o 9 (.fa 0 (t 3))),
 (o 10 (.load none (t 9))),
 (o 11 (.call 88 [(t 8), (t 10)])),
 m 7 11,
 (o 12 (.ext 0 (t 7))),
 (o 13 (.ext 1 (t 7))),
 m 5 12,
 m 6 13])
 (.kept [0, 3, 5, 6] (.seq (.seq (.ops [m 14 6])
 (.cond (t 14) (.seq (.ops [m 15 0,
 m 16 5,
 (o 17 (.load (some 3) (t 3))),
 (o 18 (.ia 3 (t 15) (t 16))),
 (u (.store 3 (t 18) (t 17)))])
 (.seq (.ops [m 19 0,
 m 4 19])
 (.ret))) (.skip)))
 (.kept [0, 3, 5] (.seq (.ops [m 20 0,
 m 21 5,
 (o 22 (.load (some 3) (t 3))),
 (o 23 (.bsl 3 (.agg #[.string ⟨⟨[]⟩⟩, .string ⟨⟨[]⟩⟩, .bool false]) 1 [(0, (t 22))])),
 (o 24 (.call 89 [(t 20), (t 21), (t 23)])),
 m 4 24])
 (.ret))))))
theorem h_impl_putWrite : hF Tryz.prog n_impl_putWrite = some c_impl_putWrite.strip := by kernel_rfl
theorem r_impl_putWrite : rF Tryz.prog n_impl_putWrite = some ([.tmp 4], 25) := by kernel_rfl
abbrev n_slices_DeleteFunc___impl_Write_impl_Write_ : Nat := 71
def c_slices_DeleteFunc___impl_Write_impl_Write__l1 : AS :=
 .seq (.seq (.ops [m 16 6,
 m 17 0,
 (o 18 (.lens (t 17))),
 (o 19 (.bin .lss (t 16) (t 18)))])
 (.cond (t 19) (.skip) (.exit 0)))
 (.seq (.block 1 (.seq (.ops [m 22 0,
 m 23 6,
 (o 24 (.ia 3 (t 22) (t 23))),
 (o 25 (.load (some 3) (t 24))),
 (o 7 (.alloc (.agg #[.string ⟨⟨[]⟩⟩, .string ⟨⟨[]⟩⟩, .bool false]))),
 (u (.store 3 (t 7) (t 25)))])
 (.seq (.ops [m 26 1,
 (o 27 (.load (some 3) (t 7))),
 (o 28 (.callv (t 26) [(t 27)])),
 (o 29 (.not (t 28)))])
 (.cond (t 29) (.seq (.ops [m 30 0,
 m 31 5,
 (o 32 (.load (some 3) (t 7))),
 (o 33 (.ia 3 (t 30) (t 31))),
 (u (.store 3 (t 33) (t 32)))])
 (.ops [m 34 5,
 (o 35 (.bin .add (t 34) (k 1))),
 m 5 35])) (.skip)))))
 (.kept [0, 1, 5, 6] (.ops [m 20 6,
 (o 21 (.bin .add (t 20) (k 1))),
 m 6 21])))
def c_slices_DeleteFunc___impl_Write_impl_Write_ : AS :=
 .seq (.ops [o 4 (.mv (.const (.slice none 0 0)))])
 (.seq (.ops [m 8 0,
 m 9 1,
 (o 10 (.call 90 [(t 8), (t 9)])),
 m 5 10])
 (.seq (.seq (.ops [m 11 5,
 (o 12 (.bin .eql (t 11) (k (-1))))])
 (.cond (t 12) (.seq (.post [(4, 0, [])] (.ops [m 13 0,
 m 4 13]))
 (.ret)) (.skip)))
 (.seq (.seq (.ops [m 14 5,
 (o 15 (.bin .add (t 14) (k 1))),
 m 6 15])
 (.block 0 (.loop 2 [(0, 0), (1, 0), (5, 0), (6, 0)] c_slices_DeleteFunc___impl_Write_impl_Write__l1)))
 (.kept [0, 5] (.seq (.ops [m 36 0,
 m 37 5,
 (o 38 (.sls 3 (t 36) (some (t 37)) none none)),
 (u (.clr 3 (.agg #[.string ⟨⟨[]⟩⟩, .string ⟨⟨[]⟩⟩, .bool false]) (t 38)))])
 (.seq (.post [(4, 0, [])] (.ops [m 39 0,
 m 40 5,
 (o 41 (.sls 3 (t 39) none (some (t 40)) none)),
 m 4 41]))
 (.ret)))))))
theorem h_slices_DeleteFunc___impl_Write_impl_Write_ : hF Tryz.prog n_slices_DeleteFunc___impl_Write_impl_Write_ = some c_slices_DeleteFunc___impl_Write_impl_Write_.strip := by kernel_rfl
theorem r_slices_DeleteFunc___impl_Write_impl_Write_ : rF Tryz.prog n_slices_DeleteFunc___impl_Write_impl_Write_ = some ([.tmp 4], 42) := by kernel_rfl
abbrev n_impl_putRows_1 : Nat := 72
def c_impl_putRows_1 : AS :=
 .seq (.ops [o 1 (.box (t 0)),
 (o 2 (.mv ff))])
 (.seq (.ops [o 3 (.fa 2 (t 1)),
 (o 4 (.load none (t 3))),
 m 2 4])
 (.ret))
theorem h_impl_putRows_1 : hF Tryz.prog n_impl_putRows_1 = some c_impl_putRows_1.strip := by kernel_rfl
theorem r_impl_putRows_1 : rF Tryz.prog n_impl_putRows_1 = some ([.tmp 2], 5) := by kernel_rfl
abbrev n_laws_eqGot : Nat := 73
def c_laws_eqGot : AS :=
 .seq (.ops [o 2 (.box (t 0)),
 (o 3 (.box (t 1))),
 (o 4 (.mv ff))])
 (.seq (.seq (.ops [o 5 (.fa 0 (t 2)),
 (o 6 (.load none (t 5))),
 (o 7 (.fa 0 (t 3))),
 (o 8 (.load none (t 7))),
 (o 9 (.bin .neq (t 6) (t 8)))])
 (.cond (t 9) (.seq (.ops [o 4 (.mv ff)])
 (.ret)) (.skip)))
 (.kept [2, 3] (.seq (.seq (.ops [o 10 (.fa 1 (t 2)),
 (o 11 (.load none (t 10))),
 (o 12 (.fa 1 (t 3))),
 (o 13 (.load none (t 12))),
 (o 14 (.bin .neq (t 11) (t 13)))])
 (.cond (t 14) (.seq (.ops [o 4 (.mv ff)])
 (.ret)) (.skip)))
 (.kept [2, 3] (.seq (.seq (.ops [o 15 (.fa 2 (t 2)),
 (o 16 (.load none (t 15))),
 (o 17 (.fa 2 (t 3))),
 (o 18 (.load none (t 17))),
 (o 19 (.eqb true (t 16) (t 18)))])
 (.cond (t 19) (.seq (.ops [o 4 (.mv ff)])
 (.ret)) (.skip)))
 (.kept [] (.seq (.ops [o 4 (.mv tt)])
 (.ret))))))))
theorem h_laws_eqGot : hF Tryz.prog n_laws_eqGot = some c_laws_eqGot.strip := by kernel_rfl
theorem r_laws_eqGot : rF Tryz.prog n_laws_eqGot = some ([.tmp 4], 20) := by kernel_rfl
abbrev n_laws_eqWrite : Nat := 74
def c_laws_eqWrite : AS :=
 .seq (.ops [o 2 (.box (t 0)),
 (o 3 (.box (t 1))),
 (o 4 (.mv ff))])
 (.seq (.seq (.ops [o 5 (.fa 0 (t 2)),
 (o 6 (.load none (t 5))),
 (o 7 (.fa 0 (t 3))),
 (o 8 (.load none (t 7))),
 (o 9 (.bin .neq (t 6) (t 8)))])
 (.cond (t 9) (.seq (.ops [o 4 (.mv ff)])
 (.ret)) (.skip)))
 (.kept [2, 3] (.seq (.seq (.ops [o 10 (.fa 1 (t 2)),
 (o 11 (.load none (t 10))),
 (o 12 (.fa 1 (t 3))),
 (o 13 (.load none (t 12))),
 (o 14 (.bin .neq (t 11) (t 13)))])
 (.cond (t 14) (.seq (.ops [o 4 (.mv ff)])
 (.ret)) (.skip)))
 (.kept [2, 3] (.seq (.seq (.ops [o 15 (.fa 2 (t 2)),
 (o 16 (.load none (t 15))),
 (o 17 (.fa 2 (t 3))),
 (o 18 (.load none (t 17))),
 (o 19 (.eqb true (t 16) (t 18)))])
 (.cond (t 19) (.seq (.ops [o 4 (.mv ff)])
 (.ret)) (.skip)))
 (.kept [] (.seq (.ops [o 4 (.mv tt)])
 (.ret))))))))
theorem h_laws_eqWrite : hF Tryz.prog n_laws_eqWrite = some c_laws_eqWrite.strip := by kernel_rfl
theorem r_laws_eqWrite : rF Tryz.prog n_laws_eqWrite = some ([.tmp 4], 20) := by kernel_rfl
abbrev n_spec_l3Key : Nat := 75
def c_spec_l3Key : AS :=
 .seq (.ops [o 2 (.mv ff)])
 (.seq (.ops [m 3 0,
 (o 4 (.lent (t 3))),
 (o 5 (.call 46 [(t 4), (k 1), (k 12)])),
 m 6 5,
 mg 7 6 true 0,
 (g 8 6 true (.call 91 [(t 7), (.const (.string ⟨⟨[46, 47]⟩⟩))])),
 (o 9 (.pick (t 6) (t 8) ff)),
 m 2 9])
 (.ret))
theorem h_spec_l3Key : hF Tryz.prog n_spec_l3Key = some c_spec_l3Key.strip := by kernel_rfl
theorem r_spec_l3Key : rF Tryz.prog n_spec_l3Key = some ([.tmp 2], 10) := by kernel_rfl
abbrev n_spec_l3Val : Nat := 76
def c_spec_l3Val : AS :=
 .seq (.ops [o 2 (.mv ff)])
 (.seq (.ops [m 3 0,
 (o 4 (.lent (t 3))),
 (o 5 (.bin .leq (t 4) (k 24))),
 m 6 5,
 mg 7 6 true 0,
 (g 8 6 true (.call 91 [(t 7), (.const (.string ⟨⟨[46, 45, 44, 95]⟩⟩))])),
 (o 9 (.pick (t 6) (t 8) ff)),
 m 2 9])
 (.ret))
theorem h_spec_l3Val : hF Tryz.prog n_spec_l3Val = some c_spec_l3Val.strip := by kernel_rfl
theorem r_spec_l3Val : rF Tryz.prog n_spec_l3Val = some ([.tmp 2], 10) := by kernel_rfl
abbrev n_spec_l3Write : Nat := 77
def c_spec_l3Write : AS :=
 .seq (.ops [o 6 (.mv ff)])
 (.seq (.ops [m 7 0,
 (o 8 (.call 75 [(t 7)])),
 m 9 8,
 mg 10 9 true 1,
 (g 11 9 true (.call 76 [(t 10)])),
 (o 12 (.pick (t 9) (t 11) ff)),
 m 13 12,
 mg 14 13 true 2,
 (g 15 13 true (.not (t 14))),
 mg 16 13 true 15,
 mg 17 16 false 1,
 (g 18 16 false (.bin .eql (t 17) (.const (.string ⟨⟨[]⟩⟩)))),
 (g 19 13 true (.pick (t 16) tt (t 18))),
 (o 20 (.pick (t 13) (t 19) ff)),
 m 6 20])
 (.ret))
theorem h_spec_l3Write : hF Tryz.prog n_spec_l3Write = some c_spec_l3Write.strip := by kernel_rfl
theorem r_spec_l3Write : rF Tryz.prog n_spec_l3Write = some ([.tmp 6], 21) := by kernel_rfl
abbrev n_impl_GoodKey : Nat := 78
def c_impl_GoodKey : AS :=
 .seq (.ops [o 2 (.mv ff)])
 (.seq (.ops [m 3 0,
 (o 4 (.lent (t 3))),
 (o 5 (.call 58 [(t 4), (k 1), (k 12)])),
 m 6 5,
 mg 7 6 true 0,
 (g 8 6 true (.call 92 [(t 7), (.const (.string ⟨⟨[46, 47]⟩⟩))])),
 (o 9 (.pick (t 6) (t 8) ff)),
 m 2 9])
 (.ret))
theorem h_impl_GoodKey : hF Tryz.prog n_impl_GoodKey = some c_impl_GoodKey.strip := by kernel_rfl
theorem r_impl_GoodKey : rF Tryz.prog n_impl_GoodKey = some ([.tmp 2], 10) := by kernel_rfl
abbrev n_impl_isStored : Nat := 79
def c_impl_isStored : AS :=
 .seq (.ops [o 4 (.mv ff)])
 (.seq (.ops [m 5 0,
 (o 6 (.call 93 [(t 5)])),
 m 7 6,
 mg 8 7 true 1,
 mg 9 7 true 8,
 mg 10 9 true 0,
 (g 11 9 true (.bin .neq (t 10) (.const (.string ⟨⟨[]⟩⟩)))),
 (g 12 7 true (.pick (t 9) (t 11) ff)),
 (g 13 7 true (.not (t 12))),
 (o 14 (.pick (t 7) (t 13) ff)),
 m 4 14])
 (.ret))
theorem h_impl_isStored : hF Tryz.prog n_impl_isStored = some c_impl_isStored.strip := by kernel_rfl
theorem r_impl_isStored : rF Tryz.prog n_impl_isStored = some ([.tmp 4], 15) := by kernel_rfl
abbrev n_impl_areGot_1 : Nat := 80
def c_impl_areGot_1 : AS :=
 .seq (.ops [o 2 (.box (t 0)),
 (o 3 (.mv ff))])
 (.seq (.ops [o 4 (.fa 0 (t 2)),
 (o 5 (.load none (t 4))),
 (o 6 (.fa 0 (t 1))),
 (o 7 (.load none (t 6))),
 (o 8 (.bin .eql (t 5) (t 7))),
 m 3 8])
 (.ret))
theorem h_impl_areGot_1 : hF Tryz.prog n_impl_areGot_1 = some c_impl_areGot_1.strip := by kernel_rfl
theorem r_impl_areGot_1 : rF Tryz.prog n_impl_areGot_1 = some ([.tmp 3], 9) := by kernel_rfl
abbrev n_impl_areRising : Nat := 81
def c_impl_areRising_l1 : AS :=
 .seq (.ops [o 8 (.bin .lss (t 7) (t 6))])
 (.seq (.cond (t 8) (.skip) (.exit 0))
 (.seq (.block 1 (.seq (.ops [m 9 7,
 (o 10 (.ia 1 (t 5) (t 7))),
 (o 11 (.load none (t 10))),
 m 3 9,
 m 4 11])
 (.seq (.ops [m 12 4,
 (o 13 (.call 78 [(t 12)])),
 (o 14 (.not (t 13))),
 m 15 14,
 mg 16 15 false 3,
 (g 17 15 false (.bin .gtr (t 16) (k 0))),
 mg 18 15 false 17,
 mg 19 18 true 4,
 mg 20 18 true 0,
 mg 21 18 true 3,
 (g 22 18 true (.bin .sub (t 21) (k 1))),
 (g 23 18 true (.ia 1 (t 20) (t 22))),
 (g 24 18 true (.load none (t 23))),
 (g 25 18 true (.bin .leq (t 19) (t 24))),
 (g 26 15 false (.pick (t 18) (t 25) ff)),
 (o 27 (.pick (t 15) tt (t 26)))])
 (.kept [0, 5, 6, 7, 27] (.cond (t 27) (.seq (.ops [o 2 (.mv ff)])
 (.ret)) (.skip))))))
 (.kept [0, 5, 6, 7] (.ops [o 28 (.bin .add (t 7) (k 1)),
 m 7 28]))))
def c_impl_areRising : AS :=
 .seq (.ops [o 2 (.mv ff)])
 (.seq (.seq (.ops [m 5 0,
 (o 6 (.lens (t 5))),
 (o 7 (.mv (k 0)))])
 (.block 0 (.loop 1 [(0, 0), (5, 0), (6, 0), (7, 0)] c_impl_areRising_l1)))
 (.kept [] (.seq (.ops [o 2 (.mv tt)])
 (.ret))))
theorem h_impl_areRising : hF Tryz.prog n_impl_areRising = some c_impl_areRising.strip := by kernel_rfl
theorem r_impl_areRising : rF Tryz.prog n_impl_areRising = some ([.tmp 2], 29) := by kernel_rfl
abbrev n_impl_writeKeys : Nat := 82
def c_impl_writeKeys_l1 : AS :=
 .seq (.ops [o 10 (.bin .lss (t 9) (t 8))])
 (.seq (.cond (t 10) (.skip) (.exit 0))
 (.seq (.block 1 (.seq (.ops [o 11 (.ia 3 (t 7) (t 9)),
 (o 12 (.load (some 3) (t 11))),
 (o 5 (.alloc (.agg #[.string ⟨⟨[]⟩⟩, .string ⟨⟨[]⟩⟩, .bool false]))),
 (u (.store 3 (t 5) (t 12)))])
 (.ops [m 13 3,
 (o 14 (.fa 0 (t 5))),
 (o 15 (.load none (t 14))),
 (o 16 (.bsl 1 (.string ⟨⟨[]⟩⟩) 1 [(0, (t 15))])),
 (o 17 (.app 1 16 (.string ⟨⟨[]⟩⟩) (t 13) (t 16))),
 m 3 17])))
 (.kept [3, 7, 8, 9] (.ops [o 18 (.bin .add (t 9) (k 1)),
 m 9 18]))))
def c_impl_writeKeys : AS :=
 .seq (.ops [o 2 (.mv (.const (.slice none 0 0)))])
 (.seq (.ops [o 6 (.bsl 1 (.string ⟨⟨[]⟩⟩) 0 []),
 m 3 6])
 (.seq (.seq (.ops [m 7 0,
 (o 8 (.lens (t 7))),
 (o 9 (.mv (k 0)))])
 (.block 0 (.loop 1 [(3, 1), (7, 0), (8, 0), (9, 0)] c_impl_writeKeys_l1)))
 (.kept [3] (.seq (.ops [m 19 3,
 m 2 19])
 (.ret)))))
theorem h_impl_writeKeys : hF Tryz.prog n_impl_writeKeys = some c_impl_writeKeys.strip := by kernel_rfl
theorem r_impl_writeKeys : rF Tryz.prog n_impl_writeKeys = some ([.tmp 2], 20) := by kernel_rfl
abbrev n_slices_ContainsFunc___impl_Write_impl_Write_ : Nat := 83
def c_slices_ContainsFunc___impl_Write_impl_Write_ : AS :=
 .seq (.ops [o 4 (.mv ff)])
 (.seq (.ops [m 5 0,
 m 6 1,
 (o 7 (.call 90 [(t 5), (t 6)])),
 (o 8 (.bin .geq (t 7) (k 0))),
 m 4 8])
 (.ret))
theorem h_slices_ContainsFunc___impl_Write_impl_Write_ : hF Tryz.prog n_slices_ContainsFunc___impl_Write_impl_Write_ = some c_slices_ContainsFunc___impl_Write_impl_Write_.strip := by kernel_rfl
theorem r_slices_ContainsFunc___impl_Write_impl_Write_ : rF Tryz.prog n_slices_ContainsFunc___impl_Write_impl_Write_ = some ([.tmp 4], 9) := by kernel_rfl
abbrev n_impl_GoodWrites_1 : Nat := 84
def c_impl_GoodWrites_1 : AS :=
 .seq (.ops [o 1 (.box (t 0)),
 (o 2 (.mv ff))])
 (.seq (.ops [o 3 (.fa 1 (t 1)),
 (o 4 (.load none (t 3))),
 (o 5 (.fa 2 (t 1))),
 (o 6 (.load none (t 5))),
 (o 7 (.call 79 [(t 4), (t 6)])),
 (o 8 (.not (t 7))),
 m 2 8])
 (.ret))
theorem h_impl_GoodWrites_1 : hF Tryz.prog n_impl_GoodWrites_1 = some c_impl_GoodWrites_1.strip := by kernel_rfl
theorem r_impl_GoodWrites_1 : rF Tryz.prog n_impl_GoodWrites_1 = some ([.tmp 2], 9) := by kernel_rfl
abbrev n_slices_IndexFunc___int_int_ : Nat := 86
def c_slices_IndexFunc___int_int__l1 : AS :=
 .seq (.ops [o 9 (.bin .lss (t 8) (t 7))])
 (.seq (.cond (t 9) (.skip) (.exit 0))
 (.seq (.block 1 (.seq (.ops [m 10 8,
 m 5 10])
 (.seq (.ops [m 11 1,
 m 12 0,
 m 13 5,
 (o 14 (.ia 1 (t 12) (t 13))),
 (o 15 (.load none (t 14))),
 (o 16 (.callv (t 11) [(t 15)]))])
 (.cond (t 16) (.seq (.ops [m 17 5,
 m 4 17])
 (.ret)) (.skip)))))
 (.kept [0, 1, 7, 8] (.ops [o 18 (.bin .add (t 8) (k 1)),
 m 8 18]))))
def c_slices_IndexFunc___int_int_ : AS :=
 .seq (.ops [o 4 (.mv (k 0))])
 (.seq (.seq (.ops [m 6 0,
 (o 7 (.lens (t 6))),
 (o 8 (.mv (k 0)))])
 (.block 0 (.loop 2 [(0, 0), (1, 0), (7, 0), (8, 0)] c_slices_IndexFunc___int_int__l1)))
 (.kept [] (.seq (.ops [o 4 (.mv (k (-1)))])
 (.ret))))
theorem h_slices_IndexFunc___int_int_ : hF Tryz.prog n_slices_IndexFunc___int_int_ = some c_slices_IndexFunc___int_int_.strip := by kernel_rfl
theorem r_slices_IndexFunc___int_int_ : rF Tryz.prog n_slices_IndexFunc___int_int_ = some ([.tmp 4], 19) := by kernel_rfl
abbrev n_slices_IndexFunc___impl_Got_impl_Got_ : Nat := 87
def c_slices_IndexFunc___impl_Got_impl_Got__l1 : AS :=
 .seq (.ops [o 9 (.bin .lss (t 8) (t 7))])
 (.seq (.cond (t 9) (.skip) (.exit 0))
 (.seq (.block 1 (.seq (.ops [m 10 8,
 m 5 10])
 (.seq (.ops [m 11 1,
 m 12 0,
 m 13 5,
 (o 14 (.ia 3 (t 12) (t 13))),
 (o 15 (.load (some 3) (t 14))),
 (o 16 (.callv (t 11) [(t 15)]))])
 (.cond (t 16) (.seq (.ops [m 17 5,
 m 4 17])
 (.ret)) (.skip)))))
 (.kept [0, 1, 7, 8] (.ops [o 18 (.bin .add (t 8) (k 1)),
 m 8 18]))))
def c_slices_IndexFunc___impl_Got_impl_Got_ : AS :=
 .seq (.ops [o 4 (.mv (k 0))])
 (.seq (.seq (.ops [m 6 0,
 (o 7 (.lens (t 6))),
 (o 8 (.mv (k 0)))])
 (.block 0 (.loop 2 [(0, 0), (1, 0), (7, 0), (8, 0)] c_slices_IndexFunc___impl_Got_impl_Got__l1)))
 (.kept [] (.seq (.ops [o 4 (.mv (k (-1)))])
 (.ret))))
theorem h_slices_IndexFunc___impl_Got_impl_Got_ : hF Tryz.prog n_slices_IndexFunc___impl_Got_impl_Got_ = some c_slices_IndexFunc___impl_Got_impl_Got_.strip := by kernel_rfl
theorem r_slices_IndexFunc___impl_Got_impl_Got_ : rF Tryz.prog n_slices_IndexFunc___impl_Got_impl_Got_ = some ([.tmp 4], 19) := by kernel_rfl
abbrev n_impl_findWrite : Nat := 88
def c_impl_findWrite : AS :=
 .seq (.ops [o 4 (.mv (k 0)),
 (o 5 (.mv ff))])
 (.seq (.ops [m 6 0,
 m 7 1,
 (o 8 (.call 98 [(t 6), (t 7), (.func 99)])),
 (o 9 (.ext 0 (t 8))),
 (o 10 (.ext 1 (t 8))),
 m 4 9,
 m 5 10])
 (.ret))
theorem h_impl_findWrite : hF Tryz.prog n_impl_findWrite = some c_impl_findWrite.strip := by kernel_rfl
theorem r_impl_findWrite : rF Tryz.prog n_impl_findWrite = some ([.tmp 4, .tmp 5], 11) := by kernel_rfl
abbrev n_slices_Insert___impl_Write_impl_Write_ : Nat := 89
def c_slices_Insert___impl_Write_impl_Write_ : AS :=
 .seq (.ops [o 6 (.mv (.const (.slice none 0 0)))])
 (.seq (.ops [m 10 0,
 m 11 1,
 (o 12 (.sls 3 (t 10) (some (t 11)) none none))])
 (.seq (.ops [m 13 2,
 (o 14 (.lens (t 13))),
 m 7 14])
 (.seq (.seq (.ops [m 15 7,
 (o 16 (.bin .eql (t 15) (k 0)))])
 (.cond (t 16) (.seq (.post [(6, 0, [])] (.ops [m 17 0,
 m 6 17]))
 (.ret)) (.skip)))
 (.seq (.ops [m 18 0,
 (o 19 (.lens (t 18))),
 m 8 19])
 (.seq (.seq (.ops [m 20 1,
 m 21 8,
 (o 22 (.bin .eql (t 20) (t 21)))])
 (.cond (t 22) (.seq (.post [(6, 0, [])] (.ops [m 23 0,
 m 24 2,
 (o 25 (.app 3 40 (.agg #[.string ⟨⟨[]⟩⟩, .string ⟨⟨[]⟩⟩, .bool false]) (t 23) (t 24))),
 m 6 25]))
 (.ret)) (.skip)))
 (.kept [0, 1, 2, 7, 8] (.seq (.seq (.ops [m 26 8,
 m 27 7,
 (o 28 (.bin .add (t 26) (t 27))),
 m 29 0,
 (o 30 (.capo (t 29))),
 (o 31 (.bin .gtr (t 28) (t 30)))])
 (.cond (t 31) (.seq (.ops [m 32 0,
 m 33 1,
 (o 34 (.sls 3 (t 32) none (some (t 33)) none)),
 m 35 8,
 m 36 7,
 (o 37 (.bin .add (t 35) (t 36))),
 m 38 1,
 (o 39 (.bin .sub (t 37) (t 38))),
 (o 40 (.apz 3 40 (.agg #[.string ⟨⟨[]⟩⟩, .string ⟨⟨[]⟩⟩, .bool false]) (t 34) (t 39))),
 m 9 40])
 (.kept [0, 1, 2, 7, 9] (.seq (.ops [m 41 9,
 m 42 1,
 (o 43 (.sls 3 (t 41) (some (t 42)) none none)),
 m 44 2,
 (o 45 (.cpy 3 (t 43) (t 44)))])
 (.seq (.rops [(none, m 46 9),
 (none, m 47 1),
 (none, m 48 7),
 (none, o 49 (.bin .add (t 47) (t 48))),
 (none, o 50 (.sls 3 (t 46) (some (t 49)) none none)),
 (none, m 51 0),
 (none, m 52 1),
 (none, o 53 (.sls 3 (t 51) (some (t 52)) none none)),
 (some [], o 54 (.cpy 3 (t 50) (t 53)))])
 (.kept [9] (.seq (.post [(6, 0, [])] (.ops [m 55 9,
 m 6 55]))
 (.ret))))))) (.skip)))
 (.kept [0, 1, 2, 7, 8] (.seq (.ops [m 56 0,
 m 57 8,
 m 58 7,
 (o 59 (.bin .add (t 57) (t 58))),
 (o 60 (.sls 3 (t 56) none (some (t 59)) none)),
 m 0 60])
 (.seq (.seq (.ops [m 61 2,
 m 62 0,
 m 63 1,
 m 64 7,
 (o 65 (.bin .add (t 63) (t 64))),
 (o 66 (.sls 3 (t 62) (some (t 65)) none none)),
 (o 67 (.xcall 101 [(t 61), (t 66)])),
 (o 68 (.not (t 67)))])
 (.kept [0, 1, 2, 7, 8, 68] (.cond (t 68) (.seq (.rops [(none, m 69 0),
 (none, m 70 1),
 (none, m 71 7),
 (none, o 72 (.bin .add (t 70) (t 71))),
 (none, o 73 (.sls 3 (t 69) (some (t 72)) none none)),
 (none, m 74 0),
 (none, m 75 1),
 (none, o 76 (.sls 3 (t 74) (some (t 75)) none none)),
 (some [], o 77 (.cpy 3 (t 73) (t 76)))])
 (.kept [0, 1, 2] (.seq (.ops [m 78 0,
 m 79 1,
 (o 80 (.sls 3 (t 78) (some (t 79)) none none)),
 m 81 2,
 (o 82 (.cpy 3 (t 80) (t 81)))])
 (.seq (.post [(6, 0, [])] (.ops [m 83 0,
 m 6 83]))
 (.ret))))) (.skip))))
 (.kept [0, 1, 2, 7, 8] (.seq (.ops [m 84 0,
 m 85 8,
 (o 86 (.sls 3 (t 84) (some (t 85)) none none)),
 m 87 2,
 (o 88 (.cpy 3 (t 86) (t 87)))])
 (.seq (.ops [m 89 0,
 m 90 1,
 (o 91 (.sls 3 (t 89) (some (t 90)) none none)),
 m 92 7,
 (o 93 (.call 102 [(t 91), (t 92)]))])
 (.seq (.post [(6, 0, [])] (.ops [m 94 0,
 m 6 94]))
 (.ret)))))))))))))))
theorem h_slices_Insert___impl_Write_impl_Write_ : hF Tryz.prog n_slices_Insert___impl_Write_impl_Write_ = some c_slices_Insert___impl_Write_impl_Write_.strip := by kernel_rfl
theorem r_slices_Insert___impl_Write_impl_Write_ : rF Tryz.prog n_slices_Insert___impl_Write_impl_Write_ = some ([.tmp 6], 95) := by kernel_rfl
abbrev n_slices_IndexFunc___impl_Write_impl_Write_ : Nat := 90
def c_slices_IndexFunc___impl_Write_impl_Write__l1 : AS :=
 .seq (.ops [o 9 (.bin .lss (t 8) (t 7))])
 (.seq (.cond (t 9) (.skip) (.exit 0))
 (.seq (.block 1 (.seq (.ops [m 10 8,
 m 5 10])
 (.seq (.ops [m 11 1,
 m 12 0,
 m 13 5,
 (o 14 (.ia 3 (t 12) (t 13))),
 (o 15 (.load (some 3) (t 14))),
 (o 16 (.callv (t 11) [(t 15)]))])
 (.cond (t 16) (.seq (.ops [m 17 5,
 m 4 17])
 (.ret)) (.skip)))))
 (.kept [0, 1, 7, 8] (.ops [o 18 (.bin .add (t 8) (k 1)),
 m 8 18]))))
def c_slices_IndexFunc___impl_Write_impl_Write_ : AS :=
 .seq (.ops [o 4 (.mv (k 0))])
 (.seq (.seq (.ops [m 6 0,
 (o 7 (.lens (t 6))),
 (o 8 (.mv (k 0)))])
 (.block 0 (.loop 2 [(0, 0), (1, 0), (7, 0), (8, 0)] c_slices_IndexFunc___impl_Write_impl_Write__l1)))
 (.kept [] (.seq (.ops [o 4 (.mv (k (-1)))])
 (.ret))))
theorem h_slices_IndexFunc___impl_Write_impl_Write_ : hF Tryz.prog n_slices_IndexFunc___impl_Write_impl_Write_ = some c_slices_IndexFunc___impl_Write_impl_Write_.strip := by kernel_rfl
theorem r_slices_IndexFunc___impl_Write_impl_Write_ : rF Tryz.prog n_slices_IndexFunc___impl_Write_impl_Write_ = some ([.tmp 4], 19) := by kernel_rfl
abbrev n_spec_l3Bytes : Nat := 91
def c_spec_l3Bytes_l1 : AS :=
 .seq (.seq (.ops [m 36 7,
 m 37 1,
 (o 38 (.lent (t 37))),
 (o 39 (.bin .lss (t 36) (t 38)))])
 (.cond (t 39) (.skip) (.exit 2)))
 (.seq (.block 3 (.dops [m 42 6,
 m 43 42,
 mg 44 43 false 0,
 mg 45 43 false 5,
 (g 46 43 false (.ix (t 44) (t 45))),
 mg 47 43 false 1,
 mg 48 43 false 7,
 (g 49 43 false (.ix (t 47) (t 48))),
 (g 50 43 false (.bin .eql (t 46) (t 49))),
 (o 51 (.pick (t 43) tt (t 50))),
 m 6 51]))
 (.kept [0, 1, 5, 6, 7] (.ops [m 40 7,
 (o 41 (.bin .add (t 40) (k 1))),
 m 7 41])))
def c_spec_l3Bytes_l2 : AS :=
 .seq (.seq (.ops [m 8 5,
 m 9 0,
 (o 10 (.lent (t 9))),
 (o 11 (.bin .lss (t 8) (t 10)))])
 (.cond (t 11) (.skip) (.exit 0)))
 (.seq (.block 1 (.seq (.ops [m 14 0,
 m 15 5,
 (o 16 (.ix (t 14) (t 15))),
 (o 17 (.bin .geq (t 16) (.const (.int .u8 97)))),
 m 18 17,
 mg 19 18 true 0,
 mg 20 18 true 5,
 (g 21 18 true (.ix (t 19) (t 20))),
 (g 22 18 true (.bin .leq (t 21) (.const (.int .u8 122)))),
 (o 23 (.pick (t 18) (t 22) ff)),
 m 24 23,
 mg 25 24 false 0,
 mg 26 24 false 5,
 (g 27 24 false (.ix (t 25) (t 26))),
 (g 28 24 false (.bin .geq (t 27) (.const (.int .u8 48)))),
 mg 29 24 false 28,
 mg 30 29 true 0,
 mg 31 29 true 5,
 (g 32 29 true (.ix (t 30) (t 31))),
 (g 33 29 true (.bin .leq (t 32) (.const (.int .u8 57)))),
 (g 34 24 false (.pick (t 29) (t 33) ff)),
 (o 35 (.pick (t 24) tt (t 34))),
 m 6 35])
 (.kept [0, 1, 5, 6] (.seq (.seq (.ops [o 7 (.mv (k 0))])
 (.block 2 (.loop 2 [(0, 0), (1, 0), (5, 0), (6, 0), (7, 0)] c_spec_l3Bytes_l1)))
 (.kept [0, 1, 5, 6] (.seq (.ops [m 52 6,
 (o 53 (.not (t 52)))])
 (.cond (t 53) (.seq (.ops [o 4 (.mv ff)])
 (.ret)) (.skip))))))))
 (.kept [0, 1, 5] (.ops [m 12 5,
 (o 13 (.bin .add (t 12) (k 1))),
 m 5 13])))
def c_spec_l3Bytes : AS :=
 .seq (.ops [o 4 (.mv ff)])
 (.seq (.seq (.ops [o 5 (.mv (k 0))])
 (.block 0 (.loop 2 [(0, 0), (1, 0), (5, 0)] c_spec_l3Bytes_l2)))
 (.kept [] (.seq (.ops [o 4 (.mv tt)])
 (.ret))))
theorem h_spec_l3Bytes : hF Tryz.prog n_spec_l3Bytes = some c_spec_l3Bytes.strip := by kernel_rfl
theorem r_spec_l3Bytes : rF Tryz.prog n_spec_l3Bytes = some ([.tmp 4], 54) := by kernel_rfl
abbrev n_impl_hasBytes : Nat := 92
def c_impl_hasBytes_l1 : AS :=
 .seq (.ops [o 9 (.bin .lss (t 8) (t 7))])
 (.seq (.cond (t 9) (.skip) (.exit 0))
 (.seq (.block 1 (.seq (.ops [m 10 8,
 m 5 10])
 (.seq (.ops [m 11 0,
 m 12 5,
 (o 13 (.ix (t 11) (t 12))),
 (o 14 (.call 103 [(t 13)])),
 (o 15 (.not (t 14))),
 m 16 15,
 mg 17 16 true 1,
 mg 18 16 true 0,
 mg 19 16 true 5,
 (g 20 16 true (.ix (t 18) (t 19))),
 (g 21 16 true (.call 104 [(t 17), (t 20)])),
 (g 22 16 true (.bin .lss (t 21) (k 0))),
 (o 23 (.pick (t 16) (t 22) ff))])
 (.kept [0, 1, 7, 8, 23] (.cond (t 23) (.seq (.ops [o 4 (.mv ff)])
 (.ret)) (.skip))))))
 (.kept [0, 1, 7, 8] (.ops [o 24 (.bin .add (t 8) (k 1)),
 m 8 24]))))
def c_impl_hasBytes : AS :=
 .seq (.ops [o 4 (.mv ff)])
 (.seq (.seq (.ops [m 6 0,
 (o 7 (.lent (t 6))),
 (o 8 (.mv (k 0)))])
 (.block 0 (.loop 2 [(0, 0), (1, 0), (7, 0), (8, 0)] c_impl_hasBytes_l1)))
 (.kept [] (.seq (.ops [o 4 (.mv tt)])
 (.ret))))
theorem h_impl_hasBytes : hF Tryz.prog n_impl_hasBytes = some c_impl_hasBytes.strip := by kernel_rfl
theorem r_impl_hasBytes : rF Tryz.prog n_impl_hasBytes = some ([.tmp 4], 25) := by kernel_rfl
abbrev n_impl_GoodVal : Nat := 93
def c_impl_GoodVal : AS :=
 .seq (.ops [o 2 (.mv ff)])
 (.seq (.ops [m 3 0,
 (o 4 (.lent (t 3))),
 (o 5 (.bin .leq (t 4) (k 24))),
 m 6 5,
 mg 7 6 true 0,
 (g 8 6 true (.call 92 [(t 7), (.const (.string ⟨⟨[46, 45, 44, 95]⟩⟩))])),
 (o 9 (.pick (t 6) (t 8) ff)),
 m 2 9])
 (.ret))
theorem h_impl_GoodVal : hF Tryz.prog n_impl_GoodVal = some c_impl_GoodVal.strip := by kernel_rfl
theorem r_impl_GoodVal : rF Tryz.prog n_impl_GoodVal = some ([.tmp 2], 10) := by kernel_rfl
abbrev n_slices_BinarySearchFunc___impl_Write_impl_Write_string_ : Nat := 98
def c_slices_BinarySearchFunc___impl_Write_impl_Write_string__l1 : AS :=
 .seq (.seq (.ops [m 15 9,
 m 16 10,
 (o 17 (.bin .lss (t 15) (t 16)))])
 (.cond (t 17) (.skip) (.exit 0)))
 (.block 1 (.seq (.ops [m 18 9,
 m 19 10,
 (o 20 (.bin .add (t 18) (t 19))),
 (o 21 (.cvi .u64 (t 20))),
 (o 22 (.bin .shr (t 21) (.const (.int .u64 1)))),
 (o 23 (.cvi .i64 (t 22))),
 m 11 23])
 (.kept [0, 1, 2, 8, 9, 10, 11] (.seq (.ops [m 24 2,
 m 25 0,
 m 26 11,
 (o 27 (.ia 3 (t 25) (t 26))),
 (o 28 (.load (some 3) (t 27))),
 m 29 1,
 (o 30 (.callv (t 24) [(t 28), (t 29)])),
 (o 31 (.bin .lss (t 30) (k 0)))])
 (.kept [0, 1, 2, 8, 9, 10, 11, 31] (.cond (t 31) (.ops [m 32 11,
 (o 33 (.bin .add (t 32) (k 1))),
 m 9 33]) (.ops [m 34 11,
 m 10 34])))))))
def c_slices_BinarySearchFunc___impl_Write_impl_Write_string_ : AS :=
 .seq (.ops [o 6 (.mv (k 0)),
 (o 7 (.mv ff))])
 (.seq (.ops [m 12 0,
 (o 13 (.lens (t 12))),
 m 8 13])
 (.seq (.ops [m 14 8,
 (o 9 (.mv (k 0))),
 m 10 14])
 (.seq (.block 0 (.loop 3 [(0, 0), (1, 0), (2, 0), (8, 0), (9, 0), (10, 0)] c_slices_BinarySearchFunc___impl_Write_impl_Write_string__l1))
 (.kept [0, 1, 2, 8, 9] (.seq (.ops [m 35 9,
 m 36 9,
 m 37 8,
 (o 38 (.bin .lss (t 36) (t 37))),
 m 39 38,
 mg 40 39 true 2,
 mg 41 39 true 0,
 mg 42 39 true 9,
 (g 43 39 true (.ia 3 (t 41) (t 42))),
 (g 44 39 true (.load (some 3) (t 43))),
 mg 45 39 true 1,
 (g 46 39 true (.callv (t 40) [(t 44), (t 45)])),
 (g 47 39 true (.bin .eql (t 46) (k 0))),
 (o 48 (.pick (t 39) (t 47) ff)),
 m 6 35,
 m 7 48])
 (.ret))))))
theorem h_slices_BinarySearchFunc___impl_Write_impl_Write_string_ : hF Tryz.prog n_slices_BinarySearchFunc___impl_Write_impl_Write_string_ = some c_slices_BinarySearchFunc___impl_Write_impl_Write_string_.strip := by kernel_rfl
theorem r_slices_BinarySearchFunc___impl_Write_impl_Write_string_ : rF Tryz.prog n_slices_BinarySearchFunc___impl_Write_impl_Write_string_ = some ([.tmp 6, .tmp 7], 49) := by kernel_rfl
abbrev n_impl_findWrite_1 : Nat := 99
def c_impl_findWrite_1 : AS :=
 .seq (.ops [o 2 (.box (t 0)),
 (o 4 (.mv (k 0)))])
 (.seq (.ops [o 5 (.fa 0 (t 2)),
 (o 6 (.load none (t 5))),
 m 7 1,
 (o 8 (.call 100 [(t 6), (t 7)])),
 m 4 8])
 (.ret))
theorem h_impl_findWrite_1 : hF Tryz.prog n_impl_findWrite_1 = some c_impl_findWrite_1.strip := by kernel_rfl
theorem r_impl_findWrite_1 : rF Tryz.prog n_impl_findWrite_1 = some ([.tmp 4], 9) := by kernel_rfl
abbrev n_cmp_Compare_string_ : Nat := 100
def c_cmp_Compare_string_ : AS :=
 .seq (.ops [o 4 (.mv (k 0))])
 (.seq (.ops [m 7 0,
 (o 8 (.call 110 [(t 7)])),
 m 5 8])
 (.seq (.ops [m 9 1,
 (o 10 (.call 110 [(t 9)])),
 m 6 10])
 (.seq (.seq (.ops [m 11 5])
 (.cond (t 11) (.seq (.seq (.ops [m 12 6])
 (.cond (t 12) (.seq (.ops [o 4 (.mv (k 0))])
 (.ret)) (.skip)))
 (.seq (.ops [o 4 (.mv (k (-1)))])
 (.ret))) (.skip)))
 (.seq (.seq (.ops [m 13 6])
 (.cond (t 13) (.seq (.ops [o 4 (.mv (k 1))])
 (.ret)) (.skip)))
 (.seq (.seq (.ops [m 14 0,
 m 15 1,
 (o 16 (.bin .lss (t 14) (t 15)))])
 (.cond (t 16) (.seq (.ops [o 4 (.mv (k (-1)))])
 (.ret)) (.skip)))
 (.seq (.seq (.ops [m 17 0,
 m 18 1,
 (o 19 (.bin .gtr (t 17) (t 18)))])
 (.cond (t 19) (.seq (.ops [o 4 (.mv (k 1))])
 (.ret)) (.skip)))
 (.seq (.ops [o 4 (.mv (k 0))])
 (.ret))))))))
theorem h_cmp_Compare_string_ : hF Tryz.prog n_cmp_Compare_string_ = some c_cmp_Compare_string_.strip := by kernel_rfl
theorem r_cmp_Compare_string_ : rF Tryz.prog n_cmp_Compare_string_ = some ([.tmp 4], 20) := by kernel_rfl
abbrev n_slices_overlaps_impl_Write_ : Nat := 101
theorem d_slices_overlaps_impl_Write_ : Tryz.prog.funcs[n_slices_overlaps_impl_Write_]? = some Tryz.f101 := by kernel_rfl
theorem x_slices_overlaps_impl_Write_ (vs : Array Value) (w : Go.World) : (callFunc n_slices_overlaps_impl_Write_ vs).run Tryz.prog w = ((Extern.SlicesOverlaps.overlaps #[43, 43] #[4] vs).run Tryz.prog w).andThen fun v w' => .ok (.value v) w' := run_callFunc_extern (e := Extern.SlicesOverlaps.overlaps #[43, 43] #[4]) d_slices_overlaps_impl_Write_ (by kernel_rfl) (by kernel_rfl) (by kernel_rfl) (by kernel_rfl) vs w
theorem u_slices_overlaps_impl_Write_ : Tryz.prog.underlying 43 = some (.slice 69) := by kernel_rfl
theorem wd_slices_overlaps_impl_Write_ : width Tryz.prog 69 = some 3 := by kernel_rfl
abbrev n_impl_isLowerOrDigit : Nat := 103
def c_impl_isLowerOrDigit : AS :=
 .seq (.ops [o 2 (.mv ff)])
 (.seq (.ops [m 3 0,
 (o 4 (.bin .geq (t 3) (.const (.int .u8 97)))),
 m 5 4,
 mg 6 5 true 0,
 (g 7 5 true (.bin .leq (t 6) (.const (.int .u8 122)))),
 (o 8 (.pick (t 5) (t 7) ff)),
 m 9 8,
 mg 10 9 false 0,
 (g 11 9 false (.bin .geq (t 10) (.const (.int .u8 48)))),
 mg 12 9 false 11,
 mg 13 12 true 0,
 (g 14 12 true (.bin .leq (t 13) (.const (.int .u8 57)))),
 (g 15 9 false (.pick (t 12) (t 14) ff)),
 (o 16 (.pick (t 9) tt (t 15))),
 m 2 16])
 (.ret))
theorem h_impl_isLowerOrDigit : hF Tryz.prog n_impl_isLowerOrDigit = some c_impl_isLowerOrDigit.strip := by kernel_rfl
theorem r_impl_isLowerOrDigit : rF Tryz.prog n_impl_isLowerOrDigit = some ([.tmp 2], 17) := by kernel_rfl
abbrev n_strings_IndexByte : Nat := 104
def c_strings_IndexByte : AS :=
 .seq (.ops [o 4 (.mv (k 0))])
 (.seq (.ops [m 5 0,
 m 6 1,
 (o 7 (.call 112 [(t 5), (t 6)])),
 m 4 7])
 (.ret))
theorem h_strings_IndexByte : hF Tryz.prog n_strings_IndexByte = some c_strings_IndexByte.strip := by kernel_rfl
theorem r_strings_IndexByte : rF Tryz.prog n_strings_IndexByte = some ([.tmp 4], 8) := by kernel_rfl
abbrev n_cmp_isNaN_string_ : Nat := 110
def c_cmp_isNaN_string_ : AS :=
 .seq (.ops [o 2 (.mv ff)])
 (.seq (.ops [m 3 0,
 m 4 0,
 (o 5 (.bin .neq (t 3) (t 4))),
 m 2 5])
 (.ret))
theorem h_cmp_isNaN_string_ : hF Tryz.prog n_cmp_isNaN_string_ = some c_cmp_isNaN_string_.strip := by kernel_rfl
theorem r_cmp_isNaN_string_ : rF Tryz.prog n_cmp_isNaN_string_ = some ([.tmp 2], 6) := by kernel_rfl
abbrev n_internal_stringslite_IndexByte : Nat := 112
def c_internal_stringslite_IndexByte : AS :=
 .seq (.ops [o 4 (.mv (k 0))])
 (.seq (.ops [m 5 0,
 m 6 1,
 (o 7 (.xcall 116 [(t 5), (t 6)])),
 m 4 7])
 (.ret))
theorem h_internal_stringslite_IndexByte : hF Tryz.prog n_internal_stringslite_IndexByte = some c_internal_stringslite_IndexByte.strip := by kernel_rfl
theorem r_internal_stringslite_IndexByte : rF Tryz.prog n_internal_stringslite_IndexByte = some ([.tmp 4], 8) := by kernel_rfl
abbrev n_internal_bytealg_IndexByteString : Nat := 116
theorem d_internal_bytealg_IndexByteString : Tryz.prog.funcs[n_internal_bytealg_IndexByteString]? = some Tryz.f116 := by kernel_rfl
end Go.Proofs.Wb

import Derived.Test.YtalbfdhdbgcikaaGreatDoorProg
import Derived.Test.YtalbfdhdbgcikaaGreatDoorAmAuto
import Derived.Test.YtalbfdhdbgcikaaGreatDoorAmRaw
namespace Go.Proofs.Wb
open Go Go.Am Go.Am.K
abbrev n_math_bits_Mul : Nat := 108
def c_math_bits_Mul : AS :=
 .seq (.ops [o 4 (.mv (.const (.int .u64 0))),
 (o 5 (.mv (.const (.int .u64 0))))])
 (.seq (.cond ff (.seq (.ops [m 11 0,
 (o 12 (.cvi .u32 (t 11))),
 m 13 1,
 (o 14 (.cvi .u32 (t 13))),
 (o 15 (.call 147 [(t 12), (t 14)])),
 m 10 15,
 (o 16 (.ext 0 (t 10))),
 (o 17 (.ext 1 (t 10))),
 m 6 16,
 m 7 17])
 (.kept [6, 7] (.seq (.ops [m 18 6,
 (o 19 (.cvi .u64 (t 18))),
 m 20 7,
 (o 21 (.cvi .u64 (t 20))),
 m 4 19,
 m 5 21])
 (.ret)))) (.skip))
 (.kept [0, 1] (.seq (.ops [m 23 0,
 m 24 1,
 (o 25 (.call 148 [(t 23), (t 24)])),
 m 22 25,
 (o 26 (.ext 0 (t 22))),
 (o 27 (.ext 1 (t 22))),
 m 8 26,
 m 9 27])
 (.kept [8, 9] (.seq (.ops [m 28 8,
 m 29 9,
 m 4 28,
 m 5 29])
 (.ret))))))
theorem h_math_bits_Mul : hF Tryz.prog n_math_bits_Mul = some c_math_bits_Mul.strip := by kernel_rfl
theorem r_math_bits_Mul : rF Tryz.prog n_math_bits_Mul = some ([.tmp 4, .tmp 5], 30) := by kernel_rfl
abbrev n_laws_vLetters : Nat := 109
def c_laws_vLetters_l1 : AS :=
 .seq (.seq (.ops [m 11 5,
 m 12 0,
 (o 13 (.lens (t 12))),
 (o 14 (.bin .lss (t 11) (t 13)))])
 (.cond (t 14) (.skip) (.exit 0)))
 (.seq (.block 1 (.seq (.dops [m 17 0,
 m 18 5,
 (o 19 (.ia 4 (t 17) (t 18))),
 (o 20 (.load (some 4) (t 19))),
 m 21 1,
 m 22 5,
 (o 23 (.ia 4 (t 21) (t 22))),
 (o 24 (.load (some 4) (t 23))),
 (o 25 (.eqs true [(0, 0), (1, 0), (2, 0), (3, 2)] (t 20) (t 24)))])
 (.kept [0, 1, 5, 25] (.cond (t 25) (.seq (.ops [o 4 (.mv ff)])
 (.ret)) (.skip)))))
 (.kept [0, 1, 5] (.ops [m 15 5,
 (o 16 (.bin .add (t 15) (k 1))),
 m 5 16])))
def c_laws_vLetters : AS :=
 .seq (.ops [o 4 (.mv ff)])
 (.seq (.seq (.ops [m 6 0,
 (o 7 (.lens (t 6))),
 m 8 1,
 (o 9 (.lens (t 8))),
 (o 10 (.bin .neq (t 7) (t 9)))])
 (.cond (t 10) (.seq (.ops [o 4 (.mv ff)])
 (.ret)) (.skip)))
 (.kept [0, 1] (.seq (.seq (.ops [o 5 (.mv (k 0))])
 (.block 0 (.loop 2 [(0, 0), (1, 0), (5, 0)] c_laws_vLetters_l1)))
 (.kept [] (.seq (.ops [o 4 (.mv tt)])
 (.ret))))))
theorem h_laws_vLetters : hF Tryz.prog n_laws_vLetters = some c_laws_vLetters.strip := by kernel_rfl
theorem r_laws_vLetters : rF Tryz.prog n_laws_vLetters = some ([.tmp 4], 26) := by kernel_rfl
abbrev n_slices_IndexFunc___impl_Letter_impl_Letter_ : Nat := 110
def c_slices_IndexFunc___impl_Letter_impl_Letter__l1 : AS :=
 .seq (.ops [o 9 (.bin .lss (t 8) (t 7))])
 (.seq (.cond (t 9) (.skip) (.exit 0))
 (.seq (.block 1 (.seq (.ops [m 10 8,
 m 5 10])
 (.seq (.ops [m 11 1,
 m 12 0,
 m 13 5,
 (o 14 (.ia 4 (t 12) (t 13))),
 (o 15 (.load (some 4) (t 14))),
 (o 16 (.callv (t 11) [(t 15)]))])
 (.cond (t 16) (.seq (.ops [m 17 5,
 m 4 17])
 (.ret)) (.skip)))))
 (.kept [0, 1, 7, 8] (.ops [o 18 (.bin .add (t 8) (k 1)),
 m 8 18]))))
def c_slices_IndexFunc___impl_Letter_impl_Letter_ : AS :=
 .seq (.ops [o 4 (.mv (k 0))])
 (.seq (.seq (.ops [m 6 0,
 (o 7 (.lens (t 6))),
 (o 8 (.mv (k 0)))])
 (.block 0 (.loop 2 [(0, 0), (1, 0), (7, 0), (8, 0)] c_slices_IndexFunc___impl_Letter_impl_Letter__l1)))
 (.kept [] (.seq (.ops [o 4 (.mv (k (-1)))])
 (.ret))))
theorem h_slices_IndexFunc___impl_Letter_impl_Letter_ : hF Tryz.prog n_slices_IndexFunc___impl_Letter_impl_Letter_ = some c_slices_IndexFunc___impl_Letter_impl_Letter_.strip := by kernel_rfl
theorem r_slices_IndexFunc___impl_Letter_impl_Letter_ : rF Tryz.prog n_slices_IndexFunc___impl_Letter_impl_Letter_ = some ([.tmp 4], 19) := by kernel_rfl
abbrev n_impl_Net_delivered_1 : Nat := 111
def c_impl_Net_delivered_1 : AS :=
 .seq (.ops [o 2 (.box (t 0)),
 (o 3 (.mv ff))])
 (.seq (.ops [o 4 (.fa 2 (t 2)),
 (o 5 (.load none (t 4))),
 (o 6 (.fa 0 (t 1))),
 (o 7 (.load none (t 6))),
 (o 8 (.bin .gtr (t 5) (t 7))),
 m 3 8])
 (.ret))
theorem h_impl_Net_delivered_1 : hF Tryz.prog n_impl_Net_delivered_1 = some c_impl_Net_delivered_1.strip := by kernel_rfl
theorem r_impl_Net_delivered_1 : rF Tryz.prog n_impl_Net_delivered_1 = some ([.tmp 3], 9) := by kernel_rfl
abbrev n_slices_Clone___impl_Letter_impl_Letter_ : Nat := 112
def c_slices_Clone___impl_Letter_impl_Letter_ : AS :=
 .seq (.ops [o 2 (.mv (.const (.slice none 0 0)))])
 (.seq (.seq (.ops [m 3 0,
 (o 4 (.isn false (t 3)))])
 (.cond (t 4) (.seq (.ops [o 2 (.mv (.const (.slice none 0 0)))])
 (.ret)) (.skip)))
 (.seq (.ops [o 5 (.bsl 4 (.agg #[.int .i64 0, .int .i64 0, .int .i64 0, .string ⟨⟨[]⟩⟩]) 0 []),
 m 6 0,
 (o 7 (.app 4 40 (.agg #[.int .i64 0, .int .i64 0, .int .i64 0, .string ⟨⟨[]⟩⟩]) (t 5) (t 6))),
 m 2 7])
 (.ret)))
theorem h_slices_Clone___impl_Letter_impl_Letter_ : hF Tryz.prog n_slices_Clone___impl_Letter_impl_Letter_ = some c_slices_Clone___impl_Letter_impl_Letter_.strip := by kernel_rfl
theorem r_slices_Clone___impl_Letter_impl_Letter_ : rF Tryz.prog n_slices_Clone___impl_Letter_impl_Letter_ = some ([.tmp 2], 8) := by kernel_rfl
abbrev n_slices_BinarySearch___int_int_ : Nat := 114
def c_slices_BinarySearch___int_int__l1 : AS :=
 .seq (.seq (.ops [m 13 7,
 m 14 8,
 (o 15 (.bin .lss (t 13) (t 14)))])
 (.cond (t 15) (.skip) (.exit 0)))
 (.block 1 (.seq (.ops [m 16 7,
 m 17 8,
 (o 18 (.bin .add (t 16) (t 17))),
 (o 19 (.cvi .u64 (t 18))),
 (o 20 (.bin .shr (t 19) (.const (.int .u64 1)))),
 (o 21 (.cvi .i64 (t 20))),
 m 9 21])
 (.kept [0, 1, 6, 7, 8, 9] (.seq (.ops [m 22 0,
 m 23 9,
 (o 24 (.ia 1 (t 22) (t 23))),
 (o 25 (.load none (t 24))),
 m 26 1,
 (o 27 (.call 151 [(t 25), (t 26)]))])
 (.cond (t 27) (.ops [m 28 9,
 (o 29 (.bin .add (t 28) (k 1))),
 m 7 29]) (.ops [m 30 9,
 m 8 30]))))))
def c_slices_BinarySearch___int_int_ : AS :=
 .seq (.ops [o 4 (.mv (k 0)),
 (o 5 (.mv ff))])
 (.seq (.ops [m 10 0,
 (o 11 (.lens (t 10))),
 m 6 11])
 (.seq (.ops [m 12 6,
 (o 7 (.mv (k 0))),
 m 8 12])
 (.seq (.block 0 (.loop 2 [(0, 0), (1, 0), (6, 0), (7, 0), (8, 0)] c_slices_BinarySearch___int_int__l1))
 (.kept [0, 1, 6, 7] (.seq (.ops [m 31 7,
 m 32 7,
 m 33 6,
 (o 34 (.bin .lss (t 32) (t 33))),
 m 35 34,
 mg 36 35 true 0,
 mg 37 35 true 7,
 (g 38 35 true (.ia 1 (t 36) (t 37))),
 (g 39 35 true (.load none (t 38))),
 mg 40 35 true 1,
 (g 41 35 true (.bin .eql (t 39) (t 40))),
 mg 42 35 true 41,
 mg 43 42 false 0,
 mg 44 42 false 7,
 (g 45 42 false (.ia 1 (t 43) (t 44))),
 (g 46 42 false (.load none (t 45))),
 (g 47 42 false (.call 152 [(t 46)])),
 mg 48 42 false 47,
 mg 49 48 true 1,
 (g 50 48 true (.call 152 [(t 49)])),
 (g 51 42 false (.pick (t 48) (t 50) ff)),
 (g 52 35 true (.pick (t 42) tt (t 51))),
 (o 53 (.pick (t 35) (t 52) ff)),
 m 4 31,
 m 5 53])
 (.ret))))))
theorem h_slices_BinarySearch___int_int_ : hF Tryz.prog n_slices_BinarySearch___int_int_ = some c_slices_BinarySearch___int_int_.strip := by kernel_rfl
theorem r_slices_BinarySearch___int_int_ : rF Tryz.prog n_slices_BinarySearch___int_int_ = some ([.tmp 4, .tmp 5], 54) := by kernel_rfl
abbrev n_slices_Insert___int_int_ : Nat := 115
def c_slices_Insert___int_int_ : AS :=
 .seq (.ops [o 6 (.mv (.const (.slice none 0 0)))])
 (.seq (.ops [m 10 0,
 m 11 1,
 (o 12 (.sls 1 (t 10) (some (t 11)) none none))])
 (.seq (.ops [m 13 2,
 (o 14 (.lens (t 13))),
 m 7 14])
 (.seq (.seq (.ops [m 15 7,
 (o 16 (.bin .eql (t 15) (k 0)))])
 (.cond (t 16) (.seq (.post [(6, 0, [])] (.ops [m 17 0,
 m 6 17]))
 (.ret)) (.skip)))
 (.seq (.ops [m 18 0,
 (o 19 (.lens (t 18))),
 m 8 19])
 (.seq (.seq (.ops [m 20 1,
 m 21 8,
 (o 22 (.bin .eql (t 20) (t 21)))])
 (.cond (t 22) (.seq (.post [(6, 0, [])] (.ops [m 23 0,
 m 24 2,
 (o 25 (.app 1 8 (.int .i64 0) (t 23) (t 24))),
 m 6 25]))
 (.ret)) (.skip)))
 (.kept [0, 1, 2, 7, 8] (.seq (.seq (.ops [m 26 8,
 m 27 7,
 (o 28 (.bin .add (t 26) (t 27))),
 m 29 0,
 (o 30 (.capo (t 29))),
 (o 31 (.bin .gtr (t 28) (t 30)))])
 (.cond (t 31) (.seq (.ops [m 32 0,
 m 33 1,
 (o 34 (.sls 1 (t 32) none (some (t 33)) none)),
 m 35 8,
 m 36 7,
 (o 37 (.bin .add (t 35) (t 36))),
 m 38 1,
 (o 39 (.bin .sub (t 37) (t 38))),
 (o 40 (.apz 1 8 (.int .i64 0) (t 34) (t 39))),
 m 9 40])
 (.kept [0, 1, 2, 7, 9] (.seq (.ops [m 41 9,
 m 42 1,
 (o 43 (.sls 1 (t 41) (some (t 42)) none none)),
 m 44 2,
 (o 45 (.cpy 1 (t 43) (t 44)))])
 (.seq (.rops [(none, m 46 9),
 (none, m 47 1),
 (none, m 48 7),
 (none, o 49 (.bin .add (t 47) (t 48))),
 (none, o 50 (.sls 1 (t 46) (some (t 49)) none none)),
 (none, m 51 0),
 (none, m 52 1),
 (none, o 53 (.sls 1 (t 51) (some (t 52)) none none)),
 (some [], o 54 (.cpy 1 (t 50) (t 53)))])
 (.kept [9] (.seq (.post [(6, 0, [])] (.ops [m 55 9,
 m 6 55]))
 (.ret))))))) (.skip)))
 (.kept [0, 1, 2, 7, 8] (.seq (.ops [m 56 0,
 m 57 8,
 m 58 7,
 (o 59 (.bin .add (t 57) (t 58))),
 (o 60 (.sls 1 (t 56) none (some (t 59)) none)),
 m 0 60])
 (.seq (.seq (.ops [m 61 2,
 m 62 0,
 m 63 1,
 m 64 7,
 (o 65 (.bin .add (t 63) (t 64))),
 (o 66 (.sls 1 (t 62) (some (t 65)) none none)),
 (o 67 (.xcall 153 [(t 61), (t 66)])),
 (o 68 (.not (t 67)))])
 (.kept [0, 1, 2, 7, 8, 68] (.cond (t 68) (.seq (.rops [(none, m 69 0),
 (none, m 70 1),
 (none, m 71 7),
 (none, o 72 (.bin .add (t 70) (t 71))),
 (none, o 73 (.sls 1 (t 69) (some (t 72)) none none)),
 (none, m 74 0),
 (none, m 75 1),
 (none, o 76 (.sls 1 (t 74) (some (t 75)) none none)),
 (some [], o 77 (.cpy 1 (t 73) (t 76)))])
 (.kept [0, 1, 2] (.seq (.ops [m 78 0,
 m 79 1,
 (o 80 (.sls 1 (t 78) (some (t 79)) none none)),
 m 81 2,
 (o 82 (.cpy 1 (t 80) (t 81)))])
 (.seq (.post [(6, 0, [])] (.ops [m 83 0,
 m 6 83]))
 (.ret))))) (.skip))))
 (.kept [0, 1, 2, 7, 8] (.seq (.ops [m 84 0,
 m 85 8,
 (o 86 (.sls 1 (t 84) (some (t 85)) none none)),
 m 87 2,
 (o 88 (.cpy 1 (t 86) (t 87)))])
 (.seq (.ops [m 89 0,
 m 90 1,
 (o 91 (.sls 1 (t 89) (some (t 90)) none none)),
 m 92 7,
 (o 93 (.call 154 [(t 91), (t 92)]))])
 (.seq (.post [(6, 0, [])] (.ops [m 94 0,
 m 6 94]))
 (.ret)))))))))))))))
theorem h_slices_Insert___int_int_ : hF Tryz.prog n_slices_Insert___int_int_ = some c_slices_Insert___int_int_.strip := by kernel_rfl
theorem r_slices_Insert___int_int_ : rF Tryz.prog n_slices_Insert___int_int_ = some ([.tmp 6], 95) := by kernel_rfl
abbrev n_spec_l7Good : Nat := 116
def c_spec_l7Good_l1 : AS :=
 .seq (.seq (.ops [m 35 4,
 (o 36 (.fa 3 (t 1))),
 (o 37 (.load none (t 36))),
 (o 38 (.lens (t 37))),
 (o 39 (.bin .lss (t 35) (t 38)))])
 (.cond (t 39) (.skip) (.exit 0)))
 (.seq (.block 1 (.seq (.ops [o 42 (.fa 3 (t 1)),
 (o 43 (.load none (t 42))),
 m 44 4,
 (o 45 (.ia 4 (t 43) (t 44))),
 (o 46 (.load (some 4) (t 45))),
 (o 5 (.alloc (.agg #[.int .i64 0, .int .i64 0, .int .i64 0, .string ⟨⟨[]⟩⟩]))),
 (u (.store 4 (t 5) (t 46)))])
 (.seq (.seq (.ops [o 47 (.load (some 4) (t 1)),
 (o 48 (.fa 0 (t 5))),
 (o 49 (.load none (t 48))),
 (o 50 (.call 136 [(t 47), (t 49)])),
 (o 51 (.not (t 50))),
 m 52 51,
 (g 53 52 false (.load (some 4) (t 1))),
 (g 54 52 false (.fa 1 (t 5))),
 (g 55 52 false (.load none (t 54))),
 (g 56 52 false (.call 136 [(t 53), (t 55)])),
 (g 57 52 false (.not (t 56))),
 (o 58 (.pick (t 52) tt (t 57))),
 m 59 58,
 (g 60 59 false (.fa 0 (t 5))),
 (g 61 59 false (.load none (t 60))),
 (g 62 59 false (.fa 1 (t 5))),
 (g 63 59 false (.load none (t 62))),
 (g 64 59 false (.bin .eql (t 61) (t 63))),
 (o 65 (.pick (t 59) tt (t 64))),
 m 66 65,
 (g 67 66 false (.fa 2 (t 5))),
 (g 68 66 false (.load none (t 67))),
 mg 69 66 false 3,
 (g 70 66 false (.call 85 [(t 68), (t 69), (k 100200)])),
 (g 71 66 false (.not (t 70))),
 (o 72 (.pick (t 66) tt (t 71))),
 m 73 72,
 (g 74 73 false (.fa 3 (t 5))),
 (g 75 73 false (.load none (t 74))),
 (g 76 73 false (.lent (t 75))),
 (g 77 73 false (.call 85 [(t 76), (k 1), (k 40)])),
 (g 78 73 false (.not (t 77))),
 (o 79 (.pick (t 73) tt (t 78)))])
 (.kept [1, 4, 5, 79] (.cond (t 79) (.seq (.ops [o 2 (.mv ff)])
 (.ret)) (.skip))))
 (.kept [1, 4, 5] (.ops [o 80 (.fa 2 (t 5)),
 (o 81 (.load none (t 80))),
 m 3 81])))))
 (.kept [1, 3, 4] (.ops [m 40 4,
 (o 41 (.bin .add (t 40) (k 1))),
 m 4 41])))
def c_spec_l7Good : AS :=
 .seq (.ops [o 1 (.box (t 0)),
 (o 2 (.mv ff))])
 (.seq (.seq (.ops [o 6 (.fa 0 (t 1)),
 (o 7 (.load none (t 6))),
 (o 8 (.call 85 [(t 7), (k 0), (k 100000)])),
 (o 9 (.not (t 8))),
 m 10 9,
 (g 11 10 false (.fa 1 (t 1))),
 (g 12 10 false (.load none (t 11))),
 (g 13 10 false (.lens (t 12))),
 (g 14 10 false (.call 85 [(t 13), (k 1), (k 5)])),
 (g 15 10 false (.not (t 14))),
 (o 16 (.pick (t 10) tt (t 15))),
 m 17 16,
 (g 18 17 false (.fa 1 (t 1))),
 (g 19 17 false (.load none (t 18))),
 (g 20 17 false (.call 155 [(t 19), (k 0), (k 2)])),
 (g 21 17 false (.not (t 20))),
 (o 22 (.pick (t 17) tt (t 21))),
 m 23 22,
 (g 24 23 false (.fa 2 (t 1))),
 (g 25 23 false (.load none (t 24))),
 (g 26 23 false (.call 85 [(t 25), (k 0), (k 20)])),
 (g 27 23 false (.not (t 26))),
 (o 28 (.pick (t 23) tt (t 27))),
 m 29 28,
 (g 30 29 false (.fa 3 (t 1))),
 (g 31 29 false (.load none (t 30))),
 (g 32 29 false (.lens (t 31))),
 (g 33 29 false (.bin .gtr (t 32) (k 60))),
 (o 34 (.pick (t 29) tt (t 33)))])
 (.kept [1, 34] (.cond (t 34) (.seq (.ops [o 2 (.mv ff)])
 (.ret)) (.skip))))
 (.kept [1] (.seq (.ops [o 3 (.mv (k 0))])
 (.seq (.seq (.ops [o 4 (.mv (k 0))])
 (.block 0 (.loop 1 [(1, 0), (3, 0), (4, 0)] c_spec_l7Good_l1)))
 (.kept [] (.seq (.ops [o 2 (.mv tt)])
 (.ret)))))))
theorem h_spec_l7Good : hF Tryz.prog n_spec_l7Good = some c_spec_l7Good.strip := by kernel_rfl
theorem r_spec_l7Good : rF Tryz.prog n_spec_l7Good = some ([.tmp 2], 82) := by kernel_rfl
abbrev n_spec_l7If : Nat := 117
def c_spec_l7If : AS :=
 .seq (.ops [o 1 (.box (t 0)),
 (o 2 (.alloc (.agg #[.int .i64 0, .slice none 0 0, .int .i64 0, .slice none 0 0]))),
 (o 3 (.mv ff))])
 (.seq (.seq (.ops [o 4 (.load (some 4) (t 1)),
 (o 5 (.call 116 [(t 4)])),
 (o 6 (.not (t 5)))])
 (.cond (t 6) (.seq (.ops [o 7 (.build (.agg #[.int .i64 0, .slice none 0 0, .int .i64 0, .slice none 0 0]) []),
 (u (.store 4 (t 2) (t 7))),
 (o 3 (.mv ff))])
 (.ret)) (.skip)))
 (.seq (.ops [o 8 (.load (some 4) (t 1)),
 (u (.store 4 (t 2) (t 8))),
 (o 3 (.mv tt))])
 (.ret)))
theorem h_spec_l7If : hF Tryz.prog n_spec_l7If = some c_spec_l7If.strip := by kernel_rfl
theorem r_spec_l7If : rF Tryz.prog n_spec_l7If = some ([.cell 2 34, .tmp 3], 9) := by kernel_rfl
abbrev n_spec_l8Voter : Nat := 118
def c_spec_l8Voter : AS :=
 .seq (.ops [o 3 (.box (t 0)),
 (o 6 (.mv ff))])
 (.seq (.ops [o 8 (.fa 0 (t 3)),
 (o 9 (.load none (t 8))),
 m 10 9,
 (g 11 10 true (.fa 2 (t 3))),
 (g 12 10 true (.load none (t 11))),
 mg 13 10 true 1,
 (g 14 10 true (.bin .eql (t 12) (t 13))),
 (o 15 (.pick (t 10) (t 14) ff)),
 m 7 15])
 (.kept [2, 3, 7] (.seq (.seq (.ops [o 16 (.fa 1 (t 3)),
 (o 17 (.load none (t 16))),
 (o 18 (.call 85 [(t 17), (k 0), (k 200)])),
 (o 19 (.not (t 18))),
 m 20 19,
 (g 21 20 false (.fa 2 (t 3))),
 (g 22 20 false (.load none (t 21))),
 mg 23 20 false 2,
 (g 24 20 false (.bin .sub (t 23) (k 1))),
 (g 25 20 false (.call 85 [(t 22), (k (-1)), (t 24)])),
 (g 26 20 false (.not (t 25))),
 (o 27 (.pick (t 20) tt (t 26))),
 m 28 27,
 (g 29 28 false (.fa 3 (t 3))),
 (g 30 28 false (.load none (t 29))),
 mg 31 28 false 2,
 (g 32 28 false (.bin .sub (t 31) (k 1))),
 (g 33 28 false (.call 156 [(t 30), (k 0), (t 32)])),
 (g 34 28 false (.not (t 33))),
 (o 35 (.pick (t 28) tt (t 34))),
 m 36 35,
 mg 37 36 false 7,
 (g 38 36 false (.not (t 37))),
 mg 39 36 false 38,
 (g 40 39 true (.fa 3 (t 3))),
 (g 41 39 true (.load none (t 40))),
 (g 42 39 true (.lens (t 41))),
 (g 43 39 true (.bin .gtr (t 42) (k 0))),
 (g 44 36 false (.pick (t 39) (t 43) ff)),
 (o 45 (.pick (t 36) tt (t 44)))])
 (.kept [2, 3, 7, 45] (.cond (t 45) (.seq (.ops [o 6 (.mv ff)])
 (.ret)) (.skip))))
 (.kept [2, 3, 7] (.seq (.ops [o 46 (.fa 4 (t 3)),
 (o 47 (.load none (t 46))),
 (o 48 (.not (t 47))),
 m 49 48,
 mg 50 49 false 7,
 mg 51 49 false 50,
 (g 52 51 true (.fa 3 (t 3))),
 (g 53 51 true (.load none (t 52))),
 (g 54 51 true (.lens (t 53))),
 (g 55 51 true (.bin .mul (k 2) (t 54))),
 mg 56 51 true 2,
 (g 57 51 true (.bin .gtr (t 55) (t 56))),
 (g 58 49 false (.pick (t 51) (t 57) ff)),
 (o 59 (.pick (t 49) tt (t 58))),
 m 6 59])
 (.ret))))))
theorem h_spec_l8Voter : hF Tryz.prog n_spec_l8Voter = some c_spec_l8Voter.strip := by kernel_rfl
theorem r_spec_l8Voter : rF Tryz.prog n_spec_l8Voter = some ([.tmp 6], 60) := by kernel_rfl
abbrev n_spec_l7OwnL : Nat := 119
def c_spec_l7OwnL : AS :=
 .seq (.ops [o 2 (.mv (.const (.slice none 0 0)))])
 (.seq (.ops [o 3 (.bsl 4 (.agg #[.int .i64 0, .int .i64 0, .int .i64 0, .string ⟨⟨[]⟩⟩]) 0 []),
 m 4 0,
 (o 5 (.app 4 40 (.agg #[.int .i64 0, .int .i64 0, .int .i64 0, .string ⟨⟨[]⟩⟩]) (t 3) (t 4))),
 m 2 5])
 (.ret))
theorem h_spec_l7OwnL : hF Tryz.prog n_spec_l7OwnL = some c_spec_l7OwnL.strip := by kernel_rfl
theorem r_spec_l7OwnL : rF Tryz.prog n_spec_l7OwnL = some ([.tmp 2], 6) := by kernel_rfl
abbrev n_spec_l1Read : Nat := 120
def c_spec_l1Read_l1 : AS :=
 .seq (.seq (.ops [m 19 4,
 m 20 0,
 (o 21 (.lent (t 20))),
 (o 22 (.bin .lss (t 19) (t 21)))])
 (.cond (t 22) (.skip) (.exit 0)))
 (.seq (.block 1 (.seq (.seq (.ops [m 25 0,
 m 26 4,
 (o 27 (.ix (t 25) (t 26))),
 (o 28 (.bin .lss (t 27) (.const (.int .u8 48)))),
 m 29 28,
 mg 30 29 false 0,
 mg 31 29 false 4,
 (g 32 29 false (.ix (t 30) (t 31))),
 (g 33 29 false (.bin .gtr (t 32) (.const (.int .u8 57)))),
 (o 34 (.pick (t 29) tt (t 33)))])
 (.kept [0, 3, 4, 34] (.cond (t 34) (.seq (.ops [o 2 (.mv (k (-1)))])
 (.ret)) (.skip))))
 (.kept [0, 3, 4] (.ops [m 35 3,
 (o 36 (.bin .mul (k 10) (t 35))),
 m 37 0,
 m 38 4,
 (o 39 (.ix (t 37) (t 38))),
 (o 40 (.bin .sub (t 39) (.const (.int .u8 48)))),
 (o 41 (.cvi .i64 (t 40))),
 (o 42 (.bin .add (t 36) (t 41))),
 m 3 42]))))
 (.kept [0, 3, 4] (.ops [m 23 4,
 (o 24 (.bin .add (t 23) (k 1))),
 m 4 24])))
def c_spec_l1Read : AS :=
 .seq (.ops [o 2 (.mv (k 0))])
 (.seq (.seq (.ops [m 5 0,
 (o 6 (.lent (t 5))),
 (o 7 (.call 85 [(t 6), (k 1), (k 6)])),
 (o 8 (.not (t 7))),
 m 9 8,
 mg 10 9 false 0,
 (g 11 9 false (.ix (t 10) (k 0))),
 (g 12 9 false (.bin .eql (t 11) (.const (.int .u8 48)))),
 mg 13 9 false 12,
 mg 14 13 true 0,
 (g 15 13 true (.lent (t 14))),
 (g 16 13 true (.bin .gtr (t 15) (k 1))),
 (g 17 9 false (.pick (t 13) (t 16) ff)),
 (o 18 (.pick (t 9) tt (t 17)))])
 (.kept [0, 18] (.cond (t 18) (.seq (.ops [o 2 (.mv (k (-1)))])
 (.ret)) (.skip))))
 (.kept [0] (.seq (.ops [o 3 (.mv (k 0))])
 (.seq (.seq (.ops [o 4 (.mv (k 0))])
 (.block 0 (.loop 1 [(0, 0), (3, 0), (4, 0)] c_spec_l1Read_l1)))
 (.kept [3] (.seq (.ops [m 43 3,
 m 2 43])
 (.ret)))))))
theorem h_spec_l1Read : hF Tryz.prog n_spec_l1Read = some c_spec_l1Read.strip := by kernel_rfl
theorem r_spec_l1Read : rF Tryz.prog n_spec_l1Read = some ([.tmp 2], 44) := by kernel_rfl
abbrev n_spec_l8Ask : Nat := 121
def c_spec_l8Ask : AS :=
 .seq (.ops [o 3 (.box (t 0)),
 (o 4 (.box (t 1))),
 (o 6 (.alloc (.agg #[.slice none 0 0, .int .i64 0, .slice none 0 0, .int .i64 0, .slice none 0 0, .slice none 0 0])))])
 (.seq (.ops [o 8 (.fa 0 (t 3)),
 (o 9 (.load none (t 8))),
 (o 10 (.fa 1 (t 4))),
 (o 11 (.load none (t 10))),
 (o 12 (.ia 5 (t 9) (t 11))),
 (o 13 (.load (some 5) (t 12))),
 (o 7 (.alloc (.agg #[.bool false, .int .i64 0, .int .i64 0, .slice none 0 0, .bool false]))),
 (u (.store 5 (t 7) (t 13)))])
 (.seq (.seq (.ops [m 14 2,
 (o 15 (.fa 1 (t 7))),
 (o 16 (.load none (t 15))),
 (o 17 (.bin .gtr (t 14) (t 16)))])
 (.cond (t 17) (.ops [m 18 2,
 (o 19 (.bsl 1 (.int .i64 0) 0 [])),
 (o 20 (.build (.agg #[.bool false, .int .i64 0, .int .i64 0, .slice none 0 0, .bool false]) [(0, 1, tt), (1, 1, (t 18)), (2, 1, (k (-1))), (3, 1, (t 19))])),
 (u (.store 5 (t 7) (t 20)))]) (.skip)))
 (.kept [2, 3, 4, 6, 7, 12] (.seq (.seq (.ops [o 21 (.fa 1 (t 7)),
 (o 22 (.load none (t 21))),
 m 23 2,
 (o 24 (.bin .eql (t 22) (t 23))),
 m 25 24,
 (g 26 25 true (.fa 2 (t 7))),
 (g 27 25 true (.load none (t 26))),
 (g 28 25 true (.bin .eql (t 27) (k (-1)))),
 mg 29 25 true 28,
 (g 30 29 false (.fa 2 (t 7))),
 (g 31 29 false (.load none (t 30))),
 (g 32 29 false (.fa 0 (t 4))),
 (g 33 29 false (.load none (t 32))),
 (g 34 29 false (.bin .eql (t 31) (t 33))),
 (g 35 25 true (.pick (t 29) tt (t 34))),
 (o 36 (.pick (t 25) (t 35) ff))])
 (.kept [2, 3, 4, 6, 7, 12, 36] (.cond (t 36) (.seq (.ops [o 37 (.fa 0 (t 4)),
 (o 38 (.load none (t 37))),
 (o 39 (.fa 2 (t 7))),
 (u (.store 1 (t 39) (t 38)))])
 (.rops [(none, o 40 (.fa 1 (t 3))),
 (none, o 41 (.load (some 4) (t 40))),
 (none, o 42 (.fa 1 (t 4))),
 (none, o 43 (.load none (t 42))),
 (none, o 44 (.fa 0 (t 4))),
 (none, o 45 (.load none (t 44))),
 (none, m 46 2),
 (some [o 45 (.load none (t 44)), o 44 (.fa 0 (t 4)), o 43 (.load none (t 42)), o 42 (.fa 1 (t 4)), o 41 (.load (some 4) (t 40)), o 40 (.fa 1 (t 3))], o 47 (.call 37 [(t 46)])),
 (none, o 48 (.bin .add (.const (.string ⟨⟨[121]⟩⟩)) (t 47))),
 (some [], o 49 (.call 36 [(t 41), (t 43), (t 45), (t 48)])),
 (none, o 50 (.fa 1 (t 3))),
 (some [], u (.store 4 (t 50) (t 49)))])) (.skip))))
 (.kept [3, 4, 6, 7, 12] (.seq (.post [(56, 1, [(3, 1)]), (12, 1, [(3, 1)])] (.ops [o 51 (.fa 0 (t 3)),
 (o 52 (.load none (t 51))),
 (o 53 (.fa 1 (t 4))),
 (o 54 (.load none (t 53))),
 (o 55 (.load (some 5) (t 7))),
 (o 56 (.ia 5 (t 52) (t 54))),
 (u (.store 5 (t 56) (t 55)))]))
 (.kept [3, 6] (.seq (.ops [o 57 (.load (some 6) (t 3)),
 (u (.store 6 (t 6) (t 57)))])
 (.ret)))))))))
theorem h_spec_l8Ask : hF Tryz.prog n_spec_l8Ask = some c_spec_l8Ask.strip := by kernel_rfl
theorem r_spec_l8Ask : rF Tryz.prog n_spec_l8Ask = some ([.cell 6 37], 58) := by kernel_rfl
abbrev n_spec_l8Yes : Nat := 122
def c_spec_l8Yes : AS :=
 .seq (.ops [o 3 (.box (t 0)),
 (o 4 (.box (t 1))),
 (o 6 (.alloc (.agg #[.slice none 0 0, .int .i64 0, .slice none 0 0, .int .i64 0, .slice none 0 0, .slice none 0 0])))])
 (.seq (.ops [o 8 (.fa 0 (t 3)),
 (o 9 (.load none (t 8))),
 (o 10 (.fa 1 (t 4))),
 (o 11 (.load none (t 10))),
 (o 12 (.ia 5 (t 9) (t 11))),
 (o 13 (.load (some 5) (t 12))),
 (o 7 (.alloc (.agg #[.bool false, .int .i64 0, .int .i64 0, .slice none 0 0, .bool false]))),
 (u (.store 5 (t 7) (t 13)))])
 (.seq (.seq (.ops [o 14 (.fa 1 (t 7)),
 (o 15 (.load none (t 14))),
 m 16 2,
 (o 17 (.bin .neq (t 15) (t 16))),
 m 18 17,
 (g 19 18 false (.fa 2 (t 7))),
 (g 20 18 false (.load none (t 19))),
 (g 21 18 false (.fa 1 (t 4))),
 (g 22 18 false (.load none (t 21))),
 (g 23 18 false (.bin .neq (t 20) (t 22))),
 (o 24 (.pick (t 18) tt (t 23)))])
 (.kept [2, 3, 4, 6, 7, 12, 24] (.cond (t 24) (.seq (.post [(12, 1, [(3, 1)])] (.ops [o 25 (.load (some 6) (t 3)),
 (u (.store 6 (t 6) (t 25)))]))
 (.ret)) (.skip))))
 (.kept [2, 3, 4, 6, 7, 12] (.seq (.ops [o 26 (.fa 3 (t 7)),
 (o 27 (.load none (t 26))),
 (o 28 (.fa 0 (t 4))),
 (o 29 (.load none (t 28))),
 (o 30 (.call 157 [(t 27), (t 29)])),
 (o 31 (.call 87 [(t 30)])),
 (o 32 (.fa 3 (t 7))),
 (u (.store 1 (t 32) (t 31)))])
 (.kept [2, 3, 4, 6, 7, 12] (.seq (.seq (.ops [o 33 (.fa 3 (t 7)),
 (o 34 (.load none (t 33))),
 (o 35 (.lens (t 34))),
 (o 36 (.bin .mul (k 2) (t 35))),
 (o 37 (.fa 0 (t 3))),
 (o 38 (.load none (t 37))),
 (o 39 (.lens (t 38))),
 (o 40 (.bin .gtr (t 36) (t 39))),
 m 41 40,
 (g 42 41 true (.fa 4 (t 7))),
 (g 43 41 true (.load none (t 42))),
 (g 44 41 true (.not (t 43))),
 (o 45 (.pick (t 41) (t 44) ff))])
 (.kept [2, 3, 4, 6, 7, 12, 45] (.cond (t 45) (.seq (.ops [o 46 (.fa 4 (t 7)),
 (u (.store 1 (t 46) tt))])
 (.seq (.ops [o 47 (.fa 5 (t 3)),
 (o 48 (.load none (t 47))),
 (o 49 (.lens (t 48))),
 (o 50 (.bin .lss (t 49) (k 60)))])
 (.cond (t 50) (.ops [o 51 (.fa 5 (t 3)),
 (o 52 (.load none (t 51))),
 m 53 2,
 (o 54 (.fa 1 (t 4))),
 (o 55 (.load none (t 54))),
 (o 56 (.build (.agg #[.int .i64 0, .int .i64 0]) [(0, 1, (t 53)), (1, 1, (t 55))])),
 (o 57 (.bsl 2 (.agg #[.int .i64 0, .int .i64 0]) 1 [(0, (t 56))])),
 (o 58 (.app 2 16 (.agg #[.int .i64 0, .int .i64 0]) (t 52) (t 57))),
 (o 59 (.fa 5 (t 3))),
 (u (.store 1 (t 59) (t 58)))]) (.skip)))) (.skip))))
 (.kept [3, 4, 6, 7, 12] (.seq (.post [(65, 1, [(3, 1)]), (12, 1, [(3, 1)])] (.ops [o 60 (.fa 0 (t 3)),
 (o 61 (.load none (t 60))),
 (o 62 (.fa 1 (t 4))),
 (o 63 (.load none (t 62))),
 (o 64 (.load (some 5) (t 7))),
 (o 65 (.ia 5 (t 61) (t 63))),
 (u (.store 5 (t 65) (t 64)))]))
 (.kept [3, 6] (.seq (.ops [o 66 (.load (some 6) (t 3)),
 (u (.store 6 (t 6) (t 66)))])
 (.ret)))))))))))
theorem h_spec_l8Yes : hF Tryz.prog n_spec_l8Yes = some c_spec_l8Yes.strip := by kernel_rfl
theorem r_spec_l8Yes : rF Tryz.prog n_spec_l8Yes = some ([.cell 6 37], 67) := by kernel_rfl
abbrev n_spec_FallVoter : Nat := 123
def c_spec_FallVoter : AS :=
 .seq (.ops [o 2 (.box (t 0)),
 (o 4 (.alloc (.agg #[.slice none 0 0, .int .i64 0, .slice none 0 0, .int .i64 0, .slice none 0 0, .slice none 0 0]))),
 (o 5 (.mv ff))])
 (.seq (.seq (.ops [o 8 (.load (some 6) (t 2)),
 m 9 1,
 (o 10 (.call 34 [(t 8), (t 9)])),
 (o 11 (.not (t 10)))])
 (.cond (t 11) (.seq (.ops [o 12 (.build (.agg #[.slice none 0 0, .int .i64 0, .slice none 0 0, .int .i64 0, .slice none 0 0, .slice none 0 0]) []),
 (u (.store 6 (t 4) (t 12))),
 (o 5 (.mv ff))])
 (.ret)) (.skip)))
 (.kept [1, 2, 4] (.seq (.ops [o 13 (.load (some 6) (t 2)),
 (o 14 (.call 35 [(t 13)])),
 (o 6 (.alloc (.agg #[.slice none 0 0, .int .i64 0, .slice none 0 0, .int .i64 0, .slice none 0 0, .slice none 0 0]))),
 (u (.store 6 (t 6) (t 14)))])
 (.seq (.post [(18, 1, [(3, 1)])] (.ops [o 15 (.fa 0 (t 2)),
 (o 16 (.load none (t 15))),
 m 17 1,
 (o 18 (.ia 5 (t 16) (t 17))),
 (o 19 (.load (some 5) (t 18))),
 (o 7 (.alloc (.agg #[.bool false, .int .i64 0, .int .i64 0, .slice none 0 0, .bool false]))),
 (u (.store 5 (t 7) (t 19)))]))
 (.seq (.post [(32, 1, [(3, 1)])] (.ops [o 20 (.fa 0 (t 6)),
 (o 21 (.load none (t 20))),
 m 22 1,
 (o 23 (.fa 0 (t 7))),
 (o 24 (.load none (t 23))),
 (o 25 (.not (t 24))),
 (o 26 (.fa 1 (t 7))),
 (o 27 (.load none (t 26))),
 (o 28 (.fa 2 (t 7))),
 (o 29 (.load none (t 28))),
 (o 30 (.bsl 1 (.int .i64 0) 0 [])),
 (o 31 (.build (.agg #[.bool false, .int .i64 0, .int .i64 0, .slice none 0 0, .bool false]) [(0, 1, (t 25)), (1, 1, (t 27)), (2, 1, (t 29)), (3, 1, (t 30))])),
 (o 32 (.ia 5 (t 21) (t 22))),
 (u (.store 5 (t 32) (t 31)))]))
 (.kept [4, 6] (.seq (.ops [o 33 (.load (some 6) (t 6)),
 (u (.store 6 (t 4) (t 33))),
 (o 5 (.mv tt))])
 (.ret))))))))
theorem h_spec_FallVoter : hF Tryz.prog n_spec_FallVoter = some c_spec_FallVoter.strip := by kernel_rfl
theorem r_spec_FallVoter : rF Tryz.prog n_spec_FallVoter = some ([.cell 4 37, .tmp 5], 34) := by kernel_rfl
abbrev n_spec_LoseOne : Nat := 124
def c_spec_LoseOne : AS :=
 .seq (.ops [o 2 (.box (t 0)),
 (o 4 (.alloc (.agg #[.int .i64 0, .slice none 0 0, .int .i64 0, .slice none 0 0]))),
 (o 5 (.mv ff))])
 (.seq (.seq (.ops [o 6 (.load (some 4) (t 2)),
 m 7 1,
 (o 8 (.call 158 [(t 6), (t 7)])),
 (o 9 (.not (t 8)))])
 (.cond (t 9) (.seq (.ops [o 10 (.build (.agg #[.int .i64 0, .slice none 0 0, .int .i64 0, .slice none 0 0]) []),
 (u (.store 4 (t 4) (t 10))),
 (o 5 (.mv ff))])
 (.ret)) (.skip)))
 (.kept [1, 2, 4] (.seq (.rops [(none, o 11 (.load (some 4) (t 2))),
 (none, o 12 (.fa 3 (t 2))),
 (none, o 13 (.load none (t 12))),
 (none, m 14 1),
 (some [o 11 (.load (some 4) (t 2))], o 15 (.call 159 [(t 13), (t 14)])),
 (some [], o 16 (.call 86 [(t 11), (t 15)])),
 (some [], u (.store 4 (t 4) (t 16))),
 (none, o 5 (.mv tt))])
 (.ret))))
theorem h_spec_LoseOne : hF Tryz.prog n_spec_LoseOne = some c_spec_LoseOne.strip := by kernel_rfl
theorem r_spec_LoseOne : rF Tryz.prog n_spec_LoseOne = some ([.cell 4 34, .tmp 5], 17) := by kernel_rfl
abbrev n_spec_l8Net : Nat := 125
def c_spec_l8Net : AS :=
 .seq (.ops [o 3 (.box (t 0)),
 (o 4 (.box (t 1))),
 (o 6 (.alloc (.agg #[.slice none 0 0, .int .i64 0, .slice none 0 0, .int .i64 0, .slice none 0 0, .slice none 0 0]))),
 (o 7 (.mv ff))])
 (.seq (.seq (.ops [m 9 2,
 (o 10 (.not (t 9)))])
 (.cond (t 10) (.seq (.ops [o 11 (.build (.agg #[.slice none 0 0, .int .i64 0, .slice none 0 0, .int .i64 0, .slice none 0 0, .slice none 0 0]) []),
 (u (.store 6 (t 6) (t 11))),
 (o 7 (.mv ff))])
 (.ret)) (.skip)))
 (.seq (.ops [o 12 (.load (some 6) (t 3)),
 (o 13 (.call 35 [(t 12)])),
 (o 8 (.alloc (.agg #[.slice none 0 0, .int .i64 0, .slice none 0 0, .int .i64 0, .slice none 0 0, .slice none 0 0]))),
 (u (.store 6 (t 8) (t 13)))])
 (.seq (.ops [o 14 (.load (some 4) (t 4)),
 (o 15 (.fa 1 (t 8))),
 (u (.store 4 (t 15) (t 14)))])
 (.seq (.ops [o 16 (.load (some 6) (t 8)),
 (u (.store 6 (t 6) (t 16))),
 (o 7 (.mv tt))])
 (.ret)))))
theorem h_spec_l8Net : hF Tryz.prog n_spec_l8Net = some c_spec_l8Net.strip := by kernel_rfl
theorem r_spec_l8Net : rF Tryz.prog n_spec_l8Net = some ([.cell 6 37, .tmp 7], 17) := by kernel_rfl
abbrev n_spec_DoubleOne : Nat := 126
def c_spec_DoubleOne : AS :=
 .seq (.ops [o 2 (.box (t 0)),
 (o 4 (.alloc (.agg #[.int .i64 0, .slice none 0 0, .int .i64 0, .slice none 0 0]))),
 (o 5 (.mv ff))])
 (.seq (.seq (.ops [o 6 (.load (some 4) (t 2)),
 m 7 1,
 (o 8 (.call 158 [(t 6), (t 7)])),
 (o 9 (.not (t 8)))])
 (.cond (t 9) (.seq (.ops [o 10 (.build (.agg #[.int .i64 0, .slice none 0 0, .int .i64 0, .slice none 0 0]) []),
 (u (.store 4 (t 4) (t 10))),
 (o 5 (.mv ff))])
 (.ret)) (.skip)))
 (.kept [1, 2, 4] (.seq (.rops [(none, o 11 (.load (some 4) (t 2))),
 (none, o 12 (.fa 3 (t 2))),
 (none, o 13 (.load none (t 12))),
 (none, o 14 (.fa 3 (t 2))),
 (none, o 15 (.load none (t 14))),
 (none, m 16 1),
 (none, o 17 (.ia 4 (t 15) (t 16))),
 (none, o 18 (.load (some 4) (t 17))),
 (some [o 11 (.load (some 4) (t 2))], o 19 (.call 137 [(t 13), (t 18)])),
 (some [], o 20 (.call 86 [(t 11), (t 19)])),
 (some [], o 21 (.call 117 [(t 20)])),
 (none, o 22 (.ext 0 (t 21))),
 (none, o 23 (.ext 1 (t 21))),
 (some [], u (.store 4 (t 4) (t 22))),
 (none, m 5 23)])
 (.ret))))
theorem h_spec_DoubleOne : hF Tryz.prog n_spec_DoubleOne = some c_spec_DoubleOne.strip := by kernel_rfl
theorem r_spec_DoubleOne : rF Tryz.prog n_spec_DoubleOne = some ([.cell 4 34, .tmp 5], 24) := by kernel_rfl
abbrev n_spec_DelayOne : Nat := 127
def c_spec_DelayOne : AS :=
 .seq (.ops [o 3 (.box (t 0)),
 (o 6 (.alloc (.agg #[.int .i64 0, .slice none 0 0, .int .i64 0, .slice none 0 0]))),
 (o 7 (.mv ff))])
 (.seq (.seq (.ops [o 9 (.load (some 4) (t 3)),
 m 10 1,
 (o 11 (.call 158 [(t 9), (t 10)])),
 (o 12 (.not (t 11))),
 m 13 12,
 mg 14 13 false 2,
 (g 15 13 false (.call 85 [(t 14), (k 1), (k 50)])),
 (g 16 13 false (.not (t 15))),
 (o 17 (.pick (t 13) tt (t 16)))])
 (.kept [1, 2, 3, 6, 17] (.cond (t 17) (.seq (.ops [o 18 (.build (.agg #[.int .i64 0, .slice none 0 0, .int .i64 0, .slice none 0 0]) []),
 (u (.store 4 (t 6) (t 18))),
 (o 7 (.mv ff))])
 (.ret)) (.skip))))
 (.kept [1, 2, 3, 6] (.seq (.ops [o 19 (.fa 3 (t 3)),
 (o 20 (.load none (t 19))),
 m 21 1,
 (o 22 (.ia 4 (t 20) (t 21))),
 (o 23 (.load (some 4) (t 22))),
 (o 8 (.alloc (.agg #[.int .i64 0, .int .i64 0, .int .i64 0, .string ⟨⟨[]⟩⟩]))),
 (u (.store 4 (t 8) (t 23)))])
 (.seq (.ops [o 24 (.fa 2 (t 8)),
 (o 25 (.load none (t 24))),
 m 26 2,
 (o 27 (.bin .add (t 25) (t 26))),
 (o 28 (.fa 2 (t 8))),
 (u (.store 1 (t 28) (t 27)))])
 (.seq (.rops [(none, o 29 (.load (some 4) (t 3))),
 (none, o 30 (.fa 3 (t 3))),
 (none, o 31 (.load none (t 30))),
 (none, m 32 1),
 (none, o 34 (.load (some 4) (t 8))),
 (some [o 34 (.load (some 4) (t 8)), o 29 (.load (some 4) (t 3))], o 33 (.call 159 [(t 31), (t 32)])),
 (some [o 29 (.load (some 4) (t 3))], o 35 (.call 137 [(t 33), (t 34)])),
 (some [], o 36 (.call 86 [(t 29), (t 35)])),
 (some [], o 37 (.call 117 [(t 36)])),
 (none, o 38 (.ext 0 (t 37))),
 (none, o 39 (.ext 1 (t 37))),
 (some [], u (.store 4 (t 6) (t 38))),
 (none, m 7 39)])
 (.ret))))))
theorem h_spec_DelayOne : hF Tryz.prog n_spec_DelayOne = some c_spec_DelayOne.strip := by kernel_rfl
theorem r_spec_DelayOne : rF Tryz.prog n_spec_DelayOne = some ([.cell 6 34, .tmp 7], 40) := by kernel_rfl
abbrev n_impl_FallVoter : Nat := 128
def c_impl_FallVoter : AS :=
 .seq (.ops [o 2 (.box (t 0)),
 (o 4 (.alloc (.agg #[.slice none 0 0, .int .i64 0, .slice none 0 0, .int .i64 0, .slice none 0 0, .slice none 0 0]))),
 (o 5 (.mv ff))])
 (.seq (.seq (.ops [o 8 (.load (some 6) (t 2)),
 m 9 1,
 (o 10 (.call 41 [(t 8), (t 9)])),
 (o 11 (.not (t 10)))])
 (.cond (t 11) (.seq (.ops [o 12 (.build (.agg #[.slice none 0 0, .int .i64 0, .slice none 0 0, .int .i64 0, .slice none 0 0, .slice none 0 0]) []),
 (u (.store 6 (t 4) (t 12))),
 (o 5 (.mv ff))])
 (.ret)) (.skip)))
 (.kept [1, 2, 4] (.seq (.ops [o 13 (.load (some 6) (t 2)),
 (o 14 (.call 42 [(t 13)])),
 (o 6 (.alloc (.agg #[.slice none 0 0, .int .i64 0, .slice none 0 0, .int .i64 0, .slice none 0 0, .slice none 0 0]))),
 (u (.store 6 (t 6) (t 14)))])
 (.seq (.post [(18, 1, [(3, 1)])] (.ops [o 15 (.fa 0 (t 2)),
 (o 16 (.load none (t 15))),
 m 17 1,
 (o 18 (.ia 5 (t 16) (t 17))),
 (o 19 (.load (some 5) (t 18))),
 (o 7 (.alloc (.agg #[.bool false, .int .i64 0, .int .i64 0, .slice none 0 0, .bool false]))),
 (u (.store 5 (t 7) (t 19)))]))
 (.seq (.post [(31, 1, [(3, 1)])] (.ops [o 20 (.fa 0 (t 6)),
 (o 21 (.load none (t 20))),
 m 22 1,
 (o 23 (.fa 0 (t 7))),
 (o 24 (.load none (t 23))),
 (o 25 (.not (t 24))),
 (o 26 (.fa 1 (t 7))),
 (o 27 (.load none (t 26))),
 (o 28 (.fa 2 (t 7))),
 (o 29 (.load none (t 28))),
 (o 30 (.build (.agg #[.bool false, .int .i64 0, .int .i64 0, .slice none 0 0, .bool false]) [(0, 1, (t 25)), (1, 1, (t 27)), (2, 1, (t 29))])),
 (o 31 (.ia 5 (t 21) (t 22))),
 (u (.store 5 (t 31) (t 30)))]))
 (.kept [4, 6] (.seq (.ops [o 32 (.load (some 6) (t 6)),
 (u (.store 6 (t 4) (t 32))),
 (o 5 (.mv tt))])
 (.ret))))))))
theorem h_impl_FallVoter : hF Tryz.prog n_impl_FallVoter = some c_impl_FallVoter.strip := by kernel_rfl
theorem r_impl_FallVoter : rF Tryz.prog n_impl_FallVoter = some ([.cell 4 37, .tmp 5], 33) := by kernel_rfl
abbrev n_impl_LoseOne : Nat := 129
def c_impl_LoseOne : AS :=
 .seq (.ops [o 2 (.box (t 0)),
 (o 4 (.alloc (.agg #[.int .i64 0, .slice none 0 0, .int .i64 0, .slice none 0 0]))),
 (o 5 (.mv ff))])
 (.seq (.seq (.ops [o 6 (.load (some 4) (t 2)),
 m 7 1,
 (o 8 (.call 160 [(t 6), (t 7)])),
 (o 9 (.not (t 8)))])
 (.cond (t 9) (.seq (.ops [o 10 (.build (.agg #[.int .i64 0, .slice none 0 0, .int .i64 0, .slice none 0 0]) []),
 (u (.store 4 (t 4) (t 10))),
 (o 5 (.mv ff))])
 (.ret)) (.skip)))
 (.kept [1, 2, 4] (.seq (.rops [(none, o 11 (.load (some 4) (t 2))),
 (none, o 12 (.fa 3 (t 2))),
 (none, o 13 (.load none (t 12))),
 (none, m 15 1),
 (none, m 16 1),
 (none, o 17 (.bin .add (t 16) (k 1))),
 (some [o 17 (.bin .add (t 16) (k 1)), m 16 1, m 15 1, o 11 (.load (some 4) (t 2))], o 14 (.call 112 [(t 13)])),
 (some [o 11 (.load (some 4) (t 2))], o 18 (.call 162 [(t 14), (t 15), (t 17)])),
 (some [], o 19 (.call 161 [(t 11), (t 18)])),
 (none, o 20 (.ext 0 (t 19))),
 (none, o 21 (.ext 1 (t 19))),
 (some [], u (.store 4 (t 4) (t 20))),
 (none, m 5 21)])
 (.ret))))
theorem h_impl_LoseOne : hF Tryz.prog n_impl_LoseOne = some c_impl_LoseOne.strip := by kernel_rfl
theorem r_impl_LoseOne : rF Tryz.prog n_impl_LoseOne = some ([.cell 4 34, .tmp 5], 22) := by kernel_rfl
abbrev n_impl_DoubleOne : Nat := 130
def c_impl_DoubleOne : AS :=
 .seq (.ops [o 2 (.box (t 0)),
 (o 4 (.alloc (.agg #[.int .i64 0, .slice none 0 0, .int .i64 0, .slice none 0 0]))),
 (o 5 (.mv ff))])
 (.seq (.seq (.ops [o 6 (.load (some 4) (t 2)),
 m 7 1,
 (o 8 (.call 160 [(t 6), (t 7)])),
 (o 9 (.not (t 8)))])
 (.cond (t 9) (.seq (.ops [o 10 (.build (.agg #[.int .i64 0, .slice none 0 0, .int .i64 0, .slice none 0 0]) []),
 (u (.store 4 (t 4) (t 10))),
 (o 5 (.mv ff))])
 (.ret)) (.skip)))
 (.kept [1, 2, 4] (.seq (.rops [(none, o 11 (.load (some 4) (t 2))),
 (none, o 12 (.fa 3 (t 2))),
 (none, o 13 (.load none (t 12))),
 (none, o 14 (.fa 3 (t 2))),
 (none, o 15 (.load none (t 14))),
 (none, m 16 1),
 (none, o 17 (.ia 4 (t 15) (t 16))),
 (none, o 18 (.load (some 4) (t 17))),
 (some [o 11 (.load (some 4) (t 2))], o 19 (.call 141 [(t 13), (t 18)])),
 (some [], o 20 (.call 161 [(t 11), (t 19)])),
 (none, o 21 (.ext 0 (t 20))),
 (none, o 22 (.ext 1 (t 20))),
 (some [], u (.store 4 (t 4) (t 21))),
 (none, m 5 22)])
 (.ret))))
theorem h_impl_DoubleOne : hF Tryz.prog n_impl_DoubleOne = some c_impl_DoubleOne.strip := by kernel_rfl
theorem r_impl_DoubleOne : rF Tryz.prog n_impl_DoubleOne = some ([.cell 4 34, .tmp 5], 23) := by kernel_rfl
abbrev n_impl_DelayOne : Nat := 131
def c_impl_DelayOne : AS :=
 .seq (.ops [o 3 (.box (t 0)),
 (o 6 (.alloc (.agg #[.int .i64 0, .slice none 0 0, .int .i64 0, .slice none 0 0]))),
 (o 7 (.mv ff))])
 (.seq (.seq (.ops [o 9 (.load (some 4) (t 3)),
 m 10 1,
 (o 11 (.call 160 [(t 9), (t 10)])),
 (o 12 (.not (t 11))),
 m 13 12,
 mg 14 13 false 2,
 (g 15 13 false (.call 80 [(t 14), (k 1), (k 50)])),
 (g 16 13 false (.not (t 15))),
 (o 17 (.pick (t 13) tt (t 16)))])
 (.kept [1, 2, 3, 6, 17] (.cond (t 17) (.seq (.ops [o 18 (.build (.agg #[.int .i64 0, .slice none 0 0, .int .i64 0, .slice none 0 0]) []),
 (u (.store 4 (t 6) (t 18))),
 (o 7 (.mv ff))])
 (.ret)) (.skip))))
 (.kept [1, 2, 3, 6] (.seq (.ops [o 19 (.fa 3 (t 3)),
 (o 20 (.load none (t 19))),
 m 21 1,
 (o 22 (.ia 4 (t 20) (t 21))),
 (o 23 (.load (some 4) (t 22))),
 (o 8 (.alloc (.agg #[.int .i64 0, .int .i64 0, .int .i64 0, .string ⟨⟨[]⟩⟩]))),
 (u (.store 4 (t 8) (t 23)))])
 (.seq (.ops [o 24 (.fa 2 (t 8)),
 (o 25 (.load none (t 24))),
 m 26 2,
 (o 27 (.bin .add (t 25) (t 26))),
 (o 28 (.fa 2 (t 8))),
 (u (.store 1 (t 28) (t 27)))])
 (.seq (.rops [(none, o 29 (.load (some 4) (t 3))),
 (none, o 30 (.fa 3 (t 3))),
 (none, o 31 (.load none (t 30))),
 (none, m 33 1),
 (none, m 34 1),
 (none, o 35 (.bin .add (t 34) (k 1))),
 (none, o 37 (.load (some 4) (t 8))),
 (some [o 37 (.load (some 4) (t 8)), o 35 (.bin .add (t 34) (k 1)), m 34 1, m 33 1, o 29 (.load (some 4) (t 3))], o 32 (.call 112 [(t 31)])),
 (some [o 37 (.load (some 4) (t 8)), o 29 (.load (some 4) (t 3))], o 36 (.call 162 [(t 32), (t 33), (t 35)])),
 (some [o 29 (.load (some 4) (t 3))], o 38 (.call 141 [(t 36), (t 37)])),
 (some [], o 39 (.call 161 [(t 29), (t 38)])),
 (none, o 40 (.ext 0 (t 39))),
 (none, o 41 (.ext 1 (t 39))),
 (some [], u (.store 4 (t 6) (t 40))),
 (none, m 7 41)])
 (.ret))))))
theorem h_impl_DelayOne : hF Tryz.prog n_impl_DelayOne = some c_impl_DelayOne.strip := by kernel_rfl
theorem r_impl_DelayOne : rF Tryz.prog n_impl_DelayOne = some ([.cell 6 34, .tmp 7], 42) := by kernel_rfl
abbrev n_impl_isTrue : Nat := 132
def c_impl_isTrue : AS :=
 .seq (.ops [o 2 (.mv ff)])
 (.seq (.ops [m 3 0,
 (o 4 (.call 80 [(t 3), (k 0), (k 100000)])),
 m 2 4])
 (.ret))
theorem h_impl_isTrue : hF Tryz.prog n_impl_isTrue = some c_impl_isTrue.strip := by kernel_rfl
theorem r_impl_isTrue : rF Tryz.prog n_impl_isTrue = some ([.tmp 2], 5) := by kernel_rfl
abbrev n_impl_Net_isLetter : Nat := 133
def c_impl_Net_isLetter : AS :=
 .seq (.ops [o 2 (.box (t 0)),
 (o 3 (.box (t 1))),
 (o 4 (.mv ff))])
 (.seq (.ops [o 5 (.load (some 4) (t 2)),
 (o 6 (.fa 0 (t 3))),
 (o 7 (.load none (t 6))),
 (o 8 (.call 81 [(t 5), (t 7)])),
 m 9 8,
 (g 10 9 true (.load (some 4) (t 2))),
 (g 11 9 true (.fa 1 (t 3))),
 (g 12 9 true (.load none (t 11))),
 (g 13 9 true (.call 81 [(t 10), (t 12)])),
 (o 14 (.pick (t 9) (t 13) ff)),
 m 15 14,
 (g 16 15 true (.fa 0 (t 3))),
 (g 17 15 true (.load none (t 16))),
 (g 18 15 true (.fa 1 (t 3))),
 (g 19 15 true (.load none (t 18))),
 (g 20 15 true (.bin .neq (t 17) (t 19))),
 (o 21 (.pick (t 15) (t 20) ff)),
 m 22 21,
 (g 23 22 true (.fa 2 (t 3))),
 (g 24 22 true (.load none (t 23))),
 (g 25 22 true (.call 80 [(t 24), (k 0), (k 100200)])),
 (o 26 (.pick (t 22) (t 25) ff)),
 m 27 26,
 (g 28 27 true (.fa 3 (t 3))),
 (g 29 27 true (.load none (t 28))),
 (g 30 27 true (.lent (t 29))),
 (g 31 27 true (.call 80 [(t 30), (k 1), (k 40)])),
 (o 32 (.pick (t 27) (t 31) ff)),
 m 4 32])
 (.ret))
theorem h_impl_Net_isLetter : hF Tryz.prog n_impl_Net_isLetter = some c_impl_Net_isLetter.strip := by kernel_rfl
theorem r_impl_Net_isLetter : rF Tryz.prog n_impl_Net_isLetter = some ([.tmp 4], 33) := by kernel_rfl
abbrev n_impl_areInts : Nat := 134
def c_impl_areInts_l1 : AS :=
 .seq (.ops [o 10 (.bin .lss (t 9) (t 8))])
 (.seq (.cond (t 10) (.skip) (.exit 0))
 (.seq (.block 1 (.seq (.ops [m 11 9,
 (o 12 (.ia 1 (t 7) (t 9))),
 (o 13 (.load none (t 12))),
 m 5 11,
 m 6 13])
 (.seq (.ops [m 14 6,
 m 15 1,
 (o 16 (.bin .sub (t 15) (k 1))),
 (o 17 (.call 80 [(t 14), (k 0), (t 16)])),
 (o 18 (.not (t 17))),
 m 19 18,
 mg 20 19 false 5,
 (g 21 19 false (.bin .gtr (t 20) (k 0))),
 mg 22 19 false 21,
 mg 23 22 true 6,
 mg 24 22 true 0,
 mg 25 22 true 5,
 (g 26 22 true (.bin .sub (t 25) (k 1))),
 (g 27 22 true (.ia 1 (t 24) (t 26))),
 (g 28 22 true (.load none (t 27))),
 (g 29 22 true (.bin .leq (t 23) (t 28))),
 (g 30 19 false (.pick (t 22) (t 29) ff)),
 (o 31 (.pick (t 19) tt (t 30)))])
 (.kept [0, 1, 7, 8, 9, 31] (.cond (t 31) (.seq (.ops [o 4 (.mv ff)])
 (.ret)) (.skip))))))
 (.kept [0, 1, 7, 8, 9] (.ops [o 32 (.bin .add (t 9) (k 1)),
 m 9 32]))))
def c_impl_areInts : AS :=
 .seq (.ops [o 4 (.mv ff)])
 (.seq (.seq (.ops [m 7 0,
 (o 8 (.lens (t 7))),
 (o 9 (.mv (k 0)))])
 (.block 0 (.loop 2 [(0, 0), (1, 0), (7, 0), (8, 0), (9, 0)] c_impl_areInts_l1)))
 (.kept [] (.seq (.ops [o 4 (.mv tt)])
 (.ret))))
theorem h_impl_areInts : hF Tryz.prog n_impl_areInts = some c_impl_areInts.strip := by kernel_rfl
theorem r_impl_areInts : rF Tryz.prog n_impl_areInts = some ([.tmp 4], 33) := by kernel_rfl
abbrev n_spec_l7Node : Nat := 136
def c_spec_l7Node : AS :=
 .seq (.ops [o 2 (.box (t 0)),
 (o 4 (.mv ff))])
 (.seq (.ops [m 5 1,
 (o 6 (.fa 1 (t 2))),
 (o 7 (.load none (t 6))),
 (o 8 (.lens (t 7))),
 (o 9 (.bin .sub (t 8) (k 1))),
 (o 10 (.call 85 [(t 5), (k 0), (t 9)])),
 m 4 10])
 (.ret))
theorem h_spec_l7Node : hF Tryz.prog n_spec_l7Node = some c_spec_l7Node.strip := by kernel_rfl
theorem r_spec_l7Node : rF Tryz.prog n_spec_l7Node = some ([.tmp 4], 11) := by kernel_rfl
abbrev n_spec_l7In : Nat := 137
def c_spec_l7In_l1 : AS :=
 .seq (.seq (.dops [m 6 5,
 m 7 0,
 (o 8 (.lens (t 7))),
 (o 9 (.bin .lss (t 6) (t 8))),
 m 10 9,
 mg 11 10 true 0,
 mg 12 10 true 5,
 (g 13 10 true (.ia 4 (t 11) (t 12))),
 (g 14 10 true (.fa 2 (t 13))),
 (g 15 10 true (.load none (t 14))),
 (g 16 10 true (.fa 2 (t 3))),
 (g 17 10 true (.load none (t 16))),
 (g 18 10 true (.bin .leq (t 15) (t 17))),
 (o 19 (.pick (t 10) (t 18) ff))])
 (.kept [0, 3, 5, 19] (.cond (t 19) (.skip) (.exit 0))))
 (.kept [0, 3, 5] (.block 1 (.ops [m 20 5,
 (o 21 (.bin .add (t 20) (k 1))),
 m 5 21])))
def c_spec_l7In : AS :=
 .seq (.ops [o 3 (.box (t 1)),
 (o 4 (.mv (.const (.slice none 0 0))))])
 (.seq (.ops [o 5 (.mv (k 0))])
 (.seq (.block 0 (.loop 2 [(0, 0), (3, 0), (5, 0)] c_spec_l7In_l1))
 (.kept [0, 3, 5] (.seq (.tops [(0, 0), (4, 0)] (.rd (m 22 0) (.rd (m 23 5) (.rd (o 24 (.sls 4 (t 22) none (some (t 23)) none)) (.rd (o 26 (.load (some 4) (t 3))) (.rd (m 29 0) (.rd (m 30 5) (.rd (o 31 (.sls 4 (t 29) (some (t 30)) none none)) (.alt [o 31 (.sls 4 (t 29) (some (t 30)) none none), m 30 5, m 29 0, o 26 (.load (some 4) (t 3))] (o 25 (.call 119 [(t 24)]))
 (.alt [o 31 (.sls 4 (t 29) (some (t 30)) none none), m 30 5, m 29 0] (o 27 (.bsl 4 (.agg #[.int .i64 0, .int .i64 0, .int .i64 0, .string ⟨⟨[]⟩⟩]) 1 [(0, (t 26))]))
 (.alt [o 31 (.sls 4 (t 29) (some (t 30)) none none), m 30 5, m 29 0] (o 28 (.app 4 40 (.agg #[.int .i64 0, .int .i64 0, .int .i64 0, .string ⟨⟨[]⟩⟩]) (t 25) (t 27)))
 (.alt [] (o 32 (.app 4 40 (.agg #[.int .i64 0, .int .i64 0, .int .i64 0, .string ⟨⟨[]⟩⟩]) (t 28) (t 31)))
 (.rd (m 4 32) (.done))
 (.none))
 (.none))
 (.none))
 (.alt [o 31 (.sls 4 (t 29) (some (t 30)) none none), m 30 5, m 29 0, o 24 (.sls 4 (t 22) none (some (t 23)) none), m 23 5, m 22 0] (o 27 (.bsl 4 (.agg #[.int .i64 0, .int .i64 0, .int .i64 0, .string ⟨⟨[]⟩⟩]) 1 [(0, (t 26))]))
 (.alt [o 31 (.sls 4 (t 29) (some (t 30)) none none), m 30 5, m 29 0] (o 25 (.call 119 [(t 24)]))
 (.alt [o 31 (.sls 4 (t 29) (some (t 30)) none none), m 30 5, m 29 0] (o 28 (.app 4 40 (.agg #[.int .i64 0, .int .i64 0, .int .i64 0, .string ⟨⟨[]⟩⟩]) (t 25) (t 27)))
 (.alt [] (o 32 (.app 4 40 (.agg #[.int .i64 0, .int .i64 0, .int .i64 0, .string ⟨⟨[]⟩⟩]) (t 28) (t 31)))
 (.rd (m 4 32) (.done))
 (.none))
 (.none))
 (.none))
 (.none)))))))))))
 (.ret)))))
theorem h_spec_l7In : hF Tryz.prog n_spec_l7In = some c_spec_l7In.strip := by kernel_rfl
theorem r_spec_l7In : rF Tryz.prog n_spec_l7In = some ([.tmp 4], 33) := by kernel_rfl
abbrev n_spec_l7Trip : Nat := 138
def c_spec_l7Trip : AS :=
 .seq (.ops [o 3 (.box (t 0)),
 (o 6 (.mv (k 0)))])
 (.seq (.dops [o 8 (.fa 1 (t 3)),
 (o 9 (.load none (t 8))),
 m 10 1,
 (o 11 (.ia 1 (t 9) (t 10))),
 (o 12 (.load none (t 11))),
 (o 13 (.fa 1 (t 3))),
 (o 14 (.load none (t 13))),
 m 15 2,
 (o 16 (.ia 1 (t 14) (t 15))),
 (o 17 (.load none (t 16))),
 (o 18 (.bin .sub (t 12) (t 17))),
 m 7 18])
 (.kept [3, 7] (.seq (.rops [(none, o 19 (.fa 2 (t 3))),
 (none, o 20 (.load none (t 19))),
 (none, m 21 7),
 (none, m 22 7),
 (none, o 23 (.neg (t 22))),
 (some [o 20 (.load none (t 19)), o 19 (.fa 2 (t 3))], o 24 (.call 163 [(t 21), (t 23)])),
 (none, o 25 (.bin .mul (t 20) (t 24))),
 (none, o 26 (.bin .add (k 1) (t 25))),
 (none, m 6 26)])
 (.ret))))
theorem h_spec_l7Trip : hF Tryz.prog n_spec_l7Trip = some c_spec_l7Trip.strip := by kernel_rfl
theorem r_spec_l7Trip : rF Tryz.prog n_spec_l7Trip = some ([.tmp 6], 27) := by kernel_rfl
abbrev n_impl_Net_trip : Nat := 140
def c_impl_Net_trip : AS :=
 .seq (.ops [o 3 (.box (t 0)),
 (o 6 (.mv (k 0)))])
 (.seq (.dops [o 8 (.fa 1 (t 3)),
 (o 9 (.load none (t 8))),
 m 10 1,
 (o 11 (.ia 1 (t 9) (t 10))),
 (o 12 (.load none (t 11))),
 (o 13 (.fa 1 (t 3))),
 (o 14 (.load none (t 13))),
 m 15 2,
 (o 16 (.ia 1 (t 14) (t 15))),
 (o 17 (.load none (t 16))),
 (o 18 (.bin .sub (t 12) (t 17))),
 m 7 18])
 (.kept [3, 7] (.seq (.ops [o 19 (.fa 2 (t 3)),
 (o 20 (.load none (t 19))),
 m 21 7,
 m 22 7,
 (o 23 (.neg (t 22))),
 (o 24 (.bmax [(t 21), (t 23)])),
 (o 25 (.bin .mul (t 20) (t 24))),
 (o 26 (.bin .add (k 1) (t 25))),
 m 6 26])
 (.ret))))
theorem h_impl_Net_trip : hF Tryz.prog n_impl_Net_trip = some c_impl_Net_trip.strip := by kernel_rfl
theorem r_impl_Net_trip : rF Tryz.prog n_impl_Net_trip = some ([.tmp 6], 27) := by kernel_rfl
abbrev n_impl_laid : Nat := 141
def c_impl_laid : AS :=
 .seq (.ops [o 3 (.box (t 1)),
 (o 4 (.mv (.const (.slice none 0 0))))])
 (.seq (.ops [m 6 0,
 (o 7 (.mkf 164 [(t 3)])),
 (o 8 (.call 110 [(t 6), (t 7)])),
 m 5 8])
 (.seq (.seq (.ops [m 9 5,
 (o 10 (.bin .lss (t 9) (k 0)))])
 (.cond (t 10) (.ops [m 11 0,
 (o 12 (.lens (t 11))),
 m 5 12]) (.skip)))
 (.seq (.tops [(0, 0), (4, 0)] (.rd (m 13 0) (.rd (m 15 5) (.rd (o 16 (.load (some 4) (t 3))) (.alt [o 16 (.load (some 4) (t 3)), m 15 5] (o 14 (.call 112 [(t 13)]))
 (.alt [m 15 5] (o 17 (.bsl 4 (.agg #[.int .i64 0, .int .i64 0, .int .i64 0, .string ⟨⟨[]⟩⟩]) 1 [(0, (t 16))]))
 (.alt [] (o 18 (.call 165 [(t 14), (t 15), (t 17)]))
 (.rd (m 4 18) (.done))
 (.none))
 (.none))
 (.alt [m 15 5, m 13 0] (o 17 (.bsl 4 (.agg #[.int .i64 0, .int .i64 0, .int .i64 0, .string ⟨⟨[]⟩⟩]) 1 [(0, (t 16))]))
 (.alt [m 15 5] (o 14 (.call 112 [(t 13)]))
 (.alt [] (o 18 (.call 165 [(t 14), (t 15), (t 17)]))
 (.rd (m 4 18) (.done))
 (.none))
 (.none))
 (.none)))))))
 (.ret))))
theorem h_impl_laid : hF Tryz.prog n_impl_laid = some c_impl_laid.strip := by kernel_rfl
theorem r_impl_laid : rF Tryz.prog n_impl_laid = some ([.tmp 4], 19) := by kernel_rfl
abbrev n_slices_ContainsFunc___int_int_ : Nat := 145
def c_slices_ContainsFunc___int_int_ : AS :=
 .seq (.ops [o 4 (.mv ff)])
 (.seq (.ops [m 5 0,
 m 6 1,
 (o 7 (.call 170 [(t 5), (t 6)])),
 (o 8 (.bin .geq (t 7) (k 0))),
 m 4 8])
 (.ret))
theorem h_slices_ContainsFunc___int_int_ : hF Tryz.prog n_slices_ContainsFunc___int_int_ = some c_slices_ContainsFunc___int_int_.strip := by kernel_rfl
theorem r_slices_ContainsFunc___int_int_ : rF Tryz.prog n_slices_ContainsFunc___int_int_ = some ([.tmp 4], 9) := by kernel_rfl
abbrev n_impl_areHomes_1 : Nat := 146
def c_impl_areHomes_1 : AS :=
 .seq (.ops [o 2 (.mv ff)])
 (.seq (.ops [m 3 0,
 (o 4 (.call 80 [(t 3), (k 0), (k 2)])),
 (o 5 (.not (t 4))),
 m 2 5])
 (.ret))
theorem h_impl_areHomes_1 : hF Tryz.prog n_impl_areHomes_1 = some c_impl_areHomes_1.strip := by kernel_rfl
theorem r_impl_areHomes_1 : rF Tryz.prog n_impl_areHomes_1 = some ([.tmp 2], 6) := by kernel_rfl
abbrev n_math_bits_Mul64 : Nat := 148
def c_math_bits_Mul64 : AS :=
 .seq (.ops [o 4 (.mv (.const (.int .u64 0))),
 (o 5 (.mv (.const (.int .u64 0))))])
 (.seq (.ops [m 14 0,
 (o 15 (.bin .and (t 14) (.const (.int .u64 4294967295)))),
 m 6 15])
 (.seq (.ops [m 16 0,
 (o 17 (.bin .shr (t 16) (.const (.int .u64 32)))),
 m 7 17])
 (.seq (.ops [m 18 1,
 (o 19 (.bin .and (t 18) (.const (.int .u64 4294967295)))),
 m 8 19])
 (.seq (.ops [m 20 1,
 (o 21 (.bin .shr (t 20) (.const (.int .u64 32)))),
 m 9 21])
 (.seq (.ops [m 22 6,
 m 23 8,
 (o 24 (.bin .mul (t 22) (t 23))),
 m 10 24])
 (.seq (.ops [m 25 7,
 m 26 8,
 (o 27 (.bin .mul (t 25) (t 26))),
 m 28 10,
 (o 29 (.bin .shr (t 28) (.const (.int .u64 32)))),
 (o 30 (.bin .add (t 27) (t 29))),
 m 11 30])
 (.kept [0, 1, 6, 7, 9, 11] (.seq (.ops [m 31 11,
 (o 32 (.bin .and (t 31) (.const (.int .u64 4294967295)))),
 m 12 32])
 (.seq (.ops [m 33 11,
 (o 34 (.bin .shr (t 33) (.const (.int .u64 32)))),
 m 13 34])
 (.seq (.ops [m 35 12,
 m 36 6,
 m 37 9,
 (o 38 (.bin .mul (t 36) (t 37))),
 (o 39 (.bin .add (t 35) (t 38))),
 m 12 39])
 (.seq (.ops [m 40 7,
 m 41 9,
 (o 42 (.bin .mul (t 40) (t 41))),
 m 43 13,
 (o 44 (.bin .add (t 42) (t 43))),
 m 45 12,
 (o 46 (.bin .shr (t 45) (.const (.int .u64 32)))),
 (o 47 (.bin .add (t 44) (t 46))),
 m 4 47])
 (.kept [0, 1, 4] (.seq (.ops [m 48 0,
 m 49 1,
 (o 50 (.bin .mul (t 48) (t 49))),
 m 5 50])
 (.ret))))))))))))))
theorem h_math_bits_Mul64 : hF Tryz.prog n_math_bits_Mul64 = some c_math_bits_Mul64.strip := by kernel_rfl
theorem r_math_bits_Mul64 : rF Tryz.prog n_math_bits_Mul64 = some ([.tmp 4, .tmp 5], 51) := by kernel_rfl
abbrev n_cmp_Less_int_ : Nat := 151
def c_cmp_Less_int_ : AS :=
 .seq (.ops [o 4 (.mv ff)])
 (.seq (.ops [m 5 0,
 (o 6 (.call 176 [(t 5)])),
 m 7 6,
 mg 8 7 true 1,
 (g 9 7 true (.call 176 [(t 8)])),
 (g 10 7 true (.not (t 9))),
 (o 11 (.pick (t 7) (t 10) ff)),
 m 12 11,
 mg 13 12 false 0,
 mg 14 12 false 1,
 (g 15 12 false (.bin .lss (t 13) (t 14))),
 (o 16 (.pick (t 12) tt (t 15))),
 m 4 16])
 (.ret))
theorem h_cmp_Less_int_ : hF Tryz.prog n_cmp_Less_int_ = some c_cmp_Less_int_.strip := by kernel_rfl
theorem r_cmp_Less_int_ : rF Tryz.prog n_cmp_Less_int_ = some ([.tmp 4], 17) := by kernel_rfl
abbrev n_slices_isNaN_int_ : Nat := 152
def c_slices_isNaN_int_ : AS :=
 .seq (.ops [o 2 (.mv ff)])
 (.seq (.ops [m 3 0,
 m 4 0,
 (o 5 (.bin .neq (t 3) (t 4))),
 m 2 5])
 (.ret))
theorem h_slices_isNaN_int_ : hF Tryz.prog n_slices_isNaN_int_ = some c_slices_isNaN_int_.strip := by kernel_rfl
theorem r_slices_isNaN_int_ : rF Tryz.prog n_slices_isNaN_int_ = some ([.tmp 2], 6) := by kernel_rfl
abbrev n_slices_overlaps_int_ : Nat := 153
theorem d_slices_overlaps_int_ : Tryz.prog.funcs[n_slices_overlaps_int_]? = some Tryz.f153 := by kernel_rfl
theorem x_slices_overlaps_int_ (vs : Array Value) (w : Go.World) : (callFunc n_slices_overlaps_int_ vs).run Tryz.prog w = ((Extern.SlicesOverlaps.overlaps #[23, 23] #[4] vs).run Tryz.prog w).andThen fun v w' => .ok (.value v) w' := run_callFunc_extern (e := Extern.SlicesOverlaps.overlaps #[23, 23] #[4]) d_slices_overlaps_int_ (by kernel_rfl) (by kernel_rfl) (by kernel_rfl) (by kernel_rfl) vs w
theorem u_slices_overlaps_int_ : Tryz.prog.underlying 23 = some (.slice 3) := by kernel_rfl
theorem wd_slices_overlaps_int_ : width Tryz.prog 3 = some 1 := by kernel_rfl
abbrev n_spec_l1All : Nat := 155
def c_spec_l1All_l1 : AS :=
 .seq (.ops [o 12 (.bin .lss (t 11) (t 10))])
 (.seq (.cond (t 12) (.skip) (.exit 0))
 (.seq (.block 1 (.seq (.ops [o 13 (.ia 1 (t 9) (t 11)),
 (o 14 (.load none (t 13))),
 m 8 14])
 (.seq (.ops [m 15 8,
 m 16 1,
 m 17 2,
 (o 18 (.call 85 [(t 15), (t 16), (t 17)])),
 (o 19 (.not (t 18)))])
 (.cond (t 19) (.seq (.ops [o 6 (.mv ff)])
 (.ret)) (.skip)))))
 (.kept [1, 2, 9, 10, 11] (.ops [o 20 (.bin .add (t 11) (k 1)),
 m 11 20]))))
def c_spec_l1All : AS :=
 .seq (.ops [o 6 (.mv ff)])
 (.seq (.seq (.ops [m 9 0,
 (o 10 (.lens (t 9))),
 (o 11 (.mv (k 0)))])
 (.block 0 (.loop 3 [(1, 0), (2, 0), (9, 0), (10, 0), (11, 0)] c_spec_l1All_l1)))
 (.kept [] (.seq (.ops [o 6 (.mv tt)])
 (.ret))))
theorem h_spec_l1All : hF Tryz.prog n_spec_l1All = some c_spec_l1All.strip := by kernel_rfl
theorem r_spec_l1All : rF Tryz.prog n_spec_l1All = some ([.tmp 6], 21) := by kernel_rfl
abbrev n_spec_l1Rising : Nat := 156
def c_spec_l1Rising_l1 : AS :=
 .seq (.ops [o 12 (.bin .lss (t 11) (t 10))])
 (.seq (.cond (t 12) (.skip) (.exit 0))
 (.seq (.block 1 (.seq (.ops [m 13 11,
 (o 14 (.ia 1 (t 9) (t 11))),
 (o 15 (.load none (t 14))),
 m 7 13,
 m 8 15])
 (.seq (.ops [m 16 8,
 m 17 1,
 m 18 2,
 (o 19 (.call 85 [(t 16), (t 17), (t 18)])),
 (o 20 (.not (t 19))),
 m 21 20,
 mg 22 21 false 7,
 (g 23 21 false (.bin .gtr (t 22) (k 0))),
 mg 24 21 false 23,
 mg 25 24 true 0,
 mg 26 24 true 7,
 (g 27 24 true (.bin .sub (t 26) (k 1))),
 (g 28 24 true (.ia 1 (t 25) (t 27))),
 (g 29 24 true (.load none (t 28))),
 mg 30 24 true 8,
 (g 31 24 true (.bin .geq (t 29) (t 30))),
 (g 32 21 false (.pick (t 24) (t 31) ff)),
 (o 33 (.pick (t 21) tt (t 32)))])
 (.kept [0, 1, 2, 9, 10, 11, 33] (.cond (t 33) (.seq (.ops [o 6 (.mv ff)])
 (.ret)) (.skip))))))
 (.kept [0, 1, 2, 9, 10, 11] (.ops [o 34 (.bin .add (t 11) (k 1)),
 m 11 34]))))
def c_spec_l1Rising : AS :=
 .seq (.ops [o 6 (.mv ff)])
 (.seq (.seq (.ops [m 9 0,
 (o 10 (.lens (t 9))),
 (o 11 (.mv (k 0)))])
 (.block 0 (.loop 3 [(0, 0), (1, 0), (2, 0), (9, 0), (10, 0), (11, 0)] c_spec_l1Rising_l1)))
 (.kept [] (.seq (.ops [o 6 (.mv tt)])
 (.ret))))
theorem h_spec_l1Rising : hF Tryz.prog n_spec_l1Rising = some c_spec_l1Rising.strip := by kernel_rfl
theorem r_spec_l1Rising : rF Tryz.prog n_spec_l1Rising = some ([.tmp 6], 35) := by kernel_rfl
abbrev n_spec_l1Put : Nat := 157
def c_spec_l1Put_l1 : AS :=
 .seq (.seq (.ops [m 7 5,
 m 8 0,
 (o 9 (.lens (t 8))),
 (o 10 (.bin .lss (t 7) (t 9))),
 m 11 10,
 mg 12 11 true 0,
 mg 13 11 true 5,
 (g 14 11 true (.ia 1 (t 12) (t 13))),
 (g 15 11 true (.load none (t 14))),
 mg 16 11 true 1,
 (g 17 11 true (.bin .lss (t 15) (t 16))),
 (o 18 (.pick (t 11) (t 17) ff))])
 (.kept [0, 1, 5, 18] (.cond (t 18) (.skip) (.exit 0))))
 (.kept [0, 1, 5] (.block 1 (.ops [m 19 5,
 (o 20 (.bin .add (t 19) (k 1))),
 m 5 20])))
def c_spec_l1Put : AS :=
 .seq (.ops [o 4 (.mv (.const (.slice none 0 0)))])
 (.seq (.ops [o 5 (.mv (k 0))])
 (.seq (.block 0 (.loop 2 [(0, 1), (1, 0), (5, 0)] c_spec_l1Put_l1))
 (.kept [0, 1, 5] (.seq (.seq (.ops [m 21 5,
 m 22 0,
 (o 23 (.lens (t 22))),
 (o 24 (.bin .lss (t 21) (t 23))),
 m 25 24,
 mg 26 25 true 0,
 mg 27 25 true 5,
 (g 28 25 true (.ia 1 (t 26) (t 27))),
 (g 29 25 true (.load none (t 28))),
 mg 30 25 true 1,
 (g 31 25 true (.bin .eql (t 29) (t 30))),
 (o 32 (.pick (t 25) (t 31) ff))])
 (.kept [0, 1, 5, 32] (.cond (t 32) (.seq (.ops [m 33 0,
 m 4 33])
 (.ret)) (.skip))))
 (.kept [0, 1, 5] (.seq (.ops [o 34 (.bsl 1 (.int .i64 0) 0 []),
 m 35 0,
 m 36 5,
 (o 37 (.sls 1 (t 35) none (some (t 36)) none)),
 (o 38 (.app 1 8 (.int .i64 0) (t 34) (t 37))),
 m 6 38])
 (.seq (.ops [m 39 6,
 m 40 1,
 (o 41 (.bsl 1 (.int .i64 0) 1 [(0, (t 40))])),
 (o 42 (.app 1 8 (.int .i64 0) (t 39) (t 41))),
 m 6 42])
 (.seq (.ops [m 43 6,
 m 44 0,
 m 45 5,
 (o 46 (.sls 1 (t 44) (some (t 45)) none none)),
 (o 47 (.app 1 8 (.int .i64 0) (t 43) (t 46))),
 m 4 47])
 (.ret)))))))))
theorem h_spec_l1Put : hF Tryz.prog n_spec_l1Put = some c_spec_l1Put.strip := by kernel_rfl
theorem r_spec_l1Put : rF Tryz.prog n_spec_l1Put = some ([.tmp 4], 48) := by kernel_rfl
abbrev n_spec_l7Has : Nat := 158
def c_spec_l7Has : AS :=
 .seq (.ops [o 2 (.box (t 0)),
 (o 4 (.mv ff))])
 (.seq (.ops [o 5 (.load (some 4) (t 2)),
 (o 6 (.call 116 [(t 5)])),
 m 7 6,
 mg 8 7 true 1,
 (g 9 7 true (.fa 3 (t 2))),
 (g 10 7 true (.load none (t 9))),
 (g 11 7 true (.lens (t 10))),
 (g 12 7 true (.bin .sub (t 11) (k 1))),
 (g 13 7 true (.call 85 [(t 8), (k 0), (t 12)])),
 (o 14 (.pick (t 7) (t 13) ff)),
 m 4 14])
 (.ret))
theorem h_spec_l7Has : hF Tryz.prog n_spec_l7Has = some c_spec_l7Has.strip := by kernel_rfl
theorem r_spec_l7Has : rF Tryz.prog n_spec_l7Has = some ([.tmp 4], 15) := by kernel_rfl
abbrev n_spec_l7Out : Nat := 159
def c_spec_l7Out : AS :=
 .seq (.ops [o 4 (.mv (.const (.slice none 0 0)))])
 (.seq (.rops [(none, m 5 0),
 (none, m 6 1),
 (none, o 7 (.sls 4 (t 5) none (some (t 6)) none)),
 (none, m 9 0),
 (none, m 10 1),
 (none, o 11 (.bin .add (t 10) (k 1))),
 (none, o 12 (.sls 4 (t 9) (some (t 11)) none none)),
 (some [o 12 (.sls 4 (t 9) (some (t 11)) none none), o 11 (.bin .add (t 10) (k 1)), m 10 1, m 9 0], o 8 (.call 119 [(t 7)])),
 (some [], o 13 (.app 4 40 (.agg #[.int .i64 0, .int .i64 0, .int .i64 0, .string ⟨⟨[]⟩⟩]) (t 8) (t 12))),
 (none, m 4 13)])
 (.ret))
theorem h_spec_l7Out : hF Tryz.prog n_spec_l7Out = some c_spec_l7Out.strip := by kernel_rfl
theorem r_spec_l7Out : rF Tryz.prog n_spec_l7Out = some ([.tmp 4], 14) := by kernel_rfl
abbrev n_impl_isUnder : Nat := 160
def c_impl_isUnder : AS :=
 .seq (.ops [o 2 (.box (t 0)),
 (o 4 (.mv ff))])
 (.seq (.ops [o 5 (.load (some 4) (t 2)),
 (o 6 (.call 77 [(t 5)])),
 m 7 6,
 mg 8 7 true 1,
 (g 9 7 true (.fa 3 (t 2))),
 (g 10 7 true (.load none (t 9))),
 (g 11 7 true (.lens (t 10))),
 (g 12 7 true (.bin .sub (t 11) (k 1))),
 (g 13 7 true (.call 80 [(t 8), (k 0), (t 12)])),
 (o 14 (.pick (t 7) (t 13) ff)),
 m 4 14])
 (.ret))
theorem h_impl_isUnder : hF Tryz.prog n_impl_isUnder = some c_impl_isUnder.strip := by kernel_rfl
theorem r_impl_isUnder : rF Tryz.prog n_impl_isUnder = some ([.tmp 4], 15) := by kernel_rfl
abbrev n_impl_Net_withUnder : Nat := 161
def c_impl_Net_withUnder : AS :=
 .seq (.ops [o 2 (.box (t 0)),
 (o 4 (.alloc (.agg #[.int .i64 0, .slice none 0 0, .int .i64 0, .slice none 0 0]))),
 (o 5 (.mv ff))])
 (.seq (.ops [o 7 (.load (some 4) (t 2)),
 (o 8 (.call 94 [(t 7)])),
 (o 6 (.alloc (.agg #[.int .i64 0, .slice none 0 0, .int .i64 0, .slice none 0 0]))),
 (u (.store 4 (t 6) (t 8)))])
 (.seq (.ops [m 9 1,
 (o 10 (.fa 3 (t 6))),
 (u (.store 1 (t 10) (t 9)))])
 (.seq (.seq (.ops [o 11 (.load (some 4) (t 6)),
 (o 12 (.call 77 [(t 11)])),
 (o 13 (.not (t 12)))])
 (.cond (t 13) (.seq (.ops [o 14 (.build (.agg #[.int .i64 0, .slice none 0 0, .int .i64 0, .slice none 0 0]) []),
 (u (.store 4 (t 4) (t 14))),
 (o 5 (.mv ff))])
 (.ret)) (.skip)))
 (.seq (.ops [o 15 (.load (some 4) (t 6)),
 (u (.store 4 (t 4) (t 15))),
 (o 5 (.mv tt))])
 (.ret)))))
theorem h_impl_Net_withUnder : hF Tryz.prog n_impl_Net_withUnder = some c_impl_Net_withUnder.strip := by kernel_rfl
theorem r_impl_Net_withUnder : rF Tryz.prog n_impl_Net_withUnder = some ([.cell 4 34, .tmp 5], 16) := by kernel_rfl
abbrev n_slices_Delete___impl_Letter_impl_Letter_ : Nat := 162
def c_slices_Delete___impl_Letter_impl_Letter_ : AS :=
 .seq (.ops [o 6 (.mv (.const (.slice none 0 0)))])
 (.seq (.ops [m 8 0,
 m 9 1,
 m 10 2,
 m 11 0,
 (o 12 (.lens (t 11))),
 (o 13 (.sls 4 (t 8) (some (t 9)) (some (t 10)) (some (t 12))))])
 (.kept [0, 1, 2] (.seq (.seq (.ops [m 14 1,
 m 15 2,
 (o 16 (.bin .eql (t 14) (t 15)))])
 (.cond (t 16) (.seq (.post [(6, 0, [])] (.ops [m 17 0,
 m 6 17]))
 (.ret)) (.skip)))
 (.seq (.ops [m 18 0,
 (o 19 (.lens (t 18))),
 m 7 19])
 (.seq (.rops [(none, m 20 0),
 (none, m 21 1),
 (none, o 22 (.sls 4 (t 20) none (some (t 21)) none)),
 (none, m 23 0),
 (none, m 24 2),
 (none, o 25 (.sls 4 (t 23) (some (t 24)) none none)),
 (some [], o 26 (.app 4 40 (.agg #[.int .i64 0, .int .i64 0, .int .i64 0, .string ⟨⟨[]⟩⟩]) (t 22) (t 25))),
 (none, m 0 26)])
 (.kept [0, 7] (.seq (.ops [m 27 0,
 m 28 0,
 (o 29 (.lens (t 28))),
 m 30 7,
 (o 31 (.sls 4 (t 27) (some (t 29)) (some (t 30)) none)),
 (u (.clr 4 (.agg #[.int .i64 0, .int .i64 0, .int .i64 0, .string ⟨⟨[]⟩⟩]) (t 31)))])
 (.seq (.post [(6, 0, [])] (.ops [m 32 0,
 m 6 32]))
 (.ret)))))))))
theorem h_slices_Delete___impl_Letter_impl_Letter_ : hF Tryz.prog n_slices_Delete___impl_Letter_impl_Letter_ = some c_slices_Delete___impl_Letter_impl_Letter_.strip := by kernel_rfl
theorem r_slices_Delete___impl_Letter_impl_Letter_ : rF Tryz.prog n_slices_Delete___impl_Letter_impl_Letter_ = some ([.tmp 6], 33) := by kernel_rfl
abbrev n_spec_l1Most : Nat := 163
def c_spec_l1Most : AS :=
 .seq (.ops [o 4 (.mv (k 0))])
 (.seq (.seq (.ops [m 5 0,
 m 6 1,
 (o 7 (.bin .gtr (t 5) (t 6)))])
 (.cond (t 7) (.seq (.ops [m 8 0,
 m 4 8])
 (.ret)) (.skip)))
 (.seq (.ops [m 9 1,
 m 4 9])
 (.ret)))
theorem h_spec_l1Most : hF Tryz.prog n_spec_l1Most = some c_spec_l1Most.strip := by kernel_rfl
theorem r_spec_l1Most : rF Tryz.prog n_spec_l1Most = some ([.tmp 4], 10) := by kernel_rfl
abbrev n_impl_laid_1 : Nat := 164
def c_impl_laid_1 : AS :=
 .seq (.ops [o 2 (.box (t 0)),
 (o 3 (.mv ff))])
 (.seq (.ops [o 4 (.fa 2 (t 2)),
 (o 5 (.load none (t 4))),
 (o 6 (.fa 2 (t 1))),
 (o 7 (.load none (t 6))),
 (o 8 (.bin .gtr (t 5) (t 7))),
 m 3 8])
 (.ret))
theorem h_impl_laid_1 : hF Tryz.prog n_impl_laid_1 = some c_impl_laid_1.strip := by kernel_rfl
theorem r_impl_laid_1 : rF Tryz.prog n_impl_laid_1 = some ([.tmp 3], 9) := by kernel_rfl
abbrev n_slices_Insert___impl_Letter_impl_Letter_ : Nat := 165
def c_slices_Insert___impl_Letter_impl_Letter_ : AS :=
 .seq (.ops [o 6 (.mv (.const (.slice none 0 0)))])
 (.seq (.ops [m 10 0,
 m 11 1,
 (o 12 (.sls 4 (t 10) (some (t 11)) none none))])
 (.seq (.ops [m 13 2,
 (o 14 (.lens (t 13))),
 m 7 14])
 (.seq (.seq (.ops [m 15 7,
 (o 16 (.bin .eql (t 15) (k 0)))])
 (.cond (t 16) (.seq (.post [(6, 0, [])] (.ops [m 17 0,
 m 6 17]))
 (.ret)) (.skip)))
 (.seq (.ops [m 18 0,
 (o 19 (.lens (t 18))),
 m 8 19])
 (.seq (.seq (.ops [m 20 1,
 m 21 8,
 (o 22 (.bin .eql (t 20) (t 21)))])
 (.cond (t 22) (.seq (.post [(6, 0, [])] (.ops [m 23 0,
 m 24 2,
 (o 25 (.app 4 40 (.agg #[.int .i64 0, .int .i64 0, .int .i64 0, .string ⟨⟨[]⟩⟩]) (t 23) (t 24))),
 m 6 25]))
 (.ret)) (.skip)))
 (.kept [0, 1, 2, 7, 8] (.seq (.seq (.ops [m 26 8,
 m 27 7,
 (o 28 (.bin .add (t 26) (t 27))),
 m 29 0,
 (o 30 (.capo (t 29))),
 (o 31 (.bin .gtr (t 28) (t 30)))])
 (.cond (t 31) (.seq (.ops [m 32 0,
 m 33 1,
 (o 34 (.sls 4 (t 32) none (some (t 33)) none)),
 m 35 8,
 m 36 7,
 (o 37 (.bin .add (t 35) (t 36))),
 m 38 1,
 (o 39 (.bin .sub (t 37) (t 38))),
 (o 40 (.apz 4 40 (.agg #[.int .i64 0, .int .i64 0, .int .i64 0, .string ⟨⟨[]⟩⟩]) (t 34) (t 39))),
 m 9 40])
 (.kept [0, 1, 2, 7, 9] (.seq (.ops [m 41 9,
 m 42 1,
 (o 43 (.sls 4 (t 41) (some (t 42)) none none)),
 m 44 2,
 (o 45 (.cpy 4 (t 43) (t 44)))])
 (.seq (.rops [(none, m 46 9),
 (none, m 47 1),
 (none, m 48 7),
 (none, o 49 (.bin .add (t 47) (t 48))),
 (none, o 50 (.sls 4 (t 46) (some (t 49)) none none)),
 (none, m 51 0),
 (none, m 52 1),
 (none, o 53 (.sls 4 (t 51) (some (t 52)) none none)),
 (some [], o 54 (.cpy 4 (t 50) (t 53)))])
 (.kept [9] (.seq (.post [(6, 0, [])] (.ops [m 55 9,
 m 6 55]))
 (.ret))))))) (.skip)))
 (.kept [0, 1, 2, 7, 8] (.seq (.ops [m 56 0,
 m 57 8,
 m 58 7,
 (o 59 (.bin .add (t 57) (t 58))),
 (o 60 (.sls 4 (t 56) none (some (t 59)) none)),
 m 0 60])
 (.seq (.seq (.ops [m 61 2,
 m 62 0,
 m 63 1,
 m 64 7,
 (o 65 (.bin .add (t 63) (t 64))),
 (o 66 (.sls 4 (t 62) (some (t 65)) none none)),
 (o 67 (.xcall 178 [(t 61), (t 66)])),
 (o 68 (.not (t 67)))])
 (.kept [0, 1, 2, 7, 8, 68] (.cond (t 68) (.seq (.rops [(none, m 69 0),
 (none, m 70 1),
 (none, m 71 7),
 (none, o 72 (.bin .add (t 70) (t 71))),
 (none, o 73 (.sls 4 (t 69) (some (t 72)) none none)),
 (none, m 74 0),
 (none, m 75 1),
 (none, o 76 (.sls 4 (t 74) (some (t 75)) none none)),
 (some [], o 77 (.cpy 4 (t 73) (t 76)))])
 (.kept [0, 1, 2] (.seq (.ops [m 78 0,
 m 79 1,
 (o 80 (.sls 4 (t 78) (some (t 79)) none none)),
 m 81 2,
 (o 82 (.cpy 4 (t 80) (t 81)))])
 (.seq (.post [(6, 0, [])] (.ops [m 83 0,
 m 6 83]))
 (.ret))))) (.skip))))
 (.kept [0, 1, 2, 7, 8] (.seq (.ops [m 84 0,
 m 85 8,
 (o 86 (.sls 4 (t 84) (some (t 85)) none none)),
 m 87 2,
 (o 88 (.cpy 4 (t 86) (t 87)))])
 (.seq (.ops [m 89 0,
 m 90 1,
 (o 91 (.sls 4 (t 89) (some (t 90)) none none)),
 m 92 7,
 (o 93 (.call 179 [(t 91), (t 92)]))])
 (.seq (.post [(6, 0, [])] (.ops [m 94 0,
 m 6 94]))
 (.ret)))))))))))))))
theorem h_slices_Insert___impl_Letter_impl_Letter_ : hF Tryz.prog n_slices_Insert___impl_Letter_impl_Letter_ = some c_slices_Insert___impl_Letter_impl_Letter_.strip := by kernel_rfl
theorem r_slices_Insert___impl_Letter_impl_Letter_ : rF Tryz.prog n_slices_Insert___impl_Letter_impl_Letter_ = some ([.tmp 6], 95) := by kernel_rfl
abbrev n_slices_IndexFunc___int_int_ : Nat := 170
def c_slices_IndexFunc___int_int__l1 : AS :=
 .seq (.ops [o 9 (.bin .lss (t 8) (t 7))])
 (.seq (.cond (t 9) (.skip) (.exit 0))
 (.seq (.block 1 (.seq (.ops [m 10 8,
 m 5 10])
 (.seq (.ops [m 11 1,
 m 12 0,
 m 13 5,
 (o 14 (.ia 1 (t 12) (t 13))),
 (o 15 (.load none (t 14))),
 (o 16 (.callv (t 11) [(t 15)]))])
 (.cond (t 16) (.seq (.ops [m 17 5,
 m 4 17])
 (.ret)) (.skip)))))
 (.kept [0, 1, 7, 8] (.ops [o 18 (.bin .add (t 8) (k 1)),
 m 8 18]))))
def c_slices_IndexFunc___int_int_ : AS :=
 .seq (.ops [o 4 (.mv (k 0))])
 (.seq (.seq (.ops [m 6 0,
 (o 7 (.lens (t 6))),
 (o 8 (.mv (k 0)))])
 (.block 0 (.loop 2 [(0, 0), (1, 0), (7, 0), (8, 0)] c_slices_IndexFunc___int_int__l1)))
 (.kept [] (.seq (.ops [o 4 (.mv (k (-1)))])
 (.ret))))
theorem h_slices_IndexFunc___int_int_ : hF Tryz.prog n_slices_IndexFunc___int_int_ = some c_slices_IndexFunc___int_int_.strip := by kernel_rfl
theorem r_slices_IndexFunc___int_int_ : rF Tryz.prog n_slices_IndexFunc___int_int_ = some ([.tmp 4], 19) := by kernel_rfl
abbrev n_cmp_isNaN_int_ : Nat := 176
def c_cmp_isNaN_int_ : AS :=
 .seq (.ops [o 2 (.mv ff)])
 (.seq (.ops [m 3 0,
 m 4 0,
 (o 5 (.bin .neq (t 3) (t 4))),
 m 2 5])
 (.ret))
theorem h_cmp_isNaN_int_ : hF Tryz.prog n_cmp_isNaN_int_ = some c_cmp_isNaN_int_.strip := by kernel_rfl
theorem r_cmp_isNaN_int_ : rF Tryz.prog n_cmp_isNaN_int_ = some ([.tmp 2], 6) := by kernel_rfl
abbrev n_slices_overlaps_impl_Letter_ : Nat := 178
theorem d_slices_overlaps_impl_Letter_ : Tryz.prog.funcs[n_slices_overlaps_impl_Letter_]? = some Tryz.f178 := by kernel_rfl
theorem x_slices_overlaps_impl_Letter_ (vs : Array Value) (w : Go.World) : (callFunc n_slices_overlaps_impl_Letter_ vs).run Tryz.prog w = ((Extern.SlicesOverlaps.overlaps #[32, 32] #[4] vs).run Tryz.prog w).andThen fun v w' => .ok (.value v) w' := run_callFunc_extern (e := Extern.SlicesOverlaps.overlaps #[32, 32] #[4]) d_slices_overlaps_impl_Letter_ (by kernel_rfl) (by kernel_rfl) (by kernel_rfl) (by kernel_rfl) vs w
theorem u_slices_overlaps_impl_Letter_ : Tryz.prog.underlying 32 = some (.slice 93) := by kernel_rfl
theorem wd_slices_overlaps_impl_Letter_ : width Tryz.prog 93 = some 4 := by kernel_rfl
end Go.Proofs.Wb

/- The compiled statements of the functions that the law reaches. -/
import Derived.Test.YtfjieglppmcelaaProg
import Derived.Test.YtfjieglppmcelaaAmAuto
import Derived.Test.YtfjieglppmcelaaAmFz
namespace Go.Proofs.Wb
open Go Go.Am Go.Am.K
@[go_sem] theorem w_7 : wide Try.prog 7 = some (some 4) := by kernel_rfl
@[go_sem] theorem w_8 : wide Try.prog 8 = some (some 4) := by kernel_rfl
@[go_sem] theorem w_13 : wide Try.prog 13 = some (some 2) := by kernel_rfl
@[go_sem] theorem w_14 : wide Try.prog 14 = some (some 2) := by kernel_rfl
@[go_sem] theorem w_18 : wide Try.prog 18 = some (some 1) := by kernel_rfl
@[go_sem] theorem w_19 : wide Try.prog 19 = some (some 1) := by kernel_rfl
@[go_sem] theorem w_37 : wide Try.prog 37 = some (some 3) := by kernel_rfl
@[go_sem] theorem w_38 : wide Try.prog 38 = some (some 3) := by kernel_rfl
@[go_sem] theorem w_53 : wide Try.prog 53 = some (some 3) := by kernel_rfl
@[go_sem] theorem w_54 : wide Try.prog 54 = some (some 3) := by kernel_rfl
@[go_sem] theorem w_55 : wide Try.prog 55 = some (some 4) := by kernel_rfl
@[go_sem] theorem w_56 : wide Try.prog 56 = some (some 4) := by kernel_rfl
@[go_sem] theorem w_67 : wide Try.prog 67 = some (some 11) := by kernel_rfl
@[go_sem] theorem w_68 : wide Try.prog 68 = some (some 11) := by kernel_rfl
-- 3 loop.example/g00850/laws.FnSeals
abbrev n_laws_FnSeals : Nat := 3
def c_laws_FnSeals : AS :=
 .seq (.ops [o 4 (.mv ff)])
 (.seq (.seq (.ops [m 26 0,
 m 27 1,
 o 28 (.call 5 [(t 26), (t 27)])])
 (.cond (t 28) (.seq (.ops [o 4 (.mv tt)])
 (.ret)) (.skip)))
 (.seq (.ops [m 29 0,
 o 30 (.call 6 [(t 29)]),
 m 5 30])
 (.seq (.ops [m 32 5,
 o 33 (.call 7 [(t 32)]),
 m 31 33,
 o 34 (.ext 0 (t 31)),
 o 35 (.ext 1 (t 31)),
 m 6 34,
 m 7 35])
 (.seq (.ops [m 37 5,
 o 38 (.call 8 [(t 37)]),
 m 36 38,
 o 39 (.ext 0 (t 36)),
 o 40 (.ext 1 (t 36)),
 m 8 39,
 m 9 40])
 (.seq (.seq (.ops [m 41 7,
 m 42 9,
 o 43 (.eqb true (t 41) (t 42)),
 m 44 43,
 mg 45 44 false 6,
 mg 46 44 false 8,
 g 47 44 false (.bin .neq (t 45) (t 46)),
 o 48 (.pick (t 44) tt (t 47))])
 (.kept [0, 1, 5, 6, 7, 48] (.cond (t 48) (.seq (.ops [o 4 (.mv ff)])
 (.ret)) (.skip))))
 (.kept [0, 1, 5, 6, 7] (.seq (.seq (.ops [m 49 7])
 (.cond (t 49) (.seq (.ops [m 51 6,
 o 52 (.call 9 [(t 51)]),
 m 50 52,
 o 53 (.ext 0 (t 50)),
 o 54 (.ext 1 (t 50)),
 m 10 53,
 m 11 54])
 (.seq (.seq (.ops [m 55 11,
 o 56 (.not (t 55)),
 m 57 56,
 mg 58 57 false 10,
 mg 59 57 false 5,
 g 60 57 false (.bin .neq (t 58) (t 59)),
 o 61 (.pick (t 57) tt (t 60)),
 m 62 61,
 mg 63 62 false 6,
 g 64 62 false (.lent (t 63)),
 g 65 62 false (.bin .eql (t 64) (k 0)),
 o 66 (.pick (t 62) tt (t 65))])
 (.kept [0, 1, 6, 66] (.cond (t 66) (.seq (.ops [o 4 (.mv ff)])
 (.ret)) (.skip))))
 (.kept [0, 1, 6] (.seq (.ops [m 67 1,
 o 68 (.call 10 [(t 67)]),
 m 69 6,
 o 70 (.lent (t 69)),
 o 71 (.bin .rem (t 68) (t 70)),
 m 12 71])
 (.seq (.ops [m 72 6,
 o 73 (.cvsb (t 72)),
 m 13 73])
 (.seq (.rops [(none, m 74 13),
 (none, m 75 12),
 (none, o 76 (.ia 1 (t 74) (t 75))),
 (none, o 77 (.load none (t 76))),
 (none, m 78 0),
 (some [o 77 (.load none (t 76)), o 76 (.ia 1 (t 74) (t 75)), m 75 12, m 74 13], o 79 (.call 10 [(t 78)])),
 (none, o 80 (.bin .rem (t 79) (k 255))),
 (none, o 81 (.bin .add (k 1) (t 80))),
 (none, o 82 (.cvi .u8 (t 81))),
 (none, o 83 (.bin .xor (t 77) (t 82))),
 (none, o 84 (.ia 1 (t 74) (t 75))),
 (some [], u (.store 1 (t 84) (t 83)))])
 (.kept [1, 13] (.seq (.ops [m 86 13,
 o 87 (.cvbs (t 86)),
 o 88 (.call 9 [(t 87)]),
 m 85 88,
 o 89 (.ext 0 (t 85)),
 o 90 (.ext 1 (t 85)),
 m 14 89,
 m 15 90])
 (.kept [1, 15] (.seq (.ops [m 91 15])
 (.cond (t 91) (.seq (.ops [o 4 (.mv ff)])
 (.ret)) (.skip)))))))))))) (.skip)))
 (.kept [1] (.seq (.ops [m 92 1,
 o 93 (.call 11 [(t 92)]),
 m 16 93])
 (.seq (.ops [m 95 16,
 o 96 (.call 9 [(t 95)]),
 m 94 96,
 o 97 (.ext 0 (t 94)),
 o 98 (.ext 1 (t 94)),
 m 17 97,
 m 18 98])
 (.seq (.ops [m 100 16,
 o 101 (.call 12 [(t 100)]),
 m 99 101,
 o 102 (.ext 0 (t 99)),
 o 103 (.ext 1 (t 99)),
 m 19 102,
 m 20 103])
 (.seq (.ops [m 104 1,
 o 105 (.call 13 [(t 104)]),
 m 21 105])
 (.seq (.ops [m 107 21,
 o 108 (.call 14 [(t 107)]),
 m 106 108,
 o 109 (.ext 0 (t 106)),
 o 110 (.ext 1 (t 106)),
 m 22 109,
 m 23 110])
 (.seq (.ops [m 112 21,
 o 113 (.call 15 [(t 112)]),
 m 111 113,
 o 114 (.ext 0 (t 111)),
 o 115 (.ext 1 (t 111)),
 m 24 114,
 m 25 115])
 (.seq (.ops [m 116 18,
 m 117 20,
 o 118 (.eqb false (t 116) (t 117)),
 m 119 118,
 mg 120 119 true 17,
 mg 121 119 true 19,
 g 122 119 true (.bin .eql (t 120) (t 121)),
 o 123 (.pick (t 119) (t 122) ff),
 m 124 123,
 mg 125 124 true 23,
 mg 126 124 true 25,
 g 127 124 true (.eqb false (t 125) (t 126)),
 o 128 (.pick (t 124) (t 127) ff),
 m 129 128,
 mg 130 129 true 22,
 mg 131 129 true 24,
 g 132 129 true (.bin .eql (t 130) (t 131)),
 o 133 (.pick (t 129) (t 132) ff),
 m 4 133])
 (.ret))))))))))))))))
theorem h_laws_FnSeals : hF Try.prog n_laws_FnSeals = some c_laws_FnSeals.strip := by kernel_rfl
theorem r_laws_FnSeals : rF Try.prog n_laws_FnSeals = some ([.tmp 4], 134) := by kernel_rfl
-- 5 loop.example/g00850/laws.big
abbrev n_laws_big : Nat := 5
def c_laws_big : AS :=
 .seq (.ops [o 4 (.mv ff)])
 (.seq (.ops [m 5 0,
 o 6 (.lens (t 5)),
 o 7 (.bin .gtr (t 6) (k 1048576)),
 m 8 7,
 mg 9 8 false 1,
 g 10 8 false (.lens (t 9)),
 mg 11 8 false 0,
 g 12 8 false (.lens (t 11)),
 g 13 8 false (.bin .sub (k 1048576) (t 12)),
 g 14 8 false (.bin .gtr (t 10) (t 13)),
 o 15 (.pick (t 8) tt (t 14)),
 m 4 15])
 (.ret))
theorem h_laws_big : hF Try.prog n_laws_big = some c_laws_big.strip := by kernel_rfl
theorem r_laws_big : rF Try.prog n_laws_big = some ([.tmp 4], 16) := by kernel_rfl
-- 6 loop.example/g00850/spec.DrawSealBytes
abbrev n_spec_DrawSealBytes : Nat := 6
def c_spec_DrawSealBytes : AS :=
 .seq (.ops [o 2 (.mv (.const (.string ⟨⟨[]⟩⟩)))])
 (.seq (.ops [m 3 0,
 o 4 (.call 13 [(t 3)]),
 m 2 4])
 (.ret))
theorem h_spec_DrawSealBytes : hF Try.prog n_spec_DrawSealBytes = some c_spec_DrawSealBytes.strip := by kernel_rfl
theorem r_spec_DrawSealBytes : rF Try.prog n_spec_DrawSealBytes = some ([.tmp 2], 5) := by kernel_rfl
-- 7 loop.example/g00850/impl.SealBytes
abbrev n_impl_SealBytes : Nat := 7
def c_impl_SealBytes : AS :=
 .seq (.ops [o 2 (.mv (.const (.string ⟨⟨[]⟩⟩))),
 o 3 (.mv ff)])
 (.seq (.seq (.ops [m 4 0,
 o 5 (.lent (t 4)),
 o 6 (.bin .gtr (t 5) (k 5997))])
 (.cond (t 6) (.seq (.ops [o 2 (.mv (.const (.string ⟨⟨[]⟩⟩))),
 o 3 (.mv ff)])
 (.ret)) (.skip)))
 (.seq (.ops [m 7 0,
 o 8 (.call 21 [(t 7)]),
 m 2 8,
 o 3 (.mv tt)])
 (.ret)))
theorem h_impl_SealBytes : hF Try.prog n_impl_SealBytes = some c_impl_SealBytes.strip := by kernel_rfl
theorem r_impl_SealBytes : rF Try.prog n_impl_SealBytes = some ([.tmp 2, .tmp 3], 9) := by kernel_rfl
-- 8 loop.example/g00850/spec.SealBytes
abbrev n_spec_SealBytes : Nat := 8
def c_spec_SealBytes : AS :=
 .seq (.ops [o 2 (.mv (.const (.string ⟨⟨[]⟩⟩))),
 o 3 (.mv ff)])
 (.seq (.seq (.ops [m 4 0,
 o 5 (.lent (t 4)),
 o 6 (.bin .gtr (t 5) (k 5997))])
 (.cond (t 6) (.seq (.ops [o 2 (.mv (.const (.string ⟨⟨[]⟩⟩))),
 o 3 (.mv ff)])
 (.ret)) (.skip)))
 (.seq (.ops [m 7 0,
 o 8 (.call 22 [(t 7)]),
 m 2 8,
 o 3 (.mv tt)])
 (.ret)))
theorem h_spec_SealBytes : hF Try.prog n_spec_SealBytes = some c_spec_SealBytes.strip := by kernel_rfl
theorem r_spec_SealBytes : rF Try.prog n_spec_SealBytes = some ([.tmp 2, .tmp 3], 9) := by kernel_rfl
-- 9 loop.example/g00850/impl.OpenSeal
abbrev n_impl_OpenSeal : Nat := 9
def c_impl_OpenSeal : AS :=
 .seq (.ops [o 2 (.mv (.const (.string ⟨⟨[]⟩⟩))),
 o 3 (.mv ff)])
 (.seq (.seq (.ops [m 4 0,
 o 5 (.lent (t 4)),
 o 6 (.call 23 [(t 5), (k 3), (k 6000)]),
 o 7 (.not (t 6)),
 m 8 7,
 mg 9 8 false 0,
 mg 10 8 false 0,
 g 11 8 false (.lent (t 10)),
 g 12 8 false (.bin .sub (t 11) (k 3)),
 g 13 8 false (.slt (t 9) none (some (t 12))),
 g 14 8 false (.call 21 [(t 13)]),
 mg 15 8 false 0,
 g 16 8 false (.bin .neq (t 14) (t 15)),
 o 17 (.pick (t 8) tt (t 16))])
 (.kept [0, 17] (.cond (t 17) (.seq (.ops [o 2 (.mv (.const (.string ⟨⟨[]⟩⟩))),
 o 3 (.mv ff)])
 (.ret)) (.skip))))
 (.kept [0] (.seq (.ops [m 18 0,
 m 19 0,
 o 20 (.lent (t 19)),
 o 21 (.bin .sub (t 20) (k 3)),
 o 22 (.slt (t 18) none (some (t 21))),
 m 2 22,
 o 3 (.mv tt)])
 (.ret))))
theorem h_impl_OpenSeal : hF Try.prog n_impl_OpenSeal = some c_impl_OpenSeal.strip := by kernel_rfl
theorem r_impl_OpenSeal : rF Try.prog n_impl_OpenSeal = some ([.tmp 2, .tmp 3], 23) := by kernel_rfl
-- 10 loop.example/g00850/laws.numberOf
abbrev n_laws_numberOf : Nat := 10
def c_laws_numberOf_l1 : AS :=
 .seq (.ops [o 9 (.bin .lss (t 8) (t 7))])
 (.seq (.cond (t 9) (.skip) (.exit 0))
 (.seq (.block 1 (.seq (.ops [o 10 (.ia 1 (t 6) (t 8)),
 o 11 (.load none (t 10)),
 m 5 11])
 (.ops [m 12 3,
 o 13 (.bin .mul (k 31) (t 12)),
 m 14 5,
 o 15 (.cvi .i64 (t 14)),
 o 16 (.bin .add (t 13) (t 15)),
 o 17 (.bin .rem (t 16) (k 1000003)),
 m 3 17])))
 (.kept [3, 6, 7, 8] (.ops [o 18 (.bin .add (t 8) (k 1)),
 m 8 18]))))
def c_laws_numberOf : AS :=
 .seq (.ops [o 2 (.mv (k 0))])
 (.seq (.ops [o 3 (.mv (k 0))])
 (.seq (.seq (.ops [m 6 0,
 o 7 (.lens (t 6)),
 o 8 (.mv (k 0))])
 (.block 0 (.loop 1 [(3, 0), (6, 0), (7, 0), (8, 0)] c_laws_numberOf_l1)))
 (.kept [3] (.seq (.ops [m 19 3,
 m 2 19])
 (.ret)))))
theorem h_laws_numberOf : hF Try.prog n_laws_numberOf = some c_laws_numberOf.strip := by kernel_rfl
theorem r_laws_numberOf : rF Try.prog n_laws_numberOf = some ([.tmp 2], 20) := by kernel_rfl
-- 11 loop.example/g00850/spec.DrawOpenSeal
abbrev n_spec_DrawOpenSeal : Nat := 11
def c_spec_DrawOpenSeal : AS :=
 .seq (.ops [o 2 (.mv (.const (.string ⟨⟨[]⟩⟩)))])
 (.seq (.ops [m 6 0,
 o 7 (.build (.agg #[.slice none 0 0, .int .i64 0, .int .u64 0]) [(0, 1, (t 6))]),
 o 8 (.box (t 7)),
 m 3 8])
 (.seq (.ops [m 9 3,
 o 10 (.call 24 [(t 9)]),
 o 11 (.call 22 [(t 10)]),
 m 4 11])
 (.seq (.seq (.ops [m 12 3,
 o 13 (.call 25 [(t 12), (k 12)])])
 (.cond (t 13) (.seq (.ops [m 14 3,
 o 15 (.call 26 [(t 14)]),
 m 5 15])
 (.seq (.ops [m 16 5,
 m 17 5,
 o 18 (.lent (t 17)),
 o 19 (.bin .sub (t 18) (k 3)),
 o 20 (.slt (t 16) none (some (t 19))),
 o 21 (.call 22 [(t 20)]),
 m 2 21])
 (.ret))) (.skip)))
 (.kept [3, 4] (.seq (.seq (.ops [m 22 3,
 o 23 (.call 27 [(t 22), (k 4)])])
 (.block 0 (.seq (.ops [o 25 (.bin .eql (t 23) (k 0)),
 m 24 25])
 (.cond (t 24) (.ops [m 26 3,
 m 27 4,
 o 28 (.call 28 [(t 26), (t 27), (.const (.string ⟨⟨[0, 1, 97]⟩⟩))]),
 m 4 28]) (.seq (.ops [o 30 (.bin .eql (t 23) (k 1)),
 m 29 30])
 (.cond (t 29) (.ops [m 31 4,
 m 32 3,
 m 33 4,
 o 34 (.lent (t 33)),
 o 35 (.bin .add (t 34) (k 1)),
 o 36 (.call 27 [(t 32), (t 35)]),
 o 37 (.slt (t 31) none (some (t 36))),
 m 4 37]) (.skip)))))))
 (.kept [4] (.seq (.ops [m 38 4,
 m 2 38])
 (.ret))))))))
theorem h_spec_DrawOpenSeal : hF Try.prog n_spec_DrawOpenSeal = some c_spec_DrawOpenSeal.strip := by kernel_rfl
theorem r_spec_DrawOpenSeal : rF Try.prog n_spec_DrawOpenSeal = some ([.tmp 2], 39) := by kernel_rfl
-- 12 loop.example/g00850/spec.OpenSeal
abbrev n_spec_OpenSeal : Nat := 12
def c_spec_OpenSeal : AS :=
 .seq (.ops [o 2 (.mv (.const (.string ⟨⟨[]⟩⟩))),
 o 3 (.mv ff)])
 (.seq (.ops [m 5 0,
 o 6 (.lent (t 5)),
 o 7 (.bin .sub (t 6) (k 3)),
 m 4 7])
 (.seq (.seq (.ops [m 8 4,
 o 9 (.bin .lss (t 8) (k 0)),
 m 10 9,
 mg 11 10 false 0,
 g 12 10 false (.lent (t 11)),
 g 13 10 false (.bin .gtr (t 12) (k 6000)),
 o 14 (.pick (t 10) tt (t 13)),
 m 15 14,
 mg 16 15 false 0,
 mg 17 15 false 4,
 g 18 15 false (.slt (t 16) none (some (t 17))),
 g 19 15 false (.call 22 [(t 18)]),
 mg 20 15 false 0,
 g 21 15 false (.bin .neq (t 19) (t 20)),
 o 22 (.pick (t 15) tt (t 21))])
 (.kept [0, 4, 22] (.cond (t 22) (.seq (.ops [o 2 (.mv (.const (.string ⟨⟨[]⟩⟩))),
 o 3 (.mv ff)])
 (.ret)) (.skip))))
 (.kept [0, 4] (.seq (.ops [m 23 0,
 m 24 4,
 o 25 (.slt (t 23) none (some (t 24))),
 m 2 25,
 o 3 (.mv tt)])
 (.ret)))))
theorem h_spec_OpenSeal : hF Try.prog n_spec_OpenSeal = some c_spec_OpenSeal.strip := by kernel_rfl
theorem r_spec_OpenSeal : rF Try.prog n_spec_OpenSeal = some ([.tmp 2, .tmp 3], 26) := by kernel_rfl
-- 13 loop.example/g00850/spec.DrawSumOf
abbrev n_spec_DrawSumOf : Nat := 13
def c_spec_DrawSumOf : AS :=
 .seq (.ops [o 2 (.mv (.const (.string ⟨⟨[]⟩⟩)))])
 (.seq (.ops [m 4 0,
 o 5 (.build (.agg #[.slice none 0 0, .int .i64 0, .int .u64 0]) [(0, 1, (t 4))]),
 o 6 (.box (t 5)),
 m 3 6])
 (.seq (.seq (.ops [m 7 3,
 o 8 (.call 25 [(t 7), (k 12)])])
 (.cond (t 8) (.seq (.ops [m 9 3,
 o 10 (.call 26 [(t 9)]),
 m 2 10])
 (.ret)) (.skip)))
 (.seq (.ops [m 11 3,
 o 12 (.call 24 [(t 11)]),
 m 13 3,
 o 14 (.call 24 [(t 13)]),
 o 15 (.bin .add (t 12) (t 14)),
 m 2 15])
 (.ret))))
theorem h_spec_DrawSumOf : hF Try.prog n_spec_DrawSumOf = some c_spec_DrawSumOf.strip := by kernel_rfl
theorem r_spec_DrawSumOf : rF Try.prog n_spec_DrawSumOf = some ([.tmp 2], 16) := by kernel_rfl
-- 14 loop.example/g00850/impl.SumOf
abbrev n_impl_SumOf : Nat := 14
def c_impl_SumOf : AS :=
 .seq (.ops [o 2 (.mv (k 0)),
 o 3 (.mv ff)])
 (.seq (.seq (.ops [m 4 0,
 o 5 (.lent (t 4)),
 o 6 (.bin .gtr (t 5) (k 6000))])
 (.cond (t 6) (.seq (.ops [o 2 (.mv (k 0)),
 o 3 (.mv ff)])
 (.ret)) (.skip)))
 (.seq (.ops [m 7 0,
 o 8 (.call 29 [(t 7)]),
 m 2 8,
 o 3 (.mv tt)])
 (.ret)))
theorem h_impl_SumOf : hF Try.prog n_impl_SumOf = some c_impl_SumOf.strip := by kernel_rfl
theorem r_impl_SumOf : rF Try.prog n_impl_SumOf = some ([.tmp 2, .tmp 3], 9) := by kernel_rfl
-- 15 loop.example/g00850/spec.SumOf
abbrev n_spec_SumOf : Nat := 15
def c_spec_SumOf : AS :=
 .seq (.ops [o 2 (.mv (k 0)),
 o 3 (.mv ff)])
 (.seq (.seq (.ops [m 4 0,
 o 5 (.lent (t 4)),
 o 6 (.bin .gtr (t 5) (k 6000))])
 (.cond (t 6) (.seq (.ops [o 2 (.mv (k 0)),
 o 3 (.mv ff)])
 (.ret)) (.skip)))
 (.seq (.ops [m 7 0,
 o 8 (.call 30 [(t 7)]),
 m 2 8,
 o 3 (.mv tt)])
 (.ret)))
theorem h_spec_SumOf : hF Try.prog n_spec_SumOf = some c_spec_SumOf.strip := by kernel_rfl
theorem r_spec_SumOf : rF Try.prog n_spec_SumOf = some ([.tmp 2, .tmp 3], 9) := by kernel_rfl
-- 21 loop.example/g00850/impl.seal
abbrev n_impl_seal : Nat := 21
def c_impl_seal : AS :=
 .seq (.ops [o 2 (.mv (.const (.string ⟨⟨[]⟩⟩)))])
 (.seq (.ops [m 4 0,
 o 5 (.call 29 [(t 4)]),
 m 3 5])
 (.seq (.ops [m 6 0,
 m 7 3,
 o 8 (.bin .shr (t 7) (.const (.int .u64 16))),
 o 9 (.cvi .u8 (t 8)),
 m 10 3,
 o 11 (.bin .shr (t 10) (.const (.int .u64 8))),
 o 12 (.cvi .u8 (t 11)),
 m 13 3,
 o 14 (.cvi .u8 (t 13)),
 o 15 (.bsl 1 (.int .u8 0) 3 [(0, (t 9)), (1, (t 12)), (2, (t 14))]),
 o 16 (.cvbs (t 15)),
 o 17 (.bin .add (t 6) (t 16)),
 m 2 17])
 (.ret)))
theorem h_impl_seal : hF Try.prog n_impl_seal = some c_impl_seal.strip := by kernel_rfl
theorem r_impl_seal : rF Try.prog n_impl_seal = some ([.tmp 2], 18) := by kernel_rfl
-- 22 loop.example/g00850/spec.l1Seal
abbrev n_spec_l1Seal : Nat := 22
def c_spec_l1Seal : AS :=
 .seq (.ops [o 2 (.mv (.const (.string ⟨⟨[]⟩⟩)))])
 (.seq (.ops [m 3 0,
 m 4 0,
 o 5 (.call 30 [(t 4)]),
 o 6 (.call 35 [(t 5)]),
 o 7 (.bin .add (t 3) (t 6)),
 m 2 7])
 (.ret))
theorem h_spec_l1Seal : hF Try.prog n_spec_l1Seal = some c_spec_l1Seal.strip := by kernel_rfl
theorem r_spec_l1Seal : rF Try.prog n_spec_l1Seal = some ([.tmp 2], 8) := by kernel_rfl
-- 23 loop.example/g00850/impl.within
abbrev n_impl_within : Nat := 23
def c_impl_within : AS :=
 .seq (.ops [o 6 (.mv ff)])
 (.seq (.ops [m 7 0,
 m 8 1,
 o 9 (.bin .geq (t 7) (t 8)),
 m 10 9,
 mg 11 10 true 0,
 mg 12 10 true 2,
 g 13 10 true (.bin .leq (t 11) (t 12)),
 o 14 (.pick (t 10) (t 13) ff),
 m 6 14])
 (.ret))
theorem h_impl_within : hF Try.prog n_impl_within = some c_impl_within.strip := by kernel_rfl
theorem r_impl_within : rF Try.prog n_impl_within = some ([.tmp 6], 15) := by kernel_rfl
-- 24 (*loop.example/g00850/spec.l1Cur).any1
abbrev n_pspec_l1Cur_any1 : Nat := 24
def c_pspec_l1Cur_any1 : AS :=
 .seq (.ops [o 2 (.mv (.const (.string ⟨⟨[]⟩⟩)))])
 (.seq (.ops [m 3 0,
 o 4 (.bsl 1 (.string ⟨⟨[]⟩⟩) 6 [(0, (.const (.string ⟨⟨[]⟩⟩))), (1, (.const (.string ⟨⟨[97]⟩⟩))), (2, (.const (.string ⟨⟨[114, 111, 119]⟩⟩))), (3, (.const (.string ⟨⟨[97, 32, 108, 111, 110, 103, 32, 116, 101, 120, 116, 32, 111, 102, 32, 115, 111, 109, 101, 32, 119, 111, 114, 100, 115]⟩⟩))), (4, (.const (.string ⟨⟨[0, 255]⟩⟩))), (5, (.const (.string ⟨⟨[48, 49, 50, 51, 52, 53, 54, 55, 56, 57, 48, 49, 50, 51, 52, 53, 54, 55, 56, 57, 48, 49, 50, 51, 52, 53, 54, 55, 56, 57, 48, 49, 50, 51, 52, 53, 54, 55, 56, 57, 48, 49, 50, 51, 52, 53, 54, 55, 56, 57, 48, 49, 50, 51, 52, 53, 54, 55, 56, 57, 48]⟩⟩)))]),
 o 5 (.call 36 [(t 3), (t 4)]),
 m 2 5])
 (.ret))
theorem h_pspec_l1Cur_any1 : hF Try.prog n_pspec_l1Cur_any1 = some c_pspec_l1Cur_any1.strip := by kernel_rfl
theorem r_pspec_l1Cur_any1 : rF Try.prog n_pspec_l1Cur_any1 = some ([.tmp 2], 6) := by kernel_rfl
-- 25 (*loop.example/g00850/spec.l1Cur).one
abbrev n_pspec_l1Cur_one : Nat := 25
def c_pspec_l1Cur_one : AS :=
 .seq (.ops [o 4 (.mv ff)])
 (.seq (.ops [m 5 0,
 m 6 1,
 o 7 (.call 27 [(t 5), (t 6)]),
 o 8 (.bin .eql (t 7) (k 0)),
 m 4 8])
 (.ret))
theorem h_pspec_l1Cur_one : hF Try.prog n_pspec_l1Cur_one = some c_pspec_l1Cur_one.strip := by kernel_rfl
theorem r_pspec_l1Cur_one : rF Try.prog n_pspec_l1Cur_one = some ([.tmp 4], 9) := by kernel_rfl
-- 26 (*loop.example/g00850/spec.l1Cur).long
abbrev n_pspec_l1Cur_long : Nat := 26
def c_pspec_l1Cur_long_l1 : AS :=
 .seq (.ops [o 12 (.bin .lss (t 11) (t 10))])
 (.seq (.cond (t 12) (.skip) (.exit 0))
 (.seq (.block 1 (.seq (.ops [m 13 11,
 m 4 13])
 (.ops [m 14 3,
 m 15 4,
 m 16 4,
 o 17 (.bin .rem (t 16) (k 7)),
 o 18 (.bin .add (k 97) (t 17)),
 o 19 (.cvi .u8 (t 18)),
 o 20 (.ia 1 (t 14) (t 15)),
 u (.store 1 (t 20) (t 19))])))
 (.kept [3, 10, 11] (.ops [o 21 (.bin .add (t 11) (k 1)),
 m 11 21]))))
def c_pspec_l1Cur_long : AS :=
 .seq (.ops [o 2 (.mv (.const (.string ⟨⟨[]⟩⟩)))])
 (.seq (.ops [m 5 0,
 o 6 (.call 27 [(t 5), (k 6)]),
 o 7 (.bin .add (k 5996) (t 6)),
 o 8 (.mks 1 1 (.int .u8 0) (t 7) (t 7)),
 m 3 8])
 (.seq (.seq (.ops [m 9 3,
 o 10 (.lens (t 9)),
 o 11 (.mv (k 0))])
 (.block 0 (.loop 1 [(3, 0), (10, 0), (11, 0)] c_pspec_l1Cur_long_l1)))
 (.kept [3] (.seq (.ops [m 22 3,
 o 23 (.cvbs (t 22)),
 m 2 23])
 (.ret)))))
theorem h_pspec_l1Cur_long : hF Try.prog n_pspec_l1Cur_long = some c_pspec_l1Cur_long.strip := by kernel_rfl
theorem r_pspec_l1Cur_long : rF Try.prog n_pspec_l1Cur_long = some ([.tmp 2], 24) := by kernel_rfl
-- 27 (*loop.example/g00850/spec.l1Cur).pick
abbrev n_pspec_l1Cur_pick : Nat := 27
def c_pspec_l1Cur_pick : AS :=
 .seq (.ops [o 4 (.mv (k 0))])
 (.seq (.seq (.ops [m 6 1,
 o 7 (.bin .leq (t 6) (k 1))])
 (.cond (t 7) (.seq (.ops [o 4 (.mv (k 0))])
 (.ret)) (.skip)))
 (.seq (.ops [m 8 0,
 o 9 (.call 37 [(t 8)]),
 m 5 9])
 (.seq (.seq (.ops [m 10 1,
 o 11 (.bin .gtr (t 10) (k 200))])
 (.cond (t 11) (.ops [m 12 5,
 o 13 (.bin .mul (t 12) (k 256)),
 m 14 0,
 o 15 (.call 37 [(t 14)]),
 o 16 (.bin .add (t 13) (t 15)),
 m 5 16]) (.skip)))
 (.kept [1, 5] (.seq (.ops [m 17 5,
 m 18 1,
 o 19 (.bin .rem (t 17) (t 18)),
 m 4 19])
 (.ret))))))
theorem h_pspec_l1Cur_pick : hF Try.prog n_pspec_l1Cur_pick = some c_pspec_l1Cur_pick.strip := by kernel_rfl
theorem r_pspec_l1Cur_pick : rF Try.prog n_pspec_l1Cur_pick = some ([.tmp 4], 20) := by kernel_rfl
-- 28 (*loop.example/g00850/spec.l1Cur).spoilt
abbrev n_pspec_l1Cur_spoilt : Nat := 28
def c_pspec_l1Cur_spoilt_l1 : AS :=
 .seq (.seq (.ops [m 13 7,
 o 14 (.bin .gtr (t 13) (k 0)),
 m 15 14,
 mg 16 15 true 1,
 g 17 15 true (.lent (t 16)),
 g 18 15 true (.bin .gtr (t 17) (k 0)),
 o 19 (.pick (t 15) (t 18) ff)])
 (.kept [0, 1, 2, 7, 19] (.cond (t 19) (.skip) (.exit 0))))
 (.kept [0, 1, 2, 7] (.seq (.block 1 (.seq (.ops [m 22 0,
 m 23 1,
 o 24 (.lent (t 23)),
 o 25 (.call 27 [(t 22), (t 24)]),
 m 8 25])
 (.seq (.ops [m 26 2,
 m 27 0,
 m 28 2,
 o 29 (.lent (t 28)),
 o 30 (.call 27 [(t 27), (t 29)]),
 o 31 (.ix (t 26) (t 30)),
 o 32 (.bsl 1 (.int .u8 0) 1 [(0, (t 31))]),
 o 33 (.cvbs (t 32)),
 m 9 33])
 (.kept [0, 1, 2, 7, 8, 9] (.seq (.ops [m 34 0,
 o 35 (.call 27 [(t 34), (k 3)])])
 (.block 2 (.seq (.ops [o 45 (.bin .eql (t 35) (k 0)),
 m 44 45])
 (.cond (t 44) (.dops [m 46 1,
 m 47 8,
 o 48 (.slt (t 46) none (some (t 47))),
 m 49 9,
 o 50 (.bin .add (t 48) (t 49)),
 m 51 1,
 m 52 8,
 o 53 (.slt (t 51) (some (t 52)) none),
 o 54 (.bin .add (t 50) (t 53)),
 m 1 54]) (.seq (.ops [o 56 (.bin .eql (t 35) (k 1)),
 m 55 56])
 (.cond (t 55) (.dops [m 57 1,
 m 58 8,
 o 59 (.slt (t 57) none (some (t 58))),
 m 60 9,
 o 61 (.bin .add (t 59) (t 60)),
 m 62 1,
 m 63 8,
 o 64 (.bin .add (t 63) (k 1)),
 o 65 (.slt (t 62) (some (t 64)) none),
 o 66 (.bin .add (t 61) (t 65)),
 m 1 66]) (.dops [m 36 1,
 m 37 8,
 o 38 (.slt (t 36) none (some (t 37))),
 m 39 1,
 m 40 8,
 o 41 (.bin .add (t 40) (k 1)),
 o 42 (.slt (t 39) (some (t 41)) none),
 o 43 (.bin .add (t 38) (t 42)),
 m 1 43])))))))))))
 (.kept [0, 1, 2, 7] (.ops [m 20 7,
 o 21 (.bin .sub (t 20) (k 1)),
 m 7 21]))))
def c_pspec_l1Cur_spoilt : AS :=
 .seq (.ops [o 6 (.mv (.const (.string ⟨⟨[]⟩⟩)))])
 (.seq (.seq (.ops [m 10 0,
 o 11 (.call 27 [(t 10), (k 2)]),
 o 12 (.bin .add (k 1) (t 11)),
 m 7 12])
 (.block 0 (.loop 3 [(0, 0), (1, 0), (2, 0), (7, 0)] c_pspec_l1Cur_spoilt_l1)))
 (.kept [1] (.seq (.ops [m 67 1,
 m 6 67])
 (.ret))))
theorem h_pspec_l1Cur_spoilt : hF Try.prog n_pspec_l1Cur_spoilt = some c_pspec_l1Cur_spoilt.strip := by kernel_rfl
theorem r_pspec_l1Cur_spoilt : rF Try.prog n_pspec_l1Cur_spoilt = some ([.tmp 6], 68) := by kernel_rfl
-- 29 loop.example/g00850/impl.sumOf
abbrev n_impl_sumOf : Nat := 29
def c_impl_sumOf_l1 : AS :=
 .seq (.ops [o 8 (.bin .lss (t 7) (t 6))])
 (.seq (.cond (t 8) (.skip) (.exit 0))
 (.seq (.block 1 (.seq (.ops [m 9 7,
 m 4 9])
 (.ops [m 10 3,
 o 11 (.bin .mul (k 31) (t 10)),
 m 12 0,
 m 13 4,
 o 14 (.ix (t 12) (t 13)),
 o 15 (.cvi .i64 (t 14)),
 o 16 (.bin .add (t 11) (t 15)),
 o 17 (.bin .add (t 16) (k 1)),
 o 18 (.bin .rem (t 17) (k 16000057)),
 m 3 18])))
 (.kept [0, 3, 6, 7] (.ops [o 19 (.bin .add (t 7) (k 1)),
 m 7 19]))))
def c_impl_sumOf : AS :=
 .seq (.ops [o 2 (.mv (k 0))])
 (.seq (.ops [o 3 (.mv (k 7))])
 (.seq (.seq (.ops [m 5 0,
 o 6 (.lent (t 5)),
 o 7 (.mv (k 0))])
 (.block 0 (.loop 1 [(0, 0), (3, 0), (6, 0), (7, 0)] c_impl_sumOf_l1)))
 (.kept [3] (.seq (.ops [m 20 3,
 m 2 20])
 (.ret)))))
theorem h_impl_sumOf : hF Try.prog n_impl_sumOf = some c_impl_sumOf.strip := by kernel_rfl
theorem r_impl_sumOf : rF Try.prog n_impl_sumOf = some ([.tmp 2], 21) := by kernel_rfl
-- 30 loop.example/g00850/spec.l1Sum
abbrev n_spec_l1Sum : Nat := 30
def c_spec_l1Sum_l1 : AS :=
 .seq (.seq (.ops [m 5 4,
 m 6 0,
 o 7 (.lent (t 6)),
 o 8 (.bin .lss (t 5) (t 7))])
 (.cond (t 8) (.skip) (.exit 0)))
 (.seq (.block 1 (.ops [m 11 3,
 o 12 (.bin .mul (k 31) (t 11)),
 m 13 0,
 m 14 4,
 o 15 (.ix (t 13) (t 14)),
 o 16 (.cvi .i64 (t 15)),
 o 17 (.bin .add (t 12) (t 16)),
 o 18 (.bin .add (t 17) (k 1)),
 o 19 (.bin .rem (t 18) (k 16000057)),
 m 3 19]))
 (.kept [0, 3, 4] (.ops [m 9 4,
 o 10 (.bin .add (t 9) (k 1)),
 m 4 10])))
def c_spec_l1Sum : AS :=
 .seq (.ops [o 2 (.mv (k 0))])
 (.seq (.ops [o 3 (.mv (k 7))])
 (.seq (.seq (.ops [o 4 (.mv (k 0))])
 (.block 0 (.loop 1 [(0, 0), (3, 0), (4, 0)] c_spec_l1Sum_l1)))
 (.kept [3] (.seq (.ops [m 20 3,
 m 2 20])
 (.ret)))))
theorem h_spec_l1Sum : hF Try.prog n_spec_l1Sum = some c_spec_l1Sum.strip := by kernel_rfl
theorem r_spec_l1Sum : rF Try.prog n_spec_l1Sum = some ([.tmp 2], 21) := by kernel_rfl
-- 35 loop.example/g00850/spec.l1Three
abbrev n_spec_l1Three : Nat := 35
def c_spec_l1Three : AS :=
 .seq (.ops [o 2 (.mv (.const (.string ⟨⟨[]⟩⟩)))])
 (.seq (.ops [m 3 0,
 o 4 (.bin .quo (t 3) (k 65536)),
 o 5 (.cvi .u8 (t 4)),
 m 6 0,
 o 7 (.bin .quo (t 6) (k 256)),
 o 8 (.bin .rem (t 7) (k 256)),
 o 9 (.cvi .u8 (t 8)),
 m 10 0,
 o 11 (.bin .rem (t 10) (k 256)),
 o 12 (.cvi .u8 (t 11)),
 o 13 (.bsl 1 (.int .u8 0) 3 [(0, (t 5)), (1, (t 9)), (2, (t 12))]),
 o 14 (.cvbs (t 13)),
 m 2 14])
 (.ret))
theorem h_spec_l1Three : hF Try.prog n_spec_l1Three = some c_spec_l1Three.strip := by kernel_rfl
theorem r_spec_l1Three : rF Try.prog n_spec_l1Three = some ([.tmp 2], 15) := by kernel_rfl
-- 36 (*loop.example/g00850/spec.l1Cur).of
abbrev n_pspec_l1Cur_of : Nat := 36
def c_pspec_l1Cur_of : AS :=
 .seq (.ops [o 4 (.mv (.const (.string ⟨⟨[]⟩⟩)))])
 (.seq (.ops [m 5 1,
 m 6 0,
 m 7 1,
 o 8 (.lens (t 7)),
 o 9 (.call 27 [(t 6), (t 8)]),
 o 10 (.ia 1 (t 5) (t 9)),
 o 11 (.load none (t 10)),
 m 4 11])
 (.ret))
theorem h_pspec_l1Cur_of : hF Try.prog n_pspec_l1Cur_of = some c_pspec_l1Cur_of.strip := by kernel_rfl
theorem r_pspec_l1Cur_of : rF Try.prog n_pspec_l1Cur_of = some ([.tmp 4], 12) := by kernel_rfl
-- 37 (*loop.example/g00850/spec.l1Cur).next
abbrev n_pspec_l1Cur_next : Nat := 37
def c_pspec_l1Cur_next : AS :=
 .seq (.ops [o 2 (.mv (k 0))])
 (.seq (.ops [o 3 (.mv (k 0))])
 (.seq (.seq (.dops [m 4 0,
 o 5 (.nc (t 4)),
 o 6 (.fa 1 (t 5)),
 o 7 (.load none (t 6)),
 m 8 0,
 o 9 (.nc (t 8)),
 o 10 (.fa 0 (t 9)),
 o 11 (.load none (t 10)),
 o 12 (.lens (t 11)),
 o 13 (.bin .lss (t 7) (t 12))])
 (.kept [0, 3, 13] (.cond (t 13) (.dops [m 14 0,
 o 15 (.nc (t 14)),
 o 16 (.fa 0 (t 15)),
 o 17 (.load none (t 16)),
 m 18 0,
 o 19 (.nc (t 18)),
 o 20 (.fa 1 (t 19)),
 o 21 (.load none (t 20)),
 o 22 (.ia 1 (t 17) (t 21)),
 o 23 (.load none (t 22)),
 o 24 (.cvi .i64 (t 23)),
 m 3 24]) (.skip))))
 (.kept [0, 3] (.seq (.ops [m 25 0,
 o 26 (.nc (t 25)),
 o 27 (.fa 1 (t 26)),
 o 28 (.load none (t 27)),
 o 29 (.bin .add (t 28) (k 1)),
 o 30 (.nc (t 25)),
 o 31 (.fa 1 (t 30)),
 u (.store 1 (t 31) (t 29))])
 (.kept [0, 3] (.seq (.ops [m 32 0,
 m 33 0,
 o 34 (.nc (t 33)),
 o 35 (.fa 2 (t 34)),
 o 36 (.load none (t 35)),
 o 37 (.bin .mul (t 36) (.const (.int .u64 6364136223846793005))),
 m 38 3,
 o 39 (.cvi .u64 (t 38)),
 o 40 (.bin .add (t 37) (t 39)),
 o 41 (.bin .add (t 40) (.const (.int .u64 1442695040888963407))),
 o 42 (.nc (t 32)),
 o 43 (.fa 2 (t 42)),
 u (.store 1 (t 43) (t 41))])
 (.kept [0, 3] (.seq (.seq (.dops [m 44 0,
 o 45 (.nc (t 44)),
 o 46 (.fa 1 (t 45)),
 o 47 (.load none (t 46)),
 m 48 0,
 o 49 (.nc (t 48)),
 o 50 (.fa 0 (t 49)),
 o 51 (.load none (t 50)),
 o 52 (.lens (t 51)),
 o 53 (.bin .leq (t 47) (t 52))])
 (.kept [0, 3, 53] (.cond (t 53) (.seq (.ops [m 54 3,
 m 2 54])
 (.ret)) (.skip))))
 (.kept [0] (.seq (.ops [m 55 0,
 o 56 (.nc (t 55)),
 o 57 (.fa 2 (t 56)),
 o 58 (.load none (t 57)),
 o 59 (.bin .shr (t 58) (.const (.int .u64 40))),
 o 60 (.bin .and (t 59) (.const (.int .u64 255))),
 o 61 (.cvi .i64 (t 60)),
 m 2 61])
 (.ret)))))))))))
theorem h_pspec_l1Cur_next : hF Try.prog n_pspec_l1Cur_next = some c_pspec_l1Cur_next.strip := by kernel_rfl
theorem r_pspec_l1Cur_next : rF Try.prog n_pspec_l1Cur_next = some ([.tmp 2], 62) := by kernel_rfl
-- 39 loop.example/g00850/impl.numBytes
abbrev n_impl_numBytes : Nat := 39
def c_impl_numBytes_l1 : AS :=
 .seq (.seq (.ops [m 5 0,
 o 6 (.bin .geq (t 5) (k 128))])
 (.cond (t 6) (.skip) (.exit 0)))
 (.block 1 (.seq (.ops [m 7 3,
 m 8 0,
 o 9 (.bin .rem (t 8) (k 128)),
 o 10 (.cvi .u8 (t 9)),
 o 11 (.bin .add (t 10) (.const (.int .u8 128))),
 o 12 (.bsl 1 (.int .u8 0) 1 [(0, (t 11))]),
 o 13 (.app 1 1 (.int .u8 0) (t 7) (t 12)),
 m 3 13])
 (.kept [0, 3] (.ops [m 14 0,
 o 15 (.bin .quo (t 14) (k 128)),
 m 0 15]))))
def c_impl_numBytes : AS :=
 .seq (.ops [o 2 (.mv (.const (.string ⟨⟨[]⟩⟩)))])
 (.seq (.ops [o 4 (.bsl 1 (.int .u8 0) 0 []),
 m 3 4])
 (.seq (.block 0 (.loop 1 [(0, 0), (3, 1)] c_impl_numBytes_l1))
 (.kept [0, 3] (.seq (.ops [m 16 3,
 m 17 0,
 o 18 (.cvi .u8 (t 17)),
 o 19 (.bsl 1 (.int .u8 0) 1 [(0, (t 18))]),
 o 20 (.app 1 1 (.int .u8 0) (t 16) (t 19)),
 o 21 (.cvbs (t 20)),
 m 2 21])
 (.ret)))))
theorem h_impl_numBytes : hF Try.prog n_impl_numBytes = some c_impl_numBytes.strip := by kernel_rfl
theorem r_impl_numBytes : rF Try.prog n_impl_numBytes = some ([.tmp 2], 22) := by kernel_rfl

end Go.Proofs.Wb

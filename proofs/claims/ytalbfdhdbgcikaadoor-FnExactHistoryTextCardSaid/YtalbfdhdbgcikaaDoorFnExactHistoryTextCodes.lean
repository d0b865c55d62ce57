import Derived.Test.YtalbfdhdbgcikaaDoorProg
import Derived.Test.YtalbfdhdbgcikaaDoorAmAuto
import Derived.Test.YtalbfdhdbgcikaaDoorAmRaw
namespace Go.Proofs.Wb
open Go Go.Am Go.Am.K
@[go_sem] theorem w_7 : wide Tryd.prog 7 = some (some 4) := by kernel_rfl
@[go_sem] theorem w_8 : wide Tryd.prog 8 = some (some 4) := by kernel_rfl
@[go_sem] theorem w_13 : wide Tryd.prog 13 = some (some 2) := by kernel_rfl
@[go_sem] theorem w_14 : wide Tryd.prog 14 = some (some 2) := by kernel_rfl
@[go_sem] theorem w_18 : wide Tryd.prog 18 = some (some 1) := by kernel_rfl
@[go_sem] theorem w_19 : wide Tryd.prog 19 = some (some 1) := by kernel_rfl
@[go_sem] theorem w_33 : wide Tryd.prog 33 = some (some 8) := by kernel_rfl
@[go_sem] theorem w_34 : wide Tryd.prog 34 = some (some 8) := by kernel_rfl
@[go_sem] theorem w_38 : wide Tryd.prog 38 = some (some 8) := by kernel_rfl
@[go_sem] theorem w_39 : wide Tryd.prog 39 = some (some 8) := by kernel_rfl
@[go_sem] theorem w_41 : wide Tryd.prog 41 = some (some 3) := by kernel_rfl
@[go_sem] theorem w_42 : wide Tryd.prog 42 = some (some 3) := by kernel_rfl
@[go_sem] theorem w_43 : wide Tryd.prog 43 = some (some 3) := by kernel_rfl
@[go_sem] theorem w_44 : wide Tryd.prog 44 = some (some 3) := by kernel_rfl
@[go_sem] theorem w_56 : wide Tryd.prog 56 = some (some 2) := by kernel_rfl
@[go_sem] theorem w_57 : wide Tryd.prog 57 = some (some 2) := by kernel_rfl
@[go_sem] theorem w_66 : wide Tryd.prog 66 = some (some 3) := by kernel_rfl
@[go_sem] theorem w_68 : wide Tryd.prog 68 = some (some 3) := by kernel_rfl
@[go_sem] theorem w_95 : wide Tryd.prog 95 = some (some 24) := by kernel_rfl
@[go_sem] theorem w_105 : wide Tryd.prog 105 = some (some 20) := by kernel_rfl
@[go_sem] theorem w_107 : wide Tryd.prog 107 = some (some 65) := by kernel_rfl
@[go_sem] theorem w_111 : wide Tryd.prog 111 = some (some 32) := by kernel_rfl
@[go_sem] theorem w_112 : wide Tryd.prog 112 = some (some 64) := by kernel_rfl
@[go_sem] theorem w_113 : wide Tryd.prog 113 = some (some 4) := by kernel_rfl
@[go_sem] theorem w_114 : wide Tryd.prog 114 = some (some 4) := by kernel_rfl
@[go_sem] theorem w_124 : wide Tryd.prog 124 = some (some 11) := by kernel_rfl
@[go_sem] theorem w_125 : wide Tryd.prog 125 = some (some 11) := by kernel_rfl
abbrev n_laws_FnExactHistoryText : Nat := 3
def c_laws_FnExactHistoryText : AS :=
 .seq (.ops [o 2 (.mv ff)])
 (.seq (.ops [o 3 (.mv (k 1048576))])
 (.seq (.ops [m 9 0,
 m 10 3,
 (o 11 (.call 4 [(t 9), (t 10)])),
 m 3 11])
 (.seq (.seq (.ops [m 12 3,
 (o 13 (.bin .lss (t 12) (k 0)))])
 (.cond (t 13) (.seq (.ops [o 2 (.mv tt)])
 (.ret)) (.skip)))
 (.seq (.ops [m 15 0,
 (o 16 (.call 6 [(t 15)])),
 (o 17 (.call 5 [(t 16)])),
 m 14 17,
 (o 18 (.ext 0 (t 14))),
 (o 19 (.ext 1 (t 14))),
 m 4 18,
 m 5 19])
 (.kept [0, 4, 5] (.seq (.ops [m 20 0,
 (o 21 (.call 6 [(t 20)])),
 m 6 21])
 (.seq (.ops [m 23 6,
 (o 24 (.call 7 [(t 23)])),
 m 22 24,
 (o 25 (.ext 0 (t 22))),
 (o 26 (.ext 1 (t 22))),
 m 7 25,
 m 8 26])
 (.seq (.seq (.ops [m 27 7,
 m 28 4,
 (o 29 (.bin .neq (t 27) (t 28))),
 m 30 29,
 mg 31 30 false 8,
 mg 32 30 false 5,
 (g 33 30 false (.eqb true (t 31) (t 32))),
 (o 34 (.pick (t 30) tt (t 33)))])
 (.kept [0, 6, 34] (.cond (t 34) (.seq (.ops [o 2 (.mv ff)])
 (.ret)) (.skip))))
 (.kept [0, 6] (.seq (.seq (.ops [m 35 6,
 m 36 0,
 (o 37 (.call 6 [(t 36)])),
 (o 38 (.call 8 [(t 35), (t 37)])),
 (o 39 (.not (t 38)))])
 (.cond (t 39) (.seq (.ops [o 2 (.mv ff)])
 (.ret)) (.skip)))
 (.kept [] (.seq (.ops [o 2 (.mv tt)])
 (.ret)))))))))))))
theorem h_laws_FnExactHistoryText : hF Tryd.prog n_laws_FnExactHistoryText = some c_laws_FnExactHistoryText.strip := by kernel_rfl
theorem r_laws_FnExactHistoryText : rF Tryd.prog n_laws_FnExactHistoryText = some ([.tmp 2], 40) := by kernel_rfl
abbrev n_laws_szDeedS : Nat := 4
def c_laws_szDeedS_l1 : AS :=
 .seq (.seq (.ops [m 12 5,
 m 13 0,
 (o 14 (.lens (t 13))),
 (o 15 (.bin .lss (t 12) (t 14)))])
 (.cond (t 15) (.skip) (.exit 0)))
 (.seq (.block 1 (.seq (.post [(20, 1, [(6, 3), (7, 3)])] (.ops [m 18 0,
 m 19 5,
 (o 20 (.ia 8 (t 18) (t 19))),
 (o 21 (.load (some 8) (t 20))),
 m 22 1,
 (o 23 (.call 9 [(t 21), (t 22)])),
 m 1 23]))
 (.kept [0, 1, 5] (.seq (.ops [m 24 1,
 (o 25 (.bin .lss (t 24) (k 0)))])
 (.cond (t 25) (.seq (.ops [o 4 (.mv (k (-1)))])
 (.ret)) (.skip))))))
 (.kept [0, 1, 5] (.ops [m 16 5,
 (o 17 (.bin .add (t 16) (k 1))),
 m 5 17])))
def c_laws_szDeedS : AS :=
 .seq (.ops [o 4 (.mv (k 0))])
 (.seq (.ops [m 6 1,
 m 7 0,
 (o 8 (.lens (t 7))),
 (o 9 (.bin .sub (t 6) (t 8))),
 m 1 9])
 (.seq (.seq (.ops [m 10 1,
 (o 11 (.bin .lss (t 10) (k 0)))])
 (.cond (t 11) (.seq (.ops [o 4 (.mv (k (-1)))])
 (.ret)) (.skip)))
 (.seq (.seq (.ops [o 5 (.mv (k 0))])
 (.block 0 (.loop 2 [(0, 0), (1, 0), (5, 0)] c_laws_szDeedS_l1)))
 (.kept [1] (.seq (.ops [m 26 1,
 m 4 26])
 (.ret))))))
theorem h_laws_szDeedS : hF Tryd.prog n_laws_szDeedS = some c_laws_szDeedS.strip := by kernel_rfl
theorem r_laws_szDeedS : rF Tryd.prog n_laws_szDeedS = some ([.tmp 4], 27) := by kernel_rfl
abbrev n_spec_HistoryText : Nat := 5
def c_spec_HistoryText_l1 : AS :=
 .seq (.ops [o 59 (.bin .lss (t 58) (t 57))])
 (.seq (.cond (t 59) (.skip) (.exit 2))
 (.seq (.block 3 (.seq (.ops [o 60 (.ia 3 (t 56) (t 58)),
 (o 61 (.load (some 3) (t 60))),
 (o 11 (.alloc (.agg #[.string ⟨⟨[]⟩⟩, .string ⟨⟨[]⟩⟩, .bool false]))),
 (u (.store 3 (t 11) (t 61)))])
 (.seq (.ops [m 62 4,
 (o 63 (.fa 0 (t 11))),
 (o 64 (.load none (t 63))),
 (o 65 (.bin .add (.const (.string ⟨⟨[32]⟩⟩)) (t 64))),
 (o 66 (.bin .add (t 65) (.const (.string ⟨⟨[63]⟩⟩)))),
 (o 67 (.bin .add (t 62) (t 66))),
 m 4 67])
 (.kept [4, 6, 11, 17, 18, 19, 56, 57, 58] (.seq (.ops [o 68 (.fa 2 (t 11)),
 (o 69 (.load none (t 68)))])
 (.cond (t 69) (.ops [m 70 4,
 (o 71 (.fa 1 (t 11))),
 (o 72 (.load none (t 71))),
 (o 73 (.bin .add (t 70) (t 72))),
 m 4 73]) (.ops [m 74 4,
 (o 75 (.bin .add (t 74) (.const (.string ⟨⟨[45]⟩⟩)))),
 m 4 75])))))))
 (.kept [4, 6, 17, 18, 19, 56, 57, 58] (.ops [o 76 (.bin .add (t 58) (k 1)),
 m 58 76]))))
def c_spec_HistoryText_l2 : AS :=
 .seq (.ops [o 81 (.bin .lss (t 80) (t 79))])
 (.seq (.cond (t 81) (.skip) (.exit 4))
 (.seq (.block 5 (.seq (.ops [o 82 (.ia 3 (t 78) (t 80)),
 (o 83 (.load (some 3) (t 82))),
 (o 13 (.alloc (.agg #[.string ⟨⟨[]⟩⟩, .string ⟨⟨[]⟩⟩, .bool false]))),
 (u (.store 3 (t 13) (t 83)))])
 (.seq (.ops [m 84 4,
 (o 85 (.fa 0 (t 13))),
 (o 86 (.load none (t 85))),
 (o 87 (.bin .add (.const (.string ⟨⟨[32]⟩⟩)) (t 86))),
 (o 88 (.bin .add (t 84) (t 87))),
 m 4 88])
 (.seq (.ops [o 89 (.fa 2 (t 13)),
 (o 90 (.load none (t 89)))])
 (.cond (t 90) (.ops [m 91 4,
 (o 92 (.bin .add (t 91) (.const (.string ⟨⟨[45]⟩⟩)))),
 m 4 92]) (.ops [m 93 4,
 (o 94 (.fa 1 (t 13))),
 (o 95 (.load none (t 94))),
 (o 96 (.bin .add (.const (.string ⟨⟨[61]⟩⟩)) (t 95))),
 (o 97 (.bin .add (t 93) (t 96))),
 m 4 97]))))))
 (.kept [4, 17, 18, 19, 78, 79, 80] (.ops [o 98 (.bin .add (t 80) (k 1)),
 m 80 98]))))
def c_spec_HistoryText_l3 : AS :=
 .seq (.ops [o 20 (.bin .lss (t 19) (t 18))])
 (.seq (.cond (t 20) (.skip) (.exit 0))
 (.seq (.block 1 (.seq (.post [(21, 1, [(6, 3), (7, 3)])] (.ops [o 21 (.ia 8 (t 17) (t 19)),
 (o 22 (.load (some 8) (t 21))),
 (o 6 (.alloc (.agg #[.int .i64 0, .int .i64 0, .int .i64 0, .bool false, .bool false, .int .i64 0, .slice none 0 0, .slice none 0 0]))),
 (u (.store 8 (t 6) (t 22)))]))
 (.seq (.ops [o 7 (.mv (.const (.string ⟨⟨[116]⟩⟩))),
 (o 8 (.mv (.const (.string ⟨⟨[63]⟩⟩)))),
 (o 9 (.mv (.const (.string ⟨⟨[110, 111]⟩⟩))))])
 (.seq (.seq (.ops [o 23 (.fa 4 (t 6)),
 (o 24 (.load none (t 23)))])
 (.cond (t 24) (.ops [o 7 (.mv (.const (.string ⟨⟨[108]⟩⟩)))]) (.skip)))
 (.seq (.seq (.ops [o 25 (.fa 2 (t 6)),
 (o 26 (.load none (t 25))),
 (o 27 (.bin .geq (t 26) (k 0)))])
 (.cond (t 27) (.ops [o 28 (.fa 2 (t 6)),
 (o 29 (.load none (t 28))),
 (o 30 (.call 11 [(t 29)])),
 m 8 30]) (.skip)))
 (.kept [4, 6, 7, 8, 9, 17, 18, 19] (.seq (.seq (.ops [o 31 (.fa 3 (t 6)),
 (o 32 (.load none (t 31)))])
 (.cond (t 32) (.ops [o 33 (.fa 5 (t 6)),
 (o 34 (.load none (t 33))),
 (o 35 (.call 11 [(t 34)])),
 (o 36 (.bin .add (.const (.string ⟨⟨[64]⟩⟩)) (t 35))),
 m 9 36]) (.skip)))
 (.kept [4, 6, 7, 8, 9, 17, 18, 19] (.seq (.tops [(4, 0), (6, 0), (17, 0), (18, 0), (19, 0)] (.rd (m 37 4) (.rd (m 38 7) (.rd (o 39 (.fa 0 (t 6))) (.rd (o 40 (.load none (t 39))) (.rd (o 44 (.fa 1 (t 6))) (.rd (o 45 (.load none (t 44))) (.rd (m 49 8) (.rd (m 52 9) (.alt [m 52 9, m 49 8, o 45 (.load none (t 44)), o 44 (.fa 1 (t 6)), m 38 7, m 37 4] (o 41 (.call 11 [(t 40)]))
 (.rd (o 42 (.bin .add (t 38) (t 41))) (.rd (o 43 (.bin .add (t 42) (.const (.string ⟨⟨[32]⟩⟩)))) (.alt [o 43 (.bin .add (t 42) (.const (.string ⟨⟨[32]⟩⟩))), o 42 (.bin .add (t 38) (t 41)), m 52 9, m 49 8, m 38 7, m 37 4] (o 46 (.call 11 [(t 45)]))
 (.rd (o 47 (.bin .add (t 43) (t 46))) (.rd (o 48 (.bin .add (t 47) (.const (.string ⟨⟨[45]⟩⟩)))) (.rd (o 50 (.bin .add (t 48) (t 49))) (.rd (o 51 (.bin .add (t 50) (.const (.string ⟨⟨[32]⟩⟩)))) (.rd (o 53 (.bin .add (t 51) (t 52))) (.rd (o 54 (.bin .add (t 37) (t 53))) (.alt [] (m 4 54)
 (.done)
 (.none))))))))
 (.none))))
 (.none)))))))))))
 (.kept [4, 6, 17, 18, 19] (.seq (.seq (.ops [o 55 (.fa 6 (t 6)),
 (o 56 (.load none (t 55))),
 (o 57 (.lens (t 56))),
 (o 58 (.mv (k 0)))])
 (.block 2 (.loop 1 [(4, 0), (6, 0), (17, 0), (18, 0), (19, 0), (56, 0), (57, 0), (58, 0)] c_spec_HistoryText_l1)))
 (.kept [4, 6, 17, 18, 19] (.seq (.seq (.ops [o 77 (.fa 7 (t 6)),
 (o 78 (.load none (t 77))),
 (o 79 (.lens (t 78))),
 (o 80 (.mv (k 0)))])
 (.block 4 (.loop 1 [(4, 0), (17, 0), (18, 0), (19, 0), (78, 0), (79, 0), (80, 0)] c_spec_HistoryText_l2)))
 (.kept [4, 17, 18, 19] (.ops [m 99 4,
 (o 100 (.bin .add (t 99) (.const (.string ⟨⟨[10]⟩⟩)))),
 m 4 100])))))))))))))))
 (.kept [4, 17, 18, 19] (.ops [o 101 (.bin .add (t 19) (k 1)),
 m 19 101]))))
def c_spec_HistoryText : AS :=
 .seq (.ops [o 2 (.mv (.const (.string ⟨⟨[]⟩⟩))),
 (o 3 (.mv ff))])
 (.seq (.seq (.ops [m 14 0,
 (o 15 (.call 10 [(t 14)])),
 (o 16 (.not (t 15)))])
 (.cond (t 16) (.seq (.ops [o 2 (.mv (.const (.string ⟨⟨[]⟩⟩))),
 (o 3 (.mv ff))])
 (.ret)) (.skip)))
 (.seq (.ops [o 4 (.mv (.const (.string ⟨⟨[]⟩⟩)))])
 (.seq (.seq (.ops [m 17 0,
 (o 18 (.lens (t 17))),
 (o 19 (.mv (k 0)))])
 (.block 0 (.loop 1 [(4, 0), (17, 0), (18, 0), (19, 0)] c_spec_HistoryText_l3)))
 (.kept [4] (.seq (.ops [m 102 4,
 m 2 102,
 (o 3 (.mv tt))])
 (.ret))))))
theorem h_spec_HistoryText : hF Tryd.prog n_spec_HistoryText = some c_spec_HistoryText.strip := by kernel_rfl
theorem r_spec_HistoryText : rF Tryd.prog n_spec_HistoryText = some ([.tmp 2, .tmp 3], 103) := by kernel_rfl
abbrev n_laws_toDeedS : Nat := 6
def c_laws_toDeedS_l1 : AS :=
 .seq (.seq (.ops [m 8 4,
 m 9 0,
 (o 10 (.lens (t 9))),
 (o 11 (.bin .lss (t 8) (t 10)))])
 (.cond (t 11) (.skip) (.exit 0)))
 (.seq (.block 1 (.post [(21, 1, [(6, 3), (7, 3)]), (18, 1, [(6, 3), (7, 3)])] (.ops [m 14 3,
 m 15 4,
 m 16 0,
 m 17 4,
 (o 18 (.ia 8 (t 16) (t 17))),
 (o 19 (.load (some 8) (t 18))),
 (o 20 (.call 12 [(t 19)])),
 (o 21 (.ia 8 (t 14) (t 15))),
 (u (.store 8 (t 21) (t 20)))])))
 (.kept [0, 3, 4] (.ops [m 12 4,
 (o 13 (.bin .add (t 12) (k 1))),
 m 4 13])))
def c_laws_toDeedS : AS :=
 .seq (.ops [o 2 (.mv (.const (.slice none 0 0)))])
 (.seq (.ops [m 5 0,
 (o 6 (.lens (t 5))),
 (o 7 (.mks 8 88 (.agg #[.int .i64 0, .int .i64 0, .int .i64 0, .bool false, .bool false, .int .i64 0, .slice none 0 0, .slice none 0 0]) (t 6) (t 6))),
 m 3 7])
 (.seq (.seq (.ops [o 4 (.mv (k 0))])
 (.block 0 (.loop 1 [(0, 0), (3, 0), (4, 0)] c_laws_toDeedS_l1)))
 (.kept [3] (.seq (.ops [m 22 3,
 m 2 22])
 (.ret)))))
theorem h_laws_toDeedS : hF Tryd.prog n_laws_toDeedS = some c_laws_toDeedS.strip := by kernel_rfl
theorem r_laws_toDeedS : rF Tryd.prog n_laws_toDeedS = some ([.tmp 2], 23) := by kernel_rfl
abbrev n_impl_HistoryText : Nat := 7
def c_impl_HistoryText_l1 : AS :=
 .seq (.ops [o 13 (.bin .lss (t 12) (t 11))])
 (.seq (.cond (t 13) (.skip) (.exit 0))
 (.seq (.block 1 (.seq (.post [(14, 1, [(6, 3), (7, 3)])] (.ops [o 14 (.ia 8 (t 10) (t 12)),
 (o 15 (.load (some 8) (t 14))),
 (o 6 (.alloc (.agg #[.int .i64 0, .int .i64 0, .int .i64 0, .bool false, .bool false, .int .i64 0, .slice none 0 0, .slice none 0 0]))),
 (u (.store 8 (t 6) (t 15)))]))
 (.ops [m 16 4,
 (o 17 (.load (some 8) (t 6))),
 (o 18 (.call 14 [(t 17)])),
 (o 19 (.bin .add (t 16) (t 18))),
 m 4 19])))
 (.kept [4, 10, 11, 12] (.ops [o 20 (.bin .add (t 12) (k 1)),
 m 12 20]))))
def c_impl_HistoryText : AS :=
 .seq (.ops [o 2 (.mv (.const (.string ⟨⟨[]⟩⟩))),
 (o 3 (.mv ff))])
 (.seq (.seq (.ops [m 7 0,
 (o 8 (.call 13 [(t 7)])),
 (o 9 (.not (t 8)))])
 (.cond (t 9) (.seq (.ops [o 2 (.mv (.const (.string ⟨⟨[]⟩⟩))),
 (o 3 (.mv ff))])
 (.ret)) (.skip)))
 (.seq (.ops [o 4 (.mv (.const (.string ⟨⟨[]⟩⟩)))])
 (.seq (.seq (.ops [m 10 0,
 (o 11 (.lens (t 10))),
 (o 12 (.mv (k 0)))])
 (.block 0 (.loop 1 [(4, 0), (10, 0), (11, 0), (12, 0)] c_impl_HistoryText_l1)))
 (.kept [4] (.seq (.ops [m 21 4,
 m 2 21,
 (o 3 (.mv tt))])
 (.ret))))))
theorem h_impl_HistoryText : hF Tryd.prog n_impl_HistoryText = some c_impl_HistoryText.strip := by kernel_rfl
theorem r_impl_HistoryText : rF Tryd.prog n_impl_HistoryText = some ([.tmp 2, .tmp 3], 22) := by kernel_rfl
abbrev n_laws_eqDeedS : Nat := 8
def c_laws_eqDeedS_l1 : AS :=
 .seq (.seq (.ops [m 11 5,
 m 12 0,
 (o 13 (.lens (t 12))),
 (o 14 (.bin .lss (t 11) (t 13)))])
 (.cond (t 14) (.skip) (.exit 0)))
 (.seq (.block 1 (.seq (.post [(23, 1, [(6, 3), (7, 3)]), (19, 1, [(6, 3), (7, 3)])] (.rops [(none, m 17 0),
 (none, m 18 5),
 (none, o 19 (.ia 8 (t 17) (t 18))),
 (none, o 20 (.load (some 8) (t 19))),
 (none, m 21 1),
 (none, m 22 5),
 (none, o 23 (.ia 8 (t 21) (t 22))),
 (none, o 24 (.load (some 8) (t 23))),
 (some [], o 25 (.call 15 [(t 20), (t 24)])),
 (none, o 26 (.not (t 25)))]))
 (.kept [0, 1, 5, 26] (.cond (t 26) (.seq (.ops [o 4 (.mv ff)])
 (.ret)) (.skip)))))
 (.kept [0, 1, 5] (.ops [m 15 5,
 (o 16 (.bin .add (t 15) (k 1))),
 m 5 16])))
def c_laws_eqDeedS : AS :=
 .seq (.ops [o 4 (.mv ff)])
 (.seq (.seq (.ops [m 6 0,
 (o 7 (.lens (t 6))),
 m 8 1,
 (o 9 (.lens (t 8))),
 (o 10 (.bin .neq (t 7) (t 9)))])
 (.cond (t 10) (.seq (.ops [o 4 (.mv ff)])
 (.ret)) (.skip)))
 (.kept [0, 1] (.seq (.seq (.ops [o 5 (.mv (k 0))])
 (.block 0 (.loop 2 [(0, 0), (1, 0), (5, 0)] c_laws_eqDeedS_l1)))
 (.kept [] (.seq (.ops [o 4 (.mv tt)])
 (.ret))))))
theorem h_laws_eqDeedS : hF Tryd.prog n_laws_eqDeedS = some c_laws_eqDeedS.strip := by kernel_rfl
theorem r_laws_eqDeedS : rF Tryd.prog n_laws_eqDeedS = some ([.tmp 4], 27) := by kernel_rfl
abbrev n_laws_szDeed : Nat := 9
def c_laws_szDeed : AS :=
 .seq (.ops [o 2 (.box (t 0)),
 (o 4 (.mv (k 0)))])
 (.seq (.ops [o 5 (.fa 6 (t 2)),
 (o 6 (.load none (t 5))),
 m 7 1,
 (o 8 (.call 16 [(t 6), (t 7)])),
 m 1 8])
 (.seq (.seq (.ops [m 9 1,
 (o 10 (.bin .lss (t 9) (k 0)))])
 (.cond (t 10) (.seq (.ops [o 4 (.mv (k (-1)))])
 (.ret)) (.skip)))
 (.seq (.ops [o 11 (.fa 7 (t 2)),
 (o 12 (.load none (t 11))),
 m 13 1,
 (o 14 (.call 17 [(t 12), (t 13)])),
 m 1 14])
 (.seq (.seq (.ops [m 15 1,
 (o 16 (.bin .lss (t 15) (k 0)))])
 (.cond (t 16) (.seq (.ops [o 4 (.mv (k (-1)))])
 (.ret)) (.skip)))
 (.seq (.ops [m 17 1,
 m 4 17])
 (.ret))))))
theorem h_laws_szDeed : hF Tryd.prog n_laws_szDeed = some c_laws_szDeed.strip := by kernel_rfl
theorem r_laws_szDeed : rF Tryd.prog n_laws_szDeed = some ([.tmp 4], 18) := by kernel_rfl
abbrev n_spec_l18Good : Nat := 10
def c_spec_l18Good_l1 : AS :=
 .seq (.ops [o 8 (.bin .lss (t 7) (t 6))])
 (.seq (.cond (t 8) (.skip) (.exit 0))
 (.seq (.block 1 (.seq (.post [(9, 1, [(6, 3), (7, 3)])] (.ops [o 9 (.ia 8 (t 5) (t 7)),
 (o 10 (.load (some 8) (t 9))),
 (o 4 (.alloc (.agg #[.int .i64 0, .int .i64 0, .int .i64 0, .bool false, .bool false, .int .i64 0, .slice none 0 0, .slice none 0 0]))),
 (u (.store 8 (t 4) (t 10)))]))
 (.seq (.ops [o 11 (.load (some 8) (t 4)),
 (o 12 (.call 18 [(t 11)])),
 (o 13 (.not (t 12)))])
 (.cond (t 13) (.seq (.ops [o 2 (.mv ff)])
 (.ret)) (.skip)))))
 (.kept [0, 5, 6, 7] (.ops [o 14 (.bin .add (t 7) (k 1)),
 m 7 14]))))
def c_spec_l18Good : AS :=
 .seq (.ops [o 2 (.mv ff)])
 (.seq (.seq (.ops [m 5 0,
 (o 6 (.lens (t 5))),
 (o 7 (.mv (k 0)))])
 (.block 0 (.loop 1 [(0, 0), (5, 0), (6, 0), (7, 0)] c_spec_l18Good_l1)))
 (.kept [0] (.seq (.ops [m 15 0,
 (o 16 (.lens (t 15))),
 (o 17 (.bin .leq (t 16) (k 10))),
 m 2 17])
 (.ret))))
theorem h_spec_l18Good : hF Tryd.prog n_spec_l18Good = some c_spec_l18Good.strip := by kernel_rfl
theorem r_spec_l18Good : rF Tryd.prog n_spec_l18Good = some ([.tmp 2], 18) := by kernel_rfl
abbrev n_spec_l1Num : Nat := 11
def c_spec_l1Num : AS :=
 .seq (.ops [o 2 (.mv (.const (.string ⟨⟨[]⟩⟩)))])
 (.seq (.seq (.ops [m 3 0,
 (o 4 (.bin .lss (t 3) (k 10)))])
 (.cond (t 4) (.seq (.ops [m 5 0,
 (o 6 (.bin .add (k 48) (t 5))),
 (o 7 (.cvi .u8 (t 6))),
 (o 8 (.bsl 1 (.int .u8 0) 1 [(0, (t 7))])),
 (o 9 (.cvbs (t 8))),
 m 2 9])
 (.ret)) (.skip)))
 (.kept [0] (.seq (.tops [(0, 0), (2, 0)] (.rd (m 10 0) (.rd (o 11 (.bin .quo (t 10) (k 10))) (.rd (m 13 0) (.rd (o 14 (.bin .rem (t 13) (k 10))) (.rd (o 15 (.bin .add (k 48) (t 14))) (.rd (o 16 (.cvi .u8 (t 15))) (.alt [o 16 (.cvi .u8 (t 15)), o 15 (.bin .add (k 48) (t 14)), o 14 (.bin .rem (t 13) (k 10)), m 13 0] (o 12 (.call 11 [(t 11)]))
 (.alt [] (o 17 (.bsl 1 (.int .u8 0) 1 [(0, (t 16))]))
 (.rd (o 18 (.cvbs (t 17))) (.rd (o 19 (.bin .add (t 12) (t 18))) (.rd (m 2 19) (.done))))
 (.none))
 (.alt [o 11 (.bin .quo (t 10) (k 10)), m 10 0] (o 17 (.bsl 1 (.int .u8 0) 1 [(0, (t 16))]))
 (.rd (o 18 (.cvbs (t 17))) (.alt [o 18 (.cvbs (t 17))] (o 12 (.call 11 [(t 11)]))
 (.rd (o 19 (.bin .add (t 12) (t 18))) (.rd (m 2 19) (.done)))
 (.none)))
 (.none))))))))))
 (.ret))))
theorem h_spec_l1Num : hF Tryd.prog n_spec_l1Num = some c_spec_l1Num.strip := by kernel_rfl
theorem r_spec_l1Num : rF Tryd.prog n_spec_l1Num = some ([.tmp 2], 20) := by kernel_rfl
abbrev n_laws_toDeed : Nat := 12
def c_laws_toDeed : AS :=
 .seq (.ops [o 1 (.box (t 0)),
 (o 2 (.alloc (.agg #[.int .i64 0, .int .i64 0, .int .i64 0, .bool false, .bool false, .int .i64 0, .slice none 0 0, .slice none 0 0])))])
 (.seq (.ops [o 3 (.alloc (.agg #[.int .i64 0, .int .i64 0, .int .i64 0, .bool false, .bool false, .int .i64 0, .slice none 0 0, .slice none 0 0]))])
 (.seq (.ops [o 4 (.fa 0 (t 1)),
 (o 5 (.load none (t 4))),
 (o 6 (.fa 0 (t 3))),
 (u (.store 1 (t 6) (t 5)))])
 (.seq (.ops [o 7 (.fa 1 (t 1)),
 (o 8 (.load none (t 7))),
 (o 9 (.fa 1 (t 3))),
 (u (.store 1 (t 9) (t 8)))])
 (.seq (.ops [o 10 (.fa 2 (t 1)),
 (o 11 (.load none (t 10))),
 (o 12 (.fa 2 (t 3))),
 (u (.store 1 (t 12) (t 11)))])
 (.seq (.ops [o 13 (.fa 3 (t 1)),
 (o 14 (.load none (t 13))),
 (o 15 (.fa 3 (t 3))),
 (u (.store 1 (t 15) (t 14)))])
 (.seq (.ops [o 16 (.fa 4 (t 1)),
 (o 17 (.load none (t 16))),
 (o 18 (.fa 4 (t 3))),
 (u (.store 1 (t 18) (t 17)))])
 (.seq (.ops [o 19 (.fa 5 (t 1)),
 (o 20 (.load none (t 19))),
 (o 21 (.fa 5 (t 3))),
 (u (.store 1 (t 21) (t 20)))])
 (.seq (.ops [o 22 (.fa 6 (t 1)),
 (o 23 (.load none (t 22))),
 (o 24 (.call 19 [(t 23)])),
 (o 25 (.fa 6 (t 3))),
 (u (.store 1 (t 25) (t 24)))])
 (.seq (.ops [o 26 (.fa 7 (t 1)),
 (o 27 (.load none (t 26))),
 (o 28 (.call 20 [(t 27)])),
 (o 29 (.fa 7 (t 3))),
 (u (.store 1 (t 29) (t 28)))])
 (.seq (.ops [o 30 (.load (some 8) (t 3)),
 (u (.store 8 (t 2) (t 30)))])
 (.ret)))))))))))
theorem h_laws_toDeed : hF Tryd.prog n_laws_toDeed = some c_laws_toDeed.strip := by kernel_rfl
theorem r_laws_toDeed : rF Tryd.prog n_laws_toDeed = some ([.cell 2 39], 31) := by kernel_rfl
abbrev n_impl_GoodHistory : Nat := 13
def c_impl_GoodHistory : AS :=
 .seq (.ops [o 2 (.mv ff)])
 (.seq (.ops [m 3 0,
 (o 4 (.lens (t 3))),
 (o 5 (.bin .leq (t 4) (k 10))),
 m 6 5,
 mg 7 6 true 0,
 (g 8 6 true (.call 21 [(t 7), (.func 22)])),
 (g 9 6 true (.not (t 8))),
 (o 10 (.pick (t 6) (t 9) ff)),
 m 2 10])
 (.ret))
theorem h_impl_GoodHistory : hF Tryd.prog n_impl_GoodHistory = some c_impl_GoodHistory.strip := by kernel_rfl
theorem r_impl_GoodHistory : rF Tryd.prog n_impl_GoodHistory = some ([.tmp 2], 11) := by kernel_rfl
abbrev n_impl_deedText : Nat := 14
abbrev n_laws_eqDeed : Nat := 15
def c_laws_eqDeed : AS :=
 .seq (.ops [o 2 (.box (t 0)),
 (o 3 (.box (t 1))),
 (o 4 (.mv ff))])
 (.seq (.seq (.ops [o 5 (.fa 0 (t 2)),
 (o 6 (.load none (t 5))),
 (o 7 (.fa 0 (t 3))),
 (o 8 (.load none (t 7))),
 (o 9 (.bin .neq (t 6) (t 8)))])
 (.cond (t 9) (.seq (.ops [o 4 (.mv ff)])
 (.ret)) (.skip)))
 (.kept [2, 3] (.seq (.seq (.ops [o 10 (.fa 1 (t 2)),
 (o 11 (.load none (t 10))),
 (o 12 (.fa 1 (t 3))),
 (o 13 (.load none (t 12))),
 (o 14 (.bin .neq (t 11) (t 13)))])
 (.cond (t 14) (.seq (.ops [o 4 (.mv ff)])
 (.ret)) (.skip)))
 (.kept [2, 3] (.seq (.seq (.ops [o 15 (.fa 2 (t 2)),
 (o 16 (.load none (t 15))),
 (o 17 (.fa 2 (t 3))),
 (o 18 (.load none (t 17))),
 (o 19 (.bin .neq (t 16) (t 18)))])
 (.cond (t 19) (.seq (.ops [o 4 (.mv ff)])
 (.ret)) (.skip)))
 (.kept [2, 3] (.seq (.seq (.ops [o 20 (.fa 3 (t 2)),
 (o 21 (.load none (t 20))),
 (o 22 (.fa 3 (t 3))),
 (o 23 (.load none (t 22))),
 (o 24 (.eqb true (t 21) (t 23)))])
 (.cond (t 24) (.seq (.ops [o 4 (.mv ff)])
 (.ret)) (.skip)))
 (.kept [2, 3] (.seq (.seq (.ops [o 25 (.fa 4 (t 2)),
 (o 26 (.load none (t 25))),
 (o 27 (.fa 4 (t 3))),
 (o 28 (.load none (t 27))),
 (o 29 (.eqb true (t 26) (t 28)))])
 (.cond (t 29) (.seq (.ops [o 4 (.mv ff)])
 (.ret)) (.skip)))
 (.kept [2, 3] (.seq (.seq (.ops [o 30 (.fa 5 (t 2)),
 (o 31 (.load none (t 30))),
 (o 32 (.fa 5 (t 3))),
 (o 33 (.load none (t 32))),
 (o 34 (.bin .neq (t 31) (t 33)))])
 (.cond (t 34) (.seq (.ops [o 4 (.mv ff)])
 (.ret)) (.skip)))
 (.kept [2, 3] (.seq (.seq (.ops [o 35 (.fa 6 (t 2)),
 (o 36 (.load none (t 35))),
 (o 37 (.fa 6 (t 3))),
 (o 38 (.load none (t 37))),
 (o 39 (.call 27 [(t 36), (t 38)])),
 (o 40 (.not (t 39)))])
 (.cond (t 40) (.seq (.ops [o 4 (.mv ff)])
 (.ret)) (.skip)))
 (.kept [2, 3] (.seq (.seq (.ops [o 41 (.fa 7 (t 2)),
 (o 42 (.load none (t 41))),
 (o 43 (.fa 7 (t 3))),
 (o 44 (.load none (t 43))),
 (o 45 (.call 28 [(t 42), (t 44)])),
 (o 46 (.not (t 45)))])
 (.cond (t 46) (.seq (.ops [o 4 (.mv ff)])
 (.ret)) (.skip)))
 (.kept [] (.seq (.ops [o 4 (.mv tt)])
 (.ret))))))))))))))))))
theorem h_laws_eqDeed : hF Tryd.prog n_laws_eqDeed = some c_laws_eqDeed.strip := by kernel_rfl
theorem r_laws_eqDeed : rF Tryd.prog n_laws_eqDeed = some ([.tmp 4], 47) := by kernel_rfl
abbrev n_laws_szGotS : Nat := 16
def c_laws_szGotS_l1 : AS :=
 .seq (.seq (.ops [m 12 5,
 m 13 0,
 (o 14 (.lens (t 13))),
 (o 15 (.bin .lss (t 12) (t 14)))])
 (.cond (t 15) (.skip) (.exit 0)))
 (.seq (.block 1 (.seq (.ops [m 18 0,
 m 19 5,
 (o 20 (.ia 3 (t 18) (t 19))),
 (o 21 (.load (some 3) (t 20))),
 m 22 1,
 (o 23 (.call 29 [(t 21), (t 22)])),
 m 1 23])
 (.kept [0, 1, 5] (.seq (.ops [m 24 1,
 (o 25 (.bin .lss (t 24) (k 0)))])
 (.cond (t 25) (.seq (.ops [o 4 (.mv (k (-1)))])
 (.ret)) (.skip))))))
 (.kept [0, 1, 5] (.ops [m 16 5,
 (o 17 (.bin .add (t 16) (k 1))),
 m 5 17])))
def c_laws_szGotS : AS :=
 .seq (.ops [o 4 (.mv (k 0))])
 (.seq (.ops [m 6 1,
 m 7 0,
 (o 8 (.lens (t 7))),
 (o 9 (.bin .sub (t 6) (t 8))),
 m 1 9])
 (.seq (.seq (.ops [m 10 1,
 (o 11 (.bin .lss (t 10) (k 0)))])
 (.cond (t 11) (.seq (.ops [o 4 (.mv (k (-1)))])
 (.ret)) (.skip)))
 (.seq (.seq (.ops [o 5 (.mv (k 0))])
 (.block 0 (.loop 2 [(0, 0), (1, 0), (5, 0)] c_laws_szGotS_l1)))
 (.kept [1] (.seq (.ops [m 26 1,
 m 4 26])
 (.ret))))))
theorem h_laws_szGotS : hF Tryd.prog n_laws_szGotS = some c_laws_szGotS.strip := by kernel_rfl
theorem r_laws_szGotS : rF Tryd.prog n_laws_szGotS = some ([.tmp 4], 27) := by kernel_rfl
abbrev n_laws_szWriteS : Nat := 17
def c_laws_szWriteS_l1 : AS :=
 .seq (.seq (.ops [m 12 5,
 m 13 0,
 (o 14 (.lens (t 13))),
 (o 15 (.bin .lss (t 12) (t 14)))])
 (.cond (t 15) (.skip) (.exit 0)))
 (.seq (.block 1 (.seq (.ops [m 18 0,
 m 19 5,
 (o 20 (.ia 3 (t 18) (t 19))),
 (o 21 (.load (some 3) (t 20))),
 m 22 1,
 (o 23 (.call 30 [(t 21), (t 22)])),
 m 1 23])
 (.kept [0, 1, 5] (.seq (.ops [m 24 1,
 (o 25 (.bin .lss (t 24) (k 0)))])
 (.cond (t 25) (.seq (.ops [o 4 (.mv (k (-1)))])
 (.ret)) (.skip))))))
 (.kept [0, 1, 5] (.ops [m 16 5,
 (o 17 (.bin .add (t 16) (k 1))),
 m 5 17])))
def c_laws_szWriteS : AS :=
 .seq (.ops [o 4 (.mv (k 0))])
 (.seq (.ops [m 6 1,
 m 7 0,
 (o 8 (.lens (t 7))),
 (o 9 (.bin .sub (t 6) (t 8))),
 m 1 9])
 (.seq (.seq (.ops [m 10 1,
 (o 11 (.bin .lss (t 10) (k 0)))])
 (.cond (t 11) (.seq (.ops [o 4 (.mv (k (-1)))])
 (.ret)) (.skip)))
 (.seq (.seq (.ops [o 5 (.mv (k 0))])
 (.block 0 (.loop 2 [(0, 0), (1, 0), (5, 0)] c_laws_szWriteS_l1)))
 (.kept [1] (.seq (.ops [m 26 1,
 m 4 26])
 (.ret))))))
theorem h_laws_szWriteS : hF Tryd.prog n_laws_szWriteS = some c_laws_szWriteS.strip := by kernel_rfl
theorem r_laws_szWriteS : rF Tryd.prog n_laws_szWriteS = some ([.tmp 4], 27) := by kernel_rfl
abbrev n_spec_l18Deed : Nat := 18
def c_spec_l18Deed : AS :=
 .seq (.ops [o 1 (.box (t 0)),
 (o 2 (.mv ff))])
 (.seq (.seq (.ops [o 3 (.fa 4 (t 1)),
 (o 4 (.load none (t 3))),
 m 5 4,
 (g 6 5 true (.fa 3 (t 1))),
 (g 7 5 true (.load none (t 6))),
 (g 8 5 true (.not (t 7))),
 mg 9 5 true 8,
 (g 10 9 false (.fa 7 (t 1))),
 (g 11 9 false (.load none (t 10))),
 (g 12 9 false (.lens (t 11))),
 (g 13 9 false (.bin .gtr (t 12) (k 0))),
 (g 14 5 true (.pick (t 9) tt (t 13))),
 (o 15 (.pick (t 5) (t 14) ff))])
 (.kept [1, 15] (.cond (t 15) (.seq (.ops [o 2 (.mv ff)])
 (.ret)) (.skip))))
 (.kept [1] (.seq (.ops [o 16 (.fa 0 (t 1)),
 (o 17 (.load none (t 16))),
 (o 18 (.call 31 [(t 17), (k 1), (k 60)])),
 m 19 18,
 (g 20 19 true (.fa 1 (t 1))),
 (g 21 19 true (.load none (t 20))),
 (g 22 19 true (.call 31 [(t 21), (k 0), (k 1000000)])),
 (o 23 (.pick (t 19) (t 22) ff)),
 m 24 23,
 (g 25 24 true (.fa 2 (t 1))),
 (g 26 24 true (.load none (t 25))),
 (g 27 24 true (.bin .eql (t 26) (k (-1)))),
 mg 28 24 true 27,
 (g 29 28 false (.fa 2 (t 1))),
 (g 30 28 false (.load none (t 29))),
 (g 31 28 false (.fa 1 (t 1))),
 (g 32 28 false (.load none (t 31))),
 (g 33 28 false (.bin .gtr (t 30) (t 32))),
 mg 34 28 false 33,
 (g 35 34 true (.fa 2 (t 1))),
 (g 36 34 true (.load none (t 35))),
 (g 37 34 true (.bin .leq (t 36) (k 1000000))),
 (g 38 28 false (.pick (t 34) (t 37) ff)),
 (g 39 24 true (.pick (t 28) tt (t 38))),
 (o 40 (.pick (t 24) (t 39) ff)),
 m 41 40,
 (g 42 41 true (.fa 5 (t 1))),
 (g 43 41 true (.load none (t 42))),
 (g 44 41 true (.call 32 [(t 43)])),
 (o 45 (.pick (t 41) (t 44) ff)),
 m 46 45,
 (g 47 46 true (.fa 6 (t 1))),
 (g 48 46 true (.load none (t 47))),
 (g 49 46 true (.call 33 [(t 48)])),
 (o 50 (.pick (t 46) (t 49) ff)),
 m 51 50,
 (g 52 51 true (.fa 7 (t 1))),
 (g 53 51 true (.load none (t 52))),
 (g 54 51 true (.call 34 [(t 53)])),
 (o 55 (.pick (t 51) (t 54) ff)),
 m 2 55])
 (.ret))))
theorem h_spec_l18Deed : hF Tryd.prog n_spec_l18Deed = some c_spec_l18Deed.strip := by kernel_rfl
theorem r_spec_l18Deed : rF Tryd.prog n_spec_l18Deed = some ([.tmp 2], 56) := by kernel_rfl
abbrev n_laws_toGotS : Nat := 19
def c_laws_toGotS_l1 : AS :=
 .seq (.seq (.ops [m 8 4,
 m 9 0,
 (o 10 (.lens (t 9))),
 (o 11 (.bin .lss (t 8) (t 10)))])
 (.cond (t 11) (.skip) (.exit 0)))
 (.seq (.block 1 (.ops [m 14 3,
 m 15 4,
 m 16 0,
 m 17 4,
 (o 18 (.ia 3 (t 16) (t 17))),
 (o 19 (.load (some 3) (t 18))),
 (o 20 (.call 35 [(t 19)])),
 (o 21 (.ia 3 (t 14) (t 15))),
 (u (.store 3 (t 21) (t 20)))]))
 (.kept [0, 3, 4] (.ops [m 12 4,
 (o 13 (.bin .add (t 12) (k 1))),
 m 4 13])))
def c_laws_toGotS : AS :=
 .seq (.ops [o 2 (.mv (.const (.slice none 0 0)))])
 (.seq (.ops [m 5 0,
 (o 6 (.lens (t 5))),
 (o 7 (.mks 3 40 (.agg #[.string ⟨⟨[]⟩⟩, .string ⟨⟨[]⟩⟩, .bool false]) (t 6) (t 6))),
 m 3 7])
 (.seq (.seq (.ops [o 4 (.mv (k 0))])
 (.block 0 (.loop 1 [(0, 0), (3, 0), (4, 0)] c_laws_toGotS_l1)))
 (.kept [3] (.seq (.ops [m 22 3,
 m 2 22])
 (.ret)))))
theorem h_laws_toGotS : hF Tryd.prog n_laws_toGotS = some c_laws_toGotS.strip := by kernel_rfl
theorem r_laws_toGotS : rF Tryd.prog n_laws_toGotS = some ([.tmp 2], 23) := by kernel_rfl
abbrev n_laws_toWriteS : Nat := 20
def c_laws_toWriteS_l1 : AS :=
 .seq (.seq (.ops [m 8 4,
 m 9 0,
 (o 10 (.lens (t 9))),
 (o 11 (.bin .lss (t 8) (t 10)))])
 (.cond (t 11) (.skip) (.exit 0)))
 (.seq (.block 1 (.ops [m 14 3,
 m 15 4,
 m 16 0,
 m 17 4,
 (o 18 (.ia 3 (t 16) (t 17))),
 (o 19 (.load (some 3) (t 18))),
 (o 20 (.call 36 [(t 19)])),
 (o 21 (.ia 3 (t 14) (t 15))),
 (u (.store 3 (t 21) (t 20)))]))
 (.kept [0, 3, 4] (.ops [m 12 4,
 (o 13 (.bin .add (t 12) (k 1))),
 m 4 13])))
def c_laws_toWriteS : AS :=
 .seq (.ops [o 2 (.mv (.const (.slice none 0 0)))])
 (.seq (.ops [m 5 0,
 (o 6 (.lens (t 5))),
 (o 7 (.mks 3 40 (.agg #[.string ⟨⟨[]⟩⟩, .string ⟨⟨[]⟩⟩, .bool false]) (t 6) (t 6))),
 m 3 7])
 (.seq (.seq (.ops [o 4 (.mv (k 0))])
 (.block 0 (.loop 1 [(0, 0), (3, 0), (4, 0)] c_laws_toWriteS_l1)))
 (.kept [3] (.seq (.ops [m 22 3,
 m 2 22])
 (.ret)))))
theorem h_laws_toWriteS : hF Tryd.prog n_laws_toWriteS = some c_laws_toWriteS.strip := by kernel_rfl
theorem r_laws_toWriteS : rF Tryd.prog n_laws_toWriteS = some ([.tmp 2], 23) := by kernel_rfl
abbrev n_slices_ContainsFunc___impl_Deed_impl_Deed_ : Nat := 21
def c_slices_ContainsFunc___impl_Deed_impl_Deed_ : AS :=
 .seq (.ops [o 4 (.mv ff)])
 (.seq (.ops [m 5 0,
 m 6 1,
 (o 7 (.call 37 [(t 5), (t 6)])),
 (o 8 (.bin .geq (t 7) (k 0))),
 m 4 8])
 (.ret))
theorem h_slices_ContainsFunc___impl_Deed_impl_Deed_ : hF Tryd.prog n_slices_ContainsFunc___impl_Deed_impl_Deed_ = some c_slices_ContainsFunc___impl_Deed_impl_Deed_.strip := by kernel_rfl
theorem r_slices_ContainsFunc___impl_Deed_impl_Deed_ : rF Tryd.prog n_slices_ContainsFunc___impl_Deed_impl_Deed_ = some ([.tmp 4], 9) := by kernel_rfl
abbrev n_impl_GoodHistory_1 : Nat := 22
def c_impl_GoodHistory_1 : AS :=
 .seq (.ops [o 1 (.box (t 0)),
 (o 2 (.mv ff))])
 (.seq (.ops [o 3 (.load (some 8) (t 1)),
 (o 4 (.call 23 [(t 3)])),
 (o 5 (.not (t 4))),
 m 2 5])
 (.ret))
theorem h_impl_GoodHistory_1 : hF Tryd.prog n_impl_GoodHistory_1 = some c_impl_GoodHistory_1.strip := by kernel_rfl
theorem r_impl_GoodHistory_1 : rF Tryd.prog n_impl_GoodHistory_1 = some ([.tmp 2], 6) := by kernel_rfl
abbrev n_impl_isDeed : Nat := 23
def c_impl_isDeed : AS :=
 .seq (.ops [o 1 (.box (t 0)),
 (o 2 (.mv ff))])
 (.seq (.ops [o 3 (.fa 0 (t 1)),
 (o 4 (.load none (t 3))),
 (o 5 (.call 38 [(t 4)])),
 m 6 5,
 (g 7 6 true (.fa 1 (t 1))),
 (g 8 6 true (.load none (t 7))),
 (g 9 6 true (.call 39 [(t 8), (k 0), (k 1000000)])),
 (o 10 (.pick (t 6) (t 9) ff)),
 m 11 10,
 (g 12 11 true (.fa 2 (t 1))),
 (g 13 11 true (.load none (t 12))),
 (g 14 11 true (.bin .eql (t 13) (k (-1)))),
 mg 15 11 true 14,
 (g 16 15 false (.fa 2 (t 1))),
 (g 17 15 false (.load none (t 16))),
 (g 18 15 false (.fa 1 (t 1))),
 (g 19 15 false (.load none (t 18))),
 (g 20 15 false (.bin .add (t 19) (k 1))),
 (g 21 15 false (.call 39 [(t 17), (t 20), (k 1000000)])),
 (g 22 11 true (.pick (t 15) tt (t 21))),
 (o 23 (.pick (t 11) (t 22) ff)),
 m 24 23,
 (g 25 24 true (.fa 4 (t 1))),
 (g 26 24 true (.load none (t 25))),
 (g 27 24 true (.not (t 26))),
 mg 28 24 true 27,
 (g 29 28 false (.fa 3 (t 1))),
 (g 30 28 false (.load none (t 29))),
 mg 31 28 false 30,
 (g 32 31 true (.fa 7 (t 1))),
 (g 33 31 true (.load none (t 32))),
 (g 34 31 true (.lens (t 33))),
 (g 35 31 true (.bin .eql (t 34) (k 0))),
 (g 36 28 false (.pick (t 31) (t 35) ff)),
 (g 37 24 true (.pick (t 28) tt (t 36))),
 (o 38 (.pick (t 24) (t 37) ff)),
 m 39 38,
 (g 40 39 true (.fa 5 (t 1))),
 (g 41 39 true (.load none (t 40))),
 (g 42 39 true (.call 40 [(t 41)])),
 (o 43 (.pick (t 39) (t 42) ff)),
 m 44 43,
 (g 45 44 true (.fa 6 (t 1))),
 (g 46 44 true (.load none (t 45))),
 (g 47 44 true (.call 41 [(t 46)])),
 (o 48 (.pick (t 44) (t 47) ff)),
 m 49 48,
 (g 50 49 true (.fa 7 (t 1))),
 (g 51 49 true (.load none (t 50))),
 (g 52 49 true (.call 42 [(t 51)])),
 (o 53 (.pick (t 49) (t 52) ff)),
 m 2 53])
 (.ret))
theorem h_impl_isDeed : hF Tryd.prog n_impl_isDeed = some c_impl_isDeed.strip := by kernel_rfl
theorem r_impl_isDeed : rF Tryd.prog n_impl_isDeed = some ([.tmp 2], 54) := by kernel_rfl
abbrev n_strconv_Itoa : Nat := 24
abbrev n_laws_eqGotS : Nat := 27
def c_laws_eqGotS_l1 : AS :=
 .seq (.seq (.ops [m 11 5,
 m 12 0,
 (o 13 (.lens (t 12))),
 (o 14 (.bin .lss (t 11) (t 13)))])
 (.cond (t 14) (.skip) (.exit 0)))
 (.seq (.block 1 (.seq (.rops [(none, m 17 0),
 (none, m 18 5),
 (none, o 19 (.ia 3 (t 17) (t 18))),
 (none, o 20 (.load (some 3) (t 19))),
 (none, m 21 1),
 (none, m 22 5),
 (none, o 23 (.ia 3 (t 21) (t 22))),
 (none, o 24 (.load (some 3) (t 23))),
 (some [], o 25 (.call 45 [(t 20), (t 24)])),
 (none, o 26 (.not (t 25)))])
 (.kept [0, 1, 5, 26] (.cond (t 26) (.seq (.ops [o 4 (.mv ff)])
 (.ret)) (.skip)))))
 (.kept [0, 1, 5] (.ops [m 15 5,
 (o 16 (.bin .add (t 15) (k 1))),
 m 5 16])))
def c_laws_eqGotS : AS :=
 .seq (.ops [o 4 (.mv ff)])
 (.seq (.seq (.ops [m 6 0,
 (o 7 (.lens (t 6))),
 m 8 1,
 (o 9 (.lens (t 8))),
 (o 10 (.bin .neq (t 7) (t 9)))])
 (.cond (t 10) (.seq (.ops [o 4 (.mv ff)])
 (.ret)) (.skip)))
 (.kept [0, 1] (.seq (.seq (.ops [o 5 (.mv (k 0))])
 (.block 0 (.loop 2 [(0, 0), (1, 0), (5, 0)] c_laws_eqGotS_l1)))
 (.kept [] (.seq (.ops [o 4 (.mv tt)])
 (.ret))))))
theorem h_laws_eqGotS : hF Tryd.prog n_laws_eqGotS = some c_laws_eqGotS.strip := by kernel_rfl
theorem r_laws_eqGotS : rF Tryd.prog n_laws_eqGotS = some ([.tmp 4], 27) := by kernel_rfl
abbrev n_laws_eqWriteS : Nat := 28
def c_laws_eqWriteS_l1 : AS :=
 .seq (.seq (.ops [m 11 5,
 m 12 0,
 (o 13 (.lens (t 12))),
 (o 14 (.bin .lss (t 11) (t 13)))])
 (.cond (t 14) (.skip) (.exit 0)))
 (.seq (.block 1 (.seq (.rops [(none, m 17 0),
 (none, m 18 5),
 (none, o 19 (.ia 3 (t 17) (t 18))),
 (none, o 20 (.load (some 3) (t 19))),
 (none, m 21 1),
 (none, m 22 5),
 (none, o 23 (.ia 3 (t 21) (t 22))),
 (none, o 24 (.load (some 3) (t 23))),
 (some [], o 25 (.call 46 [(t 20), (t 24)])),
 (none, o 26 (.not (t 25)))])
 (.kept [0, 1, 5, 26] (.cond (t 26) (.seq (.ops [o 4 (.mv ff)])
 (.ret)) (.skip)))))
 (.kept [0, 1, 5] (.ops [m 15 5,
 (o 16 (.bin .add (t 15) (k 1))),
 m 5 16])))
def c_laws_eqWriteS : AS :=
 .seq (.ops [o 4 (.mv ff)])
 (.seq (.seq (.ops [m 6 0,
 (o 7 (.lens (t 6))),
 m 8 1,
 (o 9 (.lens (t 8))),
 (o 10 (.bin .neq (t 7) (t 9)))])
 (.cond (t 10) (.seq (.ops [o 4 (.mv ff)])
 (.ret)) (.skip)))
 (.kept [0, 1] (.seq (.seq (.ops [o 5 (.mv (k 0))])
 (.block 0 (.loop 2 [(0, 0), (1, 0), (5, 0)] c_laws_eqWriteS_l1)))
 (.kept [] (.seq (.ops [o 4 (.mv tt)])
 (.ret))))))
theorem h_laws_eqWriteS : hF Tryd.prog n_laws_eqWriteS = some c_laws_eqWriteS.strip := by kernel_rfl
theorem r_laws_eqWriteS : rF Tryd.prog n_laws_eqWriteS = some ([.tmp 4], 27) := by kernel_rfl
abbrev n_laws_szGot : Nat := 29
def c_laws_szGot : AS :=
 .seq (.ops [o 2 (.box (t 0)),
 (o 4 (.mv (k 0)))])
 (.seq (.ops [m 5 1,
 (o 6 (.fa 0 (t 2))),
 (o 7 (.load none (t 6))),
 (o 8 (.lent (t 7))),
 (o 9 (.bin .sub (t 5) (t 8))),
 m 1 9])
 (.seq (.seq (.ops [m 10 1,
 (o 11 (.bin .lss (t 10) (k 0)))])
 (.cond (t 11) (.seq (.ops [o 4 (.mv (k (-1)))])
 (.ret)) (.skip)))
 (.seq (.ops [m 12 1,
 (o 13 (.fa 1 (t 2))),
 (o 14 (.load none (t 13))),
 (o 15 (.lent (t 14))),
 (o 16 (.bin .sub (t 12) (t 15))),
 m 1 16])
 (.seq (.seq (.ops [m 17 1,
 (o 18 (.bin .lss (t 17) (k 0)))])
 (.cond (t 18) (.seq (.ops [o 4 (.mv (k (-1)))])
 (.ret)) (.skip)))
 (.seq (.ops [m 19 1,
 m 4 19])
 (.ret))))))
theorem h_laws_szGot : hF Tryd.prog n_laws_szGot = some c_laws_szGot.strip := by kernel_rfl
theorem r_laws_szGot : rF Tryd.prog n_laws_szGot = some ([.tmp 4], 20) := by kernel_rfl
abbrev n_laws_szWrite : Nat := 30
def c_laws_szWrite : AS :=
 .seq (.ops [o 2 (.box (t 0)),
 (o 4 (.mv (k 0)))])
 (.seq (.ops [m 5 1,
 (o 6 (.fa 0 (t 2))),
 (o 7 (.load none (t 6))),
 (o 8 (.lent (t 7))),
 (o 9 (.bin .sub (t 5) (t 8))),
 m 1 9])
 (.seq (.seq (.ops [m 10 1,
 (o 11 (.bin .lss (t 10) (k 0)))])
 (.cond (t 11) (.seq (.ops [o 4 (.mv (k (-1)))])
 (.ret)) (.skip)))
 (.seq (.ops [m 12 1,
 (o 13 (.fa 1 (t 2))),
 (o 14 (.load none (t 13))),
 (o 15 (.lent (t 14))),
 (o 16 (.bin .sub (t 12) (t 15))),
 m 1 16])
 (.seq (.seq (.ops [m 17 1,
 (o 18 (.bin .lss (t 17) (k 0)))])
 (.cond (t 18) (.seq (.ops [o 4 (.mv (k (-1)))])
 (.ret)) (.skip)))
 (.seq (.ops [m 19 1,
 m 4 19])
 (.ret))))))
theorem h_laws_szWrite : hF Tryd.prog n_laws_szWrite = some c_laws_szWrite.strip := by kernel_rfl
theorem r_laws_szWrite : rF Tryd.prog n_laws_szWrite = some ([.tmp 4], 20) := by kernel_rfl
abbrev n_spec_l1In : Nat := 31
def c_spec_l1In : AS :=
 .seq (.ops [o 6 (.mv ff)])
 (.seq (.ops [m 7 0,
 m 8 1,
 (o 9 (.bin .geq (t 7) (t 8))),
 m 10 9,
 mg 11 10 true 0,
 mg 12 10 true 2,
 (g 13 10 true (.bin .leq (t 11) (t 12))),
 (o 14 (.pick (t 10) (t 13) ff)),
 m 6 14])
 (.ret))
theorem h_spec_l1In : hF Tryd.prog n_spec_l1In = some c_spec_l1In.strip := by kernel_rfl
theorem r_spec_l1In : rF Tryd.prog n_spec_l1In = some ([.tmp 6], 15) := by kernel_rfl
abbrev n_spec_l2True : Nat := 32
def c_spec_l2True : AS :=
 .seq (.ops [o 2 (.mv ff)])
 (.seq (.ops [m 3 0,
 (o 4 (.call 31 [(t 3), (k 0), (k 100000)])),
 m 2 4])
 (.ret))
theorem h_spec_l2True : hF Tryd.prog n_spec_l2True = some c_spec_l2True.strip := by kernel_rfl
theorem r_spec_l2True : rF Tryd.prog n_spec_l2True = some ([.tmp 2], 5) := by kernel_rfl
abbrev n_spec_l5Gots : Nat := 33
def c_spec_l5Gots_l1 : AS :=
 .seq (.ops [o 39 (.bin .lss (t 38) (t 37))])
 (.seq (.cond (t 39) (.skip) (.exit 2))
 (.seq (.block 3 (.seq (.ops [o 40 (.ia 3 (t 36) (t 38)),
 (o 41 (.load (some 3) (t 40))),
 (o 6 (.alloc (.agg #[.string ⟨⟨[]⟩⟩, .string ⟨⟨[]⟩⟩, .bool false]))),
 (u (.store 3 (t 6) (t 41)))])
 (.seq (.ops [o 42 (.fa 0 (t 4)),
 (o 43 (.load none (t 42))),
 (o 44 (.fa 0 (t 6))),
 (o 45 (.load none (t 44))),
 (o 46 (.bin .eql (t 43) (t 45)))])
 (.cond (t 46) (.seq (.ops [o 2 (.mv ff)])
 (.ret)) (.skip)))))
 (.kept [0, 4, 7, 8, 9, 36, 37, 38] (.ops [o 47 (.bin .add (t 38) (k 1)),
 m 38 47]))))
def c_spec_l5Gots_l2 : AS :=
 .seq (.ops [o 10 (.bin .lss (t 9) (t 8))])
 (.seq (.cond (t 10) (.skip) (.exit 0))
 (.seq (.block 1 (.seq (.ops [m 11 9,
 (o 12 (.ia 3 (t 7) (t 9))),
 (o 13 (.load (some 3) (t 12))),
 (o 4 (.alloc (.agg #[.string ⟨⟨[]⟩⟩, .string ⟨⟨[]⟩⟩, .bool false]))),
 m 3 11,
 (u (.store 3 (t 4) (t 13)))])
 (.seq (.seq (.ops [o 14 (.fa 0 (t 4)),
 (o 15 (.load none (t 14))),
 (o 16 (.call 47 [(t 15)])),
 (o 17 (.not (t 16))),
 m 18 17,
 (g 19 18 false (.fa 1 (t 4))),
 (g 20 18 false (.load none (t 19))),
 (g 21 18 false (.call 48 [(t 20)])),
 (g 22 18 false (.not (t 21))),
 (o 23 (.pick (t 18) tt (t 22))),
 m 24 23,
 (g 25 24 false (.fa 2 (t 4))),
 (g 26 24 false (.load none (t 25))),
 (g 27 24 false (.not (t 26))),
 mg 28 24 false 27,
 (g 29 28 true (.fa 1 (t 4))),
 (g 30 28 true (.load none (t 29))),
 (g 31 28 true (.bin .neq (t 30) (.const (.string ⟨⟨[]⟩⟩)))),
 (g 32 24 false (.pick (t 28) (t 31) ff)),
 (o 33 (.pick (t 24) tt (t 32)))])
 (.kept [0, 3, 4, 7, 8, 9, 33] (.cond (t 33) (.seq (.ops [o 2 (.mv ff)])
 (.ret)) (.skip))))
 (.kept [0, 3, 4, 7, 8, 9] (.seq (.ops [m 34 0,
 m 35 3,
 (o 36 (.sls 3 (t 34) none (some (t 35)) none)),
 (o 37 (.lens (t 36))),
 (o 38 (.mv (k 0)))])
 (.block 2 (.loop 1 [(0, 0), (4, 0), (7, 0), (8, 0), (9, 0), (36, 0), (37, 0), (38, 0)] c_spec_l5Gots_l1)))))))
 (.kept [0, 7, 8, 9] (.ops [o 48 (.bin .add (t 9) (k 1)),
 m 9 48]))))
def c_spec_l5Gots : AS :=
 .seq (.ops [o 2 (.mv ff)])
 (.seq (.seq (.ops [m 7 0,
 (o 8 (.lens (t 7))),
 (o 9 (.mv (k 0)))])
 (.block 0 (.loop 1 [(0, 0), (7, 0), (8, 0), (9, 0)] c_spec_l5Gots_l2)))
 (.kept [0] (.seq (.ops [m 49 0,
 (o 50 (.lens (t 49))),
 (o 51 (.bin .leq (t 50) (k 8))),
 m 2 51])
 (.ret))))
theorem h_spec_l5Gots : hF Tryd.prog n_spec_l5Gots = some c_spec_l5Gots.strip := by kernel_rfl
theorem r_spec_l5Gots : rF Tryd.prog n_spec_l5Gots = some ([.tmp 2], 52) := by kernel_rfl
abbrev n_spec_l3Writes : Nat := 34
def c_spec_l3Writes_l1 : AS :=
 .seq (.ops [o 8 (.bin .lss (t 7) (t 6))])
 (.seq (.cond (t 8) (.skip) (.exit 0))
 (.seq (.block 1 (.seq (.ops [m 9 7,
 (o 10 (.ia 3 (t 5) (t 7))),
 (o 11 (.load (some 3) (t 10))),
 (o 4 (.alloc (.agg #[.string ⟨⟨[]⟩⟩, .string ⟨⟨[]⟩⟩, .bool false]))),
 m 3 9,
 (u (.store 3 (t 4) (t 11)))])
 (.seq (.rops [(none, o 12 (.fa 0 (t 4))),
 (none, o 13 (.load none (t 12))),
 (none, o 14 (.fa 1 (t 4))),
 (none, o 15 (.load none (t 14))),
 (none, o 16 (.fa 2 (t 4))),
 (none, o 17 (.load none (t 16))),
 (some [], o 18 (.call 49 [(t 13), (t 15), (t 17)])),
 (none, o 19 (.not (t 18))),
 (none, m 20 19),
 (none, mg 21 20 false 3),
 (none, g 22 20 false (.bin .gtr (t 21) (k 0))),
 (none, mg 23 20 false 22),
 (none, mg 24 23 true 0),
 (none, mg 25 23 true 3),
 (none, g 26 23 true (.bin .sub (t 25) (k 1))),
 (none, g 27 23 true (.ia 3 (t 24) (t 26))),
 (none, g 28 23 true (.fa 0 (t 27))),
 (none, g 29 23 true (.load none (t 28))),
 (none, g 30 23 true (.fa 0 (t 4))),
 (none, g 31 23 true (.load none (t 30))),
 (none, g 32 23 true (.bin .geq (t 29) (t 31))),
 (none, g 33 20 false (.pick (t 23) (t 32) ff)),
 (none, o 34 (.pick (t 20) tt (t 33)))])
 (.kept [0, 5, 6, 7, 34] (.cond (t 34) (.seq (.ops [o 2 (.mv ff)])
 (.ret)) (.skip))))))
 (.kept [0, 5, 6, 7] (.ops [o 35 (.bin .add (t 7) (k 1)),
 m 7 35]))))
def c_spec_l3Writes : AS :=
 .seq (.ops [o 2 (.mv ff)])
 (.seq (.seq (.ops [m 5 0,
 (o 6 (.lens (t 5))),
 (o 7 (.mv (k 0)))])
 (.block 0 (.loop 1 [(0, 0), (5, 0), (6, 0), (7, 0)] c_spec_l3Writes_l1)))
 (.kept [0] (.seq (.ops [m 36 0,
 (o 37 (.lens (t 36))),
 (o 38 (.bin .leq (t 37) (k 24))),
 m 2 38])
 (.ret))))
theorem h_spec_l3Writes : hF Tryd.prog n_spec_l3Writes = some c_spec_l3Writes.strip := by kernel_rfl
theorem r_spec_l3Writes : rF Tryd.prog n_spec_l3Writes = some ([.tmp 2], 39) := by kernel_rfl
abbrev n_laws_toGot : Nat := 35
def c_laws_toGot : AS :=
 .seq (.ops [o 1 (.box (t 0)),
 (o 2 (.alloc (.agg #[.string ⟨⟨[]⟩⟩, .string ⟨⟨[]⟩⟩, .bool false])))])
 (.seq (.ops [o 3 (.alloc (.agg #[.string ⟨⟨[]⟩⟩, .string ⟨⟨[]⟩⟩, .bool false]))])
 (.seq (.ops [o 4 (.fa 0 (t 1)),
 (o 5 (.load none (t 4))),
 (o 6 (.fa 0 (t 3))),
 (u (.store 1 (t 6) (t 5)))])
 (.seq (.ops [o 7 (.fa 1 (t 1)),
 (o 8 (.load none (t 7))),
 (o 9 (.fa 1 (t 3))),
 (u (.store 1 (t 9) (t 8)))])
 (.seq (.ops [o 10 (.fa 2 (t 1)),
 (o 11 (.load none (t 10))),
 (o 12 (.fa 2 (t 3))),
 (u (.store 1 (t 12) (t 11)))])
 (.seq (.ops [o 13 (.load (some 3) (t 3)),
 (u (.store 3 (t 2) (t 13)))])
 (.ret))))))
theorem h_laws_toGot : hF Tryd.prog n_laws_toGot = some c_laws_toGot.strip := by kernel_rfl
theorem r_laws_toGot : rF Tryd.prog n_laws_toGot = some ([.cell 2 42], 14) := by kernel_rfl
abbrev n_laws_toWrite : Nat := 36
def c_laws_toWrite : AS :=
 .seq (.ops [o 1 (.box (t 0)),
 (o 2 (.alloc (.agg #[.string ⟨⟨[]⟩⟩, .string ⟨⟨[]⟩⟩, .bool false])))])
 (.seq (.ops [o 3 (.alloc (.agg #[.string ⟨⟨[]⟩⟩, .string ⟨⟨[]⟩⟩, .bool false]))])
 (.seq (.ops [o 4 (.fa 0 (t 1)),
 (o 5 (.load none (t 4))),
 (o 6 (.fa 0 (t 3))),
 (u (.store 1 (t 6) (t 5)))])
 (.seq (.ops [o 7 (.fa 1 (t 1)),
 (o 8 (.load none (t 7))),
 (o 9 (.fa 1 (t 3))),
 (u (.store 1 (t 9) (t 8)))])
 (.seq (.ops [o 10 (.fa 2 (t 1)),
 (o 11 (.load none (t 10))),
 (o 12 (.fa 2 (t 3))),
 (u (.store 1 (t 12) (t 11)))])
 (.seq (.ops [o 13 (.load (some 3) (t 3)),
 (u (.store 3 (t 2) (t 13)))])
 (.ret))))))
theorem h_laws_toWrite : hF Tryd.prog n_laws_toWrite = some c_laws_toWrite.strip := by kernel_rfl
theorem r_laws_toWrite : rF Tryd.prog n_laws_toWrite = some ([.cell 2 44], 14) := by kernel_rfl
abbrev n_slices_IndexFunc___impl_Deed_impl_Deed_ : Nat := 37
def c_slices_IndexFunc___impl_Deed_impl_Deed__l1 : AS :=
 .seq (.ops [o 9 (.bin .lss (t 8) (t 7))])
 (.seq (.cond (t 9) (.skip) (.exit 0))
 (.seq (.block 1 (.seq (.ops [m 10 8,
 m 5 10])
 (.seq (.post [(14, 1, [(6, 3), (7, 3)])] (.ops [m 11 1,
 m 12 0,
 m 13 5,
 (o 14 (.ia 8 (t 12) (t 13))),
 (o 15 (.load (some 8) (t 14))),
 (o 16 (.callv (t 11) [(t 15)]))]))
 (.cond (t 16) (.seq (.ops [m 17 5,
 m 4 17])
 (.ret)) (.skip)))))
 (.kept [0, 1, 7, 8] (.ops [o 18 (.bin .add (t 8) (k 1)),
 m 8 18]))))
def c_slices_IndexFunc___impl_Deed_impl_Deed_ : AS :=
 .seq (.ops [o 4 (.mv (k 0))])
 (.seq (.seq (.ops [m 6 0,
 (o 7 (.lens (t 6))),
 (o 8 (.mv (k 0)))])
 (.block 0 (.loop 2 [(0, 0), (1, 0), (7, 0), (8, 0)] c_slices_IndexFunc___impl_Deed_impl_Deed__l1)))
 (.kept [] (.seq (.ops [o 4 (.mv (k (-1)))])
 (.ret))))
theorem h_slices_IndexFunc___impl_Deed_impl_Deed_ : hF Tryd.prog n_slices_IndexFunc___impl_Deed_impl_Deed_ = some c_slices_IndexFunc___impl_Deed_impl_Deed_.strip := by kernel_rfl
theorem r_slices_IndexFunc___impl_Deed_impl_Deed_ : rF Tryd.prog n_slices_IndexFunc___impl_Deed_impl_Deed_ = some ([.tmp 4], 19) := by kernel_rfl
abbrev n_impl_isTxn : Nat := 38
def c_impl_isTxn : AS :=
 .seq (.ops [o 2 (.mv ff)])
 (.seq (.ops [m 3 0,
 (o 4 (.call 39 [(t 3), (k 1), (k 60)])),
 m 2 4])
 (.ret))
theorem h_impl_isTxn : hF Tryd.prog n_impl_isTxn = some c_impl_isTxn.strip := by kernel_rfl
theorem r_impl_isTxn : rF Tryd.prog n_impl_isTxn = some ([.tmp 2], 5) := by kernel_rfl
abbrev n_impl_within : Nat := 39
def c_impl_within : AS :=
 .seq (.ops [o 6 (.mv ff)])
 (.seq (.ops [m 7 0,
 m 8 1,
 (o 9 (.bin .geq (t 7) (t 8))),
 m 10 9,
 mg 11 10 true 0,
 mg 12 10 true 2,
 (g 13 10 true (.bin .leq (t 11) (t 12))),
 (o 14 (.pick (t 10) (t 13) ff)),
 m 6 14])
 (.ret))
theorem h_impl_within : hF Tryd.prog n_impl_within = some c_impl_within.strip := by kernel_rfl
theorem r_impl_within : rF Tryd.prog n_impl_within = some ([.tmp 6], 15) := by kernel_rfl
abbrev n_impl_isTrue : Nat := 40
def c_impl_isTrue : AS :=
 .seq (.ops [o 2 (.mv ff)])
 (.seq (.ops [m 3 0,
 (o 4 (.call 39 [(t 3), (k 0), (k 100000)])),
 m 2 4])
 (.ret))
theorem h_impl_isTrue : hF Tryd.prog n_impl_isTrue = some c_impl_isTrue.strip := by kernel_rfl
theorem r_impl_isTrue : rF Tryd.prog n_impl_isTrue = some ([.tmp 2], 5) := by kernel_rfl
abbrev n_impl_areGot : Nat := 41
def c_impl_areGot_l1 : AS :=
 .seq (.ops [o 8 (.bin .lss (t 7) (t 6))])
 (.seq (.cond (t 8) (.skip) (.exit 0))
 (.seq (.block 1 (.seq (.ops [m 9 7,
 (o 10 (.ia 3 (t 5) (t 7))),
 (o 11 (.load (some 3) (t 10))),
 (o 4 (.alloc (.agg #[.string ⟨⟨[]⟩⟩, .string ⟨⟨[]⟩⟩, .bool false]))),
 m 3 9,
 (u (.store 3 (t 4) (t 11)))])
 (.seq (.ops [o 12 (.fa 0 (t 4)),
 (o 13 (.load none (t 12))),
 (o 14 (.call 50 [(t 13)])),
 (o 15 (.not (t 14))),
 m 16 15,
 (g 17 16 false (.fa 1 (t 4))),
 (g 18 16 false (.load none (t 17))),
 (g 19 16 false (.fa 2 (t 4))),
 (g 20 16 false (.load none (t 19))),
 (g 21 16 false (.not (t 20))),
 (g 22 16 false (.call 51 [(t 18), (t 21)])),
 (g 23 16 false (.not (t 22))),
 (o 24 (.pick (t 16) tt (t 23))),
 m 25 24,
 mg 26 25 false 0,
 mg 27 25 false 3,
 (g 28 25 false (.sls 3 (t 26) none (some (t 27)) none)),
 (g 29 25 false (.mkf 53 [(t 4)])),
 (g 30 25 false (.call 52 [(t 28), (t 29)])),
 (o 31 (.pick (t 25) tt (t 30)))])
 (.kept [0, 5, 6, 7, 31] (.cond (t 31) (.seq (.ops [o 2 (.mv ff)])
 (.ret)) (.skip))))))
 (.kept [0, 5, 6, 7] (.ops [o 32 (.bin .add (t 7) (k 1)),
 m 7 32]))))
def c_impl_areGot : AS :=
 .seq (.ops [o 2 (.mv ff)])
 (.seq (.seq (.ops [m 5 0,
 (o 6 (.lens (t 5))),
 (o 7 (.mv (k 0)))])
 (.block 0 (.loop 1 [(0, 0), (5, 0), (6, 0), (7, 0)] c_impl_areGot_l1)))
 (.kept [0] (.seq (.ops [m 33 0,
 (o 34 (.lens (t 33))),
 (o 35 (.bin .leq (t 34) (k 8))),
 m 2 35])
 (.ret))))
theorem h_impl_areGot : hF Tryd.prog n_impl_areGot = some c_impl_areGot.strip := by kernel_rfl
theorem r_impl_areGot : rF Tryd.prog n_impl_areGot = some ([.tmp 2], 36) := by kernel_rfl
abbrev n_impl_GoodWrites : Nat := 42
def c_impl_GoodWrites : AS :=
 .seq (.ops [o 2 (.mv ff)])
 (.seq (.ops [m 3 0,
 (o 4 (.lens (t 3))),
 (o 5 (.bin .leq (t 4) (k 24))),
 m 6 5,
 mg 7 6 true 0,
 (g 8 6 true (.call 55 [(t 7)])),
 (g 9 6 true (.call 54 [(t 8)])),
 (o 10 (.pick (t 6) (t 9) ff)),
 m 11 10,
 mg 12 11 true 0,
 (g 13 11 true (.call 56 [(t 12), (.func 57)])),
 (g 14 11 true (.not (t 13))),
 (o 15 (.pick (t 11) (t 14) ff)),
 m 2 15])
 (.ret))
theorem h_impl_GoodWrites : hF Tryd.prog n_impl_GoodWrites = some c_impl_GoodWrites.strip := by kernel_rfl
theorem r_impl_GoodWrites : rF Tryd.prog n_impl_GoodWrites = some ([.tmp 2], 16) := by kernel_rfl
abbrev n_laws_eqGot : Nat := 45
def c_laws_eqGot : AS :=
 .seq (.ops [o 2 (.box (t 0)),
 (o 3 (.box (t 1))),
 (o 4 (.mv ff))])
 (.seq (.seq (.ops [o 5 (.fa 0 (t 2)),
 (o 6 (.load none (t 5))),
 (o 7 (.fa 0 (t 3))),
 (o 8 (.load none (t 7))),
 (o 9 (.bin .neq (t 6) (t 8)))])
 (.cond (t 9) (.seq (.ops [o 4 (.mv ff)])
 (.ret)) (.skip)))
 (.kept [2, 3] (.seq (.seq (.ops [o 10 (.fa 1 (t 2)),
 (o 11 (.load none (t 10))),
 (o 12 (.fa 1 (t 3))),
 (o 13 (.load none (t 12))),
 (o 14 (.bin .neq (t 11) (t 13)))])
 (.cond (t 14) (.seq (.ops [o 4 (.mv ff)])
 (.ret)) (.skip)))
 (.kept [2, 3] (.seq (.seq (.ops [o 15 (.fa 2 (t 2)),
 (o 16 (.load none (t 15))),
 (o 17 (.fa 2 (t 3))),
 (o 18 (.load none (t 17))),
 (o 19 (.eqb true (t 16) (t 18)))])
 (.cond (t 19) (.seq (.ops [o 4 (.mv ff)])
 (.ret)) (.skip)))
 (.kept [] (.seq (.ops [o 4 (.mv tt)])
 (.ret))))))))
theorem h_laws_eqGot : hF Tryd.prog n_laws_eqGot = some c_laws_eqGot.strip := by kernel_rfl
theorem r_laws_eqGot : rF Tryd.prog n_laws_eqGot = some ([.tmp 4], 20) := by kernel_rfl
abbrev n_laws_eqWrite : Nat := 46
def c_laws_eqWrite : AS :=
 .seq (.ops [o 2 (.box (t 0)),
 (o 3 (.box (t 1))),
 (o 4 (.mv ff))])
 (.seq (.seq (.ops [o 5 (.fa 0 (t 2)),
 (o 6 (.load none (t 5))),
 (o 7 (.fa 0 (t 3))),
 (o 8 (.load none (t 7))),
 (o 9 (.bin .neq (t 6) (t 8)))])
 (.cond (t 9) (.seq (.ops [o 4 (.mv ff)])
 (.ret)) (.skip)))
 (.kept [2, 3] (.seq (.seq (.ops [o 10 (.fa 1 (t 2)),
 (o 11 (.load none (t 10))),
 (o 12 (.fa 1 (t 3))),
 (o 13 (.load none (t 12))),
 (o 14 (.bin .neq (t 11) (t 13)))])
 (.cond (t 14) (.seq (.ops [o 4 (.mv ff)])
 (.ret)) (.skip)))
 (.kept [2, 3] (.seq (.seq (.ops [o 15 (.fa 2 (t 2)),
 (o 16 (.load none (t 15))),
 (o 17 (.fa 2 (t 3))),
 (o 18 (.load none (t 17))),
 (o 19 (.eqb true (t 16) (t 18)))])
 (.cond (t 19) (.seq (.ops [o 4 (.mv ff)])
 (.ret)) (.skip)))
 (.kept [] (.seq (.ops [o 4 (.mv tt)])
 (.ret))))))))
theorem h_laws_eqWrite : hF Tryd.prog n_laws_eqWrite = some c_laws_eqWrite.strip := by kernel_rfl
theorem r_laws_eqWrite : rF Tryd.prog n_laws_eqWrite = some ([.tmp 4], 20) := by kernel_rfl
abbrev n_spec_l3Key : Nat := 47
def c_spec_l3Key : AS :=
 .seq (.ops [o 2 (.mv ff)])
 (.seq (.ops [m 3 0,
 (o 4 (.lent (t 3))),
 (o 5 (.call 31 [(t 4), (k 1), (k 12)])),
 m 6 5,
 mg 7 6 true 0,
 (g 8 6 true (.call 60 [(t 7), (.const (.string ⟨⟨[46, 47]⟩⟩))])),
 (o 9 (.pick (t 6) (t 8) ff)),
 m 2 9])
 (.ret))
theorem h_spec_l3Key : hF Tryd.prog n_spec_l3Key = some c_spec_l3Key.strip := by kernel_rfl
theorem r_spec_l3Key : rF Tryd.prog n_spec_l3Key = some ([.tmp 2], 10) := by kernel_rfl
abbrev n_spec_l3Val : Nat := 48
def c_spec_l3Val : AS :=
 .seq (.ops [o 2 (.mv ff)])
 (.seq (.ops [m 3 0,
 (o 4 (.lent (t 3))),
 (o 5 (.bin .leq (t 4) (k 24))),
 m 6 5,
 mg 7 6 true 0,
 (g 8 6 true (.call 60 [(t 7), (.const (.string ⟨⟨[46, 45, 44, 95]⟩⟩))])),
 (o 9 (.pick (t 6) (t 8) ff)),
 m 2 9])
 (.ret))
theorem h_spec_l3Val : hF Tryd.prog n_spec_l3Val = some c_spec_l3Val.strip := by kernel_rfl
theorem r_spec_l3Val : rF Tryd.prog n_spec_l3Val = some ([.tmp 2], 10) := by kernel_rfl
abbrev n_spec_l3Write : Nat := 49
def c_spec_l3Write : AS :=
 .seq (.ops [o 6 (.mv ff)])
 (.seq (.ops [m 7 0,
 (o 8 (.call 47 [(t 7)])),
 m 9 8,
 mg 10 9 true 1,
 (g 11 9 true (.call 48 [(t 10)])),
 (o 12 (.pick (t 9) (t 11) ff)),
 m 13 12,
 mg 14 13 true 2,
 (g 15 13 true (.not (t 14))),
 mg 16 13 true 15,
 mg 17 16 false 1,
 (g 18 16 false (.bin .eql (t 17) (.const (.string ⟨⟨[]⟩⟩)))),
 (g 19 13 true (.pick (t 16) tt (t 18))),
 (o 20 (.pick (t 13) (t 19) ff)),
 m 6 20])
 (.ret))
theorem h_spec_l3Write : hF Tryd.prog n_spec_l3Write = some c_spec_l3Write.strip := by kernel_rfl
theorem r_spec_l3Write : rF Tryd.prog n_spec_l3Write = some ([.tmp 6], 21) := by kernel_rfl
abbrev n_impl_GoodKey : Nat := 50
def c_impl_GoodKey : AS :=
 .seq (.ops [o 2 (.mv ff)])
 (.seq (.ops [m 3 0,
 (o 4 (.lent (t 3))),
 (o 5 (.call 39 [(t 4), (k 1), (k 12)])),
 m 6 5,
 mg 7 6 true 0,
 (g 8 6 true (.call 61 [(t 7), (.const (.string ⟨⟨[46, 47]⟩⟩))])),
 (o 9 (.pick (t 6) (t 8) ff)),
 m 2 9])
 (.ret))
theorem h_impl_GoodKey : hF Tryd.prog n_impl_GoodKey = some c_impl_GoodKey.strip := by kernel_rfl
theorem r_impl_GoodKey : rF Tryd.prog n_impl_GoodKey = some ([.tmp 2], 10) := by kernel_rfl
abbrev n_impl_isStored : Nat := 51
def c_impl_isStored : AS :=
 .seq (.ops [o 4 (.mv ff)])
 (.seq (.ops [m 5 0,
 (o 6 (.call 62 [(t 5)])),
 m 7 6,
 mg 8 7 true 1,
 mg 9 7 true 8,
 mg 10 9 true 0,
 (g 11 9 true (.bin .neq (t 10) (.const (.string ⟨⟨[]⟩⟩)))),
 (g 12 7 true (.pick (t 9) (t 11) ff)),
 (g 13 7 true (.not (t 12))),
 (o 14 (.pick (t 7) (t 13) ff)),
 m 4 14])
 (.ret))
theorem h_impl_isStored : hF Tryd.prog n_impl_isStored = some c_impl_isStored.strip := by kernel_rfl
theorem r_impl_isStored : rF Tryd.prog n_impl_isStored = some ([.tmp 4], 15) := by kernel_rfl
abbrev n_slices_ContainsFunc___impl_Got_impl_Got_ : Nat := 52
def c_slices_ContainsFunc___impl_Got_impl_Got_ : AS :=
 .seq (.ops [o 4 (.mv ff)])
 (.seq (.ops [m 5 0,
 m 6 1,
 (o 7 (.call 63 [(t 5), (t 6)])),
 (o 8 (.bin .geq (t 7) (k 0))),
 m 4 8])
 (.ret))
theorem h_slices_ContainsFunc___impl_Got_impl_Got_ : hF Tryd.prog n_slices_ContainsFunc___impl_Got_impl_Got_ = some c_slices_ContainsFunc___impl_Got_impl_Got_.strip := by kernel_rfl
theorem r_slices_ContainsFunc___impl_Got_impl_Got_ : rF Tryd.prog n_slices_ContainsFunc___impl_Got_impl_Got_ = some ([.tmp 4], 9) := by kernel_rfl
abbrev n_impl_areGot_1 : Nat := 53
def c_impl_areGot_1 : AS :=
 .seq (.ops [o 2 (.box (t 0)),
 (o 3 (.mv ff))])
 (.seq (.ops [o 4 (.fa 0 (t 2)),
 (o 5 (.load none (t 4))),
 (o 6 (.fa 0 (t 1))),
 (o 7 (.load none (t 6))),
 (o 8 (.bin .eql (t 5) (t 7))),
 m 3 8])
 (.ret))
theorem h_impl_areGot_1 : hF Tryd.prog n_impl_areGot_1 = some c_impl_areGot_1.strip := by kernel_rfl
theorem r_impl_areGot_1 : rF Tryd.prog n_impl_areGot_1 = some ([.tmp 3], 9) := by kernel_rfl
abbrev n_impl_areRising : Nat := 54
def c_impl_areRising_l1 : AS :=
 .seq (.ops [o 8 (.bin .lss (t 7) (t 6))])
 (.seq (.cond (t 8) (.skip) (.exit 0))
 (.seq (.block 1 (.seq (.ops [m 9 7,
 (o 10 (.ia 1 (t 5) (t 7))),
 (o 11 (.load none (t 10))),
 m 3 9,
 m 4 11])
 (.seq (.ops [m 12 4,
 (o 13 (.call 50 [(t 12)])),
 (o 14 (.not (t 13))),
 m 15 14,
 mg 16 15 false 3,
 (g 17 15 false (.bin .gtr (t 16) (k 0))),
 mg 18 15 false 17,
 mg 19 18 true 4,
 mg 20 18 true 0,
 mg 21 18 true 3,
 (g 22 18 true (.bin .sub (t 21) (k 1))),
 (g 23 18 true (.ia 1 (t 20) (t 22))),
 (g 24 18 true (.load none (t 23))),
 (g 25 18 true (.bin .leq (t 19) (t 24))),
 (g 26 15 false (.pick (t 18) (t 25) ff)),
 (o 27 (.pick (t 15) tt (t 26)))])
 (.kept [0, 5, 6, 7, 27] (.cond (t 27) (.seq (.ops [o 2 (.mv ff)])
 (.ret)) (.skip))))))
 (.kept [0, 5, 6, 7] (.ops [o 28 (.bin .add (t 7) (k 1)),
 m 7 28]))))
def c_impl_areRising : AS :=
 .seq (.ops [o 2 (.mv ff)])
 (.seq (.seq (.ops [m 5 0,
 (o 6 (.lens (t 5))),
 (o 7 (.mv (k 0)))])
 (.block 0 (.loop 1 [(0, 0), (5, 0), (6, 0), (7, 0)] c_impl_areRising_l1)))
 (.kept [] (.seq (.ops [o 2 (.mv tt)])
 (.ret))))
theorem h_impl_areRising : hF Tryd.prog n_impl_areRising = some c_impl_areRising.strip := by kernel_rfl
theorem r_impl_areRising : rF Tryd.prog n_impl_areRising = some ([.tmp 2], 29) := by kernel_rfl
abbrev n_impl_writeKeys : Nat := 55
def c_impl_writeKeys_l1 : AS :=
 .seq (.ops [o 10 (.bin .lss (t 9) (t 8))])
 (.seq (.cond (t 10) (.skip) (.exit 0))
 (.seq (.block 1 (.seq (.ops [o 11 (.ia 3 (t 7) (t 9)),
 (o 12 (.load (some 3) (t 11))),
 (o 5 (.alloc (.agg #[.string ⟨⟨[]⟩⟩, .string ⟨⟨[]⟩⟩, .bool false]))),
 (u (.store 3 (t 5) (t 12)))])
 (.ops [m 13 3,
 (o 14 (.fa 0 (t 5))),
 (o 15 (.load none (t 14))),
 (o 16 (.bsl 1 (.string ⟨⟨[]⟩⟩) 1 [(0, (t 15))])),
 (o 17 (.app 1 16 (.string ⟨⟨[]⟩⟩) (t 13) (t 16))),
 m 3 17])))
 (.kept [3, 7, 8, 9] (.ops [o 18 (.bin .add (t 9) (k 1)),
 m 9 18]))))
def c_impl_writeKeys : AS :=
 .seq (.ops [o 2 (.mv (.const (.slice none 0 0)))])
 (.seq (.ops [o 6 (.bsl 1 (.string ⟨⟨[]⟩⟩) 0 []),
 m 3 6])
 (.seq (.seq (.ops [m 7 0,
 (o 8 (.lens (t 7))),
 (o 9 (.mv (k 0)))])
 (.block 0 (.loop 1 [(3, 1), (7, 0), (8, 0), (9, 0)] c_impl_writeKeys_l1)))
 (.kept [3] (.seq (.ops [m 19 3,
 m 2 19])
 (.ret)))))
theorem h_impl_writeKeys : hF Tryd.prog n_impl_writeKeys = some c_impl_writeKeys.strip := by kernel_rfl
theorem r_impl_writeKeys : rF Tryd.prog n_impl_writeKeys = some ([.tmp 2], 20) := by kernel_rfl
abbrev n_slices_ContainsFunc___impl_Write_impl_Write_ : Nat := 56
def c_slices_ContainsFunc___impl_Write_impl_Write_ : AS :=
 .seq (.ops [o 4 (.mv ff)])
 (.seq (.ops [m 5 0,
 m 6 1,
 (o 7 (.call 64 [(t 5), (t 6)])),
 (o 8 (.bin .geq (t 7) (k 0))),
 m 4 8])
 (.ret))
theorem h_slices_ContainsFunc___impl_Write_impl_Write_ : hF Tryd.prog n_slices_ContainsFunc___impl_Write_impl_Write_ = some c_slices_ContainsFunc___impl_Write_impl_Write_.strip := by kernel_rfl
theorem r_slices_ContainsFunc___impl_Write_impl_Write_ : rF Tryd.prog n_slices_ContainsFunc___impl_Write_impl_Write_ = some ([.tmp 4], 9) := by kernel_rfl
abbrev n_impl_GoodWrites_1 : Nat := 57
def c_impl_GoodWrites_1 : AS :=
 .seq (.ops [o 1 (.box (t 0)),
 (o 2 (.mv ff))])
 (.seq (.ops [o 3 (.fa 1 (t 1)),
 (o 4 (.load none (t 3))),
 (o 5 (.fa 2 (t 1))),
 (o 6 (.load none (t 5))),
 (o 7 (.call 51 [(t 4), (t 6)])),
 (o 8 (.not (t 7))),
 m 2 8])
 (.ret))
theorem h_impl_GoodWrites_1 : hF Tryd.prog n_impl_GoodWrites_1 = some c_impl_GoodWrites_1.strip := by kernel_rfl
theorem r_impl_GoodWrites_1 : rF Tryd.prog n_impl_GoodWrites_1 = some ([.tmp 2], 9) := by kernel_rfl
abbrev n_spec_l3Bytes : Nat := 60
def c_spec_l3Bytes_l1 : AS :=
 .seq (.seq (.ops [m 36 7,
 m 37 1,
 (o 38 (.lent (t 37))),
 (o 39 (.bin .lss (t 36) (t 38)))])
 (.cond (t 39) (.skip) (.exit 2)))
 (.seq (.block 3 (.dops [m 42 6,
 m 43 42,
 mg 44 43 false 0,
 mg 45 43 false 5,
 (g 46 43 false (.ix (t 44) (t 45))),
 mg 47 43 false 1,
 mg 48 43 false 7,
 (g 49 43 false (.ix (t 47) (t 48))),
 (g 50 43 false (.bin .eql (t 46) (t 49))),
 (o 51 (.pick (t 43) tt (t 50))),
 m 6 51]))
 (.kept [0, 1, 5, 6, 7] (.ops [m 40 7,
 (o 41 (.bin .add (t 40) (k 1))),
 m 7 41])))
def c_spec_l3Bytes_l2 : AS :=
 .seq (.seq (.ops [m 8 5,
 m 9 0,
 (o 10 (.lent (t 9))),
 (o 11 (.bin .lss (t 8) (t 10)))])
 (.cond (t 11) (.skip) (.exit 0)))
 (.seq (.block 1 (.seq (.ops [m 14 0,
 m 15 5,
 (o 16 (.ix (t 14) (t 15))),
 (o 17 (.bin .geq (t 16) (.const (.int .u8 97)))),
 m 18 17,
 mg 19 18 true 0,
 mg 20 18 true 5,
 (g 21 18 true (.ix (t 19) (t 20))),
 (g 22 18 true (.bin .leq (t 21) (.const (.int .u8 122)))),
 (o 23 (.pick (t 18) (t 22) ff)),
 m 24 23,
 mg 25 24 false 0,
 mg 26 24 false 5,
 (g 27 24 false (.ix (t 25) (t 26))),
 (g 28 24 false (.bin .geq (t 27) (.const (.int .u8 48)))),
 mg 29 24 false 28,
 mg 30 29 true 0,
 mg 31 29 true 5,
 (g 32 29 true (.ix (t 30) (t 31))),
 (g 33 29 true (.bin .leq (t 32) (.const (.int .u8 57)))),
 (g 34 24 false (.pick (t 29) (t 33) ff)),
 (o 35 (.pick (t 24) tt (t 34))),
 m 6 35])
 (.kept [0, 1, 5, 6] (.seq (.seq (.ops [o 7 (.mv (k 0))])
 (.block 2 (.loop 2 [(0, 0), (1, 0), (5, 0), (6, 0), (7, 0)] c_spec_l3Bytes_l1)))
 (.kept [0, 1, 5, 6] (.seq (.ops [m 52 6,
 (o 53 (.not (t 52)))])
 (.cond (t 53) (.seq (.ops [o 4 (.mv ff)])
 (.ret)) (.skip))))))))
 (.kept [0, 1, 5] (.ops [m 12 5,
 (o 13 (.bin .add (t 12) (k 1))),
 m 5 13])))
def c_spec_l3Bytes : AS :=
 .seq (.ops [o 4 (.mv ff)])
 (.seq (.seq (.ops [o 5 (.mv (k 0))])
 (.block 0 (.loop 2 [(0, 0), (1, 0), (5, 0)] c_spec_l3Bytes_l2)))
 (.kept [] (.seq (.ops [o 4 (.mv tt)])
 (.ret))))
theorem h_spec_l3Bytes : hF Tryd.prog n_spec_l3Bytes = some c_spec_l3Bytes.strip := by kernel_rfl
theorem r_spec_l3Bytes : rF Tryd.prog n_spec_l3Bytes = some ([.tmp 4], 54) := by kernel_rfl
abbrev n_impl_hasBytes : Nat := 61
def c_impl_hasBytes_l1 : AS :=
 .seq (.ops [o 9 (.bin .lss (t 8) (t 7))])
 (.seq (.cond (t 9) (.skip) (.exit 0))
 (.seq (.block 1 (.seq (.ops [m 10 8,
 m 5 10])
 (.seq (.ops [m 11 0,
 m 12 5,
 (o 13 (.ix (t 11) (t 12))),
 (o 14 (.call 69 [(t 13)])),
 (o 15 (.not (t 14))),
 m 16 15,
 mg 17 16 true 1,
 mg 18 16 true 0,
 mg 19 16 true 5,
 (g 20 16 true (.ix (t 18) (t 19))),
 (g 21 16 true (.call 70 [(t 17), (t 20)])),
 (g 22 16 true (.bin .lss (t 21) (k 0))),
 (o 23 (.pick (t 16) (t 22) ff))])
 (.kept [0, 1, 7, 8, 23] (.cond (t 23) (.seq (.ops [o 4 (.mv ff)])
 (.ret)) (.skip))))))
 (.kept [0, 1, 7, 8] (.ops [o 24 (.bin .add (t 8) (k 1)),
 m 8 24]))))
def c_impl_hasBytes : AS :=
 .seq (.ops [o 4 (.mv ff)])
 (.seq (.seq (.ops [m 6 0,
 (o 7 (.lent (t 6))),
 (o 8 (.mv (k 0)))])
 (.block 0 (.loop 2 [(0, 0), (1, 0), (7, 0), (8, 0)] c_impl_hasBytes_l1)))
 (.kept [] (.seq (.ops [o 4 (.mv tt)])
 (.ret))))
theorem h_impl_hasBytes : hF Tryd.prog n_impl_hasBytes = some c_impl_hasBytes.strip := by kernel_rfl
theorem r_impl_hasBytes : rF Tryd.prog n_impl_hasBytes = some ([.tmp 4], 25) := by kernel_rfl
abbrev n_impl_GoodVal : Nat := 62
def c_impl_GoodVal : AS :=
 .seq (.ops [o 2 (.mv ff)])
 (.seq (.ops [m 3 0,
 (o 4 (.lent (t 3))),
 (o 5 (.bin .leq (t 4) (k 24))),
 m 6 5,
 mg 7 6 true 0,
 (g 8 6 true (.call 61 [(t 7), (.const (.string ⟨⟨[46, 45, 44, 95]⟩⟩))])),
 (o 9 (.pick (t 6) (t 8) ff)),
 m 2 9])
 (.ret))
theorem h_impl_GoodVal : hF Tryd.prog n_impl_GoodVal = some c_impl_GoodVal.strip := by kernel_rfl
theorem r_impl_GoodVal : rF Tryd.prog n_impl_GoodVal = some ([.tmp 2], 10) := by kernel_rfl
abbrev n_slices_IndexFunc___impl_Got_impl_Got_ : Nat := 63
def c_slices_IndexFunc___impl_Got_impl_Got__l1 : AS :=
 .seq (.ops [o 9 (.bin .lss (t 8) (t 7))])
 (.seq (.cond (t 9) (.skip) (.exit 0))
 (.seq (.block 1 (.seq (.ops [m 10 8,
 m 5 10])
 (.seq (.ops [m 11 1,
 m 12 0,
 m 13 5,
 (o 14 (.ia 3 (t 12) (t 13))),
 (o 15 (.load (some 3) (t 14))),
 (o 16 (.callv (t 11) [(t 15)]))])
 (.cond (t 16) (.seq (.ops [m 17 5,
 m 4 17])
 (.ret)) (.skip)))))
 (.kept [0, 1, 7, 8] (.ops [o 18 (.bin .add (t 8) (k 1)),
 m 8 18]))))
def c_slices_IndexFunc___impl_Got_impl_Got_ : AS :=
 .seq (.ops [o 4 (.mv (k 0))])
 (.seq (.seq (.ops [m 6 0,
 (o 7 (.lens (t 6))),
 (o 8 (.mv (k 0)))])
 (.block 0 (.loop 2 [(0, 0), (1, 0), (7, 0), (8, 0)] c_slices_IndexFunc___impl_Got_impl_Got__l1)))
 (.kept [] (.seq (.ops [o 4 (.mv (k (-1)))])
 (.ret))))
theorem h_slices_IndexFunc___impl_Got_impl_Got_ : hF Tryd.prog n_slices_IndexFunc___impl_Got_impl_Got_ = some c_slices_IndexFunc___impl_Got_impl_Got_.strip := by kernel_rfl
theorem r_slices_IndexFunc___impl_Got_impl_Got_ : rF Tryd.prog n_slices_IndexFunc___impl_Got_impl_Got_ = some ([.tmp 4], 19) := by kernel_rfl
abbrev n_slices_IndexFunc___impl_Write_impl_Write_ : Nat := 64
def c_slices_IndexFunc___impl_Write_impl_Write__l1 : AS :=
 .seq (.ops [o 9 (.bin .lss (t 8) (t 7))])
 (.seq (.cond (t 9) (.skip) (.exit 0))
 (.seq (.block 1 (.seq (.ops [m 10 8,
 m 5 10])
 (.seq (.ops [m 11 1,
 m 12 0,
 m 13 5,
 (o 14 (.ia 3 (t 12) (t 13))),
 (o 15 (.load (some 3) (t 14))),
 (o 16 (.callv (t 11) [(t 15)]))])
 (.cond (t 16) (.seq (.ops [m 17 5,
 m 4 17])
 (.ret)) (.skip)))))
 (.kept [0, 1, 7, 8] (.ops [o 18 (.bin .add (t 8) (k 1)),
 m 8 18]))))
def c_slices_IndexFunc___impl_Write_impl_Write_ : AS :=
 .seq (.ops [o 4 (.mv (k 0))])
 (.seq (.seq (.ops [m 6 0,
 (o 7 (.lens (t 6))),
 (o 8 (.mv (k 0)))])
 (.block 0 (.loop 2 [(0, 0), (1, 0), (7, 0), (8, 0)] c_slices_IndexFunc___impl_Write_impl_Write__l1)))
 (.kept [] (.seq (.ops [o 4 (.mv (k (-1)))])
 (.ret))))
theorem h_slices_IndexFunc___impl_Write_impl_Write_ : hF Tryd.prog n_slices_IndexFunc___impl_Write_impl_Write_ = some c_slices_IndexFunc___impl_Write_impl_Write_.strip := by kernel_rfl
theorem r_slices_IndexFunc___impl_Write_impl_Write_ : rF Tryd.prog n_slices_IndexFunc___impl_Write_impl_Write_ = some ([.tmp 4], 19) := by kernel_rfl
abbrev n_impl_isLowerOrDigit : Nat := 69
def c_impl_isLowerOrDigit : AS :=
 .seq (.ops [o 2 (.mv ff)])
 (.seq (.ops [m 3 0,
 (o 4 (.bin .geq (t 3) (.const (.int .u8 97)))),
 m 5 4,
 mg 6 5 true 0,
 (g 7 5 true (.bin .leq (t 6) (.const (.int .u8 122)))),
 (o 8 (.pick (t 5) (t 7) ff)),
 m 9 8,
 mg 10 9 false 0,
 (g 11 9 false (.bin .geq (t 10) (.const (.int .u8 48)))),
 mg 12 9 false 11,
 mg 13 12 true 0,
 (g 14 12 true (.bin .leq (t 13) (.const (.int .u8 57)))),
 (g 15 9 false (.pick (t 12) (t 14) ff)),
 (o 16 (.pick (t 9) tt (t 15))),
 m 2 16])
 (.ret))
theorem h_impl_isLowerOrDigit : hF Tryd.prog n_impl_isLowerOrDigit = some c_impl_isLowerOrDigit.strip := by kernel_rfl
theorem r_impl_isLowerOrDigit : rF Tryd.prog n_impl_isLowerOrDigit = some ([.tmp 2], 17) := by kernel_rfl
abbrev n_strings_IndexByte : Nat := 70
def c_strings_IndexByte : AS :=
 .seq (.ops [o 4 (.mv (k 0))])
 (.seq (.ops [m 5 0,
 m 6 1,
 (o 7 (.call 76 [(t 5), (t 6)])),
 m 4 7])
 (.ret))
theorem h_strings_IndexByte : hF Tryd.prog n_strings_IndexByte = some c_strings_IndexByte.strip := by kernel_rfl
theorem r_strings_IndexByte : rF Tryd.prog n_strings_IndexByte = some ([.tmp 4], 8) := by kernel_rfl
abbrev n_internal_stringslite_IndexByte : Nat := 76
def c_internal_stringslite_IndexByte : AS :=
 .seq (.ops [o 4 (.mv (k 0))])
 (.seq (.ops [m 5 0,
 m 6 1,
 (o 7 (.xcall 79 [(t 5), (t 6)])),
 m 4 7])
 (.ret))
theorem h_internal_stringslite_IndexByte : hF Tryd.prog n_internal_stringslite_IndexByte = some c_internal_stringslite_IndexByte.strip := by kernel_rfl
theorem r_internal_stringslite_IndexByte : rF Tryd.prog n_internal_stringslite_IndexByte = some ([.tmp 4], 8) := by kernel_rfl
abbrev n_internal_bytealg_IndexByteString : Nat := 79
theorem d_internal_bytealg_IndexByteString : Tryd.prog.funcs[n_internal_bytealg_IndexByteString]? = some Tryd.f79 := by kernel_rfl
end Go.Proofs.Wb

import Derived.Test.YtlcebphcohneaaaGreatProg
import Derived.Test.YtlcebphcohneaaaGreatAmAuto
import Derived.Test.YtlcebphcohneaaaGreatAmRaw
namespace Go.Proofs.Wb
open Go Go.Am Go.Am.K
abbrev n_impl_findCell_1 : Nat := 166
def c_impl_findCell_1 : AS :=
 .seq (.ops [o 2 (.box (t 0)),
 (o 4 (.mv (k 0)))])
 (.seq (.ops [o 5 (.fa 0 (t 2)),
 (o 6 (.load none (t 5))),
 m 7 1,
 (o 8 (.call 167 [(t 6), (t 7)])),
 m 4 8])
 (.ret))
theorem h_impl_findCell_1 : hF Tryz.prog n_impl_findCell_1 = some c_impl_findCell_1.strip := by kernel_rfl
theorem r_impl_findCell_1 : rF Tryz.prog n_impl_findCell_1 = some ([.tmp 4], 9) := by kernel_rfl
abbrev n_cmp_Compare_string_ : Nat := 167
def c_cmp_Compare_string_ : AS :=
 .seq (.ops [o 4 (.mv (k 0))])
 (.seq (.ops [m 7 0,
 (o 8 (.call 213 [(t 7)])),
 m 5 8])
 (.seq (.ops [m 9 1,
 (o 10 (.call 213 [(t 9)])),
 m 6 10])
 (.seq (.seq (.ops [m 11 5])
 (.cond (t 11) (.seq (.seq (.ops [m 12 6])
 (.cond (t 12) (.seq (.ops [o 4 (.mv (k 0))])
 (.ret)) (.skip)))
 (.seq (.ops [o 4 (.mv (k (-1)))])
 (.ret))) (.skip)))
 (.seq (.seq (.ops [m 13 6])
 (.cond (t 13) (.seq (.ops [o 4 (.mv (k 1))])
 (.ret)) (.skip)))
 (.seq (.seq (.ops [m 14 0,
 m 15 1,
 (o 16 (.bin .lss (t 14) (t 15)))])
 (.cond (t 16) (.seq (.ops [o 4 (.mv (k (-1)))])
 (.ret)) (.skip)))
 (.seq (.seq (.ops [m 17 0,
 m 18 1,
 (o 19 (.bin .gtr (t 17) (t 18)))])
 (.cond (t 19) (.seq (.ops [o 4 (.mv (k 1))])
 (.ret)) (.skip)))
 (.seq (.ops [o 4 (.mv (k 0))])
 (.ret))))))))
theorem h_cmp_Compare_string_ : hF Tryz.prog n_cmp_Compare_string_ = some c_cmp_Compare_string_.strip := by kernel_rfl
theorem r_cmp_Compare_string_ : rF Tryz.prog n_cmp_Compare_string_ = some ([.tmp 4], 20) := by kernel_rfl
abbrev n_spec_l3Write : Nat := 169
def c_spec_l3Write : AS :=
 .seq (.ops [o 6 (.mv ff)])
 (.seq (.ops [m 7 0,
 (o 8 (.call 48 [(t 7)])),
 m 9 8,
 mg 10 9 true 1,
 (g 11 9 true (.call 215 [(t 10)])),
 (o 12 (.pick (t 9) (t 11) ff)),
 m 13 12,
 mg 14 13 true 2,
 (g 15 13 true (.not (t 14))),
 mg 16 13 true 15,
 mg 17 16 false 1,
 (g 18 16 false (.bin .eql (t 17) (.const (.string ⟨⟨[]⟩⟩)))),
 (g 19 13 true (.pick (t 16) tt (t 18))),
 (o 20 (.pick (t 13) (t 19) ff)),
 m 6 20])
 (.ret))
theorem h_spec_l3Write : hF Tryz.prog n_spec_l3Write = some c_spec_l3Write.strip := by kernel_rfl
theorem r_spec_l3Write : rF Tryz.prog n_spec_l3Write = some ([.tmp 6], 21) := by kernel_rfl
abbrev n_impl_writeKeys : Nat := 170
def c_impl_writeKeys_l1 : AS :=
 .seq (.ops [o 10 (.bin .lss (t 9) (t 8))])
 (.seq (.cond (t 10) (.skip) (.exit 0))
 (.seq (.block 1 (.seq (.ops [o 11 (.ia 3 (t 7) (t 9)),
 (o 12 (.load (some 3) (t 11))),
 (o 5 (.alloc (.agg #[.string ⟨⟨[]⟩⟩, .string ⟨⟨[]⟩⟩, .bool false]))),
 (u (.store 3 (t 5) (t 12)))])
 (.ops [m 13 3,
 (o 14 (.fa 0 (t 5))),
 (o 15 (.load none (t 14))),
 (o 16 (.bsl 1 (.string ⟨⟨[]⟩⟩) 1 [(0, (t 15))])),
 (o 17 (.app 1 16 (.string ⟨⟨[]⟩⟩) (t 13) (t 16))),
 m 3 17])))
 (.kept [3, 7, 8, 9] (.ops [o 18 (.bin .add (t 9) (k 1)),
 m 9 18]))))
def c_impl_writeKeys : AS :=
 .seq (.ops [o 2 (.mv (.const (.slice none 0 0)))])
 (.seq (.ops [o 6 (.bsl 1 (.string ⟨⟨[]⟩⟩) 0 []),
 m 3 6])
 (.seq (.seq (.ops [m 7 0,
 (o 8 (.lens (t 7))),
 (o 9 (.mv (k 0)))])
 (.block 0 (.loop 1 [(3, 1), (7, 0), (8, 0), (9, 0)] c_impl_writeKeys_l1)))
 (.kept [3] (.seq (.ops [m 19 3,
 m 2 19])
 (.ret)))))
theorem h_impl_writeKeys : hF Tryz.prog n_impl_writeKeys = some c_impl_writeKeys.strip := by kernel_rfl
theorem r_impl_writeKeys : rF Tryz.prog n_impl_writeKeys = some ([.tmp 2], 20) := by kernel_rfl
abbrev n_slices_ContainsFunc___impl_Write_impl_Write_ : Nat := 171
def c_slices_ContainsFunc___impl_Write_impl_Write_ : AS :=
 .seq (.ops [o 4 (.mv ff)])
 (.seq (.ops [m 5 0,
 m 6 1,
 (o 7 (.call 216 [(t 5), (t 6)])),
 (o 8 (.bin .geq (t 7) (k 0))),
 m 4 8])
 (.ret))
theorem h_slices_ContainsFunc___impl_Write_impl_Write_ : hF Tryz.prog n_slices_ContainsFunc___impl_Write_impl_Write_ = some c_slices_ContainsFunc___impl_Write_impl_Write_.strip := by kernel_rfl
theorem r_slices_ContainsFunc___impl_Write_impl_Write_ : rF Tryz.prog n_slices_ContainsFunc___impl_Write_impl_Write_ = some ([.tmp 4], 9) := by kernel_rfl
abbrev n_impl_GoodWrites_1 : Nat := 172
def c_impl_GoodWrites_1 : AS :=
 .seq (.ops [o 1 (.box (t 0)),
 (o 2 (.mv ff))])
 (.seq (.ops [o 3 (.fa 1 (t 1)),
 (o 4 (.load none (t 3))),
 (o 5 (.fa 2 (t 1))),
 (o 6 (.load none (t 5))),
 (o 7 (.call 173 [(t 4), (t 6)])),
 (o 8 (.not (t 7))),
 m 2 8])
 (.ret))
theorem h_impl_GoodWrites_1 : hF Tryz.prog n_impl_GoodWrites_1 = some c_impl_GoodWrites_1.strip := by kernel_rfl
theorem r_impl_GoodWrites_1 : rF Tryz.prog n_impl_GoodWrites_1 = some ([.tmp 2], 9) := by kernel_rfl
abbrev n_impl_isStored : Nat := 173
def c_impl_isStored : AS :=
 .seq (.ops [o 4 (.mv ff)])
 (.seq (.ops [m 5 0,
 (o 6 (.call 217 [(t 5)])),
 m 7 6,
 mg 8 7 true 1,
 mg 9 7 true 8,
 mg 10 9 true 0,
 (g 11 9 true (.bin .neq (t 10) (.const (.string ⟨⟨[]⟩⟩)))),
 (g 12 7 true (.pick (t 9) (t 11) ff)),
 (g 13 7 true (.not (t 12))),
 (o 14 (.pick (t 7) (t 13) ff)),
 m 4 14])
 (.ret))
theorem h_impl_isStored : hF Tryz.prog n_impl_isStored = some c_impl_isStored.strip := by kernel_rfl
theorem r_impl_isStored : rF Tryz.prog n_impl_isStored = some ([.tmp 4], 15) := by kernel_rfl
abbrev n_spec_l3Cell : Nat := 176
def c_spec_l3Cell_l1 : AS :=
 .seq (.ops [o 9 (.bin .lss (t 8) (t 7))])
 (.seq (.cond (t 9) (.skip) (.exit 0))
 (.seq (.block 1 (.seq (.ops [m 10 8,
 (o 11 (.ia 3 (t 6) (t 8))),
 (o 12 (.load (some 3) (t 11))),
 (o 4 (.alloc (.agg #[.int .i64 0, .string ⟨⟨[]⟩⟩, .bool false]))),
 m 3 10,
 (u (.store 3 (t 4) (t 12)))])
 (.seq (.rops [(none, o 13 (.fa 0 (t 4))),
 (none, o 14 (.load none (t 13))),
 (some [], o 15 (.call 106 [(t 14)])),
 (none, o 16 (.not (t 15))),
 (none, m 17 16),
 (none, g 18 17 false (.fa 0 (t 1))),
 (none, g 19 17 false (.load none (t 18))),
 (none, g 20 17 false (.fa 1 (t 4))),
 (none, g 21 17 false (.load none (t 20))),
 (none, g 22 17 false (.fa 2 (t 4))),
 (none, g 23 17 false (.load none (t 22))),
 (some [], g 24 17 false (.call 169 [(t 19), (t 21), (t 23)])),
 (none, g 25 17 false (.not (t 24))),
 (none, o 26 (.pick (t 17) tt (t 25))),
 (none, m 27 26),
 (none, mg 28 27 false 3),
 (none, g 29 27 false (.bin .gtr (t 28) (k 0))),
 (none, mg 30 27 false 29),
 (none, g 31 30 true (.fa 1 (t 1))),
 (none, g 32 30 true (.load none (t 31))),
 (none, mg 33 30 true 3),
 (none, g 34 30 true (.bin .sub (t 33) (k 1))),
 (none, g 35 30 true (.ia 3 (t 32) (t 34))),
 (none, g 36 30 true (.fa 0 (t 35))),
 (none, g 37 30 true (.load none (t 36))),
 (none, g 38 30 true (.fa 0 (t 4))),
 (none, g 39 30 true (.load none (t 38))),
 (none, g 40 30 true (.bin .geq (t 37) (t 39))),
 (none, g 41 27 false (.pick (t 30) (t 40) ff)),
 (none, o 42 (.pick (t 27) tt (t 41)))])
 (.kept [1, 6, 7, 8, 42] (.cond (t 42) (.seq (.ops [o 2 (.mv ff)])
 (.ret)) (.skip))))))
 (.kept [1, 6, 7, 8] (.ops [o 43 (.bin .add (t 8) (k 1)),
 m 8 43]))))
def c_spec_l3Cell : AS :=
 .seq (.ops [o 1 (.box (t 0)),
 (o 2 (.mv ff))])
 (.seq (.seq (.ops [o 5 (.fa 1 (t 1)),
 (o 6 (.load none (t 5))),
 (o 7 (.lens (t 6))),
 (o 8 (.mv (k 0)))])
 (.block 0 (.loop 1 [(1, 0), (6, 0), (7, 0), (8, 0)] c_spec_l3Cell_l1)))
 (.kept [1] (.seq (.ops [o 44 (.fa 0 (t 1)),
 (o 45 (.load none (t 44))),
 (o 46 (.call 48 [(t 45)])),
 m 47 46,
 (g 48 47 true (.fa 1 (t 1))),
 (g 49 47 true (.load none (t 48))),
 (g 50 47 true (.lens (t 49))),
 (g 51 47 true (.call 91 [(t 50), (k 1), (k 16)])),
 (o 52 (.pick (t 47) (t 51) ff)),
 m 2 52])
 (.ret))))
theorem h_spec_l3Cell : hF Tryz.prog n_spec_l3Cell = some c_spec_l3Cell.strip := by kernel_rfl
theorem r_spec_l3Cell : rF Tryz.prog n_spec_l3Cell = some ([.tmp 2], 53) := by kernel_rfl
abbrev n_spec_l13Apart : Nat := 178
def c_spec_l13Apart_l1 : AS :=
 .seq (.ops [o 14 (.bin .lss (t 13) (t 12))])
 (.seq (.cond (t 14) (.skip) (.exit 0))
 (.seq (.block 1 (.seq (.ops [o 15 (.ia 1 (t 11) (t 13)),
 (o 16 (.load none (t 15))),
 m 8 16])
 (.seq (.ops [o 17 (.fa 4 (t 3)),
 (o 18 (.load none (t 17))),
 m 19 8,
 (o 20 (.call 220 [(t 18), (t 19)]))])
 (.cond (t 20) (.seq (.ops [o 6 (.mv ff)])
 (.ret)) (.skip)))))
 (.kept [2, 3, 11, 12, 13] (.ops [o 21 (.bin .add (t 13) (k 1)),
 m 13 21]))))
def c_spec_l13Apart_l2 : AS :=
 .seq (.ops [o 25 (.bin .lss (t 24) (t 23))])
 (.seq (.cond (t 25) (.skip) (.exit 2))
 (.seq (.block 3 (.seq (.ops [o 26 (.ia 3 (t 22) (t 24)),
 (o 27 (.load (some 3) (t 26))),
 (o 10 (.alloc (.agg #[.string ⟨⟨[]⟩⟩, .string ⟨⟨[]⟩⟩, .bool false]))),
 (u (.store 3 (t 10) (t 27)))])
 (.seq (.ops [o 28 (.fa 4 (t 3)),
 (o 29 (.load none (t 28))),
 (o 30 (.fa 0 (t 10))),
 (o 31 (.load none (t 30))),
 (o 32 (.call 220 [(t 29), (t 31)])),
 m 33 32,
 (g 34 33 false (.fa 3 (t 3))),
 (g 35 33 false (.load none (t 34))),
 (g 36 33 false (.fa 0 (t 10))),
 (g 37 33 false (.load none (t 36))),
 (g 38 33 false (.call 221 [(t 35), (t 37)])),
 (o 39 (.pick (t 33) tt (t 38)))])
 (.kept [3, 22, 23, 24, 39] (.cond (t 39) (.seq (.ops [o 6 (.mv ff)])
 (.ret)) (.skip))))))
 (.kept [3, 22, 23, 24] (.ops [o 40 (.bin .add (t 24) (k 1)),
 m 24 40]))))
def c_spec_l13Apart : AS :=
 .seq (.ops [o 3 (.box (t 0)),
 (o 6 (.mv ff))])
 (.seq (.seq (.ops [m 11 1,
 (o 12 (.lens (t 11))),
 (o 13 (.mv (k 0)))])
 (.block 0 (.loop 3 [(2, 0), (3, 0), (11, 0), (12, 0), (13, 0)] c_spec_l13Apart_l1)))
 (.kept [2, 3] (.seq (.seq (.ops [m 22 2,
 (o 23 (.lens (t 22))),
 (o 24 (.mv (k 0)))])
 (.block 2 (.loop 3 [(3, 0), (22, 0), (23, 0), (24, 0)] c_spec_l13Apart_l2)))
 (.kept [] (.seq (.ops [o 6 (.mv tt)])
 (.ret))))))
theorem h_spec_l13Apart : hF Tryz.prog n_spec_l13Apart = some c_spec_l13Apart.strip := by kernel_rfl
theorem r_spec_l13Apart : rF Tryz.prog n_spec_l13Apart = some ([.tmp 6], 41) := by kernel_rfl
abbrev n_spec_l13Room : Nat := 179
def c_spec_l13Room_l1 : AS :=
 .seq (.ops [o 18 (.bin .lss (t 17) (t 16))])
 (.seq (.cond (t 18) (.skip) (.exit 0))
 (.seq (.block 1 (.seq (.post [(19, 1, [(1, 3)])] (.ops [o 19 (.ia 2 (t 15) (t 17)),
 (o 20 (.load (some 2) (t 19))),
 (o 7 (.alloc (.agg #[.string ⟨⟨[]⟩⟩, .slice none 0 0]))),
 (u (.store 2 (t 7) (t 20)))]))
 (.ops [m 21 5,
 (o 22 (.fa 0 (t 7))),
 (o 23 (.load none (t 22))),
 (o 24 (.call 222 [(t 21), (t 23)])),
 m 5 24])))
 (.kept [1, 2, 5, 15, 16, 17] (.ops [o 25 (.bin .add (t 17) (k 1)),
 m 17 25]))))
def c_spec_l13Room_l2 : AS :=
 .seq (.ops [o 33 (.bin .lss (t 32) (t 31))])
 (.seq (.cond (t 33) (.skip) (.exit 2))
 (.seq (.block 3 (.seq (.post [(34, 1, [(3, 1), (4, 3)])] (.ops [o 34 (.ia 5 (t 30) (t 32)),
 (o 35 (.load (some 5) (t 34))),
 (o 10 (.alloc (.agg #[.int .i64 0, .int .i64 0, .int .i64 0, .slice none 0 0, .slice none 0 0]))),
 (u (.store 5 (t 10) (t 35)))]))
 (.ops [m 36 8,
 (o 37 (.fa 4 (t 10))),
 (o 38 (.load none (t 37))),
 (o 39 (.app 3 40 (.agg #[.string ⟨⟨[]⟩⟩, .string ⟨⟨[]⟩⟩, .bool false]) (t 36) (t 38))),
 m 8 39])))
 (.kept [2, 5, 8, 30, 31, 32] (.ops [o 40 (.bin .add (t 32) (k 1)),
 m 32 40]))))
def c_spec_l13Room_l3 : AS :=
 .seq (.ops [o 44 (.bin .lss (t 43) (t 42))])
 (.seq (.cond (t 44) (.skip) (.exit 4))
 (.seq (.block 5 (.seq (.ops [o 45 (.ia 3 (t 41) (t 43)),
 (o 46 (.load (some 3) (t 45))),
 (o 12 (.alloc (.agg #[.string ⟨⟨[]⟩⟩, .string ⟨⟨[]⟩⟩, .bool false]))),
 (u (.store 3 (t 12) (t 46)))])
 (.seq (.ops [m 47 5,
 (o 48 (.fa 0 (t 12))),
 (o 49 (.load none (t 48))),
 (o 50 (.call 222 [(t 47), (t 49)])),
 m 5 50])
 (.seq (.ops [o 51 (.fa 1 (t 2)),
 (o 52 (.load none (t 51))),
 (o 53 (.fa 0 (t 12))),
 (o 54 (.load none (t 53))),
 (o 55 (.call 101 [(t 52), (t 54)])),
 m 13 55])
 (.seq (.post [(62, 1, [(1, 3)])] (.ops [m 56 13,
 (o 57 (.bin .geq (t 56) (k 0))),
 m 58 57,
 (g 59 58 true (.fa 1 (t 2))),
 (g 60 58 true (.load none (t 59))),
 mg 61 58 true 13,
 (g 62 58 true (.ia 2 (t 60) (t 61))),
 (g 63 58 true (.fa 1 (t 62))),
 (g 64 58 true (.load none (t 63))),
 (g 65 58 true (.lens (t 64))),
 (g 66 58 true (.bin .geq (t 65) (k 16))),
 (o 67 (.pick (t 58) (t 66) ff))]))
 (.kept [2, 5, 41, 42, 43, 67] (.cond (t 67) (.seq (.ops [o 4 (.mv ff)])
 (.ret)) (.skip))))))))
 (.kept [2, 5, 41, 42, 43] (.ops [o 68 (.bin .add (t 43) (k 1)),
 m 43 68]))))
def c_spec_l13Room : AS :=
 .seq (.ops [o 2 (.box (t 0)),
 (o 4 (.mv ff))])
 (.seq (.ops [o 5 (.mv (.const (.slice none 0 0)))])
 (.seq (.seq (.ops [o 14 (.fa 1 (t 2)),
 (o 15 (.load none (t 14))),
 (o 16 (.lens (t 15))),
 (o 17 (.mv (k 0)))])
 (.block 0 (.loop 2 [(1, 0), (2, 0), (5, 1), (15, 0), (16, 0), (17, 0)] c_spec_l13Room_l1)))
 (.kept [1, 2, 5] (.seq (.ops [o 26 (.bsl 3 (.agg #[.string ⟨⟨[]⟩⟩, .string ⟨⟨[]⟩⟩, .bool false]) 0 []),
 m 27 1,
 (o 28 (.app 3 40 (.agg #[.string ⟨⟨[]⟩⟩, .string ⟨⟨[]⟩⟩, .bool false]) (t 26) (t 27))),
 m 8 28])
 (.seq (.seq (.ops [o 29 (.fa 2 (t 2)),
 (o 30 (.load none (t 29))),
 (o 31 (.lens (t 30))),
 (o 32 (.mv (k 0)))])
 (.block 2 (.loop 2 [(2, 0), (5, 1), (8, 3), (30, 0), (31, 0), (32, 0)] c_spec_l13Room_l2)))
 (.kept [2, 5, 8] (.seq (.seq (.ops [m 41 8,
 (o 42 (.lens (t 41))),
 (o 43 (.mv (k 0)))])
 (.block 4 (.loop 2 [(2, 0), (5, 1), (41, 3), (42, 0), (43, 0)] c_spec_l13Room_l3)))
 (.kept [5] (.seq (.ops [m 69 5,
 (o 70 (.lens (t 69))),
 (o 71 (.bin .leq (t 70) (k 24))),
 m 4 71])
 (.ret))))))))))
theorem h_spec_l13Room : hF Tryz.prog n_spec_l13Room = some c_spec_l13Room.strip := by kernel_rfl
theorem r_spec_l13Room : rF Tryz.prog n_spec_l13Room = some ([.tmp 4], 72) := by kernel_rfl
abbrev n_spec_l3Own : Nat := 180
def c_spec_l3Own_l1 : AS :=
 .seq (.ops [o 9 (.bin .lss (t 8) (t 7))])
 (.seq (.cond (t 9) (.skip) (.exit 0))
 (.seq (.block 1 (.seq (.post [(10, 1, [(1, 3)])] (.ops [o 10 (.ia 2 (t 6) (t 8)),
 (o 11 (.load (some 2) (t 10))),
 (o 5 (.alloc (.agg #[.string ⟨⟨[]⟩⟩, .slice none 0 0]))),
 (u (.store 2 (t 5) (t 11)))]))
 (.post [(21, 1, [(1, 3)])] (.rops [(none, m 12 3),
 (none, o 13 (.fa 0 (t 5))),
 (none, o 14 (.load none (t 13))),
 (none, o 16 (.fa 1 (t 5))),
 (none, o 17 (.load none (t 16))),
 (some [o 17 (.load none (t 16)), o 16 (.fa 1 (t 5)), o 14 (.load none (t 13)), o 13 (.fa 0 (t 5)), m 12 3], o 15 (.bsl 3 (.agg #[.int .i64 0, .string ⟨⟨[]⟩⟩, .bool false]) 0 [])),
 (some [o 14 (.load none (t 13)), o 13 (.fa 0 (t 5)), m 12 3], o 18 (.app 3 32 (.agg #[.int .i64 0, .string ⟨⟨[]⟩⟩, .bool false]) (t 15) (t 17))),
 (none, o 19 (.build (.agg #[.string ⟨⟨[]⟩⟩, .slice none 0 0]) [(0, 1, (t 14)), (1, 1, (t 18))])),
 (some [m 12 3], o 20 (.bsl 2 (.agg #[.string ⟨⟨[]⟩⟩, .slice none 0 0]) 1 [(0, (t 19))])),
 (some [], o 21 (.app 2 40 (.agg #[.string ⟨⟨[]⟩⟩, .slice none 0 0]) (t 12) (t 20))),
 (none, m 3 21)]))))
 (.kept [3, 6, 7, 8] (.ops [o 22 (.bin .add (t 8) (k 1)),
 m 8 22]))))
def c_spec_l3Own : AS :=
 .seq (.ops [o 2 (.mv (.const (.slice none 0 0)))])
 (.seq (.ops [o 3 (.mv (.const (.slice none 0 0)))])
 (.seq (.seq (.ops [m 6 0,
 (o 7 (.lens (t 6))),
 (o 8 (.mv (k 0)))])
 (.block 0 (.loop 1 [(3, 2), (6, 0), (7, 0), (8, 0)] c_spec_l3Own_l1)))
 (.kept [3] (.seq (.ops [m 23 3,
 m 2 23])
 (.ret)))))
theorem h_spec_l3Own : hF Tryz.prog n_spec_l3Own = some c_spec_l3Own.strip := by kernel_rfl
theorem r_spec_l3Own : rF Tryz.prog n_spec_l3Own = some ([.tmp 2], 24) := by kernel_rfl
abbrev n_spec_l13OwnHeld : Nat := 181
def c_spec_l13OwnHeld : AS :=
 .seq (.ops [o 1 (.box (t 0)),
 (o 2 (.alloc (.agg #[.int .i64 0, .int .i64 0, .int .i64 0, .slice none 0 0, .slice none 0 0])))])
 (.seq (.ops [o 3 (.fa 3 (t 1)),
 (o 4 (.load none (t 3))),
 (o 5 (.call 132 [(t 4)])),
 (o 6 (.fa 3 (t 1))),
 (u (.store 1 (t 6) (t 5)))])
 (.seq (.ops [o 7 (.bsl 3 (.agg #[.string ⟨⟨[]⟩⟩, .string ⟨⟨[]⟩⟩, .bool false]) 0 []),
 (o 8 (.fa 4 (t 1))),
 (o 9 (.load none (t 8))),
 (o 10 (.app 3 40 (.agg #[.string ⟨⟨[]⟩⟩, .string ⟨⟨[]⟩⟩, .bool false]) (t 7) (t 9))),
 (o 11 (.fa 4 (t 1))),
 (u (.store 1 (t 11) (t 10)))])
 (.seq (.ops [o 12 (.load (some 5) (t 1)),
 (u (.store 5 (t 2) (t 12)))])
 (.ret))))
theorem h_spec_l13OwnHeld : hF Tryz.prog n_spec_l13OwnHeld = some c_spec_l13OwnHeld.strip := by kernel_rfl
theorem r_spec_l13OwnHeld : rF Tryz.prog n_spec_l13OwnHeld = some ([.cell 2 127], 13) := by kernel_rfl
abbrev n_impl_isCell : Nat := 183
def c_impl_isCell_l1 : AS :=
 .seq (.ops [o 9 (.bin .lss (t 8) (t 7))])
 (.seq (.cond (t 9) (.skip) (.exit 0))
 (.seq (.block 1 (.seq (.ops [m 10 8,
 (o 11 (.ia 3 (t 6) (t 8))),
 (o 12 (.load (some 3) (t 11))),
 (o 4 (.alloc (.agg #[.int .i64 0, .string ⟨⟨[]⟩⟩, .bool false]))),
 m 3 10,
 (u (.store 3 (t 4) (t 12)))])
 (.seq (.rops [(none, o 13 (.fa 0 (t 4))),
 (none, o 14 (.load none (t 13))),
 (some [], o 15 (.call 111 [(t 14)])),
 (none, o 16 (.not (t 15))),
 (none, m 17 16),
 (none, g 18 17 false (.fa 1 (t 4))),
 (none, g 19 17 false (.load none (t 18))),
 (none, g 20 17 false (.fa 2 (t 4))),
 (none, g 21 17 false (.load none (t 20))),
 (some [], g 22 17 false (.call 173 [(t 19), (t 21)])),
 (none, g 23 17 false (.not (t 22))),
 (none, o 24 (.pick (t 17) tt (t 23))),
 (none, m 25 24),
 (none, mg 26 25 false 3),
 (none, g 27 25 false (.bin .gtr (t 26) (k 0))),
 (none, mg 28 25 false 27),
 (none, g 29 28 true (.fa 0 (t 4))),
 (none, g 30 28 true (.load none (t 29))),
 (none, g 31 28 true (.fa 1 (t 1))),
 (none, g 32 28 true (.load none (t 31))),
 (none, mg 33 28 true 3),
 (none, g 34 28 true (.bin .sub (t 33) (k 1))),
 (none, g 35 28 true (.ia 3 (t 32) (t 34))),
 (none, g 36 28 true (.fa 0 (t 35))),
 (none, g 37 28 true (.load none (t 36))),
 (none, g 38 28 true (.bin .leq (t 30) (t 37))),
 (none, g 39 25 false (.pick (t 28) (t 38) ff)),
 (none, o 40 (.pick (t 25) tt (t 39)))])
 (.kept [1, 6, 7, 8, 40] (.cond (t 40) (.seq (.ops [o 2 (.mv ff)])
 (.ret)) (.skip))))))
 (.kept [1, 6, 7, 8] (.ops [o 41 (.bin .add (t 8) (k 1)),
 m 8 41]))))
def c_impl_isCell : AS :=
 .seq (.ops [o 1 (.box (t 0)),
 (o 2 (.mv ff))])
 (.seq (.seq (.ops [o 5 (.fa 1 (t 1)),
 (o 6 (.load none (t 5))),
 (o 7 (.lens (t 6))),
 (o 8 (.mv (k 0)))])
 (.block 0 (.loop 1 [(1, 0), (6, 0), (7, 0), (8, 0)] c_impl_isCell_l1)))
 (.kept [1] (.seq (.ops [o 42 (.fa 1 (t 1)),
 (o 43 (.load none (t 42))),
 (o 44 (.lens (t 43))),
 (o 45 (.call 98 [(t 44), (k 1), (k 16)])),
 m 2 45])
 (.ret))))
theorem h_impl_isCell : hF Tryz.prog n_impl_isCell = some c_impl_isCell.strip := by kernel_rfl
theorem r_impl_isCell : rF Tryz.prog n_impl_isCell = some ([.tmp 2], 46) := by kernel_rfl
abbrev n_impl_Held_rec : Nat := 184
def c_impl_Held_rec : AS :=
 .seq (.ops [o 1 (.box (t 0)),
 (o 2 (.alloc (.agg #[.int .i64 0, .int .i64 0, .int .i64 0, .int .i64 0, .slice none 0 0, .slice none 0 0, .bool false])))])
 (.seq (.ops [o 3 (.fa 0 (t 1)),
 (o 4 (.load none (t 3))),
 (o 5 (.fa 1 (t 1))),
 (o 6 (.load none (t 5))),
 (o 7 (.fa 2 (t 1))),
 (o 8 (.load none (t 7))),
 (o 9 (.fa 3 (t 1))),
 (o 10 (.load none (t 9))),
 (o 11 (.fa 4 (t 1))),
 (o 12 (.load none (t 11))),
 (o 13 (.build (.agg #[.int .i64 0, .int .i64 0, .int .i64 0, .int .i64 0, .slice none 0 0, .slice none 0 0, .bool false]) [(0, 1, (k 1)), (1, 1, (t 4)), (2, 1, (t 6)), (3, 1, (t 8)), (4, 1, (t 10)), (5, 1, (t 12))])),
 (u (.store 7 (t 2) (t 13)))])
 (.ret))
theorem h_impl_Held_rec : hF Tryz.prog n_impl_Held_rec = some c_impl_Held_rec.strip := by kernel_rfl
theorem r_impl_Held_rec : rF Tryz.prog n_impl_Held_rec = some ([.cell 2 72], 14) := by kernel_rfl
abbrev n_slices_ContainsFunc___impl_Held_impl_Held_ : Nat := 185
def c_slices_ContainsFunc___impl_Held_impl_Held_ : AS :=
 .seq (.ops [o 4 (.mv ff)])
 (.seq (.ops [m 5 0,
 m 6 1,
 (o 7 (.call 224 [(t 5), (t 6)])),
 (o 8 (.bin .geq (t 7) (k 0))),
 m 4 8])
 (.ret))
theorem h_slices_ContainsFunc___impl_Held_impl_Held_ : hF Tryz.prog n_slices_ContainsFunc___impl_Held_impl_Held_ = some c_slices_ContainsFunc___impl_Held_impl_Held_.strip := by kernel_rfl
theorem r_slices_ContainsFunc___impl_Held_impl_Held_ : rF Tryz.prog n_slices_ContainsFunc___impl_Held_impl_Held_ = some ([.tmp 4], 9) := by kernel_rfl
abbrev n_impl_clash : Nat := 187
def c_impl_clash : AS :=
 .seq (.ops [o 2 (.box (t 0)),
 (o 3 (.box (t 1))),
 (o 4 (.mv ff))])
 (.seq (.ops [o 5 (.fa 4 (t 2)),
 (o 6 (.load none (t 5))),
 (o 7 (.fa 3 (t 3))),
 (o 8 (.load none (t 7))),
 (o 9 (.fa 4 (t 3))),
 (o 10 (.load none (t 9))),
 (o 11 (.call 225 [(t 6), (t 8), (t 10)])),
 m 12 11,
 (g 13 12 false (.fa 4 (t 3))),
 (g 14 12 false (.load none (t 13))),
 (g 15 12 false (.fa 3 (t 2))),
 (g 16 12 false (.load none (t 15))),
 (g 17 12 false (.fa 4 (t 2))),
 (g 18 12 false (.load none (t 17))),
 (g 19 12 false (.call 225 [(t 14), (t 16), (t 18)])),
 (o 20 (.pick (t 12) tt (t 19))),
 m 4 20])
 (.ret))
theorem h_impl_clash : hF Tryz.prog n_impl_clash = some c_impl_clash.strip := by kernel_rfl
theorem r_impl_clash : rF Tryz.prog n_impl_clash = some ([.tmp 4], 21) := by kernel_rfl
abbrev n_impl_State_room : Nat := 189
def c_impl_State_room_l1 : AS :=
 .seq (.ops [o 19 (.bin .lss (t 18) (t 17))])
 (.seq (.cond (t 19) (.skip) (.exit 0))
 (.seq (.block 1 (.seq (.post [(20, 1, [(1, 3)])] (.ops [o 20 (.ia 2 (t 16) (t 18)),
 (o 21 (.load (some 2) (t 20))),
 (o 7 (.alloc (.agg #[.string ⟨⟨[]⟩⟩, .slice none 0 0]))),
 (u (.store 2 (t 7) (t 21)))]))
 (.ops [m 22 5,
 (o 23 (.fa 0 (t 7))),
 (o 24 (.load none (t 23))),
 (o 25 (.bsl 1 (.string ⟨⟨[]⟩⟩) 1 [(0, (t 24))])),
 (o 26 (.app 1 16 (.string ⟨⟨[]⟩⟩) (t 22) (t 25))),
 m 5 26])))
 (.kept [1, 2, 5, 16, 17, 18] (.ops [o 27 (.bin .add (t 18) (k 1)),
 m 18 27]))))
def c_impl_State_room_l2 : AS :=
 .seq (.ops [o 38 (.bin .lss (t 37) (t 36))])
 (.seq (.cond (t 38) (.skip) (.exit 4))
 (.seq (.block 5 (.seq (.ops [o 39 (.ia 3 (t 35) (t 37)),
 (o 40 (.load (some 3) (t 39))),
 (o 11 (.alloc (.agg #[.string ⟨⟨[]⟩⟩, .string ⟨⟨[]⟩⟩, .bool false]))),
 (u (.store 3 (t 11) (t 40)))])
 (.seq (.seq (.ops [o 42 (.fa 1 (t 2)),
 (o 43 (.load none (t 42))),
 (o 44 (.fa 0 (t 11))),
 (o 45 (.load none (t 44))),
 (o 46 (.call 104 [(t 43), (t 45)])),
 m 41 46,
 (o 47 (.ext 0 (t 41))),
 (o 48 (.ext 1 (t 41))),
 m 12 47,
 m 13 48])
 (.kept [1, 2, 5, 11, 12, 13, 28, 29, 30, 35, 36, 37] (.seq (.post [(54, 1, [(1, 3)])] (.ops [m 49 13,
 m 50 49,
 (g 51 50 true (.fa 1 (t 2))),
 (g 52 50 true (.load none (t 51))),
 mg 53 50 true 12,
 (g 54 50 true (.ia 2 (t 52) (t 53))),
 (g 55 50 true (.fa 1 (t 54))),
 (g 56 50 true (.load none (t 55))),
 (g 57 50 true (.lens (t 56))),
 (g 58 50 true (.bin .geq (t 57) (k 16))),
 (o 59 (.pick (t 50) (t 58) ff))]))
 (.kept [1, 2, 5, 11, 28, 29, 30, 35, 36, 37, 59] (.cond (t 59) (.seq (.ops [o 4 (.mv ff)])
 (.ret)) (.skip))))))
 (.kept [1, 2, 5, 11, 28, 29, 30, 35, 36, 37] (.ops [m 60 5,
 (o 61 (.fa 0 (t 11))),
 (o 62 (.load none (t 61))),
 (o 63 (.bsl 1 (.string ⟨⟨[]⟩⟩) 1 [(0, (t 62))])),
 (o 64 (.app 1 16 (.string ⟨⟨[]⟩⟩) (t 60) (t 63))),
 m 5 64])))))
 (.kept [1, 2, 5, 28, 29, 30, 35, 36, 37] (.ops [o 65 (.bin .add (t 37) (k 1)),
 m 37 65]))))
def c_impl_State_room_l3 : AS :=
 .seq (.ops [o 31 (.bin .lss (t 30) (t 29))])
 (.seq (.cond (t 31) (.skip) (.exit 2))
 (.seq (.block 3 (.seq (.post [(32, 1, [(3, 1), (4, 3)])] (.ops [o 32 (.ia 5 (t 28) (t 30)),
 (o 33 (.load (some 5) (t 32))),
 (o 9 (.alloc (.agg #[.int .i64 0, .int .i64 0, .int .i64 0, .slice none 0 0, .slice none 0 0]))),
 (u (.store 5 (t 9) (t 33)))]))
 (.seq (.ops [o 34 (.fa 4 (t 9)),
 (o 35 (.load none (t 34))),
 (o 36 (.lens (t 35))),
 (o 37 (.mv (k 0)))])
 (.block 4 (.loop 2 [(1, 0), (2, 0), (5, 1), (28, 0), (29, 0), (30, 0), (35, 0), (36, 0), (37, 0)] c_impl_State_room_l2)))))
 (.kept [1, 2, 5, 28, 29, 30] (.ops [o 66 (.bin .add (t 30) (k 1)),
 m 30 66]))))
def c_impl_State_room : AS :=
 .seq (.ops [o 2 (.box (t 0)),
 (o 4 (.mv ff))])
 (.seq (.ops [o 14 (.bsl 1 (.string ⟨⟨[]⟩⟩) 0 []),
 m 5 14])
 (.seq (.seq (.ops [o 15 (.fa 1 (t 2)),
 (o 16 (.load none (t 15))),
 (o 17 (.lens (t 16))),
 (o 18 (.mv (k 0)))])
 (.block 0 (.loop 2 [(1, 0), (2, 0), (5, 1), (16, 0), (17, 0), (18, 0)] c_impl_State_room_l1)))
 (.kept [1, 2, 5] (.seq (.seq (.ops [m 28 1,
 (o 29 (.lens (t 28))),
 (o 30 (.mv (k 0)))])
 (.block 2 (.loop 2 [(1, 0), (2, 0), (5, 1), (28, 0), (29, 0), (30, 0)] c_impl_State_room_l3)))
 (.kept [1, 5] (.seq (.ops [m 67 5,
 (o 68 (.call 226 [(t 67)]))])
 (.seq (.ops [m 69 1,
 (o 70 (.lens (t 69))),
 (o 71 (.bin .leq (t 70) (k 12))),
 m 72 71,
 mg 73 72 true 5,
 (g 74 72 true (.call 227 [(t 73)])),
 (g 75 72 true (.lens (t 74))),
 (g 76 72 true (.bin .leq (t 75) (k 24))),
 (o 77 (.pick (t 72) (t 76) ff)),
 m 4 77])
 (.ret))))))))
theorem h_impl_State_room : hF Tryz.prog n_impl_State_room = some c_impl_State_room.strip := by kernel_rfl
theorem r_impl_State_room : rF Tryz.prog n_impl_State_room = some ([.tmp 4], 78) := by kernel_rfl
abbrev n_slices_BinarySearchFunc___impl_Held_impl_Held_int_ : Nat := 190
def c_slices_BinarySearchFunc___impl_Held_impl_Held_int__l1 : AS :=
 .seq (.seq (.ops [m 15 9,
 m 16 10,
 (o 17 (.bin .lss (t 15) (t 16)))])
 (.cond (t 17) (.skip) (.exit 0)))
 (.block 1 (.seq (.ops [m 18 9,
 m 19 10,
 (o 20 (.bin .add (t 18) (t 19))),
 (o 21 (.cvi .u64 (t 20))),
 (o 22 (.bin .shr (t 21) (.const (.int .u64 1)))),
 (o 23 (.cvi .i64 (t 22))),
 m 11 23])
 (.kept [0, 1, 2, 8, 9, 10, 11] (.seq (.post [(27, 1, [(3, 1), (4, 3)])] (.ops [m 24 2,
 m 25 0,
 m 26 11,
 (o 27 (.ia 5 (t 25) (t 26))),
 (o 28 (.load (some 5) (t 27))),
 m 29 1,
 (o 30 (.callv (t 24) [(t 28), (t 29)])),
 (o 31 (.bin .lss (t 30) (k 0)))]))
 (.kept [0, 1, 2, 8, 9, 10, 11, 31] (.cond (t 31) (.ops [m 32 11,
 (o 33 (.bin .add (t 32) (k 1))),
 m 9 33]) (.ops [m 34 11,
 m 10 34])))))))
def c_slices_BinarySearchFunc___impl_Held_impl_Held_int_ : AS :=
 .seq (.ops [o 6 (.mv (k 0)),
 (o 7 (.mv ff))])
 (.seq (.ops [m 12 0,
 (o 13 (.lens (t 12))),
 m 8 13])
 (.seq (.ops [m 14 8,
 (o 9 (.mv (k 0))),
 m 10 14])
 (.seq (.block 0 (.loop 3 [(0, 0), (1, 0), (2, 0), (8, 0), (9, 0), (10, 0)] c_slices_BinarySearchFunc___impl_Held_impl_Held_int__l1))
 (.kept [0, 1, 2, 8, 9] (.seq (.post [(43, 1, [(3, 1), (4, 3)])] (.ops [m 35 9,
 m 36 9,
 m 37 8,
 (o 38 (.bin .lss (t 36) (t 37))),
 m 39 38,
 mg 40 39 true 2,
 mg 41 39 true 0,
 mg 42 39 true 9,
 (g 43 39 true (.ia 5 (t 41) (t 42))),
 (g 44 39 true (.load (some 5) (t 43))),
 mg 45 39 true 1,
 (g 46 39 true (.callv (t 40) [(t 44), (t 45)])),
 (g 47 39 true (.bin .eql (t 46) (k 0))),
 (o 48 (.pick (t 39) (t 47) ff)),
 m 6 35,
 m 7 48]))
 (.ret))))))
theorem h_slices_BinarySearchFunc___impl_Held_impl_Held_int_ : hF Tryz.prog n_slices_BinarySearchFunc___impl_Held_impl_Held_int_ = some c_slices_BinarySearchFunc___impl_Held_impl_Held_int_.strip := by kernel_rfl
theorem r_slices_BinarySearchFunc___impl_Held_impl_Held_int_ : rF Tryz.prog n_slices_BinarySearchFunc___impl_Held_impl_Held_int_ = some ([.tmp 6, .tmp 7], 49) := by kernel_rfl
abbrev n_impl_State_findHeld_1 : Nat := 191
def c_impl_State_findHeld_1 : AS :=
 .seq (.ops [o 2 (.box (t 0)),
 (o 4 (.mv (k 0)))])
 (.seq (.ops [o 5 (.fa 0 (t 2)),
 (o 6 (.load none (t 5))),
 m 7 1,
 (o 8 (.call 192 [(t 6), (t 7)])),
 m 4 8])
 (.ret))
theorem h_impl_State_findHeld_1 : hF Tryz.prog n_impl_State_findHeld_1 = some c_impl_State_findHeld_1.strip := by kernel_rfl
theorem r_impl_State_findHeld_1 : rF Tryz.prog n_impl_State_findHeld_1 = some ([.tmp 4], 9) := by kernel_rfl
abbrev n_cmp_Compare_int_ : Nat := 192
def c_cmp_Compare_int_ : AS :=
 .seq (.ops [o 4 (.mv (k 0))])
 (.seq (.ops [m 7 0,
 (o 8 (.call 228 [(t 7)])),
 m 5 8])
 (.seq (.ops [m 9 1,
 (o 10 (.call 228 [(t 9)])),
 m 6 10])
 (.seq (.seq (.ops [m 11 5])
 (.cond (t 11) (.seq (.seq (.ops [m 12 6])
 (.cond (t 12) (.seq (.ops [o 4 (.mv (k 0))])
 (.ret)) (.skip)))
 (.seq (.ops [o 4 (.mv (k (-1)))])
 (.ret))) (.skip)))
 (.seq (.seq (.ops [m 13 6])
 (.cond (t 13) (.seq (.ops [o 4 (.mv (k 1))])
 (.ret)) (.skip)))
 (.seq (.seq (.ops [m 14 0,
 m 15 1,
 (o 16 (.bin .lss (t 14) (t 15)))])
 (.cond (t 16) (.seq (.ops [o 4 (.mv (k (-1)))])
 (.ret)) (.skip)))
 (.seq (.seq (.ops [m 17 0,
 m 18 1,
 (o 19 (.bin .gtr (t 17) (t 18)))])
 (.cond (t 19) (.seq (.ops [o 4 (.mv (k 1))])
 (.ret)) (.skip)))
 (.seq (.ops [o 4 (.mv (k 0))])
 (.ret))))))))
theorem h_cmp_Compare_int_ : hF Tryz.prog n_cmp_Compare_int_ = some c_cmp_Compare_int_.strip := by kernel_rfl
theorem r_cmp_Compare_int_ : rF Tryz.prog n_cmp_Compare_int_ = some ([.tmp 4], 20) := by kernel_rfl
abbrev n_impl_copyCells : Nat := 193
def c_impl_copyCells_l1 : AS :=
 .seq (.ops [o 10 (.bin .lss (t 9) (t 8))])
 (.seq (.cond (t 10) (.skip) (.exit 0))
 (.seq (.block 1 (.seq (.ops [m 11 9,
 m 4 11])
 (.post [(20, 1, [(1, 3)]), (16, 1, [(1, 3)])] (.ops [m 12 3,
 m 13 4,
 m 14 3,
 m 15 4,
 (o 16 (.ia 2 (t 14) (t 15))),
 (o 17 (.fa 1 (t 16))),
 (o 18 (.load none (t 17))),
 (o 19 (.call 230 [(t 18)])),
 (o 20 (.ia 2 (t 12) (t 13))),
 (o 21 (.fa 1 (t 20))),
 (u (.store 1 (t 21) (t 19)))]))))
 (.kept [3, 8, 9] (.ops [o 22 (.bin .add (t 9) (k 1)),
 m 9 22]))))
def c_impl_copyCells : AS :=
 .seq (.ops [o 2 (.mv (.const (.slice none 0 0)))])
 (.seq (.ops [m 5 0,
 (o 6 (.call 229 [(t 5)])),
 m 3 6])
 (.seq (.seq (.ops [m 7 3,
 (o 8 (.lens (t 7))),
 (o 9 (.mv (k 0)))])
 (.block 0 (.loop 1 [(3, 2), (8, 0), (9, 0)] c_impl_copyCells_l1)))
 (.kept [3] (.seq (.ops [m 23 3,
 m 2 23])
 (.ret)))))
theorem h_impl_copyCells : hF Tryz.prog n_impl_copyCells = some c_impl_copyCells.strip := by kernel_rfl
theorem r_impl_copyCells : rF Tryz.prog n_impl_copyCells = some ([.tmp 2], 24) := by kernel_rfl
abbrev n_slices_Clone___impl_Told_impl_Told_ : Nat := 194
def c_slices_Clone___impl_Told_impl_Told_ : AS :=
 .seq (.ops [o 2 (.mv (.const (.slice none 0 0)))])
 (.seq (.seq (.ops [m 3 0,
 (o 4 (.isn false (t 3)))])
 (.cond (t 4) (.seq (.ops [o 2 (.mv (.const (.slice none 0 0)))])
 (.ret)) (.skip)))
 (.seq (.ops [o 5 (.bsl 3 (.agg #[.int .i64 0, .bool false, .int .i64 0]) 0 []),
 m 6 0,
 (o 7 (.app 3 24 (.agg #[.int .i64 0, .bool false, .int .i64 0]) (t 5) (t 6))),
 m 2 7])
 (.ret)))
theorem h_slices_Clone___impl_Told_impl_Told_ : hF Tryz.prog n_slices_Clone___impl_Told_impl_Told_ = some c_slices_Clone___impl_Told_impl_Told_.strip := by kernel_rfl
theorem r_slices_Clone___impl_Told_impl_Told_ : rF Tryz.prog n_slices_Clone___impl_Told_impl_Told_ = some ([.tmp 2], 8) := by kernel_rfl
abbrev n_impl_copyHeld : Nat := 195
def c_impl_copyHeld : AS :=
 .seq (.ops [o 1 (.box (t 0)),
 (o 2 (.alloc (.agg #[.int .i64 0, .int .i64 0, .int .i64 0, .slice none 0 0, .slice none 0 0])))])
 (.seq (.ops [o 3 (.load (some 5) (t 1)),
 (o 4 (.call 184 [(t 3)])),
 (o 5 (.call 151 [(t 4)])),
 (u (.store 5 (t 2) (t 5)))])
 (.ret))
theorem h_impl_copyHeld : hF Tryz.prog n_impl_copyHeld = some c_impl_copyHeld.strip := by kernel_rfl
theorem r_impl_copyHeld : rF Tryz.prog n_impl_copyHeld = some ([.cell 2 127], 6) := by kernel_rfl
abbrev n_slices_BinarySearchFunc___impl_Told_impl_Told_int_ : Nat := 196
def c_slices_BinarySearchFunc___impl_Told_impl_Told_int__l1 : AS :=
 .seq (.seq (.ops [m 15 9,
 m 16 10,
 (o 17 (.bin .lss (t 15) (t 16)))])
 (.cond (t 17) (.skip) (.exit 0)))
 (.block 1 (.seq (.ops [m 18 9,
 m 19 10,
 (o 20 (.bin .add (t 18) (t 19))),
 (o 21 (.cvi .u64 (t 20))),
 (o 22 (.bin .shr (t 21) (.const (.int .u64 1)))),
 (o 23 (.cvi .i64 (t 22))),
 m 11 23])
 (.kept [0, 1, 2, 8, 9, 10, 11] (.seq (.ops [m 24 2,
 m 25 0,
 m 26 11,
 (o 27 (.ia 3 (t 25) (t 26))),
 (o 28 (.load (some 3) (t 27))),
 m 29 1,
 (o 30 (.callv (t 24) [(t 28), (t 29)])),
 (o 31 (.bin .lss (t 30) (k 0)))])
 (.kept [0, 1, 2, 8, 9, 10, 11, 31] (.cond (t 31) (.ops [m 32 11,
 (o 33 (.bin .add (t 32) (k 1))),
 m 9 33]) (.ops [m 34 11,
 m 10 34])))))))
def c_slices_BinarySearchFunc___impl_Told_impl_Told_int_ : AS :=
 .seq (.ops [o 6 (.mv (k 0)),
 (o 7 (.mv ff))])
 (.seq (.ops [m 12 0,
 (o 13 (.lens (t 12))),
 m 8 13])
 (.seq (.ops [m 14 8,
 (o 9 (.mv (k 0))),
 m 10 14])
 (.seq (.block 0 (.loop 3 [(0, 0), (1, 0), (2, 0), (8, 0), (9, 0), (10, 0)] c_slices_BinarySearchFunc___impl_Told_impl_Told_int__l1))
 (.kept [0, 1, 2, 8, 9] (.seq (.ops [m 35 9,
 m 36 9,
 m 37 8,
 (o 38 (.bin .lss (t 36) (t 37))),
 m 39 38,
 mg 40 39 true 2,
 mg 41 39 true 0,
 mg 42 39 true 9,
 (g 43 39 true (.ia 3 (t 41) (t 42))),
 (g 44 39 true (.load (some 3) (t 43))),
 mg 45 39 true 1,
 (g 46 39 true (.callv (t 40) [(t 44), (t 45)])),
 (g 47 39 true (.bin .eql (t 46) (k 0))),
 (o 48 (.pick (t 39) (t 47) ff)),
 m 6 35,
 m 7 48])
 (.ret))))))
theorem h_slices_BinarySearchFunc___impl_Told_impl_Told_int_ : hF Tryz.prog n_slices_BinarySearchFunc___impl_Told_impl_Told_int_ = some c_slices_BinarySearchFunc___impl_Told_impl_Told_int_.strip := by kernel_rfl
theorem r_slices_BinarySearchFunc___impl_Told_impl_Told_int_ : rF Tryz.prog n_slices_BinarySearchFunc___impl_Told_impl_Told_int_ = some ([.tmp 6, .tmp 7], 49) := by kernel_rfl
abbrev n_impl_State_findTold_1 : Nat := 197
def c_impl_State_findTold_1 : AS :=
 .seq (.ops [o 2 (.box (t 0)),
 (o 4 (.mv (k 0)))])
 (.seq (.ops [o 5 (.fa 0 (t 2)),
 (o 6 (.load none (t 5))),
 m 7 1,
 (o 8 (.call 192 [(t 6), (t 7)])),
 m 4 8])
 (.ret))
theorem h_impl_State_findTold_1 : hF Tryz.prog n_impl_State_findTold_1 = some c_impl_State_findTold_1.strip := by kernel_rfl
theorem r_impl_State_findTold_1 : rF Tryz.prog n_impl_State_findTold_1 = some ([.tmp 4], 9) := by kernel_rfl
abbrev n_impl_putCells : Nat := 198
def c_impl_putCells_l1 : AS :=
 .seq (.ops [o 18 (.bin .lss (t 17) (t 16))])
 (.seq (.cond (t 18) (.skip) (.exit 0))
 (.seq (.block 1 (.seq (.ops [o 19 (.ia 3 (t 15) (t 17)),
 (o 20 (.load (some 3) (t 19))),
 (o 10 (.alloc (.agg #[.string ⟨⟨[]⟩⟩, .string ⟨⟨[]⟩⟩, .bool false]))),
 (u (.store 3 (t 10) (t 20)))])
 (.seq (.seq (.ops [m 21 2,
 m 22 8,
 (o 23 (.fa 0 (t 10))),
 (o 24 (.load none (t 23))),
 (o 25 (.call 144 [(t 22), (t 24)])),
 (o 26 (.bin .leq (t 21) (t 25)))])
 (.cond (t 26) (.seq (.ops [o 6 (.mv (.const (.slice none 0 0))),
 (o 7 (.mv ff))])
 (.ret)) (.skip)))
 (.kept [2, 8, 10, 15, 16, 17] (.seq (.ops [m 28 8,
 (o 29 (.fa 0 (t 10))),
 (o 30 (.load none (t 29))),
 (o 31 (.call 104 [(t 28), (t 30)])),
 m 27 31,
 (o 32 (.ext 0 (t 27))),
 (o 33 (.ext 1 (t 27))),
 m 11 32,
 m 12 33])
 (.kept [2, 8, 10, 11, 12, 15, 16, 17] (.seq (.seq (.ops [m 34 12,
 (o 35 (.not (t 34)))])
 (.cond (t 35) (.post [(41, 1, [(1, 3)])] (.ops [m 36 8,
 m 37 11,
 (o 38 (.fa 0 (t 10))),
 (o 39 (.load none (t 38))),
 (o 40 (.build (.agg #[.string ⟨⟨[]⟩⟩, .slice none 0 0]) [(0, 1, (t 39))])),
 (o 41 (.bsl 2 (.agg #[.string ⟨⟨[]⟩⟩, .slice none 0 0]) 1 [(0, (t 40))])),
 (o 42 (.call 231 [(t 36), (t 37), (t 41)])),
 m 8 42])) (.skip)))
 (.kept [2, 8, 10, 11, 15, 16, 17] (.pre [m 45 8, m 46 11, o 47 (.ia 2 (t 45) (t 46)), o 48 (.fa 1 (t 47))] 48 49 (.post [(47, 1, [(1, 3)])] (.rops [(none, m 43 8),
 (none, m 44 11),
 (none, m 45 8),
 (none, m 46 11),
 (none, o 47 (.ia 2 (t 45) (t 46))),
 (none, o 48 (.fa 1 (t 47))),
 (none, o 49 (.load none (t 48))),
 (none, m 50 2),
 (none, o 51 (.fa 1 (t 10))),
 (none, o 52 (.load none (t 51))),
 (none, o 53 (.fa 2 (t 10))),
 (none, o 54 (.load none (t 53))),
 (none, o 55 (.build (.agg #[.int .i64 0, .string ⟨⟨[]⟩⟩, .bool false]) [(0, 1, (t 50)), (1, 1, (t 52)), (2, 1, (t 54))])),
 (some [o 49 (.load none (t 48)), o 48 (.fa 1 (t 47)), o 47 (.ia 2 (t 45) (t 46)), m 46 11, m 45 8, m 44 11, m 43 8], o 56 (.bsl 3 (.agg #[.int .i64 0, .string ⟨⟨[]⟩⟩, .bool false]) 1 [(0, (t 55))])),
 (some [m 44 11, m 43 8], o 57 (.app 3 32 (.agg #[.int .i64 0, .string ⟨⟨[]⟩⟩, .bool false]) (t 49) (t 56))),
 (none, o 58 (.ia 2 (t 43) (t 44))),
 (none, o 59 (.fa 1 (t 58))),
 (some [], u (.store 1 (t 59) (t 57)))])))))))))))
 (.kept [2, 8, 15, 16, 17, 58] (.ops [o 60 (.bin .add (t 17) (k 1)),
 m 17 60]))))
def c_impl_putCells : AS :=
 .seq (.ops [o 6 (.mv (.const (.slice none 0 0))),
 (o 7 (.mv ff))])
 (.seq (.ops [m 13 0,
 (o 14 (.call 193 [(t 13)])),
 m 8 14])
 (.seq (.seq (.ops [m 15 1,
 (o 16 (.lens (t 15))),
 (o 17 (.mv (k 0)))])
 (.block 0 (.loop 3 [(2, 0), (8, 2), (15, 0), (16, 0), (17, 0)] c_impl_putCells_l1)))
 (.kept [8] (.seq (.seq (.ops [m 61 8,
 (o 62 (.call 142 [(t 61)])),
 (o 63 (.not (t 62)))])
 (.cond (t 63) (.seq (.ops [o 6 (.mv (.const (.slice none 0 0))),
 (o 7 (.mv ff))])
 (.ret)) (.skip)))
 (.seq (.ops [m 64 8,
 m 6 64,
 (o 7 (.mv tt))])
 (.ret))))))
theorem h_impl_putCells : hF Tryz.prog n_impl_putCells = some c_impl_putCells.strip := by kernel_rfl
theorem r_impl_putCells : rF Tryz.prog n_impl_putCells = some ([.tmp 6, .tmp 7], 65) := by kernel_rfl
abbrev n_slices_Delete___impl_Held_impl_Held_ : Nat := 199
def c_slices_Delete___impl_Held_impl_Held_ : AS :=
 .seq (.ops [o 6 (.mv (.const (.slice none 0 0)))])
 (.seq (.ops [m 8 0,
 m 9 1,
 m 10 2,
 m 11 0,
 (o 12 (.lens (t 11))),
 (o 13 (.sls 5 (t 8) (some (t 9)) (some (t 10)) (some (t 12))))])
 (.kept [0, 1, 2] (.seq (.seq (.ops [m 14 1,
 m 15 2,
 (o 16 (.bin .eql (t 14) (t 15)))])
 (.cond (t 16) (.seq (.post [(6, 0, [])] (.ops [m 17 0,
 m 6 17]))
 (.ret)) (.skip)))
 (.seq (.ops [m 18 0,
 (o 19 (.lens (t 18))),
 m 7 19])
 (.seq (.rops [(none, m 20 0),
 (none, m 21 1),
 (none, o 22 (.sls 5 (t 20) none (some (t 21)) none)),
 (none, m 23 0),
 (none, m 24 2),
 (none, o 25 (.sls 5 (t 23) (some (t 24)) none none)),
 (some [], o 26 (.app 5 72 (.agg #[.int .i64 0, .int .i64 0, .int .i64 0, .slice none 0 0, .slice none 0 0]) (t 22) (t 25))),
 (none, m 0 26)])
 (.kept [0, 7] (.seq (.ops [m 27 0,
 m 28 0,
 (o 29 (.lens (t 28))),
 m 30 7,
 (o 31 (.sls 5 (t 27) (some (t 29)) (some (t 30)) none)),
 (u (.clr 5 (.agg #[.int .i64 0, .int .i64 0, .int .i64 0, .slice none 0 0, .slice none 0 0]) (t 31)))])
 (.seq (.post [(6, 0, [])] (.ops [m 32 0,
 m 6 32]))
 (.ret)))))))))
theorem h_slices_Delete___impl_Held_impl_Held_ : hF Tryz.prog n_slices_Delete___impl_Held_impl_Held_ = some c_slices_Delete___impl_Held_impl_Held_.strip := by kernel_rfl
theorem r_slices_Delete___impl_Held_impl_Held_ : rF Tryz.prog n_slices_Delete___impl_Held_impl_Held_ = some ([.tmp 6], 33) := by kernel_rfl
abbrev n_slices_Insert___impl_Told_impl_Told_ : Nat := 200
def c_slices_Insert___impl_Told_impl_Told_ : AS :=
 .seq (.ops [o 6 (.mv (.const (.slice none 0 0)))])
 (.seq (.ops [m 10 0,
 m 11 1,
 (o 12 (.sls 3 (t 10) (some (t 11)) none none))])
 (.seq (.ops [m 13 2,
 (o 14 (.lens (t 13))),
 m 7 14])
 (.seq (.seq (.ops [m 15 7,
 (o 16 (.bin .eql (t 15) (k 0)))])
 (.cond (t 16) (.seq (.post [(6, 0, [])] (.ops [m 17 0,
 m 6 17]))
 (.ret)) (.skip)))
 (.seq (.ops [m 18 0,
 (o 19 (.lens (t 18))),
 m 8 19])
 (.seq (.seq (.ops [m 20 1,
 m 21 8,
 (o 22 (.bin .eql (t 20) (t 21)))])
 (.cond (t 22) (.seq (.post [(6, 0, [])] (.ops [m 23 0,
 m 24 2,
 (o 25 (.app 3 24 (.agg #[.int .i64 0, .bool false, .int .i64 0]) (t 23) (t 24))),
 m 6 25]))
 (.ret)) (.skip)))
 (.kept [0, 1, 2, 7, 8] (.seq (.seq (.ops [m 26 8,
 m 27 7,
 (o 28 (.bin .add (t 26) (t 27))),
 m 29 0,
 (o 30 (.capo (t 29))),
 (o 31 (.bin .gtr (t 28) (t 30)))])
 (.cond (t 31) (.seq (.ops [m 32 0,
 m 33 1,
 (o 34 (.sls 3 (t 32) none (some (t 33)) none)),
 m 35 8,
 m 36 7,
 (o 37 (.bin .add (t 35) (t 36))),
 m 38 1,
 (o 39 (.bin .sub (t 37) (t 38))),
 (o 40 (.apz 3 24 (.agg #[.int .i64 0, .bool false, .int .i64 0]) (t 34) (t 39))),
 m 9 40])
 (.kept [0, 1, 2, 7, 9] (.seq (.ops [m 41 9,
 m 42 1,
 (o 43 (.sls 3 (t 41) (some (t 42)) none none)),
 m 44 2,
 (o 45 (.cpy 3 (t 43) (t 44)))])
 (.seq (.rops [(none, m 46 9),
 (none, m 47 1),
 (none, m 48 7),
 (none, o 49 (.bin .add (t 47) (t 48))),
 (none, o 50 (.sls 3 (t 46) (some (t 49)) none none)),
 (none, m 51 0),
 (none, m 52 1),
 (none, o 53 (.sls 3 (t 51) (some (t 52)) none none)),
 (some [], o 54 (.cpy 3 (t 50) (t 53)))])
 (.kept [9] (.seq (.post [(6, 0, [])] (.ops [m 55 9,
 m 6 55]))
 (.ret))))))) (.skip)))
 (.kept [0, 1, 2, 7, 8] (.seq (.ops [m 56 0,
 m 57 8,
 m 58 7,
 (o 59 (.bin .add (t 57) (t 58))),
 (o 60 (.sls 3 (t 56) none (some (t 59)) none)),
 m 0 60])
 (.seq (.seq (.ops [m 61 2,
 m 62 0,
 m 63 1,
 m 64 7,
 (o 65 (.bin .add (t 63) (t 64))),
 (o 66 (.sls 3 (t 62) (some (t 65)) none none)),
 (o 67 (.xcall 232 [(t 61), (t 66)])),
 (o 68 (.not (t 67)))])
 (.kept [0, 1, 2, 7, 8, 68] (.cond (t 68) (.seq (.rops [(none, m 69 0),
 (none, m 70 1),
 (none, m 71 7),
 (none, o 72 (.bin .add (t 70) (t 71))),
 (none, o 73 (.sls 3 (t 69) (some (t 72)) none none)),
 (none, m 74 0),
 (none, m 75 1),
 (none, o 76 (.sls 3 (t 74) (some (t 75)) none none)),
 (some [], o 77 (.cpy 3 (t 73) (t 76)))])
 (.kept [0, 1, 2] (.seq (.ops [m 78 0,
 m 79 1,
 (o 80 (.sls 3 (t 78) (some (t 79)) none none)),
 m 81 2,
 (o 82 (.cpy 3 (t 80) (t 81)))])
 (.seq (.post [(6, 0, [])] (.ops [m 83 0,
 m 6 83]))
 (.ret))))) (.skip))))
 (.kept [0, 1, 2, 7, 8] (.seq (.ops [m 84 0,
 m 85 8,
 (o 86 (.sls 3 (t 84) (some (t 85)) none none)),
 m 87 2,
 (o 88 (.cpy 3 (t 86) (t 87)))])
 (.seq (.ops [m 89 0,
 m 90 1,
 (o 91 (.sls 3 (t 89) (some (t 90)) none none)),
 m 92 7,
 (o 93 (.call 233 [(t 91), (t 92)]))])
 (.seq (.post [(6, 0, [])] (.ops [m 94 0,
 m 6 94]))
 (.ret)))))))))))))))
theorem h_slices_Insert___impl_Told_impl_Told_ : hF Tryz.prog n_slices_Insert___impl_Told_impl_Told_ = some c_slices_Insert___impl_Told_impl_Told_.strip := by kernel_rfl
theorem r_slices_Insert___impl_Told_impl_Told_ : rF Tryz.prog n_slices_Insert___impl_Told_impl_Told_ = some ([.tmp 6], 95) := by kernel_rfl
abbrev n_impl_State_fits_1 : Nat := 201
def c_impl_State_fits_1 : AS :=
 .seq (.ops [o 2 (.box (t 0)),
 (o 3 (.mv ff))])
 (.seq (.ops [o 4 (.load (some 5) (t 1)),
 (o 5 (.load (some 5) (t 2))),
 (o 6 (.call 187 [(t 4), (t 5)])),
 m 3 6])
 (.ret))
theorem h_impl_State_fits_1 : hF Tryz.prog n_impl_State_fits_1 = some c_impl_State_fits_1.strip := by kernel_rfl
theorem r_impl_State_fits_1 : rF Tryz.prog n_impl_State_fits_1 = some ([.tmp 3], 7) := by kernel_rfl
abbrev n_slices_Clone___impl_Held_impl_Held_ : Nat := 202
def c_slices_Clone___impl_Held_impl_Held_ : AS :=
 .seq (.ops [o 2 (.mv (.const (.slice none 0 0)))])
 (.seq (.seq (.ops [m 3 0,
 (o 4 (.isn false (t 3)))])
 (.cond (t 4) (.seq (.ops [o 2 (.mv (.const (.slice none 0 0)))])
 (.ret)) (.skip)))
 (.seq (.ops [o 5 (.bsl 5 (.agg #[.int .i64 0, .int .i64 0, .int .i64 0, .slice none 0 0, .slice none 0 0]) 0 []),
 m 6 0,
 (o 7 (.app 5 72 (.agg #[.int .i64 0, .int .i64 0, .int .i64 0, .slice none 0 0, .slice none 0 0]) (t 5) (t 6))),
 m 2 7])
 (.ret)))
theorem h_slices_Clone___impl_Held_impl_Held_ : hF Tryz.prog n_slices_Clone___impl_Held_impl_Held_ = some c_slices_Clone___impl_Held_impl_Held_.strip := by kernel_rfl
theorem r_slices_Clone___impl_Held_impl_Held_ : rF Tryz.prog n_slices_Clone___impl_Held_impl_Held_ = some ([.tmp 2], 8) := by kernel_rfl
abbrev n_slices_overlaps_impl_Held_ : Nat := 203
theorem d_slices_overlaps_impl_Held_ : Tryz.prog.funcs[n_slices_overlaps_impl_Held_]? = some Tryz.f203 := by kernel_rfl
theorem x_slices_overlaps_impl_Held_ (vs : Array Value) (w : Go.World) : (callFunc n_slices_overlaps_impl_Held_ vs).run Tryz.prog w = ((Extern.SlicesOverlaps.overlaps #[40, 40] #[4] vs).run Tryz.prog w).andThen fun v w' => .ok (.value v) w' := run_callFunc_extern (e := Extern.SlicesOverlaps.overlaps #[40, 40] #[4]) d_slices_overlaps_impl_Held_ (by kernel_rfl) (by kernel_rfl) (by kernel_rfl) (by kernel_rfl) vs w
theorem u_slices_overlaps_impl_Held_ : Tryz.prog.underlying 40 = some (.slice 127) := by kernel_rfl
theorem wd_slices_overlaps_impl_Held_ : width Tryz.prog 127 = some 5 := by kernel_rfl
abbrev n_slices_Clone___string_string_ : Nat := 205
def c_slices_Clone___string_string_ : AS :=
 .seq (.ops [o 2 (.mv (.const (.slice none 0 0)))])
 (.seq (.seq (.ops [m 3 0,
 (o 4 (.isn false (t 3)))])
 (.cond (t 4) (.seq (.ops [o 2 (.mv (.const (.slice none 0 0)))])
 (.ret)) (.skip)))
 (.seq (.ops [o 5 (.bsl 1 (.string ⟨⟨[]⟩⟩) 0 []),
 m 6 0,
 (o 7 (.app 1 16 (.string ⟨⟨[]⟩⟩) (t 5) (t 6))),
 m 2 7])
 (.ret)))
theorem h_slices_Clone___string_string_ : hF Tryz.prog n_slices_Clone___string_string_ = some c_slices_Clone___string_string_.strip := by kernel_rfl
theorem r_slices_Clone___string_string_ : rF Tryz.prog n_slices_Clone___string_string_ = some ([.tmp 2], 8) := by kernel_rfl
abbrev n_slices_Clone___impl_Write_impl_Write_ : Nat := 206
def c_slices_Clone___impl_Write_impl_Write_ : AS :=
 .seq (.ops [o 2 (.mv (.const (.slice none 0 0)))])
 (.seq (.seq (.ops [m 3 0,
 (o 4 (.isn false (t 3)))])
 (.cond (t 4) (.seq (.ops [o 2 (.mv (.const (.slice none 0 0)))])
 (.ret)) (.skip)))
 (.seq (.ops [o 5 (.bsl 3 (.agg #[.string ⟨⟨[]⟩⟩, .string ⟨⟨[]⟩⟩, .bool false]) 0 []),
 m 6 0,
 (o 7 (.app 3 40 (.agg #[.string ⟨⟨[]⟩⟩, .string ⟨⟨[]⟩⟩, .bool false]) (t 5) (t 6))),
 m 2 7])
 (.ret)))
theorem h_slices_Clone___impl_Write_impl_Write_ : hF Tryz.prog n_slices_Clone___impl_Write_impl_Write_ = some c_slices_Clone___impl_Write_impl_Write_.strip := by kernel_rfl
theorem r_slices_Clone___impl_Write_impl_Write_ : rF Tryz.prog n_slices_Clone___impl_Write_impl_Write_ = some ([.tmp 2], 8) := by kernel_rfl
abbrev n_spec_GoodRec : Nat := 207
def c_spec_GoodRec : AS :=
 .seq (.ops [o 1 (.box (t 0)),
 (o 2 (.mv ff))])
 (.seq (.ops [o 3 (.load (some 7) (t 1)),
 (o 4 (.call 52 [(t 3)])),
 m 2 4])
 (.ret))
theorem h_spec_GoodRec : hF Tryz.prog n_spec_GoodRec = some c_spec_GoodRec.strip := by kernel_rfl
theorem r_spec_GoodRec : rF Tryz.prog n_spec_GoodRec = some ([.tmp 2], 5) := by kernel_rfl
abbrev n_slices_IndexFunc___impl_Replica_impl_Replica_ : Nat := 208
def c_slices_IndexFunc___impl_Replica_impl_Replica__l1 : AS :=
 .seq (.ops [o 9 (.bin .lss (t 8) (t 7))])
 (.seq (.cond (t 9) (.skip) (.exit 0))
 (.seq (.block 1 (.seq (.ops [m 10 8,
 m 5 10])
 (.seq (.post [(14, 1, [(1, 8)])] (.ops [m 11 1,
 m 12 0,
 m 13 5,
 (o 14 (.ia 3 (t 12) (t 13))),
 (o 15 (.load (some 3) (t 14))),
 (o 16 (.callv (t 11) [(t 15)]))]))
 (.cond (t 16) (.seq (.ops [m 17 5,
 m 4 17])
 (.ret)) (.skip)))))
 (.kept [0, 1, 7, 8] (.ops [o 18 (.bin .add (t 8) (k 1)),
 m 8 18]))))
def c_slices_IndexFunc___impl_Replica_impl_Replica_ : AS :=
 .seq (.ops [o 4 (.mv (k 0))])
 (.seq (.seq (.ops [m 6 0,
 (o 7 (.lens (t 6))),
 (o 8 (.mv (k 0)))])
 (.block 0 (.loop 2 [(0, 0), (1, 0), (7, 0), (8, 0)] c_slices_IndexFunc___impl_Replica_impl_Replica__l1)))
 (.kept [] (.seq (.ops [o 4 (.mv (k (-1)))])
 (.ret))))
theorem h_slices_IndexFunc___impl_Replica_impl_Replica_ : hF Tryz.prog n_slices_IndexFunc___impl_Replica_impl_Replica_ = some c_slices_IndexFunc___impl_Replica_impl_Replica_.strip := by kernel_rfl
theorem r_slices_IndexFunc___impl_Replica_impl_Replica_ : rF Tryz.prog n_slices_IndexFunc___impl_Replica_impl_Replica_ = some ([.tmp 4], 19) := by kernel_rfl
abbrev n_laws_szEntry : Nat := 209
def c_laws_szEntry : AS :=
 .seq (.ops [o 2 (.box (t 0)),
 (o 4 (.mv (k 0)))])
 (.seq (.ops [o 5 (.fa 1 (t 2)),
 (o 6 (.load (some 7) (t 5))),
 m 7 1,
 (o 8 (.call 28 [(t 6), (t 7)])),
 m 1 8])
 (.seq (.seq (.ops [m 9 1,
 (o 10 (.bin .lss (t 9) (k 0)))])
 (.cond (t 10) (.seq (.ops [o 4 (.mv (k (-1)))])
 (.ret)) (.skip)))
 (.seq (.ops [m 11 1,
 m 4 11])
 (.ret))))
theorem h_laws_szEntry : hF Tryz.prog n_laws_szEntry = some c_laws_szEntry.strip := by kernel_rfl
theorem r_laws_szEntry : rF Tryz.prog n_laws_szEntry = some ([.tmp 4], 12) := by kernel_rfl
abbrev n_laws_toEntry : Nat := 210
def c_laws_toEntry : AS :=
 .seq (.ops [o 1 (.box (t 0)),
 (o 2 (.alloc (.agg #[.int .i64 0, .int .i64 0, .int .i64 0, .int .i64 0, .int .i64 0, .slice none 0 0, .slice none 0 0, .bool false])))])
 (.seq (.ops [o 3 (.alloc (.agg #[.int .i64 0, .int .i64 0, .int .i64 0, .int .i64 0, .int .i64 0, .slice none 0 0, .slice none 0 0, .bool false]))])
 (.seq (.ops [o 4 (.fa 0 (t 1)),
 (o 5 (.load none (t 4))),
 (o 6 (.fa 0 (t 3))),
 (u (.store 1 (t 6) (t 5)))])
 (.seq (.ops [o 7 (.fa 1 (t 1)),
 (o 8 (.load (some 7) (t 7))),
 (o 9 (.call 31 [(t 8)])),
 (o 10 (.fa 1 (t 3))),
 (u (.store 7 (t 10) (t 9)))])
 (.seq (.ops [o 11 (.load (some 8) (t 3)),
 (u (.store 8 (t 2) (t 11)))])
 (.ret)))))
theorem h_laws_toEntry : hF Tryz.prog n_laws_toEntry = some c_laws_toEntry.strip := by kernel_rfl
theorem r_laws_toEntry : rF Tryz.prog n_laws_toEntry = some ([.cell 2 201], 12) := by kernel_rfl
abbrev n_laws_eqEntry : Nat := 211
def c_laws_eqEntry : AS :=
 .seq (.ops [o 2 (.box (t 0)),
 (o 3 (.box (t 1))),
 (o 4 (.mv ff))])
 (.seq (.seq (.ops [o 5 (.fa 0 (t 2)),
 (o 6 (.load none (t 5))),
 (o 7 (.fa 0 (t 3))),
 (o 8 (.load none (t 7))),
 (o 9 (.bin .neq (t 6) (t 8)))])
 (.cond (t 9) (.seq (.ops [o 4 (.mv ff)])
 (.ret)) (.skip)))
 (.kept [2, 3] (.seq (.seq (.ops [o 10 (.fa 1 (t 2)),
 (o 11 (.load (some 7) (t 10))),
 (o 12 (.fa 1 (t 3))),
 (o 13 (.load (some 7) (t 12))),
 (o 14 (.call 33 [(t 11), (t 13)])),
 (o 15 (.not (t 14)))])
 (.cond (t 15) (.seq (.ops [o 4 (.mv ff)])
 (.ret)) (.skip)))
 (.kept [] (.seq (.ops [o 4 (.mv tt)])
 (.ret))))))
theorem h_laws_eqEntry : hF Tryz.prog n_laws_eqEntry = some c_laws_eqEntry.strip := by kernel_rfl
theorem r_laws_eqEntry : rF Tryz.prog n_laws_eqEntry = some ([.tmp 4], 16) := by kernel_rfl
abbrev n_internal_stringslite_IndexByte : Nat := 212
def c_internal_stringslite_IndexByte : AS :=
 .seq (.ops [o 4 (.mv (k 0))])
 (.seq (.ops [m 5 0,
 m 6 1,
 (o 7 (.xcall 235 [(t 5), (t 6)])),
 m 4 7])
 (.ret))
theorem h_internal_stringslite_IndexByte : hF Tryz.prog n_internal_stringslite_IndexByte = some c_internal_stringslite_IndexByte.strip := by kernel_rfl
theorem r_internal_stringslite_IndexByte : rF Tryz.prog n_internal_stringslite_IndexByte = some ([.tmp 4], 8) := by kernel_rfl
abbrev n_cmp_isNaN_string_ : Nat := 213
def c_cmp_isNaN_string_ : AS :=
 .seq (.ops [o 2 (.mv ff)])
 (.seq (.ops [m 3 0,
 m 4 0,
 (o 5 (.bin .neq (t 3) (t 4))),
 m 2 5])
 (.ret))
theorem h_cmp_isNaN_string_ : hF Tryz.prog n_cmp_isNaN_string_ = some c_cmp_isNaN_string_.strip := by kernel_rfl
theorem r_cmp_isNaN_string_ : rF Tryz.prog n_cmp_isNaN_string_ = some ([.tmp 2], 6) := by kernel_rfl
abbrev n_spec_l3Val : Nat := 215
def c_spec_l3Val : AS :=
 .seq (.ops [o 2 (.mv ff)])
 (.seq (.ops [m 3 0,
 (o 4 (.lent (t 3))),
 (o 5 (.bin .leq (t 4) (k 24))),
 m 6 5,
 mg 7 6 true 0,
 (g 8 6 true (.call 100 [(t 7), (.const (.string ⟨⟨[46, 45, 44, 95]⟩⟩))])),
 (o 9 (.pick (t 6) (t 8) ff)),
 m 2 9])
 (.ret))
theorem h_spec_l3Val : hF Tryz.prog n_spec_l3Val = some c_spec_l3Val.strip := by kernel_rfl
theorem r_spec_l3Val : rF Tryz.prog n_spec_l3Val = some ([.tmp 2], 10) := by kernel_rfl
abbrev n_slices_IndexFunc___impl_Write_impl_Write_ : Nat := 216
def c_slices_IndexFunc___impl_Write_impl_Write__l1 : AS :=
 .seq (.ops [o 9 (.bin .lss (t 8) (t 7))])
 (.seq (.cond (t 9) (.skip) (.exit 0))
 (.seq (.block 1 (.seq (.ops [m 10 8,
 m 5 10])
 (.seq (.ops [m 11 1,
 m 12 0,
 m 13 5,
 (o 14 (.ia 3 (t 12) (t 13))),
 (o 15 (.load (some 3) (t 14))),
 (o 16 (.callv (t 11) [(t 15)]))])
 (.cond (t 16) (.seq (.ops [m 17 5,
 m 4 17])
 (.ret)) (.skip)))))
 (.kept [0, 1, 7, 8] (.ops [o 18 (.bin .add (t 8) (k 1)),
 m 8 18]))))
def c_slices_IndexFunc___impl_Write_impl_Write_ : AS :=
 .seq (.ops [o 4 (.mv (k 0))])
 (.seq (.seq (.ops [m 6 0,
 (o 7 (.lens (t 6))),
 (o 8 (.mv (k 0)))])
 (.block 0 (.loop 2 [(0, 0), (1, 0), (7, 0), (8, 0)] c_slices_IndexFunc___impl_Write_impl_Write__l1)))
 (.kept [] (.seq (.ops [o 4 (.mv (k (-1)))])
 (.ret))))
theorem h_slices_IndexFunc___impl_Write_impl_Write_ : hF Tryz.prog n_slices_IndexFunc___impl_Write_impl_Write_ = some c_slices_IndexFunc___impl_Write_impl_Write_.strip := by kernel_rfl
theorem r_slices_IndexFunc___impl_Write_impl_Write_ : rF Tryz.prog n_slices_IndexFunc___impl_Write_impl_Write_ = some ([.tmp 4], 19) := by kernel_rfl
abbrev n_impl_GoodVal : Nat := 217
def c_impl_GoodVal : AS :=
 .seq (.ops [o 2 (.mv ff)])
 (.seq (.ops [m 3 0,
 (o 4 (.lent (t 3))),
 (o 5 (.bin .leq (t 4) (k 24))),
 m 6 5,
 mg 7 6 true 0,
 (g 8 6 true (.call 103 [(t 7), (.const (.string ⟨⟨[46, 45, 44, 95]⟩⟩))])),
 (o 9 (.pick (t 6) (t 8) ff)),
 m 2 9])
 (.ret))
theorem h_impl_GoodVal : hF Tryz.prog n_impl_GoodVal = some c_impl_GoodVal.strip := by kernel_rfl
theorem r_impl_GoodVal : rF Tryz.prog n_impl_GoodVal = some ([.tmp 2], 10) := by kernel_rfl
abbrev n_spec_l13Wrote : Nat := 220
def c_spec_l13Wrote_l1 : AS :=
 .seq (.ops [o 10 (.bin .lss (t 9) (t 8))])
 (.seq (.cond (t 10) (.skip) (.exit 0))
 (.seq (.block 1 (.seq (.ops [o 11 (.ia 3 (t 7) (t 9)),
 (o 12 (.load (some 3) (t 11))),
 (o 6 (.alloc (.agg #[.string ⟨⟨[]⟩⟩, .string ⟨⟨[]⟩⟩, .bool false]))),
 (u (.store 3 (t 6) (t 12)))])
 (.seq (.ops [o 13 (.fa 0 (t 6)),
 (o 14 (.load none (t 13))),
 m 15 1,
 (o 16 (.bin .eql (t 14) (t 15)))])
 (.cond (t 16) (.seq (.ops [o 4 (.mv tt)])
 (.ret)) (.skip)))))
 (.kept [1, 7, 8, 9] (.ops [o 17 (.bin .add (t 9) (k 1)),
 m 9 17]))))
def c_spec_l13Wrote : AS :=
 .seq (.ops [o 4 (.mv ff)])
 (.seq (.seq (.ops [m 7 0,
 (o 8 (.lens (t 7))),
 (o 9 (.mv (k 0)))])
 (.block 0 (.loop 2 [(1, 0), (7, 0), (8, 0), (9, 0)] c_spec_l13Wrote_l1)))
 (.kept [] (.seq (.ops [o 4 (.mv ff)])
 (.ret))))
theorem h_spec_l13Wrote : hF Tryz.prog n_spec_l13Wrote = some c_spec_l13Wrote.strip := by kernel_rfl
theorem r_spec_l13Wrote : rF Tryz.prog n_spec_l13Wrote = some ([.tmp 4], 18) := by kernel_rfl
abbrev n_spec_l1HasS : Nat := 221
def c_spec_l1HasS_l1 : AS :=
 .seq (.ops [o 10 (.bin .lss (t 9) (t 8))])
 (.seq (.cond (t 10) (.skip) (.exit 0))
 (.seq (.block 1 (.seq (.ops [o 11 (.ia 1 (t 7) (t 9)),
 (o 12 (.load none (t 11))),
 m 6 12])
 (.seq (.ops [m 13 6,
 m 14 1,
 (o 15 (.bin .eql (t 13) (t 14)))])
 (.cond (t 15) (.seq (.ops [o 4 (.mv tt)])
 (.ret)) (.skip)))))
 (.kept [1, 7, 8, 9] (.ops [o 16 (.bin .add (t 9) (k 1)),
 m 9 16]))))
def c_spec_l1HasS : AS :=
 .seq (.ops [o 4 (.mv ff)])
 (.seq (.seq (.ops [m 7 0,
 (o 8 (.lens (t 7))),
 (o 9 (.mv (k 0)))])
 (.block 0 (.loop 2 [(1, 0), (7, 0), (8, 0), (9, 0)] c_spec_l1HasS_l1)))
 (.kept [] (.seq (.ops [o 4 (.mv ff)])
 (.ret))))
theorem h_spec_l1HasS : hF Tryz.prog n_spec_l1HasS = some c_spec_l1HasS.strip := by kernel_rfl
theorem r_spec_l1HasS : rF Tryz.prog n_spec_l1HasS = some ([.tmp 4], 17) := by kernel_rfl
abbrev n_spec_l4PutS : Nat := 222
def c_spec_l4PutS_l1 : AS :=
 .seq (.seq (.ops [m 9 5,
 (o 10 (.bin .gtr (t 9) (k 0))),
 m 11 10,
 mg 12 11 true 0,
 mg 13 11 true 5,
 (g 14 11 true (.bin .sub (t 13) (k 1))),
 (g 15 11 true (.ia 1 (t 12) (t 14))),
 (g 16 11 true (.load none (t 15))),
 mg 17 11 true 1,
 (g 18 11 true (.bin .gtr (t 16) (t 17))),
 (o 19 (.pick (t 11) (t 18) ff))])
 (.kept [0, 1, 5, 19] (.cond (t 19) (.skip) (.exit 0))))
 (.kept [0, 1, 5] (.block 1 (.ops [m 20 5,
 (o 21 (.bin .sub (t 20) (k 1))),
 m 5 21])))
def c_spec_l4PutS : AS :=
 .seq (.ops [o 4 (.mv (.const (.slice none 0 0)))])
 (.seq (.ops [m 7 0,
 (o 8 (.lens (t 7))),
 m 5 8])
 (.seq (.block 0 (.loop 2 [(0, 1), (1, 0), (5, 0)] c_spec_l4PutS_l1))
 (.kept [0, 1, 5] (.seq (.seq (.ops [m 22 5,
 (o 23 (.bin .gtr (t 22) (k 0))),
 m 24 23,
 mg 25 24 true 0,
 mg 26 24 true 5,
 (g 27 24 true (.bin .sub (t 26) (k 1))),
 (g 28 24 true (.ia 1 (t 25) (t 27))),
 (g 29 24 true (.load none (t 28))),
 mg 30 24 true 1,
 (g 31 24 true (.bin .eql (t 29) (t 30))),
 (o 32 (.pick (t 24) (t 31) ff))])
 (.kept [0, 1, 5, 32] (.cond (t 32) (.seq (.ops [m 33 0,
 m 4 33])
 (.ret)) (.skip))))
 (.kept [0, 1, 5] (.seq (.ops [m 34 0,
 m 35 5,
 (o 36 (.sls 1 (t 34) (some (t 35)) none none)),
 (o 37 (.call 132 [(t 36)])),
 m 6 37])
 (.seq (.ops [m 38 0,
 m 39 5,
 (o 40 (.sls 1 (t 38) none (some (t 39)) none)),
 (o 41 (.call 132 [(t 40)])),
 m 42 1,
 (o 43 (.bsl 1 (.string ⟨⟨[]⟩⟩) 1 [(0, (t 42))])),
 (o 44 (.app 1 16 (.string ⟨⟨[]⟩⟩) (t 41) (t 43))),
 m 45 6,
 (o 46 (.app 1 16 (.string ⟨⟨[]⟩⟩) (t 44) (t 45))),
 m 4 46])
 (.ret))))))))
theorem h_spec_l4PutS : hF Tryz.prog n_spec_l4PutS = some c_spec_l4PutS.strip := by kernel_rfl
theorem r_spec_l4PutS : rF Tryz.prog n_spec_l4PutS = some ([.tmp 4], 47) := by kernel_rfl
abbrev n_slices_IndexFunc___impl_Held_impl_Held_ : Nat := 224
def c_slices_IndexFunc___impl_Held_impl_Held__l1 : AS :=
 .seq (.ops [o 9 (.bin .lss (t 8) (t 7))])
 (.seq (.cond (t 9) (.skip) (.exit 0))
 (.seq (.block 1 (.seq (.ops [m 10 8,
 m 5 10])
 (.seq (.post [(14, 1, [(3, 1), (4, 3)])] (.ops [m 11 1,
 m 12 0,
 m 13 5,
 (o 14 (.ia 5 (t 12) (t 13))),
 (o 15 (.load (some 5) (t 14))),
 (o 16 (.callv (t 11) [(t 15)]))]))
 (.cond (t 16) (.seq (.ops [m 17 5,
 m 4 17])
 (.ret)) (.skip)))))
 (.kept [0, 1, 7, 8] (.ops [o 18 (.bin .add (t 8) (k 1)),
 m 8 18]))))
def c_slices_IndexFunc___impl_Held_impl_Held_ : AS :=
 .seq (.ops [o 4 (.mv (k 0))])
 (.seq (.seq (.ops [m 6 0,
 (o 7 (.lens (t 6))),
 (o 8 (.mv (k 0)))])
 (.block 0 (.loop 2 [(0, 0), (1, 0), (7, 0), (8, 0)] c_slices_IndexFunc___impl_Held_impl_Held__l1)))
 (.kept [] (.seq (.ops [o 4 (.mv (k (-1)))])
 (.ret))))
theorem h_slices_IndexFunc___impl_Held_impl_Held_ : hF Tryz.prog n_slices_IndexFunc___impl_Held_impl_Held_ = some c_slices_IndexFunc___impl_Held_impl_Held_.strip := by kernel_rfl
theorem r_slices_IndexFunc___impl_Held_impl_Held_ : rF Tryz.prog n_slices_IndexFunc___impl_Held_impl_Held_ = some ([.tmp 4], 19) := by kernel_rfl
abbrev n_impl_overlap : Nat := 225
def c_impl_overlap : AS :=
 .seq (.ops [o 4 (.box (t 1)),
 (o 5 (.box (t 2))),
 (o 6 (.mv ff))])
 (.seq (.ops [m 7 0,
 (o 8 (.mkf 236 [(t 5), (t 4)])),
 (o 9 (.call 171 [(t 7), (t 8)])),
 m 6 9])
 (.ret))
theorem h_impl_overlap : hF Tryz.prog n_impl_overlap = some c_impl_overlap.strip := by kernel_rfl
theorem r_impl_overlap : rF Tryz.prog n_impl_overlap = some ([.tmp 6], 10) := by kernel_rfl
abbrev n_slices_Sort___string_string_ : Nat := 226
def c_slices_Sort___string_string_ : AS :=
 .seq (.ops [m 3 0,
 (o 4 (.lens (t 3))),
 m 2 4])
 (.ops [m 5 0,
 m 6 2,
 m 7 2,
 (o 8 (.cvi .u64 (t 7))),
 (o 9 (.call 240 [(t 8)])),
 (o 10 (.call 239 [(t 5), (k 0), (t 6), (t 9)]))])
theorem h_slices_Sort___string_string_ : hF Tryz.prog n_slices_Sort___string_string_ = some c_slices_Sort___string_string_.strip := by kernel_rfl
theorem r_slices_Sort___string_string_ : rF Tryz.prog n_slices_Sort___string_string_ = some ([], 11) := by kernel_rfl
abbrev n_slices_Compact___string_string_ : Nat := 227
def c_slices_Compact___string_string__l1 : AS :=
 .seq (.seq (.ops [m 29 5,
 m 30 4,
 (o 31 (.lens (t 30))),
 (o 32 (.bin .lss (t 29) (t 31)))])
 (.cond (t 32) (.skip) (.exit 2)))
 (.seq (.block 3 (.seq (.dops [m 35 4,
 m 36 5,
 (o 37 (.ia 1 (t 35) (t 36))),
 (o 38 (.load none (t 37))),
 m 39 4,
 m 40 5,
 (o 41 (.bin .sub (t 40) (k 1))),
 (o 42 (.ia 1 (t 39) (t 41))),
 (o 43 (.load none (t 42))),
 (o 44 (.bin .neq (t 38) (t 43)))])
 (.kept [0, 3, 4, 5, 44] (.cond (t 44) (.seq (.ops [m 45 0,
 m 46 3,
 m 47 4,
 m 48 5,
 (o 49 (.ia 1 (t 47) (t 48))),
 (o 50 (.load none (t 49))),
 (o 51 (.ia 1 (t 45) (t 46))),
 (u (.store 1 (t 51) (t 50)))])
 (.kept [0, 3, 4, 5] (.ops [m 52 3,
 (o 53 (.bin .add (t 52) (k 1))),
 m 3 53]))) (.skip)))))
 (.kept [0, 3, 4, 5] (.ops [m 33 5,
 (o 34 (.bin .add (t 33) (k 1))),
 m 5 34])))
def c_slices_Compact___string_string__l2 : AS :=
 .seq (.seq (.ops [m 10 3,
 m 11 0,
 (o 12 (.lens (t 11))),
 (o 13 (.bin .lss (t 10) (t 12)))])
 (.cond (t 13) (.skip) (.exit 0)))
 (.seq (.block 1 (.seq (.dops [m 16 0,
 m 17 3,
 (o 18 (.ia 1 (t 16) (t 17))),
 (o 19 (.load none (t 18))),
 m 20 0,
 m 21 3,
 (o 22 (.bin .sub (t 21) (k 1))),
 (o 23 (.ia 1 (t 20) (t 22))),
 (o 24 (.load none (t 23))),
 (o 25 (.bin .eql (t 19) (t 24)))])
 (.kept [0, 3, 25] (.cond (t 25) (.seq (.ops [m 26 0,
 m 27 3,
 (o 28 (.sls 1 (t 26) (some (t 27)) none none)),
 m 4 28])
 (.seq (.seq (.ops [o 5 (.mv (k 1))])
 (.block 2 (.loop 1 [(0, 0), (3, 0), (4, 0), (5, 0)] c_slices_Compact___string_string__l1)))
 (.kept [0, 3] (.seq (.ops [m 54 0,
 m 55 3,
 (o 56 (.sls 1 (t 54) (some (t 55)) none none)),
 (u (.clr 1 (.string ⟨⟨[]⟩⟩) (t 56)))])
 (.seq (.post [(2, 0, [])] (.ops [m 57 0,
 m 58 3,
 (o 59 (.sls 1 (t 57) none (some (t 58)) none)),
 m 2 59]))
 (.ret)))))) (.skip)))))
 (.kept [0, 3] (.ops [m 14 3,
 (o 15 (.bin .add (t 14) (k 1))),
 m 3 15])))
def c_slices_Compact___string_string_ : AS :=
 .seq (.ops [o 2 (.mv (.const (.slice none 0 0)))])
 (.seq (.seq (.ops [m 6 0,
 (o 7 (.lens (t 6))),
 (o 8 (.bin .lss (t 7) (k 2)))])
 (.cond (t 8) (.seq (.post [(2, 0, [])] (.ops [m 9 0,
 m 2 9]))
 (.ret)) (.skip)))
 (.seq (.seq (.ops [o 3 (.mv (k 1))])
 (.block 0 (.loop 1 [(0, 0), (3, 0)] c_slices_Compact___string_string__l2)))
 (.kept [0] (.seq (.post [(2, 0, [])] (.ops [m 60 0,
 m 2 60]))
 (.ret)))))
theorem h_slices_Compact___string_string_ : hF Tryz.prog n_slices_Compact___string_string_ = some c_slices_Compact___string_string_.strip := by kernel_rfl
theorem r_slices_Compact___string_string_ : rF Tryz.prog n_slices_Compact___string_string_ = some ([.tmp 2], 61) := by kernel_rfl
abbrev n_cmp_isNaN_int_ : Nat := 228
def c_cmp_isNaN_int_ : AS :=
 .seq (.ops [o 2 (.mv ff)])
 (.seq (.ops [m 3 0,
 m 4 0,
 (o 5 (.bin .neq (t 3) (t 4))),
 m 2 5])
 (.ret))
theorem h_cmp_isNaN_int_ : hF Tryz.prog n_cmp_isNaN_int_ = some c_cmp_isNaN_int_.strip := by kernel_rfl
theorem r_cmp_isNaN_int_ : rF Tryz.prog n_cmp_isNaN_int_ = some ([.tmp 2], 6) := by kernel_rfl
abbrev n_slices_Clone___impl_Cell_impl_Cell_ : Nat := 229
def c_slices_Clone___impl_Cell_impl_Cell_ : AS :=
 .seq (.ops [o 2 (.mv (.const (.slice none 0 0)))])
 (.seq (.seq (.ops [m 3 0,
 (o 4 (.isn false (t 3)))])
 (.cond (t 4) (.seq (.ops [o 2 (.mv (.const (.slice none 0 0)))])
 (.ret)) (.skip)))
 (.seq (.ops [o 5 (.bsl 2 (.agg #[.string ⟨⟨[]⟩⟩, .slice none 0 0]) 0 []),
 m 6 0,
 (o 7 (.app 2 40 (.agg #[.string ⟨⟨[]⟩⟩, .slice none 0 0]) (t 5) (t 6))),
 m 2 7])
 (.ret)))
theorem h_slices_Clone___impl_Cell_impl_Cell_ : hF Tryz.prog n_slices_Clone___impl_Cell_impl_Cell_ = some c_slices_Clone___impl_Cell_impl_Cell_.strip := by kernel_rfl
theorem r_slices_Clone___impl_Cell_impl_Cell_ : rF Tryz.prog n_slices_Clone___impl_Cell_impl_Cell_ = some ([.tmp 2], 8) := by kernel_rfl
abbrev n_slices_Clone___impl_Ver_impl_Ver_ : Nat := 230
def c_slices_Clone___impl_Ver_impl_Ver_ : AS :=
 .seq (.ops [o 2 (.mv (.const (.slice none 0 0)))])
 (.seq (.seq (.ops [m 3 0,
 (o 4 (.isn false (t 3)))])
 (.cond (t 4) (.seq (.ops [o 2 (.mv (.const (.slice none 0 0)))])
 (.ret)) (.skip)))
 (.seq (.ops [o 5 (.bsl 3 (.agg #[.int .i64 0, .string ⟨⟨[]⟩⟩, .bool false]) 0 []),
 m 6 0,
 (o 7 (.app 3 32 (.agg #[.int .i64 0, .string ⟨⟨[]⟩⟩, .bool false]) (t 5) (t 6))),
 m 2 7])
 (.ret)))
theorem h_slices_Clone___impl_Ver_impl_Ver_ : hF Tryz.prog n_slices_Clone___impl_Ver_impl_Ver_ = some c_slices_Clone___impl_Ver_impl_Ver_.strip := by kernel_rfl
theorem r_slices_Clone___impl_Ver_impl_Ver_ : rF Tryz.prog n_slices_Clone___impl_Ver_impl_Ver_ = some ([.tmp 2], 8) := by kernel_rfl
abbrev n_slices_Insert___impl_Cell_impl_Cell_ : Nat := 231
def c_slices_Insert___impl_Cell_impl_Cell_ : AS :=
 .seq (.ops [o 6 (.mv (.const (.slice none 0 0)))])
 (.seq (.ops [m 10 0,
 m 11 1,
 (o 12 (.sls 2 (t 10) (some (t 11)) none none))])
 (.seq (.ops [m 13 2,
 (o 14 (.lens (t 13))),
 m 7 14])
 (.seq (.seq (.ops [m 15 7,
 (o 16 (.bin .eql (t 15) (k 0)))])
 (.cond (t 16) (.seq (.post [(6, 0, [])] (.ops [m 17 0,
 m 6 17]))
 (.ret)) (.skip)))
 (.seq (.ops [m 18 0,
 (o 19 (.lens (t 18))),
 m 8 19])
 (.seq (.seq (.ops [m 20 1,
 m 21 8,
 (o 22 (.bin .eql (t 20) (t 21)))])
 (.cond (t 22) (.seq (.post [(6, 0, [])] (.ops [m 23 0,
 m 24 2,
 (o 25 (.app 2 40 (.agg #[.string ⟨⟨[]⟩⟩, .slice none 0 0]) (t 23) (t 24))),
 m 6 25]))
 (.ret)) (.skip)))
 (.kept [0, 1, 2, 7, 8] (.seq (.seq (.ops [m 26 8,
 m 27 7,
 (o 28 (.bin .add (t 26) (t 27))),
 m 29 0,
 (o 30 (.capo (t 29))),
 (o 31 (.bin .gtr (t 28) (t 30)))])
 (.cond (t 31) (.seq (.ops [m 32 0,
 m 33 1,
 (o 34 (.sls 2 (t 32) none (some (t 33)) none)),
 m 35 8,
 m 36 7,
 (o 37 (.bin .add (t 35) (t 36))),
 m 38 1,
 (o 39 (.bin .sub (t 37) (t 38))),
 (o 40 (.apz 2 40 (.agg #[.string ⟨⟨[]⟩⟩, .slice none 0 0]) (t 34) (t 39))),
 m 9 40])
 (.kept [0, 1, 2, 7, 9] (.seq (.ops [m 41 9,
 m 42 1,
 (o 43 (.sls 2 (t 41) (some (t 42)) none none)),
 m 44 2,
 (o 45 (.cpy 2 (t 43) (t 44)))])
 (.seq (.rops [(none, m 46 9),
 (none, m 47 1),
 (none, m 48 7),
 (none, o 49 (.bin .add (t 47) (t 48))),
 (none, o 50 (.sls 2 (t 46) (some (t 49)) none none)),
 (none, m 51 0),
 (none, m 52 1),
 (none, o 53 (.sls 2 (t 51) (some (t 52)) none none)),
 (some [], o 54 (.cpy 2 (t 50) (t 53)))])
 (.kept [9] (.seq (.post [(6, 0, [])] (.ops [m 55 9,
 m 6 55]))
 (.ret))))))) (.skip)))
 (.kept [0, 1, 2, 7, 8] (.seq (.ops [m 56 0,
 m 57 8,
 m 58 7,
 (o 59 (.bin .add (t 57) (t 58))),
 (o 60 (.sls 2 (t 56) none (some (t 59)) none)),
 m 0 60])
 (.seq (.seq (.ops [m 61 2,
 m 62 0,
 m 63 1,
 m 64 7,
 (o 65 (.bin .add (t 63) (t 64))),
 (o 66 (.sls 2 (t 62) (some (t 65)) none none)),
 (o 67 (.xcall 241 [(t 61), (t 66)])),
 (o 68 (.not (t 67)))])
 (.kept [0, 1, 2, 7, 8, 68] (.cond (t 68) (.seq (.rops [(none, m 69 0),
 (none, m 70 1),
 (none, m 71 7),
 (none, o 72 (.bin .add (t 70) (t 71))),
 (none, o 73 (.sls 2 (t 69) (some (t 72)) none none)),
 (none, m 74 0),
 (none, m 75 1),
 (none, o 76 (.sls 2 (t 74) (some (t 75)) none none)),
 (some [], o 77 (.cpy 2 (t 73) (t 76)))])
 (.kept [0, 1, 2] (.seq (.ops [m 78 0,
 m 79 1,
 (o 80 (.sls 2 (t 78) (some (t 79)) none none)),
 m 81 2,
 (o 82 (.cpy 2 (t 80) (t 81)))])
 (.seq (.post [(6, 0, [])] (.ops [m 83 0,
 m 6 83]))
 (.ret))))) (.skip))))
 (.kept [0, 1, 2, 7, 8] (.seq (.ops [m 84 0,
 m 85 8,
 (o 86 (.sls 2 (t 84) (some (t 85)) none none)),
 m 87 2,
 (o 88 (.cpy 2 (t 86) (t 87)))])
 (.seq (.ops [m 89 0,
 m 90 1,
 (o 91 (.sls 2 (t 89) (some (t 90)) none none)),
 m 92 7,
 (o 93 (.call 242 [(t 91), (t 92)]))])
 (.seq (.post [(6, 0, [])] (.ops [m 94 0,
 m 6 94]))
 (.ret)))))))))))))))
theorem h_slices_Insert___impl_Cell_impl_Cell_ : hF Tryz.prog n_slices_Insert___impl_Cell_impl_Cell_ = some c_slices_Insert___impl_Cell_impl_Cell_.strip := by kernel_rfl
theorem r_slices_Insert___impl_Cell_impl_Cell_ : rF Tryz.prog n_slices_Insert___impl_Cell_impl_Cell_ = some ([.tmp 6], 95) := by kernel_rfl
abbrev n_slices_overlaps_impl_Told_ : Nat := 232
theorem d_slices_overlaps_impl_Told_ : Tryz.prog.funcs[n_slices_overlaps_impl_Told_]? = some Tryz.f232 := by kernel_rfl
theorem x_slices_overlaps_impl_Told_ (vs : Array Value) (w : Go.World) : (callFunc n_slices_overlaps_impl_Told_ vs).run Tryz.prog w = ((Extern.SlicesOverlaps.overlaps #[41, 41] #[4] vs).run Tryz.prog w).andThen fun v w' => .ok (.value v) w' := run_callFunc_extern (e := Extern.SlicesOverlaps.overlaps #[41, 41] #[4]) d_slices_overlaps_impl_Told_ (by kernel_rfl) (by kernel_rfl) (by kernel_rfl) (by kernel_rfl) vs w
theorem u_slices_overlaps_impl_Told_ : Tryz.prog.underlying 41 = some (.slice 156) := by kernel_rfl
theorem wd_slices_overlaps_impl_Told_ : width Tryz.prog 156 = some 3 := by kernel_rfl
abbrev n_internal_bytealg_IndexByteString : Nat := 235
theorem d_internal_bytealg_IndexByteString : Tryz.prog.funcs[n_internal_bytealg_IndexByteString]? = some Tryz.f235 := by kernel_rfl
abbrev n_impl_overlap_1 : Nat := 236
def c_impl_overlap_1 : AS :=
 .seq (.ops [o 3 (.box (t 0)),
 (o 4 (.mv ff))])
 (.seq (.ops [o 8 (.load none (t 1)),
 (o 9 (.fa 0 (t 3))),
 (o 10 (.load none (t 9))),
 (o 11 (.call 237 [(t 8), (t 10)])),
 m 7 11,
 (o 12 (.ext 0 (t 7))),
 (o 13 (.ext 1 (t 7))),
 m 5 12,
 m 6 13])
 (.kept [2, 3, 6] (.seq (.ops [m 14 6,
 m 15 14,
 (g 16 15 false (.load none (t 2))),
 (g 17 15 false (.fa 0 (t 3))),
 (g 18 15 false (.load none (t 17))),
 (g 19 15 false (.call 238 [(t 16), (t 18)])),
 (o 20 (.pick (t 15) tt (t 19))),
 m 4 20])
 (.ret))))
theorem h_impl_overlap_1 : hF Tryz.prog n_impl_overlap_1 = some c_impl_overlap_1.strip := by kernel_rfl
theorem r_impl_overlap_1 : rF Tryz.prog n_impl_overlap_1 = some ([.tmp 4], 21) := by kernel_rfl
abbrev n_impl_findWrite : Nat := 237
def c_impl_findWrite : AS :=
 .seq (.ops [o 4 (.mv (k 0)),
 (o 5 (.mv ff))])
 (.seq (.ops [m 6 0,
 m 7 1,
 (o 8 (.call 245 [(t 6), (t 7), (.func 246)])),
 (o 9 (.ext 0 (t 8))),
 (o 10 (.ext 1 (t 8))),
 m 4 9,
 m 5 10])
 (.ret))
theorem h_impl_findWrite : hF Tryz.prog n_impl_findWrite = some c_impl_findWrite.strip := by kernel_rfl
theorem r_impl_findWrite : rF Tryz.prog n_impl_findWrite = some ([.tmp 4, .tmp 5], 11) := by kernel_rfl
abbrev n_slices_Contains___string_string_ : Nat := 238
def c_slices_Contains___string_string_ : AS :=
 .seq (.ops [o 4 (.mv ff)])
 (.seq (.ops [m 5 0,
 m 6 1,
 (o 7 (.call 247 [(t 5), (t 6)])),
 (o 8 (.bin .geq (t 7) (k 0))),
 m 4 8])
 (.ret))
theorem h_slices_Contains___string_string_ : hF Tryz.prog n_slices_Contains___string_string_ = some c_slices_Contains___string_string_.strip := by kernel_rfl
theorem r_slices_Contains___string_string_ : rF Tryz.prog n_slices_Contains___string_string_ = some ([.tmp 4], 9) := by kernel_rfl
abbrev n_slices_pdqsortOrdered_string_ : Nat := 239
def c_slices_pdqsortOrdered_string__l1 : AS :=
 .block 1 (.seq (.ops [m 19 2,
 m 20 1,
 (o 21 (.bin .sub (t 19) (t 20))),
 m 10 21])
 (.seq (.seq (.ops [m 22 10,
 (o 23 (.bin .leq (t 22) (k 12)))])
 (.cond (t 23) (.seq (.ops [m 24 0,
 m 25 1,
 m 26 2,
 (o 27 (.call 248 [(t 24), (t 25), (t 26)]))])
 (.ret)) (.skip)))
 (.kept [0, 1, 2, 3, 8, 9, 10] (.seq (.seq (.ops [m 28 3,
 (o 29 (.bin .eql (t 28) (k 0)))])
 (.cond (t 29) (.seq (.ops [m 30 0,
 m 31 1,
 m 32 2,
 (o 33 (.call 249 [(t 30), (t 31), (t 32)]))])
 (.ret)) (.skip)))
 (.kept [0, 1, 2, 3, 8, 9, 10] (.seq (.seq (.ops [m 34 8,
 (o 35 (.not (t 34)))])
 (.cond (t 35) (.seq (.ops [m 36 0,
 m 37 1,
 m 38 2,
 (o 39 (.call 250 [(t 36), (t 37), (t 38)]))])
 (.ops [m 40 3,
 (o 41 (.bin .sub (t 40) (k 1))),
 m 3 41])) (.skip)))
 (.kept [0, 1, 2, 3, 8, 9, 10] (.seq (.ops [m 43 0,
 m 44 1,
 m 45 2,
 (o 46 (.call 251 [(t 43), (t 44), (t 45)])),
 m 42 46,
 (o 47 (.ext 0 (t 42))),
 (o 48 (.ext 1 (t 42))),
 m 11 47,
 m 12 48])
 (.kept [0, 1, 2, 3, 8, 9, 10, 11, 12] (.seq (.seq (.ops [m 49 12,
 (o 50 (.bin .eql (t 49) (k 2)))])
 (.cond (t 50) (.seq (.ops [m 51 0,
 m 52 1,
 m 53 2,
 (o 54 (.call 252 [(t 51), (t 52), (t 53)]))])
 (.seq (.ops [m 55 2,
 (o 56 (.bin .sub (t 55) (k 1))),
 m 57 11,
 m 58 1,
 (o 59 (.bin .sub (t 57) (t 58))),
 (o 60 (.bin .sub (t 56) (t 59))),
 m 11 60])
 (.kept [0, 1, 2, 3, 8, 9, 10, 11] (.ops [o 12 (.mv (k 1))])))) (.skip)))
 (.kept [0, 1, 2, 3, 8, 9, 10, 11, 12] (.seq (.seq (.ops [m 61 8,
 m 62 61,
 mg 63 62 true 9,
 (o 64 (.pick (t 62) (t 63) ff)),
 m 65 64,
 mg 66 65 true 12,
 (g 67 65 true (.bin .eql (t 66) (k 1))),
 (o 68 (.pick (t 65) (t 67) ff))])
 (.kept [0, 1, 2, 3, 8, 9, 10, 11, 68] (.cond (t 68) (.seq (.ops [m 69 0,
 m 70 1,
 m 71 2,
 (o 72 (.call 253 [(t 69), (t 70), (t 71)]))])
 (.cond (t 72) (.ret) (.skip))) (.skip))))
 (.kept [0, 1, 2, 3, 8, 9, 10, 11] (.seq (.seq (.rops [(none, m 73 1),
 (none, o 74 (.bin .gtr (t 73) (k 0))),
 (none, m 75 74),
 (none, mg 76 75 true 0),
 (none, mg 77 75 true 1),
 (none, g 78 75 true (.bin .sub (t 77) (k 1))),
 (none, g 79 75 true (.ia 1 (t 76) (t 78))),
 (none, g 80 75 true (.load none (t 79))),
 (none, mg 81 75 true 0),
 (none, mg 82 75 true 11),
 (none, g 83 75 true (.ia 1 (t 81) (t 82))),
 (none, g 84 75 true (.load none (t 83))),
 (some [], g 85 75 true (.call 254 [(t 80), (t 84)])),
 (none, g 86 75 true (.not (t 85))),
 (none, o 87 (.pick (t 75) (t 86) ff))])
 (.kept [0, 1, 2, 3, 8, 9, 10, 11, 87] (.cond (t 87) (.seq (.ops [m 88 0,
 m 89 1,
 m 90 2,
 m 91 11,
 (o 92 (.call 255 [(t 88), (t 89), (t 90), (t 91)])),
 m 13 92])
 (.seq (.ops [m 93 13,
 m 1 93])
 (.exit 1))) (.skip))))
 (.kept [0, 1, 2, 3, 10, 11] (.seq (.ops [m 95 0,
 m 96 1,
 m 97 2,
 m 98 11,
 (o 99 (.call 256 [(t 95), (t 96), (t 97), (t 98)])),
 m 94 99,
 (o 100 (.ext 0 (t 94))),
 (o 101 (.ext 1 (t 94))),
 m 14 100,
 m 15 101])
 (.kept [0, 1, 2, 3, 10, 14, 15] (.seq (.ops [m 102 15,
 m 9 102])
 (.seq (.ops [m 103 14,
 m 104 1,
 (o 105 (.bin .sub (t 103) (t 104))),
 m 106 2,
 m 107 14,
 (o 108 (.bin .sub (t 106) (t 107))),
 m 16 105,
 m 17 108])
 (.kept [0, 1, 2, 3, 9, 10, 14, 16, 17] (.seq (.ops [m 109 10,
 (o 110 (.bin .quo (t 109) (k 8))),
 m 18 110])
 (.seq (.ops [m 111 16,
 m 112 17,
 (o 113 (.bin .lss (t 111) (t 112)))])
 (.cond (t 113) (.seq (.ops [m 114 16,
 m 115 18,
 (o 116 (.bin .geq (t 114) (t 115))),
 m 8 116])
 (.seq (.ops [m 117 0,
 m 118 1,
 m 119 14,
 m 120 3,
 (o 121 (.call 239 [(t 117), (t 118), (t 119), (t 120)]))])
 (.ops [m 122 14,
 (o 123 (.bin .add (t 122) (k 1))),
 m 1 123]))) (.seq (.ops [m 124 17,
 m 125 18,
 (o 126 (.bin .geq (t 124) (t 125))),
 m 8 126])
 (.seq (.ops [m 127 0,
 m 128 14,
 (o 129 (.bin .add (t 128) (k 1))),
 m 130 2,
 m 131 3,
 (o 132 (.call 239 [(t 127), (t 129), (t 130), (t 131)]))])
 (.kept [0, 1, 3, 8, 9, 14] (.ops [m 133 14,
 m 2 133])))))))))))))))))))))))))))
def c_slices_pdqsortOrdered_string_ : AS :=
 .seq (.ops [o 8 (.mv tt)])
 (.seq (.ops [o 9 (.mv tt)])
 (.block 0 (.loop 4 [(0, 0), (1, 0), (2, 0), (3, 0), (8, 0), (9, 0)] c_slices_pdqsortOrdered_string__l1)))
theorem h_slices_pdqsortOrdered_string_ : hF Tryz.prog n_slices_pdqsortOrdered_string_ = some c_slices_pdqsortOrdered_string_.strip := by kernel_rfl
theorem r_slices_pdqsortOrdered_string_ : rF Tryz.prog n_slices_pdqsortOrdered_string_ = some ([], 134) := by kernel_rfl
abbrev n_math_bits_Len : Nat := 240
def c_math_bits_Len : AS :=
 .seq (.ops [o 2 (.mv (k 0))])
 (.seq (.cond ff (.seq (.ops [m 3 0,
 (o 4 (.cvi .u32 (t 3))),
 (o 5 (.call 257 [(t 4)])),
 m 2 5])
 (.ret)) (.skip))
 (.seq (.ops [m 6 0,
 (o 7 (.call 258 [(t 6)])),
 m 2 7])
 (.ret)))
theorem h_math_bits_Len : hF Tryz.prog n_math_bits_Len = some c_math_bits_Len.strip := by kernel_rfl
theorem r_math_bits_Len : rF Tryz.prog n_math_bits_Len = some ([.tmp 2], 8) := by kernel_rfl
abbrev n_slices_overlaps_impl_Cell_ : Nat := 241
theorem d_slices_overlaps_impl_Cell_ : Tryz.prog.funcs[n_slices_overlaps_impl_Cell_]? = some Tryz.f241 := by kernel_rfl
theorem x_slices_overlaps_impl_Cell_ (vs : Array Value) (w : Go.World) : (callFunc n_slices_overlaps_impl_Cell_ vs).run Tryz.prog w = ((Extern.SlicesOverlaps.overlaps #[39, 39] #[4] vs).run Tryz.prog w).andThen fun v w' => .ok (.value v) w' := run_callFunc_extern (e := Extern.SlicesOverlaps.overlaps #[39, 39] #[4]) d_slices_overlaps_impl_Cell_ (by kernel_rfl) (by kernel_rfl) (by kernel_rfl) (by kernel_rfl) vs w
theorem u_slices_overlaps_impl_Cell_ : Tryz.prog.underlying 39 = some (.slice 145) := by kernel_rfl
theorem wd_slices_overlaps_impl_Cell_ : width Tryz.prog 145 = some 2 := by kernel_rfl
abbrev n_slices_BinarySearchFunc___impl_Write_impl_Write_string_ : Nat := 245
def c_slices_BinarySearchFunc___impl_Write_impl_Write_string__l1 : AS :=
 .seq (.seq (.ops [m 15 9,
 m 16 10,
 (o 17 (.bin .lss (t 15) (t 16)))])
 (.cond (t 17) (.skip) (.exit 0)))
 (.block 1 (.seq (.ops [m 18 9,
 m 19 10,
 (o 20 (.bin .add (t 18) (t 19))),
 (o 21 (.cvi .u64 (t 20))),
 (o 22 (.bin .shr (t 21) (.const (.int .u64 1)))),
 (o 23 (.cvi .i64 (t 22))),
 m 11 23])
 (.kept [0, 1, 2, 8, 9, 10, 11] (.seq (.ops [m 24 2,
 m 25 0,
 m 26 11,
 (o 27 (.ia 3 (t 25) (t 26))),
 (o 28 (.load (some 3) (t 27))),
 m 29 1,
 (o 30 (.callv (t 24) [(t 28), (t 29)])),
 (o 31 (.bin .lss (t 30) (k 0)))])
 (.kept [0, 1, 2, 8, 9, 10, 11, 31] (.cond (t 31) (.ops [m 32 11,
 (o 33 (.bin .add (t 32) (k 1))),
 m 9 33]) (.ops [m 34 11,
 m 10 34])))))))
def c_slices_BinarySearchFunc___impl_Write_impl_Write_string_ : AS :=
 .seq (.ops [o 6 (.mv (k 0)),
 (o 7 (.mv ff))])
 (.seq (.ops [m 12 0,
 (o 13 (.lens (t 12))),
 m 8 13])
 (.seq (.ops [m 14 8,
 (o 9 (.mv (k 0))),
 m 10 14])
 (.seq (.block 0 (.loop 3 [(0, 0), (1, 0), (2, 0), (8, 0), (9, 0), (10, 0)] c_slices_BinarySearchFunc___impl_Write_impl_Write_string__l1))
 (.kept [0, 1, 2, 8, 9] (.seq (.ops [m 35 9,
 m 36 9,
 m 37 8,
 (o 38 (.bin .lss (t 36) (t 37))),
 m 39 38,
 mg 40 39 true 2,
 mg 41 39 true 0,
 mg 42 39 true 9,
 (g 43 39 true (.ia 3 (t 41) (t 42))),
 (g 44 39 true (.load (some 3) (t 43))),
 mg 45 39 true 1,
 (g 46 39 true (.callv (t 40) [(t 44), (t 45)])),
 (g 47 39 true (.bin .eql (t 46) (k 0))),
 (o 48 (.pick (t 39) (t 47) ff)),
 m 6 35,
 m 7 48])
 (.ret))))))
theorem h_slices_BinarySearchFunc___impl_Write_impl_Write_string_ : hF Tryz.prog n_slices_BinarySearchFunc___impl_Write_impl_Write_string_ = some c_slices_BinarySearchFunc___impl_Write_impl_Write_string_.strip := by kernel_rfl
theorem r_slices_BinarySearchFunc___impl_Write_impl_Write_string_ : rF Tryz.prog n_slices_BinarySearchFunc___impl_Write_impl_Write_string_ = some ([.tmp 6, .tmp 7], 49) := by kernel_rfl
abbrev n_impl_findWrite_1 : Nat := 246
def c_impl_findWrite_1 : AS :=
 .seq (.ops [o 2 (.box (t 0)),
 (o 4 (.mv (k 0)))])
 (.seq (.ops [o 5 (.fa 0 (t 2)),
 (o 6 (.load none (t 5))),
 m 7 1,
 (o 8 (.call 167 [(t 6), (t 7)])),
 m 4 8])
 (.ret))
theorem h_impl_findWrite_1 : hF Tryz.prog n_impl_findWrite_1 = some c_impl_findWrite_1.strip := by kernel_rfl
theorem r_impl_findWrite_1 : rF Tryz.prog n_impl_findWrite_1 = some ([.tmp 4], 9) := by kernel_rfl
abbrev n_slices_Index___string_string_ : Nat := 247
def c_slices_Index___string_string__l1 : AS :=
 .seq (.ops [o 9 (.bin .lss (t 8) (t 7))])
 (.seq (.cond (t 9) (.skip) (.exit 0))
 (.seq (.block 1 (.seq (.ops [m 10 8,
 m 5 10])
 (.seq (.ops [m 11 1,
 m 12 0,
 m 13 5,
 (o 14 (.ia 1 (t 12) (t 13))),
 (o 15 (.load none (t 14))),
 (o 16 (.bin .eql (t 11) (t 15)))])
 (.cond (t 16) (.seq (.ops [m 17 5,
 m 4 17])
 (.ret)) (.skip)))))
 (.kept [0, 1, 7, 8] (.ops [o 18 (.bin .add (t 8) (k 1)),
 m 8 18]))))
def c_slices_Index___string_string_ : AS :=
 .seq (.ops [o 4 (.mv (k 0))])
 (.seq (.seq (.ops [m 6 0,
 (o 7 (.lens (t 6))),
 (o 8 (.mv (k 0)))])
 (.block 0 (.loop 2 [(0, 0), (1, 0), (7, 0), (8, 0)] c_slices_Index___string_string__l1)))
 (.kept [] (.seq (.ops [o 4 (.mv (k (-1)))])
 (.ret))))
theorem h_slices_Index___string_string_ : hF Tryz.prog n_slices_Index___string_string_ = some c_slices_Index___string_string_.strip := by kernel_rfl
theorem r_slices_Index___string_string_ : rF Tryz.prog n_slices_Index___string_string_ = some ([.tmp 4], 19) := by kernel_rfl
abbrev n_slices_insertionSortOrdered_string_ : Nat := 248
def c_slices_insertionSortOrdered_string__l1 : AS :=
 .seq (.seq (.rops [(none, m 16 7),
 (none, m 17 1),
 (none, o 18 (.bin .gtr (t 16) (t 17))),
 (none, m 19 18),
 (none, mg 20 19 true 0),
 (none, mg 21 19 true 7),
 (none, g 22 19 true (.ia 1 (t 20) (t 21))),
 (none, g 23 19 true (.load none (t 22))),
 (none, mg 24 19 true 0),
 (none, mg 25 19 true 7),
 (none, g 26 19 true (.bin .sub (t 25) (k 1))),
 (none, g 27 19 true (.ia 1 (t 24) (t 26))),
 (none, g 28 19 true (.load none (t 27))),
 (some [], g 29 19 true (.call 254 [(t 23), (t 28)])),
 (none, o 30 (.pick (t 19) (t 29) ff))])
 (.kept [0, 1, 2, 6, 7, 30] (.cond (t 30) (.skip) (.exit 2))))
 (.kept [0, 1, 2, 6, 7] (.seq (.block 3 (.rops [(none, m 33 0),
 (none, m 34 7),
 (none, m 35 0),
 (none, m 36 7),
 (none, o 37 (.bin .sub (t 36) (k 1))),
 (none, m 38 0),
 (none, m 39 7),
 (none, o 40 (.bin .sub (t 39) (k 1))),
 (none, o 41 (.ia 1 (t 38) (t 40))),
 (none, o 42 (.load none (t 41))),
 (none, m 43 0),
 (none, m 44 7),
 (none, o 45 (.ia 1 (t 43) (t 44))),
 (none, o 46 (.load none (t 45))),
 (none, o 47 (.ia 1 (t 33) (t 34))),
 (some [o 37 (.bin .sub (t 36) (k 1)), m 36 7, m 35 0], u (.store 1 (t 47) (t 42))),
 (none, o 48 (.ia 1 (t 35) (t 37))),
 (some [], u (.store 1 (t 48) (t 46)))]))
 (.kept [0, 1, 2, 6, 7] (.ops [m 31 7,
 (o 32 (.bin .sub (t 31) (k 1))),
 m 7 32]))))
def c_slices_insertionSortOrdered_string__l2 : AS :=
 .seq (.seq (.ops [m 10 6,
 m 11 2,
 (o 12 (.bin .lss (t 10) (t 11)))])
 (.cond (t 12) (.skip) (.exit 0)))
 (.seq (.block 1 (.seq (.ops [m 15 6,
 m 7 15])
 (.block 2 (.loop 3 [(0, 0), (1, 0), (2, 0), (6, 0), (7, 0)] c_slices_insertionSortOrdered_string__l1))))
 (.kept [0, 1, 2, 6] (.ops [m 13 6,
 (o 14 (.bin .add (t 13) (k 1))),
 m 6 14])))
def c_slices_insertionSortOrdered_string_ : AS :=
 .seq (.ops [m 8 1,
 (o 9 (.bin .add (t 8) (k 1))),
 m 6 9])
 (.block 0 (.loop 3 [(0, 0), (1, 0), (2, 0), (6, 0)] c_slices_insertionSortOrdered_string__l2))
theorem h_slices_insertionSortOrdered_string_ : hF Tryz.prog n_slices_insertionSortOrdered_string_ = some c_slices_insertionSortOrdered_string_.strip := by kernel_rfl
theorem r_slices_insertionSortOrdered_string_ : rF Tryz.prog n_slices_insertionSortOrdered_string_ = some ([], 49) := by kernel_rfl
abbrev n_math_bits_Len64 : Nat := 258
def c_math_bits_Len64 : AS :=
 .seq (.ops [o 2 (.mv (k 0))])
 (.seq (.seq (.ops [m 3 0,
 (o 4 (.bin .geq (t 3) (.const (.int .u64 4294967296))))])
 (.cond (t 4) (.seq (.ops [m 5 0,
 (o 6 (.bin .shr (t 5) (.const (.int .u64 32)))),
 m 0 6])
 (.ops [o 2 (.mv (k 32))])) (.skip)))
 (.seq (.seq (.ops [m 7 0,
 (o 8 (.bin .geq (t 7) (.const (.int .u64 65536))))])
 (.cond (t 8) (.seq (.ops [m 9 0,
 (o 10 (.bin .shr (t 9) (.const (.int .u64 16)))),
 m 0 10])
 (.ops [m 11 2,
 (o 12 (.bin .add (t 11) (k 16))),
 m 2 12])) (.skip)))
 (.kept [0, 2] (.seq (.seq (.ops [m 13 0,
 (o 14 (.bin .geq (t 13) (.const (.int .u64 256))))])
 (.cond (t 14) (.seq (.ops [m 15 0,
 (o 16 (.bin .shr (t 15) (.const (.int .u64 8)))),
 m 0 16])
 (.ops [m 17 2,
 (o 18 (.bin .add (t 17) (k 8))),
 m 2 18])) (.skip)))
 (.kept [0, 2] (.seq (.ops [m 19 2,
 m 20 0,
 (o 21 (.cvi .u8 (t 20))),
 (o 22 (.ix (.const (.string ⟨⟨[0, 1, 2, 2, 3, 3, 3, 3, 4, 4, 4, 4, 4, 4, 4, 4, 5, 5, 5, 5, 5, 5, 5, 5, 5, 5, 5, 5, 5, 5, 5, 5, 6, 6, 6, 6, 6, 6, 6, 6, 6, 6, 6, 6, 6, 6, 6, 6, 6, 6, 6, 6, 6, 6, 6, 6, 6, 6, 6, 6, 6, 6, 6, 6, 7, 7, 7, 7, 7, 7, 7, 7, 7, 7, 7, 7, 7, 7, 7, 7, 7, 7, 7, 7, 7, 7, 7, 7, 7, 7, 7, 7, 7, 7, 7, 7, 7, 7, 7, 7, 7, 7, 7, 7, 7, 7, 7, 7, 7, 7, 7, 7, 7, 7, 7, 7, 7, 7, 7, 7, 7, 7, 7, 7, 7, 7, 7, 7, 8, 8, 8, 8, 8, 8, 8, 8, 8, 8, 8, 8, 8, 8, 8, 8, 8, 8, 8, 8, 8, 8, 8, 8, 8, 8, 8, 8, 8, 8, 8, 8, 8, 8, 8, 8, 8, 8, 8, 8, 8, 8, 8, 8, 8, 8, 8, 8, 8, 8, 8, 8, 8, 8, 8, 8, 8, 8, 8, 8, 8, 8, 8, 8, 8, 8, 8, 8, 8, 8, 8, 8, 8, 8, 8, 8, 8, 8, 8, 8, 8, 8, 8, 8, 8, 8, 8, 8, 8, 8, 8, 8, 8, 8, 8, 8, 8, 8, 8, 8, 8, 8, 8, 8, 8, 8, 8, 8, 8, 8, 8, 8, 8, 8, 8, 8, 8, 8, 8, 8, 8, 8, 8, 8, 8, 8, 8, 8]⟩⟩)) (t 21))),
 (o 23 (.cvi .i64 (t 22))),
 (o 24 (.bin .add (t 19) (t 23))),
 m 2 24])
 (.ret)))))))
theorem h_math_bits_Len64 : hF Tryz.prog n_math_bits_Len64 = some c_math_bits_Len64.strip := by kernel_rfl
theorem r_math_bits_Len64 : rF Tryz.prog n_math_bits_Len64 = some ([.tmp 2], 25) := by kernel_rfl
end Go.Proofs.Wb

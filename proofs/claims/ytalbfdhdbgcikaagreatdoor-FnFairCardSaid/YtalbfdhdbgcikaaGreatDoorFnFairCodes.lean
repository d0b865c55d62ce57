import Derived.Test.YtalbfdhdbgcikaaGreatDoorProg
import Derived.Test.YtalbfdhdbgcikaaGreatDoorAmAuto
import Derived.Test.YtalbfdhdbgcikaaGreatDoorAmRaw
namespace Go.Proofs.Wb
open Go Go.Am Go.Am.K
@[go_sem] theorem w_7 : wide Tryz.prog 7 = some (some 4) := by kernel_rfl
@[go_sem] theorem w_8 : wide Tryz.prog 8 = some (some 4) := by kernel_rfl
@[go_sem] theorem w_13 : wide Tryz.prog 13 = some (some 2) := by kernel_rfl
@[go_sem] theorem w_14 : wide Tryz.prog 14 = some (some 2) := by kernel_rfl
@[go_sem] theorem w_18 : wide Tryz.prog 18 = some (some 1) := by kernel_rfl
@[go_sem] theorem w_19 : wide Tryz.prog 19 = some (some 1) := by kernel_rfl
@[go_sem] theorem w_25 : wide Tryz.prog 25 = some (some 4) := by kernel_rfl
@[go_sem] theorem w_26 : wide Tryz.prog 26 = some (some 4) := by kernel_rfl
@[go_sem] theorem w_28 : wide Tryz.prog 28 = some (some 6) := by kernel_rfl
@[go_sem] theorem w_29 : wide Tryz.prog 29 = some (some 6) := by kernel_rfl
@[go_sem] theorem w_33 : wide Tryz.prog 33 = some (some 4) := by kernel_rfl
@[go_sem] theorem w_34 : wide Tryz.prog 34 = some (some 4) := by kernel_rfl
@[go_sem] theorem w_36 : wide Tryz.prog 36 = some (some 6) := by kernel_rfl
@[go_sem] theorem w_37 : wide Tryz.prog 37 = some (some 6) := by kernel_rfl
@[go_sem] theorem w_51 : wide Tryz.prog 51 = some (some 5) := by kernel_rfl
@[go_sem] theorem w_52 : wide Tryz.prog 52 = some (some 5) := by kernel_rfl
@[go_sem] theorem w_62 : wide Tryz.prog 62 = some (some 3) := by kernel_rfl
@[go_sem] theorem w_63 : wide Tryz.prog 63 = some (some 3) := by kernel_rfl
@[go_sem] theorem w_87 : wide Tryz.prog 87 = some (some 2) := by kernel_rfl
@[go_sem] theorem w_88 : wide Tryz.prog 88 = some (some 2) := by kernel_rfl
@[go_sem] theorem w_92 : wide Tryz.prog 92 = some (some 4) := by kernel_rfl
@[go_sem] theorem w_93 : wide Tryz.prog 93 = some (some 4) := by kernel_rfl
@[go_sem] theorem w_103 : wide Tryz.prog 103 = some (some 3) := by kernel_rfl
@[go_sem] theorem w_110 : wide Tryz.prog 110 = some (some 5) := by kernel_rfl
@[go_sem] theorem w_119 : wide Tryz.prog 119 = some (some 2) := by kernel_rfl
@[go_sem] theorem w_150 : wide Tryz.prog 150 = some (some 4) := by kernel_rfl
@[go_sem] theorem w_174 : wide Tryz.prog 174 = some (some 24) := by kernel_rfl
@[go_sem] theorem w_189 : wide Tryz.prog 189 = some (some 20) := by kernel_rfl
@[go_sem] theorem w_190 : wide Tryz.prog 190 = some (some 65) := by kernel_rfl
@[go_sem] theorem w_195 : wide Tryz.prog 195 = some (some 3) := by kernel_rfl
@[go_sem] theorem w_196 : wide Tryz.prog 196 = some (some 3) := by kernel_rfl
@[go_sem] theorem w_204 : wide Tryz.prog 204 = some (some 1) := by kernel_rfl
@[go_sem] theorem w_205 : wide Tryz.prog 205 = some (some 1) := by kernel_rfl
@[go_sem] theorem w_207 : wide Tryz.prog 207 = some (some 32) := by kernel_rfl
@[go_sem] theorem w_208 : wide Tryz.prog 208 = some (some 64) := by kernel_rfl
@[go_sem] theorem w_210 : wide Tryz.prog 210 = some (some 4) := by kernel_rfl
@[go_sem] theorem w_211 : wide Tryz.prog 211 = some (some 4) := by kernel_rfl
@[go_sem] theorem w_221 : wide Tryz.prog 221 = some (some 11) := by kernel_rfl
@[go_sem] theorem w_222 : wide Tryz.prog 222 = some (some 11) := by kernel_rfl
abbrev n_laws_FnFair : Nat := 7
def c_laws_FnFair_l1 : AS :=
 .seq (.seq (.ops [m 51 7,
 (o 52 (.bin .lss (t 51) (k 60)))])
 (.cond (t 52) (.skip) (.exit 0)))
 (.seq (.block 1 (.seq (.tops [(0, 0), (3, 0), (7, 0), (8, 0)] (.rd (m 56 0) (.rd (m 57 7) (.rd (o 58 (.bin .add (t 57) (k 3))) (.rd (m 63 0) (.rd (m 64 7) (.rd (o 65 (.bin .add (t 64) (k 4))) (.rd (m 68 0) (.rd (m 69 7) (.rd (o 70 (.bin .add (t 69) (k 5))) (.alt [o 70 (.bin .add (t 69) (k 5)), m 69 7, m 68 0, o 65 (.bin .add (t 64) (k 4)), m 64 7, m 63 0, o 58 (.bin .add (t 57) (k 3)), m 57 7, m 56 0] (o 55 (.bsl 1 (.int .i64 0) 11 [(0, (k 1)), (1, (k 1)), (2, (k 2)), (3, (k 3)), (4, (k 3)), (5, (k 3)), (6, (k 3)), (7, (k 3)), (8, (k 4)), (9, (k 5)), (10, (k 6))]))
 (.alt [o 70 (.bin .add (t 69) (k 5)), m 69 7, m 68 0, o 65 (.bin .add (t 64) (k 4)), m 64 7, m 63 0] (o 59 (.call 16 [(t 56), (t 58)]))
 (.rd (o 60 (.bin .rem (t 59) (k 11))) (.rd (o 61 (.ia 1 (t 55) (t 60))) (.rd (o 62 (.load none (t 61))) (.alt [o 62 (.load none (t 61)), o 61 (.ia 1 (t 55) (t 60)), o 60 (.bin .rem (t 59) (k 11)), o 70 (.bin .add (t 69) (k 5)), m 69 7, m 68 0] (o 66 (.call 16 [(t 63), (t 65)]))
 (.rd (o 67 (.bin .rem (t 66) (k 3))) (.alt [o 67 (.bin .rem (t 66) (k 3)), o 62 (.load none (t 61)), o 61 (.ia 1 (t 55) (t 60)), o 60 (.bin .rem (t 59) (k 11))] (o 71 (.call 16 [(t 68), (t 70)]))
 (.rd (o 72 (.bin .rem (t 71) (k 9))) (.rd (o 73 (.bin .add (k 1) (t 72))) (.rd (o 74 (.build (.agg #[.int .i64 0, .int .i64 0, .int .i64 0]) [(0, 1, (t 62)), (1, 1, (t 67)), (2, 1, (t 73))])) (.alt [o 74 (.build (.agg #[.int .i64 0, .int .i64 0, .int .i64 0]) [(0, 1, (t 62)), (1, 1, (t 67)), (2, 1, (t 73))]), o 73 (.bin .add (k 1) (t 72)), o 72 (.bin .rem (t 71) (k 9)), o 67 (.bin .rem (t 66) (k 3)), o 62 (.load none (t 61)), o 61 (.ia 1 (t 55) (t 60)), o 60 (.bin .rem (t 59) (k 11))] (o 8 (.alloc (.agg #[.int .i64 0, .int .i64 0, .int .i64 0])))
 (.alt [] (u (.store 3 (t 8) (t 74)))
 (.done)
 (.none))
 (.none)))))
 (.alt [o 67 (.bin .rem (t 66) (k 3)), o 62 (.load none (t 61)), o 61 (.ia 1 (t 55) (t 60)), o 60 (.bin .rem (t 59) (k 11)), o 70 (.bin .add (t 69) (k 5)), m 69 7, m 68 0] (o 8 (.alloc (.agg #[.int .i64 0, .int .i64 0, .int .i64 0])))
 (.alt [o 67 (.bin .rem (t 66) (k 3)), o 62 (.load none (t 61)), o 61 (.ia 1 (t 55) (t 60)), o 60 (.bin .rem (t 59) (k 11))] (o 71 (.call 16 [(t 68), (t 70)]))
 (.rd (o 72 (.bin .rem (t 71) (k 9))) (.rd (o 73 (.bin .add (k 1) (t 72))) (.rd (o 74 (.build (.agg #[.int .i64 0, .int .i64 0, .int .i64 0]) [(0, 1, (t 62)), (1, 1, (t 67)), (2, 1, (t 73))])) (.alt [] (u (.store 3 (t 8) (t 74)))
 (.done)
 (.none)))))
 (.none))
 (.none))))
 (.alt [o 62 (.load none (t 61)), o 61 (.ia 1 (t 55) (t 60)), o 60 (.bin .rem (t 59) (k 11)), o 70 (.bin .add (t 69) (k 5)), m 69 7, m 68 0, o 65 (.bin .add (t 64) (k 4)), m 64 7, m 63 0] (o 8 (.alloc (.agg #[.int .i64 0, .int .i64 0, .int .i64 0])))
 (.alt [o 62 (.load none (t 61)), o 61 (.ia 1 (t 55) (t 60)), o 60 (.bin .rem (t 59) (k 11)), o 70 (.bin .add (t 69) (k 5)), m 69 7, m 68 0] (o 66 (.call 16 [(t 63), (t 65)]))
 (.rd (o 67 (.bin .rem (t 66) (k 3))) (.alt [o 67 (.bin .rem (t 66) (k 3)), o 62 (.load none (t 61)), o 61 (.ia 1 (t 55) (t 60)), o 60 (.bin .rem (t 59) (k 11))] (o 71 (.call 16 [(t 68), (t 70)]))
 (.rd (o 72 (.bin .rem (t 71) (k 9))) (.rd (o 73 (.bin .add (k 1) (t 72))) (.rd (o 74 (.build (.agg #[.int .i64 0, .int .i64 0, .int .i64 0]) [(0, 1, (t 62)), (1, 1, (t 67)), (2, 1, (t 73))])) (.alt [] (u (.store 3 (t 8) (t 74)))
 (.done)
 (.none)))))
 (.none)))
 (.none))
 (.none))))))
 (.alt [o 70 (.bin .add (t 69) (k 5)), m 69 7, m 68 0, o 65 (.bin .add (t 64) (k 4)), m 64 7, m 63 0, o 58 (.bin .add (t 57) (k 3)), m 57 7, m 56 0] (o 8 (.alloc (.agg #[.int .i64 0, .int .i64 0, .int .i64 0])))
 (.alt [o 70 (.bin .add (t 69) (k 5)), m 69 7, m 68 0, o 65 (.bin .add (t 64) (k 4)), m 64 7, m 63 0] (o 59 (.call 16 [(t 56), (t 58)]))
 (.rd (o 60 (.bin .rem (t 59) (k 11))) (.rd (o 61 (.ia 1 (t 55) (t 60))) (.rd (o 62 (.load none (t 61))) (.alt [o 62 (.load none (t 61)), o 61 (.ia 1 (t 55) (t 60)), o 60 (.bin .rem (t 59) (k 11)), o 70 (.bin .add (t 69) (k 5)), m 69 7, m 68 0] (o 66 (.call 16 [(t 63), (t 65)]))
 (.rd (o 67 (.bin .rem (t 66) (k 3))) (.alt [o 67 (.bin .rem (t 66) (k 3)), o 62 (.load none (t 61)), o 61 (.ia 1 (t 55) (t 60)), o 60 (.bin .rem (t 59) (k 11))] (o 71 (.call 16 [(t 68), (t 70)]))
 (.rd (o 72 (.bin .rem (t 71) (k 9))) (.rd (o 73 (.bin .add (k 1) (t 72))) (.rd (o 74 (.build (.agg #[.int .i64 0, .int .i64 0, .int .i64 0]) [(0, 1, (t 62)), (1, 1, (t 67)), (2, 1, (t 73))])) (.alt [] (u (.store 3 (t 8) (t 74)))
 (.done)
 (.none)))))
 (.none)))
 (.none)))))
 (.none))
 (.none)))
 (.alt [o 70 (.bin .add (t 69) (k 5)), m 69 7, m 68 0, o 65 (.bin .add (t 64) (k 4)), m 64 7, m 63 0] (o 59 (.call 16 [(t 56), (t 58)]))
 (.rd (o 60 (.bin .rem (t 59) (k 11))) (.alt [o 60 (.bin .rem (t 59) (k 11)), o 70 (.bin .add (t 69) (k 5)), m 69 7, m 68 0, o 65 (.bin .add (t 64) (k 4)), m 64 7, m 63 0] (o 55 (.bsl 1 (.int .i64 0) 11 [(0, (k 1)), (1, (k 1)), (2, (k 2)), (3, (k 3)), (4, (k 3)), (5, (k 3)), (6, (k 3)), (7, (k 3)), (8, (k 4)), (9, (k 5)), (10, (k 6))]))
 (.rd (o 61 (.ia 1 (t 55) (t 60))) (.rd (o 62 (.load none (t 61))) (.alt [o 62 (.load none (t 61)), o 61 (.ia 1 (t 55) (t 60)), o 60 (.bin .rem (t 59) (k 11)), o 70 (.bin .add (t 69) (k 5)), m 69 7, m 68 0] (o 66 (.call 16 [(t 63), (t 65)]))
 (.rd (o 67 (.bin .rem (t 66) (k 3))) (.alt [o 67 (.bin .rem (t 66) (k 3)), o 62 (.load none (t 61)), o 61 (.ia 1 (t 55) (t 60)), o 60 (.bin .rem (t 59) (k 11))] (o 71 (.call 16 [(t 68), (t 70)]))
 (.rd (o 72 (.bin .rem (t 71) (k 9))) (.rd (o 73 (.bin .add (k 1) (t 72))) (.rd (o 74 (.build (.agg #[.int .i64 0, .int .i64 0, .int .i64 0]) [(0, 1, (t 62)), (1, 1, (t 67)), (2, 1, (t 73))])) (.alt [o 74 (.build (.agg #[.int .i64 0, .int .i64 0, .int .i64 0]) [(0, 1, (t 62)), (1, 1, (t 67)), (2, 1, (t 73))]), o 73 (.bin .add (k 1) (t 72)), o 72 (.bin .rem (t 71) (k 9)), o 67 (.bin .rem (t 66) (k 3)), o 62 (.load none (t 61)), o 61 (.ia 1 (t 55) (t 60)), o 60 (.bin .rem (t 59) (k 11))] (o 8 (.alloc (.agg #[.int .i64 0, .int .i64 0, .int .i64 0])))
 (.alt [] (u (.store 3 (t 8) (t 74)))
 (.done)
 (.none))
 (.none)))))
 (.alt [o 67 (.bin .rem (t 66) (k 3)), o 62 (.load none (t 61)), o 61 (.ia 1 (t 55) (t 60)), o 60 (.bin .rem (t 59) (k 11)), o 70 (.bin .add (t 69) (k 5)), m 69 7, m 68 0] (o 8 (.alloc (.agg #[.int .i64 0, .int .i64 0, .int .i64 0])))
 (.alt [o 67 (.bin .rem (t 66) (k 3)), o 62 (.load none (t 61)), o 61 (.ia 1 (t 55) (t 60)), o 60 (.bin .rem (t 59) (k 11))] (o 71 (.call 16 [(t 68), (t 70)]))
 (.rd (o 72 (.bin .rem (t 71) (k 9))) (.rd (o 73 (.bin .add (k 1) (t 72))) (.rd (o 74 (.build (.agg #[.int .i64 0, .int .i64 0, .int .i64 0]) [(0, 1, (t 62)), (1, 1, (t 67)), (2, 1, (t 73))])) (.alt [] (u (.store 3 (t 8) (t 74)))
 (.done)
 (.none)))))
 (.none))
 (.none))))
 (.alt [o 62 (.load none (t 61)), o 61 (.ia 1 (t 55) (t 60)), o 60 (.bin .rem (t 59) (k 11)), o 70 (.bin .add (t 69) (k 5)), m 69 7, m 68 0, o 65 (.bin .add (t 64) (k 4)), m 64 7, m 63 0] (o 8 (.alloc (.agg #[.int .i64 0, .int .i64 0, .int .i64 0])))
 (.alt [o 62 (.load none (t 61)), o 61 (.ia 1 (t 55) (t 60)), o 60 (.bin .rem (t 59) (k 11)), o 70 (.bin .add (t 69) (k 5)), m 69 7, m 68 0] (o 66 (.call 16 [(t 63), (t 65)]))
 (.rd (o 67 (.bin .rem (t 66) (k 3))) (.alt [o 67 (.bin .rem (t 66) (k 3)), o 62 (.load none (t 61)), o 61 (.ia 1 (t 55) (t 60)), o 60 (.bin .rem (t 59) (k 11))] (o 71 (.call 16 [(t 68), (t 70)]))
 (.rd (o 72 (.bin .rem (t 71) (k 9))) (.rd (o 73 (.bin .add (k 1) (t 72))) (.rd (o 74 (.build (.agg #[.int .i64 0, .int .i64 0, .int .i64 0]) [(0, 1, (t 62)), (1, 1, (t 67)), (2, 1, (t 73))])) (.alt [] (u (.store 3 (t 8) (t 74)))
 (.done)
 (.none)))))
 (.none)))
 (.none))
 (.none)))))
 (.alt [o 60 (.bin .rem (t 59) (k 11)), o 70 (.bin .add (t 69) (k 5)), m 69 7, m 68 0] (o 66 (.call 16 [(t 63), (t 65)]))
 (.rd (o 67 (.bin .rem (t 66) (k 3))) (.alt [o 67 (.bin .rem (t 66) (k 3)), o 60 (.bin .rem (t 59) (k 11)), o 70 (.bin .add (t 69) (k 5)), m 69 7, m 68 0] (o 55 (.bsl 1 (.int .i64 0) 11 [(0, (k 1)), (1, (k 1)), (2, (k 2)), (3, (k 3)), (4, (k 3)), (5, (k 3)), (6, (k 3)), (7, (k 3)), (8, (k 4)), (9, (k 5)), (10, (k 6))]))
 (.rd (o 61 (.ia 1 (t 55) (t 60))) (.rd (o 62 (.load none (t 61))) (.alt [o 62 (.load none (t 61)), o 61 (.ia 1 (t 55) (t 60)), o 67 (.bin .rem (t 66) (k 3)), o 60 (.bin .rem (t 59) (k 11))] (o 71 (.call 16 [(t 68), (t 70)]))
 (.rd (o 72 (.bin .rem (t 71) (k 9))) (.rd (o 73 (.bin .add (k 1) (t 72))) (.rd (o 74 (.build (.agg #[.int .i64 0, .int .i64 0, .int .i64 0]) [(0, 1, (t 62)), (1, 1, (t 67)), (2, 1, (t 73))])) (.alt [o 74 (.build (.agg #[.int .i64 0, .int .i64 0, .int .i64 0]) [(0, 1, (t 62)), (1, 1, (t 67)), (2, 1, (t 73))]), o 73 (.bin .add (k 1) (t 72)), o 72 (.bin .rem (t 71) (k 9)), o 62 (.load none (t 61)), o 61 (.ia 1 (t 55) (t 60)), o 67 (.bin .rem (t 66) (k 3)), o 60 (.bin .rem (t 59) (k 11))] (o 8 (.alloc (.agg #[.int .i64 0, .int .i64 0, .int .i64 0])))
 (.alt [] (u (.store 3 (t 8) (t 74)))
 (.done)
 (.none))
 (.none)))))
 (.alt [o 62 (.load none (t 61)), o 61 (.ia 1 (t 55) (t 60)), o 67 (.bin .rem (t 66) (k 3)), o 60 (.bin .rem (t 59) (k 11)), o 70 (.bin .add (t 69) (k 5)), m 69 7, m 68 0] (o 8 (.alloc (.agg #[.int .i64 0, .int .i64 0, .int .i64 0])))
 (.alt [o 62 (.load none (t 61)), o 61 (.ia 1 (t 55) (t 60)), o 67 (.bin .rem (t 66) (k 3)), o 60 (.bin .rem (t 59) (k 11))] (o 71 (.call 16 [(t 68), (t 70)]))
 (.rd (o 72 (.bin .rem (t 71) (k 9))) (.rd (o 73 (.bin .add (k 1) (t 72))) (.rd (o 74 (.build (.agg #[.int .i64 0, .int .i64 0, .int .i64 0]) [(0, 1, (t 62)), (1, 1, (t 67)), (2, 1, (t 73))])) (.alt [] (u (.store 3 (t 8) (t 74)))
 (.done)
 (.none)))))
 (.none))
 (.none)))))
 (.alt [o 67 (.bin .rem (t 66) (k 3)), o 60 (.bin .rem (t 59) (k 11))] (o 71 (.call 16 [(t 68), (t 70)]))
 (.rd (o 72 (.bin .rem (t 71) (k 9))) (.rd (o 73 (.bin .add (k 1) (t 72))) (.alt [o 73 (.bin .add (k 1) (t 72)), o 72 (.bin .rem (t 71) (k 9)), o 67 (.bin .rem (t 66) (k 3)), o 60 (.bin .rem (t 59) (k 11))] (o 55 (.bsl 1 (.int .i64 0) 11 [(0, (k 1)), (1, (k 1)), (2, (k 2)), (3, (k 3)), (4, (k 3)), (5, (k 3)), (6, (k 3)), (7, (k 3)), (8, (k 4)), (9, (k 5)), (10, (k 6))]))
 (.rd (o 61 (.ia 1 (t 55) (t 60))) (.rd (o 62 (.load none (t 61))) (.rd (o 74 (.build (.agg #[.int .i64 0, .int .i64 0, .int .i64 0]) [(0, 1, (t 62)), (1, 1, (t 67)), (2, 1, (t 73))])) (.alt [o 74 (.build (.agg #[.int .i64 0, .int .i64 0, .int .i64 0]) [(0, 1, (t 62)), (1, 1, (t 67)), (2, 1, (t 73))]), o 62 (.load none (t 61)), o 61 (.ia 1 (t 55) (t 60)), o 73 (.bin .add (k 1) (t 72)), o 72 (.bin .rem (t 71) (k 9)), o 67 (.bin .rem (t 66) (k 3)), o 60 (.bin .rem (t 59) (k 11))] (o 8 (.alloc (.agg #[.int .i64 0, .int .i64 0, .int .i64 0])))
 (.alt [] (u (.store 3 (t 8) (t 74)))
 (.done)
 (.none))
 (.none)))))
 (.alt [o 73 (.bin .add (k 1) (t 72)), o 72 (.bin .rem (t 71) (k 9)), o 67 (.bin .rem (t 66) (k 3)), o 60 (.bin .rem (t 59) (k 11))] (o 8 (.alloc (.agg #[.int .i64 0, .int .i64 0, .int .i64 0])))
 (.alt [o 73 (.bin .add (k 1) (t 72)), o 72 (.bin .rem (t 71) (k 9)), o 67 (.bin .rem (t 66) (k 3)), o 60 (.bin .rem (t 59) (k 11))] (o 55 (.bsl 1 (.int .i64 0) 11 [(0, (k 1)), (1, (k 1)), (2, (k 2)), (3, (k 3)), (4, (k 3)), (5, (k 3)), (6, (k 3)), (7, (k 3)), (8, (k 4)), (9, (k 5)), (10, (k 6))]))
 (.rd (o 61 (.ia 1 (t 55) (t 60))) (.rd (o 62 (.load none (t 61))) (.rd (o 74 (.build (.agg #[.int .i64 0, .int .i64 0, .int .i64 0]) [(0, 1, (t 62)), (1, 1, (t 67)), (2, 1, (t 73))])) (.alt [] (u (.store 3 (t 8) (t 74)))
 (.done)
 (.none)))))
 (.none))
 (.none)))))
 (.alt [o 67 (.bin .rem (t 66) (k 3)), o 60 (.bin .rem (t 59) (k 11)), o 70 (.bin .add (t 69) (k 5)), m 69 7, m 68 0] (o 8 (.alloc (.agg #[.int .i64 0, .int .i64 0, .int .i64 0])))
 (.alt [o 67 (.bin .rem (t 66) (k 3)), o 60 (.bin .rem (t 59) (k 11)), o 70 (.bin .add (t 69) (k 5)), m 69 7, m 68 0] (o 55 (.bsl 1 (.int .i64 0) 11 [(0, (k 1)), (1, (k 1)), (2, (k 2)), (3, (k 3)), (4, (k 3)), (5, (k 3)), (6, (k 3)), (7, (k 3)), (8, (k 4)), (9, (k 5)), (10, (k 6))]))
 (.rd (o 61 (.ia 1 (t 55) (t 60))) (.rd (o 62 (.load none (t 61))) (.alt [o 62 (.load none (t 61)), o 61 (.ia 1 (t 55) (t 60)), o 67 (.bin .rem (t 66) (k 3)), o 60 (.bin .rem (t 59) (k 11))] (o 71 (.call 16 [(t 68), (t 70)]))
 (.rd (o 72 (.bin .rem (t 71) (k 9))) (.rd (o 73 (.bin .add (k 1) (t 72))) (.rd (o 74 (.build (.agg #[.int .i64 0, .int .i64 0, .int .i64 0]) [(0, 1, (t 62)), (1, 1, (t 67)), (2, 1, (t 73))])) (.alt [] (u (.store 3 (t 8) (t 74)))
 (.done)
 (.none)))))
 (.none))))
 (.alt [o 67 (.bin .rem (t 66) (k 3)), o 60 (.bin .rem (t 59) (k 11))] (o 71 (.call 16 [(t 68), (t 70)]))
 (.rd (o 72 (.bin .rem (t 71) (k 9))) (.rd (o 73 (.bin .add (k 1) (t 72))) (.alt [o 73 (.bin .add (k 1) (t 72)), o 72 (.bin .rem (t 71) (k 9)), o 67 (.bin .rem (t 66) (k 3)), o 60 (.bin .rem (t 59) (k 11))] (o 55 (.bsl 1 (.int .i64 0) 11 [(0, (k 1)), (1, (k 1)), (2, (k 2)), (3, (k 3)), (4, (k 3)), (5, (k 3)), (6, (k 3)), (7, (k 3)), (8, (k 4)), (9, (k 5)), (10, (k 6))]))
 (.rd (o 61 (.ia 1 (t 55) (t 60))) (.rd (o 62 (.load none (t 61))) (.rd (o 74 (.build (.agg #[.int .i64 0, .int .i64 0, .int .i64 0]) [(0, 1, (t 62)), (1, 1, (t 67)), (2, 1, (t 73))])) (.alt [] (u (.store 3 (t 8) (t 74)))
 (.done)
 (.none)))))
 (.none))))
 (.none)))
 (.none)))))
 (.alt [o 60 (.bin .rem (t 59) (k 11)), o 70 (.bin .add (t 69) (k 5)), m 69 7, m 68 0, o 65 (.bin .add (t 64) (k 4)), m 64 7, m 63 0] (o 8 (.alloc (.agg #[.int .i64 0, .int .i64 0, .int .i64 0])))
 (.alt [o 60 (.bin .rem (t 59) (k 11)), o 70 (.bin .add (t 69) (k 5)), m 69 7, m 68 0, o 65 (.bin .add (t 64) (k 4)), m 64 7, m 63 0] (o 55 (.bsl 1 (.int .i64 0) 11 [(0, (k 1)), (1, (k 1)), (2, (k 2)), (3, (k 3)), (4, (k 3)), (5, (k 3)), (6, (k 3)), (7, (k 3)), (8, (k 4)), (9, (k 5)), (10, (k 6))]))
 (.rd (o 61 (.ia 1 (t 55) (t 60))) (.rd (o 62 (.load none (t 61))) (.alt [o 62 (.load none (t 61)), o 61 (.ia 1 (t 55) (t 60)), o 60 (.bin .rem (t 59) (k 11)), o 70 (.bin .add (t 69) (k 5)), m 69 7, m 68 0] (o 66 (.call 16 [(t 63), (t 65)]))
 (.rd (o 67 (.bin .rem (t 66) (k 3))) (.alt [o 67 (.bin .rem (t 66) (k 3)), o 62 (.load none (t 61)), o 61 (.ia 1 (t 55) (t 60)), o 60 (.bin .rem (t 59) (k 11))] (o 71 (.call 16 [(t 68), (t 70)]))
 (.rd (o 72 (.bin .rem (t 71) (k 9))) (.rd (o 73 (.bin .add (k 1) (t 72))) (.rd (o 74 (.build (.agg #[.int .i64 0, .int .i64 0, .int .i64 0]) [(0, 1, (t 62)), (1, 1, (t 67)), (2, 1, (t 73))])) (.alt [] (u (.store 3 (t 8) (t 74)))
 (.done)
 (.none)))))
 (.none)))
 (.none))))
 (.alt [o 60 (.bin .rem (t 59) (k 11)), o 70 (.bin .add (t 69) (k 5)), m 69 7, m 68 0] (o 66 (.call 16 [(t 63), (t 65)]))
 (.rd (o 67 (.bin .rem (t 66) (k 3))) (.alt [o 67 (.bin .rem (t 66) (k 3)), o 60 (.bin .rem (t 59) (k 11)), o 70 (.bin .add (t 69) (k 5)), m 69 7, m 68 0] (o 55 (.bsl 1 (.int .i64 0) 11 [(0, (k 1)), (1, (k 1)), (2, (k 2)), (3, (k 3)), (4, (k 3)), (5, (k 3)), (6, (k 3)), (7, (k 3)), (8, (k 4)), (9, (k 5)), (10, (k 6))]))
 (.rd (o 61 (.ia 1 (t 55) (t 60))) (.rd (o 62 (.load none (t 61))) (.alt [o 62 (.load none (t 61)), o 61 (.ia 1 (t 55) (t 60)), o 67 (.bin .rem (t 66) (k 3)), o 60 (.bin .rem (t 59) (k 11))] (o 71 (.call 16 [(t 68), (t 70)]))
 (.rd (o 72 (.bin .rem (t 71) (k 9))) (.rd (o 73 (.bin .add (k 1) (t 72))) (.rd (o 74 (.build (.agg #[.int .i64 0, .int .i64 0, .int .i64 0]) [(0, 1, (t 62)), (1, 1, (t 67)), (2, 1, (t 73))])) (.alt [] (u (.store 3 (t 8) (t 74)))
 (.done)
 (.none)))))
 (.none))))
 (.alt [o 67 (.bin .rem (t 66) (k 3)), o 60 (.bin .rem (t 59) (k 11))] (o 71 (.call 16 [(t 68), (t 70)]))
 (.rd (o 72 (.bin .rem (t 71) (k 9))) (.rd (o 73 (.bin .add (k 1) (t 72))) (.alt [o 73 (.bin .add (k 1) (t 72)), o 72 (.bin .rem (t 71) (k 9)), o 67 (.bin .rem (t 66) (k 3)), o 60 (.bin .rem (t 59) (k 11))] (o 55 (.bsl 1 (.int .i64 0) 11 [(0, (k 1)), (1, (k 1)), (2, (k 2)), (3, (k 3)), (4, (k 3)), (5, (k 3)), (6, (k 3)), (7, (k 3)), (8, (k 4)), (9, (k 5)), (10, (k 6))]))
 (.rd (o 61 (.ia 1 (t 55) (t 60))) (.rd (o 62 (.load none (t 61))) (.rd (o 74 (.build (.agg #[.int .i64 0, .int .i64 0, .int .i64 0]) [(0, 1, (t 62)), (1, 1, (t 67)), (2, 1, (t 73))])) (.alt [] (u (.store 3 (t 8) (t 74)))
 (.done)
 (.none)))))
 (.none))))
 (.none))))
 (.none)))
 (.none)))))
 (.alt [o 70 (.bin .add (t 69) (k 5)), m 69 7, m 68 0, o 65 (.bin .add (t 64) (k 4)), m 64 7, m 63 0, o 58 (.bin .add (t 57) (k 3)), m 57 7, m 56 0] (o 8 (.alloc (.agg #[.int .i64 0, .int .i64 0, .int .i64 0])))
 (.alt [o 70 (.bin .add (t 69) (k 5)), m 69 7, m 68 0, o 65 (.bin .add (t 64) (k 4)), m 64 7, m 63 0, o 58 (.bin .add (t 57) (k 3)), m 57 7, m 56 0] (o 55 (.bsl 1 (.int .i64 0) 11 [(0, (k 1)), (1, (k 1)), (2, (k 2)), (3, (k 3)), (4, (k 3)), (5, (k 3)), (6, (k 3)), (7, (k 3)), (8, (k 4)), (9, (k 5)), (10, (k 6))]))
 (.alt [o 70 (.bin .add (t 69) (k 5)), m 69 7, m 68 0, o 65 (.bin .add (t 64) (k 4)), m 64 7, m 63 0] (o 59 (.call 16 [(t 56), (t 58)]))
 (.rd (o 60 (.bin .rem (t 59) (k 11))) (.rd (o 61 (.ia 1 (t 55) (t 60))) (.rd (o 62 (.load none (t 61))) (.alt [o 62 (.load none (t 61)), o 61 (.ia 1 (t 55) (t 60)), o 60 (.bin .rem (t 59) (k 11)), o 70 (.bin .add (t 69) (k 5)), m 69 7, m 68 0] (o 66 (.call 16 [(t 63), (t 65)]))
 (.rd (o 67 (.bin .rem (t 66) (k 3))) (.alt [o 67 (.bin .rem (t 66) (k 3)), o 62 (.load none (t 61)), o 61 (.ia 1 (t 55) (t 60)), o 60 (.bin .rem (t 59) (k 11))] (o 71 (.call 16 [(t 68), (t 70)]))
 (.rd (o 72 (.bin .rem (t 71) (k 9))) (.rd (o 73 (.bin .add (k 1) (t 72))) (.rd (o 74 (.build (.agg #[.int .i64 0, .int .i64 0, .int .i64 0]) [(0, 1, (t 62)), (1, 1, (t 67)), (2, 1, (t 73))])) (.alt [] (u (.store 3 (t 8) (t 74)))
 (.done)
 (.none)))))
 (.none)))
 (.none)))))
 (.none))
 (.alt [o 70 (.bin .add (t 69) (k 5)), m 69 7, m 68 0, o 65 (.bin .add (t 64) (k 4)), m 64 7, m 63 0] (o 59 (.call 16 [(t 56), (t 58)]))
 (.rd (o 60 (.bin .rem (t 59) (k 11))) (.alt [o 60 (.bin .rem (t 59) (k 11)), o 70 (.bin .add (t 69) (k 5)), m 69 7, m 68 0, o 65 (.bin .add (t 64) (k 4)), m 64 7, m 63 0] (o 55 (.bsl 1 (.int .i64 0) 11 [(0, (k 1)), (1, (k 1)), (2, (k 2)), (3, (k 3)), (4, (k 3)), (5, (k 3)), (6, (k 3)), (7, (k 3)), (8, (k 4)), (9, (k 5)), (10, (k 6))]))
 (.rd (o 61 (.ia 1 (t 55) (t 60))) (.rd (o 62 (.load none (t 61))) (.alt [o 62 (.load none (t 61)), o 61 (.ia 1 (t 55) (t 60)), o 60 (.bin .rem (t 59) (k 11)), o 70 (.bin .add (t 69) (k 5)), m 69 7, m 68 0] (o 66 (.call 16 [(t 63), (t 65)]))
 (.rd (o 67 (.bin .rem (t 66) (k 3))) (.alt [o 67 (.bin .rem (t 66) (k 3)), o 62 (.load none (t 61)), o 61 (.ia 1 (t 55) (t 60)), o 60 (.bin .rem (t 59) (k 11))] (o 71 (.call 16 [(t 68), (t 70)]))
 (.rd (o 72 (.bin .rem (t 71) (k 9))) (.rd (o 73 (.bin .add (k 1) (t 72))) (.rd (o 74 (.build (.agg #[.int .i64 0, .int .i64 0, .int .i64 0]) [(0, 1, (t 62)), (1, 1, (t 67)), (2, 1, (t 73))])) (.alt [] (u (.store 3 (t 8) (t 74)))
 (.done)
 (.none)))))
 (.none)))
 (.none))))
 (.alt [o 60 (.bin .rem (t 59) (k 11)), o 70 (.bin .add (t 69) (k 5)), m 69 7, m 68 0] (o 66 (.call 16 [(t 63), (t 65)]))
 (.rd (o 67 (.bin .rem (t 66) (k 3))) (.alt [o 67 (.bin .rem (t 66) (k 3)), o 60 (.bin .rem (t 59) (k 11)), o 70 (.bin .add (t 69) (k 5)), m 69 7, m 68 0] (o 55 (.bsl 1 (.int .i64 0) 11 [(0, (k 1)), (1, (k 1)), (2, (k 2)), (3, (k 3)), (4, (k 3)), (5, (k 3)), (6, (k 3)), (7, (k 3)), (8, (k 4)), (9, (k 5)), (10, (k 6))]))
 (.rd (o 61 (.ia 1 (t 55) (t 60))) (.rd (o 62 (.load none (t 61))) (.alt [o 62 (.load none (t 61)), o 61 (.ia 1 (t 55) (t 60)), o 67 (.bin .rem (t 66) (k 3)), o 60 (.bin .rem (t 59) (k 11))] (o 71 (.call 16 [(t 68), (t 70)]))
 (.rd (o 72 (.bin .rem (t 71) (k 9))) (.rd (o 73 (.bin .add (k 1) (t 72))) (.rd (o 74 (.build (.agg #[.int .i64 0, .int .i64 0, .int .i64 0]) [(0, 1, (t 62)), (1, 1, (t 67)), (2, 1, (t 73))])) (.alt [] (u (.store 3 (t 8) (t 74)))
 (.done)
 (.none)))))
 (.none))))
 (.alt [o 67 (.bin .rem (t 66) (k 3)), o 60 (.bin .rem (t 59) (k 11))] (o 71 (.call 16 [(t 68), (t 70)]))
 (.rd (o 72 (.bin .rem (t 71) (k 9))) (.rd (o 73 (.bin .add (k 1) (t 72))) (.alt [o 73 (.bin .add (k 1) (t 72)), o 72 (.bin .rem (t 71) (k 9)), o 67 (.bin .rem (t 66) (k 3)), o 60 (.bin .rem (t 59) (k 11))] (o 55 (.bsl 1 (.int .i64 0) 11 [(0, (k 1)), (1, (k 1)), (2, (k 2)), (3, (k 3)), (4, (k 3)), (5, (k 3)), (6, (k 3)), (7, (k 3)), (8, (k 4)), (9, (k 5)), (10, (k 6))]))
 (.rd (o 61 (.ia 1 (t 55) (t 60))) (.rd (o 62 (.load none (t 61))) (.rd (o 74 (.build (.agg #[.int .i64 0, .int .i64 0, .int .i64 0]) [(0, 1, (t 62)), (1, 1, (t 67)), (2, 1, (t 73))])) (.alt [] (u (.store 3 (t 8) (t 74)))
 (.done)
 (.none)))))
 (.none))))
 (.none))))
 (.none))))
 (.none)))
 (.none))))))))))))))
 (.kept [0, 3, 7, 8] (.seq (.ops [o 76 (.load (some 6) (t 3)),
 (o 77 (.load (some 3) (t 8))),
 (o 78 (.bsl 3 (.agg #[.int .i64 0, .int .i64 0, .int .i64 0]) 1 [(0, (t 77))])),
 (o 79 (.call 25 [(t 76), (t 78)])),
 m 75 79,
 (o 80 (.ext 0 (t 75))),
 (o 81 (.ext 1 (t 75))),
 (o 9 (.alloc (.agg #[.slice none 0 0, .int .i64 0, .slice none 0 0, .int .i64 0, .slice none 0 0, .slice none 0 0]))),
 (u (.store 6 (t 9) (t 80))),
 m 10 81])
 (.kept [0, 3, 7, 8, 9, 10] (.seq (.seq (.ops [o 83 (.load (some 6) (t 3)),
 (o 84 (.load (some 3) (t 8))),
 (o 85 (.bsl 3 (.agg #[.int .i64 0, .int .i64 0, .int .i64 0]) 1 [(0, (t 84))])),
 (o 86 (.call 23 [(t 83), (t 85)])),
 m 82 86,
 (o 87 (.ext 0 (t 82))),
 (o 88 (.ext 1 (t 82))),
 (o 11 (.alloc (.agg #[.slice none 0 0, .int .i64 0, .slice none 0 0, .int .i64 0, .slice none 0 0, .slice none 0 0]))),
 (u (.store 6 (t 11) (t 87))),
 m 12 88])
 (.kept [0, 3, 7, 9, 10, 11, 12] (.seq (.ops [m 89 10,
 m 90 12,
 (o 91 (.eqb true (t 89) (t 90))),
 m 92 91,
 (g 93 92 false (.load (some 6) (t 9))),
 (g 94 92 false (.load (some 6) (t 11))),
 (g 95 92 false (.call 18 [(t 93), (t 94)])),
 (g 96 92 false (.not (t 95))),
 (o 97 (.pick (t 92) tt (t 96))),
 m 98 97,
 (g 99 98 false (.load (some 6) (t 9))),
 (g 100 98 false (.call 29 [(t 99)])),
 (g 101 98 false (.not (t 100))),
 (o 102 (.pick (t 98) tt (t 101))),
 m 103 102,
 (g 104 103 false (.load (some 6) (t 9))),
 (g 105 103 false (.call 30 [(t 104)])),
 (g 106 103 false (.not (t 105))),
 (o 107 (.pick (t 103) tt (t 106)))])
 (.kept [0, 3, 7, 9, 107] (.cond (t 107) (.seq (.ops [o 2 (.mv ff)])
 (.ret)) (.skip))))))
 (.kept [0, 3, 7, 9] (.ops [o 108 (.load (some 6) (t 9)),
 (u (.store 6 (t 3) (t 108)))]))))))))
 (.kept [0, 3, 7] (.ops [m 53 7,
 (o 54 (.bin .add (t 53) (k 1))),
 m 7 54])))
def c_laws_FnFair : AS :=
 .seq (.ops [o 2 (.mv ff)])
 (.seq (.seq (.ops [m 13 0,
 (o 14 (.call 15 [(t 13)]))])
 (.cond (t 14) (.seq (.ops [o 2 (.mv tt)])
 (.ret)) (.skip)))
 (.seq (.ops [m 16 0,
 (o 17 (.call 16 [(t 16), (k 0)])),
 (o 18 (.bin .rem (t 17) (k 3))),
 m 19 0,
 (o 20 (.call 16 [(t 19), (k 1)])),
 (o 21 (.bin .rem (t 20) (k 3))),
 (o 22 (.bsl 1 (.int .i64 0) 3 [(0, (k 0)), (1, (t 18)), (2, (t 21))])),
 m 23 0,
 (o 24 (.call 16 [(t 23), (k 2)])),
 (o 25 (.bin .rem (t 24) (k 4))),
 (o 26 (.call 17 [(t 22), (t 25)])),
 m 15 26,
 (o 27 (.ext 0 (t 15))),
 (o 28 (.ext 1 (t 15))),
 (o 3 (.alloc (.agg #[.slice none 0 0, .int .i64 0, .slice none 0 0, .int .i64 0, .slice none 0 0, .slice none 0 0]))),
 (u (.store 6 (t 3) (t 27))),
 m 4 28])
 (.kept [0, 3, 4] (.seq (.seq (.ops [m 30 0,
 (o 31 (.call 16 [(t 30), (k 0)])),
 (o 32 (.bin .rem (t 31) (k 3))),
 m 33 0,
 (o 34 (.call 16 [(t 33), (k 1)])),
 (o 35 (.bin .rem (t 34) (k 3))),
 (o 36 (.bsl 1 (.int .i64 0) 3 [(0, (k 0)), (1, (t 32)), (2, (t 35))])),
 m 37 0,
 (o 38 (.call 16 [(t 37), (k 2)])),
 (o 39 (.bin .rem (t 38) (k 4))),
 (o 40 (.call 28 [(t 36), (t 39)])),
 m 29 40,
 (o 41 (.ext 0 (t 29))),
 (o 42 (.ext 1 (t 29))),
 (o 5 (.alloc (.agg #[.slice none 0 0, .int .i64 0, .slice none 0 0, .int .i64 0, .slice none 0 0, .slice none 0 0]))),
 (u (.store 6 (t 5) (t 41))),
 m 6 42])
 (.kept [0, 3, 4, 5] (.seq (.ops [m 43 4,
 (o 44 (.not (t 43))),
 m 45 44,
 (g 46 45 false (.load (some 6) (t 3))),
 (g 47 45 false (.load (some 6) (t 5))),
 (g 48 45 false (.call 18 [(t 46), (t 47)])),
 (g 49 45 false (.not (t 48))),
 (o 50 (.pick (t 45) tt (t 49)))])
 (.kept [0, 3, 50] (.cond (t 50) (.seq (.ops [o 2 (.mv ff)])
 (.ret)) (.skip))))))
 (.kept [0, 3] (.seq (.seq (.ops [o 7 (.mv (k 0))])
 (.block 0 (.loop 1 [(0, 0), (3, 0), (7, 0)] c_laws_FnFair_l1)))
 (.kept [] (.seq (.ops [o 2 (.mv tt)])
 (.ret)))))))))
theorem h_laws_FnFair : hF Tryz.prog n_laws_FnFair = some c_laws_FnFair.strip := by kernel_rfl
theorem r_laws_FnFair : rF Tryz.prog n_laws_FnFair = some ([.tmp 2], 109) := by kernel_rfl
abbrev n_spec_StandUp : Nat := 9
def c_spec_StandUp_l1 : AS :=
 .seq (.seq (.ops [m 50 8,
 (o 51 (.fa 0 (t 2))),
 (o 52 (.load none (t 51))),
 (o 53 (.lens (t 52))),
 (o 54 (.bin .lss (t 50) (t 53)))])
 (.cond (t 54) (.skip) (.exit 0)))
 (.seq (.block 1 (.seq (.ops [m 57 8,
 m 58 1,
 (o 59 (.bin .neq (t 57) (t 58)))])
 (.cond (t 59) (.rops [(none, o 60 (.fa 1 (t 6))),
 (none, o 61 (.load (some 4) (t 60))),
 (none, m 62 1),
 (none, m 63 8),
 (none, m 64 7),
 (some [m 63 8, m 62 1, o 61 (.load (some 4) (t 60)), o 60 (.fa 1 (t 6))], o 65 (.call 37 [(t 64)])),
 (none, o 66 (.bin .add (.const (.string ⟨⟨[97]⟩⟩)) (t 65))),
 (some [], o 67 (.call 36 [(t 61), (t 62), (t 63), (t 66)])),
 (none, o 68 (.fa 1 (t 6))),
 (some [], u (.store 4 (t 68) (t 67)))]) (.skip))))
 (.kept [1, 2, 4, 6, 7, 8] (.ops [m 55 8,
 (o 56 (.bin .add (t 55) (k 1))),
 m 8 56])))
def c_spec_StandUp : AS :=
 .seq (.ops [o 2 (.box (t 0)),
 (o 4 (.alloc (.agg #[.slice none 0 0, .int .i64 0, .slice none 0 0, .int .i64 0, .slice none 0 0, .slice none 0 0]))),
 (o 5 (.mv ff))])
 (.seq (.seq (.ops [o 9 (.load (some 6) (t 2)),
 m 10 1,
 (o 11 (.call 34 [(t 9), (t 10)])),
 (o 12 (.not (t 11))),
 m 13 12,
 (g 14 13 false (.fa 0 (t 2))),
 (g 15 13 false (.load none (t 14))),
 mg 16 13 false 1,
 (g 17 13 false (.ia 5 (t 15) (t 16))),
 (g 18 13 false (.fa 0 (t 17))),
 (g 19 13 false (.load none (t 18))),
 (g 20 13 false (.not (t 19))),
 (o 21 (.pick (t 13) tt (t 20))),
 m 22 21,
 (g 23 22 false (.fa 0 (t 2))),
 (g 24 22 false (.load none (t 23))),
 mg 25 22 false 1,
 (g 26 22 false (.ia 5 (t 24) (t 25))),
 (g 27 22 false (.fa 1 (t 26))),
 (g 28 22 false (.load none (t 27))),
 (g 29 22 false (.bin .eql (t 28) (k 200))),
 (o 30 (.pick (t 22) tt (t 29)))])
 (.kept [1, 2, 4, 30] (.cond (t 30) (.seq (.ops [o 31 (.build (.agg #[.slice none 0 0, .int .i64 0, .slice none 0 0, .int .i64 0, .slice none 0 0, .slice none 0 0]) []),
 (u (.store 6 (t 4) (t 31))),
 (o 5 (.mv ff))])
 (.ret)) (.skip))))
 (.kept [1, 2, 4] (.seq (.ops [o 32 (.load (some 6) (t 2)),
 (o 33 (.call 35 [(t 32)])),
 (o 6 (.alloc (.agg #[.slice none 0 0, .int .i64 0, .slice none 0 0, .int .i64 0, .slice none 0 0, .slice none 0 0]))),
 (u (.store 6 (t 6) (t 33)))])
 (.seq (.ops [o 34 (.fa 0 (t 2)),
 (o 35 (.load none (t 34))),
 m 36 1,
 (o 37 (.ia 5 (t 35) (t 36))),
 (o 38 (.fa 1 (t 37))),
 (o 39 (.load none (t 38))),
 (o 40 (.bin .add (t 39) (k 1))),
 m 7 40])
 (.kept [1, 2, 4, 6, 7] (.seq (.post [(49, 1, [(3, 1)])] (.ops [o 41 (.fa 0 (t 6)),
 (o 42 (.load none (t 41))),
 m 43 1,
 m 44 7,
 m 45 1,
 m 46 1,
 (o 47 (.bsl 1 (.int .i64 0) 1 [(0, (t 46))])),
 (o 48 (.build (.agg #[.bool false, .int .i64 0, .int .i64 0, .slice none 0 0, .bool false]) [(0, 1, tt), (1, 1, (t 44)), (2, 1, (t 45)), (3, 1, (t 47))])),
 (o 49 (.ia 5 (t 42) (t 43))),
 (u (.store 5 (t 49) (t 48)))]))
 (.kept [1, 2, 4, 6, 7] (.seq (.seq (.ops [o 8 (.mv (k 0))])
 (.block 0 (.loop 2 [(1, 0), (2, 0), (4, 0), (6, 0), (7, 0), (8, 0)] c_spec_StandUp_l1)))
 (.kept [4, 6] (.seq (.ops [o 69 (.load (some 6) (t 6)),
 (u (.store 6 (t 4) (t 69))),
 (o 5 (.mv tt))])
 (.ret)))))))))))
theorem h_spec_StandUp : hF Tryz.prog n_spec_StandUp = some c_spec_StandUp.strip := by kernel_rfl
theorem r_spec_StandUp : rF Tryz.prog n_spec_StandUp = some ([.cell 4 37, .tmp 5], 70) := by kernel_rfl
abbrev n_impl_StandUp : Nat := 11
def c_impl_StandUp_l1 : AS :=
 .seq (.ops [o 54 (.bin .lss (t 53) (t 52))])
 (.seq (.cond (t 54) (.skip) (.exit 0))
 (.seq (.block 1 (.seq (.ops [m 55 53,
 m 8 55])
 (.ops [o 56 (.fa 1 (t 6)),
 m 57 1,
 m 58 8,
 m 59 7,
 (o 60 (.call 44 [(t 59)])),
 (o 61 (.bin .add (.const (.string ⟨⟨[97]⟩⟩)) (t 60))),
 (o 62 (.call 43 [(t 56), (t 57), (t 58), (t 61)]))])))
 (.kept [1, 4, 6, 7, 52, 53] (.ops [o 63 (.bin .add (t 53) (k 1)),
 m 53 63]))))
def c_impl_StandUp : AS :=
 .seq (.ops [o 2 (.box (t 0)),
 (o 4 (.alloc (.agg #[.slice none 0 0, .int .i64 0, .slice none 0 0, .int .i64 0, .slice none 0 0, .slice none 0 0]))),
 (o 5 (.mv ff))])
 (.seq (.seq (.ops [o 9 (.load (some 6) (t 2)),
 m 10 1,
 (o 11 (.call 41 [(t 9), (t 10)])),
 (o 12 (.not (t 11))),
 m 13 12,
 (g 14 13 false (.fa 0 (t 2))),
 (g 15 13 false (.load none (t 14))),
 mg 16 13 false 1,
 (g 17 13 false (.ia 5 (t 15) (t 16))),
 (g 18 13 false (.fa 0 (t 17))),
 (g 19 13 false (.load none (t 18))),
 (g 20 13 false (.not (t 19))),
 (o 21 (.pick (t 13) tt (t 20))),
 m 22 21,
 (g 23 22 false (.fa 0 (t 2))),
 (g 24 22 false (.load none (t 23))),
 mg 25 22 false 1,
 (g 26 22 false (.ia 5 (t 24) (t 25))),
 (g 27 22 false (.fa 1 (t 26))),
 (g 28 22 false (.load none (t 27))),
 (g 29 22 false (.bin .eql (t 28) (k 200))),
 (o 30 (.pick (t 22) tt (t 29)))])
 (.kept [1, 2, 4, 30] (.cond (t 30) (.seq (.ops [o 31 (.build (.agg #[.slice none 0 0, .int .i64 0, .slice none 0 0, .int .i64 0, .slice none 0 0, .slice none 0 0]) []),
 (u (.store 6 (t 4) (t 31))),
 (o 5 (.mv ff))])
 (.ret)) (.skip))))
 (.kept [1, 2, 4] (.seq (.post [(6, 1, [(0, 5), (2, 1), (4, 4), (5, 2)])] (.ops [o 32 (.load (some 6) (t 2)),
 (o 33 (.call 42 [(t 32)])),
 (o 6 (.alloc (.agg #[.slice none 0 0, .int .i64 0, .slice none 0 0, .int .i64 0, .slice none 0 0, .slice none 0 0]))),
 (u (.store 6 (t 6) (t 33)))]))
 (.seq (.ops [o 34 (.fa 0 (t 2)),
 (o 35 (.load none (t 34))),
 m 36 1,
 (o 37 (.ia 5 (t 35) (t 36))),
 (o 38 (.fa 1 (t 37))),
 (o 39 (.load none (t 38))),
 (o 40 (.bin .add (t 39) (k 1))),
 m 7 40])
 (.kept [1, 4, 6, 7] (.seq (.post [(49, 1, [(3, 1)]), (6, 1, [(0, 5), (2, 1), (4, 4), (5, 2)])] (.ops [o 41 (.fa 0 (t 6)),
 (o 42 (.load none (t 41))),
 m 43 1,
 m 44 7,
 m 45 1,
 m 46 1,
 (o 47 (.bsl 1 (.int .i64 0) 1 [(0, (t 46))])),
 (o 48 (.build (.agg #[.bool false, .int .i64 0, .int .i64 0, .slice none 0 0, .bool false]) [(0, 1, tt), (1, 1, (t 44)), (2, 1, (t 45)), (3, 1, (t 47))])),
 (o 49 (.ia 5 (t 42) (t 43))),
 (u (.store 5 (t 49) (t 48)))]))
 (.kept [1, 4, 6, 7] (.seq (.seq (.post [(6, 1, [(0, 5), (2, 1), (4, 4), (5, 2)])] (.ops [o 50 (.fa 0 (t 6)),
 (o 51 (.load none (t 50))),
 (o 52 (.lens (t 51))),
 (o 53 (.mv (k 0)))]))
 (.block 0 (.loop 2 [(1, 0), (4, 0), (6, 0), (7, 0), (52, 0), (53, 0)] c_impl_StandUp_l1)))
 (.kept [4, 6] (.seq (.ops [o 64 (.load (some 6) (t 6)),
 (u (.store 6 (t 4) (t 64))),
 (o 5 (.mv tt))])
 (.ret)))))))))))
theorem h_impl_StandUp : hF Tryz.prog n_impl_StandUp = some c_impl_StandUp.strip := by kernel_rfl
theorem r_impl_StandUp : rF Tryz.prog n_impl_StandUp = some ([.cell 4 37, .tmp 5], 65) := by kernel_rfl
abbrev n_laws_vBig : Nat := 15
def c_laws_vBig : AS :=
 .seq (.ops [o 2 (.mv ff)])
 (.seq (.ops [m 3 0,
 (o 4 (.lens (t 3))),
 (o 5 (.bin .gtr (t 4) (k 65536))),
 m 2 5])
 (.ret))
theorem h_laws_vBig : hF Tryz.prog n_laws_vBig = some c_laws_vBig.strip := by kernel_rfl
theorem r_laws_vBig : rF Tryz.prog n_laws_vBig = some ([.tmp 2], 6) := by kernel_rfl
abbrev n_laws_vAt : Nat := 16
def c_laws_vAt : AS :=
 .seq (.ops [o 4 (.mv (k 0))])
 (.seq (.seq (.ops [m 5 1,
 m 6 0,
 (o 7 (.lens (t 6))),
 (o 8 (.bin .lss (t 5) (t 7)))])
 (.cond (t 8) (.seq (.ops [m 9 0,
 m 10 1,
 (o 11 (.ia 1 (t 9) (t 10))),
 (o 12 (.load none (t 11))),
 (o 13 (.cvi .i64 (t 12))),
 m 4 13])
 (.ret)) (.skip)))
 (.kept [0, 1] (.seq (.ops [m 14 1,
 (o 15 (.bin .mul (t 14) (k 7))),
 m 16 0,
 (o 17 (.lens (t 16))),
 (o 18 (.bin .add (t 15) (t 17))),
 (o 19 (.bin .rem (t 18) (k 256))),
 m 4 19])
 (.ret))))
theorem h_laws_vAt : hF Tryz.prog n_laws_vAt = some c_laws_vAt.strip := by kernel_rfl
theorem r_laws_vAt : rF Tryz.prog n_laws_vAt = some ([.tmp 4], 20) := by kernel_rfl
abbrev n_impl_NewPoll : Nat := 17
def c_impl_NewPoll : AS :=
 .seq (.ops [o 4 (.alloc (.agg #[.slice none 0 0, .int .i64 0, .slice none 0 0, .int .i64 0, .slice none 0 0, .slice none 0 0])),
 (o 5 (.mv ff))])
 (.seq (.ops [m 9 0,
 m 10 1,
 (o 11 (.call 54 [(t 9), (t 10)])),
 m 8 11,
 (o 12 (.ext 0 (t 8))),
 (o 13 (.ext 1 (t 8))),
 (o 6 (.alloc (.agg #[.int .i64 0, .slice none 0 0, .int .i64 0, .slice none 0 0]))),
 (u (.store 4 (t 6) (t 12))),
 m 7 13])
 (.kept [0, 4, 6, 7] (.seq (.seq (.ops [m 14 7,
 (o 15 (.not (t 14))),
 m 16 15,
 mg 17 16 false 0,
 (g 18 16 false (.lens (t 17))),
 (g 19 16 false (.call 55 [(t 18)])),
 (g 20 16 false (.not (t 19))),
 (o 21 (.pick (t 16) tt (t 20)))])
 (.kept [0, 4, 6, 21] (.cond (t 21) (.seq (.ops [o 22 (.build (.agg #[.slice none 0 0, .int .i64 0, .slice none 0 0, .int .i64 0, .slice none 0 0, .slice none 0 0]) []),
 (u (.store 6 (t 4) (t 22))),
 (o 5 (.mv ff))])
 (.ret)) (.skip))))
 (.kept [0, 4, 6] (.seq (.post [(24, 1, [(3, 1)]), (27, 3, [(3, 1)])] (.rops [(none, o 23 (.build (.agg #[.bool false, .int .i64 0, .int .i64 0, .slice none 0 0, .bool false]) [(0, 1, tt), (2, 1, (k (-1)))])),
 (none, m 25 0),
 (none, o 26 (.lens (t 25))),
 (none, o 28 (.load (some 4) (t 6))),
 (some [o 28 (.load (some 4) (t 6)), o 26 (.lens (t 25)), m 25 0], o 24 (.bsl 5 (.agg #[.bool false, .int .i64 0, .int .i64 0, .slice none 0 0, .bool false]) 1 [(0, (t 23))])),
 (some [o 28 (.load (some 4) (t 6))], o 27 (.call 56 [(t 24), (t 26)])),
 (none, o 29 (.build (.agg #[.slice none 0 0, .int .i64 0, .slice none 0 0, .int .i64 0, .slice none 0 0, .slice none 0 0]) [(0, 1, (t 27)), (1, 4, (t 28))])),
 (some [], u (.store 6 (t 4) (t 29))),
 (none, o 5 (.mv tt))]))
 (.ret))))))
theorem h_impl_NewPoll : hF Tryz.prog n_impl_NewPoll = some c_impl_NewPoll.strip := by kernel_rfl
theorem r_impl_NewPoll : rF Tryz.prog n_impl_NewPoll = some ([.cell 4 37, .tmp 5], 30) := by kernel_rfl
abbrev n_laws_vPoll : Nat := 18
def c_laws_vPoll_l1 : AS :=
 .seq (.seq (.ops [m 33 5,
 (o 34 (.fa 0 (t 2))),
 (o 35 (.load none (t 34))),
 (o 36 (.lens (t 35))),
 (o 37 (.bin .lss (t 33) (t 36)))])
 (.cond (t 37) (.skip) (.exit 0)))
 (.seq (.block 1 (.seq (.post [(48, 1, [(3, 1)]), (43, 1, [(3, 1)])] (.tops [(2, 0), (3, 0), (5, 0), (6, 0), (7, 0), (43, 0), (48, 0)] (.rd (o 40 (.fa 0 (t 2))) (.rd (o 41 (.load none (t 40))) (.rd (m 42 5) (.rd (o 43 (.ia 5 (t 41) (t 42))) (.rd (o 44 (.load (some 5) (t 43))) (.rd (o 45 (.fa 0 (t 3))) (.rd (o 46 (.load none (t 45))) (.rd (m 47 5) (.rd (o 48 (.ia 5 (t 46) (t 47))) (.rd (o 49 (.load (some 5) (t 48))) (.alt [o 49 (.load (some 5) (t 48)), o 48 (.ia 5 (t 46) (t 47)), m 47 5, o 46 (.load none (t 45)), o 45 (.fa 0 (t 3)), o 44 (.load (some 5) (t 43)), o 43 (.ia 5 (t 41) (t 42)), m 42 5, o 41 (.load none (t 40)), o 40 (.fa 0 (t 2))] (o 6 (.alloc (.agg #[.bool false, .int .i64 0, .int .i64 0, .slice none 0 0, .bool false])))
 (.alt [o 49 (.load (some 5) (t 48)), o 48 (.ia 5 (t 46) (t 47)), m 47 5, o 46 (.load none (t 45)), o 45 (.fa 0 (t 3)), o 44 (.load (some 5) (t 43)), o 43 (.ia 5 (t 41) (t 42)), m 42 5, o 41 (.load none (t 40)), o 40 (.fa 0 (t 2))] (o 7 (.alloc (.agg #[.bool false, .int .i64 0, .int .i64 0, .slice none 0 0, .bool false])))
 (.alt [o 49 (.load (some 5) (t 48)), o 48 (.ia 5 (t 46) (t 47)), m 47 5, o 46 (.load none (t 45)), o 45 (.fa 0 (t 3))] (u (.store 5 (t 6) (t 44)))
 (.alt [] (u (.store 5 (t 7) (t 49)))
 (.done)
 (.none))
 (.none))
 (.none))
 (.alt [o 49 (.load (some 5) (t 48)), o 48 (.ia 5 (t 46) (t 47)), m 47 5, o 46 (.load none (t 45)), o 45 (.fa 0 (t 3)), o 44 (.load (some 5) (t 43)), o 43 (.ia 5 (t 41) (t 42)), m 42 5, o 41 (.load none (t 40)), o 40 (.fa 0 (t 2))] (o 7 (.alloc (.agg #[.bool false, .int .i64 0, .int .i64 0, .slice none 0 0, .bool false])))
 (.alt [o 49 (.load (some 5) (t 48)), o 48 (.ia 5 (t 46) (t 47)), m 47 5, o 46 (.load none (t 45)), o 45 (.fa 0 (t 3)), o 44 (.load (some 5) (t 43)), o 43 (.ia 5 (t 41) (t 42)), m 42 5, o 41 (.load none (t 40)), o 40 (.fa 0 (t 2))] (o 6 (.alloc (.agg #[.bool false, .int .i64 0, .int .i64 0, .slice none 0 0, .bool false])))
 (.alt [o 49 (.load (some 5) (t 48)), o 48 (.ia 5 (t 46) (t 47)), m 47 5, o 46 (.load none (t 45)), o 45 (.fa 0 (t 3))] (u (.store 5 (t 6) (t 44)))
 (.alt [] (u (.store 5 (t 7) (t 49)))
 (.done)
 (.none))
 (.none))
 (.none))
 (.none)))))))))))))))
 (.kept [2, 3, 5, 6, 7] (.seq (.ops [o 50 (.fa 0 (t 6)),
 (o 51 (.load none (t 50))),
 (o 52 (.fa 0 (t 7))),
 (o 53 (.load none (t 52))),
 (o 54 (.eqb true (t 51) (t 53))),
 m 55 54,
 (g 56 55 false (.fa 1 (t 6))),
 (g 57 55 false (.load none (t 56))),
 (g 58 55 false (.fa 1 (t 7))),
 (g 59 55 false (.load none (t 58))),
 (g 60 55 false (.bin .neq (t 57) (t 59))),
 (o 61 (.pick (t 55) tt (t 60))),
 m 62 61,
 (g 63 62 false (.fa 2 (t 6))),
 (g 64 62 false (.load none (t 63))),
 (g 65 62 false (.fa 2 (t 7))),
 (g 66 62 false (.load none (t 65))),
 (g 67 62 false (.bin .neq (t 64) (t 66))),
 (o 68 (.pick (t 62) tt (t 67))),
 m 69 68,
 (g 70 69 false (.fa 4 (t 6))),
 (g 71 69 false (.load none (t 70))),
 (g 72 69 false (.fa 4 (t 7))),
 (g 73 69 false (.load none (t 72))),
 (g 74 69 false (.eqb true (t 71) (t 73))),
 (o 75 (.pick (t 69) tt (t 74))),
 m 76 75,
 (g 77 76 false (.fa 3 (t 6))),
 (g 78 76 false (.load none (t 77))),
 (g 79 76 false (.fa 3 (t 7))),
 (g 80 76 false (.load none (t 79))),
 (g 81 76 false (.call 58 [(t 78), (t 80)])),
 (g 82 76 false (.not (t 81))),
 (o 83 (.pick (t 76) tt (t 82)))])
 (.kept [2, 3, 5, 83] (.cond (t 83) (.seq (.ops [o 4 (.mv ff)])
 (.ret)) (.skip)))))))
 (.kept [2, 3, 5] (.ops [m 38 5,
 (o 39 (.bin .add (t 38) (k 1))),
 m 5 39])))
def c_laws_vPoll_l2 : AS :=
 .seq (.seq (.ops [m 84 8,
 (o 85 (.fa 5 (t 2))),
 (o 86 (.load none (t 85))),
 (o 87 (.lens (t 86))),
 (o 88 (.bin .lss (t 84) (t 87)))])
 (.cond (t 88) (.skip) (.exit 2)))
 (.seq (.block 3 (.seq (.dops [o 91 (.fa 5 (t 2)),
 (o 92 (.load none (t 91))),
 m 93 8,
 (o 94 (.ia 2 (t 92) (t 93))),
 (o 95 (.load (some 2) (t 94))),
 (o 96 (.fa 5 (t 3))),
 (o 97 (.load none (t 96))),
 m 98 8,
 (o 99 (.ia 2 (t 97) (t 98))),
 (o 100 (.load (some 2) (t 99))),
 (o 101 (.eqs true [(0, 0), (1, 0)] (t 95) (t 100)))])
 (.kept [2, 3, 8, 101] (.cond (t 101) (.seq (.ops [o 4 (.mv ff)])
 (.ret)) (.skip)))))
 (.kept [2, 3, 8] (.ops [m 89 8,
 (o 90 (.bin .add (t 89) (k 1))),
 m 8 90])))
def c_laws_vPoll : AS :=
 .seq (.ops [o 2 (.box (t 0)),
 (o 3 (.box (t 1))),
 (o 4 (.mv ff))])
 (.seq (.seq (.ops [o 9 (.fa 1 (t 2)),
 (o 10 (.load (some 4) (t 9))),
 (o 11 (.fa 1 (t 3))),
 (o 12 (.load (some 4) (t 11))),
 (o 13 (.call 57 [(t 10), (t 12)])),
 (o 14 (.not (t 13))),
 m 15 14,
 (g 16 15 false (.fa 0 (t 2))),
 (g 17 15 false (.load none (t 16))),
 (g 18 15 false (.lens (t 17))),
 (g 19 15 false (.fa 0 (t 3))),
 (g 20 15 false (.load none (t 19))),
 (g 21 15 false (.lens (t 20))),
 (g 22 15 false (.bin .neq (t 18) (t 21))),
 (o 23 (.pick (t 15) tt (t 22))),
 m 24 23,
 (g 25 24 false (.fa 5 (t 2))),
 (g 26 24 false (.load none (t 25))),
 (g 27 24 false (.lens (t 26))),
 (g 28 24 false (.fa 5 (t 3))),
 (g 29 24 false (.load none (t 28))),
 (g 30 24 false (.lens (t 29))),
 (g 31 24 false (.bin .neq (t 27) (t 30))),
 (o 32 (.pick (t 24) tt (t 31)))])
 (.kept [2, 3, 32] (.cond (t 32) (.seq (.ops [o 4 (.mv ff)])
 (.ret)) (.skip))))
 (.kept [2, 3] (.seq (.seq (.ops [o 5 (.mv (k 0))])
 (.block 0 (.loop 2 [(2, 0), (3, 0), (5, 0)] c_laws_vPoll_l1)))
 (.kept [2, 3] (.seq (.seq (.ops [o 8 (.mv (k 0))])
 (.block 2 (.loop 2 [(2, 0), (3, 0), (8, 0)] c_laws_vPoll_l2)))
 (.kept [] (.seq (.ops [o 4 (.mv tt)])
 (.ret))))))))
theorem h_laws_vPoll : hF Tryz.prog n_laws_vPoll = some c_laws_vPoll.strip := by kernel_rfl
theorem r_laws_vPoll : rF Tryz.prog n_laws_vPoll = some ([.tmp 4], 102) := by kernel_rfl
abbrev n_impl_TickPoll : Nat := 19
def c_impl_TickPoll_l1 : AS :=
 .seq (.ops [o 38 (.bin .lss (t 37) (t 36))])
 (.seq (.cond (t 38) (.skip) (.exit 0))
 (.seq (.block 1 (.seq (.ops [o 39 (.ia 4 (t 35) (t 37)),
 (o 40 (.load (some 4) (t 39))),
 (o 10 (.alloc (.agg #[.int .i64 0, .int .i64 0, .int .i64 0, .string ⟨⟨[]⟩⟩]))),
 (u (.store 4 (t 10) (t 40)))])
 (.seq (.ops [o 42 (.fa 3 (t 10)),
 (o 43 (.load none (t 42))),
 (o 44 (.slt (t 43) (some (k 1)) none)),
 (o 45 (.call 61 [(t 44), (k 1), (k 200)])),
 m 41 45,
 (o 46 (.ext 0 (t 41))),
 (o 47 (.ext 1 (t 41))),
 m 11 46,
 m 12 47])
 (.kept [2, 6, 10, 11, 12, 35, 36, 37] (.block 2 (.seq (.post [(6, 1, [(0, 5), (2, 1), (4, 4), (5, 2)])] (.ops [m 49 12,
 (o 50 (.not (t 49))),
 m 51 50,
 (g 52 51 false (.fa 0 (t 6))),
 (g 53 51 false (.load none (t 52))),
 (g 54 51 false (.fa 1 (t 10))),
 (g 55 51 false (.load none (t 54))),
 (g 56 51 false (.ia 5 (t 53) (t 55))),
 (g 57 51 false (.fa 0 (t 56))),
 (g 58 51 false (.load none (t 57))),
 (g 59 51 false (.not (t 58))),
 (o 60 (.pick (t 51) tt (t 59))),
 m 48 60]))
 (.kept [2, 6, 10, 11, 35, 36, 37, 48] (.cond (t 48) (.skip) (.seq (.ops [o 62 (.fa 3 (t 10)),
 (o 63 (.load none (t 62))),
 (o 64 (.ix (t 63) (k 0))),
 (o 65 (.bin .eql (t 64) (.const (.int .u8 97)))),
 m 61 65])
 (.cond (t 61) (.ops [o 66 (.load (some 4) (t 10)),
 m 67 11,
 (o 68 (.call 62 [(t 6), (t 66), (t 67)]))]) (.seq (.ops [o 70 (.fa 3 (t 10)),
 (o 71 (.load none (t 70))),
 (o 72 (.ix (t 71) (k 0))),
 (o 73 (.bin .eql (t 72) (.const (.int .u8 121)))),
 m 69 73])
 (.cond (t 69) (.ops [o 74 (.load (some 4) (t 10)),
 m 75 11,
 (o 76 (.call 63 [(t 6), (t 74), (t 75)]))]) (.skip)))))))))))))
 (.kept [2, 6, 35, 36, 37] (.ops [o 77 (.bin .add (t 37) (k 1)),
 m 37 77]))))
def c_impl_TickPoll : AS :=
 .seq (.ops [o 1 (.box (t 0)),
 (o 2 (.alloc (.agg #[.slice none 0 0, .int .i64 0, .slice none 0 0, .int .i64 0, .slice none 0 0, .slice none 0 0]))),
 (o 3 (.mv ff))])
 (.seq (.seq (.ops [o 13 (.load (some 6) (t 1)),
 (o 14 (.call 30 [(t 13)])),
 (o 15 (.not (t 14)))])
 (.cond (t 15) (.seq (.ops [o 16 (.build (.agg #[.slice none 0 0, .int .i64 0, .slice none 0 0, .int .i64 0, .slice none 0 0, .slice none 0 0]) []),
 (u (.store 6 (t 2) (t 16))),
 (o 3 (.mv ff))])
 (.ret)) (.skip)))
 (.seq (.ops [o 18 (.fa 1 (t 1)),
 (o 19 (.load (some 4) (t 18))),
 (o 20 (.call 59 [(t 19)])),
 m 17 20,
 (o 21 (.ext 0 (t 17))),
 (o 22 (.ext 1 (t 17))),
 (o 4 (.alloc (.agg #[.int .i64 0, .slice none 0 0, .int .i64 0, .slice none 0 0]))),
 (u (.store 4 (t 4) (t 21))),
 m 5 22])
 (.kept [1, 2, 4, 5] (.seq (.seq (.ops [m 23 5,
 (o 24 (.not (t 23)))])
 (.cond (t 24) (.seq (.ops [o 25 (.build (.agg #[.slice none 0 0, .int .i64 0, .slice none 0 0, .int .i64 0, .slice none 0 0, .slice none 0 0]) []),
 (u (.store 6 (t 2) (t 25))),
 (o 3 (.mv ff))])
 (.ret)) (.skip)))
 (.seq (.post [(6, 1, [(0, 5), (2, 1), (4, 4), (5, 2)])] (.ops [o 26 (.load (some 6) (t 1)),
 (o 27 (.call 42 [(t 26)])),
 (o 6 (.alloc (.agg #[.slice none 0 0, .int .i64 0, .slice none 0 0, .int .i64 0, .slice none 0 0, .slice none 0 0]))),
 (u (.store 6 (t 6) (t 27)))]))
 (.seq (.ops [o 29 (.load (some 4) (t 4)),
 (o 30 (.call 60 [(t 29)])),
 m 28 30,
 (o 31 (.ext 0 (t 28))),
 (o 32 (.ext 1 (t 28))),
 (o 7 (.alloc (.agg #[.int .i64 0, .slice none 0 0, .int .i64 0, .slice none 0 0]))),
 (u (.store 4 (t 7) (t 31))),
 m 8 32])
 (.seq (.post [(6, 1, [(0, 5), (2, 1), (4, 4), (5, 2)])] (.ops [o 33 (.load (some 4) (t 7)),
 (o 34 (.fa 1 (t 6))),
 (u (.store 4 (t 34) (t 33)))]))
 (.seq (.seq (.ops [m 35 8,
 (o 36 (.lens (t 35))),
 (o 37 (.mv (k 0)))])
 (.block 0 (.loop 1 [(2, 0), (6, 0), (35, 0), (36, 0), (37, 0)] c_impl_TickPoll_l1)))
 (.kept [2, 6] (.seq (.ops [o 78 (.load (some 6) (t 6)),
 (u (.store 6 (t 2) (t 78))),
 (o 3 (.mv tt))])
 (.ret)))))))))))
theorem h_impl_TickPoll : hF Tryz.prog n_impl_TickPoll = some c_impl_TickPoll.strip := by kernel_rfl
theorem r_impl_TickPoll : rF Tryz.prog n_impl_TickPoll = some ([.cell 2 37, .tmp 3], 79) := by kernel_rfl
abbrev n_impl_LeaderOf : Nat := 20
def c_impl_LeaderOf : AS :=
 .seq (.ops [o 2 (.box (t 0)),
 (o 3 (.box (t 1))),
 (o 4 (.mv (k 0))),
 (o 5 (.mv ff))])
 (.seq (.seq (.ops [o 7 (.load (some 6) (t 2)),
 (o 8 (.call 30 [(t 7)])),
 (o 9 (.not (t 8)))])
 (.cond (t 9) (.seq (.ops [o 4 (.mv (k 0)),
 (o 5 (.mv ff))])
 (.ret)) (.skip)))
 (.seq (.ops [o 10 (.fa 5 (t 2)),
 (o 11 (.load none (t 10))),
 (o 12 (.mkf 65 [(t 3)])),
 (o 13 (.call 64 [(t 11), (t 12)])),
 m 6 13])
 (.seq (.seq (.ops [m 14 6,
 (o 15 (.bin .lss (t 14) (k 0)))])
 (.cond (t 15) (.seq (.ops [o 4 (.mv (k 0)),
 (o 5 (.mv ff))])
 (.ret)) (.skip)))
 (.seq (.ops [o 16 (.fa 5 (t 2)),
 (o 17 (.load none (t 16))),
 m 18 6,
 (o 19 (.ia 2 (t 17) (t 18))),
 (o 20 (.fa 1 (t 19))),
 (o 21 (.load none (t 20))),
 m 4 21,
 (o 5 (.mv tt))])
 (.ret)))))
theorem h_impl_LeaderOf : hF Tryz.prog n_impl_LeaderOf = some c_impl_LeaderOf.strip := by kernel_rfl
theorem r_impl_LeaderOf : rF Tryz.prog n_impl_LeaderOf = some ([.tmp 4, .tmp 5], 22) := by kernel_rfl
abbrev n_spec_TickPoll : Nat := 21
def c_spec_TickPoll_l1 : AS :=
 .seq (.seq (.ops [m 35 10,
 m 36 8,
 (o 37 (.lens (t 36))),
 (o 38 (.bin .lss (t 35) (t 37)))])
 (.cond (t 38) (.skip) (.exit 0)))
 (.seq (.block 1 (.rops [(none, o 41 (.load (some 6) (t 6))),
 (none, m 42 8),
 (none, m 43 10),
 (none, o 44 (.ia 4 (t 42) (t 43))),
 (none, o 45 (.load (some 4) (t 44))),
 (some [], o 46 (.call 69 [(t 41), (t 45)])),
 (some [], u (.store 6 (t 6) (t 46)))]))
 (.kept [2, 6, 8, 10] (.ops [m 39 10,
 (o 40 (.bin .add (t 39) (k 1))),
 m 10 40])))
def c_spec_TickPoll : AS :=
 .seq (.ops [o 1 (.box (t 0)),
 (o 2 (.alloc (.agg #[.slice none 0 0, .int .i64 0, .slice none 0 0, .int .i64 0, .slice none 0 0, .slice none 0 0]))),
 (o 3 (.mv ff))])
 (.seq (.ops [o 12 (.fa 1 (t 1)),
 (o 13 (.load (some 4) (t 12))),
 (o 14 (.call 66 [(t 13)])),
 m 11 14,
 (o 15 (.ext 0 (t 11))),
 (o 16 (.ext 1 (t 11))),
 (o 4 (.alloc (.agg #[.int .i64 0, .slice none 0 0, .int .i64 0, .slice none 0 0]))),
 (u (.store 4 (t 4) (t 15))),
 m 5 16])
 (.kept [1, 2, 4, 5] (.seq (.seq (.ops [o 17 (.load (some 6) (t 1)),
 (o 18 (.call 67 [(t 17)])),
 (o 19 (.not (t 18))),
 m 20 19,
 mg 21 20 false 5,
 (g 22 20 false (.not (t 21))),
 (o 23 (.pick (t 20) tt (t 22)))])
 (.kept [1, 2, 4, 23] (.cond (t 23) (.seq (.ops [o 24 (.build (.agg #[.slice none 0 0, .int .i64 0, .slice none 0 0, .int .i64 0, .slice none 0 0, .slice none 0 0]) []),
 (u (.store 6 (t 2) (t 24))),
 (o 3 (.mv ff))])
 (.ret)) (.skip))))
 (.kept [1, 2, 4] (.seq (.ops [o 25 (.load (some 6) (t 1)),
 (o 26 (.call 35 [(t 25)])),
 (o 6 (.alloc (.agg #[.slice none 0 0, .int .i64 0, .slice none 0 0, .int .i64 0, .slice none 0 0, .slice none 0 0]))),
 (u (.store 6 (t 6) (t 26)))])
 (.seq (.ops [o 28 (.load (some 4) (t 4)),
 (o 29 (.call 68 [(t 28)])),
 m 27 29,
 (o 30 (.ext 0 (t 27))),
 (o 31 (.ext 1 (t 27))),
 (o 32 (.ext 2 (t 27))),
 (o 7 (.alloc (.agg #[.int .i64 0, .slice none 0 0, .int .i64 0, .slice none 0 0]))),
 (u (.store 4 (t 7) (t 30))),
 m 8 31,
 m 9 32])
 (.kept [2, 6, 7, 8] (.seq (.ops [o 33 (.load (some 4) (t 7)),
 (o 34 (.fa 1 (t 6))),
 (u (.store 4 (t 34) (t 33)))])
 (.seq (.seq (.ops [o 10 (.mv (k 0))])
 (.block 0 (.loop 1 [(2, 0), (6, 0), (8, 0), (10, 0)] c_spec_TickPoll_l1)))
 (.kept [2, 6] (.seq (.ops [o 47 (.load (some 6) (t 6)),
 (u (.store 6 (t 2) (t 47))),
 (o 3 (.mv tt))])
 (.ret))))))))))))
theorem h_spec_TickPoll : hF Tryz.prog n_spec_TickPoll = some c_spec_TickPoll.strip := by kernel_rfl
theorem r_spec_TickPoll : rF Tryz.prog n_spec_TickPoll = some ([.cell 2 37, .tmp 3], 48) := by kernel_rfl
abbrev n_spec_PlayPoll : Nat := 23
def c_spec_PlayPoll_l1 : AS :=
 .seq (.seq (.ops [m 21 7,
 m 22 1,
 (o 23 (.lens (t 22))),
 (o 24 (.bin .lss (t 21) (t 23)))])
 (.cond (t 24) (.skip) (.exit 0)))
 (.seq (.block 1 (.seq (.tops [(1, 0), (4, 0), (6, 0), (7, 0), (8, 0), (9, 0)] (.rd (o 28 (.load (some 6) (t 6))) (.rd (m 29 1) (.rd (m 30 7) (.rd (o 31 (.ia 3 (t 29) (t 30))) (.rd (o 32 (.load (some 3) (t 31))) (.alt [] (o 33 (.call 70 [(t 28), (t 32)]))
 (.rd (m 27 33) (.rd (o 34 (.ext 0 (t 27))) (.rd (o 35 (.ext 1 (t 27))) (.alt [o 35 (.ext 1 (t 27)), o 34 (.ext 0 (t 27)), m 27 33] (o 8 (.alloc (.agg #[.slice none 0 0, .int .i64 0, .slice none 0 0, .int .i64 0, .slice none 0 0, .slice none 0 0])))
 (.alt [o 35 (.ext 1 (t 27))] (u (.store 6 (t 8) (t 34)))
 (.rd (m 9 35) (.done))
 (.none))
 (.none)))))
 (.alt [o 32 (.load (some 3) (t 31)), o 31 (.ia 3 (t 29) (t 30)), m 30 7, m 29 1, o 28 (.load (some 6) (t 6))] (o 8 (.alloc (.agg #[.slice none 0 0, .int .i64 0, .slice none 0 0, .int .i64 0, .slice none 0 0, .slice none 0 0])))
 (.alt [] (o 33 (.call 70 [(t 28), (t 32)]))
 (.rd (m 27 33) (.rd (o 34 (.ext 0 (t 27))) (.rd (o 35 (.ext 1 (t 27))) (.alt [o 35 (.ext 1 (t 27))] (u (.store 6 (t 8) (t 34)))
 (.rd (m 9 35) (.done))
 (.none)))))
 (.none))
 (.none)))))))))
 (.kept [1, 4, 6, 7, 8, 9] (.seq (.ops [m 36 9])
 (.cond (t 36) (.ops [o 37 (.load (some 6) (t 8)),
 (u (.store 6 (t 6) (t 37)))]) (.skip))))))
 (.kept [1, 4, 6, 7] (.ops [m 25 7,
 (o 26 (.bin .add (t 25) (k 1))),
 m 7 26])))
def c_spec_PlayPoll : AS :=
 .seq (.ops [o 2 (.box (t 0)),
 (o 4 (.alloc (.agg #[.slice none 0 0, .int .i64 0, .slice none 0 0, .int .i64 0, .slice none 0 0, .slice none 0 0]))),
 (o 5 (.mv ff))])
 (.seq (.seq (.ops [o 10 (.load (some 6) (t 2)),
 (o 11 (.call 67 [(t 10)])),
 (o 12 (.not (t 11))),
 m 13 12,
 mg 14 13 false 1,
 (g 15 13 false (.lens (t 14))),
 (g 16 13 false (.bin .gtr (t 15) (k 200))),
 (o 17 (.pick (t 13) tt (t 16)))])
 (.kept [1, 2, 4, 17] (.cond (t 17) (.seq (.ops [o 18 (.build (.agg #[.slice none 0 0, .int .i64 0, .slice none 0 0, .int .i64 0, .slice none 0 0, .slice none 0 0]) []),
 (u (.store 6 (t 4) (t 18))),
 (o 5 (.mv ff))])
 (.ret)) (.skip))))
 (.kept [1, 2, 4] (.seq (.ops [o 19 (.load (some 6) (t 2)),
 (o 20 (.call 35 [(t 19)])),
 (o 6 (.alloc (.agg #[.slice none 0 0, .int .i64 0, .slice none 0 0, .int .i64 0, .slice none 0 0, .slice none 0 0]))),
 (u (.store 6 (t 6) (t 20)))])
 (.seq (.seq (.ops [o 7 (.mv (k 0))])
 (.block 0 (.loop 2 [(1, 0), (4, 0), (6, 0), (7, 0)] c_spec_PlayPoll_l1)))
 (.kept [4, 6] (.seq (.ops [o 38 (.load (some 6) (t 6)),
 (u (.store 6 (t 4) (t 38))),
 (o 5 (.mv tt))])
 (.ret)))))))
theorem h_spec_PlayPoll : hF Tryz.prog n_spec_PlayPoll = some c_spec_PlayPoll.strip := by kernel_rfl
theorem r_spec_PlayPoll : rF Tryz.prog n_spec_PlayPoll = some ([.cell 4 37, .tmp 5], 39) := by kernel_rfl
abbrev n_impl_PlayPoll : Nat := 25
def c_impl_PlayPoll_l1 : AS :=
 .seq (.ops [o 25 (.bin .lss (t 24) (t 23))])
 (.seq (.cond (t 25) (.skip) (.exit 0))
 (.seq (.block 1 (.seq (.ops [o 26 (.ia 3 (t 22) (t 24)),
 (o 27 (.load (some 3) (t 26))),
 (o 8 (.alloc (.agg #[.int .i64 0, .int .i64 0, .int .i64 0]))),
 (u (.store 3 (t 8) (t 27)))])
 (.seq (.ops [o 29 (.load (some 6) (t 6)),
 (o 30 (.load (some 3) (t 8))),
 (o 31 (.call 72 [(t 29), (t 30)])),
 m 28 31,
 (o 32 (.ext 0 (t 28))),
 (o 33 (.ext 1 (t 28))),
 (o 9 (.alloc (.agg #[.slice none 0 0, .int .i64 0, .slice none 0 0, .int .i64 0, .slice none 0 0, .slice none 0 0]))),
 (u (.store 6 (t 9) (t 32))),
 m 10 33])
 (.kept [4, 6, 9, 10, 22, 23, 24] (.seq (.ops [m 34 10])
 (.cond (t 34) (.ops [o 35 (.load (some 6) (t 9)),
 (u (.store 6 (t 6) (t 35)))]) (.skip)))))))
 (.kept [4, 6, 22, 23, 24] (.ops [o 36 (.bin .add (t 24) (k 1)),
 m 24 36]))))
def c_impl_PlayPoll : AS :=
 .seq (.ops [o 2 (.box (t 0)),
 (o 4 (.alloc (.agg #[.slice none 0 0, .int .i64 0, .slice none 0 0, .int .i64 0, .slice none 0 0, .slice none 0 0]))),
 (o 5 (.mv ff))])
 (.seq (.seq (.ops [o 11 (.load (some 6) (t 2)),
 (o 12 (.call 30 [(t 11)])),
 (o 13 (.not (t 12))),
 m 14 13,
 mg 15 14 false 1,
 (g 16 14 false (.lens (t 15))),
 (g 17 14 false (.bin .gtr (t 16) (k 200))),
 (o 18 (.pick (t 14) tt (t 17)))])
 (.kept [1, 2, 4, 18] (.cond (t 18) (.seq (.ops [o 19 (.build (.agg #[.slice none 0 0, .int .i64 0, .slice none 0 0, .int .i64 0, .slice none 0 0, .slice none 0 0]) []),
 (u (.store 6 (t 4) (t 19))),
 (o 5 (.mv ff))])
 (.ret)) (.skip))))
 (.kept [1, 2, 4] (.seq (.ops [o 20 (.load (some 6) (t 2)),
 (o 21 (.call 42 [(t 20)])),
 (o 6 (.alloc (.agg #[.slice none 0 0, .int .i64 0, .slice none 0 0, .int .i64 0, .slice none 0 0, .slice none 0 0]))),
 (u (.store 6 (t 6) (t 21)))])
 (.seq (.seq (.ops [m 22 1,
 (o 23 (.lens (t 22))),
 (o 24 (.mv (k 0)))])
 (.block 0 (.loop 2 [(4, 0), (6, 0), (22, 0), (23, 0), (24, 0)] c_impl_PlayPoll_l1)))
 (.kept [4, 6] (.seq (.ops [o 37 (.load (some 6) (t 6)),
 (u (.store 6 (t 4) (t 37))),
 (o 5 (.mv tt))])
 (.ret)))))))
theorem h_impl_PlayPoll : hF Tryz.prog n_impl_PlayPoll = some c_impl_PlayPoll.strip := by kernel_rfl
theorem r_impl_PlayPoll : rF Tryz.prog n_impl_PlayPoll = some ([.cell 4 37, .tmp 5], 38) := by kernel_rfl
abbrev n_spec_NewPoll : Nat := 28
def c_spec_NewPoll_l1 : AS :=
 .seq (.seq (.ops [m 33 9,
 m 34 0,
 (o 35 (.lens (t 34))),
 (o 36 (.bin .lss (t 33) (t 35)))])
 (.cond (t 36) (.skip) (.exit 0)))
 (.seq (.block 1 (.post [(44, 1, [(3, 1)])] (.ops [o 39 (.fa 0 (t 8)),
 (o 40 (.load none (t 39))),
 (o 41 (.bsl 1 (.int .i64 0) 0 [])),
 (o 42 (.build (.agg #[.bool false, .int .i64 0, .int .i64 0, .slice none 0 0, .bool false]) [(0, 1, tt), (2, 1, (k (-1))), (3, 1, (t 41))])),
 (o 43 (.bsl 5 (.agg #[.bool false, .int .i64 0, .int .i64 0, .slice none 0 0, .bool false]) 1 [(0, (t 42))])),
 (o 44 (.app 5 56 (.agg #[.bool false, .int .i64 0, .int .i64 0, .slice none 0 0, .bool false]) (t 40) (t 43))),
 (o 45 (.fa 0 (t 8))),
 (u (.store 1 (t 45) (t 44)))])))
 (.kept [0, 4, 8, 9] (.ops [m 37 9,
 (o 38 (.bin .add (t 37) (k 1))),
 m 9 38])))
def c_spec_NewPoll : AS :=
 .seq (.ops [o 4 (.alloc (.agg #[.slice none 0 0, .int .i64 0, .slice none 0 0, .int .i64 0, .slice none 0 0, .slice none 0 0])),
 (o 5 (.mv ff))])
 (.seq (.ops [m 11 0,
 m 12 1,
 (o 13 (.call 74 [(t 11), (t 12)])),
 m 10 13,
 (o 14 (.ext 0 (t 10))),
 (o 15 (.ext 1 (t 10))),
 (o 6 (.alloc (.agg #[.int .i64 0, .slice none 0 0, .int .i64 0, .slice none 0 0]))),
 (u (.store 4 (t 6) (t 14))),
 m 7 15])
 (.kept [0, 4, 6, 7] (.seq (.seq (.ops [m 16 7,
 (o 17 (.not (t 16))),
 m 18 17,
 mg 19 18 false 0,
 (g 20 18 false (.lens (t 19))),
 (g 21 18 false (.bin .neq (t 20) (k 3))),
 mg 22 18 false 21,
 mg 23 22 true 0,
 (g 24 22 true (.lens (t 23))),
 (g 25 22 true (.bin .neq (t 24) (k 5))),
 (g 26 18 false (.pick (t 22) (t 25) ff)),
 (o 27 (.pick (t 18) tt (t 26)))])
 (.kept [0, 4, 6, 27] (.cond (t 27) (.seq (.ops [o 28 (.build (.agg #[.slice none 0 0, .int .i64 0, .slice none 0 0, .int .i64 0, .slice none 0 0, .slice none 0 0]) []),
 (u (.store 6 (t 4) (t 28))),
 (o 5 (.mv ff))])
 (.ret)) (.skip))))
 (.kept [0, 4, 6] (.seq (.ops [o 29 (.load (some 4) (t 6)),
 (o 30 (.bsl 5 (.agg #[.bool false, .int .i64 0, .int .i64 0, .slice none 0 0, .bool false]) 0 [])),
 (o 31 (.bsl 2 (.agg #[.int .i64 0, .int .i64 0]) 0 [])),
 (o 32 (.build (.agg #[.slice none 0 0, .int .i64 0, .slice none 0 0, .int .i64 0, .slice none 0 0, .slice none 0 0]) [(1, 4, (t 29)), (0, 1, (t 30)), (5, 1, (t 31))])),
 (o 8 (.alloc (.agg #[.slice none 0 0, .int .i64 0, .slice none 0 0, .int .i64 0, .slice none 0 0, .slice none 0 0]))),
 (u (.store 6 (t 8) (t 32)))])
 (.seq (.seq (.ops [o 9 (.mv (k 0))])
 (.block 0 (.loop 2 [(0, 0), (4, 0), (8, 0), (9, 0)] c_spec_NewPoll_l1)))
 (.kept [4, 8] (.seq (.ops [o 46 (.load (some 6) (t 8)),
 (u (.store 6 (t 4) (t 46))),
 (o 5 (.mv tt))])
 (.ret)))))))))
theorem h_spec_NewPoll : hF Tryz.prog n_spec_NewPoll = some c_spec_NewPoll.strip := by kernel_rfl
theorem r_spec_NewPoll : rF Tryz.prog n_spec_NewPoll = some ([.cell 4 37, .tmp 5], 47) := by kernel_rfl
abbrev n_impl_IsFair : Nat := 29
def c_impl_IsFair : AS :=
 .seq (.ops [o 1 (.box (t 0)),
 (o 2 (.mv ff))])
 (.seq (.seq (.ops [o 3 (.load (some 6) (t 1)),
 (o 4 (.call 30 [(t 3)])),
 (o 5 (.not (t 4)))])
 (.cond (t 5) (.seq (.ops [o 2 (.mv ff)])
 (.ret)) (.skip)))
 (.seq (.ops [o 6 (.fa 5 (t 1)),
 (o 7 (.load none (t 6))),
 (o 8 (.mkf 76 [(t 1)])),
 (o 9 (.call 75 [(t 7), (t 8)])),
 (o 10 (.not (t 9))),
 m 2 10])
 (.ret)))
theorem h_impl_IsFair : hF Tryz.prog n_impl_IsFair = some c_impl_IsFair.strip := by kernel_rfl
theorem r_impl_IsFair : rF Tryz.prog n_impl_IsFair = some ([.tmp 2], 11) := by kernel_rfl
abbrev n_impl_GoodPoll : Nat := 30
def c_impl_GoodPoll_l1 : AS :=
 .seq (.ops [o 36 (.bin .lss (t 35) (t 34))])
 (.seq (.cond (t 36) (.skip) (.exit 0))
 (.seq (.block 1 (.seq (.post [(38, 1, [(3, 1)])] (.ops [m 37 35,
 (o 38 (.ia 5 (t 33) (t 35))),
 (o 39 (.load (some 5) (t 38))),
 (o 5 (.alloc (.agg #[.bool false, .int .i64 0, .int .i64 0, .slice none 0 0, .bool false]))),
 m 4 37,
 (u (.store 5 (t 5) (t 39)))]))
 (.seq (.ops [o 40 (.load (some 5) (t 5)),
 m 41 4,
 m 42 3,
 (o 43 (.call 78 [(t 40), (t 41), (t 42)])),
 (o 44 (.not (t 43)))])
 (.cond (t 44) (.seq (.ops [o 2 (.mv ff)])
 (.ret)) (.skip)))))
 (.kept [1, 3, 33, 34, 35] (.ops [o 45 (.bin .add (t 35) (k 1)),
 m 35 45]))))
def c_impl_GoodPoll : AS :=
 .seq (.ops [o 1 (.box (t 0)),
 (o 2 (.mv ff))])
 (.seq (.ops [o 6 (.fa 1 (t 1)),
 (o 7 (.fa 1 (t 6))),
 (o 8 (.load none (t 7))),
 (o 9 (.lens (t 8))),
 m 3 9])
 (.seq (.seq (.ops [o 10 (.fa 1 (t 1)),
 (o 11 (.load (some 4) (t 10))),
 (o 12 (.call 77 [(t 11)])),
 (o 13 (.not (t 12))),
 m 14 13,
 mg 15 14 false 3,
 (g 16 14 false (.call 55 [(t 15)])),
 (g 17 14 false (.not (t 16))),
 (o 18 (.pick (t 14) tt (t 17))),
 m 19 18,
 (g 20 19 false (.fa 0 (t 1))),
 (g 21 19 false (.load none (t 20))),
 (g 22 19 false (.lens (t 21))),
 mg 23 19 false 3,
 (g 24 19 false (.bin .neq (t 22) (t 23))),
 (o 25 (.pick (t 19) tt (t 24))),
 m 26 25,
 (g 27 26 false (.fa 5 (t 1))),
 (g 28 26 false (.load none (t 27))),
 (g 29 26 false (.lens (t 28))),
 (g 30 26 false (.bin .gtr (t 29) (k 60))),
 (o 31 (.pick (t 26) tt (t 30)))])
 (.kept [1, 3, 31] (.cond (t 31) (.seq (.ops [o 2 (.mv ff)])
 (.ret)) (.skip))))
 (.kept [1, 3] (.seq (.seq (.ops [o 32 (.fa 0 (t 1)),
 (o 33 (.load none (t 32))),
 (o 34 (.lens (t 33))),
 (o 35 (.mv (k 0)))])
 (.block 0 (.loop 1 [(1, 0), (3, 0), (33, 0), (34, 0), (35, 0)] c_impl_GoodPoll_l1)))
 (.kept [1] (.seq (.ops [o 46 (.fa 5 (t 1)),
 (o 47 (.load none (t 46))),
 (o 48 (.mkf 79 [(t 1)])),
 (o 49 (.call 75 [(t 47), (t 48)])),
 (o 50 (.not (t 49))),
 m 2 50])
 (.ret)))))))
theorem h_impl_GoodPoll : hF Tryz.prog n_impl_GoodPoll = some c_impl_GoodPoll.strip := by kernel_rfl
theorem r_impl_GoodPoll : rF Tryz.prog n_impl_GoodPoll = some ([.tmp 2], 51) := by kernel_rfl
abbrev n_spec_l8Has : Nat := 34
def c_spec_l8Has : AS :=
 .seq (.ops [o 2 (.box (t 0)),
 (o 4 (.mv ff))])
 (.seq (.ops [o 5 (.load (some 6) (t 2)),
 (o 6 (.call 67 [(t 5)])),
 m 7 6,
 mg 8 7 true 1,
 (g 9 7 true (.fa 0 (t 2))),
 (g 10 7 true (.load none (t 9))),
 (g 11 7 true (.lens (t 10))),
 (g 12 7 true (.bin .sub (t 11) (k 1))),
 (g 13 7 true (.call 85 [(t 8), (k 0), (t 12)])),
 (o 14 (.pick (t 7) (t 13) ff)),
 m 4 14])
 (.ret))
theorem h_spec_l8Has : hF Tryz.prog n_spec_l8Has = some c_spec_l8Has.strip := by kernel_rfl
theorem r_spec_l8Has : rF Tryz.prog n_spec_l8Has = some ([.tmp 4], 15) := by kernel_rfl
abbrev n_spec_l8Own : Nat := 35
def c_spec_l8Own_l1 : AS :=
 .seq (.seq (.ops [m 18 4,
 (o 19 (.fa 0 (t 1))),
 (o 20 (.load none (t 19))),
 (o 21 (.lens (t 20))),
 (o 22 (.bin .lss (t 18) (t 21)))])
 (.cond (t 22) (.skip) (.exit 0)))
 (.seq (.block 1 (.seq (.post [(28, 1, [(3, 1)])] (.ops [o 25 (.fa 0 (t 1)),
 (o 26 (.load none (t 25))),
 m 27 4,
 (o 28 (.ia 5 (t 26) (t 27))),
 (o 29 (.load (some 5) (t 28))),
 (o 5 (.alloc (.agg #[.bool false, .int .i64 0, .int .i64 0, .slice none 0 0, .bool false]))),
 (u (.store 5 (t 5) (t 29)))]))
 (.seq (.ops [o 30 (.fa 3 (t 5)),
 (o 31 (.load none (t 30))),
 (o 32 (.call 87 [(t 31)])),
 (o 33 (.fa 3 (t 5))),
 (u (.store 1 (t 33) (t 32)))])
 (.post [(38, 1, [(3, 1)])] (.ops [o 34 (.fa 0 (t 3)),
 (o 35 (.load none (t 34))),
 (o 36 (.load (some 5) (t 5))),
 (o 37 (.bsl 5 (.agg #[.bool false, .int .i64 0, .int .i64 0, .slice none 0 0, .bool false]) 1 [(0, (t 36))])),
 (o 38 (.app 5 56 (.agg #[.bool false, .int .i64 0, .int .i64 0, .slice none 0 0, .bool false]) (t 35) (t 37))),
 (o 39 (.fa 0 (t 3))),
 (u (.store 1 (t 39) (t 38)))])))))
 (.kept [1, 2, 3, 4] (.ops [m 23 4,
 (o 24 (.bin .add (t 23) (k 1))),
 m 4 24])))
def c_spec_l8Own : AS :=
 .seq (.ops [o 1 (.box (t 0)),
 (o 2 (.alloc (.agg #[.slice none 0 0, .int .i64 0, .slice none 0 0, .int .i64 0, .slice none 0 0, .slice none 0 0])))])
 (.seq (.tops [(1, 0), (2, 0), (3, 0)] (.rd (o 6 (.fa 1 (t 1))) (.rd (o 7 (.load (some 4) (t 6))) (.rd (o 8 (.fa 1 (t 1))) (.rd (o 9 (.fa 3 (t 8))) (.rd (o 10 (.load none (t 9))) (.rd (o 14 (.fa 5 (t 1))) (.rd (o 15 (.load none (t 14))) (.alt [o 15 (.load none (t 14)), o 14 (.fa 5 (t 1))] (o 11 (.call 86 [(t 7), (t 10)]))
 (.alt [o 15 (.load none (t 14)), o 14 (.fa 5 (t 1))] (o 12 (.bsl 5 (.agg #[.bool false, .int .i64 0, .int .i64 0, .slice none 0 0, .bool false]) 0 []))
 (.alt [o 15 (.load none (t 14)), o 14 (.fa 5 (t 1))] (o 13 (.bsl 2 (.agg #[.int .i64 0, .int .i64 0]) 0 []))
 (.alt [] (o 16 (.app 2 16 (.agg #[.int .i64 0, .int .i64 0]) (t 13) (t 15)))
 (.rd (o 17 (.build (.agg #[.slice none 0 0, .int .i64 0, .slice none 0 0, .int .i64 0, .slice none 0 0, .slice none 0 0]) [(1, 4, (t 11)), (0, 1, (t 12)), (5, 1, (t 16))])) (.alt [o 17 (.build (.agg #[.slice none 0 0, .int .i64 0, .slice none 0 0, .int .i64 0, .slice none 0 0, .slice none 0 0]) [(1, 4, (t 11)), (0, 1, (t 12)), (5, 1, (t 16))])] (o 3 (.alloc (.agg #[.slice none 0 0, .int .i64 0, .slice none 0 0, .int .i64 0, .slice none 0 0, .slice none 0 0])))
 (.alt [] (u (.store 6 (t 3) (t 17)))
 (.done)
 (.none))
 (.none)))
 (.alt [o 15 (.load none (t 14)), o 14 (.fa 5 (t 1))] (o 3 (.alloc (.agg #[.slice none 0 0, .int .i64 0, .slice none 0 0, .int .i64 0, .slice none 0 0, .slice none 0 0])))
 (.alt [] (o 16 (.app 2 16 (.agg #[.int .i64 0, .int .i64 0]) (t 13) (t 15)))
 (.rd (o 17 (.build (.agg #[.slice none 0 0, .int .i64 0, .slice none 0 0, .int .i64 0, .slice none 0 0, .slice none 0 0]) [(1, 4, (t 11)), (0, 1, (t 12)), (5, 1, (t 16))])) (.alt [] (u (.store 6 (t 3) (t 17)))
 (.done)
 (.none)))
 (.none))
 (.none)))
 (.alt [o 15 (.load none (t 14)), o 14 (.fa 5 (t 1))] (o 3 (.alloc (.agg #[.slice none 0 0, .int .i64 0, .slice none 0 0, .int .i64 0, .slice none 0 0, .slice none 0 0])))
 (.alt [o 15 (.load none (t 14)), o 14 (.fa 5 (t 1))] (o 13 (.bsl 2 (.agg #[.int .i64 0, .int .i64 0]) 0 []))
 (.alt [] (o 16 (.app 2 16 (.agg #[.int .i64 0, .int .i64 0]) (t 13) (t 15)))
 (.rd (o 17 (.build (.agg #[.slice none 0 0, .int .i64 0, .slice none 0 0, .int .i64 0, .slice none 0 0, .slice none 0 0]) [(1, 4, (t 11)), (0, 1, (t 12)), (5, 1, (t 16))])) (.alt [] (u (.store 6 (t 3) (t 17)))
 (.done)
 (.none)))
 (.none))
 (.none))
 (.none)))
 (.alt [o 15 (.load none (t 14)), o 14 (.fa 5 (t 1))] (o 13 (.bsl 2 (.agg #[.int .i64 0, .int .i64 0]) 0 []))
 (.alt [o 15 (.load none (t 14)), o 14 (.fa 5 (t 1))] (o 12 (.bsl 5 (.agg #[.bool false, .int .i64 0, .int .i64 0, .slice none 0 0, .bool false]) 0 []))
 (.alt [] (o 16 (.app 2 16 (.agg #[.int .i64 0, .int .i64 0]) (t 13) (t 15)))
 (.rd (o 17 (.build (.agg #[.slice none 0 0, .int .i64 0, .slice none 0 0, .int .i64 0, .slice none 0 0, .slice none 0 0]) [(1, 4, (t 11)), (0, 1, (t 12)), (5, 1, (t 16))])) (.alt [o 17 (.build (.agg #[.slice none 0 0, .int .i64 0, .slice none 0 0, .int .i64 0, .slice none 0 0, .slice none 0 0]) [(1, 4, (t 11)), (0, 1, (t 12)), (5, 1, (t 16))])] (o 3 (.alloc (.agg #[.slice none 0 0, .int .i64 0, .slice none 0 0, .int .i64 0, .slice none 0 0, .slice none 0 0])))
 (.alt [] (u (.store 6 (t 3) (t 17)))
 (.done)
 (.none))
 (.none)))
 (.alt [o 15 (.load none (t 14)), o 14 (.fa 5 (t 1))] (o 3 (.alloc (.agg #[.slice none 0 0, .int .i64 0, .slice none 0 0, .int .i64 0, .slice none 0 0, .slice none 0 0])))
 (.alt [] (o 16 (.app 2 16 (.agg #[.int .i64 0, .int .i64 0]) (t 13) (t 15)))
 (.rd (o 17 (.build (.agg #[.slice none 0 0, .int .i64 0, .slice none 0 0, .int .i64 0, .slice none 0 0, .slice none 0 0]) [(1, 4, (t 11)), (0, 1, (t 12)), (5, 1, (t 16))])) (.alt [] (u (.store 6 (t 3) (t 17)))
 (.done)
 (.none)))
 (.none))
 (.none)))
 (.alt [] (o 16 (.app 2 16 (.agg #[.int .i64 0, .int .i64 0]) (t 13) (t 15)))
 (.alt [] (o 12 (.bsl 5 (.agg #[.bool false, .int .i64 0, .int .i64 0, .slice none 0 0, .bool false]) 0 []))
 (.rd (o 17 (.build (.agg #[.slice none 0 0, .int .i64 0, .slice none 0 0, .int .i64 0, .slice none 0 0, .slice none 0 0]) [(1, 4, (t 11)), (0, 1, (t 12)), (5, 1, (t 16))])) (.alt [o 17 (.build (.agg #[.slice none 0 0, .int .i64 0, .slice none 0 0, .int .i64 0, .slice none 0 0, .slice none 0 0]) [(1, 4, (t 11)), (0, 1, (t 12)), (5, 1, (t 16))])] (o 3 (.alloc (.agg #[.slice none 0 0, .int .i64 0, .slice none 0 0, .int .i64 0, .slice none 0 0, .slice none 0 0])))
 (.alt [] (u (.store 6 (t 3) (t 17)))
 (.done)
 (.none))
 (.none)))
 (.alt [] (o 3 (.alloc (.agg #[.slice none 0 0, .int .i64 0, .slice none 0 0, .int .i64 0, .slice none 0 0, .slice none 0 0])))
 (.alt [] (o 12 (.bsl 5 (.agg #[.bool false, .int .i64 0, .int .i64 0, .slice none 0 0, .bool false]) 0 []))
 (.rd (o 17 (.build (.agg #[.slice none 0 0, .int .i64 0, .slice none 0 0, .int .i64 0, .slice none 0 0, .slice none 0 0]) [(1, 4, (t 11)), (0, 1, (t 12)), (5, 1, (t 16))])) (.alt [] (u (.store 6 (t 3) (t 17)))
 (.done)
 (.none)))
 (.none))
 (.none)))
 (.alt [o 15 (.load none (t 14)), o 14 (.fa 5 (t 1))] (o 3 (.alloc (.agg #[.slice none 0 0, .int .i64 0, .slice none 0 0, .int .i64 0, .slice none 0 0, .slice none 0 0])))
 (.alt [o 15 (.load none (t 14)), o 14 (.fa 5 (t 1))] (o 12 (.bsl 5 (.agg #[.bool false, .int .i64 0, .int .i64 0, .slice none 0 0, .bool false]) 0 []))
 (.alt [] (o 16 (.app 2 16 (.agg #[.int .i64 0, .int .i64 0]) (t 13) (t 15)))
 (.rd (o 17 (.build (.agg #[.slice none 0 0, .int .i64 0, .slice none 0 0, .int .i64 0, .slice none 0 0, .slice none 0 0]) [(1, 4, (t 11)), (0, 1, (t 12)), (5, 1, (t 16))])) (.alt [] (u (.store 6 (t 3) (t 17)))
 (.done)
 (.none)))
 (.none))
 (.alt [] (o 16 (.app 2 16 (.agg #[.int .i64 0, .int .i64 0]) (t 13) (t 15)))
 (.alt [] (o 12 (.bsl 5 (.agg #[.bool false, .int .i64 0, .int .i64 0, .slice none 0 0, .bool false]) 0 []))
 (.rd (o 17 (.build (.agg #[.slice none 0 0, .int .i64 0, .slice none 0 0, .int .i64 0, .slice none 0 0, .slice none 0 0]) [(1, 4, (t 11)), (0, 1, (t 12)), (5, 1, (t 16))])) (.alt [] (u (.store 6 (t 3) (t 17)))
 (.done)
 (.none)))
 (.none))
 (.none)))
 (.none))))
 (.alt [o 15 (.load none (t 14)), o 14 (.fa 5 (t 1))] (o 3 (.alloc (.agg #[.slice none 0 0, .int .i64 0, .slice none 0 0, .int .i64 0, .slice none 0 0, .slice none 0 0])))
 (.alt [o 15 (.load none (t 14)), o 14 (.fa 5 (t 1))] (o 12 (.bsl 5 (.agg #[.bool false, .int .i64 0, .int .i64 0, .slice none 0 0, .bool false]) 0 []))
 (.alt [o 15 (.load none (t 14)), o 14 (.fa 5 (t 1))] (o 13 (.bsl 2 (.agg #[.int .i64 0, .int .i64 0]) 0 []))
 (.alt [] (o 16 (.app 2 16 (.agg #[.int .i64 0, .int .i64 0]) (t 13) (t 15)))
 (.rd (o 17 (.build (.agg #[.slice none 0 0, .int .i64 0, .slice none 0 0, .int .i64 0, .slice none 0 0, .slice none 0 0]) [(1, 4, (t 11)), (0, 1, (t 12)), (5, 1, (t 16))])) (.alt [] (u (.store 6 (t 3) (t 17)))
 (.done)
 (.none)))
 (.none))
 (.none))
 (.alt [o 15 (.load none (t 14)), o 14 (.fa 5 (t 1))] (o 13 (.bsl 2 (.agg #[.int .i64 0, .int .i64 0]) 0 []))
 (.alt [o 15 (.load none (t 14)), o 14 (.fa 5 (t 1))] (o 12 (.bsl 5 (.agg #[.bool false, .int .i64 0, .int .i64 0, .slice none 0 0, .bool false]) 0 []))
 (.alt [] (o 16 (.app 2 16 (.agg #[.int .i64 0, .int .i64 0]) (t 13) (t 15)))
 (.rd (o 17 (.build (.agg #[.slice none 0 0, .int .i64 0, .slice none 0 0, .int .i64 0, .slice none 0 0, .slice none 0 0]) [(1, 4, (t 11)), (0, 1, (t 12)), (5, 1, (t 16))])) (.alt [] (u (.store 6 (t 3) (t 17)))
 (.done)
 (.none)))
 (.none))
 (.alt [] (o 16 (.app 2 16 (.agg #[.int .i64 0, .int .i64 0]) (t 13) (t 15)))
 (.alt [] (o 12 (.bsl 5 (.agg #[.bool false, .int .i64 0, .int .i64 0, .slice none 0 0, .bool false]) 0 []))
 (.rd (o 17 (.build (.agg #[.slice none 0 0, .int .i64 0, .slice none 0 0, .int .i64 0, .slice none 0 0, .slice none 0 0]) [(1, 4, (t 11)), (0, 1, (t 12)), (5, 1, (t 16))])) (.alt [] (u (.store 6 (t 3) (t 17)))
 (.done)
 (.none)))
 (.none))
 (.none)))
 (.none)))
 (.none))))
 (.alt [o 15 (.load none (t 14)), o 14 (.fa 5 (t 1)), o 10 (.load none (t 9)), o 9 (.fa 3 (t 8)), o 8 (.fa 1 (t 1)), o 7 (.load (some 4) (t 6)), o 6 (.fa 1 (t 1))] (o 12 (.bsl 5 (.agg #[.bool false, .int .i64 0, .int .i64 0, .slice none 0 0, .bool false]) 0 []))
 (.alt [o 15 (.load none (t 14)), o 14 (.fa 5 (t 1))] (o 11 (.call 86 [(t 7), (t 10)]))
 (.alt [o 15 (.load none (t 14)), o 14 (.fa 5 (t 1))] (o 13 (.bsl 2 (.agg #[.int .i64 0, .int .i64 0]) 0 []))
 (.alt [] (o 16 (.app 2 16 (.agg #[.int .i64 0, .int .i64 0]) (t 13) (t 15)))
 (.rd (o 17 (.build (.agg #[.slice none 0 0, .int .i64 0, .slice none 0 0, .int .i64 0, .slice none 0 0, .slice none 0 0]) [(1, 4, (t 11)), (0, 1, (t 12)), (5, 1, (t 16))])) (.alt [o 17 (.build (.agg #[.slice none 0 0, .int .i64 0, .slice none 0 0, .int .i64 0, .slice none 0 0, .slice none 0 0]) [(1, 4, (t 11)), (0, 1, (t 12)), (5, 1, (t 16))])] (o 3 (.alloc (.agg #[.slice none 0 0, .int .i64 0, .slice none 0 0, .int .i64 0, .slice none 0 0, .slice none 0 0])))
 (.alt [] (u (.store 6 (t 3) (t 17)))
 (.done)
 (.none))
 (.none)))
 (.alt [o 15 (.load none (t 14)), o 14 (.fa 5 (t 1))] (o 3 (.alloc (.agg #[.slice none 0 0, .int .i64 0, .slice none 0 0, .int .i64 0, .slice none 0 0, .slice none 0 0])))
 (.alt [] (o 16 (.app 2 16 (.agg #[.int .i64 0, .int .i64 0]) (t 13) (t 15)))
 (.rd (o 17 (.build (.agg #[.slice none 0 0, .int .i64 0, .slice none 0 0, .int .i64 0, .slice none 0 0, .slice none 0 0]) [(1, 4, (t 11)), (0, 1, (t 12)), (5, 1, (t 16))])) (.alt [] (u (.store 6 (t 3) (t 17)))
 (.done)
 (.none)))
 (.none))
 (.none)))
 (.alt [o 15 (.load none (t 14)), o 14 (.fa 5 (t 1))] (o 3 (.alloc (.agg #[.slice none 0 0, .int .i64 0, .slice none 0 0, .int .i64 0, .slice none 0 0, .slice none 0 0])))
 (.alt [o 15 (.load none (t 14)), o 14 (.fa 5 (t 1))] (o 13 (.bsl 2 (.agg #[.int .i64 0, .int .i64 0]) 0 []))
 (.alt [] (o 16 (.app 2 16 (.agg #[.int .i64 0, .int .i64 0]) (t 13) (t 15)))
 (.rd (o 17 (.build (.agg #[.slice none 0 0, .int .i64 0, .slice none 0 0, .int .i64 0, .slice none 0 0, .slice none 0 0]) [(1, 4, (t 11)), (0, 1, (t 12)), (5, 1, (t 16))])) (.alt [] (u (.store 6 (t 3) (t 17)))
 (.done)
 (.none)))
 (.none))
 (.none))
 (.none)))
 (.alt [o 15 (.load none (t 14)), o 14 (.fa 5 (t 1)), o 10 (.load none (t 9)), o 9 (.fa 3 (t 8)), o 8 (.fa 1 (t 1)), o 7 (.load (some 4) (t 6)), o 6 (.fa 1 (t 1))] (o 13 (.bsl 2 (.agg #[.int .i64 0, .int .i64 0]) 0 []))
 (.alt [o 15 (.load none (t 14)), o 14 (.fa 5 (t 1))] (o 11 (.call 86 [(t 7), (t 10)]))
 (.alt [] (o 16 (.app 2 16 (.agg #[.int .i64 0, .int .i64 0]) (t 13) (t 15)))
 (.rd (o 17 (.build (.agg #[.slice none 0 0, .int .i64 0, .slice none 0 0, .int .i64 0, .slice none 0 0, .slice none 0 0]) [(1, 4, (t 11)), (0, 1, (t 12)), (5, 1, (t 16))])) (.alt [o 17 (.build (.agg #[.slice none 0 0, .int .i64 0, .slice none 0 0, .int .i64 0, .slice none 0 0, .slice none 0 0]) [(1, 4, (t 11)), (0, 1, (t 12)), (5, 1, (t 16))])] (o 3 (.alloc (.agg #[.slice none 0 0, .int .i64 0, .slice none 0 0, .int .i64 0, .slice none 0 0, .slice none 0 0])))
 (.alt [] (u (.store 6 (t 3) (t 17)))
 (.done)
 (.none))
 (.none)))
 (.alt [o 15 (.load none (t 14)), o 14 (.fa 5 (t 1))] (o 3 (.alloc (.agg #[.slice none 0 0, .int .i64 0, .slice none 0 0, .int .i64 0, .slice none 0 0, .slice none 0 0])))
 (.alt [] (o 16 (.app 2 16 (.agg #[.int .i64 0, .int .i64 0]) (t 13) (t 15)))
 (.rd (o 17 (.build (.agg #[.slice none 0 0, .int .i64 0, .slice none 0 0, .int .i64 0, .slice none 0 0, .slice none 0 0]) [(1, 4, (t 11)), (0, 1, (t 12)), (5, 1, (t 16))])) (.alt [] (u (.store 6 (t 3) (t 17)))
 (.done)
 (.none)))
 (.none))
 (.none)))
 (.alt [o 15 (.load none (t 14)), o 14 (.fa 5 (t 1)), o 10 (.load none (t 9)), o 9 (.fa 3 (t 8)), o 8 (.fa 1 (t 1)), o 7 (.load (some 4) (t 6)), o 6 (.fa 1 (t 1))] (o 3 (.alloc (.agg #[.slice none 0 0, .int .i64 0, .slice none 0 0, .int .i64 0, .slice none 0 0, .slice none 0 0])))
 (.alt [o 15 (.load none (t 14)), o 14 (.fa 5 (t 1))] (o 11 (.call 86 [(t 7), (t 10)]))
 (.alt [] (o 16 (.app 2 16 (.agg #[.int .i64 0, .int .i64 0]) (t 13) (t 15)))
 (.rd (o 17 (.build (.agg #[.slice none 0 0, .int .i64 0, .slice none 0 0, .int .i64 0, .slice none 0 0, .slice none 0 0]) [(1, 4, (t 11)), (0, 1, (t 12)), (5, 1, (t 16))])) (.alt [] (u (.store 6 (t 3) (t 17)))
 (.done)
 (.none)))
 (.none))
 (.none))
 (.none)))
 (.alt [o 15 (.load none (t 14)), o 14 (.fa 5 (t 1)), o 10 (.load none (t 9)), o 9 (.fa 3 (t 8)), o 8 (.fa 1 (t 1)), o 7 (.load (some 4) (t 6)), o 6 (.fa 1 (t 1))] (o 3 (.alloc (.agg #[.slice none 0 0, .int .i64 0, .slice none 0 0, .int .i64 0, .slice none 0 0, .slice none 0 0])))
 (.alt [o 15 (.load none (t 14)), o 14 (.fa 5 (t 1))] (o 11 (.call 86 [(t 7), (t 10)]))
 (.alt [o 15 (.load none (t 14)), o 14 (.fa 5 (t 1))] (o 13 (.bsl 2 (.agg #[.int .i64 0, .int .i64 0]) 0 []))
 (.alt [] (o 16 (.app 2 16 (.agg #[.int .i64 0, .int .i64 0]) (t 13) (t 15)))
 (.rd (o 17 (.build (.agg #[.slice none 0 0, .int .i64 0, .slice none 0 0, .int .i64 0, .slice none 0 0, .slice none 0 0]) [(1, 4, (t 11)), (0, 1, (t 12)), (5, 1, (t 16))])) (.alt [] (u (.store 6 (t 3) (t 17)))
 (.done)
 (.none)))
 (.none))
 (.none))
 (.alt [o 15 (.load none (t 14)), o 14 (.fa 5 (t 1)), o 10 (.load none (t 9)), o 9 (.fa 3 (t 8)), o 8 (.fa 1 (t 1)), o 7 (.load (some 4) (t 6)), o 6 (.fa 1 (t 1))] (o 13 (.bsl 2 (.agg #[.int .i64 0, .int .i64 0]) 0 []))
 (.alt [o 15 (.load none (t 14)), o 14 (.fa 5 (t 1))] (o 11 (.call 86 [(t 7), (t 10)]))
 (.alt [] (o 16 (.app 2 16 (.agg #[.int .i64 0, .int .i64 0]) (t 13) (t 15)))
 (.rd (o 17 (.build (.agg #[.slice none 0 0, .int .i64 0, .slice none 0 0, .int .i64 0, .slice none 0 0, .slice none 0 0]) [(1, 4, (t 11)), (0, 1, (t 12)), (5, 1, (t 16))])) (.alt [] (u (.store 6 (t 3) (t 17)))
 (.done)
 (.none)))
 (.none))
 (.none))
 (.none)))
 (.none))))
 (.alt [o 15 (.load none (t 14)), o 14 (.fa 5 (t 1)), o 10 (.load none (t 9)), o 9 (.fa 3 (t 8)), o 8 (.fa 1 (t 1)), o 7 (.load (some 4) (t 6)), o 6 (.fa 1 (t 1))] (o 13 (.bsl 2 (.agg #[.int .i64 0, .int .i64 0]) 0 []))
 (.alt [o 15 (.load none (t 14)), o 14 (.fa 5 (t 1))] (o 11 (.call 86 [(t 7), (t 10)]))
 (.alt [o 15 (.load none (t 14)), o 14 (.fa 5 (t 1))] (o 12 (.bsl 5 (.agg #[.bool false, .int .i64 0, .int .i64 0, .slice none 0 0, .bool false]) 0 []))
 (.alt [] (o 16 (.app 2 16 (.agg #[.int .i64 0, .int .i64 0]) (t 13) (t 15)))
 (.rd (o 17 (.build (.agg #[.slice none 0 0, .int .i64 0, .slice none 0 0, .int .i64 0, .slice none 0 0, .slice none 0 0]) [(1, 4, (t 11)), (0, 1, (t 12)), (5, 1, (t 16))])) (.alt [o 17 (.build (.agg #[.slice none 0 0, .int .i64 0, .slice none 0 0, .int .i64 0, .slice none 0 0, .slice none 0 0]) [(1, 4, (t 11)), (0, 1, (t 12)), (5, 1, (t 16))])] (o 3 (.alloc (.agg #[.slice none 0 0, .int .i64 0, .slice none 0 0, .int .i64 0, .slice none 0 0, .slice none 0 0])))
 (.alt [] (u (.store 6 (t 3) (t 17)))
 (.done)
 (.none))
 (.none)))
 (.alt [o 15 (.load none (t 14)), o 14 (.fa 5 (t 1))] (o 3 (.alloc (.agg #[.slice none 0 0, .int .i64 0, .slice none 0 0, .int .i64 0, .slice none 0 0, .slice none 0 0])))
 (.alt [] (o 16 (.app 2 16 (.agg #[.int .i64 0, .int .i64 0]) (t 13) (t 15)))
 (.rd (o 17 (.build (.agg #[.slice none 0 0, .int .i64 0, .slice none 0 0, .int .i64 0, .slice none 0 0, .slice none 0 0]) [(1, 4, (t 11)), (0, 1, (t 12)), (5, 1, (t 16))])) (.alt [] (u (.store 6 (t 3) (t 17)))
 (.done)
 (.none)))
 (.none))
 (.none)))
 (.alt [] (o 16 (.app 2 16 (.agg #[.int .i64 0, .int .i64 0]) (t 13) (t 15)))
 (.alt [] (o 12 (.bsl 5 (.agg #[.bool false, .int .i64 0, .int .i64 0, .slice none 0 0, .bool false]) 0 []))
 (.rd (o 17 (.build (.agg #[.slice none 0 0, .int .i64 0, .slice none 0 0, .int .i64 0, .slice none 0 0, .slice none 0 0]) [(1, 4, (t 11)), (0, 1, (t 12)), (5, 1, (t 16))])) (.alt [o 17 (.build (.agg #[.slice none 0 0, .int .i64 0, .slice none 0 0, .int .i64 0, .slice none 0 0, .slice none 0 0]) [(1, 4, (t 11)), (0, 1, (t 12)), (5, 1, (t 16))])] (o 3 (.alloc (.agg #[.slice none 0 0, .int .i64 0, .slice none 0 0, .int .i64 0, .slice none 0 0, .slice none 0 0])))
 (.alt [] (u (.store 6 (t 3) (t 17)))
 (.done)
 (.none))
 (.none)))
 (.alt [] (o 3 (.alloc (.agg #[.slice none 0 0, .int .i64 0, .slice none 0 0, .int .i64 0, .slice none 0 0, .slice none 0 0])))
 (.alt [] (o 12 (.bsl 5 (.agg #[.bool false, .int .i64 0, .int .i64 0, .slice none 0 0, .bool false]) 0 []))
 (.rd (o 17 (.build (.agg #[.slice none 0 0, .int .i64 0, .slice none 0 0, .int .i64 0, .slice none 0 0, .slice none 0 0]) [(1, 4, (t 11)), (0, 1, (t 12)), (5, 1, (t 16))])) (.alt [] (u (.store 6 (t 3) (t 17)))
 (.done)
 (.none)))
 (.none))
 (.none)))
 (.alt [o 15 (.load none (t 14)), o 14 (.fa 5 (t 1))] (o 3 (.alloc (.agg #[.slice none 0 0, .int .i64 0, .slice none 0 0, .int .i64 0, .slice none 0 0, .slice none 0 0])))
 (.alt [o 15 (.load none (t 14)), o 14 (.fa 5 (t 1))] (o 12 (.bsl 5 (.agg #[.bool false, .int .i64 0, .int .i64 0, .slice none 0 0, .bool false]) 0 []))
 (.alt [] (o 16 (.app 2 16 (.agg #[.int .i64 0, .int .i64 0]) (t 13) (t 15)))
 (.rd (o 17 (.build (.agg #[.slice none 0 0, .int .i64 0, .slice none 0 0, .int .i64 0, .slice none 0 0, .slice none 0 0]) [(1, 4, (t 11)), (0, 1, (t 12)), (5, 1, (t 16))])) (.alt [] (u (.store 6 (t 3) (t 17)))
 (.done)
 (.none)))
 (.none))
 (.alt [] (o 16 (.app 2 16 (.agg #[.int .i64 0, .int .i64 0]) (t 13) (t 15)))
 (.alt [] (o 12 (.bsl 5 (.agg #[.bool false, .int .i64 0, .int .i64 0, .slice none 0 0, .bool false]) 0 []))
 (.rd (o 17 (.build (.agg #[.slice none 0 0, .int .i64 0, .slice none 0 0, .int .i64 0, .slice none 0 0, .slice none 0 0]) [(1, 4, (t 11)), (0, 1, (t 12)), (5, 1, (t 16))])) (.alt [] (u (.store 6 (t 3) (t 17)))
 (.done)
 (.none)))
 (.none))
 (.none)))
 (.none))))
 (.alt [o 15 (.load none (t 14)), o 14 (.fa 5 (t 1)), o 10 (.load none (t 9)), o 9 (.fa 3 (t 8)), o 8 (.fa 1 (t 1)), o 7 (.load (some 4) (t 6)), o 6 (.fa 1 (t 1))] (o 12 (.bsl 5 (.agg #[.bool false, .int .i64 0, .int .i64 0, .slice none 0 0, .bool false]) 0 []))
 (.alt [o 15 (.load none (t 14)), o 14 (.fa 5 (t 1))] (o 11 (.call 86 [(t 7), (t 10)]))
 (.alt [] (o 16 (.app 2 16 (.agg #[.int .i64 0, .int .i64 0]) (t 13) (t 15)))
 (.rd (o 17 (.build (.agg #[.slice none 0 0, .int .i64 0, .slice none 0 0, .int .i64 0, .slice none 0 0, .slice none 0 0]) [(1, 4, (t 11)), (0, 1, (t 12)), (5, 1, (t 16))])) (.alt [o 17 (.build (.agg #[.slice none 0 0, .int .i64 0, .slice none 0 0, .int .i64 0, .slice none 0 0, .slice none 0 0]) [(1, 4, (t 11)), (0, 1, (t 12)), (5, 1, (t 16))])] (o 3 (.alloc (.agg #[.slice none 0 0, .int .i64 0, .slice none 0 0, .int .i64 0, .slice none 0 0, .slice none 0 0])))
 (.alt [] (u (.store 6 (t 3) (t 17)))
 (.done)
 (.none))
 (.none)))
 (.alt [o 15 (.load none (t 14)), o 14 (.fa 5 (t 1))] (o 3 (.alloc (.agg #[.slice none 0 0, .int .i64 0, .slice none 0 0, .int .i64 0, .slice none 0 0, .slice none 0 0])))
 (.alt [] (o 16 (.app 2 16 (.agg #[.int .i64 0, .int .i64 0]) (t 13) (t 15)))
 (.rd (o 17 (.build (.agg #[.slice none 0 0, .int .i64 0, .slice none 0 0, .int .i64 0, .slice none 0 0, .slice none 0 0]) [(1, 4, (t 11)), (0, 1, (t 12)), (5, 1, (t 16))])) (.alt [] (u (.store 6 (t 3) (t 17)))
 (.done)
 (.none)))
 (.none))
 (.none)))
 (.alt [o 15 (.load none (t 14)), o 14 (.fa 5 (t 1)), o 10 (.load none (t 9)), o 9 (.fa 3 (t 8)), o 8 (.fa 1 (t 1)), o 7 (.load (some 4) (t 6)), o 6 (.fa 1 (t 1))] (o 3 (.alloc (.agg #[.slice none 0 0, .int .i64 0, .slice none 0 0, .int .i64 0, .slice none 0 0, .slice none 0 0])))
 (.alt [o 15 (.load none (t 14)), o 14 (.fa 5 (t 1))] (o 11 (.call 86 [(t 7), (t 10)]))
 (.alt [] (o 16 (.app 2 16 (.agg #[.int .i64 0, .int .i64 0]) (t 13) (t 15)))
 (.rd (o 17 (.build (.agg #[.slice none 0 0, .int .i64 0, .slice none 0 0, .int .i64 0, .slice none 0 0, .slice none 0 0]) [(1, 4, (t 11)), (0, 1, (t 12)), (5, 1, (t 16))])) (.alt [] (u (.store 6 (t 3) (t 17)))
 (.done)
 (.none)))
 (.none))
 (.none))
 (.none)))
 (.alt [o 15 (.load none (t 14)), o 14 (.fa 5 (t 1)), o 10 (.load none (t 9)), o 9 (.fa 3 (t 8)), o 8 (.fa 1 (t 1)), o 7 (.load (some 4) (t 6)), o 6 (.fa 1 (t 1))] (o 3 (.alloc (.agg #[.slice none 0 0, .int .i64 0, .slice none 0 0, .int .i64 0, .slice none 0 0, .slice none 0 0])))
 (.alt [o 15 (.load none (t 14)), o 14 (.fa 5 (t 1))] (o 11 (.call 86 [(t 7), (t 10)]))
 (.alt [o 15 (.load none (t 14)), o 14 (.fa 5 (t 1))] (o 12 (.bsl 5 (.agg #[.bool false, .int .i64 0, .int .i64 0, .slice none 0 0, .bool false]) 0 []))
 (.alt [] (o 16 (.app 2 16 (.agg #[.int .i64 0, .int .i64 0]) (t 13) (t 15)))
 (.rd (o 17 (.build (.agg #[.slice none 0 0, .int .i64 0, .slice none 0 0, .int .i64 0, .slice none 0 0, .slice none 0 0]) [(1, 4, (t 11)), (0, 1, (t 12)), (5, 1, (t 16))])) (.alt [] (u (.store 6 (t 3) (t 17)))
 (.done)
 (.none)))
 (.none))
 (.alt [] (o 16 (.app 2 16 (.agg #[.int .i64 0, .int .i64 0]) (t 13) (t 15)))
 (.alt [] (o 12 (.bsl 5 (.agg #[.bool false, .int .i64 0, .int .i64 0, .slice none 0 0, .bool false]) 0 []))
 (.rd (o 17 (.build (.agg #[.slice none 0 0, .int .i64 0, .slice none 0 0, .int .i64 0, .slice none 0 0, .slice none 0 0]) [(1, 4, (t 11)), (0, 1, (t 12)), (5, 1, (t 16))])) (.alt [] (u (.store 6 (t 3) (t 17)))
 (.done)
 (.none)))
 (.none))
 (.none)))
 (.alt [o 15 (.load none (t 14)), o 14 (.fa 5 (t 1)), o 10 (.load none (t 9)), o 9 (.fa 3 (t 8)), o 8 (.fa 1 (t 1)), o 7 (.load (some 4) (t 6)), o 6 (.fa 1 (t 1))] (o 12 (.bsl 5 (.agg #[.bool false, .int .i64 0, .int .i64 0, .slice none 0 0, .bool false]) 0 []))
 (.alt [o 15 (.load none (t 14)), o 14 (.fa 5 (t 1))] (o 11 (.call 86 [(t 7), (t 10)]))
 (.alt [] (o 16 (.app 2 16 (.agg #[.int .i64 0, .int .i64 0]) (t 13) (t 15)))
 (.rd (o 17 (.build (.agg #[.slice none 0 0, .int .i64 0, .slice none 0 0, .int .i64 0, .slice none 0 0, .slice none 0 0]) [(1, 4, (t 11)), (0, 1, (t 12)), (5, 1, (t 16))])) (.alt [] (u (.store 6 (t 3) (t 17)))
 (.done)
 (.none)))
 (.none))
 (.none))
 (.none)))
 (.none))))
 (.alt [o 15 (.load none (t 14)), o 14 (.fa 5 (t 1)), o 10 (.load none (t 9)), o 9 (.fa 3 (t 8)), o 8 (.fa 1 (t 1)), o 7 (.load (some 4) (t 6)), o 6 (.fa 1 (t 1))] (o 3 (.alloc (.agg #[.slice none 0 0, .int .i64 0, .slice none 0 0, .int .i64 0, .slice none 0 0, .slice none 0 0])))
 (.alt [o 15 (.load none (t 14)), o 14 (.fa 5 (t 1))] (o 11 (.call 86 [(t 7), (t 10)]))
 (.alt [o 15 (.load none (t 14)), o 14 (.fa 5 (t 1))] (o 12 (.bsl 5 (.agg #[.bool false, .int .i64 0, .int .i64 0, .slice none 0 0, .bool false]) 0 []))
 (.alt [o 15 (.load none (t 14)), o 14 (.fa 5 (t 1))] (o 13 (.bsl 2 (.agg #[.int .i64 0, .int .i64 0]) 0 []))
 (.alt [] (o 16 (.app 2 16 (.agg #[.int .i64 0, .int .i64 0]) (t 13) (t 15)))
 (.rd (o 17 (.build (.agg #[.slice none 0 0, .int .i64 0, .slice none 0 0, .int .i64 0, .slice none 0 0, .slice none 0 0]) [(1, 4, (t 11)), (0, 1, (t 12)), (5, 1, (t 16))])) (.alt [] (u (.store 6 (t 3) (t 17)))
 (.done)
 (.none)))
 (.none))
 (.none))
 (.alt [o 15 (.load none (t 14)), o 14 (.fa 5 (t 1))] (o 13 (.bsl 2 (.agg #[.int .i64 0, .int .i64 0]) 0 []))
 (.alt [o 15 (.load none (t 14)), o 14 (.fa 5 (t 1))] (o 12 (.bsl 5 (.agg #[.bool false, .int .i64 0, .int .i64 0, .slice none 0 0, .bool false]) 0 []))
 (.alt [] (o 16 (.app 2 16 (.agg #[.int .i64 0, .int .i64 0]) (t 13) (t 15)))
 (.rd (o 17 (.build (.agg #[.slice none 0 0, .int .i64 0, .slice none 0 0, .int .i64 0, .slice none 0 0, .slice none 0 0]) [(1, 4, (t 11)), (0, 1, (t 12)), (5, 1, (t 16))])) (.alt [] (u (.store 6 (t 3) (t 17)))
 (.done)
 (.none)))
 (.none))
 (.alt [] (o 16 (.app 2 16 (.agg #[.int .i64 0, .int .i64 0]) (t 13) (t 15)))
 (.alt [] (o 12 (.bsl 5 (.agg #[.bool false, .int .i64 0, .int .i64 0, .slice none 0 0, .bool false]) 0 []))
 (.rd (o 17 (.build (.agg #[.slice none 0 0, .int .i64 0, .slice none 0 0, .int .i64 0, .slice none 0 0, .slice none 0 0]) [(1, 4, (t 11)), (0, 1, (t 12)), (5, 1, (t 16))])) (.alt [] (u (.store 6 (t 3) (t 17)))
 (.done)
 (.none)))
 (.none))
 (.none)))
 (.none)))
 (.alt [o 15 (.load none (t 14)), o 14 (.fa 5 (t 1)), o 10 (.load none (t 9)), o 9 (.fa 3 (t 8)), o 8 (.fa 1 (t 1)), o 7 (.load (some 4) (t 6)), o 6 (.fa 1 (t 1))] (o 12 (.bsl 5 (.agg #[.bool false, .int .i64 0, .int .i64 0, .slice none 0 0, .bool false]) 0 []))
 (.alt [o 15 (.load none (t 14)), o 14 (.fa 5 (t 1))] (o 11 (.call 86 [(t 7), (t 10)]))
 (.alt [o 15 (.load none (t 14)), o 14 (.fa 5 (t 1))] (o 13 (.bsl 2 (.agg #[.int .i64 0, .int .i64 0]) 0 []))
 (.alt [] (o 16 (.app 2 16 (.agg #[.int .i64 0, .int .i64 0]) (t 13) (t 15)))
 (.rd (o 17 (.build (.agg #[.slice none 0 0, .int .i64 0, .slice none 0 0, .int .i64 0, .slice none 0 0, .slice none 0 0]) [(1, 4, (t 11)), (0, 1, (t 12)), (5, 1, (t 16))])) (.alt [] (u (.store 6 (t 3) (t 17)))
 (.done)
 (.none)))
 (.none))
 (.none))
 (.alt [o 15 (.load none (t 14)), o 14 (.fa 5 (t 1)), o 10 (.load none (t 9)), o 9 (.fa 3 (t 8)), o 8 (.fa 1 (t 1)), o 7 (.load (some 4) (t 6)), o 6 (.fa 1 (t 1))] (o 13 (.bsl 2 (.agg #[.int .i64 0, .int .i64 0]) 0 []))
 (.alt [o 15 (.load none (t 14)), o 14 (.fa 5 (t 1))] (o 11 (.call 86 [(t 7), (t 10)]))
 (.alt [] (o 16 (.app 2 16 (.agg #[.int .i64 0, .int .i64 0]) (t 13) (t 15)))
 (.rd (o 17 (.build (.agg #[.slice none 0 0, .int .i64 0, .slice none 0 0, .int .i64 0, .slice none 0 0, .slice none 0 0]) [(1, 4, (t 11)), (0, 1, (t 12)), (5, 1, (t 16))])) (.alt [] (u (.store 6 (t 3) (t 17)))
 (.done)
 (.none)))
 (.none))
 (.none))
 (.none)))
 (.alt [o 15 (.load none (t 14)), o 14 (.fa 5 (t 1)), o 10 (.load none (t 9)), o 9 (.fa 3 (t 8)), o 8 (.fa 1 (t 1)), o 7 (.load (some 4) (t 6)), o 6 (.fa 1 (t 1))] (o 13 (.bsl 2 (.agg #[.int .i64 0, .int .i64 0]) 0 []))
 (.alt [o 15 (.load none (t 14)), o 14 (.fa 5 (t 1))] (o 11 (.call 86 [(t 7), (t 10)]))
 (.alt [o 15 (.load none (t 14)), o 14 (.fa 5 (t 1))] (o 12 (.bsl 5 (.agg #[.bool false, .int .i64 0, .int .i64 0, .slice none 0 0, .bool false]) 0 []))
 (.alt [] (o 16 (.app 2 16 (.agg #[.int .i64 0, .int .i64 0]) (t 13) (t 15)))
 (.rd (o 17 (.build (.agg #[.slice none 0 0, .int .i64 0, .slice none 0 0, .int .i64 0, .slice none 0 0, .slice none 0 0]) [(1, 4, (t 11)), (0, 1, (t 12)), (5, 1, (t 16))])) (.alt [] (u (.store 6 (t 3) (t 17)))
 (.done)
 (.none)))
 (.none))
 (.alt [] (o 16 (.app 2 16 (.agg #[.int .i64 0, .int .i64 0]) (t 13) (t 15)))
 (.alt [] (o 12 (.bsl 5 (.agg #[.bool false, .int .i64 0, .int .i64 0, .slice none 0 0, .bool false]) 0 []))
 (.rd (o 17 (.build (.agg #[.slice none 0 0, .int .i64 0, .slice none 0 0, .int .i64 0, .slice none 0 0, .slice none 0 0]) [(1, 4, (t 11)), (0, 1, (t 12)), (5, 1, (t 16))])) (.alt [] (u (.store 6 (t 3) (t 17)))
 (.done)
 (.none)))
 (.none))
 (.none)))
 (.alt [o 15 (.load none (t 14)), o 14 (.fa 5 (t 1)), o 10 (.load none (t 9)), o 9 (.fa 3 (t 8)), o 8 (.fa 1 (t 1)), o 7 (.load (some 4) (t 6)), o 6 (.fa 1 (t 1))] (o 12 (.bsl 5 (.agg #[.bool false, .int .i64 0, .int .i64 0, .slice none 0 0, .bool false]) 0 []))
 (.alt [o 15 (.load none (t 14)), o 14 (.fa 5 (t 1))] (o 11 (.call 86 [(t 7), (t 10)]))
 (.alt [] (o 16 (.app 2 16 (.agg #[.int .i64 0, .int .i64 0]) (t 13) (t 15)))
 (.rd (o 17 (.build (.agg #[.slice none 0 0, .int .i64 0, .slice none 0 0, .int .i64 0, .slice none 0 0, .slice none 0 0]) [(1, 4, (t 11)), (0, 1, (t 12)), (5, 1, (t 16))])) (.alt [] (u (.store 6 (t 3) (t 17)))
 (.done)
 (.none)))
 (.none))
 (.none))
 (.none)))
 (.none))))
 (.none)))))))))))))
 (.kept [1, 2, 3] (.seq (.seq (.ops [o 4 (.mv (k 0))])
 (.block 0 (.loop 1 [(1, 0), (2, 0), (3, 0), (4, 0)] c_spec_l8Own_l1)))
 (.kept [2, 3] (.seq (.ops [o 40 (.load (some 6) (t 3)),
 (u (.store 6 (t 2) (t 40)))])
 (.ret))))))
theorem h_spec_l8Own : hF Tryz.prog n_spec_l8Own = some c_spec_l8Own.strip := by kernel_rfl
theorem r_spec_l8Own : rF Tryz.prog n_spec_l8Own = some ([.cell 2 37], 41) := by kernel_rfl
abbrev n_spec_l8Send : Nat := 36
def c_spec_l8Send : AS :=
 .seq (.ops [o 4 (.box (t 0)),
 (o 8 (.alloc (.agg #[.int .i64 0, .slice none 0 0, .int .i64 0, .slice none 0 0])))])
 (.seq (.seq (.ops [o 12 (.load (some 4) (t 4)),
 m 13 1,
 m 14 2,
 m 15 3,
 (o 16 (.call 88 [(t 12), (t 13), (t 14), (t 15)])),
 m 11 16,
 (o 17 (.ext 0 (t 11))),
 (o 18 (.ext 1 (t 11))),
 (o 9 (.alloc (.agg #[.int .i64 0, .slice none 0 0, .int .i64 0, .slice none 0 0]))),
 (u (.store 4 (t 9) (t 17))),
 m 10 18])
 (.kept [4, 8, 9, 10] (.seq (.ops [m 19 10])
 (.cond (t 19) (.seq (.ops [o 20 (.load (some 4) (t 9)),
 (u (.store 4 (t 8) (t 20)))])
 (.ret)) (.skip)))))
 (.kept [4, 8] (.seq (.ops [o 21 (.load (some 4) (t 4)),
 (u (.store 4 (t 8) (t 21)))])
 (.ret))))
theorem h_spec_l8Send : hF Tryz.prog n_spec_l8Send = some c_spec_l8Send.strip := by kernel_rfl
theorem r_spec_l8Send : rF Tryz.prog n_spec_l8Send = some ([.cell 8 34], 22) := by kernel_rfl
abbrev n_spec_l1Num : Nat := 37
def c_spec_l1Num : AS :=
 .seq (.ops [o 2 (.mv (.const (.string ⟨⟨[]⟩⟩)))])
 (.seq (.seq (.ops [m 3 0,
 (o 4 (.bin .lss (t 3) (k 10)))])
 (.cond (t 4) (.seq (.ops [m 5 0,
 (o 6 (.bin .add (k 48) (t 5))),
 (o 7 (.cvi .u8 (t 6))),
 (o 8 (.bsl 1 (.int .u8 0) 1 [(0, (t 7))])),
 (o 9 (.cvbs (t 8))),
 m 2 9])
 (.ret)) (.skip)))
 (.kept [0] (.seq (.tops [(0, 0), (2, 0)] (.rd (m 10 0) (.rd (o 11 (.bin .quo (t 10) (k 10))) (.rd (m 13 0) (.rd (o 14 (.bin .rem (t 13) (k 10))) (.rd (o 15 (.bin .add (k 48) (t 14))) (.rd (o 16 (.cvi .u8 (t 15))) (.alt [o 16 (.cvi .u8 (t 15)), o 15 (.bin .add (k 48) (t 14)), o 14 (.bin .rem (t 13) (k 10)), m 13 0] (o 12 (.call 37 [(t 11)]))
 (.alt [] (o 17 (.bsl 1 (.int .u8 0) 1 [(0, (t 16))]))
 (.rd (o 18 (.cvbs (t 17))) (.rd (o 19 (.bin .add (t 12) (t 18))) (.rd (m 2 19) (.done))))
 (.none))
 (.alt [o 11 (.bin .quo (t 10) (k 10)), m 10 0] (o 17 (.bsl 1 (.int .u8 0) 1 [(0, (t 16))]))
 (.rd (o 18 (.cvbs (t 17))) (.alt [o 18 (.cvbs (t 17))] (o 12 (.call 37 [(t 11)]))
 (.rd (o 19 (.bin .add (t 12) (t 18))) (.rd (m 2 19) (.done)))
 (.none)))
 (.none))))))))))
 (.ret))))
theorem h_spec_l1Num : hF Tryz.prog n_spec_l1Num = some c_spec_l1Num.strip := by kernel_rfl
theorem r_spec_l1Num : rF Tryz.prog n_spec_l1Num = some ([.tmp 2], 20) := by kernel_rfl
abbrev n_impl_isVoterOf : Nat := 41
def c_impl_isVoterOf : AS :=
 .seq (.ops [o 2 (.box (t 0)),
 (o 4 (.mv ff))])
 (.seq (.ops [o 5 (.load (some 6) (t 2)),
 (o 6 (.call 30 [(t 5)])),
 m 7 6,
 (g 8 7 true (.fa 1 (t 2))),
 (g 9 7 true (.load (some 4) (t 8))),
 mg 10 7 true 1,
 (g 11 7 true (.call 81 [(t 9), (t 10)])),
 (o 12 (.pick (t 7) (t 11) ff)),
 m 4 12])
 (.ret))
theorem h_impl_isVoterOf : hF Tryz.prog n_impl_isVoterOf = some c_impl_isVoterOf.strip := by kernel_rfl
theorem r_impl_isVoterOf : rF Tryz.prog n_impl_isVoterOf = some ([.tmp 4], 13) := by kernel_rfl
abbrev n_impl_copyPoll : Nat := 42
def c_impl_copyPoll_l1 : AS :=
 .seq (.ops [o 19 (.bin .lss (t 18) (t 17))])
 (.seq (.cond (t 19) (.skip) (.exit 0))
 (.seq (.block 1 (.seq (.ops [m 20 18,
 m 4 20])
 (.pre [o 24 (.fa 0 (t 3)), o 25 (.load none (t 24)), m 26 4, o 27 (.ia 5 (t 25) (t 26)), o 28 (.fa 3 (t 27))] 28 29 (.post [(31, 1, [(3, 1)]), (27, 1, [(3, 1)])] (.rops [(none, o 21 (.fa 0 (t 3))),
 (none, o 22 (.load none (t 21))),
 (none, m 23 4),
 (none, o 24 (.fa 0 (t 3))),
 (none, o 25 (.load none (t 24))),
 (none, m 26 4),
 (none, o 27 (.ia 5 (t 25) (t 26))),
 (none, o 28 (.fa 3 (t 27))),
 (none, o 29 (.load none (t 28))),
 (some [m 23 4, o 22 (.load none (t 21)), o 21 (.fa 0 (t 3))], o 30 (.call 96 [(t 29)])),
 (none, o 31 (.ia 5 (t 22) (t 23))),
 (none, o 32 (.fa 3 (t 31))),
 (some [], u (.store 1 (t 32) (t 30)))])))))
 (.kept [2, 3, 17, 18] (.ops [o 33 (.bin .add (t 18) (k 1)),
 m 18 33]))))
def c_impl_copyPoll : AS :=
 .seq (.ops [o 1 (.box (t 0)),
 (o 2 (.alloc (.agg #[.slice none 0 0, .int .i64 0, .slice none 0 0, .int .i64 0, .slice none 0 0, .slice none 0 0])))])
 (.seq (.tops [(2, 0), (3, 0)] (.rd (o 5 (.fa 0 (t 1))) (.rd (o 6 (.load none (t 5))) (.rd (o 8 (.fa 1 (t 1))) (.rd (o 9 (.load (some 4) (t 8))) (.rd (o 11 (.fa 5 (t 1))) (.rd (o 12 (.load none (t 11))) (.alt [o 12 (.load none (t 11)), o 11 (.fa 5 (t 1)), o 9 (.load (some 4) (t 8)), o 8 (.fa 1 (t 1))] (o 7 (.call 93 [(t 6)]))
 (.alt [o 12 (.load none (t 11)), o 11 (.fa 5 (t 1))] (o 10 (.call 94 [(t 9)]))
 (.alt [] (o 13 (.call 95 [(t 12)]))
 (.rd (o 14 (.build (.agg #[.slice none 0 0, .int .i64 0, .slice none 0 0, .int .i64 0, .slice none 0 0, .slice none 0 0]) [(0, 1, (t 7)), (1, 4, (t 10)), (5, 1, (t 13))])) (.alt [o 14 (.build (.agg #[.slice none 0 0, .int .i64 0, .slice none 0 0, .int .i64 0, .slice none 0 0, .slice none 0 0]) [(0, 1, (t 7)), (1, 4, (t 10)), (5, 1, (t 13))])] (o 3 (.alloc (.agg #[.slice none 0 0, .int .i64 0, .slice none 0 0, .int .i64 0, .slice none 0 0, .slice none 0 0])))
 (.alt [] (u (.store 6 (t 3) (t 14)))
 (.done)
 (.none))
 (.none)))
 (.alt [o 12 (.load none (t 11)), o 11 (.fa 5 (t 1))] (o 3 (.alloc (.agg #[.slice none 0 0, .int .i64 0, .slice none 0 0, .int .i64 0, .slice none 0 0, .slice none 0 0])))
 (.alt [] (o 13 (.call 95 [(t 12)]))
 (.rd (o 14 (.build (.agg #[.slice none 0 0, .int .i64 0, .slice none 0 0, .int .i64 0, .slice none 0 0, .slice none 0 0]) [(0, 1, (t 7)), (1, 4, (t 10)), (5, 1, (t 13))])) (.alt [] (u (.store 6 (t 3) (t 14)))
 (.done)
 (.none)))
 (.none))
 (.none)))
 (.alt [o 12 (.load none (t 11)), o 11 (.fa 5 (t 1)), o 9 (.load (some 4) (t 8)), o 8 (.fa 1 (t 1))] (o 3 (.alloc (.agg #[.slice none 0 0, .int .i64 0, .slice none 0 0, .int .i64 0, .slice none 0 0, .slice none 0 0])))
 (.alt [o 12 (.load none (t 11)), o 11 (.fa 5 (t 1))] (o 10 (.call 94 [(t 9)]))
 (.alt [] (o 13 (.call 95 [(t 12)]))
 (.rd (o 14 (.build (.agg #[.slice none 0 0, .int .i64 0, .slice none 0 0, .int .i64 0, .slice none 0 0, .slice none 0 0]) [(0, 1, (t 7)), (1, 4, (t 10)), (5, 1, (t 13))])) (.alt [] (u (.store 6 (t 3) (t 14)))
 (.done)
 (.none)))
 (.none))
 (.none))
 (.none)))
 (.alt [o 12 (.load none (t 11)), o 11 (.fa 5 (t 1)), o 9 (.load (some 4) (t 8)), o 8 (.fa 1 (t 1)), o 6 (.load none (t 5)), o 5 (.fa 0 (t 1))] (o 3 (.alloc (.agg #[.slice none 0 0, .int .i64 0, .slice none 0 0, .int .i64 0, .slice none 0 0, .slice none 0 0])))
 (.alt [o 12 (.load none (t 11)), o 11 (.fa 5 (t 1)), o 9 (.load (some 4) (t 8)), o 8 (.fa 1 (t 1))] (o 7 (.call 93 [(t 6)]))
 (.alt [o 12 (.load none (t 11)), o 11 (.fa 5 (t 1))] (o 10 (.call 94 [(t 9)]))
 (.alt [] (o 13 (.call 95 [(t 12)]))
 (.rd (o 14 (.build (.agg #[.slice none 0 0, .int .i64 0, .slice none 0 0, .int .i64 0, .slice none 0 0, .slice none 0 0]) [(0, 1, (t 7)), (1, 4, (t 10)), (5, 1, (t 13))])) (.alt [] (u (.store 6 (t 3) (t 14)))
 (.done)
 (.none)))
 (.none))
 (.none))
 (.none))
 (.none))))))))))
 (.kept [2, 3] (.seq (.seq (.ops [o 15 (.fa 0 (t 3)),
 (o 16 (.load none (t 15))),
 (o 17 (.lens (t 16))),
 (o 18 (.mv (k 0)))])
 (.block 0 (.loop 1 [(2, 0), (3, 0), (17, 0), (18, 0)] c_impl_copyPoll_l1)))
 (.kept [2, 3] (.seq (.ops [o 34 (.load (some 6) (t 3)),
 (u (.store 6 (t 2) (t 34)))])
 (.ret))))))
theorem h_impl_copyPoll : hF Tryz.prog n_impl_copyPoll = some c_impl_copyPoll.strip := by kernel_rfl
theorem r_impl_copyPoll : rF Tryz.prog n_impl_copyPoll = some ([.cell 2 37], 35) := by kernel_rfl
abbrev n_pimpl_Net_send : Nat := 43
def c_pimpl_Net_send : AS :=
 .seq (.post [(0, 1, [(2, 1), (4, 4)])] (.ops [m 11 0,
 (o 12 (.nc (t 11))),
 (o 13 (.load (some 4) (t 12))),
 m 14 1,
 m 15 2,
 m 16 3,
 (o 17 (.call 97 [(t 13), (t 14), (t 15), (t 16)])),
 m 10 17,
 (o 18 (.ext 0 (t 10))),
 (o 19 (.ext 1 (t 10))),
 (o 8 (.alloc (.agg #[.int .i64 0, .slice none 0 0, .int .i64 0, .slice none 0 0]))),
 (u (.store 4 (t 8) (t 18))),
 m 9 19]))
 (.kept [0, 8, 9] (.seq (.ops [m 20 9])
 (.cond (t 20) (.post [(0, 1, [(2, 1), (4, 4)])] (.ops [m 21 0,
 (o 22 (.load (some 4) (t 8))),
 (o 23 (.nc (t 21))),
 (u (.store 4 (t 23) (t 22)))])) (.skip))))
theorem h_pimpl_Net_send : hF Tryz.prog n_pimpl_Net_send = some c_pimpl_Net_send.strip := by kernel_rfl
theorem r_pimpl_Net_send : rF Tryz.prog n_pimpl_Net_send = some ([], 24) := by kernel_rfl
abbrev n_strconv_Itoa : Nat := 44
abbrev n_impl_NewNet : Nat := 54
def c_impl_NewNet : AS :=
 .seq (.ops [o 4 (.alloc (.agg #[.int .i64 0, .slice none 0 0, .int .i64 0, .slice none 0 0])),
 (o 5 (.mv ff))])
 (.seq (.seq (.ops [m 6 0,
 m 7 1,
 (o 8 (.call 107 [(t 6), (t 7)])),
 (o 9 (.not (t 8)))])
 (.cond (t 9) (.seq (.ops [o 10 (.build (.agg #[.int .i64 0, .slice none 0 0, .int .i64 0, .slice none 0 0]) []),
 (u (.store 4 (t 4) (t 10))),
 (o 5 (.mv ff))])
 (.ret)) (.skip)))
 (.kept [0, 1, 4] (.seq (.ops [m 11 0,
 (o 12 (.call 96 [(t 11)])),
 m 13 1,
 (o 14 (.build (.agg #[.int .i64 0, .slice none 0 0, .int .i64 0, .slice none 0 0]) [(1, 1, (t 12)), (2, 1, (t 13))])),
 (u (.store 4 (t 4) (t 14))),
 (o 5 (.mv tt))])
 (.ret))))
theorem h_impl_NewNet : hF Tryz.prog n_impl_NewNet = some c_impl_NewNet.strip := by kernel_rfl
theorem r_impl_NewNet : rF Tryz.prog n_impl_NewNet = some ([.cell 4 34, .tmp 5], 15) := by kernel_rfl
abbrev n_impl_isMany : Nat := 55
def c_impl_isMany : AS :=
 .seq (.ops [o 2 (.mv ff)])
 (.seq (.ops [m 3 0,
 (o 4 (.bin .eql (t 3) (k 3))),
 m 5 4,
 mg 6 5 false 0,
 (g 7 5 false (.bin .eql (t 6) (k 5))),
 (o 8 (.pick (t 5) tt (t 7))),
 m 2 8])
 (.ret))
theorem h_impl_isMany : hF Tryz.prog n_impl_isMany = some c_impl_isMany.strip := by kernel_rfl
theorem r_impl_isMany : rF Tryz.prog n_impl_isMany = some ([.tmp 2], 9) := by kernel_rfl
abbrev n_slices_Repeat___impl_Voter_impl_Voter_ : Nat := 56
def c_slices_Repeat___impl_Voter_impl_Voter__l1 : AS :=
 .seq (.seq (.ops [m 34 8,
 m 35 7,
 (o 36 (.lens (t 35))),
 (o 37 (.bin .lss (t 34) (t 36)))])
 (.cond (t 37) (.skip) (.exit 0)))
 (.block 1 (.tops [(7, 0), (8, 0)] (.rd (m 38 8) (.rd (m 39 7) (.rd (m 40 8) (.rd (o 41 (.sls 5 (t 39) (some (t 40)) none none)) (.rd (m 42 7) (.rd (m 43 8) (.rd (o 44 (.sls 5 (t 42) none (some (t 43)) none)) (.alt [m 38 8] (o 45 (.cpy 5 (t 41) (t 44)))
 (.rd (o 46 (.bin .add (t 38) (t 45))) (.alt [] (m 8 46)
 (.done)
 (.none)))
 (.none)))))))))))
def c_slices_Repeat___impl_Voter_impl_Voter_ : AS :=
 .seq (.ops [o 4 (.mv (.const (.slice none 0 0)))])
 (.seq (.seq (.ops [m 9 1,
 (o 10 (.bin .lss (t 9) (k 0)))])
 (.cond (t 10) (.ops [o 11 (.bad (.const (.string ⟨⟨[99, 97, 110, 110, 111, 116, 32, 98, 101, 32, 110, 101, 103, 97, 116, 105, 118, 101]⟩⟩))),
 (u (.bad (t 11)))]) (.skip)))
 (.seq (.ops [m 13 0,
 (o 14 (.lens (t 13))),
 (o 15 (.cvi .u64 (t 14))),
 m 16 1,
 (o 17 (.cvi .u64 (t 16))),
 (o 18 (.call 108 [(t 15), (t 17)])),
 m 12 18,
 (o 19 (.ext 0 (t 12))),
 (o 20 (.ext 1 (t 12))),
 m 5 19,
 m 6 20])
 (.kept [0, 5, 6] (.seq (.seq (.ops [m 21 5,
 (o 22 (.bin .gtr (t 21) (.const (.int .u64 0)))),
 m 23 22,
 mg 24 23 false 6,
 (g 25 23 false (.bin .gtr (t 24) (.const (.int .u64 9223372036854775807)))),
 (o 26 (.pick (t 23) tt (t 25)))])
 (.cond (t 26) (.ops [o 27 (.bad (.const (.string ⟨⟨[116, 104, 101, 32, 114, 101, 115, 117, 108, 116, 32, 111, 102, 32, 40, 108, 101, 110, 40, 120, 41, 32, 42, 32, 99, 111, 117, 110, 116, 41, 32, 111, 118, 101, 114, 102, 108, 111, 119, 115]⟩⟩))),
 (u (.bad (t 27)))]) (.skip)))
 (.kept [0, 6] (.seq (.ops [m 28 6,
 (o 29 (.cvi .i64 (t 28))),
 (o 30 (.mks 5 56 (.agg #[.bool false, .int .i64 0, .int .i64 0, .slice none 0 0, .bool false]) (t 29) (t 29))),
 m 7 30])
 (.seq (.ops [m 31 7,
 m 32 0,
 (o 33 (.cpy 5 (t 31) (t 32))),
 m 8 33])
 (.seq (.block 0 (.loop 2 [(7, 0), (8, 0)] c_slices_Repeat___impl_Voter_impl_Voter__l1))
 (.kept [7] (.seq (.ops [m 47 7,
 m 4 47])
 (.ret)))))))))))
theorem h_slices_Repeat___impl_Voter_impl_Voter_ : hF Tryz.prog n_slices_Repeat___impl_Voter_impl_Voter_ = some c_slices_Repeat___impl_Voter_impl_Voter_.strip := by kernel_rfl
theorem r_slices_Repeat___impl_Voter_impl_Voter_ : rF Tryz.prog n_slices_Repeat___impl_Voter_impl_Voter_ = some ([.tmp 4], 48) := by kernel_rfl
abbrev n_laws_vNet : Nat := 57
def c_laws_vNet : AS :=
 .seq (.ops [o 2 (.box (t 0)),
 (o 3 (.box (t 1))),
 (o 4 (.mv ff))])
 (.seq (.ops [o 5 (.fa 0 (t 2)),
 (o 6 (.load none (t 5))),
 (o 7 (.fa 0 (t 3))),
 (o 8 (.load none (t 7))),
 (o 9 (.bin .eql (t 6) (t 8))),
 m 10 9,
 (g 11 10 true (.fa 2 (t 2))),
 (g 12 10 true (.load none (t 11))),
 (g 13 10 true (.fa 2 (t 3))),
 (g 14 10 true (.load none (t 13))),
 (g 15 10 true (.bin .eql (t 12) (t 14))),
 (o 16 (.pick (t 10) (t 15) ff)),
 m 17 16,
 (g 18 17 true (.fa 1 (t 2))),
 (g 19 17 true (.load none (t 18))),
 (g 20 17 true (.fa 1 (t 3))),
 (g 21 17 true (.load none (t 20))),
 (g 22 17 true (.call 58 [(t 19), (t 21)])),
 (o 23 (.pick (t 17) (t 22) ff)),
 m 24 23,
 (g 25 24 true (.fa 3 (t 2))),
 (g 26 24 true (.load none (t 25))),
 (g 27 24 true (.fa 3 (t 3))),
 (g 28 24 true (.load none (t 27))),
 (g 29 24 true (.call 109 [(t 26), (t 28)])),
 (o 30 (.pick (t 24) (t 29) ff)),
 m 4 30])
 (.ret))
theorem h_laws_vNet : hF Tryz.prog n_laws_vNet = some c_laws_vNet.strip := by kernel_rfl
theorem r_laws_vNet : rF Tryz.prog n_laws_vNet = some ([.tmp 4], 31) := by kernel_rfl
abbrev n_laws_vInts : Nat := 58
def c_laws_vInts_l1 : AS :=
 .seq (.seq (.ops [m 11 5,
 m 12 0,
 (o 13 (.lens (t 12))),
 (o 14 (.bin .lss (t 11) (t 13)))])
 (.cond (t 14) (.skip) (.exit 0)))
 (.seq (.block 1 (.seq (.dops [m 17 0,
 m 18 5,
 (o 19 (.ia 1 (t 17) (t 18))),
 (o 20 (.load none (t 19))),
 m 21 1,
 m 22 5,
 (o 23 (.ia 1 (t 21) (t 22))),
 (o 24 (.load none (t 23))),
 (o 25 (.bin .neq (t 20) (t 24)))])
 (.kept [0, 1, 5, 25] (.cond (t 25) (.seq (.ops [o 4 (.mv ff)])
 (.ret)) (.skip)))))
 (.kept [0, 1, 5] (.ops [m 15 5,
 (o 16 (.bin .add (t 15) (k 1))),
 m 5 16])))
def c_laws_vInts : AS :=
 .seq (.ops [o 4 (.mv ff)])
 (.seq (.seq (.ops [m 6 0,
 (o 7 (.lens (t 6))),
 m 8 1,
 (o 9 (.lens (t 8))),
 (o 10 (.bin .neq (t 7) (t 9)))])
 (.cond (t 10) (.seq (.ops [o 4 (.mv ff)])
 (.ret)) (.skip)))
 (.kept [0, 1] (.seq (.seq (.ops [o 5 (.mv (k 0))])
 (.block 0 (.loop 2 [(0, 0), (1, 0), (5, 0)] c_laws_vInts_l1)))
 (.kept [] (.seq (.ops [o 4 (.mv tt)])
 (.ret))))))
theorem h_laws_vInts : hF Tryz.prog n_laws_vInts = some c_laws_vInts.strip := by kernel_rfl
theorem r_laws_vInts : rF Tryz.prog n_laws_vInts = some ([.tmp 4], 26) := by kernel_rfl
abbrev n_impl_TickNet : Nat := 59
def c_impl_TickNet : AS :=
 .seq (.ops [o 1 (.box (t 0)),
 (o 2 (.alloc (.agg #[.int .i64 0, .slice none 0 0, .int .i64 0, .slice none 0 0]))),
 (o 3 (.mv ff))])
 (.seq (.seq (.ops [o 5 (.load (some 4) (t 1)),
 (o 6 (.call 77 [(t 5)])),
 (o 7 (.not (t 6))),
 m 8 7,
 (g 9 8 false (.fa 0 (t 1))),
 (g 10 8 false (.load none (t 9))),
 (g 11 8 false (.bin .eql (t 10) (k 100000))),
 (o 12 (.pick (t 8) tt (t 11)))])
 (.kept [1, 2, 12] (.cond (t 12) (.seq (.ops [o 13 (.build (.agg #[.int .i64 0, .slice none 0 0, .int .i64 0, .slice none 0 0]) []),
 (u (.store 4 (t 2) (t 13))),
 (o 3 (.mv ff))])
 (.ret)) (.skip))))
 (.kept [1, 2] (.seq (.ops [o 14 (.load (some 4) (t 1)),
 (o 15 (.call 94 [(t 14)])),
 (o 4 (.alloc (.agg #[.int .i64 0, .slice none 0 0, .int .i64 0, .slice none 0 0]))),
 (u (.store 4 (t 4) (t 15)))])
 (.seq (.ops [o 16 (.fa 0 (t 4)),
 (o 17 (.load none (t 16))),
 (o 18 (.bin .add (t 17) (k 1))),
 (o 19 (.fa 0 (t 4))),
 (u (.store 1 (t 19) (t 18)))])
 (.seq (.ops [o 20 (.load (some 4) (t 4)),
 (u (.store 4 (t 2) (t 20))),
 (o 3 (.mv tt))])
 (.ret))))))
theorem h_impl_TickNet : hF Tryz.prog n_impl_TickNet = some c_impl_TickNet.strip := by kernel_rfl
theorem r_impl_TickNet : rF Tryz.prog n_impl_TickNet = some ([.cell 2 34, .tmp 3], 21) := by kernel_rfl
abbrev n_impl_Net_delivered : Nat := 60
def c_impl_Net_delivered : AS :=
 .seq (.ops [o 1 (.box (t 0)),
 (o 2 (.alloc (.agg #[.int .i64 0, .slice none 0 0, .int .i64 0, .slice none 0 0]))),
 (o 3 (.mv (.const (.slice none 0 0))))])
 (.seq (.ops [o 6 (.fa 3 (t 1)),
 (o 7 (.load none (t 6))),
 (o 8 (.mkf 111 [(t 1)])),
 (o 9 (.call 110 [(t 7), (t 8)])),
 m 4 9])
 (.seq (.seq (.ops [m 10 4,
 (o 11 (.bin .lss (t 10) (k 0)))])
 (.cond (t 11) (.ops [o 12 (.fa 3 (t 1)),
 (o 13 (.load none (t 12))),
 (o 14 (.lens (t 13))),
 m 4 14]) (.skip)))
 (.seq (.ops [o 15 (.load (some 4) (t 1)),
 (o 16 (.call 94 [(t 15)])),
 (o 5 (.alloc (.agg #[.int .i64 0, .slice none 0 0, .int .i64 0, .slice none 0 0]))),
 (u (.store 4 (t 5) (t 16)))])
 (.seq (.ops [o 17 (.fa 3 (t 1)),
 (o 18 (.load none (t 17))),
 m 19 4,
 (o 20 (.sls 4 (t 18) (some (t 19)) none none)),
 (o 21 (.call 112 [(t 20)])),
 (o 22 (.fa 3 (t 5))),
 (u (.store 1 (t 22) (t 21)))])
 (.kept [1, 2, 4, 5] (.seq (.rops [(none, o 23 (.load (some 4) (t 5))),
 (none, o 24 (.fa 3 (t 1))),
 (none, o 25 (.load none (t 24))),
 (none, m 26 4),
 (none, o 27 (.sls 4 (t 25) none (some (t 26)) none)),
 (some [o 23 (.load (some 4) (t 5))], o 28 (.call 112 [(t 27)])),
 (some [], u (.store 4 (t 2) (t 23))),
 (none, m 3 28)])
 (.ret)))))))
theorem h_impl_Net_delivered : hF Tryz.prog n_impl_Net_delivered = some c_impl_Net_delivered.strip := by kernel_rfl
theorem r_impl_Net_delivered : rF Tryz.prog n_impl_Net_delivered = some ([.cell 2 34, .tmp 3], 29) := by kernel_rfl
abbrev n_impl_readInt : Nat := 61
abbrev n_pimpl_Poll_askVote : Nat := 62
def c_pimpl_Poll_askVote : AS :=
 .seq (.ops [o 4 (.box (t 1))])
 (.seq (.pre [m 7 0, o 8 (.nc (t 7)), o 9 (.fa 0 (t 8))] 9 10 (.dops [m 7 0,
 (o 8 (.nc (t 7))),
 (o 9 (.fa 0 (t 8))),
 (o 10 (.load none (t 9))),
 (o 11 (.fa 1 (t 4))),
 (o 12 (.load none (t 11))),
 (o 13 (.ia 5 (t 10) (t 12))),
 m 6 13]))
 (.kept [0, 2, 4, 6] (.seq (.seq (.ops [m 14 2,
 m 15 6,
 (o 16 (.nc (t 15))),
 (o 17 (.fa 1 (t 16))),
 (o 18 (.load none (t 17))),
 (o 19 (.bin .gtr (t 14) (t 18)))])
 (.cond (t 19) (.post [(6, 1, [(3, 1)])] (.ops [m 20 6,
 m 21 2,
 (o 22 (.build (.agg #[.bool false, .int .i64 0, .int .i64 0, .slice none 0 0, .bool false]) [(0, 1, tt), (1, 1, (t 21)), (2, 1, (k (-1)))])),
 (o 23 (.nc (t 20))),
 (u (.store 5 (t 23) (t 22)))])) (.skip)))
 (.kept [0, 2, 4, 6] (.seq (.dops [m 24 6,
 (o 25 (.nc (t 24))),
 (o 26 (.fa 1 (t 25))),
 (o 27 (.load none (t 26))),
 m 28 2,
 (o 29 (.bin .eql (t 27) (t 28))),
 m 30 29,
 mg 31 30 true 6,
 (g 32 30 true (.nc (t 31))),
 (g 33 30 true (.fa 2 (t 32))),
 (g 34 30 true (.load none (t 33))),
 (g 35 30 true (.bin .eql (t 34) (k (-1)))),
 mg 36 30 true 35,
 mg 37 36 false 6,
 (g 38 36 false (.nc (t 37))),
 (g 39 36 false (.fa 2 (t 38))),
 (g 40 36 false (.load none (t 39))),
 (g 41 36 false (.fa 0 (t 4))),
 (g 42 36 false (.load none (t 41))),
 (g 43 36 false (.bin .eql (t 40) (t 42))),
 (g 44 30 true (.pick (t 36) tt (t 43))),
 (o 45 (.pick (t 30) (t 44) ff))])
 (.kept [0, 2, 4, 6, 45] (.cond (t 45) (.seq (.post [(0, 1, [(0, 5), (2, 1), (4, 4), (5, 2)])] (.ops [m 46 6,
 (o 47 (.fa 0 (t 4))),
 (o 48 (.load none (t 47))),
 (o 49 (.nc (t 46))),
 (o 50 (.fa 2 (t 49))),
 (u (.store 1 (t 50) (t 48)))]))
 (.rops [(none, m 51 0),
 (none, o 52 (.nc (t 51))),
 (none, o 53 (.fa 1 (t 52))),
 (none, o 54 (.fa 1 (t 4))),
 (none, o 55 (.load none (t 54))),
 (none, o 56 (.fa 0 (t 4))),
 (none, o 57 (.load none (t 56))),
 (none, m 58 2),
 (some [o 57 (.load none (t 56)), o 56 (.fa 0 (t 4)), o 55 (.load none (t 54)), o 54 (.fa 1 (t 4)), o 53 (.fa 1 (t 52)), o 52 (.nc (t 51)), m 51 0], o 59 (.call 44 [(t 58)])),
 (none, o 60 (.bin .add (.const (.string ⟨⟨[121]⟩⟩)) (t 59))),
 (some [], o 61 (.call 43 [(t 53), (t 55), (t 57), (t 60)]))])) (.lay [(0, 1, [(0, 5), (2, 1), (4, 4), (5, 2)])] (.skip)))))))))
theorem h_pimpl_Poll_askVote : hF Tryz.prog n_pimpl_Poll_askVote = some c_pimpl_Poll_askVote.strip := by kernel_rfl
theorem r_pimpl_Poll_askVote : rF Tryz.prog n_pimpl_Poll_askVote = some ([], 62) := by kernel_rfl
abbrev n_pimpl_Poll_countVote : Nat := 63
def c_pimpl_Poll_countVote : AS :=
 .seq (.ops [o 4 (.box (t 1))])
 (.seq (.pre [m 9 0, o 10 (.nc (t 9)), o 11 (.fa 0 (t 10))] 11 12 (.dops [m 9 0,
 (o 10 (.nc (t 9))),
 (o 11 (.fa 0 (t 10))),
 (o 12 (.load none (t 11))),
 (o 13 (.fa 1 (t 4))),
 (o 14 (.load none (t 13))),
 (o 15 (.ia 5 (t 12) (t 14))),
 m 6 15]))
 (.kept [0, 2, 4, 6] (.seq (.seq (.dops [m 16 6,
 (o 17 (.nc (t 16))),
 (o 18 (.fa 1 (t 17))),
 (o 19 (.load none (t 18))),
 m 20 2,
 (o 21 (.bin .neq (t 19) (t 20))),
 m 22 21,
 mg 23 22 false 6,
 (g 24 22 false (.nc (t 23))),
 (g 25 22 false (.fa 2 (t 24))),
 (g 26 22 false (.load none (t 25))),
 (g 27 22 false (.fa 1 (t 4))),
 (g 28 22 false (.load none (t 27))),
 (g 29 22 false (.bin .neq (t 26) (t 28))),
 (o 30 (.pick (t 22) tt (t 29)))])
 (.kept [0, 2, 4, 6, 30] (.cond (t 30) (.lay [(0, 1, [(0, 5), (2, 1), (4, 4), (5, 2)])] (.ret)) (.skip))))
 (.kept [0, 2, 4, 6] (.seq (.seq (.pre [m 32 6, o 33 (.nc (t 32)), o 34 (.fa 3 (t 33))] 34 35 (.post [(6, 1, [(3, 1)])] (.rops [(none, m 32 6),
 (none, o 33 (.nc (t 32))),
 (none, o 34 (.fa 3 (t 33))),
 (none, o 35 (.load none (t 34))),
 (none, o 36 (.fa 0 (t 4))),
 (none, o 37 (.load none (t 36))),
 (some [], o 38 (.call 114 [(t 35), (t 37)])),
 (none, m 31 38),
 (none, o 39 (.ext 0 (t 31))),
 (none, o 40 (.ext 1 (t 31))),
 (none, m 7 39),
 (none, m 8 40)])))
 (.kept [0, 2, 4, 6, 7, 8] (.seq (.ops [m 41 8,
 (o 42 (.not (t 41)))])
 (.cond (t 42) (.pre [m 44 6, o 45 (.nc (t 44)), o 46 (.fa 3 (t 45))] 46 47 (.post [(6, 1, [(3, 1)])] (.rops [(none, m 43 6),
 (none, m 44 6),
 (none, o 45 (.nc (t 44))),
 (none, o 46 (.fa 3 (t 45))),
 (none, o 47 (.load none (t 46))),
 (none, m 48 7),
 (none, o 49 (.fa 0 (t 4))),
 (none, o 50 (.load none (t 49))),
 (some [m 48 7, o 47 (.load none (t 46)), o 46 (.fa 3 (t 45)), o 45 (.nc (t 44)), m 44 6, m 43 6], o 51 (.bsl 1 (.int .i64 0) 1 [(0, (t 50))])),
 (some [m 43 6], o 52 (.call 115 [(t 47), (t 48), (t 51)])),
 (none, o 53 (.nc (t 43))),
 (none, o 54 (.fa 3 (t 53))),
 (some [], u (.store 1 (t 54) (t 52)))]))) (.skip)))))
 (.kept [0, 2, 4, 6] (.seq (.seq (.pre [m 55 6, o 56 (.nc (t 55)), o 57 (.fa 3 (t 56))] 57 58 (.pre [m 61 0, o 62 (.nc (t 61)), o 63 (.fa 0 (t 62))] 63 64 (.post [(6, 1, [(3, 1)])] (.dops [m 55 6,
 (o 56 (.nc (t 55))),
 (o 57 (.fa 3 (t 56))),
 (o 58 (.load none (t 57))),
 (o 59 (.lens (t 58))),
 (o 60 (.bin .mul (k 2) (t 59))),
 m 61 0,
 (o 62 (.nc (t 61))),
 (o 63 (.fa 0 (t 62))),
 (o 64 (.load none (t 63))),
 (o 65 (.lens (t 64))),
 (o 66 (.bin .leq (t 60) (t 65))),
 m 67 66,
 mg 68 67 false 6,
 (g 69 67 false (.nc (t 68))),
 (g 70 67 false (.fa 4 (t 69))),
 (g 71 67 false (.load none (t 70))),
 (o 72 (.pick (t 67) tt (t 71)))]))))
 (.kept [0, 2, 4, 6, 72] (.cond (t 72) (.lay [(0, 1, [(0, 5), (2, 1), (4, 4), (5, 2)])] (.ret)) (.skip))))
 (.kept [0, 2, 4, 6] (.seq (.post [(0, 1, [(0, 5), (2, 1), (4, 4), (5, 2)])] (.ops [m 73 6,
 (o 74 (.nc (t 73))),
 (o 75 (.fa 4 (t 74))),
 (u (.store 1 (t 75) tt))]))
 (.seq (.post [(0, 1, [(0, 5), (2, 1), (4, 4), (5, 2)])] (.ops [m 76 0,
 (o 77 (.nc (t 76))),
 (o 78 (.fa 5 (t 77))),
 (o 79 (.load none (t 78))),
 (o 80 (.lens (t 79))),
 (o 81 (.bin .lss (t 80) (k 60)))]))
 (.cond (t 81) (.pre [m 83 0, o 84 (.nc (t 83)), o 85 (.fa 5 (t 84))] 85 86 (.post [(0, 1, [(0, 5), (2, 1), (4, 4), (5, 2)])] (.rops [(none, m 82 0),
 (none, m 83 0),
 (none, o 84 (.nc (t 83))),
 (none, o 85 (.fa 5 (t 84))),
 (none, o 86 (.load none (t 85))),
 (none, m 87 2),
 (none, o 88 (.fa 1 (t 4))),
 (none, o 89 (.load none (t 88))),
 (none, o 90 (.build (.agg #[.int .i64 0, .int .i64 0]) [(0, 1, (t 87)), (1, 1, (t 89))])),
 (some [o 86 (.load none (t 85)), o 85 (.fa 5 (t 84)), o 84 (.nc (t 83)), m 83 0, m 82 0], o 91 (.bsl 2 (.agg #[.int .i64 0, .int .i64 0]) 1 [(0, (t 90))])),
 (some [m 82 0], o 92 (.app 2 16 (.agg #[.int .i64 0, .int .i64 0]) (t 86) (t 91))),
 (none, o 93 (.nc (t 82))),
 (none, o 94 (.fa 5 (t 93))),
 (some [], u (.store 1 (t 94) (t 92)))]))) (.skip))))))))))))
theorem h_pimpl_Poll_countVote : hF Tryz.prog n_pimpl_Poll_countVote = some c_pimpl_Poll_countVote.strip := by kernel_rfl
theorem r_pimpl_Poll_countVote : rF Tryz.prog n_pimpl_Poll_countVote = some ([], 95) := by kernel_rfl
abbrev n_slices_IndexFunc___impl_Won_impl_Won_ : Nat := 64
def c_slices_IndexFunc___impl_Won_impl_Won__l1 : AS :=
 .seq (.ops [o 9 (.bin .lss (t 8) (t 7))])
 (.seq (.cond (t 9) (.skip) (.exit 0))
 (.seq (.block 1 (.seq (.ops [m 10 8,
 m 5 10])
 (.seq (.ops [m 11 1,
 m 12 0,
 m 13 5,
 (o 14 (.ia 2 (t 12) (t 13))),
 (o 15 (.load (some 2) (t 14))),
 (o 16 (.callv (t 11) [(t 15)]))])
 (.cond (t 16) (.seq (.ops [m 17 5,
 m 4 17])
 (.ret)) (.skip)))))
 (.kept [0, 1, 7, 8] (.ops [o 18 (.bin .add (t 8) (k 1)),
 m 8 18]))))
def c_slices_IndexFunc___impl_Won_impl_Won_ : AS :=
 .seq (.ops [o 4 (.mv (k 0))])
 (.seq (.seq (.ops [m 6 0,
 (o 7 (.lens (t 6))),
 (o 8 (.mv (k 0)))])
 (.block 0 (.loop 2 [(0, 0), (1, 0), (7, 0), (8, 0)] c_slices_IndexFunc___impl_Won_impl_Won__l1)))
 (.kept [] (.seq (.ops [o 4 (.mv (k (-1)))])
 (.ret))))
theorem h_slices_IndexFunc___impl_Won_impl_Won_ : hF Tryz.prog n_slices_IndexFunc___impl_Won_impl_Won_ = some c_slices_IndexFunc___impl_Won_impl_Won_.strip := by kernel_rfl
theorem r_slices_IndexFunc___impl_Won_impl_Won_ : rF Tryz.prog n_slices_IndexFunc___impl_Won_impl_Won_ = some ([.tmp 4], 19) := by kernel_rfl
abbrev n_impl_LeaderOf_1 : Nat := 65
def c_impl_LeaderOf_1 : AS :=
 .seq (.ops [o 2 (.box (t 0)),
 (o 3 (.mv ff))])
 (.seq (.ops [o 4 (.fa 0 (t 2)),
 (o 5 (.load none (t 4))),
 (o 6 (.load none (t 1))),
 (o 7 (.bin .eql (t 5) (t 6))),
 m 3 7])
 (.ret))
theorem h_impl_LeaderOf_1 : hF Tryz.prog n_impl_LeaderOf_1 = some c_impl_LeaderOf_1.strip := by kernel_rfl
theorem r_impl_LeaderOf_1 : rF Tryz.prog n_impl_LeaderOf_1 = some ([.tmp 3], 8) := by kernel_rfl
abbrev n_spec_TickNet : Nat := 66
def c_spec_TickNet : AS :=
 .seq (.ops [o 1 (.box (t 0)),
 (o 2 (.alloc (.agg #[.int .i64 0, .slice none 0 0, .int .i64 0, .slice none 0 0]))),
 (o 3 (.mv ff))])
 (.seq (.seq (.ops [o 5 (.load (some 4) (t 1)),
 (o 6 (.call 116 [(t 5)])),
 (o 7 (.not (t 6)))])
 (.cond (t 7) (.seq (.ops [o 8 (.build (.agg #[.int .i64 0, .slice none 0 0, .int .i64 0, .slice none 0 0]) []),
 (u (.store 4 (t 2) (t 8))),
 (o 3 (.mv ff))])
 (.ret)) (.skip)))
 (.seq (.ops [o 9 (.load (some 4) (t 1)),
 (o 10 (.fa 3 (t 1))),
 (o 11 (.load none (t 10))),
 (o 12 (.call 86 [(t 9), (t 11)])),
 (o 4 (.alloc (.agg #[.int .i64 0, .slice none 0 0, .int .i64 0, .slice none 0 0]))),
 (u (.store 4 (t 4) (t 12)))])
 (.seq (.ops [o 13 (.fa 0 (t 4)),
 (o 14 (.load none (t 13))),
 (o 15 (.bin .add (t 14) (k 1))),
 (o 16 (.fa 0 (t 4))),
 (u (.store 1 (t 16) (t 15)))])
 (.seq (.ops [o 17 (.load (some 4) (t 4)),
 (o 18 (.call 117 [(t 17)])),
 (o 19 (.ext 0 (t 18))),
 (o 20 (.ext 1 (t 18))),
 (u (.store 4 (t 2) (t 19))),
 m 3 20])
 (.ret)))))
theorem h_spec_TickNet : hF Tryz.prog n_spec_TickNet = some c_spec_TickNet.strip := by kernel_rfl
theorem r_spec_TickNet : rF Tryz.prog n_spec_TickNet = some ([.cell 2 34, .tmp 3], 21) := by kernel_rfl
abbrev n_spec_l8Good : Nat := 67
def c_spec_l8Good_l1 : AS :=
 .seq (.seq (.ops [m 35 4,
 m 36 3,
 (o 37 (.bin .lss (t 35) (t 36)))])
 (.cond (t 37) (.skip) (.exit 0)))
 (.seq (.block 1 (.seq (.post [(43, 1, [(3, 1)])] (.ops [o 40 (.fa 0 (t 1)),
 (o 41 (.load none (t 40))),
 m 42 4,
 (o 43 (.ia 5 (t 41) (t 42))),
 (o 44 (.load (some 5) (t 43))),
 m 45 4,
 m 46 3,
 (o 47 (.call 118 [(t 44), (t 45), (t 46)])),
 (o 48 (.not (t 47)))]))
 (.kept [1, 3, 4, 48] (.cond (t 48) (.seq (.ops [o 2 (.mv ff)])
 (.ret)) (.skip)))))
 (.kept [1, 3, 4] (.ops [m 38 4,
 (o 39 (.bin .add (t 38) (k 1))),
 m 4 39])))
def c_spec_l8Good_l2 : AS :=
 .seq (.seq (.ops [m 49 5,
 (o 50 (.fa 5 (t 1))),
 (o 51 (.load none (t 50))),
 (o 52 (.lens (t 51))),
 (o 53 (.bin .lss (t 49) (t 52)))])
 (.cond (t 53) (.skip) (.exit 2)))
 (.seq (.block 3 (.seq (.ops [o 56 (.fa 5 (t 1)),
 (o 57 (.load none (t 56))),
 m 58 5,
 (o 59 (.ia 2 (t 57) (t 58))),
 (o 60 (.fa 0 (t 59))),
 (o 61 (.load none (t 60))),
 (o 62 (.call 85 [(t 61), (k 1), (k 200)])),
 (o 63 (.not (t 62))),
 m 64 63,
 (g 65 64 false (.fa 5 (t 1))),
 (g 66 64 false (.load none (t 65))),
 mg 67 64 false 5,
 (g 68 64 false (.ia 2 (t 66) (t 67))),
 (g 69 64 false (.fa 1 (t 68))),
 (g 70 64 false (.load none (t 69))),
 mg 71 64 false 3,
 (g 72 64 false (.bin .sub (t 71) (k 1))),
 (g 73 64 false (.call 85 [(t 70), (k 0), (t 72)])),
 (g 74 64 false (.not (t 73))),
 (o 75 (.pick (t 64) tt (t 74)))])
 (.kept [1, 3, 5, 75] (.cond (t 75) (.seq (.ops [o 2 (.mv ff)])
 (.ret)) (.skip)))))
 (.kept [1, 3, 5] (.ops [m 54 5,
 (o 55 (.bin .add (t 54) (k 1))),
 m 5 55])))
def c_spec_l8Good : AS :=
 .seq (.ops [o 1 (.box (t 0)),
 (o 2 (.mv ff))])
 (.seq (.ops [o 6 (.fa 1 (t 1)),
 (o 7 (.fa 1 (t 6))),
 (o 8 (.load none (t 7))),
 (o 9 (.lens (t 8))),
 m 3 9])
 (.seq (.seq (.ops [o 10 (.fa 1 (t 1)),
 (o 11 (.load (some 4) (t 10))),
 (o 12 (.call 116 [(t 11)])),
 (o 13 (.not (t 12))),
 m 14 13,
 mg 15 14 false 3,
 (g 16 14 false (.bin .neq (t 15) (k 3))),
 mg 17 14 false 16,
 mg 18 17 true 3,
 (g 19 17 true (.bin .neq (t 18) (k 5))),
 (g 20 14 false (.pick (t 17) (t 19) ff)),
 (o 21 (.pick (t 14) tt (t 20))),
 m 22 21,
 (g 23 22 false (.fa 0 (t 1))),
 (g 24 22 false (.load none (t 23))),
 (g 25 22 false (.lens (t 24))),
 mg 26 22 false 3,
 (g 27 22 false (.bin .neq (t 25) (t 26))),
 (o 28 (.pick (t 22) tt (t 27))),
 m 29 28,
 (g 30 29 false (.fa 5 (t 1))),
 (g 31 29 false (.load none (t 30))),
 (g 32 29 false (.lens (t 31))),
 (g 33 29 false (.bin .gtr (t 32) (k 60))),
 (o 34 (.pick (t 29) tt (t 33)))])
 (.kept [1, 3, 34] (.cond (t 34) (.seq (.ops [o 2 (.mv ff)])
 (.ret)) (.skip))))
 (.kept [1, 3] (.seq (.seq (.ops [o 4 (.mv (k 0))])
 (.block 0 (.loop 1 [(1, 0), (3, 0), (4, 0)] c_spec_l8Good_l1)))
 (.kept [1, 3] (.seq (.seq (.ops [o 5 (.mv (k 0))])
 (.block 2 (.loop 1 [(1, 0), (3, 0), (5, 0)] c_spec_l8Good_l2)))
 (.kept [] (.seq (.ops [o 2 (.mv tt)])
 (.ret)))))))))
theorem h_spec_l8Good : hF Tryz.prog n_spec_l8Good = some c_spec_l8Good.strip := by kernel_rfl
theorem r_spec_l8Good : rF Tryz.prog n_spec_l8Good = some ([.tmp 2], 76) := by kernel_rfl
abbrev n_spec_Deliver : Nat := 68
def c_spec_Deliver_l1 : AS :=
 .seq (.seq (.dops [m 11 5,
 (o 12 (.fa 3 (t 1))),
 (o 13 (.load none (t 12))),
 (o 14 (.lens (t 13))),
 (o 15 (.bin .lss (t 11) (t 14))),
 m 16 15,
 (g 17 16 true (.fa 3 (t 1))),
 (g 18 16 true (.load none (t 17))),
 mg 19 16 true 5,
 (g 20 16 true (.ia 4 (t 18) (t 19))),
 (g 21 16 true (.fa 2 (t 20))),
 (g 22 16 true (.load none (t 21))),
 (g 23 16 true (.fa 0 (t 1))),
 (g 24 16 true (.load none (t 23))),
 (g 25 16 true (.bin .leq (t 22) (t 24))),
 (o 26 (.pick (t 16) (t 25) ff))])
 (.kept [1, 2, 5, 26] (.cond (t 26) (.skip) (.exit 0))))
 (.kept [1, 2, 5] (.block 1 (.ops [m 27 5,
 (o 28 (.bin .add (t 27) (k 1))),
 m 5 28])))
def c_spec_Deliver : AS :=
 .seq (.ops [o 1 (.box (t 0)),
 (o 2 (.alloc (.agg #[.int .i64 0, .slice none 0 0, .int .i64 0, .slice none 0 0]))),
 (o 3 (.mv (.const (.slice none 0 0)))),
 (o 4 (.mv ff))])
 (.seq (.seq (.ops [o 6 (.load (some 4) (t 1)),
 (o 7 (.call 116 [(t 6)])),
 (o 8 (.not (t 7)))])
 (.cond (t 8) (.seq (.ops [o 9 (.build (.agg #[.int .i64 0, .slice none 0 0, .int .i64 0, .slice none 0 0]) []),
 (o 10 (.bsl 4 (.agg #[.int .i64 0, .int .i64 0, .int .i64 0, .string ⟨⟨[]⟩⟩]) 0 [])),
 (u (.store 4 (t 2) (t 9))),
 m 3 10,
 (o 4 (.mv ff))])
 (.ret)) (.skip)))
 (.kept [1, 2] (.seq (.ops [o 5 (.mv (k 0))])
 (.seq (.block 0 (.loop 1 [(1, 0), (2, 0), (5, 0)] c_spec_Deliver_l1))
 (.kept [1, 2, 5] (.seq (.rops [(none, o 29 (.load (some 4) (t 1))),
 (none, o 30 (.fa 3 (t 1))),
 (none, o 31 (.load none (t 30))),
 (none, m 32 5),
 (none, o 33 (.sls 4 (t 31) (some (t 32)) none none)),
 (none, o 35 (.fa 3 (t 1))),
 (none, o 36 (.load none (t 35))),
 (none, m 37 5),
 (none, o 38 (.sls 4 (t 36) none (some (t 37)) none)),
 (some [o 38 (.sls 4 (t 36) none (some (t 37)) none), m 37 5, o 36 (.load none (t 35)), o 35 (.fa 3 (t 1))], o 34 (.call 86 [(t 29), (t 33)])),
 (some [], o 39 (.call 119 [(t 38)])),
 (some [], u (.store 4 (t 2) (t 34))),
 (none, m 3 39),
 (none, o 4 (.mv tt))])
 (.ret)))))))
theorem h_spec_Deliver : hF Tryz.prog n_spec_Deliver = some c_spec_Deliver.strip := by kernel_rfl
theorem r_spec_Deliver : rF Tryz.prog n_spec_Deliver = some ([.cell 2 34, .tmp 3, .tmp 4], 40) := by kernel_rfl
abbrev n_spec_l8Hear : Nat := 69
def c_spec_l8Hear : AS :=
 .seq (.ops [o 2 (.box (t 0)),
 (o 3 (.box (t 1))),
 (o 4 (.alloc (.agg #[.slice none 0 0, .int .i64 0, .slice none 0 0, .int .i64 0, .slice none 0 0, .slice none 0 0])))])
 (.seq (.ops [o 6 (.fa 3 (t 3)),
 (o 7 (.load none (t 6))),
 (o 8 (.slt (t 7) (some (k 1)) none)),
 (o 9 (.call 120 [(t 8)])),
 m 5 9])
 (.seq (.seq (.ops [o 10 (.fa 0 (t 2)),
 (o 11 (.load none (t 10))),
 (o 12 (.fa 1 (t 3))),
 (o 13 (.load none (t 12))),
 (o 14 (.ia 5 (t 11) (t 13))),
 (o 15 (.fa 0 (t 14))),
 (o 16 (.load none (t 15))),
 (o 17 (.not (t 16))),
 m 18 17,
 mg 19 18 false 5,
 (g 20 18 false (.call 85 [(t 19), (k 1), (k 200)])),
 (g 21 18 false (.not (t 20))),
 (o 22 (.pick (t 18) tt (t 21)))])
 (.kept [2, 3, 4, 5, 22] (.cond (t 22) (.seq (.ops [o 23 (.load (some 6) (t 2)),
 (u (.store 6 (t 4) (t 23)))])
 (.ret)) (.skip))))
 (.kept [2, 3, 4, 5] (.seq (.seq (.ops [o 24 (.fa 3 (t 3)),
 (o 25 (.load none (t 24))),
 (o 26 (.ix (t 25) (k 0)))])
 (.block 0 (.seq (.ops [o 28 (.bin .eql (t 26) (.const (.int .u8 97))),
 m 27 28])
 (.cond (t 27) (.seq (.ops [o 29 (.load (some 6) (t 2)),
 (o 30 (.load (some 4) (t 3))),
 m 31 5,
 (o 32 (.call 121 [(t 29), (t 30), (t 31)])),
 (u (.store 6 (t 4) (t 32)))])
 (.ret)) (.seq (.ops [o 34 (.bin .eql (t 26) (.const (.int .u8 121))),
 m 33 34])
 (.cond (t 33) (.seq (.ops [o 35 (.load (some 6) (t 2)),
 (o 36 (.load (some 4) (t 3))),
 m 37 5,
 (o 38 (.call 122 [(t 35), (t 36), (t 37)])),
 (u (.store 6 (t 4) (t 38)))])
 (.ret)) (.skip)))))))
 (.kept [2, 4] (.seq (.ops [o 39 (.load (some 6) (t 2)),
 (u (.store 6 (t 4) (t 39)))])
 (.ret)))))))
theorem h_spec_l8Hear : hF Tryz.prog n_spec_l8Hear = some c_spec_l8Hear.strip := by kernel_rfl
theorem r_spec_l8Hear : rF Tryz.prog n_spec_l8Hear = some ([.cell 4 37], 40) := by kernel_rfl
abbrev n_spec_l8Do : Nat := 70
def c_spec_l8Do : AS :=
 .seq (.ops [o 2 (.box (t 0)),
 (o 3 (.box (t 1))),
 (o 4 (.alloc (.agg #[.slice none 0 0, .int .i64 0, .slice none 0 0, .int .i64 0, .slice none 0 0, .slice none 0 0]))),
 (o 5 (.mv ff))])
 (.seq (.seq (.ops [o 12 (.fa 0 (t 3)),
 (o 13 (.load none (t 12)))])
 (.block 0 (.seq (.ops [o 15 (.bin .eql (t 13) (k 1)),
 m 14 15])
 (.cond (t 14) (.seq (.ops [o 16 (.load (some 6) (t 2)),
 (o 17 (.fa 1 (t 3))),
 (o 18 (.load none (t 17))),
 (o 19 (.call 9 [(t 16), (t 18)])),
 (o 20 (.ext 0 (t 19))),
 (o 21 (.ext 1 (t 19))),
 (u (.store 6 (t 4) (t 20))),
 m 5 21])
 (.ret)) (.seq (.ops [o 23 (.bin .eql (t 13) (k 2)),
 m 22 23])
 (.cond (t 22) (.seq (.ops [o 24 (.load (some 6) (t 2)),
 (o 25 (.fa 1 (t 3))),
 (o 26 (.load none (t 25))),
 (o 27 (.call 123 [(t 24), (t 26)])),
 (o 28 (.ext 0 (t 27))),
 (o 29 (.ext 1 (t 27))),
 (u (.store 6 (t 4) (t 28))),
 m 5 29])
 (.ret)) (.seq (.ops [o 31 (.bin .eql (t 13) (k 3)),
 m 30 31])
 (.cond (t 30) (.seq (.ops [o 32 (.load (some 6) (t 2)),
 (o 33 (.call 21 [(t 32)])),
 (o 34 (.ext 0 (t 33))),
 (o 35 (.ext 1 (t 33))),
 (u (.store 6 (t 4) (t 34))),
 m 5 35])
 (.ret)) (.seq (.ops [o 37 (.bin .eql (t 13) (k 4)),
 m 36 37])
 (.cond (t 36) (.seq (.ops [o 39 (.fa 1 (t 2)),
 (o 40 (.load (some 4) (t 39))),
 (o 41 (.fa 1 (t 3))),
 (o 42 (.load none (t 41))),
 (o 43 (.call 124 [(t 40), (t 42)])),
 m 38 43,
 (o 44 (.ext 0 (t 38))),
 (o 45 (.ext 1 (t 38))),
 (o 6 (.alloc (.agg #[.int .i64 0, .slice none 0 0, .int .i64 0, .slice none 0 0]))),
 (u (.store 4 (t 6) (t 44))),
 m 7 45])
 (.kept [2, 4, 6, 7] (.seq (.ops [o 46 (.load (some 6) (t 2)),
 (o 47 (.load (some 4) (t 6))),
 m 48 7,
 (o 49 (.call 125 [(t 46), (t 47), (t 48)])),
 (o 50 (.ext 0 (t 49))),
 (o 51 (.ext 1 (t 49))),
 (u (.store 6 (t 4) (t 50))),
 m 5 51])
 (.ret)))) (.seq (.ops [o 53 (.bin .eql (t 13) (k 5)),
 m 52 53])
 (.cond (t 52) (.seq (.ops [o 55 (.fa 1 (t 2)),
 (o 56 (.load (some 4) (t 55))),
 (o 57 (.fa 1 (t 3))),
 (o 58 (.load none (t 57))),
 (o 59 (.call 126 [(t 56), (t 58)])),
 m 54 59,
 (o 60 (.ext 0 (t 54))),
 (o 61 (.ext 1 (t 54))),
 (o 8 (.alloc (.agg #[.int .i64 0, .slice none 0 0, .int .i64 0, .slice none 0 0]))),
 (u (.store 4 (t 8) (t 60))),
 m 9 61])
 (.kept [2, 4, 8, 9] (.seq (.ops [o 62 (.load (some 6) (t 2)),
 (o 63 (.load (some 4) (t 8))),
 m 64 9,
 (o 65 (.call 125 [(t 62), (t 63), (t 64)])),
 (o 66 (.ext 0 (t 65))),
 (o 67 (.ext 1 (t 65))),
 (u (.store 6 (t 4) (t 66))),
 m 5 67])
 (.ret)))) (.seq (.ops [o 69 (.bin .eql (t 13) (k 6)),
 m 68 69])
 (.cond (t 68) (.seq (.ops [o 71 (.fa 1 (t 2)),
 (o 72 (.load (some 4) (t 71))),
 (o 73 (.fa 1 (t 3))),
 (o 74 (.load none (t 73))),
 (o 75 (.fa 2 (t 3))),
 (o 76 (.load none (t 75))),
 (o 77 (.call 127 [(t 72), (t 74), (t 76)])),
 m 70 77,
 (o 78 (.ext 0 (t 70))),
 (o 79 (.ext 1 (t 70))),
 (o 10 (.alloc (.agg #[.int .i64 0, .slice none 0 0, .int .i64 0, .slice none 0 0]))),
 (u (.store 4 (t 10) (t 78))),
 m 11 79])
 (.kept [2, 4, 10, 11] (.seq (.ops [o 80 (.load (some 6) (t 2)),
 (o 81 (.load (some 4) (t 10))),
 m 82 11,
 (o 83 (.call 125 [(t 80), (t 81), (t 82)])),
 (o 84 (.ext 0 (t 83))),
 (o 85 (.ext 1 (t 83))),
 (u (.store 6 (t 4) (t 84))),
 m 5 85])
 (.ret)))) (.skip)))))))))))))))
 (.kept [4] (.seq (.ops [o 86 (.build (.agg #[.slice none 0 0, .int .i64 0, .slice none 0 0, .int .i64 0, .slice none 0 0, .slice none 0 0]) []),
 (u (.store 6 (t 4) (t 86))),
 (o 5 (.mv ff))])
 (.ret))))
theorem h_spec_l8Do : hF Tryz.prog n_spec_l8Do = some c_spec_l8Do.strip := by kernel_rfl
theorem r_spec_l8Do : rF Tryz.prog n_spec_l8Do = some ([.cell 4 37, .tmp 5], 87) := by kernel_rfl
abbrev n_impl_doPoll : Nat := 72
def c_impl_doPoll : AS :=
 .seq (.ops [o 2 (.box (t 0)),
 (o 3 (.box (t 1))),
 (o 4 (.alloc (.agg #[.slice none 0 0, .int .i64 0, .slice none 0 0, .int .i64 0, .slice none 0 0, .slice none 0 0]))),
 (o 5 (.mv ff))])
 (.seq (.ops [o 9 (.build (.agg #[.int .i64 0, .slice none 0 0, .int .i64 0, .slice none 0 0]) []),
 (o 6 (.alloc (.agg #[.int .i64 0, .slice none 0 0, .int .i64 0, .slice none 0 0]))),
 (u (.store 4 (t 6) (t 9))),
 (o 7 (.mv ff))])
 (.seq (.seq (.ops [o 10 (.fa 0 (t 3)),
 (o 11 (.load none (t 10)))])
 (.block 0 (.seq (.ops [o 13 (.bin .eql (t 11) (k 1)),
 m 12 13])
 (.cond (t 12) (.seq (.ops [o 14 (.load (some 6) (t 2)),
 (o 15 (.fa 1 (t 3))),
 (o 16 (.load none (t 15))),
 (o 17 (.call 11 [(t 14), (t 16)])),
 (o 18 (.ext 0 (t 17))),
 (o 19 (.ext 1 (t 17))),
 (u (.store 6 (t 4) (t 18))),
 m 5 19])
 (.ret)) (.seq (.ops [o 21 (.bin .eql (t 11) (k 2)),
 m 20 21])
 (.cond (t 20) (.seq (.ops [o 22 (.load (some 6) (t 2)),
 (o 23 (.fa 1 (t 3))),
 (o 24 (.load none (t 23))),
 (o 25 (.call 128 [(t 22), (t 24)])),
 (o 26 (.ext 0 (t 25))),
 (o 27 (.ext 1 (t 25))),
 (u (.store 6 (t 4) (t 26))),
 m 5 27])
 (.ret)) (.seq (.ops [o 29 (.bin .eql (t 11) (k 3)),
 m 28 29])
 (.cond (t 28) (.seq (.ops [o 30 (.load (some 6) (t 2)),
 (o 31 (.call 19 [(t 30)])),
 (o 32 (.ext 0 (t 31))),
 (o 33 (.ext 1 (t 31))),
 (u (.store 6 (t 4) (t 32))),
 m 5 33])
 (.ret)) (.seq (.ops [o 35 (.bin .eql (t 11) (k 4)),
 m 34 35])
 (.cond (t 34) (.ops [o 37 (.fa 1 (t 2)),
 (o 38 (.load (some 4) (t 37))),
 (o 39 (.fa 1 (t 3))),
 (o 40 (.load none (t 39))),
 (o 41 (.call 129 [(t 38), (t 40)])),
 m 36 41,
 (o 42 (.ext 0 (t 36))),
 (o 43 (.ext 1 (t 36))),
 (u (.store 4 (t 6) (t 42))),
 m 7 43]) (.seq (.ops [o 45 (.bin .eql (t 11) (k 5)),
 m 44 45])
 (.cond (t 44) (.ops [o 47 (.fa 1 (t 2)),
 (o 48 (.load (some 4) (t 47))),
 (o 49 (.fa 1 (t 3))),
 (o 50 (.load none (t 49))),
 (o 51 (.call 130 [(t 48), (t 50)])),
 m 46 51,
 (o 52 (.ext 0 (t 46))),
 (o 53 (.ext 1 (t 46))),
 (u (.store 4 (t 6) (t 52))),
 m 7 53]) (.seq (.ops [o 55 (.bin .eql (t 11) (k 6)),
 m 54 55])
 (.cond (t 54) (.ops [o 57 (.fa 1 (t 2)),
 (o 58 (.load (some 4) (t 57))),
 (o 59 (.fa 1 (t 3))),
 (o 60 (.load none (t 59))),
 (o 61 (.fa 2 (t 3))),
 (o 62 (.load none (t 61))),
 (o 63 (.call 131 [(t 58), (t 60), (t 62)])),
 m 56 63,
 (o 64 (.ext 0 (t 56))),
 (o 65 (.ext 1 (t 56))),
 (u (.store 4 (t 6) (t 64))),
 m 7 65]) (.skip)))))))))))))))
 (.kept [2, 4, 6, 7] (.seq (.ops [o 66 (.load (some 6) (t 2)),
 (o 67 (.call 42 [(t 66)])),
 (o 8 (.alloc (.agg #[.slice none 0 0, .int .i64 0, .slice none 0 0, .int .i64 0, .slice none 0 0, .slice none 0 0]))),
 (u (.store 6 (t 8) (t 67)))])
 (.seq (.ops [o 68 (.load (some 4) (t 6)),
 (o 69 (.fa 1 (t 8))),
 (u (.store 4 (t 69) (t 68)))])
 (.seq (.ops [o 70 (.load (some 6) (t 8)),
 m 71 7,
 (u (.store 6 (t 4) (t 70))),
 m 5 71])
 (.ret)))))))
theorem h_impl_doPoll : hF Tryz.prog n_impl_doPoll = some c_impl_doPoll.strip := by kernel_rfl
theorem r_impl_doPoll : rF Tryz.prog n_impl_doPoll = some ([.cell 4 37, .tmp 5], 72) := by kernel_rfl
abbrev n_spec_NewNet : Nat := 74
def c_spec_NewNet : AS :=
 .seq (.ops [o 4 (.alloc (.agg #[.int .i64 0, .slice none 0 0, .int .i64 0, .slice none 0 0])),
 (o 5 (.mv ff))])
 (.seq (.ops [m 7 0,
 (o 8 (.call 87 [(t 7)])),
 m 9 1,
 (o 10 (.build (.agg #[.int .i64 0, .slice none 0 0, .int .i64 0, .slice none 0 0]) [(1, 1, (t 8)), (2, 1, (t 9))])),
 (o 6 (.alloc (.agg #[.int .i64 0, .slice none 0 0, .int .i64 0, .slice none 0 0]))),
 (u (.store 4 (t 6) (t 10)))])
 (.seq (.seq (.ops [o 11 (.load (some 4) (t 6)),
 (o 12 (.call 116 [(t 11)])),
 (o 13 (.not (t 12)))])
 (.cond (t 13) (.seq (.ops [o 14 (.build (.agg #[.int .i64 0, .slice none 0 0, .int .i64 0, .slice none 0 0]) []),
 (u (.store 4 (t 4) (t 14))),
 (o 5 (.mv ff))])
 (.ret)) (.skip)))
 (.seq (.ops [o 15 (.load (some 4) (t 6)),
 (u (.store 4 (t 4) (t 15))),
 (o 5 (.mv tt))])
 (.ret))))
theorem h_spec_NewNet : hF Tryz.prog n_spec_NewNet = some c_spec_NewNet.strip := by kernel_rfl
theorem r_spec_NewNet : rF Tryz.prog n_spec_NewNet = some ([.cell 4 34, .tmp 5], 16) := by kernel_rfl
abbrev n_slices_ContainsFunc___impl_Won_impl_Won_ : Nat := 75
def c_slices_ContainsFunc___impl_Won_impl_Won_ : AS :=
 .seq (.ops [o 4 (.mv ff)])
 (.seq (.ops [m 5 0,
 m 6 1,
 (o 7 (.call 64 [(t 5), (t 6)])),
 (o 8 (.bin .geq (t 7) (k 0))),
 m 4 8])
 (.ret))
theorem h_slices_ContainsFunc___impl_Won_impl_Won_ : hF Tryz.prog n_slices_ContainsFunc___impl_Won_impl_Won_ = some c_slices_ContainsFunc___impl_Won_impl_Won_.strip := by kernel_rfl
theorem r_slices_ContainsFunc___impl_Won_impl_Won_ : rF Tryz.prog n_slices_ContainsFunc___impl_Won_impl_Won_ = some ([.tmp 4], 9) := by kernel_rfl
abbrev n_impl_IsFair_1 : Nat := 76
def c_impl_IsFair_1 : AS :=
 .seq (.ops [o 2 (.box (t 0)),
 (o 3 (.mv ff))])
 (.seq (.ops [o 7 (.load (some 6) (t 1)),
 (o 8 (.fa 0 (t 2))),
 (o 9 (.load none (t 8))),
 (o 10 (.call 20 [(t 7), (t 9)])),
 m 6 10,
 (o 11 (.ext 0 (t 6))),
 (o 12 (.ext 1 (t 6))),
 m 4 11,
 m 5 12])
 (.kept [2, 4] (.seq (.ops [m 13 4,
 (o 14 (.fa 1 (t 2))),
 (o 15 (.load none (t 14))),
 (o 16 (.bin .neq (t 13) (t 15))),
 m 3 16])
 (.ret))))
theorem h_impl_IsFair_1 : hF Tryz.prog n_impl_IsFair_1 = some c_impl_IsFair_1.strip := by kernel_rfl
theorem r_impl_IsFair_1 : rF Tryz.prog n_impl_IsFair_1 = some ([.tmp 3], 17) := by kernel_rfl
abbrev n_impl_GoodNet : Nat := 77
def c_impl_GoodNet_l1 : AS :=
 .seq (.ops [o 27 (.bin .lss (t 26) (t 25))])
 (.seq (.cond (t 27) (.skip) (.exit 0))
 (.seq (.block 1 (.seq (.ops [m 28 26,
 (o 29 (.ia 4 (t 24) (t 26))),
 (o 30 (.load (some 4) (t 29))),
 (o 4 (.alloc (.agg #[.int .i64 0, .int .i64 0, .int .i64 0, .string ⟨⟨[]⟩⟩]))),
 m 3 28,
 (u (.store 4 (t 4) (t 30)))])
 (.seq (.rops [(none, o 31 (.load (some 4) (t 1))),
 (none, o 32 (.load (some 4) (t 4))),
 (some [], o 33 (.call 133 [(t 31), (t 32)])),
 (none, o 34 (.not (t 33))),
 (none, m 35 34),
 (none, mg 36 35 false 3),
 (none, g 37 35 false (.bin .gtr (t 36) (k 0))),
 (none, mg 38 35 false 37),
 (none, g 39 38 true (.fa 2 (t 4))),
 (none, g 40 38 true (.load none (t 39))),
 (none, g 41 38 true (.fa 3 (t 1))),
 (none, g 42 38 true (.load none (t 41))),
 (none, mg 43 38 true 3),
 (none, g 44 38 true (.bin .sub (t 43) (k 1))),
 (none, g 45 38 true (.ia 4 (t 42) (t 44))),
 (none, g 46 38 true (.fa 2 (t 45))),
 (none, g 47 38 true (.load none (t 46))),
 (none, g 48 38 true (.bin .lss (t 40) (t 47))),
 (none, g 49 35 false (.pick (t 38) (t 48) ff)),
 (none, o 50 (.pick (t 35) tt (t 49)))])
 (.kept [1, 24, 25, 26, 50] (.cond (t 50) (.seq (.ops [o 2 (.mv ff)])
 (.ret)) (.skip))))))
 (.kept [1, 24, 25, 26] (.ops [o 51 (.bin .add (t 26) (k 1)),
 m 26 51]))))
def c_impl_GoodNet : AS :=
 .seq (.ops [o 1 (.box (t 0)),
 (o 2 (.mv ff))])
 (.seq (.seq (.ops [o 5 (.fa 0 (t 1)),
 (o 6 (.load none (t 5))),
 (o 7 (.call 132 [(t 6)])),
 (o 8 (.not (t 7))),
 m 9 8,
 (g 10 9 false (.fa 1 (t 1))),
 (g 11 9 false (.load none (t 10))),
 (g 12 9 false (.fa 2 (t 1))),
 (g 13 9 false (.load none (t 12))),
 (g 14 9 false (.call 107 [(t 11), (t 13)])),
 (g 15 9 false (.not (t 14))),
 (o 16 (.pick (t 9) tt (t 15))),
 m 17 16,
 (g 18 17 false (.fa 3 (t 1))),
 (g 19 17 false (.load none (t 18))),
 (g 20 17 false (.lens (t 19))),
 (g 21 17 false (.bin .gtr (t 20) (k 60))),
 (o 22 (.pick (t 17) tt (t 21)))])
 (.kept [1, 22] (.cond (t 22) (.seq (.ops [o 2 (.mv ff)])
 (.ret)) (.skip))))
 (.kept [1] (.seq (.seq (.ops [o 23 (.fa 3 (t 1)),
 (o 24 (.load none (t 23))),
 (o 25 (.lens (t 24))),
 (o 26 (.mv (k 0)))])
 (.block 0 (.loop 1 [(1, 0), (24, 0), (25, 0), (26, 0)] c_impl_GoodNet_l1)))
 (.kept [] (.seq (.ops [o 2 (.mv tt)])
 (.ret))))))
theorem h_impl_GoodNet : hF Tryz.prog n_impl_GoodNet = some c_impl_GoodNet.strip := by kernel_rfl
theorem r_impl_GoodNet : rF Tryz.prog n_impl_GoodNet = some ([.tmp 2], 52) := by kernel_rfl
abbrev n_impl_isVoter : Nat := 78
def c_impl_isVoter : AS :=
 .seq (.ops [o 3 (.box (t 0)),
 (o 6 (.mv ff))])
 (.seq (.ops [o 8 (.fa 0 (t 3)),
 (o 9 (.load none (t 8))),
 m 10 9,
 (g 11 10 true (.fa 2 (t 3))),
 (g 12 10 true (.load none (t 11))),
 mg 13 10 true 1,
 (g 14 10 true (.bin .eql (t 12) (t 13))),
 (o 15 (.pick (t 10) (t 14) ff)),
 m 7 15])
 (.kept [2, 3, 7] (.seq (.ops [o 16 (.fa 1 (t 3)),
 (o 17 (.load none (t 16))),
 (o 18 (.call 80 [(t 17), (k 0), (k 200)])),
 m 19 18,
 (g 20 19 true (.fa 2 (t 3))),
 (g 21 19 true (.load none (t 20))),
 mg 22 19 true 2,
 (g 23 19 true (.bin .sub (t 22) (k 1))),
 (g 24 19 true (.call 80 [(t 21), (k (-1)), (t 23)])),
 (o 25 (.pick (t 19) (t 24) ff)),
 m 26 25,
 (g 27 26 true (.fa 3 (t 3))),
 (g 28 26 true (.load none (t 27))),
 mg 29 26 true 2,
 (g 30 26 true (.call 134 [(t 28), (t 29)])),
 (o 31 (.pick (t 26) (t 30) ff)),
 m 32 31,
 mg 33 32 true 7,
 mg 34 32 true 33,
 (g 35 34 false (.fa 3 (t 3))),
 (g 36 34 false (.load none (t 35))),
 (g 37 34 false (.lens (t 36))),
 (g 38 34 false (.bin .eql (t 37) (k 0))),
 (g 39 32 true (.pick (t 34) tt (t 38))),
 (o 40 (.pick (t 32) (t 39) ff)),
 m 41 40,
 (g 42 41 true (.fa 4 (t 3))),
 (g 43 41 true (.load none (t 42))),
 (g 44 41 true (.not (t 43))),
 mg 45 41 true 44,
 mg 46 45 false 7,
 mg 47 45 false 46,
 (g 48 47 true (.fa 3 (t 3))),
 (g 49 47 true (.load none (t 48))),
 (g 50 47 true (.lens (t 49))),
 (g 51 47 true (.bin .mul (k 2) (t 50))),
 mg 52 47 true 2,
 (g 53 47 true (.bin .gtr (t 51) (t 52))),
 (g 54 45 false (.pick (t 47) (t 53) ff)),
 (g 55 41 true (.pick (t 45) tt (t 54))),
 (o 56 (.pick (t 41) (t 55) ff)),
 m 6 56])
 (.ret))))
theorem h_impl_isVoter : hF Tryz.prog n_impl_isVoter = some c_impl_isVoter.strip := by kernel_rfl
theorem r_impl_isVoter : rF Tryz.prog n_impl_isVoter = some ([.tmp 6], 57) := by kernel_rfl
abbrev n_impl_GoodPoll_1 : Nat := 79
def c_impl_GoodPoll_1 : AS :=
 .seq (.ops [o 2 (.box (t 0)),
 (o 3 (.mv ff))])
 (.seq (.ops [o 4 (.fa 0 (t 2)),
 (o 5 (.load none (t 4))),
 (o 6 (.call 80 [(t 5), (k 1), (k 200)])),
 (o 7 (.not (t 6))),
 m 8 7,
 (g 9 8 false (.fa 1 (t 1))),
 (g 10 8 false (.load (some 4) (t 9))),
 (g 11 8 false (.fa 1 (t 2))),
 (g 12 8 false (.load none (t 11))),
 (g 13 8 false (.call 81 [(t 10), (t 12)])),
 (g 14 8 false (.not (t 13))),
 (o 15 (.pick (t 8) tt (t 14))),
 m 3 15])
 (.ret))
theorem h_impl_GoodPoll_1 : hF Tryz.prog n_impl_GoodPoll_1 = some c_impl_GoodPoll_1.strip := by kernel_rfl
theorem r_impl_GoodPoll_1 : rF Tryz.prog n_impl_GoodPoll_1 = some ([.tmp 3], 16) := by kernel_rfl
abbrev n_impl_within : Nat := 80
def c_impl_within : AS :=
 .seq (.ops [o 6 (.mv ff)])
 (.seq (.ops [m 7 0,
 m 8 1,
 (o 9 (.bin .geq (t 7) (t 8))),
 m 10 9,
 mg 11 10 true 0,
 mg 12 10 true 2,
 (g 13 10 true (.bin .leq (t 11) (t 12))),
 (o 14 (.pick (t 10) (t 13) ff)),
 m 6 14])
 (.ret))
theorem h_impl_within : hF Tryz.prog n_impl_within = some c_impl_within.strip := by kernel_rfl
theorem r_impl_within : rF Tryz.prog n_impl_within = some ([.tmp 6], 15) := by kernel_rfl
abbrev n_impl_Net_isNode : Nat := 81
def c_impl_Net_isNode : AS :=
 .seq (.ops [o 2 (.box (t 0)),
 (o 4 (.mv ff))])
 (.seq (.ops [m 5 1,
 (o 6 (.fa 1 (t 2))),
 (o 7 (.load none (t 6))),
 (o 8 (.lens (t 7))),
 (o 9 (.bin .sub (t 8) (k 1))),
 (o 10 (.call 80 [(t 5), (k 0), (t 9)])),
 m 4 10])
 (.ret))
theorem h_impl_Net_isNode : hF Tryz.prog n_impl_Net_isNode = some c_impl_Net_isNode.strip := by kernel_rfl
theorem r_impl_Net_isNode : rF Tryz.prog n_impl_Net_isNode = some ([.tmp 4], 11) := by kernel_rfl
abbrev n_spec_l1In : Nat := 85
def c_spec_l1In : AS :=
 .seq (.ops [o 6 (.mv ff)])
 (.seq (.ops [m 7 0,
 m 8 1,
 (o 9 (.bin .geq (t 7) (t 8))),
 m 10 9,
 mg 11 10 true 0,
 mg 12 10 true 2,
 (g 13 10 true (.bin .leq (t 11) (t 12))),
 (o 14 (.pick (t 10) (t 13) ff)),
 m 6 14])
 (.ret))
theorem h_spec_l1In : hF Tryz.prog n_spec_l1In = some c_spec_l1In.strip := by kernel_rfl
theorem r_spec_l1In : rF Tryz.prog n_spec_l1In = some ([.tmp 6], 15) := by kernel_rfl
abbrev n_spec_l7Own : Nat := 86
def c_spec_l7Own : AS :=
 .seq (.ops [o 2 (.box (t 0)),
 (o 4 (.alloc (.agg #[.int .i64 0, .slice none 0 0, .int .i64 0, .slice none 0 0])))])
 (.seq (.rops [(none, o 5 (.fa 0 (t 2))),
 (none, o 6 (.load none (t 5))),
 (none, o 7 (.fa 1 (t 2))),
 (none, o 8 (.load none (t 7))),
 (none, o 10 (.fa 2 (t 2))),
 (none, o 11 (.load none (t 10))),
 (none, m 12 1),
 (some [m 12 1, o 11 (.load none (t 10)), o 10 (.fa 2 (t 2)), o 6 (.load none (t 5)), o 5 (.fa 0 (t 2))], o 9 (.call 87 [(t 8)])),
 (some [o 11 (.load none (t 10)), o 10 (.fa 2 (t 2)), o 6 (.load none (t 5)), o 5 (.fa 0 (t 2))], o 13 (.call 119 [(t 12)])),
 (none, o 14 (.build (.agg #[.int .i64 0, .slice none 0 0, .int .i64 0, .slice none 0 0]) [(0, 1, (t 6)), (1, 1, (t 9)), (2, 1, (t 11)), (3, 1, (t 13))])),
 (some [], u (.store 4 (t 4) (t 14)))])
 (.ret))
theorem h_spec_l7Own : hF Tryz.prog n_spec_l7Own = some c_spec_l7Own.strip := by kernel_rfl
theorem r_spec_l7Own : rF Tryz.prog n_spec_l7Own = some ([.cell 4 34], 15) := by kernel_rfl
abbrev n_spec_l1Own : Nat := 87
def c_spec_l1Own : AS :=
 .seq (.ops [o 2 (.mv (.const (.slice none 0 0)))])
 (.seq (.ops [o 3 (.bsl 1 (.int .i64 0) 0 []),
 m 4 0,
 (o 5 (.app 1 8 (.int .i64 0) (t 3) (t 4))),
 m 2 5])
 (.ret))
theorem h_spec_l1Own : hF Tryz.prog n_spec_l1Own = some c_spec_l1Own.strip := by kernel_rfl
theorem r_spec_l1Own : rF Tryz.prog n_spec_l1Own = some ([.tmp 2], 6) := by kernel_rfl
abbrev n_spec_SendTo : Nat := 88
def c_spec_SendTo : AS :=
 .seq (.ops [o 4 (.box (t 0)),
 (o 8 (.alloc (.agg #[.int .i64 0, .slice none 0 0, .int .i64 0, .slice none 0 0]))),
 (o 9 (.mv ff))])
 (.seq (.seq (.ops [o 10 (.load (some 4) (t 4)),
 (o 11 (.call 116 [(t 10)])),
 (o 12 (.not (t 11))),
 m 13 12,
 (g 14 13 false (.load (some 4) (t 4))),
 mg 15 13 false 1,
 (g 16 13 false (.call 136 [(t 14), (t 15)])),
 (g 17 13 false (.not (t 16))),
 (o 18 (.pick (t 13) tt (t 17))),
 m 19 18,
 (g 20 19 false (.load (some 4) (t 4))),
 mg 21 19 false 2,
 (g 22 19 false (.call 136 [(t 20), (t 21)])),
 (g 23 19 false (.not (t 22))),
 (o 24 (.pick (t 19) tt (t 23))),
 m 25 24,
 mg 26 25 false 1,
 mg 27 25 false 2,
 (g 28 25 false (.bin .eql (t 26) (t 27))),
 (o 29 (.pick (t 25) tt (t 28)))])
 (.kept [1, 2, 3, 4, 8, 29] (.cond (t 29) (.seq (.ops [o 30 (.build (.agg #[.int .i64 0, .slice none 0 0, .int .i64 0, .slice none 0 0]) []),
 (u (.store 4 (t 8) (t 30))),
 (o 9 (.mv ff))])
 (.ret)) (.skip))))
 (.kept [1, 2, 3, 4, 8] (.seq (.rops [(none, o 31 (.load (some 4) (t 4))),
 (none, o 32 (.fa 3 (t 4))),
 (none, o 33 (.load none (t 32))),
 (none, m 34 1),
 (none, m 35 2),
 (none, o 36 (.fa 0 (t 4))),
 (none, o 37 (.load none (t 36))),
 (none, o 38 (.load (some 4) (t 4))),
 (none, m 39 1),
 (none, m 40 2),
 (none, m 43 3),
 (some [m 43 3, o 37 (.load none (t 36)), o 36 (.fa 0 (t 4)), m 35 2, m 34 1, o 33 (.load none (t 32)), o 32 (.fa 3 (t 4)), o 31 (.load (some 4) (t 4))], o 41 (.call 138 [(t 38), (t 39), (t 40)])),
 (none, o 42 (.bin .add (t 37) (t 41))),
 (none, o 44 (.build (.agg #[.int .i64 0, .int .i64 0, .int .i64 0, .string ⟨⟨[]⟩⟩]) [(0, 1, (t 34)), (1, 1, (t 35)), (2, 1, (t 42)), (3, 1, (t 43))])),
 (some [o 31 (.load (some 4) (t 4))], o 45 (.call 137 [(t 33), (t 44)])),
 (some [], o 46 (.call 86 [(t 31), (t 45)])),
 (some [], o 47 (.call 117 [(t 46)])),
 (none, o 48 (.ext 0 (t 47))),
 (none, o 49 (.ext 1 (t 47))),
 (some [], u (.store 4 (t 8) (t 48))),
 (none, m 9 49)])
 (.ret))))
theorem h_spec_SendTo : hF Tryz.prog n_spec_SendTo = some c_spec_SendTo.strip := by kernel_rfl
theorem r_spec_SendTo : rF Tryz.prog n_spec_SendTo = some ([.cell 8 34, .tmp 9], 50) := by kernel_rfl
abbrev n_slices_Clone___impl_Voter_impl_Voter_ : Nat := 93
def c_slices_Clone___impl_Voter_impl_Voter_ : AS :=
 .seq (.ops [o 2 (.mv (.const (.slice none 0 0)))])
 (.seq (.seq (.ops [m 3 0,
 (o 4 (.isn false (t 3)))])
 (.cond (t 4) (.seq (.ops [o 2 (.mv (.const (.slice none 0 0)))])
 (.ret)) (.skip)))
 (.seq (.ops [o 5 (.bsl 5 (.agg #[.bool false, .int .i64 0, .int .i64 0, .slice none 0 0, .bool false]) 0 []),
 m 6 0,
 (o 7 (.app 5 56 (.agg #[.bool false, .int .i64 0, .int .i64 0, .slice none 0 0, .bool false]) (t 5) (t 6))),
 m 2 7])
 (.ret)))
theorem h_slices_Clone___impl_Voter_impl_Voter_ : hF Tryz.prog n_slices_Clone___impl_Voter_impl_Voter_ = some c_slices_Clone___impl_Voter_impl_Voter_.strip := by kernel_rfl
theorem r_slices_Clone___impl_Voter_impl_Voter_ : rF Tryz.prog n_slices_Clone___impl_Voter_impl_Voter_ = some ([.tmp 2], 8) := by kernel_rfl
abbrev n_impl_copyNet : Nat := 94
def c_impl_copyNet : AS :=
 .seq (.ops [o 1 (.box (t 0)),
 (o 2 (.alloc (.agg #[.int .i64 0, .slice none 0 0, .int .i64 0, .slice none 0 0])))])
 (.seq (.ops [o 3 (.fa 1 (t 1)),
 (o 4 (.load none (t 3))),
 (o 5 (.call 96 [(t 4)])),
 (o 6 (.fa 1 (t 1))),
 (u (.store 1 (t 6) (t 5)))])
 (.seq (.ops [o 7 (.fa 3 (t 1)),
 (o 8 (.load none (t 7))),
 (o 9 (.call 112 [(t 8)])),
 (o 10 (.fa 3 (t 1))),
 (u (.store 1 (t 10) (t 9)))])
 (.seq (.ops [o 11 (.load (some 4) (t 1)),
 (u (.store 4 (t 2) (t 11)))])
 (.ret))))
theorem h_impl_copyNet : hF Tryz.prog n_impl_copyNet = some c_impl_copyNet.strip := by kernel_rfl
theorem r_impl_copyNet : rF Tryz.prog n_impl_copyNet = some ([.cell 2 34], 12) := by kernel_rfl
abbrev n_slices_Clone___impl_Won_impl_Won_ : Nat := 95
def c_slices_Clone___impl_Won_impl_Won_ : AS :=
 .seq (.ops [o 2 (.mv (.const (.slice none 0 0)))])
 (.seq (.seq (.ops [m 3 0,
 (o 4 (.isn false (t 3)))])
 (.cond (t 4) (.seq (.ops [o 2 (.mv (.const (.slice none 0 0)))])
 (.ret)) (.skip)))
 (.seq (.ops [o 5 (.bsl 2 (.agg #[.int .i64 0, .int .i64 0]) 0 []),
 m 6 0,
 (o 7 (.app 2 16 (.agg #[.int .i64 0, .int .i64 0]) (t 5) (t 6))),
 m 2 7])
 (.ret)))
theorem h_slices_Clone___impl_Won_impl_Won_ : hF Tryz.prog n_slices_Clone___impl_Won_impl_Won_ = some c_slices_Clone___impl_Won_impl_Won_.strip := by kernel_rfl
theorem r_slices_Clone___impl_Won_impl_Won_ : rF Tryz.prog n_slices_Clone___impl_Won_impl_Won_ = some ([.tmp 2], 8) := by kernel_rfl
abbrev n_slices_Clone___int_int_ : Nat := 96
def c_slices_Clone___int_int_ : AS :=
 .seq (.ops [o 2 (.mv (.const (.slice none 0 0)))])
 (.seq (.seq (.ops [m 3 0,
 (o 4 (.isn false (t 3)))])
 (.cond (t 4) (.seq (.ops [o 2 (.mv (.const (.slice none 0 0)))])
 (.ret)) (.skip)))
 (.seq (.ops [o 5 (.bsl 1 (.int .i64 0) 0 []),
 m 6 0,
 (o 7 (.app 1 8 (.int .i64 0) (t 5) (t 6))),
 m 2 7])
 (.ret)))
theorem h_slices_Clone___int_int_ : hF Tryz.prog n_slices_Clone___int_int_ = some c_slices_Clone___int_int_.strip := by kernel_rfl
theorem r_slices_Clone___int_int_ : rF Tryz.prog n_slices_Clone___int_int_ = some ([.tmp 2], 8) := by kernel_rfl
abbrev n_impl_Net_sent : Nat := 97
def c_impl_Net_sent : AS :=
 .seq (.ops [o 4 (.box (t 0)),
 (o 8 (.alloc (.agg #[.int .i64 0, .slice none 0 0, .int .i64 0, .slice none 0 0]))),
 (o 9 (.mv ff))])
 (.seq (.seq (.ops [o 11 (.load (some 4) (t 4)),
 m 12 1,
 (o 13 (.call 81 [(t 11), (t 12)])),
 (o 14 (.not (t 13))),
 m 15 14,
 (g 16 15 false (.load (some 4) (t 4))),
 mg 17 15 false 2,
 (g 18 15 false (.call 81 [(t 16), (t 17)])),
 (g 19 15 false (.not (t 18))),
 (o 20 (.pick (t 15) tt (t 19))),
 m 21 20,
 mg 22 21 false 1,
 mg 23 21 false 2,
 (g 24 21 false (.bin .eql (t 22) (t 23))),
 (o 25 (.pick (t 21) tt (t 24)))])
 (.kept [1, 2, 3, 4, 8, 25] (.cond (t 25) (.seq (.ops [o 26 (.build (.agg #[.int .i64 0, .slice none 0 0, .int .i64 0, .slice none 0 0]) []),
 (u (.store 4 (t 8) (t 26))),
 (o 9 (.mv ff))])
 (.ret)) (.skip))))
 (.kept [1, 2, 3, 4, 8] (.seq (.tops [(1, 0), (2, 0), (3, 0), (4, 0), (8, 0), (10, 0)] (.rd (m 27 1) (.rd (m 28 2) (.rd (o 29 (.fa 0 (t 4))) (.rd (o 30 (.load none (t 29))) (.rd (o 31 (.load (some 4) (t 4))) (.rd (m 32 1) (.rd (m 33 2) (.rd (m 36 3) (.alt [m 36 3, o 30 (.load none (t 29)), o 29 (.fa 0 (t 4)), m 28 2, m 27 1] (o 34 (.call 140 [(t 31), (t 32), (t 33)]))
 (.rd (o 35 (.bin .add (t 30) (t 34))) (.rd (o 37 (.build (.agg #[.int .i64 0, .int .i64 0, .int .i64 0, .string ⟨⟨[]⟩⟩]) [(0, 1, (t 27)), (1, 1, (t 28)), (2, 1, (t 35)), (3, 1, (t 36))])) (.alt [o 37 (.build (.agg #[.int .i64 0, .int .i64 0, .int .i64 0, .string ⟨⟨[]⟩⟩]) [(0, 1, (t 27)), (1, 1, (t 28)), (2, 1, (t 35)), (3, 1, (t 36))]), o 35 (.bin .add (t 30) (t 34)), m 36 3, o 30 (.load none (t 29)), o 29 (.fa 0 (t 4)), m 28 2, m 27 1] (o 10 (.alloc (.agg #[.int .i64 0, .int .i64 0, .int .i64 0, .string ⟨⟨[]⟩⟩])))
 (.alt [] (u (.store 4 (t 10) (t 37)))
 (.done)
 (.none))
 (.none))))
 (.alt [m 36 3, m 33 2, m 32 1, o 31 (.load (some 4) (t 4)), o 30 (.load none (t 29)), o 29 (.fa 0 (t 4)), m 28 2, m 27 1] (o 10 (.alloc (.agg #[.int .i64 0, .int .i64 0, .int .i64 0, .string ⟨⟨[]⟩⟩])))
 (.alt [m 36 3, o 30 (.load none (t 29)), o 29 (.fa 0 (t 4)), m 28 2, m 27 1] (o 34 (.call 140 [(t 31), (t 32), (t 33)]))
 (.rd (o 35 (.bin .add (t 30) (t 34))) (.rd (o 37 (.build (.agg #[.int .i64 0, .int .i64 0, .int .i64 0, .string ⟨⟨[]⟩⟩]) [(0, 1, (t 27)), (1, 1, (t 28)), (2, 1, (t 35)), (3, 1, (t 36))])) (.alt [] (u (.store 4 (t 10) (t 37)))
 (.done)
 (.none))))
 (.none))
 (.none))))))))))))
 (.kept [4, 8, 10] (.seq (.seq (.ops [o 38 (.load (some 4) (t 4)),
 (o 39 (.load (some 4) (t 10))),
 (o 40 (.call 133 [(t 38), (t 39)])),
 (o 41 (.not (t 40))),
 m 42 41,
 (g 43 42 false (.fa 3 (t 4))),
 (g 44 42 false (.load none (t 43))),
 (g 45 42 false (.lens (t 44))),
 (g 46 42 false (.bin .geq (t 45) (k 60))),
 (o 47 (.pick (t 42) tt (t 46)))])
 (.kept [4, 8, 10, 47] (.cond (t 47) (.seq (.ops [o 48 (.build (.agg #[.int .i64 0, .slice none 0 0, .int .i64 0, .slice none 0 0]) []),
 (u (.store 4 (t 8) (t 48))),
 (o 9 (.mv ff))])
 (.ret)) (.skip))))
 (.kept [4, 8, 10] (.seq (.ops [o 49 (.fa 1 (t 4)),
 (o 50 (.load none (t 49))),
 (o 51 (.call 96 [(t 50)])),
 (o 52 (.fa 1 (t 4))),
 (u (.store 1 (t 52) (t 51)))])
 (.seq (.ops [o 53 (.fa 3 (t 4)),
 (o 54 (.load none (t 53))),
 (o 55 (.load (some 4) (t 10))),
 (o 56 (.call 141 [(t 54), (t 55)])),
 (o 57 (.fa 3 (t 4))),
 (u (.store 1 (t 57) (t 56)))])
 (.seq (.ops [o 58 (.load (some 4) (t 4)),
 (u (.store 4 (t 8) (t 58))),
 (o 9 (.mv tt))])
 (.ret))))))))))
theorem h_impl_Net_sent : hF Tryz.prog n_impl_Net_sent = some c_impl_Net_sent.strip := by kernel_rfl
theorem r_impl_Net_sent : rF Tryz.prog n_impl_Net_sent = some ([.cell 8 34, .tmp 9], 59) := by kernel_rfl
abbrev n_impl_areHomes : Nat := 107
def c_impl_areHomes : AS :=
 .seq (.ops [o 4 (.mv ff)])
 (.seq (.ops [m 5 0,
 (o 6 (.lens (t 5))),
 (o 7 (.call 80 [(t 6), (k 1), (k 5)])),
 m 8 7,
 mg 9 8 true 0,
 (g 10 8 true (.call 145 [(t 9), (.func 146)])),
 (g 11 8 true (.not (t 10))),
 (o 12 (.pick (t 8) (t 11) ff)),
 m 13 12,
 mg 14 13 true 1,
 (g 15 13 true (.call 80 [(t 14), (k 0), (k 20)])),
 (o 16 (.pick (t 13) (t 15) ff)),
 m 4 16])
 (.ret))
theorem h_impl_areHomes : hF Tryz.prog n_impl_areHomes = some c_impl_areHomes.strip := by kernel_rfl
theorem r_impl_areHomes : rF Tryz.prog n_impl_areHomes = some ([.tmp 4], 17) := by kernel_rfl
end Go.Proofs.Wb

/- The compiled statements of the functions that the law reaches. -/
import Derived.Test.YtbifgoeoccjkoaaProg
import Derived.Test.YtbifgoeoccjkoaaAmAuto
import Derived.Test.YtbifgoeoccjkoaaAmSet
namespace Go.Proofs.Wb
open Go Go.Am
@[go_sem] theorem w_7 : wide Try.prog 7 = some (some 4) := by kernel_rfl
@[go_sem] theorem w_8 : wide Try.prog 8 = some (some 4) := by kernel_rfl
@[go_sem] theorem w_13 : wide Try.prog 13 = some (some 2) := by kernel_rfl
@[go_sem] theorem w_14 : wide Try.prog 14 = some (some 2) := by kernel_rfl
@[go_sem] theorem w_18 : wide Try.prog 18 = some (some 1) := by kernel_rfl
@[go_sem] theorem w_19 : wide Try.prog 19 = some (some 1) := by kernel_rfl
@[go_sem] theorem w_23 : wide Try.prog 23 = some (some 3) := by kernel_rfl
@[go_sem] theorem w_24 : wide Try.prog 24 = some (some 3) := by kernel_rfl
@[go_sem] theorem w_29 : wide Try.prog 29 = some (some 3) := by kernel_rfl
@[go_sem] theorem w_30 : wide Try.prog 30 = some (some 3) := by kernel_rfl
@[go_sem] theorem w_36 : wide Try.prog 36 = some (some 3) := by kernel_rfl
@[go_sem] theorem w_37 : wide Try.prog 37 = some (some 3) := by kernel_rfl
@[go_sem] theorem w_43 : wide Try.prog 43 = some (some 3) := by kernel_rfl
@[go_sem] theorem w_44 : wide Try.prog 44 = some (some 3) := by kernel_rfl
@[go_sem] theorem w_65 : wide Try.prog 65 = some (some 3) := by kernel_rfl
@[go_sem] theorem w_66 : wide Try.prog 66 = some (some 3) := by kernel_rfl
@[go_sem] theorem w_70 : wide Try.prog 70 = some (some 3) := by kernel_rfl
@[go_sem] theorem w_78 : wide Try.prog 78 = some (some 3) := by kernel_rfl
@[go_sem] theorem w_79 : wide Try.prog 79 = some (some 3) := by kernel_rfl
@[go_sem] theorem w_83 : wide Try.prog 83 = some (some 3) := by kernel_rfl
@[go_sem] theorem w_84 : wide Try.prog 84 = some (some 3) := by kernel_rfl
@[go_sem] theorem w_87 : wide Try.prog 87 = some (some 7) := by kernel_rfl
@[go_sem] theorem w_88 : wide Try.prog 88 = some (some 7) := by kernel_rfl
@[go_sem] theorem w_89 : wide Try.prog 89 = some (some 8) := by kernel_rfl
@[go_sem] theorem w_90 : wide Try.prog 90 = some (some 8) := by kernel_rfl
@[go_sem] theorem w_101 : wide Try.prog 101 = some (some 1) := by kernel_rfl
@[go_sem] theorem w_102 : wide Try.prog 102 = some (some 1) := by kernel_rfl
@[go_sem] theorem w_103 : wide Try.prog 103 = some (some 3) := by kernel_rfl
@[go_sem] theorem w_104 : wide Try.prog 104 = some (some 3) := by kernel_rfl
@[go_sem] theorem w_108 : wide Try.prog 108 = some (some 1) := by kernel_rfl
@[go_sem] theorem w_110 : wide Try.prog 110 = some (some 3) := by kernel_rfl
@[go_sem] theorem w_126 : wide Try.prog 126 = some (some 2) := by kernel_rfl
@[go_sem] theorem w_127 : wide Try.prog 127 = some (some 2) := by kernel_rfl
@[go_sem] theorem w_137 : wide Try.prog 137 = some (some 7) := by kernel_rfl
@[go_sem] theorem w_138 : wide Try.prog 138 = some (some 7) := by kernel_rfl
@[go_sem] theorem w_139 : wide Try.prog 139 = some (some 8) := by kernel_rfl
@[go_sem] theorem w_140 : wide Try.prog 140 = some (some 8) := by kernel_rfl
@[go_sem] theorem w_152 : wide Try.prog 152 = some (some 3) := by kernel_rfl
@[go_sem] theorem w_153 : wide Try.prog 153 = some (some 3) := by kernel_rfl
@[go_sem] theorem w_167 : wide Try.prog 167 = some (some 3) := by kernel_rfl
@[go_sem] theorem w_173 : wide Try.prog 173 = some (some 4) := by kernel_rfl
@[go_sem] theorem w_174 : wide Try.prog 174 = some (some 4) := by kernel_rfl
@[go_sem] theorem w_186 : wide Try.prog 186 = some (some 11) := by kernel_rfl
@[go_sem] theorem w_187 : wide Try.prog 187 = some (some 11) := by kernel_rfl
-- 4 loop.example/g00850/laws.FnExactPlayWatch
abbrev n_laws_FnExactPlayWatch : Nat := 4
def c_laws_FnExactPlayWatch : AS :=
  .seq (.ops [⟨(some 2), none, .box (.tmp 0)⟩,
    ⟨(some 4), none, .mv (.const (.bool false))⟩])
  (.seq (.ops [⟨(some 5), none, .mv (.const (.int .i64 1048576))⟩])
  (.seq (.ops [⟨(some 17), none, .load (some 3) (.tmp 2)⟩,
    ⟨(some 18), none, .mv (.tmp 5)⟩,
    ⟨(some 19), none, .call 10 [(.tmp 17), (.tmp 18)]⟩,
    ⟨(some 5), none, .mv (.tmp 19)⟩])
  (.seq (.seq (.ops [⟨(some 20), none, .mv (.tmp 5)⟩,
    ⟨(some 21), none, .bin .lss (.tmp 20) (.const (.int .i64 0))⟩])
  (.cond (.tmp 21) (.seq (.ops [⟨(some 4), none, .mv (.const (.bool true))⟩])
  (.ret)) (.skip)))
  (.seq (.ops [⟨(some 22), none, .mv (.tmp 1)⟩,
    ⟨(some 23), none, .mv (.tmp 5)⟩,
    ⟨(some 24), none, .call 11 [(.tmp 22), (.tmp 23)]⟩,
    ⟨(some 5), none, .mv (.tmp 24)⟩])
  (.seq (.seq (.ops [⟨(some 25), none, .mv (.tmp 5)⟩,
    ⟨(some 26), none, .bin .lss (.tmp 25) (.const (.int .i64 0))⟩])
  (.cond (.tmp 26) (.seq (.ops [⟨(some 4), none, .mv (.const (.bool true))⟩])
  (.ret)) (.skip)))
  (.seq (.ops [⟨(some 28), none, .load (some 3) (.tmp 2)⟩,
    ⟨(some 29), none, .call 13 [(.tmp 28)]⟩,
    ⟨(some 30), none, .mv (.tmp 1)⟩,
    ⟨(some 31), none, .call 14 [(.tmp 30)]⟩,
    ⟨(some 32), none, .call 12 [(.tmp 29), (.tmp 31)]⟩,
    ⟨(some 27), none, .mv (.tmp 32)⟩,
    ⟨(some 33), none, .ext 0 (.tmp 27)⟩,
    ⟨(some 34), none, .ext 1 (.tmp 27)⟩,
    ⟨(some 6), none, .alloc (.agg #[.int .i64 0, .slice none 0 0, .slice none 0 0])⟩,
    ⟨none, none, .store 3 (.tmp 6) (.tmp 33)⟩,
    ⟨(some 7), none, .mv (.tmp 34)⟩])
  (.kept [1, 2, 6, 7] (.seq (.ops [⟨(some 35), none, .load (some 3) (.tmp 2)⟩,
    ⟨(some 36), none, .call 13 [(.tmp 35)]⟩,
    ⟨(some 8), none, .alloc (.agg #[.int .i64 0, .slice none 0 0, .slice none 0 0])⟩,
    ⟨none, none, .store 3 (.tmp 8) (.tmp 36)⟩])
  (.seq (.ops [⟨(some 37), none, .mv (.tmp 1)⟩,
    ⟨(some 38), none, .call 14 [(.tmp 37)]⟩,
    ⟨(some 9), none, .mv (.tmp 38)⟩])
  (.seq (.ops [⟨(some 40), none, .load (some 3) (.tmp 8)⟩,
    ⟨(some 41), none, .mv (.tmp 9)⟩,
    ⟨(some 42), none, .call 15 [(.tmp 40), (.tmp 41)]⟩,
    ⟨(some 39), none, .mv (.tmp 42)⟩,
    ⟨(some 43), none, .ext 0 (.tmp 39)⟩,
    ⟨(some 44), none, .ext 1 (.tmp 39)⟩,
    ⟨(some 10), none, .alloc (.agg #[.int .i64 0, .slice none 0 0, .slice none 0 0])⟩,
    ⟨none, none, .store 3 (.tmp 10) (.tmp 43)⟩,
    ⟨(some 11), none, .mv (.tmp 44)⟩])
  (.kept [1, 2, 6, 7, 8, 9, 10, 11] (.seq (.seq (.ops [⟨(some 45), none, .load (some 3) (.tmp 10)⟩,
    ⟨(some 46), none, .load (some 3) (.tmp 6)⟩,
    ⟨(some 47), none, .call 16 [(.tmp 45), (.tmp 46)]⟩,
    ⟨(some 48), none, .not (.tmp 47)⟩,
    ⟨(some 49), none, .mv (.tmp 48)⟩,
    ⟨(some 50), some (49, false), .mv (.tmp 11)⟩,
    ⟨(some 51), some (49, false), .mv (.tmp 7)⟩,
    ⟨(some 52), some (49, false), .eqb true (.tmp 50) (.tmp 51)⟩,
    ⟨(some 53), none, .pick (.tmp 49) (.const (.bool true)) (.tmp 52)⟩])
  (.kept [1, 2, 6, 7, 8, 9, 10, 11, 53] (.cond (.tmp 53) (.seq (.ops [⟨(some 4), none, .mv (.const (.bool false))⟩])
  (.ret)) (.skip))))
  (.kept [1, 2, 6, 7, 8, 9, 10, 11] (.seq (.seq (.rops [(none, ⟨(some 54), none, .load (some 3) (.tmp 8)⟩),
    (none, ⟨(some 55), none, .load (some 3) (.tmp 2)⟩),
    (some [⟨(some 54), none, .load (some 3) (.tmp 8)⟩], ⟨(some 56), none, .call 13 [(.tmp 55)]⟩),
    (some [], ⟨(some 57), none, .call 16 [(.tmp 54), (.tmp 56)]⟩),
    (none, ⟨(some 58), none, .not (.tmp 57)⟩)])
  (.cond (.tmp 58) (.seq (.ops [⟨(some 4), none, .mv (.const (.bool false))⟩])
  (.ret)) (.skip)))
  (.kept [1, 2, 6, 7, 8, 9, 10, 11] (.seq (.seq (.ops [⟨(some 59), none, .mv (.tmp 9)⟩,
    ⟨(some 60), none, .mv (.tmp 1)⟩,
    ⟨(some 61), none, .call 14 [(.tmp 60)]⟩,
    ⟨(some 62), none, .call 17 [(.tmp 59), (.tmp 61)]⟩,
    ⟨(some 63), none, .not (.tmp 62)⟩])
  (.cond (.tmp 63) (.seq (.ops [⟨(some 4), none, .mv (.const (.bool false))⟩])
  (.ret)) (.skip)))
  (.kept [1, 2, 6, 7, 8, 9, 10, 11] (.seq (.ops [⟨(some 12), none, .mv (.const (.int .i64 1))⟩])
  (.seq (.ops [⟨(some 64), none, .load (some 3) (.tmp 8)⟩,
    ⟨(some 65), none, .mv (.tmp 12)⟩,
    ⟨(some 66), none, .call 18 [(.tmp 64), (.tmp 65)]⟩,
    ⟨(some 12), none, .mv (.tmp 66)⟩])
  (.seq (.ops [⟨(some 67), none, .mv (.tmp 9)⟩,
    ⟨(some 68), none, .mv (.tmp 12)⟩,
    ⟨(some 69), none, .call 19 [(.tmp 67), (.tmp 68)]⟩,
    ⟨(some 12), none, .mv (.tmp 69)⟩])
  (.seq (.seq (.ops [⟨(some 70), none, .mv (.tmp 12)⟩,
    ⟨(some 71), none, .bin .lss (.tmp 70) (.const (.int .i64 0))⟩,
    ⟨(some 72), none, .mv (.tmp 71)⟩,
    ⟨(some 73), some (72, false), .load (some 3) (.tmp 10)⟩,
    ⟨(some 74), some (72, false), .load (some 3) (.tmp 6)⟩,
    ⟨(some 75), some (72, false), .call 16 [(.tmp 73), (.tmp 74)]⟩,
    ⟨(some 76), some (72, false), .not (.tmp 75)⟩,
    ⟨(some 77), none, .pick (.tmp 72) (.const (.bool true)) (.tmp 76)⟩,
    ⟨(some 78), none, .mv (.tmp 77)⟩,
    ⟨(some 79), some (78, false), .mv (.tmp 11)⟩,
    ⟨(some 80), some (78, false), .mv (.tmp 7)⟩,
    ⟨(some 81), some (78, false), .eqb true (.tmp 79) (.tmp 80)⟩,
    ⟨(some 82), none, .pick (.tmp 78) (.const (.bool true)) (.tmp 81)⟩])
  (.kept [1, 2, 6, 7, 10, 82] (.cond (.tmp 82) (.seq (.ops [⟨(some 4), none, .mv (.const (.bool false))⟩])
  (.ret)) (.skip))))
  (.kept [1, 2, 6, 7, 10] (.seq (.ops [⟨(some 13), none, .mv (.const (.int .i64 1))⟩])
  (.seq (.ops [⟨(some 83), none, .load (some 3) (.tmp 10)⟩,
    ⟨(some 84), none, .mv (.tmp 13)⟩,
    ⟨(some 85), none, .call 18 [(.tmp 83), (.tmp 84)]⟩,
    ⟨(some 13), none, .mv (.tmp 85)⟩])
  (.seq (.ops [⟨(some 14), none, .mv (.const (.int .i64 1))⟩])
  (.seq (.ops [⟨(some 86), none, .load (some 3) (.tmp 10)⟩,
    ⟨(some 87), none, .mv (.tmp 14)⟩,
    ⟨(some 88), none, .call 20 [(.tmp 86), (.tmp 87)]⟩,
    ⟨(some 14), none, .mv (.tmp 88)⟩])
  (.seq (.seq (.ops [⟨(some 89), none, .mv (.tmp 14)⟩,
    ⟨(some 90), none, .bin .lss (.tmp 89) (.const (.int .i64 0))⟩])
  (.cond (.tmp 90) (.seq (.ops [⟨(some 4), none, .mv (.const (.bool false))⟩])
  (.ret)) (.skip)))
  (.seq (.seq (.ops [⟨(some 91), none, .mv (.tmp 14)⟩,
    ⟨(some 92), none, .mv (.tmp 13)⟩,
    ⟨(some 93), none, .bin .neq (.tmp 91) (.tmp 92)⟩])
  (.cond (.tmp 93) (.seq (.ops [⟨(some 4), none, .mv (.const (.bool false))⟩])
  (.ret)) (.skip)))
  (.seq (.ops [⟨(some 95), none, .load (some 3) (.tmp 2)⟩,
    ⟨(some 96), none, .call 13 [(.tmp 95)]⟩,
    ⟨(some 97), none, .mv (.tmp 1)⟩,
    ⟨(some 98), none, .call 14 [(.tmp 97)]⟩,
    ⟨(some 99), none, .call 15 [(.tmp 96), (.tmp 98)]⟩,
    ⟨(some 94), none, .mv (.tmp 99)⟩,
    ⟨(some 100), none, .ext 0 (.tmp 94)⟩,
    ⟨(some 101), none, .ext 1 (.tmp 94)⟩,
    ⟨(some 15), none, .alloc (.agg #[.int .i64 0, .slice none 0 0, .slice none 0 0])⟩,
    ⟨none, none, .store 3 (.tmp 15) (.tmp 100)⟩,
    ⟨(some 16), none, .mv (.tmp 101)⟩])
  (.kept [6, 7, 10, 13, 15, 16] (.seq (.seq (.ops [⟨(some 102), none, .load (some 3) (.tmp 15)⟩,
    ⟨(some 103), none, .load (some 3) (.tmp 6)⟩,
    ⟨(some 104), none, .call 16 [(.tmp 102), (.tmp 103)]⟩,
    ⟨(some 105), none, .not (.tmp 104)⟩,
    ⟨(some 106), none, .mv (.tmp 105)⟩,
    ⟨(some 107), some (106, false), .mv (.tmp 16)⟩,
    ⟨(some 108), some (106, false), .mv (.tmp 7)⟩,
    ⟨(some 109), some (106, false), .eqb true (.tmp 107) (.tmp 108)⟩,
    ⟨(some 110), none, .pick (.tmp 106) (.const (.bool true)) (.tmp 109)⟩])
  (.kept [10, 13, 110] (.cond (.tmp 110) (.seq (.ops [⟨(some 4), none, .mv (.const (.bool false))⟩])
  (.ret)) (.skip))))
  (.kept [10, 13] (.seq (.ops [⟨(some 14), none, .mv (.const (.int .i64 1))⟩])
  (.seq (.ops [⟨(some 111), none, .load (some 3) (.tmp 10)⟩,
    ⟨(some 112), none, .mv (.tmp 14)⟩,
    ⟨(some 113), none, .call 20 [(.tmp 111), (.tmp 112)]⟩,
    ⟨(some 14), none, .mv (.tmp 113)⟩])
  (.seq (.seq (.ops [⟨(some 114), none, .mv (.tmp 14)⟩,
    ⟨(some 115), none, .bin .lss (.tmp 114) (.const (.int .i64 0))⟩])
  (.cond (.tmp 115) (.seq (.ops [⟨(some 4), none, .mv (.const (.bool false))⟩])
  (.ret)) (.skip)))
  (.seq (.seq (.ops [⟨(some 116), none, .mv (.tmp 14)⟩,
    ⟨(some 117), none, .mv (.tmp 13)⟩,
    ⟨(some 118), none, .bin .neq (.tmp 116) (.tmp 117)⟩])
  (.cond (.tmp 118) (.seq (.ops [⟨(some 4), none, .mv (.const (.bool false))⟩])
  (.ret)) (.skip)))
  (.seq (.ops [⟨(some 4), none, .mv (.const (.bool true))⟩])
  (.ret))))))))))))))))))))))))))))))))))))))
theorem h_laws_FnExactPlayWatch : (Try.prog.funcs[n_laws_FnExactPlayWatch]?).bind (fun fn => fn.body.bind (comp Try.prog fn.ntmps)) = some (AS.strip c_laws_FnExactPlayWatch) := by kernel_rfl
theorem r_laws_FnExactPlayWatch : (Try.prog.funcs[n_laws_FnExactPlayWatch]?).map (fun fn => (fn.results.toList, fn.ntmps)) = some ([.tmp 4], 119) := by kernel_rfl
-- 10 loop.example/g00850/laws.szWatch
abbrev n_laws_szWatch : Nat := 10
def c_laws_szWatch : AS :=
  .seq (.ops [⟨(some 2), none, .box (.tmp 0)⟩,
    ⟨(some 4), none, .mv (.const (.int .i64 0))⟩])
  (.seq (.ops [⟨(some 5), none, .fa 1 (.tmp 2)⟩,
    ⟨(some 6), none, .load none (.tmp 5)⟩,
    ⟨(some 7), none, .mv (.tmp 1)⟩,
    ⟨(some 8), none, .call 28 [(.tmp 6), (.tmp 7)]⟩,
    ⟨(some 1), none, .mv (.tmp 8)⟩])
  (.seq (.seq (.ops [⟨(some 9), none, .mv (.tmp 1)⟩,
    ⟨(some 10), none, .bin .lss (.tmp 9) (.const (.int .i64 0))⟩])
  (.cond (.tmp 10) (.seq (.ops [⟨(some 4), none, .mv (.const (.int .i64 (-1)))⟩])
  (.ret)) (.skip)))
  (.seq (.ops [⟨(some 11), none, .fa 2 (.tmp 2)⟩,
    ⟨(some 12), none, .load none (.tmp 11)⟩,
    ⟨(some 13), none, .mv (.tmp 1)⟩,
    ⟨(some 14), none, .call 29 [(.tmp 12), (.tmp 13)]⟩,
    ⟨(some 1), none, .mv (.tmp 14)⟩])
  (.seq (.seq (.ops [⟨(some 15), none, .mv (.tmp 1)⟩,
    ⟨(some 16), none, .bin .lss (.tmp 15) (.const (.int .i64 0))⟩])
  (.cond (.tmp 16) (.seq (.ops [⟨(some 4), none, .mv (.const (.int .i64 (-1)))⟩])
  (.ret)) (.skip)))
  (.seq (.ops [⟨(some 17), none, .mv (.tmp 1)⟩,
    ⟨(some 4), none, .mv (.tmp 17)⟩])
  (.ret))))))
theorem h_laws_szWatch : (Try.prog.funcs[n_laws_szWatch]?).bind (fun fn => fn.body.bind (comp Try.prog fn.ntmps)) = some (AS.strip c_laws_szWatch) := by kernel_rfl
theorem r_laws_szWatch : (Try.prog.funcs[n_laws_szWatch]?).map (fun fn => (fn.results.toList, fn.ntmps)) = some ([.tmp 4], 18) := by kernel_rfl
-- 11 loop.example/g00850/laws.szWatchActS
abbrev n_laws_szWatchActS : Nat := 11
def c_laws_szWatchActS : AS :=
  .seq (.ops [⟨(some 4), none, .mv (.const (.int .i64 0))⟩])
  (.seq (.ops [⟨(some 5), none, .mv (.tmp 1)⟩,
    ⟨(some 6), none, .mv (.tmp 0)⟩,
    ⟨(some 7), none, .lens (.tmp 6)⟩,
    ⟨(some 8), none, .bin .sub (.tmp 5) (.tmp 7)⟩,
    ⟨(some 1), none, .mv (.tmp 8)⟩])
  (.seq (.seq (.ops [⟨(some 9), none, .mv (.tmp 1)⟩,
    ⟨(some 10), none, .bin .lss (.tmp 9) (.const (.int .i64 0))⟩])
  (.cond (.tmp 10) (.seq (.ops [⟨(some 4), none, .mv (.const (.int .i64 (-1)))⟩])
  (.ret)) (.skip)))
  (.seq (.ops [⟨(some 11), none, .mv (.tmp 1)⟩,
    ⟨(some 4), none, .mv (.tmp 11)⟩])
  (.ret))))
theorem h_laws_szWatchActS : (Try.prog.funcs[n_laws_szWatchActS]?).bind (fun fn => fn.body.bind (comp Try.prog fn.ntmps)) = some (AS.strip c_laws_szWatchActS) := by kernel_rfl
theorem r_laws_szWatchActS : (Try.prog.funcs[n_laws_szWatchActS]?).map (fun fn => (fn.results.toList, fn.ntmps)) = some ([.tmp 4], 12) := by kernel_rfl
-- 12 loop.example/g00850/spec.PlayWatch
abbrev n_spec_PlayWatch : Nat := 12
def c_spec_PlayWatch_l1 : AS :=
  .seq (.seq (.ops [⟨(some 21), none, .mv (.tmp 7)⟩,
    ⟨(some 22), none, .mv (.tmp 1)⟩,
    ⟨(some 23), none, .lens (.tmp 22)⟩,
    ⟨(some 24), none, .bin .lss (.tmp 21) (.tmp 23)⟩])
  (.cond (.tmp 24) (.skip) (.exit 0)))
  (.seq (.block 1 (.seq (.tops [(1, 0), (4, 0), (6, 0), (7, 0), (8, 0), (9, 0)] (.rd ⟨(some 28), none, .load (some 3) (.tmp 6)⟩ (.rd ⟨(some 29), none, .mv (.tmp 1)⟩ (.rd ⟨(some 30), none, .mv (.tmp 7)⟩ (.rd ⟨(some 31), none, .ia 3 (.tmp 29) (.tmp 30)⟩ (.rd ⟨(some 32), none, .load (some 3) (.tmp 31)⟩ (.alt [] ⟨(some 33), none, .call 32 [(.tmp 28), (.tmp 32)]⟩
    (.rd ⟨(some 27), none, .mv (.tmp 33)⟩ (.rd ⟨(some 34), none, .ext 0 (.tmp 27)⟩ (.rd ⟨(some 35), none, .ext 1 (.tmp 27)⟩ (.alt [⟨(some 35), none, .ext 1 (.tmp 27)⟩, ⟨(some 34), none, .ext 0 (.tmp 27)⟩, ⟨(some 27), none, .mv (.tmp 33)⟩] ⟨(some 8), none, .alloc (.agg #[.int .i64 0, .slice none 0 0, .slice none 0 0])⟩
    (.alt [⟨(some 35), none, .ext 1 (.tmp 27)⟩] ⟨none, none, .store 3 (.tmp 8) (.tmp 34)⟩
    (.rd ⟨(some 9), none, .mv (.tmp 35)⟩ (.done))
    (.none))
    (.none)))))
    (.alt [⟨(some 32), none, .load (some 3) (.tmp 31)⟩, ⟨(some 31), none, .ia 3 (.tmp 29) (.tmp 30)⟩, ⟨(some 30), none, .mv (.tmp 7)⟩, ⟨(some 29), none, .mv (.tmp 1)⟩, ⟨(some 28), none, .load (some 3) (.tmp 6)⟩] ⟨(some 8), none, .alloc (.agg #[.int .i64 0, .slice none 0 0, .slice none 0 0])⟩
    (.alt [] ⟨(some 33), none, .call 32 [(.tmp 28), (.tmp 32)]⟩
    (.rd ⟨(some 27), none, .mv (.tmp 33)⟩ (.rd ⟨(some 34), none, .ext 0 (.tmp 27)⟩ (.rd ⟨(some 35), none, .ext 1 (.tmp 27)⟩ (.alt [⟨(some 35), none, .ext 1 (.tmp 27)⟩] ⟨none, none, .store 3 (.tmp 8) (.tmp 34)⟩
    (.rd ⟨(some 9), none, .mv (.tmp 35)⟩ (.done))
    (.none)))))
    (.none))
    (.none)))))))))
  (.kept [1, 4, 6, 7, 8, 9] (.seq (.ops [⟨(some 36), none, .mv (.tmp 9)⟩])
  (.cond (.tmp 36) (.ops [⟨(some 37), none, .load (some 3) (.tmp 8)⟩,
    ⟨none, none, .store 3 (.tmp 6) (.tmp 37)⟩]) (.skip))))))
  (.kept [1, 4, 6, 7] (.ops [⟨(some 25), none, .mv (.tmp 7)⟩,
    ⟨(some 26), none, .bin .add (.tmp 25) (.const (.int .i64 1))⟩,
    ⟨(some 7), none, .mv (.tmp 26)⟩])))
def c_spec_PlayWatch : AS :=
  .seq (.ops [⟨(some 2), none, .box (.tmp 0)⟩,
    ⟨(some 4), none, .alloc (.agg #[.int .i64 0, .slice none 0 0, .slice none 0 0])⟩,
    ⟨(some 5), none, .mv (.const (.bool false))⟩])
  (.seq (.seq (.ops [⟨(some 10), none, .load (some 3) (.tmp 2)⟩,
    ⟨(some 11), none, .call 30 [(.tmp 10)]⟩,
    ⟨(some 12), none, .not (.tmp 11)⟩,
    ⟨(some 13), none, .mv (.tmp 12)⟩,
    ⟨(some 14), some (13, false), .mv (.tmp 1)⟩,
    ⟨(some 15), some (13, false), .lens (.tmp 14)⟩,
    ⟨(some 16), some (13, false), .bin .gtr (.tmp 15) (.const (.int .i64 100))⟩,
    ⟨(some 17), none, .pick (.tmp 13) (.const (.bool true)) (.tmp 16)⟩])
  (.kept [1, 2, 4, 17] (.cond (.tmp 17) (.seq (.ops [⟨(some 18), none, .build (.agg #[.int .i64 0, .slice none 0 0, .slice none 0 0]) []⟩,
    ⟨none, none, .store 3 (.tmp 4) (.tmp 18)⟩,
    ⟨(some 5), none, .mv (.const (.bool false))⟩])
  (.ret)) (.skip))))
  (.kept [1, 2, 4] (.seq (.ops [⟨(some 19), none, .load (some 3) (.tmp 2)⟩,
    ⟨(some 20), none, .call 31 [(.tmp 19)]⟩,
    ⟨(some 6), none, .alloc (.agg #[.int .i64 0, .slice none 0 0, .slice none 0 0])⟩,
    ⟨none, none, .store 3 (.tmp 6) (.tmp 20)⟩])
  (.seq (.seq (.ops [⟨(some 7), none, .mv (.const (.int .i64 0))⟩])
  (.block 0 (.loop 2 [(1, 0), (4, 0), (6, 0), (7, 0)] c_spec_PlayWatch_l1)))
  (.kept [4, 6] (.seq (.ops [⟨(some 38), none, .load (some 3) (.tmp 6)⟩,
    ⟨none, none, .store 3 (.tmp 4) (.tmp 38)⟩,
    ⟨(some 5), none, .mv (.const (.bool true))⟩])
  (.ret)))))))
theorem h_spec_PlayWatch : (Try.prog.funcs[n_spec_PlayWatch]?).bind (fun fn => fn.body.bind (comp Try.prog fn.ntmps)) = some (AS.strip c_spec_PlayWatch) := by kernel_rfl
theorem r_spec_PlayWatch : (Try.prog.funcs[n_spec_PlayWatch]?).map (fun fn => (fn.results.toList, fn.ntmps)) = some ([.cell 4 44, .tmp 5], 39) := by kernel_rfl
-- 13 loop.example/g00850/laws.toWatch
abbrev n_laws_toWatch : Nat := 13
def c_laws_toWatch : AS :=
  .seq (.ops [⟨(some 1), none, .box (.tmp 0)⟩,
    ⟨(some 2), none, .alloc (.agg #[.int .i64 0, .slice none 0 0, .slice none 0 0])⟩])
  (.seq (.ops [⟨(some 3), none, .alloc (.agg #[.int .i64 0, .slice none 0 0, .slice none 0 0])⟩])
  (.seq (.ops [⟨(some 4), none, .fa 0 (.tmp 1)⟩,
    ⟨(some 5), none, .load none (.tmp 4)⟩,
    ⟨(some 6), none, .fa 0 (.tmp 3)⟩,
    ⟨none, none, .store 1 (.tmp 6) (.tmp 5)⟩])
  (.seq (.ops [⟨(some 7), none, .fa 1 (.tmp 1)⟩,
    ⟨(some 8), none, .load none (.tmp 7)⟩,
    ⟨(some 9), none, .call 33 [(.tmp 8)]⟩,
    ⟨(some 10), none, .fa 1 (.tmp 3)⟩,
    ⟨none, none, .store 1 (.tmp 10) (.tmp 9)⟩])
  (.seq (.ops [⟨(some 11), none, .fa 2 (.tmp 1)⟩,
    ⟨(some 12), none, .load none (.tmp 11)⟩,
    ⟨(some 13), none, .call 34 [(.tmp 12)]⟩,
    ⟨(some 14), none, .fa 2 (.tmp 3)⟩,
    ⟨none, none, .store 1 (.tmp 14) (.tmp 13)⟩])
  (.seq (.ops [⟨(some 15), none, .load (some 3) (.tmp 3)⟩,
    ⟨none, none, .store 3 (.tmp 2) (.tmp 15)⟩])
  (.ret))))))
theorem h_laws_toWatch : (Try.prog.funcs[n_laws_toWatch]?).bind (fun fn => fn.body.bind (comp Try.prog fn.ntmps)) = some (AS.strip c_laws_toWatch) := by kernel_rfl
theorem r_laws_toWatch : (Try.prog.funcs[n_laws_toWatch]?).map (fun fn => (fn.results.toList, fn.ntmps)) = some ([.cell 2 44], 16) := by kernel_rfl
-- 14 loop.example/g00850/laws.toWatchActS
abbrev n_laws_toWatchActS : Nat := 14
def c_laws_toWatchActS_l1 : AS :=
  .seq (.seq (.ops [⟨(some 8), none, .mv (.tmp 4)⟩,
    ⟨(some 9), none, .mv (.tmp 0)⟩,
    ⟨(some 10), none, .lens (.tmp 9)⟩,
    ⟨(some 11), none, .bin .lss (.tmp 8) (.tmp 10)⟩])
  (.cond (.tmp 11) (.skip) (.exit 0)))
  (.seq (.block 1 (.ops [⟨(some 14), none, .mv (.tmp 3)⟩,
    ⟨(some 15), none, .mv (.tmp 4)⟩,
    ⟨(some 16), none, .mv (.tmp 0)⟩,
    ⟨(some 17), none, .mv (.tmp 4)⟩,
    ⟨(some 18), none, .ia 3 (.tmp 16) (.tmp 17)⟩,
    ⟨(some 19), none, .load (some 3) (.tmp 18)⟩,
    ⟨(some 20), none, .call 35 [(.tmp 19)]⟩,
    ⟨(some 21), none, .ia 3 (.tmp 14) (.tmp 15)⟩,
    ⟨none, none, .store 3 (.tmp 21) (.tmp 20)⟩]))
  (.kept [0, 3, 4] (.ops [⟨(some 12), none, .mv (.tmp 4)⟩,
    ⟨(some 13), none, .bin .add (.tmp 12) (.const (.int .i64 1))⟩,
    ⟨(some 4), none, .mv (.tmp 13)⟩])))
def c_laws_toWatchActS : AS :=
  .seq (.ops [⟨(some 2), none, .mv (.const (.slice none 0 0))⟩])
  (.seq (.ops [⟨(some 5), none, .mv (.tmp 0)⟩,
    ⟨(some 6), none, .lens (.tmp 5)⟩,
    ⟨(some 7), none, .mks 3 24 (.agg #[.int .i64 0, .int .i64 0, .int .i64 0]) (.tmp 6) (.tmp 6)⟩,
    ⟨(some 3), none, .mv (.tmp 7)⟩])
  (.seq (.seq (.ops [⟨(some 4), none, .mv (.const (.int .i64 0))⟩])
  (.block 0 (.loop 1 [(0, 0), (3, 0), (4, 0)] c_laws_toWatchActS_l1)))
  (.kept [3] (.seq (.ops [⟨(some 22), none, .mv (.tmp 3)⟩,
    ⟨(some 2), none, .mv (.tmp 22)⟩])
  (.ret)))))
theorem h_laws_toWatchActS : (Try.prog.funcs[n_laws_toWatchActS]?).bind (fun fn => fn.body.bind (comp Try.prog fn.ntmps)) = some (AS.strip c_laws_toWatchActS) := by kernel_rfl
theorem r_laws_toWatchActS : (Try.prog.funcs[n_laws_toWatchActS]?).map (fun fn => (fn.results.toList, fn.ntmps)) = some ([.tmp 2], 23) := by kernel_rfl
-- 15 loop.example/g00850/impl.PlayWatch
abbrev n_impl_PlayWatch : Nat := 15
def c_impl_PlayWatch_l1 : AS :=
  .seq (.ops [⟨(some 25), none, .bin .lss (.tmp 24) (.tmp 23)⟩])
  (.seq (.cond (.tmp 25) (.skip) (.exit 0))
  (.seq (.block 1 (.seq (.ops [⟨(some 26), none, .ia 3 (.tmp 22) (.tmp 24)⟩,
    ⟨(some 27), none, .load (some 3) (.tmp 26)⟩,
    ⟨(some 8), none, .alloc (.agg #[.int .i64 0, .int .i64 0, .int .i64 0])⟩,
    ⟨none, none, .store 3 (.tmp 8) (.tmp 27)⟩])
  (.seq (.ops [⟨(some 29), none, .load (some 3) (.tmp 6)⟩,
    ⟨(some 30), none, .load (some 3) (.tmp 8)⟩,
    ⟨(some 31), none, .call 38 [(.tmp 29), (.tmp 30)]⟩,
    ⟨(some 28), none, .mv (.tmp 31)⟩,
    ⟨(some 32), none, .ext 0 (.tmp 28)⟩,
    ⟨(some 33), none, .ext 1 (.tmp 28)⟩,
    ⟨(some 9), none, .alloc (.agg #[.int .i64 0, .slice none 0 0, .slice none 0 0])⟩,
    ⟨none, none, .store 3 (.tmp 9) (.tmp 32)⟩,
    ⟨(some 10), none, .mv (.tmp 33)⟩])
  (.kept [4, 6, 9, 10, 22, 23, 24] (.seq (.ops [⟨(some 34), none, .mv (.tmp 10)⟩])
  (.cond (.tmp 34) (.ops [⟨(some 35), none, .load (some 3) (.tmp 9)⟩,
    ⟨none, none, .store 3 (.tmp 6) (.tmp 35)⟩]) (.skip)))))))
  (.kept [4, 6, 22, 23, 24] (.ops [⟨(some 36), none, .bin .add (.tmp 24) (.const (.int .i64 1))⟩,
    ⟨(some 24), none, .mv (.tmp 36)⟩]))))
def c_impl_PlayWatch : AS :=
  .seq (.ops [⟨(some 2), none, .box (.tmp 0)⟩,
    ⟨(some 4), none, .alloc (.agg #[.int .i64 0, .slice none 0 0, .slice none 0 0])⟩,
    ⟨(some 5), none, .mv (.const (.bool false))⟩])
  (.seq (.seq (.ops [⟨(some 11), none, .load (some 3) (.tmp 2)⟩,
    ⟨(some 12), none, .call 36 [(.tmp 11)]⟩,
    ⟨(some 13), none, .not (.tmp 12)⟩,
    ⟨(some 14), none, .mv (.tmp 13)⟩,
    ⟨(some 15), some (14, false), .mv (.tmp 1)⟩,
    ⟨(some 16), some (14, false), .lens (.tmp 15)⟩,
    ⟨(some 17), some (14, false), .bin .gtr (.tmp 16) (.const (.int .i64 100))⟩,
    ⟨(some 18), none, .pick (.tmp 14) (.const (.bool true)) (.tmp 17)⟩])
  (.kept [1, 2, 4, 18] (.cond (.tmp 18) (.seq (.ops [⟨(some 19), none, .build (.agg #[.int .i64 0, .slice none 0 0, .slice none 0 0]) []⟩,
    ⟨none, none, .store 3 (.tmp 4) (.tmp 19)⟩,
    ⟨(some 5), none, .mv (.const (.bool false))⟩])
  (.ret)) (.skip))))
  (.kept [1, 2, 4] (.seq (.ops [⟨(some 20), none, .load (some 3) (.tmp 2)⟩,
    ⟨(some 21), none, .call 37 [(.tmp 20)]⟩,
    ⟨(some 6), none, .alloc (.agg #[.int .i64 0, .slice none 0 0, .slice none 0 0])⟩,
    ⟨none, none, .store 3 (.tmp 6) (.tmp 21)⟩])
  (.seq (.seq (.ops [⟨(some 22), none, .mv (.tmp 1)⟩,
    ⟨(some 23), none, .lens (.tmp 22)⟩,
    ⟨(some 24), none, .mv (.const (.int .i64 0))⟩])
  (.block 0 (.loop 2 [(4, 0), (6, 0), (22, 0), (23, 0), (24, 0)] c_impl_PlayWatch_l1)))
  (.kept [4, 6] (.seq (.ops [⟨(some 37), none, .load (some 3) (.tmp 6)⟩,
    ⟨none, none, .store 3 (.tmp 4) (.tmp 37)⟩,
    ⟨(some 5), none, .mv (.const (.bool true))⟩])
  (.ret)))))))
theorem h_impl_PlayWatch : (Try.prog.funcs[n_impl_PlayWatch]?).bind (fun fn => fn.body.bind (comp Try.prog fn.ntmps)) = some (AS.strip c_impl_PlayWatch) := by kernel_rfl
theorem r_impl_PlayWatch : (Try.prog.funcs[n_impl_PlayWatch]?).map (fun fn => (fn.results.toList, fn.ntmps)) = some ([.cell 4 44, .tmp 5], 38) := by kernel_rfl
-- 16 loop.example/g00850/laws.eqWatch
abbrev n_laws_eqWatch : Nat := 16
def c_laws_eqWatch : AS :=
  .seq (.ops [⟨(some 2), none, .box (.tmp 0)⟩,
    ⟨(some 3), none, .box (.tmp 1)⟩,
    ⟨(some 4), none, .mv (.const (.bool false))⟩])
  (.seq (.seq (.ops [⟨(some 5), none, .fa 0 (.tmp 2)⟩,
    ⟨(some 6), none, .load none (.tmp 5)⟩,
    ⟨(some 7), none, .fa 0 (.tmp 3)⟩,
    ⟨(some 8), none, .load none (.tmp 7)⟩,
    ⟨(some 9), none, .bin .neq (.tmp 6) (.tmp 8)⟩])
  (.cond (.tmp 9) (.seq (.ops [⟨(some 4), none, .mv (.const (.bool false))⟩])
  (.ret)) (.skip)))
  (.kept [2, 3] (.seq (.seq (.ops [⟨(some 10), none, .fa 1 (.tmp 2)⟩,
    ⟨(some 11), none, .load none (.tmp 10)⟩,
    ⟨(some 12), none, .fa 1 (.tmp 3)⟩,
    ⟨(some 13), none, .load none (.tmp 12)⟩,
    ⟨(some 14), none, .call 39 [(.tmp 11), (.tmp 13)]⟩,
    ⟨(some 15), none, .not (.tmp 14)⟩])
  (.cond (.tmp 15) (.seq (.ops [⟨(some 4), none, .mv (.const (.bool false))⟩])
  (.ret)) (.skip)))
  (.kept [2, 3] (.seq (.seq (.ops [⟨(some 16), none, .fa 2 (.tmp 2)⟩,
    ⟨(some 17), none, .load none (.tmp 16)⟩,
    ⟨(some 18), none, .fa 2 (.tmp 3)⟩,
    ⟨(some 19), none, .load none (.tmp 18)⟩,
    ⟨(some 20), none, .call 40 [(.tmp 17), (.tmp 19)]⟩,
    ⟨(some 21), none, .not (.tmp 20)⟩])
  (.cond (.tmp 21) (.seq (.ops [⟨(some 4), none, .mv (.const (.bool false))⟩])
  (.ret)) (.skip)))
  (.kept [] (.seq (.ops [⟨(some 4), none, .mv (.const (.bool true))⟩])
  (.ret))))))))
theorem h_laws_eqWatch : (Try.prog.funcs[n_laws_eqWatch]?).bind (fun fn => fn.body.bind (comp Try.prog fn.ntmps)) = some (AS.strip c_laws_eqWatch) := by kernel_rfl
theorem r_laws_eqWatch : (Try.prog.funcs[n_laws_eqWatch]?).map (fun fn => (fn.results.toList, fn.ntmps)) = some ([.tmp 4], 22) := by kernel_rfl
-- 17 loop.example/g00850/laws.eqWatchActS
abbrev n_laws_eqWatchActS : Nat := 17
def c_laws_eqWatchActS_l1 : AS :=
  .seq (.seq (.ops [⟨(some 11), none, .mv (.tmp 5)⟩,
    ⟨(some 12), none, .mv (.tmp 0)⟩,
    ⟨(some 13), none, .lens (.tmp 12)⟩,
    ⟨(some 14), none, .bin .lss (.tmp 11) (.tmp 13)⟩])
  (.cond (.tmp 14) (.skip) (.exit 0)))
  (.seq (.block 1 (.seq (.rops [(none, ⟨(some 17), none, .mv (.tmp 0)⟩),
    (none, ⟨(some 18), none, .mv (.tmp 5)⟩),
    (none, ⟨(some 19), none, .ia 3 (.tmp 17) (.tmp 18)⟩),
    (none, ⟨(some 20), none, .load (some 3) (.tmp 19)⟩),
    (none, ⟨(some 21), none, .mv (.tmp 1)⟩),
    (none, ⟨(some 22), none, .mv (.tmp 5)⟩),
    (none, ⟨(some 23), none, .ia 3 (.tmp 21) (.tmp 22)⟩),
    (none, ⟨(some 24), none, .load (some 3) (.tmp 23)⟩),
    (some [], ⟨(some 25), none, .call 41 [(.tmp 20), (.tmp 24)]⟩),
    (none, ⟨(some 26), none, .not (.tmp 25)⟩)])
  (.kept [0, 1, 5, 26] (.cond (.tmp 26) (.seq (.ops [⟨(some 4), none, .mv (.const (.bool false))⟩])
  (.ret)) (.skip)))))
  (.kept [0, 1, 5] (.ops [⟨(some 15), none, .mv (.tmp 5)⟩,
    ⟨(some 16), none, .bin .add (.tmp 15) (.const (.int .i64 1))⟩,
    ⟨(some 5), none, .mv (.tmp 16)⟩])))
def c_laws_eqWatchActS : AS :=
  .seq (.ops [⟨(some 4), none, .mv (.const (.bool false))⟩])
  (.seq (.seq (.ops [⟨(some 6), none, .mv (.tmp 0)⟩,
    ⟨(some 7), none, .lens (.tmp 6)⟩,
    ⟨(some 8), none, .mv (.tmp 1)⟩,
    ⟨(some 9), none, .lens (.tmp 8)⟩,
    ⟨(some 10), none, .bin .neq (.tmp 7) (.tmp 9)⟩])
  (.cond (.tmp 10) (.seq (.ops [⟨(some 4), none, .mv (.const (.bool false))⟩])
  (.ret)) (.skip)))
  (.kept [0, 1] (.seq (.seq (.ops [⟨(some 5), none, .mv (.const (.int .i64 0))⟩])
  (.block 0 (.loop 2 [(0, 0), (1, 0), (5, 0)] c_laws_eqWatchActS_l1)))
  (.kept [] (.seq (.ops [⟨(some 4), none, .mv (.const (.bool true))⟩])
  (.ret))))))
theorem h_laws_eqWatchActS : (Try.prog.funcs[n_laws_eqWatchActS]?).bind (fun fn => fn.body.bind (comp Try.prog fn.ntmps)) = some (AS.strip c_laws_eqWatchActS) := by kernel_rfl
theorem r_laws_eqWatchActS : (Try.prog.funcs[n_laws_eqWatchActS]?).map (fun fn => (fn.results.toList, fn.ntmps)) = some ([.tmp 4], 27) := by kernel_rfl
-- 18 loop.example/g00850/laws.markWatch
abbrev n_laws_markWatch : Nat := 18
def c_laws_markWatch : AS :=
  .seq (.ops [⟨(some 2), none, .box (.tmp 0)⟩,
    ⟨(some 4), none, .mv (.const (.int .i64 0))⟩])
  (.seq (.ops [⟨(some 5), none, .fa 1 (.tmp 2)⟩,
    ⟨(some 6), none, .load none (.tmp 5)⟩,
    ⟨(some 7), none, .mv (.tmp 1)⟩,
    ⟨(some 8), none, .call 42 [(.tmp 6), (.tmp 7)]⟩,
    ⟨(some 1), none, .mv (.tmp 8)⟩])
  (.seq (.ops [⟨(some 9), none, .fa 2 (.tmp 2)⟩,
    ⟨(some 10), none, .load none (.tmp 9)⟩,
    ⟨(some 11), none, .mv (.tmp 1)⟩,
    ⟨(some 12), none, .call 43 [(.tmp 10), (.tmp 11)]⟩,
    ⟨(some 1), none, .mv (.tmp 12)⟩])
  (.seq (.ops [⟨(some 13), none, .mv (.tmp 1)⟩,
    ⟨(some 4), none, .mv (.tmp 13)⟩])
  (.ret))))
theorem h_laws_markWatch : (Try.prog.funcs[n_laws_markWatch]?).bind (fun fn => fn.body.bind (comp Try.prog fn.ntmps)) = some (AS.strip c_laws_markWatch) := by kernel_rfl
theorem r_laws_markWatch : (Try.prog.funcs[n_laws_markWatch]?).map (fun fn => (fn.results.toList, fn.ntmps)) = some ([.tmp 4], 14) := by kernel_rfl
-- 19 loop.example/g00850/laws.markWatchActS
abbrev n_laws_markWatchActS : Nat := 19
def c_laws_markWatchActS_l1 : AS :=
  .seq (.seq (.ops [⟨(some 6), none, .mv (.tmp 5)⟩,
    ⟨(some 7), none, .mv (.tmp 0)⟩,
    ⟨(some 8), none, .lens (.tmp 7)⟩,
    ⟨(some 9), none, .bin .lss (.tmp 6) (.tmp 8)⟩])
  (.cond (.tmp 9) (.skip) (.exit 0)))
  (.seq (.block 1 (.seq (.ops [⟨(some 12), none, .mv (.tmp 0)⟩,
    ⟨(some 13), none, .mv (.tmp 5)⟩,
    ⟨(some 14), none, .mv (.tmp 1)⟩,
    ⟨(some 15), none, .ia 3 (.tmp 12) (.tmp 13)⟩,
    ⟨(some 16), none, .fa 0 (.tmp 15)⟩,
    ⟨none, none, .store 1 (.tmp 16) (.tmp 14)⟩])
  (.seq (.ops [⟨(some 17), none, .mv (.tmp 1)⟩,
    ⟨(some 18), none, .bin .add (.tmp 17) (.const (.int .i64 1))⟩,
    ⟨(some 1), none, .mv (.tmp 18)⟩])
  (.seq (.ops [⟨(some 19), none, .mv (.tmp 0)⟩,
    ⟨(some 20), none, .mv (.tmp 5)⟩,
    ⟨(some 21), none, .mv (.tmp 1)⟩,
    ⟨(some 22), none, .ia 3 (.tmp 19) (.tmp 20)⟩,
    ⟨(some 23), none, .fa 1 (.tmp 22)⟩,
    ⟨none, none, .store 1 (.tmp 23) (.tmp 21)⟩])
  (.seq (.ops [⟨(some 24), none, .mv (.tmp 1)⟩,
    ⟨(some 25), none, .bin .add (.tmp 24) (.const (.int .i64 1))⟩,
    ⟨(some 1), none, .mv (.tmp 25)⟩])
  (.seq (.ops [⟨(some 26), none, .mv (.tmp 0)⟩,
    ⟨(some 27), none, .mv (.tmp 5)⟩,
    ⟨(some 28), none, .mv (.tmp 1)⟩,
    ⟨(some 29), none, .ia 3 (.tmp 26) (.tmp 27)⟩,
    ⟨(some 30), none, .fa 2 (.tmp 29)⟩,
    ⟨none, none, .store 1 (.tmp 30) (.tmp 28)⟩])
  (.ops [⟨(some 31), none, .mv (.tmp 1)⟩,
    ⟨(some 32), none, .bin .add (.tmp 31) (.const (.int .i64 1))⟩,
    ⟨(some 1), none, .mv (.tmp 32)⟩])))))))
  (.kept [0, 1, 5] (.ops [⟨(some 10), none, .mv (.tmp 5)⟩,
    ⟨(some 11), none, .bin .add (.tmp 10) (.const (.int .i64 1))⟩,
    ⟨(some 5), none, .mv (.tmp 11)⟩])))
def c_laws_markWatchActS : AS :=
  .seq (.ops [⟨(some 4), none, .mv (.const (.int .i64 0))⟩])
  (.seq (.seq (.ops [⟨(some 5), none, .mv (.const (.int .i64 0))⟩])
  (.block 0 (.loop 2 [(0, 0), (1, 0), (5, 0)] c_laws_markWatchActS_l1)))
  (.kept [1] (.seq (.ops [⟨(some 33), none, .mv (.tmp 1)⟩,
    ⟨(some 4), none, .mv (.tmp 33)⟩])
  (.ret))))
theorem h_laws_markWatchActS : (Try.prog.funcs[n_laws_markWatchActS]?).bind (fun fn => fn.body.bind (comp Try.prog fn.ntmps)) = some (AS.strip c_laws_markWatchActS) := by kernel_rfl
theorem r_laws_markWatchActS : (Try.prog.funcs[n_laws_markWatchActS]?).map (fun fn => (fn.results.toList, fn.ntmps)) = some ([.tmp 4], 34) := by kernel_rfl
-- 20 loop.example/g00850/laws.heldWatch
abbrev n_laws_heldWatch : Nat := 20
def c_laws_heldWatch : AS :=
  .seq (.ops [⟨(some 2), none, .box (.tmp 0)⟩,
    ⟨(some 4), none, .mv (.const (.int .i64 0))⟩])
  (.seq (.ops [⟨(some 5), none, .fa 1 (.tmp 2)⟩,
    ⟨(some 6), none, .load none (.tmp 5)⟩,
    ⟨(some 7), none, .mv (.tmp 1)⟩,
    ⟨(some 8), none, .call 44 [(.tmp 6), (.tmp 7)]⟩,
    ⟨(some 1), none, .mv (.tmp 8)⟩])
  (.seq (.seq (.ops [⟨(some 9), none, .mv (.tmp 1)⟩,
    ⟨(some 10), none, .bin .lss (.tmp 9) (.const (.int .i64 0))⟩])
  (.cond (.tmp 10) (.seq (.ops [⟨(some 4), none, .mv (.const (.int .i64 (-1)))⟩])
  (.ret)) (.skip)))
  (.seq (.ops [⟨(some 11), none, .fa 2 (.tmp 2)⟩,
    ⟨(some 12), none, .load none (.tmp 11)⟩,
    ⟨(some 13), none, .mv (.tmp 1)⟩,
    ⟨(some 14), none, .call 45 [(.tmp 12), (.tmp 13)]⟩,
    ⟨(some 1), none, .mv (.tmp 14)⟩])
  (.seq (.seq (.ops [⟨(some 15), none, .mv (.tmp 1)⟩,
    ⟨(some 16), none, .bin .lss (.tmp 15) (.const (.int .i64 0))⟩])
  (.cond (.tmp 16) (.seq (.ops [⟨(some 4), none, .mv (.const (.int .i64 (-1)))⟩])
  (.ret)) (.skip)))
  (.seq (.ops [⟨(some 17), none, .mv (.tmp 1)⟩,
    ⟨(some 4), none, .mv (.tmp 17)⟩])
  (.ret))))))
theorem h_laws_heldWatch : (Try.prog.funcs[n_laws_heldWatch]?).bind (fun fn => fn.body.bind (comp Try.prog fn.ntmps)) = some (AS.strip c_laws_heldWatch) := by kernel_rfl
theorem r_laws_heldWatch : (Try.prog.funcs[n_laws_heldWatch]?).map (fun fn => (fn.results.toList, fn.ntmps)) = some ([.tmp 4], 18) := by kernel_rfl
-- 28 loop.example/g00850/laws.szClockS
abbrev n_laws_szClockS : Nat := 28
def c_laws_szClockS : AS :=
  .seq (.ops [⟨(some 4), none, .mv (.const (.int .i64 0))⟩])
  (.seq (.ops [⟨(some 5), none, .mv (.tmp 1)⟩,
    ⟨(some 6), none, .mv (.tmp 0)⟩,
    ⟨(some 7), none, .lens (.tmp 6)⟩,
    ⟨(some 8), none, .bin .sub (.tmp 5) (.tmp 7)⟩,
    ⟨(some 1), none, .mv (.tmp 8)⟩])
  (.seq (.seq (.ops [⟨(some 9), none, .mv (.tmp 1)⟩,
    ⟨(some 10), none, .bin .lss (.tmp 9) (.const (.int .i64 0))⟩])
  (.cond (.tmp 10) (.seq (.ops [⟨(some 4), none, .mv (.const (.int .i64 (-1)))⟩])
  (.ret)) (.skip)))
  (.seq (.ops [⟨(some 11), none, .mv (.tmp 1)⟩,
    ⟨(some 4), none, .mv (.tmp 11)⟩])
  (.ret))))
theorem h_laws_szClockS : (Try.prog.funcs[n_laws_szClockS]?).bind (fun fn => fn.body.bind (comp Try.prog fn.ntmps)) = some (AS.strip c_laws_szClockS) := by kernel_rfl
theorem r_laws_szClockS : (Try.prog.funcs[n_laws_szClockS]?).map (fun fn => (fn.results.toList, fn.ntmps)) = some ([.tmp 4], 12) := by kernel_rfl
-- 29 loop.example/g00850/laws.szLeaseS
abbrev n_laws_szLeaseS : Nat := 29
def c_laws_szLeaseS : AS :=
  .seq (.ops [⟨(some 4), none, .mv (.const (.int .i64 0))⟩])
  (.seq (.ops [⟨(some 5), none, .mv (.tmp 1)⟩,
    ⟨(some 6), none, .mv (.tmp 0)⟩,
    ⟨(some 7), none, .lens (.tmp 6)⟩,
    ⟨(some 8), none, .bin .sub (.tmp 5) (.tmp 7)⟩,
    ⟨(some 1), none, .mv (.tmp 8)⟩])
  (.seq (.seq (.ops [⟨(some 9), none, .mv (.tmp 1)⟩,
    ⟨(some 10), none, .bin .lss (.tmp 9) (.const (.int .i64 0))⟩])
  (.cond (.tmp 10) (.seq (.ops [⟨(some 4), none, .mv (.const (.int .i64 (-1)))⟩])
  (.ret)) (.skip)))
  (.seq (.ops [⟨(some 11), none, .mv (.tmp 1)⟩,
    ⟨(some 4), none, .mv (.tmp 11)⟩])
  (.ret))))
theorem h_laws_szLeaseS : (Try.prog.funcs[n_laws_szLeaseS]?).bind (fun fn => fn.body.bind (comp Try.prog fn.ntmps)) = some (AS.strip c_laws_szLeaseS) := by kernel_rfl
theorem r_laws_szLeaseS : (Try.prog.funcs[n_laws_szLeaseS]?).map (fun fn => (fn.results.toList, fn.ntmps)) = some ([.tmp 4], 12) := by kernel_rfl
-- 30 loop.example/g00850/spec.l10Good
abbrev n_spec_l10Good : Nat := 30
def c_spec_l10Good_l1 : AS :=
  .seq (.seq (.ops [⟨(some 23), none, .mv (.tmp 3)⟩,
    ⟨(some 24), none, .fa 1 (.tmp 1)⟩,
    ⟨(some 25), none, .load none (.tmp 24)⟩,
    ⟨(some 26), none, .lens (.tmp 25)⟩,
    ⟨(some 27), none, .bin .lss (.tmp 23) (.tmp 26)⟩])
  (.cond (.tmp 27) (.skip) (.exit 0)))
  (.seq (.block 1 (.seq (.ops [⟨(some 30), none, .fa 1 (.tmp 1)⟩,
    ⟨(some 31), none, .load none (.tmp 30)⟩,
    ⟨(some 32), none, .mv (.tmp 3)⟩,
    ⟨(some 33), none, .ia 1 (.tmp 31) (.tmp 32)⟩,
    ⟨(some 34), none, .load (some 1) (.tmp 33)⟩,
    ⟨(some 35), none, .call 60 [(.tmp 34)]⟩,
    ⟨(some 36), none, .not (.tmp 35)⟩])
  (.kept [1, 3, 36] (.cond (.tmp 36) (.seq (.ops [⟨(some 2), none, .mv (.const (.bool false))⟩])
  (.ret)) (.skip)))))
  (.kept [1, 3] (.ops [⟨(some 28), none, .mv (.tmp 3)⟩,
    ⟨(some 29), none, .bin .add (.tmp 28) (.const (.int .i64 1))⟩,
    ⟨(some 3), none, .mv (.tmp 29)⟩])))
def c_spec_l10Good_l2 : AS :=
  .seq (.seq (.ops [⟨(some 37), none, .mv (.tmp 4)⟩,
    ⟨(some 38), none, .fa 2 (.tmp 1)⟩,
    ⟨(some 39), none, .load none (.tmp 38)⟩,
    ⟨(some 40), none, .lens (.tmp 39)⟩,
    ⟨(some 41), none, .bin .lss (.tmp 37) (.tmp 40)⟩])
  (.cond (.tmp 41) (.skip) (.exit 2)))
  (.seq (.block 3 (.seq (.ops [⟨(some 44), none, .fa 2 (.tmp 1)⟩,
    ⟨(some 45), none, .load none (.tmp 44)⟩,
    ⟨(some 46), none, .mv (.tmp 4)⟩,
    ⟨(some 47), none, .ia 3 (.tmp 45) (.tmp 46)⟩,
    ⟨(some 48), none, .load (some 3) (.tmp 47)⟩,
    ⟨(some 5), none, .alloc (.agg #[.int .i64 0, .int .i64 0, .int .i64 0])⟩,
    ⟨none, none, .store 3 (.tmp 5) (.tmp 48)⟩])
  (.seq (.ops [⟨(some 49), none, .fa 0 (.tmp 5)⟩,
    ⟨(some 50), none, .load none (.tmp 49)⟩,
    ⟨(some 51), none, .fa 1 (.tmp 1)⟩,
    ⟨(some 52), none, .load none (.tmp 51)⟩,
    ⟨(some 53), none, .lens (.tmp 52)⟩,
    ⟨(some 54), none, .bin .sub (.tmp 53) (.const (.int .i64 1))⟩,
    ⟨(some 55), none, .call 47 [(.tmp 50), (.const (.int .i64 0)), (.tmp 54)]⟩,
    ⟨(some 56), none, .not (.tmp 55)⟩,
    ⟨(some 57), none, .mv (.tmp 56)⟩,
    ⟨(some 58), some (57, false), .fa 1 (.tmp 5)⟩,
    ⟨(some 59), some (57, false), .load none (.tmp 58)⟩,
    ⟨(some 60), some (57, false), .call 47 [(.tmp 59), (.const (.int .i64 (-20))), (.const (.int .i64 100020))]⟩,
    ⟨(some 61), some (57, false), .not (.tmp 60)⟩,
    ⟨(some 62), none, .pick (.tmp 57) (.const (.bool true)) (.tmp 61)⟩,
    ⟨(some 63), none, .mv (.tmp 62)⟩,
    ⟨(some 64), some (63, false), .fa 2 (.tmp 5)⟩,
    ⟨(some 65), some (63, false), .load none (.tmp 64)⟩,
    ⟨(some 66), some (63, false), .call 47 [(.tmp 65), (.const (.int .i64 (-20))), (.const (.int .i64 100200))]⟩,
    ⟨(some 67), some (63, false), .not (.tmp 66)⟩,
    ⟨(some 68), none, .pick (.tmp 63) (.const (.bool true)) (.tmp 67)⟩])
  (.kept [1, 4, 68] (.cond (.tmp 68) (.seq (.ops [⟨(some 2), none, .mv (.const (.bool false))⟩])
  (.ret)) (.skip))))))
  (.kept [1, 4] (.ops [⟨(some 42), none, .mv (.tmp 4)⟩,
    ⟨(some 43), none, .bin .add (.tmp 42) (.const (.int .i64 1))⟩,
    ⟨(some 4), none, .mv (.tmp 43)⟩])))
def c_spec_l10Good : AS :=
  .seq (.ops [⟨(some 1), none, .box (.tmp 0)⟩,
    ⟨(some 2), none, .mv (.const (.bool false))⟩])
  (.seq (.seq (.ops [⟨(some 6), none, .fa 0 (.tmp 1)⟩,
    ⟨(some 7), none, .load none (.tmp 6)⟩,
    ⟨(some 8), none, .call 47 [(.tmp 7), (.const (.int .i64 0)), (.const (.int .i64 100000))]⟩,
    ⟨(some 9), none, .not (.tmp 8)⟩,
    ⟨(some 10), none, .mv (.tmp 9)⟩,
    ⟨(some 11), some (10, false), .fa 1 (.tmp 1)⟩,
    ⟨(some 12), some (10, false), .load none (.tmp 11)⟩,
    ⟨(some 13), some (10, false), .lens (.tmp 12)⟩,
    ⟨(some 14), some (10, false), .call 47 [(.tmp 13), (.const (.int .i64 1)), (.const (.int .i64 5))]⟩,
    ⟨(some 15), some (10, false), .not (.tmp 14)⟩,
    ⟨(some 16), none, .pick (.tmp 10) (.const (.bool true)) (.tmp 15)⟩,
    ⟨(some 17), none, .mv (.tmp 16)⟩,
    ⟨(some 18), some (17, false), .fa 2 (.tmp 1)⟩,
    ⟨(some 19), some (17, false), .load none (.tmp 18)⟩,
    ⟨(some 20), some (17, false), .lens (.tmp 19)⟩,
    ⟨(some 21), some (17, false), .bin .gtr (.tmp 20) (.const (.int .i64 40))⟩,
    ⟨(some 22), none, .pick (.tmp 17) (.const (.bool true)) (.tmp 21)⟩])
  (.kept [1, 22] (.cond (.tmp 22) (.seq (.ops [⟨(some 2), none, .mv (.const (.bool false))⟩])
  (.ret)) (.skip))))
  (.kept [1] (.seq (.seq (.ops [⟨(some 3), none, .mv (.const (.int .i64 0))⟩])
  (.block 0 (.loop 1 [(1, 0), (3, 0)] c_spec_l10Good_l1)))
  (.kept [1] (.seq (.seq (.ops [⟨(some 4), none, .mv (.const (.int .i64 0))⟩])
  (.block 2 (.loop 1 [(1, 0), (4, 0)] c_spec_l10Good_l2)))
  (.kept [] (.seq (.ops [⟨(some 2), none, .mv (.const (.bool true))⟩])
  (.ret))))))))
theorem h_spec_l10Good : (Try.prog.funcs[n_spec_l10Good]?).bind (fun fn => fn.body.bind (comp Try.prog fn.ntmps)) = some (AS.strip c_spec_l10Good) := by kernel_rfl
theorem r_spec_l10Good : (Try.prog.funcs[n_spec_l10Good]?).map (fun fn => (fn.results.toList, fn.ntmps)) = some ([.tmp 2], 69) := by kernel_rfl
-- 31 loop.example/g00850/spec.l10Own
abbrev n_spec_l10Own : Nat := 31
def c_spec_l10Own : AS :=
  .seq (.ops [⟨(some 1), none, .box (.tmp 0)⟩,
    ⟨(some 2), none, .alloc (.agg #[.int .i64 0, .slice none 0 0, .slice none 0 0])⟩])
  (.seq (.tops [(2, 0)] (.rd ⟨(some 3), none, .fa 0 (.tmp 1)⟩ (.rd ⟨(some 4), none, .load none (.tmp 3)⟩ (.rd ⟨(some 6), none, .fa 1 (.tmp 1)⟩ (.rd ⟨(some 7), none, .load none (.tmp 6)⟩ (.rd ⟨(some 10), none, .fa 2 (.tmp 1)⟩ (.rd ⟨(some 11), none, .load none (.tmp 10)⟩ (.alt [⟨(some 11), none, .load none (.tmp 10)⟩, ⟨(some 10), none, .fa 2 (.tmp 1)⟩, ⟨(some 7), none, .load none (.tmp 6)⟩, ⟨(some 6), none, .fa 1 (.tmp 1)⟩, ⟨(some 4), none, .load none (.tmp 3)⟩, ⟨(some 3), none, .fa 0 (.tmp 1)⟩] ⟨(some 5), none, .bsl 1 (.agg #[.int .i64 0]) 0 []⟩
    (.alt [⟨(some 11), none, .load none (.tmp 10)⟩, ⟨(some 10), none, .fa 2 (.tmp 1)⟩, ⟨(some 4), none, .load none (.tmp 3)⟩, ⟨(some 3), none, .fa 0 (.tmp 1)⟩] ⟨(some 8), none, .app 1 8 (.agg #[.int .i64 0]) (.tmp 5) (.tmp 7)⟩
    (.alt [⟨(some 11), none, .load none (.tmp 10)⟩, ⟨(some 10), none, .fa 2 (.tmp 1)⟩, ⟨(some 4), none, .load none (.tmp 3)⟩, ⟨(some 3), none, .fa 0 (.tmp 1)⟩] ⟨(some 9), none, .bsl 3 (.agg #[.int .i64 0, .int .i64 0, .int .i64 0]) 0 []⟩
    (.alt [⟨(some 4), none, .load none (.tmp 3)⟩, ⟨(some 3), none, .fa 0 (.tmp 1)⟩] ⟨(some 12), none, .app 3 24 (.agg #[.int .i64 0, .int .i64 0, .int .i64 0]) (.tmp 9) (.tmp 11)⟩
    (.rd ⟨(some 13), none, .build (.agg #[.int .i64 0, .slice none 0 0, .slice none 0 0]) [(0, 1, (.tmp 4)), (1, 1, (.tmp 8)), (2, 1, (.tmp 12))]⟩ (.alt [] ⟨none, none, .store 3 (.tmp 2) (.tmp 13)⟩
    (.done)
    (.none)))
    (.none))
    (.none))
    (.alt [⟨(some 11), none, .load none (.tmp 10)⟩, ⟨(some 10), none, .fa 2 (.tmp 1)⟩, ⟨(some 7), none, .load none (.tmp 6)⟩, ⟨(some 6), none, .fa 1 (.tmp 1)⟩, ⟨(some 4), none, .load none (.tmp 3)⟩, ⟨(some 3), none, .fa 0 (.tmp 1)⟩] ⟨(some 9), none, .bsl 3 (.agg #[.int .i64 0, .int .i64 0, .int .i64 0]) 0 []⟩
    (.alt [⟨(some 11), none, .load none (.tmp 10)⟩, ⟨(some 10), none, .fa 2 (.tmp 1)⟩, ⟨(some 4), none, .load none (.tmp 3)⟩, ⟨(some 3), none, .fa 0 (.tmp 1)⟩] ⟨(some 8), none, .app 1 8 (.agg #[.int .i64 0]) (.tmp 5) (.tmp 7)⟩
    (.alt [⟨(some 4), none, .load none (.tmp 3)⟩, ⟨(some 3), none, .fa 0 (.tmp 1)⟩] ⟨(some 12), none, .app 3 24 (.agg #[.int .i64 0, .int .i64 0, .int .i64 0]) (.tmp 9) (.tmp 11)⟩
    (.rd ⟨(some 13), none, .build (.agg #[.int .i64 0, .slice none 0 0, .slice none 0 0]) [(0, 1, (.tmp 4)), (1, 1, (.tmp 8)), (2, 1, (.tmp 12))]⟩ (.alt [] ⟨none, none, .store 3 (.tmp 2) (.tmp 13)⟩
    (.done)
    (.none)))
    (.none))
    (.none))
    (.none)))
    (.alt [⟨(some 11), none, .load none (.tmp 10)⟩, ⟨(some 10), none, .fa 2 (.tmp 1)⟩, ⟨(some 7), none, .load none (.tmp 6)⟩, ⟨(some 6), none, .fa 1 (.tmp 1)⟩, ⟨(some 4), none, .load none (.tmp 3)⟩, ⟨(some 3), none, .fa 0 (.tmp 1)⟩] ⟨(some 9), none, .bsl 3 (.agg #[.int .i64 0, .int .i64 0, .int .i64 0]) 0 []⟩
    (.alt [⟨(some 11), none, .load none (.tmp 10)⟩, ⟨(some 10), none, .fa 2 (.tmp 1)⟩, ⟨(some 7), none, .load none (.tmp 6)⟩, ⟨(some 6), none, .fa 1 (.tmp 1)⟩, ⟨(some 4), none, .load none (.tmp 3)⟩, ⟨(some 3), none, .fa 0 (.tmp 1)⟩] ⟨(some 5), none, .bsl 1 (.agg #[.int .i64 0]) 0 []⟩
    (.alt [⟨(some 11), none, .load none (.tmp 10)⟩, ⟨(some 10), none, .fa 2 (.tmp 1)⟩, ⟨(some 4), none, .load none (.tmp 3)⟩, ⟨(some 3), none, .fa 0 (.tmp 1)⟩] ⟨(some 8), none, .app 1 8 (.agg #[.int .i64 0]) (.tmp 5) (.tmp 7)⟩
    (.alt [⟨(some 4), none, .load none (.tmp 3)⟩, ⟨(some 3), none, .fa 0 (.tmp 1)⟩] ⟨(some 12), none, .app 3 24 (.agg #[.int .i64 0, .int .i64 0, .int .i64 0]) (.tmp 9) (.tmp 11)⟩
    (.rd ⟨(some 13), none, .build (.agg #[.int .i64 0, .slice none 0 0, .slice none 0 0]) [(0, 1, (.tmp 4)), (1, 1, (.tmp 8)), (2, 1, (.tmp 12))]⟩ (.alt [] ⟨none, none, .store 3 (.tmp 2) (.tmp 13)⟩
    (.done)
    (.none)))
    (.none))
    (.none))
    (.none))
    (.none))))))))))
  (.ret))
theorem h_spec_l10Own : (Try.prog.funcs[n_spec_l10Own]?).bind (fun fn => fn.body.bind (comp Try.prog fn.ntmps)) = some (AS.strip c_spec_l10Own) := by kernel_rfl
theorem r_spec_l10Own : (Try.prog.funcs[n_spec_l10Own]?).map (fun fn => (fn.results.toList, fn.ntmps)) = some ([.cell 2 44], 14) := by kernel_rfl
-- 32 loop.example/g00850/spec.l10Do
abbrev n_spec_l10Do : Nat := 32
def c_spec_l10Do : AS :=
  .seq (.ops [⟨(some 2), none, .box (.tmp 0)⟩,
    ⟨(some 3), none, .box (.tmp 1)⟩,
    ⟨(some 4), none, .alloc (.agg #[.int .i64 0, .slice none 0 0, .slice none 0 0])⟩,
    ⟨(some 5), none, .mv (.const (.bool false))⟩])
  (.seq (.seq (.ops [⟨(some 6), none, .fa 0 (.tmp 3)⟩,
    ⟨(some 7), none, .load none (.tmp 6)⟩])
  (.block 0 (.seq (.ops [⟨(some 9), none, .bin .eql (.tmp 7) (.const (.int .i64 1))⟩,
    ⟨(some 8), none, .mv (.tmp 9)⟩])
  (.cond (.tmp 8) (.seq (.ops [⟨(some 10), none, .load (some 3) (.tmp 2)⟩,
    ⟨(some 11), none, .fa 1 (.tmp 3)⟩,
    ⟨(some 12), none, .load none (.tmp 11)⟩,
    ⟨(some 13), none, .fa 2 (.tmp 3)⟩,
    ⟨(some 14), none, .load none (.tmp 13)⟩,
    ⟨(some 15), none, .call 61 [(.tmp 10), (.tmp 12), (.tmp 14)]⟩,
    ⟨(some 16), none, .ext 0 (.tmp 15)⟩,
    ⟨(some 17), none, .ext 1 (.tmp 15)⟩,
    ⟨none, none, .store 3 (.tmp 4) (.tmp 16)⟩,
    ⟨(some 5), none, .mv (.tmp 17)⟩])
  (.ret)) (.seq (.ops [⟨(some 19), none, .bin .eql (.tmp 7) (.const (.int .i64 2))⟩,
    ⟨(some 18), none, .mv (.tmp 19)⟩])
  (.cond (.tmp 18) (.seq (.ops [⟨(some 20), none, .load (some 3) (.tmp 2)⟩,
    ⟨(some 21), none, .fa 2 (.tmp 3)⟩,
    ⟨(some 22), none, .load none (.tmp 21)⟩,
    ⟨(some 23), none, .call 62 [(.tmp 20), (.tmp 22)]⟩,
    ⟨(some 24), none, .ext 0 (.tmp 23)⟩,
    ⟨(some 25), none, .ext 1 (.tmp 23)⟩,
    ⟨none, none, .store 3 (.tmp 4) (.tmp 24)⟩,
    ⟨(some 5), none, .mv (.tmp 25)⟩])
  (.ret)) (.seq (.ops [⟨(some 27), none, .bin .eql (.tmp 7) (.const (.int .i64 3))⟩,
    ⟨(some 26), none, .mv (.tmp 27)⟩])
  (.cond (.tmp 26) (.seq (.ops [⟨(some 28), none, .load (some 3) (.tmp 2)⟩,
    ⟨(some 29), none, .fa 1 (.tmp 3)⟩,
    ⟨(some 30), none, .load none (.tmp 29)⟩,
    ⟨(some 31), none, .fa 2 (.tmp 3)⟩,
    ⟨(some 32), none, .load none (.tmp 31)⟩,
    ⟨(some 33), none, .call 63 [(.tmp 28), (.tmp 30), (.tmp 32)]⟩,
    ⟨(some 34), none, .ext 0 (.tmp 33)⟩,
    ⟨(some 35), none, .ext 1 (.tmp 33)⟩,
    ⟨none, none, .store 3 (.tmp 4) (.tmp 34)⟩,
    ⟨(some 5), none, .mv (.tmp 35)⟩])
  (.ret)) (.seq (.ops [⟨(some 37), none, .bin .eql (.tmp 7) (.const (.int .i64 4))⟩,
    ⟨(some 36), none, .mv (.tmp 37)⟩])
  (.cond (.tmp 36) (.seq (.ops [⟨(some 38), none, .load (some 3) (.tmp 2)⟩,
    ⟨(some 39), none, .fa 1 (.tmp 3)⟩,
    ⟨(some 40), none, .load none (.tmp 39)⟩,
    ⟨(some 41), none, .call 64 [(.tmp 38), (.tmp 40)]⟩,
    ⟨(some 42), none, .ext 0 (.tmp 41)⟩,
    ⟨(some 43), none, .ext 1 (.tmp 41)⟩,
    ⟨none, none, .store 3 (.tmp 4) (.tmp 42)⟩,
    ⟨(some 5), none, .mv (.tmp 43)⟩])
  (.ret)) (.skip)))))))))))
  (.kept [4] (.seq (.ops [⟨(some 44), none, .build (.agg #[.int .i64 0, .slice none 0 0, .slice none 0 0]) []⟩,
    ⟨none, none, .store 3 (.tmp 4) (.tmp 44)⟩,
    ⟨(some 5), none, .mv (.const (.bool false))⟩])
  (.ret))))
theorem h_spec_l10Do : (Try.prog.funcs[n_spec_l10Do]?).bind (fun fn => fn.body.bind (comp Try.prog fn.ntmps)) = some (AS.strip c_spec_l10Do) := by kernel_rfl
theorem r_spec_l10Do : (Try.prog.funcs[n_spec_l10Do]?).map (fun fn => (fn.results.toList, fn.ntmps)) = some ([.cell 4 44, .tmp 5], 45) := by kernel_rfl
-- 33 loop.example/g00850/laws.toClockS
abbrev n_laws_toClockS : Nat := 33
def c_laws_toClockS_l1 : AS :=
  .seq (.seq (.ops [⟨(some 8), none, .mv (.tmp 4)⟩,
    ⟨(some 9), none, .mv (.tmp 0)⟩,
    ⟨(some 10), none, .lens (.tmp 9)⟩,
    ⟨(some 11), none, .bin .lss (.tmp 8) (.tmp 10)⟩])
  (.cond (.tmp 11) (.skip) (.exit 0)))
  (.seq (.block 1 (.ops [⟨(some 14), none, .mv (.tmp 3)⟩,
    ⟨(some 15), none, .mv (.tmp 4)⟩,
    ⟨(some 16), none, .mv (.tmp 0)⟩,
    ⟨(some 17), none, .mv (.tmp 4)⟩,
    ⟨(some 18), none, .ia 1 (.tmp 16) (.tmp 17)⟩,
    ⟨(some 19), none, .load (some 1) (.tmp 18)⟩,
    ⟨(some 20), none, .call 65 [(.tmp 19)]⟩,
    ⟨(some 21), none, .ia 1 (.tmp 14) (.tmp 15)⟩,
    ⟨none, none, .store 1 (.tmp 21) (.tmp 20)⟩]))
  (.kept [0, 3, 4] (.ops [⟨(some 12), none, .mv (.tmp 4)⟩,
    ⟨(some 13), none, .bin .add (.tmp 12) (.const (.int .i64 1))⟩,
    ⟨(some 4), none, .mv (.tmp 13)⟩])))
def c_laws_toClockS : AS :=
  .seq (.ops [⟨(some 2), none, .mv (.const (.slice none 0 0))⟩])
  (.seq (.ops [⟨(some 5), none, .mv (.tmp 0)⟩,
    ⟨(some 6), none, .lens (.tmp 5)⟩,
    ⟨(some 7), none, .mks 1 8 (.agg #[.int .i64 0]) (.tmp 6) (.tmp 6)⟩,
    ⟨(some 3), none, .mv (.tmp 7)⟩])
  (.seq (.seq (.ops [⟨(some 4), none, .mv (.const (.int .i64 0))⟩])
  (.block 0 (.loop 1 [(0, 0), (3, 0), (4, 0)] c_laws_toClockS_l1)))
  (.kept [3] (.seq (.ops [⟨(some 22), none, .mv (.tmp 3)⟩,
    ⟨(some 2), none, .mv (.tmp 22)⟩])
  (.ret)))))
theorem h_laws_toClockS : (Try.prog.funcs[n_laws_toClockS]?).bind (fun fn => fn.body.bind (comp Try.prog fn.ntmps)) = some (AS.strip c_laws_toClockS) := by kernel_rfl
theorem r_laws_toClockS : (Try.prog.funcs[n_laws_toClockS]?).map (fun fn => (fn.results.toList, fn.ntmps)) = some ([.tmp 2], 23) := by kernel_rfl
-- 34 loop.example/g00850/laws.toLeaseS
abbrev n_laws_toLeaseS : Nat := 34
def c_laws_toLeaseS_l1 : AS :=
  .seq (.seq (.ops [⟨(some 8), none, .mv (.tmp 4)⟩,
    ⟨(some 9), none, .mv (.tmp 0)⟩,
    ⟨(some 10), none, .lens (.tmp 9)⟩,
    ⟨(some 11), none, .bin .lss (.tmp 8) (.tmp 10)⟩])
  (.cond (.tmp 11) (.skip) (.exit 0)))
  (.seq (.block 1 (.ops [⟨(some 14), none, .mv (.tmp 3)⟩,
    ⟨(some 15), none, .mv (.tmp 4)⟩,
    ⟨(some 16), none, .mv (.tmp 0)⟩,
    ⟨(some 17), none, .mv (.tmp 4)⟩,
    ⟨(some 18), none, .ia 3 (.tmp 16) (.tmp 17)⟩,
    ⟨(some 19), none, .load (some 3) (.tmp 18)⟩,
    ⟨(some 20), none, .call 66 [(.tmp 19)]⟩,
    ⟨(some 21), none, .ia 3 (.tmp 14) (.tmp 15)⟩,
    ⟨none, none, .store 3 (.tmp 21) (.tmp 20)⟩]))
  (.kept [0, 3, 4] (.ops [⟨(some 12), none, .mv (.tmp 4)⟩,
    ⟨(some 13), none, .bin .add (.tmp 12) (.const (.int .i64 1))⟩,
    ⟨(some 4), none, .mv (.tmp 13)⟩])))
def c_laws_toLeaseS : AS :=
  .seq (.ops [⟨(some 2), none, .mv (.const (.slice none 0 0))⟩])
  (.seq (.ops [⟨(some 5), none, .mv (.tmp 0)⟩,
    ⟨(some 6), none, .lens (.tmp 5)⟩,
    ⟨(some 7), none, .mks 3 24 (.agg #[.int .i64 0, .int .i64 0, .int .i64 0]) (.tmp 6) (.tmp 6)⟩,
    ⟨(some 3), none, .mv (.tmp 7)⟩])
  (.seq (.seq (.ops [⟨(some 4), none, .mv (.const (.int .i64 0))⟩])
  (.block 0 (.loop 1 [(0, 0), (3, 0), (4, 0)] c_laws_toLeaseS_l1)))
  (.kept [3] (.seq (.ops [⟨(some 22), none, .mv (.tmp 3)⟩,
    ⟨(some 2), none, .mv (.tmp 22)⟩])
  (.ret)))))
theorem h_laws_toLeaseS : (Try.prog.funcs[n_laws_toLeaseS]?).bind (fun fn => fn.body.bind (comp Try.prog fn.ntmps)) = some (AS.strip c_laws_toLeaseS) := by kernel_rfl
theorem r_laws_toLeaseS : (Try.prog.funcs[n_laws_toLeaseS]?).map (fun fn => (fn.results.toList, fn.ntmps)) = some ([.tmp 2], 23) := by kernel_rfl
-- 35 loop.example/g00850/laws.toWatchAct
abbrev n_laws_toWatchAct : Nat := 35
def c_laws_toWatchAct : AS :=
  .seq (.ops [⟨(some 1), none, .box (.tmp 0)⟩,
    ⟨(some 2), none, .alloc (.agg #[.int .i64 0, .int .i64 0, .int .i64 0])⟩])
  (.seq (.ops [⟨(some 3), none, .alloc (.agg #[.int .i64 0, .int .i64 0, .int .i64 0])⟩])
  (.seq (.ops [⟨(some 4), none, .fa 0 (.tmp 1)⟩,
    ⟨(some 5), none, .load none (.tmp 4)⟩,
    ⟨(some 6), none, .fa 0 (.tmp 3)⟩,
    ⟨none, none, .store 1 (.tmp 6) (.tmp 5)⟩])
  (.seq (.ops [⟨(some 7), none, .fa 1 (.tmp 1)⟩,
    ⟨(some 8), none, .load none (.tmp 7)⟩,
    ⟨(some 9), none, .fa 1 (.tmp 3)⟩,
    ⟨none, none, .store 1 (.tmp 9) (.tmp 8)⟩])
  (.seq (.ops [⟨(some 10), none, .fa 2 (.tmp 1)⟩,
    ⟨(some 11), none, .load none (.tmp 10)⟩,
    ⟨(some 12), none, .fa 2 (.tmp 3)⟩,
    ⟨none, none, .store 1 (.tmp 12) (.tmp 11)⟩])
  (.seq (.ops [⟨(some 13), none, .load (some 3) (.tmp 3)⟩,
    ⟨none, none, .store 3 (.tmp 2) (.tmp 13)⟩])
  (.ret))))))
theorem h_laws_toWatchAct : (Try.prog.funcs[n_laws_toWatchAct]?).bind (fun fn => fn.body.bind (comp Try.prog fn.ntmps)) = some (AS.strip c_laws_toWatchAct) := by kernel_rfl
theorem r_laws_toWatchAct : (Try.prog.funcs[n_laws_toWatchAct]?).map (fun fn => (fn.results.toList, fn.ntmps)) = some ([.cell 2 66], 14) := by kernel_rfl
-- 36 loop.example/g00850/impl.GoodWatch
abbrev n_impl_GoodWatch : Nat := 36
def c_impl_GoodWatch : AS :=
  .seq (.ops [⟨(some 1), none, .box (.tmp 0)⟩,
    ⟨(some 2), none, .mv (.const (.bool false))⟩])
  (.seq (.ops [⟨(some 3), none, .fa 0 (.tmp 1)⟩,
    ⟨(some 4), none, .load none (.tmp 3)⟩,
    ⟨(some 5), none, .call 67 [(.tmp 4)]⟩,
    ⟨(some 6), none, .mv (.tmp 5)⟩,
    ⟨(some 7), some (6, true), .fa 1 (.tmp 1)⟩,
    ⟨(some 8), some (6, true), .load none (.tmp 7)⟩,
    ⟨(some 9), some (6, true), .call 68 [(.tmp 8)]⟩,
    ⟨(some 10), none, .pick (.tmp 6) (.tmp 9) (.const (.bool false))⟩,
    ⟨(some 11), none, .mv (.tmp 10)⟩,
    ⟨(some 12), some (11, true), .fa 2 (.tmp 1)⟩,
    ⟨(some 13), some (11, true), .load none (.tmp 12)⟩,
    ⟨(some 14), some (11, true), .lens (.tmp 13)⟩,
    ⟨(some 15), some (11, true), .bin .leq (.tmp 14) (.const (.int .i64 40))⟩,
    ⟨(some 16), none, .pick (.tmp 11) (.tmp 15) (.const (.bool false))⟩,
    ⟨(some 17), none, .mv (.tmp 16)⟩,
    ⟨(some 18), some (17, true), .fa 2 (.tmp 1)⟩,
    ⟨(some 19), some (17, true), .load none (.tmp 18)⟩,
    ⟨(some 20), some (17, true), .mkf 70 [(.tmp 1)]⟩,
    ⟨(some 21), some (17, true), .call 69 [(.tmp 19), (.tmp 20)]⟩,
    ⟨(some 22), some (17, true), .not (.tmp 21)⟩,
    ⟨(some 23), none, .pick (.tmp 17) (.tmp 22) (.const (.bool false))⟩,
    ⟨(some 2), none, .mv (.tmp 23)⟩])
  (.ret))
theorem h_impl_GoodWatch : (Try.prog.funcs[n_impl_GoodWatch]?).bind (fun fn => fn.body.bind (comp Try.prog fn.ntmps)) = some (AS.strip c_impl_GoodWatch) := by kernel_rfl
theorem r_impl_GoodWatch : (Try.prog.funcs[n_impl_GoodWatch]?).map (fun fn => (fn.results.toList, fn.ntmps)) = some ([.tmp 2], 24) := by kernel_rfl
-- 37 loop.example/g00850/impl.copyWatch
abbrev n_impl_copyWatch : Nat := 37
def c_impl_copyWatch : AS :=
  .seq (.ops [⟨(some 1), none, .box (.tmp 0)⟩,
    ⟨(some 2), none, .alloc (.agg #[.int .i64 0, .slice none 0 0, .slice none 0 0])⟩])
  (.seq (.rops [(none, ⟨(some 3), none, .fa 0 (.tmp 1)⟩),
    (none, ⟨(some 4), none, .load none (.tmp 3)⟩),
    (none, ⟨(some 5), none, .fa 1 (.tmp 1)⟩),
    (none, ⟨(some 6), none, .load none (.tmp 5)⟩),
    (none, ⟨(some 8), none, .fa 2 (.tmp 1)⟩),
    (none, ⟨(some 9), none, .load none (.tmp 8)⟩),
    (some [⟨(some 9), none, .load none (.tmp 8)⟩, ⟨(some 8), none, .fa 2 (.tmp 1)⟩, ⟨(some 4), none, .load none (.tmp 3)⟩, ⟨(some 3), none, .fa 0 (.tmp 1)⟩], ⟨(some 7), none, .call 72 [(.tmp 6)]⟩),
    (some [⟨(some 4), none, .load none (.tmp 3)⟩, ⟨(some 3), none, .fa 0 (.tmp 1)⟩], ⟨(some 10), none, .call 73 [(.tmp 9)]⟩),
    (none, ⟨(some 11), none, .build (.agg #[.int .i64 0, .slice none 0 0, .slice none 0 0]) [(0, 1, (.tmp 4)), (1, 1, (.tmp 7)), (2, 1, (.tmp 10))]⟩),
    (some [], ⟨none, none, .store 3 (.tmp 2) (.tmp 11)⟩)])
  (.ret))
theorem h_impl_copyWatch : (Try.prog.funcs[n_impl_copyWatch]?).bind (fun fn => fn.body.bind (comp Try.prog fn.ntmps)) = some (AS.strip c_impl_copyWatch) := by kernel_rfl
theorem r_impl_copyWatch : (Try.prog.funcs[n_impl_copyWatch]?).map (fun fn => (fn.results.toList, fn.ntmps)) = some ([.cell 2 44], 12) := by kernel_rfl
-- 38 loop.example/g00850/impl.doWatch
abbrev n_impl_doWatch : Nat := 38
def c_impl_doWatch : AS :=
  .seq (.ops [⟨(some 2), none, .box (.tmp 0)⟩,
    ⟨(some 3), none, .box (.tmp 1)⟩,
    ⟨(some 4), none, .alloc (.agg #[.int .i64 0, .slice none 0 0, .slice none 0 0])⟩,
    ⟨(some 5), none, .mv (.const (.bool false))⟩])
  (.seq (.seq (.ops [⟨(some 6), none, .fa 0 (.tmp 3)⟩,
    ⟨(some 7), none, .load none (.tmp 6)⟩])
  (.block 0 (.seq (.ops [⟨(some 9), none, .bin .eql (.tmp 7) (.const (.int .i64 1))⟩,
    ⟨(some 8), none, .mv (.tmp 9)⟩])
  (.cond (.tmp 8) (.seq (.ops [⟨(some 10), none, .load (some 3) (.tmp 2)⟩,
    ⟨(some 11), none, .fa 1 (.tmp 3)⟩,
    ⟨(some 12), none, .load none (.tmp 11)⟩,
    ⟨(some 13), none, .fa 2 (.tmp 3)⟩,
    ⟨(some 14), none, .load none (.tmp 13)⟩,
    ⟨(some 15), none, .call 74 [(.tmp 10), (.tmp 12), (.tmp 14)]⟩,
    ⟨(some 16), none, .ext 0 (.tmp 15)⟩,
    ⟨(some 17), none, .ext 1 (.tmp 15)⟩,
    ⟨none, none, .store 3 (.tmp 4) (.tmp 16)⟩,
    ⟨(some 5), none, .mv (.tmp 17)⟩])
  (.ret)) (.seq (.ops [⟨(some 19), none, .bin .eql (.tmp 7) (.const (.int .i64 2))⟩,
    ⟨(some 18), none, .mv (.tmp 19)⟩])
  (.cond (.tmp 18) (.seq (.ops [⟨(some 20), none, .load (some 3) (.tmp 2)⟩,
    ⟨(some 21), none, .fa 2 (.tmp 3)⟩,
    ⟨(some 22), none, .load none (.tmp 21)⟩,
    ⟨(some 23), none, .call 75 [(.tmp 20), (.tmp 22)]⟩,
    ⟨(some 24), none, .ext 0 (.tmp 23)⟩,
    ⟨(some 25), none, .ext 1 (.tmp 23)⟩,
    ⟨none, none, .store 3 (.tmp 4) (.tmp 24)⟩,
    ⟨(some 5), none, .mv (.tmp 25)⟩])
  (.ret)) (.seq (.ops [⟨(some 27), none, .bin .eql (.tmp 7) (.const (.int .i64 3))⟩,
    ⟨(some 26), none, .mv (.tmp 27)⟩])
  (.cond (.tmp 26) (.seq (.ops [⟨(some 28), none, .load (some 3) (.tmp 2)⟩,
    ⟨(some 29), none, .fa 1 (.tmp 3)⟩,
    ⟨(some 30), none, .load none (.tmp 29)⟩,
    ⟨(some 31), none, .fa 2 (.tmp 3)⟩,
    ⟨(some 32), none, .load none (.tmp 31)⟩,
    ⟨(some 33), none, .call 76 [(.tmp 28), (.tmp 30), (.tmp 32)]⟩,
    ⟨(some 34), none, .ext 0 (.tmp 33)⟩,
    ⟨(some 35), none, .ext 1 (.tmp 33)⟩,
    ⟨none, none, .store 3 (.tmp 4) (.tmp 34)⟩,
    ⟨(some 5), none, .mv (.tmp 35)⟩])
  (.ret)) (.seq (.ops [⟨(some 37), none, .bin .eql (.tmp 7) (.const (.int .i64 4))⟩,
    ⟨(some 36), none, .mv (.tmp 37)⟩])
  (.cond (.tmp 36) (.seq (.ops [⟨(some 38), none, .load (some 3) (.tmp 2)⟩,
    ⟨(some 39), none, .fa 1 (.tmp 3)⟩,
    ⟨(some 40), none, .load none (.tmp 39)⟩,
    ⟨(some 41), none, .call 77 [(.tmp 38), (.tmp 40)]⟩,
    ⟨(some 42), none, .ext 0 (.tmp 41)⟩,
    ⟨(some 43), none, .ext 1 (.tmp 41)⟩,
    ⟨none, none, .store 3 (.tmp 4) (.tmp 42)⟩,
    ⟨(some 5), none, .mv (.tmp 43)⟩])
  (.ret)) (.skip)))))))))))
  (.kept [4] (.seq (.ops [⟨(some 44), none, .build (.agg #[.int .i64 0, .slice none 0 0, .slice none 0 0]) []⟩,
    ⟨none, none, .store 3 (.tmp 4) (.tmp 44)⟩,
    ⟨(some 5), none, .mv (.const (.bool false))⟩])
  (.ret))))
theorem h_impl_doWatch : (Try.prog.funcs[n_impl_doWatch]?).bind (fun fn => fn.body.bind (comp Try.prog fn.ntmps)) = some (AS.strip c_impl_doWatch) := by kernel_rfl
theorem r_impl_doWatch : (Try.prog.funcs[n_impl_doWatch]?).map (fun fn => (fn.results.toList, fn.ntmps)) = some ([.cell 4 44, .tmp 5], 45) := by kernel_rfl
-- 39 loop.example/g00850/laws.eqClockS
abbrev n_laws_eqClockS : Nat := 39
def c_laws_eqClockS_l1 : AS :=
  .seq (.seq (.ops [⟨(some 11), none, .mv (.tmp 5)⟩,
    ⟨(some 12), none, .mv (.tmp 0)⟩,
    ⟨(some 13), none, .lens (.tmp 12)⟩,
    ⟨(some 14), none, .bin .lss (.tmp 11) (.tmp 13)⟩])
  (.cond (.tmp 14) (.skip) (.exit 0)))
  (.seq (.block 1 (.seq (.rops [(none, ⟨(some 17), none, .mv (.tmp 0)⟩),
    (none, ⟨(some 18), none, .mv (.tmp 5)⟩),
    (none, ⟨(some 19), none, .ia 1 (.tmp 17) (.tmp 18)⟩),
    (none, ⟨(some 20), none, .load (some 1) (.tmp 19)⟩),
    (none, ⟨(some 21), none, .mv (.tmp 1)⟩),
    (none, ⟨(some 22), none, .mv (.tmp 5)⟩),
    (none, ⟨(some 23), none, .ia 1 (.tmp 21) (.tmp 22)⟩),
    (none, ⟨(some 24), none, .load (some 1) (.tmp 23)⟩),
    (some [], ⟨(some 25), none, .call 78 [(.tmp 20), (.tmp 24)]⟩),
    (none, ⟨(some 26), none, .not (.tmp 25)⟩)])
  (.kept [0, 1, 5, 26] (.cond (.tmp 26) (.seq (.ops [⟨(some 4), none, .mv (.const (.bool false))⟩])
  (.ret)) (.skip)))))
  (.kept [0, 1, 5] (.ops [⟨(some 15), none, .mv (.tmp 5)⟩,
    ⟨(some 16), none, .bin .add (.tmp 15) (.const (.int .i64 1))⟩,
    ⟨(some 5), none, .mv (.tmp 16)⟩])))
def c_laws_eqClockS : AS :=
  .seq (.ops [⟨(some 4), none, .mv (.const (.bool false))⟩])
  (.seq (.seq (.ops [⟨(some 6), none, .mv (.tmp 0)⟩,
    ⟨(some 7), none, .lens (.tmp 6)⟩,
    ⟨(some 8), none, .mv (.tmp 1)⟩,
    ⟨(some 9), none, .lens (.tmp 8)⟩,
    ⟨(some 10), none, .bin .neq (.tmp 7) (.tmp 9)⟩])
  (.cond (.tmp 10) (.seq (.ops [⟨(some 4), none, .mv (.const (.bool false))⟩])
  (.ret)) (.skip)))
  (.kept [0, 1] (.seq (.seq (.ops [⟨(some 5), none, .mv (.const (.int .i64 0))⟩])
  (.block 0 (.loop 2 [(0, 0), (1, 0), (5, 0)] c_laws_eqClockS_l1)))
  (.kept [] (.seq (.ops [⟨(some 4), none, .mv (.const (.bool true))⟩])
  (.ret))))))
theorem h_laws_eqClockS : (Try.prog.funcs[n_laws_eqClockS]?).bind (fun fn => fn.body.bind (comp Try.prog fn.ntmps)) = some (AS.strip c_laws_eqClockS) := by kernel_rfl
theorem r_laws_eqClockS : (Try.prog.funcs[n_laws_eqClockS]?).map (fun fn => (fn.results.toList, fn.ntmps)) = some ([.tmp 4], 27) := by kernel_rfl
-- 40 loop.example/g00850/laws.eqLeaseS
abbrev n_laws_eqLeaseS : Nat := 40
def c_laws_eqLeaseS_l1 : AS :=
  .seq (.seq (.ops [⟨(some 11), none, .mv (.tmp 5)⟩,
    ⟨(some 12), none, .mv (.tmp 0)⟩,
    ⟨(some 13), none, .lens (.tmp 12)⟩,
    ⟨(some 14), none, .bin .lss (.tmp 11) (.tmp 13)⟩])
  (.cond (.tmp 14) (.skip) (.exit 0)))
  (.seq (.block 1 (.seq (.rops [(none, ⟨(some 17), none, .mv (.tmp 0)⟩),
    (none, ⟨(some 18), none, .mv (.tmp 5)⟩),
    (none, ⟨(some 19), none, .ia 3 (.tmp 17) (.tmp 18)⟩),
    (none, ⟨(some 20), none, .load (some 3) (.tmp 19)⟩),
    (none, ⟨(some 21), none, .mv (.tmp 1)⟩),
    (none, ⟨(some 22), none, .mv (.tmp 5)⟩),
    (none, ⟨(some 23), none, .ia 3 (.tmp 21) (.tmp 22)⟩),
    (none, ⟨(some 24), none, .load (some 3) (.tmp 23)⟩),
    (some [], ⟨(some 25), none, .call 79 [(.tmp 20), (.tmp 24)]⟩),
    (none, ⟨(some 26), none, .not (.tmp 25)⟩)])
  (.kept [0, 1, 5, 26] (.cond (.tmp 26) (.seq (.ops [⟨(some 4), none, .mv (.const (.bool false))⟩])
  (.ret)) (.skip)))))
  (.kept [0, 1, 5] (.ops [⟨(some 15), none, .mv (.tmp 5)⟩,
    ⟨(some 16), none, .bin .add (.tmp 15) (.const (.int .i64 1))⟩,
    ⟨(some 5), none, .mv (.tmp 16)⟩])))
def c_laws_eqLeaseS : AS :=
  .seq (.ops [⟨(some 4), none, .mv (.const (.bool false))⟩])
  (.seq (.seq (.ops [⟨(some 6), none, .mv (.tmp 0)⟩,
    ⟨(some 7), none, .lens (.tmp 6)⟩,
    ⟨(some 8), none, .mv (.tmp 1)⟩,
    ⟨(some 9), none, .lens (.tmp 8)⟩,
    ⟨(some 10), none, .bin .neq (.tmp 7) (.tmp 9)⟩])
  (.cond (.tmp 10) (.seq (.ops [⟨(some 4), none, .mv (.const (.bool false))⟩])
  (.ret)) (.skip)))
  (.kept [0, 1] (.seq (.seq (.ops [⟨(some 5), none, .mv (.const (.int .i64 0))⟩])
  (.block 0 (.loop 2 [(0, 0), (1, 0), (5, 0)] c_laws_eqLeaseS_l1)))
  (.kept [] (.seq (.ops [⟨(some 4), none, .mv (.const (.bool true))⟩])
  (.ret))))))
theorem h_laws_eqLeaseS : (Try.prog.funcs[n_laws_eqLeaseS]?).bind (fun fn => fn.body.bind (comp Try.prog fn.ntmps)) = some (AS.strip c_laws_eqLeaseS) := by kernel_rfl
theorem r_laws_eqLeaseS : (Try.prog.funcs[n_laws_eqLeaseS]?).map (fun fn => (fn.results.toList, fn.ntmps)) = some ([.tmp 4], 27) := by kernel_rfl
-- 41 loop.example/g00850/laws.eqWatchAct
abbrev n_laws_eqWatchAct : Nat := 41
def c_laws_eqWatchAct : AS :=
  .seq (.ops [⟨(some 2), none, .box (.tmp 0)⟩,
    ⟨(some 3), none, .box (.tmp 1)⟩,
    ⟨(some 4), none, .mv (.const (.bool false))⟩])
  (.seq (.seq (.ops [⟨(some 5), none, .fa 0 (.tmp 2)⟩,
    ⟨(some 6), none, .load none (.tmp 5)⟩,
    ⟨(some 7), none, .fa 0 (.tmp 3)⟩,
    ⟨(some 8), none, .load none (.tmp 7)⟩,
    ⟨(some 9), none, .bin .neq (.tmp 6) (.tmp 8)⟩])
  (.cond (.tmp 9) (.seq (.ops [⟨(some 4), none, .mv (.const (.bool false))⟩])
  (.ret)) (.skip)))
  (.kept [2, 3] (.seq (.seq (.ops [⟨(some 10), none, .fa 1 (.tmp 2)⟩,
    ⟨(some 11), none, .load none (.tmp 10)⟩,
    ⟨(some 12), none, .fa 1 (.tmp 3)⟩,
    ⟨(some 13), none, .load none (.tmp 12)⟩,
    ⟨(some 14), none, .bin .neq (.tmp 11) (.tmp 13)⟩])
  (.cond (.tmp 14) (.seq (.ops [⟨(some 4), none, .mv (.const (.bool false))⟩])
  (.ret)) (.skip)))
  (.kept [2, 3] (.seq (.seq (.ops [⟨(some 15), none, .fa 2 (.tmp 2)⟩,
    ⟨(some 16), none, .load none (.tmp 15)⟩,
    ⟨(some 17), none, .fa 2 (.tmp 3)⟩,
    ⟨(some 18), none, .load none (.tmp 17)⟩,
    ⟨(some 19), none, .bin .neq (.tmp 16) (.tmp 18)⟩])
  (.cond (.tmp 19) (.seq (.ops [⟨(some 4), none, .mv (.const (.bool false))⟩])
  (.ret)) (.skip)))
  (.kept [] (.seq (.ops [⟨(some 4), none, .mv (.const (.bool true))⟩])
  (.ret))))))))
theorem h_laws_eqWatchAct : (Try.prog.funcs[n_laws_eqWatchAct]?).bind (fun fn => fn.body.bind (comp Try.prog fn.ntmps)) = some (AS.strip c_laws_eqWatchAct) := by kernel_rfl
theorem r_laws_eqWatchAct : (Try.prog.funcs[n_laws_eqWatchAct]?).map (fun fn => (fn.results.toList, fn.ntmps)) = some ([.tmp 4], 20) := by kernel_rfl
-- 42 loop.example/g00850/laws.markClockS
abbrev n_laws_markClockS : Nat := 42
def c_laws_markClockS_l1 : AS :=
  .seq (.seq (.ops [⟨(some 6), none, .mv (.tmp 5)⟩,
    ⟨(some 7), none, .mv (.tmp 0)⟩,
    ⟨(some 8), none, .lens (.tmp 7)⟩,
    ⟨(some 9), none, .bin .lss (.tmp 6) (.tmp 8)⟩])
  (.cond (.tmp 9) (.skip) (.exit 0)))
  (.seq (.block 1 (.seq (.ops [⟨(some 12), none, .mv (.tmp 0)⟩,
    ⟨(some 13), none, .mv (.tmp 5)⟩,
    ⟨(some 14), none, .mv (.tmp 1)⟩,
    ⟨(some 15), none, .ia 1 (.tmp 12) (.tmp 13)⟩,
    ⟨(some 16), none, .fa 0 (.tmp 15)⟩,
    ⟨none, none, .store 1 (.tmp 16) (.tmp 14)⟩])
  (.ops [⟨(some 17), none, .mv (.tmp 1)⟩,
    ⟨(some 18), none, .bin .add (.tmp 17) (.const (.int .i64 1))⟩,
    ⟨(some 1), none, .mv (.tmp 18)⟩])))
  (.kept [0, 1, 5] (.ops [⟨(some 10), none, .mv (.tmp 5)⟩,
    ⟨(some 11), none, .bin .add (.tmp 10) (.const (.int .i64 1))⟩,
    ⟨(some 5), none, .mv (.tmp 11)⟩])))
def c_laws_markClockS : AS :=
  .seq (.ops [⟨(some 4), none, .mv (.const (.int .i64 0))⟩])
  (.seq (.seq (.ops [⟨(some 5), none, .mv (.const (.int .i64 0))⟩])
  (.block 0 (.loop 2 [(0, 0), (1, 0), (5, 0)] c_laws_markClockS_l1)))
  (.kept [1] (.seq (.ops [⟨(some 19), none, .mv (.tmp 1)⟩,
    ⟨(some 4), none, .mv (.tmp 19)⟩])
  (.ret))))
theorem h_laws_markClockS : (Try.prog.funcs[n_laws_markClockS]?).bind (fun fn => fn.body.bind (comp Try.prog fn.ntmps)) = some (AS.strip c_laws_markClockS) := by kernel_rfl
theorem r_laws_markClockS : (Try.prog.funcs[n_laws_markClockS]?).map (fun fn => (fn.results.toList, fn.ntmps)) = some ([.tmp 4], 20) := by kernel_rfl
-- 43 loop.example/g00850/laws.markLeaseS
abbrev n_laws_markLeaseS : Nat := 43
def c_laws_markLeaseS_l1 : AS :=
  .seq (.seq (.ops [⟨(some 6), none, .mv (.tmp 5)⟩,
    ⟨(some 7), none, .mv (.tmp 0)⟩,
    ⟨(some 8), none, .lens (.tmp 7)⟩,
    ⟨(some 9), none, .bin .lss (.tmp 6) (.tmp 8)⟩])
  (.cond (.tmp 9) (.skip) (.exit 0)))
  (.seq (.block 1 (.seq (.ops [⟨(some 12), none, .mv (.tmp 0)⟩,
    ⟨(some 13), none, .mv (.tmp 5)⟩,
    ⟨(some 14), none, .mv (.tmp 1)⟩,
    ⟨(some 15), none, .ia 3 (.tmp 12) (.tmp 13)⟩,
    ⟨(some 16), none, .fa 0 (.tmp 15)⟩,
    ⟨none, none, .store 1 (.tmp 16) (.tmp 14)⟩])
  (.seq (.ops [⟨(some 17), none, .mv (.tmp 1)⟩,
    ⟨(some 18), none, .bin .add (.tmp 17) (.const (.int .i64 1))⟩,
    ⟨(some 1), none, .mv (.tmp 18)⟩])
  (.seq (.ops [⟨(some 19), none, .mv (.tmp 0)⟩,
    ⟨(some 20), none, .mv (.tmp 5)⟩,
    ⟨(some 21), none, .mv (.tmp 1)⟩,
    ⟨(some 22), none, .ia 3 (.tmp 19) (.tmp 20)⟩,
    ⟨(some 23), none, .fa 1 (.tmp 22)⟩,
    ⟨none, none, .store 1 (.tmp 23) (.tmp 21)⟩])
  (.seq (.ops [⟨(some 24), none, .mv (.tmp 1)⟩,
    ⟨(some 25), none, .bin .add (.tmp 24) (.const (.int .i64 1))⟩,
    ⟨(some 1), none, .mv (.tmp 25)⟩])
  (.seq (.ops [⟨(some 26), none, .mv (.tmp 0)⟩,
    ⟨(some 27), none, .mv (.tmp 5)⟩,
    ⟨(some 28), none, .mv (.tmp 1)⟩,
    ⟨(some 29), none, .ia 3 (.tmp 26) (.tmp 27)⟩,
    ⟨(some 30), none, .fa 2 (.tmp 29)⟩,
    ⟨none, none, .store 1 (.tmp 30) (.tmp 28)⟩])
  (.ops [⟨(some 31), none, .mv (.tmp 1)⟩,
    ⟨(some 32), none, .bin .add (.tmp 31) (.const (.int .i64 1))⟩,
    ⟨(some 1), none, .mv (.tmp 32)⟩])))))))
  (.kept [0, 1, 5] (.ops [⟨(some 10), none, .mv (.tmp 5)⟩,
    ⟨(some 11), none, .bin .add (.tmp 10) (.const (.int .i64 1))⟩,
    ⟨(some 5), none, .mv (.tmp 11)⟩])))
def c_laws_markLeaseS : AS :=
  .seq (.ops [⟨(some 4), none, .mv (.const (.int .i64 0))⟩])
  (.seq (.seq (.ops [⟨(some 5), none, .mv (.const (.int .i64 0))⟩])
  (.block 0 (.loop 2 [(0, 0), (1, 0), (5, 0)] c_laws_markLeaseS_l1)))
  (.kept [1] (.seq (.ops [⟨(some 33), none, .mv (.tmp 1)⟩,
    ⟨(some 4), none, .mv (.tmp 33)⟩])
  (.ret))))
theorem h_laws_markLeaseS : (Try.prog.funcs[n_laws_markLeaseS]?).bind (fun fn => fn.body.bind (comp Try.prog fn.ntmps)) = some (AS.strip c_laws_markLeaseS) := by kernel_rfl
theorem r_laws_markLeaseS : (Try.prog.funcs[n_laws_markLeaseS]?).map (fun fn => (fn.results.toList, fn.ntmps)) = some ([.tmp 4], 34) := by kernel_rfl
-- 44 loop.example/g00850/laws.heldClockS
abbrev n_laws_heldClockS : Nat := 44
def c_laws_heldClockS_l1 : AS :=
  .seq (.seq (.ops [⟨(some 6), none, .mv (.tmp 5)⟩,
    ⟨(some 7), none, .mv (.tmp 0)⟩,
    ⟨(some 8), none, .lens (.tmp 7)⟩,
    ⟨(some 9), none, .bin .lss (.tmp 6) (.tmp 8)⟩])
  (.cond (.tmp 9) (.skip) (.exit 0)))
  (.seq (.block 1 (.seq (.seq (.ops [⟨(some 12), none, .mv (.tmp 0)⟩,
    ⟨(some 13), none, .mv (.tmp 5)⟩,
    ⟨(some 14), none, .ia 1 (.tmp 12) (.tmp 13)⟩,
    ⟨(some 15), none, .fa 0 (.tmp 14)⟩,
    ⟨(some 16), none, .load none (.tmp 15)⟩,
    ⟨(some 17), none, .mv (.tmp 1)⟩,
    ⟨(some 18), none, .bin .neq (.tmp 16) (.tmp 17)⟩])
  (.kept [0, 1, 5, 18] (.cond (.tmp 18) (.seq (.ops [⟨(some 4), none, .mv (.const (.int .i64 (-1)))⟩])
  (.ret)) (.skip))))
  (.kept [0, 1, 5] (.ops [⟨(some 19), none, .mv (.tmp 1)⟩,
    ⟨(some 20), none, .bin .add (.tmp 19) (.const (.int .i64 1))⟩,
    ⟨(some 1), none, .mv (.tmp 20)⟩]))))
  (.kept [0, 1, 5] (.ops [⟨(some 10), none, .mv (.tmp 5)⟩,
    ⟨(some 11), none, .bin .add (.tmp 10) (.const (.int .i64 1))⟩,
    ⟨(some 5), none, .mv (.tmp 11)⟩])))
def c_laws_heldClockS : AS :=
  .seq (.ops [⟨(some 4), none, .mv (.const (.int .i64 0))⟩])
  (.seq (.seq (.ops [⟨(some 5), none, .mv (.const (.int .i64 0))⟩])
  (.block 0 (.loop 2 [(0, 0), (1, 0), (5, 0)] c_laws_heldClockS_l1)))
  (.kept [1] (.seq (.ops [⟨(some 21), none, .mv (.tmp 1)⟩,
    ⟨(some 4), none, .mv (.tmp 21)⟩])
  (.ret))))
theorem h_laws_heldClockS : (Try.prog.funcs[n_laws_heldClockS]?).bind (fun fn => fn.body.bind (comp Try.prog fn.ntmps)) = some (AS.strip c_laws_heldClockS) := by kernel_rfl
theorem r_laws_heldClockS : (Try.prog.funcs[n_laws_heldClockS]?).map (fun fn => (fn.results.toList, fn.ntmps)) = some ([.tmp 4], 22) := by kernel_rfl
-- 45 loop.example/g00850/laws.heldLeaseS
abbrev n_laws_heldLeaseS : Nat := 45
def c_laws_heldLeaseS_l1 : AS :=
  .seq (.seq (.ops [⟨(some 6), none, .mv (.tmp 5)⟩,
    ⟨(some 7), none, .mv (.tmp 0)⟩,
    ⟨(some 8), none, .lens (.tmp 7)⟩,
    ⟨(some 9), none, .bin .lss (.tmp 6) (.tmp 8)⟩])
  (.cond (.tmp 9) (.skip) (.exit 0)))
  (.seq (.block 1 (.seq (.seq (.ops [⟨(some 12), none, .mv (.tmp 0)⟩,
    ⟨(some 13), none, .mv (.tmp 5)⟩,
    ⟨(some 14), none, .ia 3 (.tmp 12) (.tmp 13)⟩,
    ⟨(some 15), none, .fa 0 (.tmp 14)⟩,
    ⟨(some 16), none, .load none (.tmp 15)⟩,
    ⟨(some 17), none, .mv (.tmp 1)⟩,
    ⟨(some 18), none, .bin .neq (.tmp 16) (.tmp 17)⟩])
  (.kept [0, 1, 5, 18] (.cond (.tmp 18) (.seq (.ops [⟨(some 4), none, .mv (.const (.int .i64 (-1)))⟩])
  (.ret)) (.skip))))
  (.kept [0, 1, 5] (.seq (.ops [⟨(some 19), none, .mv (.tmp 1)⟩,
    ⟨(some 20), none, .bin .add (.tmp 19) (.const (.int .i64 1))⟩,
    ⟨(some 1), none, .mv (.tmp 20)⟩])
  (.seq (.seq (.ops [⟨(some 21), none, .mv (.tmp 0)⟩,
    ⟨(some 22), none, .mv (.tmp 5)⟩,
    ⟨(some 23), none, .ia 3 (.tmp 21) (.tmp 22)⟩,
    ⟨(some 24), none, .fa 1 (.tmp 23)⟩,
    ⟨(some 25), none, .load none (.tmp 24)⟩,
    ⟨(some 26), none, .mv (.tmp 1)⟩,
    ⟨(some 27), none, .bin .neq (.tmp 25) (.tmp 26)⟩])
  (.kept [0, 1, 5, 27] (.cond (.tmp 27) (.seq (.ops [⟨(some 4), none, .mv (.const (.int .i64 (-1)))⟩])
  (.ret)) (.skip))))
  (.kept [0, 1, 5] (.seq (.ops [⟨(some 28), none, .mv (.tmp 1)⟩,
    ⟨(some 29), none, .bin .add (.tmp 28) (.const (.int .i64 1))⟩,
    ⟨(some 1), none, .mv (.tmp 29)⟩])
  (.seq (.seq (.ops [⟨(some 30), none, .mv (.tmp 0)⟩,
    ⟨(some 31), none, .mv (.tmp 5)⟩,
    ⟨(some 32), none, .ia 3 (.tmp 30) (.tmp 31)⟩,
    ⟨(some 33), none, .fa 2 (.tmp 32)⟩,
    ⟨(some 34), none, .load none (.tmp 33)⟩,
    ⟨(some 35), none, .mv (.tmp 1)⟩,
    ⟨(some 36), none, .bin .neq (.tmp 34) (.tmp 35)⟩])
  (.kept [0, 1, 5, 36] (.cond (.tmp 36) (.seq (.ops [⟨(some 4), none, .mv (.const (.int .i64 (-1)))⟩])
  (.ret)) (.skip))))
  (.kept [0, 1, 5] (.ops [⟨(some 37), none, .mv (.tmp 1)⟩,
    ⟨(some 38), none, .bin .add (.tmp 37) (.const (.int .i64 1))⟩,
    ⟨(some 1), none, .mv (.tmp 38)⟩]))))))))))
  (.kept [0, 1, 5] (.ops [⟨(some 10), none, .mv (.tmp 5)⟩,
    ⟨(some 11), none, .bin .add (.tmp 10) (.const (.int .i64 1))⟩,
    ⟨(some 5), none, .mv (.tmp 11)⟩])))
def c_laws_heldLeaseS : AS :=
  .seq (.ops [⟨(some 4), none, .mv (.const (.int .i64 0))⟩])
  (.seq (.seq (.ops [⟨(some 5), none, .mv (.const (.int .i64 0))⟩])
  (.block 0 (.loop 2 [(0, 0), (1, 0), (5, 0)] c_laws_heldLeaseS_l1)))
  (.kept [1] (.seq (.ops [⟨(some 39), none, .mv (.tmp 1)⟩,
    ⟨(some 4), none, .mv (.tmp 39)⟩])
  (.ret))))
theorem h_laws_heldLeaseS : (Try.prog.funcs[n_laws_heldLeaseS]?).bind (fun fn => fn.body.bind (comp Try.prog fn.ntmps)) = some (AS.strip c_laws_heldLeaseS) := by kernel_rfl
theorem r_laws_heldLeaseS : (Try.prog.funcs[n_laws_heldLeaseS]?).map (fun fn => (fn.results.toList, fn.ntmps)) = some ([.tmp 4], 40) := by kernel_rfl
-- 47 loop.example/g00850/spec.l1In
abbrev n_spec_l1In : Nat := 47
def c_spec_l1In : AS :=
  .seq (.ops [⟨(some 6), none, .mv (.const (.bool false))⟩])
  (.seq (.ops [⟨(some 7), none, .mv (.tmp 0)⟩,
    ⟨(some 8), none, .mv (.tmp 1)⟩,
    ⟨(some 9), none, .bin .geq (.tmp 7) (.tmp 8)⟩,
    ⟨(some 10), none, .mv (.tmp 9)⟩,
    ⟨(some 11), some (10, true), .mv (.tmp 0)⟩,
    ⟨(some 12), some (10, true), .mv (.tmp 2)⟩,
    ⟨(some 13), some (10, true), .bin .leq (.tmp 11) (.tmp 12)⟩,
    ⟨(some 14), none, .pick (.tmp 10) (.tmp 13) (.const (.bool false))⟩,
    ⟨(some 6), none, .mv (.tmp 14)⟩])
  (.ret))
theorem h_spec_l1In : (Try.prog.funcs[n_spec_l1In]?).bind (fun fn => fn.body.bind (comp Try.prog fn.ntmps)) = some (AS.strip c_spec_l1In) := by kernel_rfl
theorem r_spec_l1In : (Try.prog.funcs[n_spec_l1In]?).map (fun fn => (fn.results.toList, fn.ntmps)) = some ([.tmp 6], 15) := by kernel_rfl
-- 51 loop.example/g00850/impl.within
abbrev n_impl_within : Nat := 51
def c_impl_within : AS :=
  .seq (.ops [⟨(some 6), none, .mv (.const (.bool false))⟩])
  (.seq (.ops [⟨(some 7), none, .mv (.tmp 0)⟩,
    ⟨(some 8), none, .mv (.tmp 1)⟩,
    ⟨(some 9), none, .bin .geq (.tmp 7) (.tmp 8)⟩,
    ⟨(some 10), none, .mv (.tmp 9)⟩,
    ⟨(some 11), some (10, true), .mv (.tmp 0)⟩,
    ⟨(some 12), some (10, true), .mv (.tmp 2)⟩,
    ⟨(some 13), some (10, true), .bin .leq (.tmp 11) (.tmp 12)⟩,
    ⟨(some 14), none, .pick (.tmp 10) (.tmp 13) (.const (.bool false))⟩,
    ⟨(some 6), none, .mv (.tmp 14)⟩])
  (.ret))
theorem h_impl_within : (Try.prog.funcs[n_impl_within]?).bind (fun fn => fn.body.bind (comp Try.prog fn.ntmps)) = some (AS.strip c_impl_within) := by kernel_rfl
theorem r_impl_within : (Try.prog.funcs[n_impl_within]?).map (fun fn => (fn.results.toList, fn.ntmps)) = some ([.tmp 6], 15) := by kernel_rfl
-- 60 loop.example/g00850/spec.l2Clock
abbrev n_spec_l2Clock : Nat := 60
def c_spec_l2Clock : AS :=
  .seq (.ops [⟨(some 1), none, .box (.tmp 0)⟩,
    ⟨(some 2), none, .mv (.const (.bool false))⟩])
  (.seq (.ops [⟨(some 3), none, .fa 0 (.tmp 1)⟩,
    ⟨(some 4), none, .load none (.tmp 3)⟩,
    ⟨(some 5), none, .call 47 [(.tmp 4), (.const (.int .i64 (-5))), (.const (.int .i64 5))]⟩,
    ⟨(some 2), none, .mv (.tmp 5)⟩])
  (.ret))
theorem h_spec_l2Clock : (Try.prog.funcs[n_spec_l2Clock]?).bind (fun fn => fn.body.bind (comp Try.prog fn.ntmps)) = some (AS.strip c_spec_l2Clock) := by kernel_rfl
theorem r_spec_l2Clock : (Try.prog.funcs[n_spec_l2Clock]?).map (fun fn => (fn.results.toList, fn.ntmps)) = some ([.tmp 2], 6) := by kernel_rfl
-- 61 loop.example/g00850/spec.AskLease
abbrev n_spec_AskLease : Nat := 61
def c_spec_AskLease : AS :=
  .seq (.ops [⟨(some 3), none, .box (.tmp 0)⟩,
    ⟨(some 6), none, .alloc (.agg #[.int .i64 0, .slice none 0 0, .slice none 0 0])⟩,
    ⟨(some 7), none, .mv (.const (.bool false))⟩])
  (.seq (.seq (.rops [(none, ⟨(some 10), none, .load (some 3) (.tmp 3)⟩),
    (none, ⟨(some 11), none, .mv (.tmp 1)⟩),
    (some [], ⟨(some 12), none, .call 87 [(.tmp 10), (.tmp 11)]⟩),
    (none, ⟨(some 13), none, .not (.tmp 12)⟩),
    (none, ⟨(some 14), none, .mv (.tmp 13)⟩),
    (none, ⟨(some 15), some (14, false), .mv (.tmp 2)⟩),
    (some [], ⟨(some 16), some (14, false), .call 47 [(.tmp 15), (.const (.int .i64 1)), (.const (.int .i64 100))]⟩),
    (none, ⟨(some 17), some (14, false), .not (.tmp 16)⟩),
    (none, ⟨(some 18), none, .pick (.tmp 14) (.const (.bool true)) (.tmp 17)⟩),
    (none, ⟨(some 19), none, .mv (.tmp 18)⟩),
    (none, ⟨(some 20), some (19, false), .load (some 3) (.tmp 3)⟩),
    (none, ⟨(some 21), some (19, false), .mv (.tmp 1)⟩),
    (none, ⟨(some 22), some (19, false), .load (some 3) (.tmp 3)⟩),
    (none, ⟨(some 23), some (19, false), .mv (.tmp 1)⟩),
    (some [⟨(some 21), some (19, false), .mv (.tmp 1)⟩, ⟨(some 20), some (19, false), .load (some 3) (.tmp 3)⟩], ⟨(some 24), some (19, false), .call 89 [(.tmp 22), (.tmp 23)]⟩),
    (none, ⟨(some 25), some (19, false), .fld 0 none (.tmp 24)⟩),
    (some [], ⟨(some 26), some (19, false), .call 88 [(.tmp 20), (.tmp 21), (.tmp 25)]⟩),
    (none, ⟨(some 27), some (19, false), .not (.tmp 26)⟩),
    (none, ⟨(some 28), none, .pick (.tmp 19) (.const (.bool true)) (.tmp 27)⟩)])
  (.kept [1, 2, 3, 6, 28] (.cond (.tmp 28) (.seq (.ops [⟨(some 29), none, .build (.agg #[.int .i64 0, .slice none 0 0, .slice none 0 0]) []⟩,
    ⟨none, none, .store 3 (.tmp 6) (.tmp 29)⟩,
    ⟨(some 7), none, .mv (.const (.bool false))⟩])
  (.ret)) (.skip))))
  (.kept [1, 2, 3, 6] (.seq (.ops [⟨(some 30), none, .load (some 3) (.tmp 3)⟩,
    ⟨(some 31), none, .mv (.tmp 1)⟩,
    ⟨(some 32), none, .call 89 [(.tmp 30), (.tmp 31)]⟩,
    ⟨(some 8), none, .alloc (.agg #[.int .i64 0, .int .i64 0])⟩,
    ⟨none, none, .store 2 (.tmp 8) (.tmp 32)⟩])
  (.seq (.ops [⟨(some 33), none, .load (some 3) (.tmp 3)⟩,
    ⟨(some 34), none, .call 31 [(.tmp 33)]⟩,
    ⟨(some 9), none, .alloc (.agg #[.int .i64 0, .slice none 0 0, .slice none 0 0])⟩,
    ⟨none, none, .store 3 (.tmp 9) (.tmp 34)⟩])
  (.seq (.ops [⟨(some 35), none, .fa 2 (.tmp 9)⟩,
    ⟨(some 36), none, .load none (.tmp 35)⟩,
    ⟨(some 37), none, .mv (.tmp 1)⟩,
    ⟨(some 38), none, .fa 0 (.tmp 8)⟩,
    ⟨(some 39), none, .load none (.tmp 38)⟩,
    ⟨(some 40), none, .fa 1 (.tmp 8)⟩,
    ⟨(some 41), none, .load none (.tmp 40)⟩,
    ⟨(some 42), none, .mv (.tmp 2)⟩,
    ⟨(some 43), none, .bin .add (.tmp 41) (.tmp 42)⟩,
    ⟨(some 44), none, .build (.agg #[.int .i64 0, .int .i64 0, .int .i64 0]) [(0, 1, (.tmp 37)), (1, 1, (.tmp 39)), (2, 1, (.tmp 43))]⟩,
    ⟨(some 45), none, .bsl 3 (.agg #[.int .i64 0, .int .i64 0, .int .i64 0]) 1 [(0, (.tmp 44))]⟩,
    ⟨(some 46), none, .app 3 24 (.agg #[.int .i64 0, .int .i64 0, .int .i64 0]) (.tmp 36) (.tmp 45)⟩,
    ⟨(some 47), none, .fa 2 (.tmp 9)⟩,
    ⟨none, none, .store 1 (.tmp 47) (.tmp 46)⟩])
  (.kept [6, 9] (.seq (.ops [⟨(some 48), none, .load (some 3) (.tmp 9)⟩,
    ⟨(some 49), none, .call 90 [(.tmp 48)]⟩,
    ⟨(some 50), none, .ext 0 (.tmp 49)⟩,
    ⟨(some 51), none, .ext 1 (.tmp 49)⟩,
    ⟨none, none, .store 3 (.tmp 6) (.tmp 50)⟩,
    ⟨(some 7), none, .mv (.tmp 51)⟩])
  (.ret))))))))
theorem h_spec_AskLease : (Try.prog.funcs[n_spec_AskLease]?).bind (fun fn => fn.body.bind (comp Try.prog fn.ntmps)) = some (AS.strip c_spec_AskLease) := by kernel_rfl
theorem r_spec_AskLease : (Try.prog.funcs[n_spec_AskLease]?).map (fun fn => (fn.results.toList, fn.ntmps)) = some ([.cell 6 44, .tmp 7], 52) := by kernel_rfl
-- 62 loop.example/g00850/spec.PassTime
abbrev n_spec_PassTime : Nat := 62
def c_spec_PassTime : AS :=
  .seq (.ops [⟨(some 2), none, .box (.tmp 0)⟩,
    ⟨(some 4), none, .alloc (.agg #[.int .i64 0, .slice none 0 0, .slice none 0 0])⟩,
    ⟨(some 5), none, .mv (.const (.bool false))⟩])
  (.seq (.seq (.ops [⟨(some 7), none, .load (some 3) (.tmp 2)⟩,
    ⟨(some 8), none, .call 30 [(.tmp 7)]⟩,
    ⟨(some 9), none, .not (.tmp 8)⟩,
    ⟨(some 10), none, .mv (.tmp 9)⟩,
    ⟨(some 11), some (10, false), .mv (.tmp 1)⟩,
    ⟨(some 12), some (10, false), .call 47 [(.tmp 11), (.const (.int .i64 0)), (.const (.int .i64 100000))]⟩,
    ⟨(some 13), some (10, false), .not (.tmp 12)⟩,
    ⟨(some 14), none, .pick (.tmp 10) (.const (.bool true)) (.tmp 13)⟩])
  (.kept [1, 2, 4, 14] (.cond (.tmp 14) (.seq (.ops [⟨(some 15), none, .build (.agg #[.int .i64 0, .slice none 0 0, .slice none 0 0]) []⟩,
    ⟨none, none, .store 3 (.tmp 4) (.tmp 15)⟩,
    ⟨(some 5), none, .mv (.const (.bool false))⟩])
  (.ret)) (.skip))))
  (.kept [1, 2, 4] (.seq (.ops [⟨(some 16), none, .load (some 3) (.tmp 2)⟩,
    ⟨(some 17), none, .call 31 [(.tmp 16)]⟩,
    ⟨(some 6), none, .alloc (.agg #[.int .i64 0, .slice none 0 0, .slice none 0 0])⟩,
    ⟨none, none, .store 3 (.tmp 6) (.tmp 17)⟩])
  (.seq (.ops [⟨(some 18), none, .fa 0 (.tmp 2)⟩,
    ⟨(some 19), none, .load none (.tmp 18)⟩,
    ⟨(some 20), none, .mv (.tmp 1)⟩,
    ⟨(some 21), none, .bin .add (.tmp 19) (.tmp 20)⟩,
    ⟨(some 22), none, .fa 0 (.tmp 6)⟩,
    ⟨none, none, .store 1 (.tmp 22) (.tmp 21)⟩])
  (.seq (.ops [⟨(some 23), none, .load (some 3) (.tmp 6)⟩,
    ⟨(some 24), none, .call 90 [(.tmp 23)]⟩,
    ⟨(some 25), none, .ext 0 (.tmp 24)⟩,
    ⟨(some 26), none, .ext 1 (.tmp 24)⟩,
    ⟨none, none, .store 3 (.tmp 4) (.tmp 25)⟩,
    ⟨(some 5), none, .mv (.tmp 26)⟩])
  (.ret))))))
theorem h_spec_PassTime : (Try.prog.funcs[n_spec_PassTime]?).bind (fun fn => fn.body.bind (comp Try.prog fn.ntmps)) = some (AS.strip c_spec_PassTime) := by kernel_rfl
theorem r_spec_PassTime : (Try.prog.funcs[n_spec_PassTime]?).map (fun fn => (fn.results.toList, fn.ntmps)) = some ([.cell 4 44, .tmp 5], 27) := by kernel_rfl
-- 63 loop.example/g00850/spec.DriftTo
abbrev n_spec_DriftTo : Nat := 63
def c_spec_DriftTo : AS :=
  .seq (.ops [⟨(some 3), none, .box (.tmp 0)⟩,
    ⟨(some 6), none, .alloc (.agg #[.int .i64 0, .slice none 0 0, .slice none 0 0])⟩,
    ⟨(some 7), none, .mv (.const (.bool false))⟩])
  (.seq (.seq (.ops [⟨(some 9), none, .load (some 3) (.tmp 3)⟩,
    ⟨(some 10), none, .mv (.tmp 1)⟩,
    ⟨(some 11), none, .call 87 [(.tmp 9), (.tmp 10)]⟩,
    ⟨(some 12), none, .not (.tmp 11)⟩,
    ⟨(some 13), none, .mv (.tmp 12)⟩,
    ⟨(some 14), some (13, false), .mv (.tmp 2)⟩,
    ⟨(some 15), some (13, false), .call 47 [(.tmp 14), (.const (.int .i64 (-5))), (.const (.int .i64 5))]⟩,
    ⟨(some 16), some (13, false), .not (.tmp 15)⟩,
    ⟨(some 17), none, .pick (.tmp 13) (.const (.bool true)) (.tmp 16)⟩])
  (.kept [1, 2, 3, 6, 17] (.cond (.tmp 17) (.seq (.ops [⟨(some 18), none, .build (.agg #[.int .i64 0, .slice none 0 0, .slice none 0 0]) []⟩,
    ⟨none, none, .store 3 (.tmp 6) (.tmp 18)⟩,
    ⟨(some 7), none, .mv (.const (.bool false))⟩])
  (.ret)) (.skip))))
  (.kept [1, 2, 3, 6] (.seq (.ops [⟨(some 19), none, .load (some 3) (.tmp 3)⟩,
    ⟨(some 20), none, .call 31 [(.tmp 19)]⟩,
    ⟨(some 8), none, .alloc (.agg #[.int .i64 0, .slice none 0 0, .slice none 0 0])⟩,
    ⟨none, none, .store 3 (.tmp 8) (.tmp 20)⟩])
  (.seq (.ops [⟨(some 21), none, .fa 1 (.tmp 8)⟩,
    ⟨(some 22), none, .load none (.tmp 21)⟩,
    ⟨(some 23), none, .mv (.tmp 1)⟩,
    ⟨(some 24), none, .mv (.tmp 2)⟩,
    ⟨(some 25), none, .build (.agg #[.int .i64 0]) [(0, 1, (.tmp 24))]⟩,
    ⟨(some 26), none, .ia 1 (.tmp 22) (.tmp 23)⟩,
    ⟨none, none, .store 1 (.tmp 26) (.tmp 25)⟩])
  (.kept [6, 8] (.seq (.ops [⟨(some 27), none, .load (some 3) (.tmp 8)⟩,
    ⟨none, none, .store 3 (.tmp 6) (.tmp 27)⟩,
    ⟨(some 7), none, .mv (.const (.bool true))⟩])
  (.ret)))))))
theorem h_spec_DriftTo : (Try.prog.funcs[n_spec_DriftTo]?).bind (fun fn => fn.body.bind (comp Try.prog fn.ntmps)) = some (AS.strip c_spec_DriftTo) := by kernel_rfl
theorem r_spec_DriftTo : (Try.prog.funcs[n_spec_DriftTo]?).map (fun fn => (fn.results.toList, fn.ntmps)) = some ([.cell 6 44, .tmp 7], 28) := by kernel_rfl
-- 64 loop.example/g00850/spec.GiveBack
abbrev n_spec_GiveBack : Nat := 64
def c_spec_GiveBack_l1 : AS :=
  .seq (.seq (.ops [⟨(some 26), none, .mv (.tmp 8)⟩,
    ⟨(some 27), none, .fa 2 (.tmp 6)⟩,
    ⟨(some 28), none, .load none (.tmp 27)⟩,
    ⟨(some 29), none, .lens (.tmp 28)⟩,
    ⟨(some 30), none, .bin .lss (.tmp 26) (.tmp 29)⟩])
  (.cond (.tmp 30) (.skip) (.exit 0)))
  (.seq (.block 1 (.seq (.ops [⟨(some 33), none, .fa 2 (.tmp 6)⟩,
    ⟨(some 34), none, .load none (.tmp 33)⟩,
    ⟨(some 35), none, .mv (.tmp 8)⟩,
    ⟨(some 36), none, .ia 3 (.tmp 34) (.tmp 35)⟩,
    ⟨(some 37), none, .fa 0 (.tmp 36)⟩,
    ⟨(some 38), none, .load none (.tmp 37)⟩,
    ⟨(some 39), none, .mv (.tmp 1)⟩,
    ⟨(some 40), none, .bin .eql (.tmp 38) (.tmp 39)⟩,
    ⟨(some 41), none, .mv (.tmp 40)⟩,
    ⟨(some 42), some (41, true), .fa 2 (.tmp 6)⟩,
    ⟨(some 43), some (41, true), .load none (.tmp 42)⟩,
    ⟨(some 44), some (41, true), .mv (.tmp 8)⟩,
    ⟨(some 45), some (41, true), .ia 3 (.tmp 43) (.tmp 44)⟩,
    ⟨(some 46), some (41, true), .fa 2 (.tmp 45)⟩,
    ⟨(some 47), some (41, true), .load none (.tmp 46)⟩,
    ⟨(some 48), some (41, true), .mv (.tmp 7)⟩,
    ⟨(some 49), some (41, true), .bin .geq (.tmp 47) (.tmp 48)⟩,
    ⟨(some 50), none, .pick (.tmp 41) (.tmp 49) (.const (.bool false))⟩])
  (.kept [1, 4, 6, 7, 8, 50] (.cond (.tmp 50) (.ops [⟨(some 51), none, .fa 2 (.tmp 6)⟩,
    ⟨(some 52), none, .load none (.tmp 51)⟩,
    ⟨(some 53), none, .mv (.tmp 8)⟩,
    ⟨(some 54), none, .mv (.tmp 7)⟩,
    ⟨(some 55), none, .bin .sub (.tmp 54) (.const (.int .i64 1))⟩,
    ⟨(some 56), none, .ia 3 (.tmp 52) (.tmp 53)⟩,
    ⟨(some 57), none, .fa 2 (.tmp 56)⟩,
    ⟨none, none, .store 1 (.tmp 57) (.tmp 55)⟩]) (.skip)))))
  (.kept [1, 4, 6, 7, 8] (.ops [⟨(some 31), none, .mv (.tmp 8)⟩,
    ⟨(some 32), none, .bin .add (.tmp 31) (.const (.int .i64 1))⟩,
    ⟨(some 8), none, .mv (.tmp 32)⟩])))
def c_spec_GiveBack : AS :=
  .seq (.ops [⟨(some 2), none, .box (.tmp 0)⟩,
    ⟨(some 4), none, .alloc (.agg #[.int .i64 0, .slice none 0 0, .slice none 0 0])⟩,
    ⟨(some 5), none, .mv (.const (.bool false))⟩])
  (.seq (.seq (.ops [⟨(some 9), none, .load (some 3) (.tmp 2)⟩,
    ⟨(some 10), none, .mv (.tmp 1)⟩,
    ⟨(some 11), none, .call 87 [(.tmp 9), (.tmp 10)]⟩,
    ⟨(some 12), none, .not (.tmp 11)⟩,
    ⟨(some 13), none, .mv (.tmp 12)⟩,
    ⟨(some 14), some (13, false), .load (some 3) (.tmp 2)⟩,
    ⟨(some 15), some (13, false), .mv (.tmp 1)⟩,
    ⟨(some 16), some (13, false), .call 91 [(.tmp 14), (.tmp 15)]⟩,
    ⟨(some 17), some (13, false), .not (.tmp 16)⟩,
    ⟨(some 18), none, .pick (.tmp 13) (.const (.bool true)) (.tmp 17)⟩])
  (.kept [1, 2, 4, 18] (.cond (.tmp 18) (.seq (.ops [⟨(some 19), none, .build (.agg #[.int .i64 0, .slice none 0 0, .slice none 0 0]) []⟩,
    ⟨none, none, .store 3 (.tmp 4) (.tmp 19)⟩,
    ⟨(some 5), none, .mv (.const (.bool false))⟩])
  (.ret)) (.skip))))
  (.kept [1, 2, 4] (.seq (.ops [⟨(some 20), none, .load (some 3) (.tmp 2)⟩,
    ⟨(some 21), none, .call 31 [(.tmp 20)]⟩,
    ⟨(some 6), none, .alloc (.agg #[.int .i64 0, .slice none 0 0, .slice none 0 0])⟩,
    ⟨none, none, .store 3 (.tmp 6) (.tmp 21)⟩])
  (.seq (.ops [⟨(some 22), none, .load (some 3) (.tmp 2)⟩,
    ⟨(some 23), none, .mv (.tmp 1)⟩,
    ⟨(some 24), none, .call 89 [(.tmp 22), (.tmp 23)]⟩,
    ⟨(some 25), none, .fld 0 none (.tmp 24)⟩,
    ⟨(some 7), none, .mv (.tmp 25)⟩])
  (.seq (.seq (.ops [⟨(some 8), none, .mv (.const (.int .i64 0))⟩])
  (.block 0 (.loop 2 [(1, 0), (4, 0), (6, 0), (7, 0), (8, 0)] c_spec_GiveBack_l1)))
  (.kept [4, 6] (.seq (.ops [⟨(some 58), none, .load (some 3) (.tmp 6)⟩,
    ⟨none, none, .store 3 (.tmp 4) (.tmp 58)⟩,
    ⟨(some 5), none, .mv (.const (.bool true))⟩])
  (.ret))))))))
theorem h_spec_GiveBack : (Try.prog.funcs[n_spec_GiveBack]?).bind (fun fn => fn.body.bind (comp Try.prog fn.ntmps)) = some (AS.strip c_spec_GiveBack) := by kernel_rfl
theorem r_spec_GiveBack : (Try.prog.funcs[n_spec_GiveBack]?).map (fun fn => (fn.results.toList, fn.ntmps)) = some ([.cell 4 44, .tmp 5], 59) := by kernel_rfl
-- 65 loop.example/g00850/laws.toClock
abbrev n_laws_toClock : Nat := 65
def c_laws_toClock : AS :=
  .seq (.ops [⟨(some 1), none, .box (.tmp 0)⟩,
    ⟨(some 2), none, .alloc (.agg #[.int .i64 0])⟩])
  (.seq (.ops [⟨(some 3), none, .alloc (.agg #[.int .i64 0])⟩])
  (.seq (.ops [⟨(some 4), none, .fa 0 (.tmp 1)⟩,
    ⟨(some 5), none, .load none (.tmp 4)⟩,
    ⟨(some 6), none, .fa 0 (.tmp 3)⟩,
    ⟨none, none, .store 1 (.tmp 6) (.tmp 5)⟩])
  (.seq (.ops [⟨(some 7), none, .load (some 1) (.tmp 3)⟩,
    ⟨none, none, .store 1 (.tmp 2) (.tmp 7)⟩])
  (.ret))))
theorem h_laws_toClock : (Try.prog.funcs[n_laws_toClock]?).bind (fun fn => fn.body.bind (comp Try.prog fn.ntmps)) = some (AS.strip c_laws_toClock) := by kernel_rfl
theorem r_laws_toClock : (Try.prog.funcs[n_laws_toClock]?).map (fun fn => (fn.results.toList, fn.ntmps)) = some ([.cell 2 102], 8) := by kernel_rfl
-- 66 loop.example/g00850/laws.toLease
abbrev n_laws_toLease : Nat := 66
def c_laws_toLease : AS :=
  .seq (.ops [⟨(some 1), none, .box (.tmp 0)⟩,
    ⟨(some 2), none, .alloc (.agg #[.int .i64 0, .int .i64 0, .int .i64 0])⟩])
  (.seq (.ops [⟨(some 3), none, .alloc (.agg #[.int .i64 0, .int .i64 0, .int .i64 0])⟩])
  (.seq (.ops [⟨(some 4), none, .fa 0 (.tmp 1)⟩,
    ⟨(some 5), none, .load none (.tmp 4)⟩,
    ⟨(some 6), none, .fa 0 (.tmp 3)⟩,
    ⟨none, none, .store 1 (.tmp 6) (.tmp 5)⟩])
  (.seq (.ops [⟨(some 7), none, .fa 1 (.tmp 1)⟩,
    ⟨(some 8), none, .load none (.tmp 7)⟩,
    ⟨(some 9), none, .fa 1 (.tmp 3)⟩,
    ⟨none, none, .store 1 (.tmp 9) (.tmp 8)⟩])
  (.seq (.ops [⟨(some 10), none, .fa 2 (.tmp 1)⟩,
    ⟨(some 11), none, .load none (.tmp 10)⟩,
    ⟨(some 12), none, .fa 2 (.tmp 3)⟩,
    ⟨none, none, .store 1 (.tmp 12) (.tmp 11)⟩])
  (.seq (.ops [⟨(some 13), none, .load (some 3) (.tmp 3)⟩,
    ⟨none, none, .store 3 (.tmp 2) (.tmp 13)⟩])
  (.ret))))))
theorem h_laws_toLease : (Try.prog.funcs[n_laws_toLease]?).bind (fun fn => fn.body.bind (comp Try.prog fn.ntmps)) = some (AS.strip c_laws_toLease) := by kernel_rfl
theorem r_laws_toLease : (Try.prog.funcs[n_laws_toLease]?).map (fun fn => (fn.results.toList, fn.ntmps)) = some ([.cell 2 104], 14) := by kernel_rfl
-- 67 loop.example/g00850/impl.isTrue
abbrev n_impl_isTrue : Nat := 67
def c_impl_isTrue : AS :=
  .seq (.ops [⟨(some 2), none, .mv (.const (.bool false))⟩])
  (.seq (.ops [⟨(some 3), none, .mv (.tmp 0)⟩,
    ⟨(some 4), none, .call 51 [(.tmp 3), (.const (.int .i64 0)), (.const (.int .i64 100000))]⟩,
    ⟨(some 2), none, .mv (.tmp 4)⟩])
  (.ret))
theorem h_impl_isTrue : (Try.prog.funcs[n_impl_isTrue]?).bind (fun fn => fn.body.bind (comp Try.prog fn.ntmps)) = some (AS.strip c_impl_isTrue) := by kernel_rfl
theorem r_impl_isTrue : (Try.prog.funcs[n_impl_isTrue]?).map (fun fn => (fn.results.toList, fn.ntmps)) = some ([.tmp 2], 5) := by kernel_rfl
-- 68 loop.example/g00850/impl.areClocks
abbrev n_impl_areClocks : Nat := 68
def c_impl_areClocks : AS :=
  .seq (.ops [⟨(some 2), none, .mv (.const (.bool false))⟩])
  (.seq (.ops [⟨(some 3), none, .mv (.tmp 0)⟩,
    ⟨(some 4), none, .lens (.tmp 3)⟩,
    ⟨(some 5), none, .call 51 [(.tmp 4), (.const (.int .i64 1)), (.const (.int .i64 5))]⟩,
    ⟨(some 6), none, .mv (.tmp 5)⟩,
    ⟨(some 7), some (6, true), .mv (.tmp 0)⟩,
    ⟨(some 8), some (6, true), .call 92 [(.tmp 7), (.func 93)]⟩,
    ⟨(some 9), some (6, true), .not (.tmp 8)⟩,
    ⟨(some 10), none, .pick (.tmp 6) (.tmp 9) (.const (.bool false))⟩,
    ⟨(some 2), none, .mv (.tmp 10)⟩])
  (.ret))
theorem h_impl_areClocks : (Try.prog.funcs[n_impl_areClocks]?).bind (fun fn => fn.body.bind (comp Try.prog fn.ntmps)) = some (AS.strip c_impl_areClocks) := by kernel_rfl
theorem r_impl_areClocks : (Try.prog.funcs[n_impl_areClocks]?).map (fun fn => (fn.results.toList, fn.ntmps)) = some ([.tmp 2], 11) := by kernel_rfl
-- 69 slices.ContainsFunc[[]loop.example/g00850/impl.Lease,loop.example/g00850/impl.Lease]
abbrev n_slices_ContainsFunc___impl_Lease_impl_Lease_ : Nat := 69
def c_slices_ContainsFunc___impl_Lease_impl_Lease_ : AS :=
  .seq (.ops [⟨(some 4), none, .mv (.const (.bool false))⟩])
  (.seq (.ops [⟨(some 5), none, .mv (.tmp 0)⟩,
    ⟨(some 6), none, .mv (.tmp 1)⟩,
    ⟨(some 7), none, .call 95 [(.tmp 5), (.tmp 6)]⟩,
    ⟨(some 8), none, .bin .geq (.tmp 7) (.const (.int .i64 0))⟩,
    ⟨(some 4), none, .mv (.tmp 8)⟩])
  (.ret))
theorem h_slices_ContainsFunc___impl_Lease_impl_Lease_ : (Try.prog.funcs[n_slices_ContainsFunc___impl_Lease_impl_Lease_]?).bind (fun fn => fn.body.bind (comp Try.prog fn.ntmps)) = some (AS.strip c_slices_ContainsFunc___impl_Lease_impl_Lease_) := by kernel_rfl
theorem r_slices_ContainsFunc___impl_Lease_impl_Lease_ : (Try.prog.funcs[n_slices_ContainsFunc___impl_Lease_impl_Lease_]?).map (fun fn => (fn.results.toList, fn.ntmps)) = some ([.tmp 4], 9) := by kernel_rfl
-- 70 loop.example/g00850/impl.GoodWatch$1
abbrev n_impl_GoodWatch_1 : Nat := 70
def c_impl_GoodWatch_1 : AS :=
  .seq (.ops [⟨(some 2), none, .box (.tmp 0)⟩,
    ⟨(some 3), none, .mv (.const (.bool false))⟩])
  (.seq (.ops [⟨(some 4), none, .load (some 3) (.tmp 1)⟩,
    ⟨(some 5), none, .fa 0 (.tmp 2)⟩,
    ⟨(some 6), none, .load none (.tmp 5)⟩,
    ⟨(some 7), none, .call 71 [(.tmp 4), (.tmp 6)]⟩,
    ⟨(some 8), none, .not (.tmp 7)⟩,
    ⟨(some 9), none, .mv (.tmp 8)⟩,
    ⟨(some 10), some (9, false), .fa 1 (.tmp 2)⟩,
    ⟨(some 11), some (9, false), .load none (.tmp 10)⟩,
    ⟨(some 12), some (9, false), .call 51 [(.tmp 11), (.const (.int .i64 (-20))), (.const (.int .i64 100020))]⟩,
    ⟨(some 13), some (9, false), .not (.tmp 12)⟩,
    ⟨(some 14), none, .pick (.tmp 9) (.const (.bool true)) (.tmp 13)⟩,
    ⟨(some 15), none, .mv (.tmp 14)⟩,
    ⟨(some 16), some (15, false), .fa 2 (.tmp 2)⟩,
    ⟨(some 17), some (15, false), .load none (.tmp 16)⟩,
    ⟨(some 18), some (15, false), .call 51 [(.tmp 17), (.const (.int .i64 (-20))), (.const (.int .i64 100200))]⟩,
    ⟨(some 19), some (15, false), .not (.tmp 18)⟩,
    ⟨(some 20), none, .pick (.tmp 15) (.const (.bool true)) (.tmp 19)⟩,
    ⟨(some 3), none, .mv (.tmp 20)⟩])
  (.ret))
theorem h_impl_GoodWatch_1 : (Try.prog.funcs[n_impl_GoodWatch_1]?).bind (fun fn => fn.body.bind (comp Try.prog fn.ntmps)) = some (AS.strip c_impl_GoodWatch_1) := by kernel_rfl
theorem r_impl_GoodWatch_1 : (Try.prog.funcs[n_impl_GoodWatch_1]?).map (fun fn => (fn.results.toList, fn.ntmps)) = some ([.tmp 3], 21) := by kernel_rfl
-- 71 (loop.example/g00850/impl.Watch).isNode
abbrev n_impl_Watch_isNode : Nat := 71
def c_impl_Watch_isNode : AS :=
  .seq (.ops [⟨(some 2), none, .box (.tmp 0)⟩,
    ⟨(some 4), none, .mv (.const (.bool false))⟩])
  (.seq (.ops [⟨(some 5), none, .mv (.tmp 1)⟩,
    ⟨(some 6), none, .fa 1 (.tmp 2)⟩,
    ⟨(some 7), none, .load none (.tmp 6)⟩,
    ⟨(some 8), none, .lens (.tmp 7)⟩,
    ⟨(some 9), none, .bin .sub (.tmp 8) (.const (.int .i64 1))⟩,
    ⟨(some 10), none, .call 51 [(.tmp 5), (.const (.int .i64 0)), (.tmp 9)]⟩,
    ⟨(some 4), none, .mv (.tmp 10)⟩])
  (.ret))
theorem h_impl_Watch_isNode : (Try.prog.funcs[n_impl_Watch_isNode]?).bind (fun fn => fn.body.bind (comp Try.prog fn.ntmps)) = some (AS.strip c_impl_Watch_isNode) := by kernel_rfl
theorem r_impl_Watch_isNode : (Try.prog.funcs[n_impl_Watch_isNode]?).map (fun fn => (fn.results.toList, fn.ntmps)) = some ([.tmp 4], 11) := by kernel_rfl
-- 72 slices.Clone[[]loop.example/g00850/impl.Clock,loop.example/g00850/impl.Clock]
abbrev n_slices_Clone___impl_Clock_impl_Clock_ : Nat := 72
def c_slices_Clone___impl_Clock_impl_Clock_ : AS :=
  .seq (.ops [⟨(some 2), none, .mv (.const (.slice none 0 0))⟩])
  (.seq (.seq (.ops [⟨(some 3), none, .mv (.tmp 0)⟩,
    ⟨(some 4), none, .isn false (.tmp 3)⟩])
  (.cond (.tmp 4) (.seq (.ops [⟨(some 2), none, .mv (.const (.slice none 0 0))⟩])
  (.ret)) (.skip)))
  (.seq (.ops [⟨(some 5), none, .bsl 1 (.agg #[.int .i64 0]) 0 []⟩,
    ⟨(some 6), none, .mv (.tmp 0)⟩,
    ⟨(some 7), none, .app 1 8 (.agg #[.int .i64 0]) (.tmp 5) (.tmp 6)⟩,
    ⟨(some 2), none, .mv (.tmp 7)⟩])
  (.ret)))
theorem h_slices_Clone___impl_Clock_impl_Clock_ : (Try.prog.funcs[n_slices_Clone___impl_Clock_impl_Clock_]?).bind (fun fn => fn.body.bind (comp Try.prog fn.ntmps)) = some (AS.strip c_slices_Clone___impl_Clock_impl_Clock_) := by kernel_rfl
theorem r_slices_Clone___impl_Clock_impl_Clock_ : (Try.prog.funcs[n_slices_Clone___impl_Clock_impl_Clock_]?).map (fun fn => (fn.results.toList, fn.ntmps)) = some ([.tmp 2], 8) := by kernel_rfl
-- 73 slices.Clone[[]loop.example/g00850/impl.Lease,loop.example/g00850/impl.Lease]
abbrev n_slices_Clone___impl_Lease_impl_Lease_ : Nat := 73
def c_slices_Clone___impl_Lease_impl_Lease_ : AS :=
  .seq (.ops [⟨(some 2), none, .mv (.const (.slice none 0 0))⟩])
  (.seq (.seq (.ops [⟨(some 3), none, .mv (.tmp 0)⟩,
    ⟨(some 4), none, .isn false (.tmp 3)⟩])
  (.cond (.tmp 4) (.seq (.ops [⟨(some 2), none, .mv (.const (.slice none 0 0))⟩])
  (.ret)) (.skip)))
  (.seq (.ops [⟨(some 5), none, .bsl 3 (.agg #[.int .i64 0, .int .i64 0, .int .i64 0]) 0 []⟩,
    ⟨(some 6), none, .mv (.tmp 0)⟩,
    ⟨(some 7), none, .app 3 24 (.agg #[.int .i64 0, .int .i64 0, .int .i64 0]) (.tmp 5) (.tmp 6)⟩,
    ⟨(some 2), none, .mv (.tmp 7)⟩])
  (.ret)))
theorem h_slices_Clone___impl_Lease_impl_Lease_ : (Try.prog.funcs[n_slices_Clone___impl_Lease_impl_Lease_]?).bind (fun fn => fn.body.bind (comp Try.prog fn.ntmps)) = some (AS.strip c_slices_Clone___impl_Lease_impl_Lease_) := by kernel_rfl
theorem r_slices_Clone___impl_Lease_impl_Lease_ : (Try.prog.funcs[n_slices_Clone___impl_Lease_impl_Lease_]?).map (fun fn => (fn.results.toList, fn.ntmps)) = some ([.tmp 2], 8) := by kernel_rfl
-- 74 loop.example/g00850/impl.AskLease
abbrev n_impl_AskLease : Nat := 74
def c_impl_AskLease : AS :=
  .seq (.ops [⟨(some 3), none, .box (.tmp 0)⟩,
    ⟨(some 6), none, .alloc (.agg #[.int .i64 0, .slice none 0 0, .slice none 0 0])⟩,
    ⟨(some 7), none, .mv (.const (.bool false))⟩])
  (.seq (.seq (.ops [⟨(some 10), none, .load (some 3) (.tmp 3)⟩,
    ⟨(some 11), none, .call 36 [(.tmp 10)]⟩,
    ⟨(some 12), none, .not (.tmp 11)⟩,
    ⟨(some 13), none, .mv (.tmp 12)⟩,
    ⟨(some 14), some (13, false), .load (some 3) (.tmp 3)⟩,
    ⟨(some 15), some (13, false), .mv (.tmp 1)⟩,
    ⟨(some 16), some (13, false), .call 71 [(.tmp 14), (.tmp 15)]⟩,
    ⟨(some 17), some (13, false), .not (.tmp 16)⟩,
    ⟨(some 18), none, .pick (.tmp 13) (.const (.bool true)) (.tmp 17)⟩,
    ⟨(some 19), none, .mv (.tmp 18)⟩,
    ⟨(some 20), some (19, false), .mv (.tmp 2)⟩,
    ⟨(some 21), some (19, false), .call 51 [(.tmp 20), (.const (.int .i64 1)), (.const (.int .i64 100))]⟩,
    ⟨(some 22), some (19, false), .not (.tmp 21)⟩,
    ⟨(some 23), none, .pick (.tmp 19) (.const (.bool true)) (.tmp 22)⟩,
    ⟨(some 24), none, .mv (.tmp 23)⟩,
    ⟨(some 25), some (24, false), .load (some 3) (.tmp 3)⟩,
    ⟨(some 26), some (24, false), .mv (.tmp 1)⟩,
    ⟨(some 27), some (24, false), .call 96 [(.tmp 25), (.tmp 26)]⟩,
    ⟨(some 28), some (24, false), .bin .gtr (.tmp 27) (.const (.int .i64 0))⟩,
    ⟨(some 29), none, .pick (.tmp 24) (.const (.bool true)) (.tmp 28)⟩])
  (.kept [1, 2, 3, 6, 29] (.cond (.tmp 29) (.seq (.ops [⟨(some 30), none, .build (.agg #[.int .i64 0, .slice none 0 0, .slice none 0 0]) []⟩,
    ⟨none, none, .store 3 (.tmp 6) (.tmp 30)⟩,
    ⟨(some 7), none, .mv (.const (.bool false))⟩])
  (.ret)) (.skip))))
  (.kept [1, 2, 3, 6] (.seq (.ops [⟨(some 31), none, .load (some 3) (.tmp 3)⟩,
    ⟨(some 32), none, .call 37 [(.tmp 31)]⟩,
    ⟨(some 8), none, .alloc (.agg #[.int .i64 0, .slice none 0 0, .slice none 0 0])⟩,
    ⟨none, none, .store 3 (.tmp 8) (.tmp 32)⟩])
  (.seq (.ops [⟨(some 33), none, .load (some 3) (.tmp 3)⟩,
    ⟨(some 34), none, .mv (.tmp 1)⟩,
    ⟨(some 35), none, .call 97 [(.tmp 33), (.tmp 34)]⟩,
    ⟨(some 9), none, .alloc (.agg #[.int .i64 0, .int .i64 0])⟩,
    ⟨none, none, .store 2 (.tmp 9) (.tmp 35)⟩])
  (.seq (.ops [⟨(some 36), none, .fa 2 (.tmp 8)⟩,
    ⟨(some 37), none, .load none (.tmp 36)⟩,
    ⟨(some 38), none, .mv (.tmp 1)⟩,
    ⟨(some 39), none, .fa 0 (.tmp 9)⟩,
    ⟨(some 40), none, .load none (.tmp 39)⟩,
    ⟨(some 41), none, .fa 1 (.tmp 9)⟩,
    ⟨(some 42), none, .load none (.tmp 41)⟩,
    ⟨(some 43), none, .mv (.tmp 2)⟩,
    ⟨(some 44), none, .bin .add (.tmp 42) (.tmp 43)⟩,
    ⟨(some 45), none, .build (.agg #[.int .i64 0, .int .i64 0, .int .i64 0]) [(0, 1, (.tmp 38)), (1, 1, (.tmp 40)), (2, 1, (.tmp 44))]⟩,
    ⟨(some 46), none, .bsl 3 (.agg #[.int .i64 0, .int .i64 0, .int .i64 0]) 1 [(0, (.tmp 45))]⟩,
    ⟨(some 47), none, .app 3 24 (.agg #[.int .i64 0, .int .i64 0, .int .i64 0]) (.tmp 37) (.tmp 46)⟩,
    ⟨(some 48), none, .fa 2 (.tmp 8)⟩,
    ⟨none, none, .store 1 (.tmp 48) (.tmp 47)⟩])
  (.kept [6, 8] (.seq (.ops [⟨(some 49), none, .load (some 3) (.tmp 8)⟩,
    ⟨(some 50), none, .call 98 [(.tmp 49)]⟩,
    ⟨(some 51), none, .ext 0 (.tmp 50)⟩,
    ⟨(some 52), none, .ext 1 (.tmp 50)⟩,
    ⟨none, none, .store 3 (.tmp 6) (.tmp 51)⟩,
    ⟨(some 7), none, .mv (.tmp 52)⟩])
  (.ret))))))))
theorem h_impl_AskLease : (Try.prog.funcs[n_impl_AskLease]?).bind (fun fn => fn.body.bind (comp Try.prog fn.ntmps)) = some (AS.strip c_impl_AskLease) := by kernel_rfl
theorem r_impl_AskLease : (Try.prog.funcs[n_impl_AskLease]?).map (fun fn => (fn.results.toList, fn.ntmps)) = some ([.cell 6 44, .tmp 7], 53) := by kernel_rfl
-- 75 loop.example/g00850/impl.PassTime
abbrev n_impl_PassTime : Nat := 75
def c_impl_PassTime : AS :=
  .seq (.ops [⟨(some 2), none, .box (.tmp 0)⟩,
    ⟨(some 4), none, .alloc (.agg #[.int .i64 0, .slice none 0 0, .slice none 0 0])⟩,
    ⟨(some 5), none, .mv (.const (.bool false))⟩])
  (.seq (.seq (.ops [⟨(some 7), none, .load (some 3) (.tmp 2)⟩,
    ⟨(some 8), none, .call 36 [(.tmp 7)]⟩,
    ⟨(some 9), none, .not (.tmp 8)⟩,
    ⟨(some 10), none, .mv (.tmp 9)⟩,
    ⟨(some 11), some (10, false), .mv (.tmp 1)⟩,
    ⟨(some 12), some (10, false), .call 67 [(.tmp 11)]⟩,
    ⟨(some 13), some (10, false), .not (.tmp 12)⟩,
    ⟨(some 14), none, .pick (.tmp 10) (.const (.bool true)) (.tmp 13)⟩])
  (.kept [1, 2, 4, 14] (.cond (.tmp 14) (.seq (.ops [⟨(some 15), none, .build (.agg #[.int .i64 0, .slice none 0 0, .slice none 0 0]) []⟩,
    ⟨none, none, .store 3 (.tmp 4) (.tmp 15)⟩,
    ⟨(some 5), none, .mv (.const (.bool false))⟩])
  (.ret)) (.skip))))
  (.kept [1, 2, 4] (.seq (.ops [⟨(some 16), none, .load (some 3) (.tmp 2)⟩,
    ⟨(some 17), none, .call 37 [(.tmp 16)]⟩,
    ⟨(some 6), none, .alloc (.agg #[.int .i64 0, .slice none 0 0, .slice none 0 0])⟩,
    ⟨none, none, .store 3 (.tmp 6) (.tmp 17)⟩])
  (.seq (.ops [⟨(some 18), none, .fa 0 (.tmp 6)⟩,
    ⟨(some 19), none, .load none (.tmp 18)⟩,
    ⟨(some 20), none, .mv (.tmp 1)⟩,
    ⟨(some 21), none, .bin .add (.tmp 19) (.tmp 20)⟩,
    ⟨(some 22), none, .fa 0 (.tmp 6)⟩,
    ⟨none, none, .store 1 (.tmp 22) (.tmp 21)⟩])
  (.seq (.ops [⟨(some 23), none, .load (some 3) (.tmp 6)⟩,
    ⟨(some 24), none, .call 98 [(.tmp 23)]⟩,
    ⟨(some 25), none, .ext 0 (.tmp 24)⟩,
    ⟨(some 26), none, .ext 1 (.tmp 24)⟩,
    ⟨none, none, .store 3 (.tmp 4) (.tmp 25)⟩,
    ⟨(some 5), none, .mv (.tmp 26)⟩])
  (.ret))))))
theorem h_impl_PassTime : (Try.prog.funcs[n_impl_PassTime]?).bind (fun fn => fn.body.bind (comp Try.prog fn.ntmps)) = some (AS.strip c_impl_PassTime) := by kernel_rfl
theorem r_impl_PassTime : (Try.prog.funcs[n_impl_PassTime]?).map (fun fn => (fn.results.toList, fn.ntmps)) = some ([.cell 4 44, .tmp 5], 27) := by kernel_rfl
-- 76 loop.example/g00850/impl.DriftTo
abbrev n_impl_DriftTo : Nat := 76
def c_impl_DriftTo : AS :=
  .seq (.ops [⟨(some 3), none, .box (.tmp 0)⟩,
    ⟨(some 6), none, .alloc (.agg #[.int .i64 0, .slice none 0 0, .slice none 0 0])⟩,
    ⟨(some 7), none, .mv (.const (.bool false))⟩])
  (.seq (.seq (.ops [⟨(some 9), none, .load (some 3) (.tmp 3)⟩,
    ⟨(some 10), none, .call 36 [(.tmp 9)]⟩,
    ⟨(some 11), none, .not (.tmp 10)⟩,
    ⟨(some 12), none, .mv (.tmp 11)⟩,
    ⟨(some 13), some (12, false), .load (some 3) (.tmp 3)⟩,
    ⟨(some 14), some (12, false), .mv (.tmp 1)⟩,
    ⟨(some 15), some (12, false), .call 71 [(.tmp 13), (.tmp 14)]⟩,
    ⟨(some 16), some (12, false), .not (.tmp 15)⟩,
    ⟨(some 17), none, .pick (.tmp 12) (.const (.bool true)) (.tmp 16)⟩])
  (.kept [1, 2, 3, 6, 17] (.cond (.tmp 17) (.seq (.ops [⟨(some 18), none, .build (.agg #[.int .i64 0, .slice none 0 0, .slice none 0 0]) []⟩,
    ⟨none, none, .store 3 (.tmp 6) (.tmp 18)⟩,
    ⟨(some 7), none, .mv (.const (.bool false))⟩])
  (.ret)) (.skip))))
  (.kept [1, 2, 3, 6] (.seq (.ops [⟨(some 19), none, .load (some 3) (.tmp 3)⟩,
    ⟨(some 20), none, .call 37 [(.tmp 19)]⟩,
    ⟨(some 8), none, .alloc (.agg #[.int .i64 0, .slice none 0 0, .slice none 0 0])⟩,
    ⟨none, none, .store 3 (.tmp 8) (.tmp 20)⟩])
  (.seq (.ops [⟨(some 21), none, .fa 1 (.tmp 8)⟩,
    ⟨(some 22), none, .load none (.tmp 21)⟩,
    ⟨(some 23), none, .mv (.tmp 1)⟩,
    ⟨(some 24), none, .mv (.tmp 2)⟩,
    ⟨(some 25), none, .ia 1 (.tmp 22) (.tmp 23)⟩,
    ⟨(some 26), none, .fa 0 (.tmp 25)⟩,
    ⟨none, none, .store 1 (.tmp 26) (.tmp 24)⟩])
  (.kept [6, 8] (.seq (.ops [⟨(some 27), none, .load (some 3) (.tmp 8)⟩,
    ⟨(some 28), none, .call 98 [(.tmp 27)]⟩,
    ⟨(some 29), none, .ext 0 (.tmp 28)⟩,
    ⟨(some 30), none, .ext 1 (.tmp 28)⟩,
    ⟨none, none, .store 3 (.tmp 6) (.tmp 29)⟩,
    ⟨(some 7), none, .mv (.tmp 30)⟩])
  (.ret)))))))
theorem h_impl_DriftTo : (Try.prog.funcs[n_impl_DriftTo]?).bind (fun fn => fn.body.bind (comp Try.prog fn.ntmps)) = some (AS.strip c_impl_DriftTo) := by kernel_rfl
theorem r_impl_DriftTo : (Try.prog.funcs[n_impl_DriftTo]?).map (fun fn => (fn.results.toList, fn.ntmps)) = some ([.cell 6 44, .tmp 7], 31) := by kernel_rfl
-- 77 loop.example/g00850/impl.GiveBack
abbrev n_impl_GiveBack : Nat := 77
def c_impl_GiveBack_l1 : AS :=
  .seq (.ops [⟨(some 31), none, .bin .lss (.tmp 30) (.tmp 29)⟩])
  (.seq (.cond (.tmp 31) (.skip) (.exit 0))
  (.seq (.block 1 (.seq (.ops [⟨(some 32), none, .mv (.tmp 30)⟩,
    ⟨(some 33), none, .ia 3 (.tmp 28) (.tmp 30)⟩,
    ⟨(some 34), none, .load (some 3) (.tmp 33)⟩,
    ⟨(some 11), none, .alloc (.agg #[.int .i64 0, .int .i64 0, .int .i64 0])⟩,
    ⟨(some 10), none, .mv (.tmp 32)⟩,
    ⟨none, none, .store 3 (.tmp 11) (.tmp 34)⟩])
  (.seq (.ops [⟨(some 35), none, .fa 0 (.tmp 11)⟩,
    ⟨(some 36), none, .load none (.tmp 35)⟩,
    ⟨(some 37), none, .mv (.tmp 1)⟩,
    ⟨(some 38), none, .bin .eql (.tmp 36) (.tmp 37)⟩,
    ⟨(some 39), none, .mv (.tmp 38)⟩,
    ⟨(some 40), some (39, true), .fa 2 (.tmp 11)⟩,
    ⟨(some 41), some (39, true), .load none (.tmp 40)⟩,
    ⟨(some 42), some (39, true), .mv (.tmp 9)⟩,
    ⟨(some 43), some (39, true), .bin .geq (.tmp 41) (.tmp 42)⟩,
    ⟨(some 44), none, .pick (.tmp 39) (.tmp 43) (.const (.bool false))⟩])
  (.kept [1, 4, 8, 9, 10, 28, 29, 30, 44] (.cond (.tmp 44) (.ops [⟨(some 45), none, .fa 2 (.tmp 8)⟩,
    ⟨(some 46), none, .load none (.tmp 45)⟩,
    ⟨(some 47), none, .mv (.tmp 10)⟩,
    ⟨(some 48), none, .mv (.tmp 9)⟩,
    ⟨(some 49), none, .bin .sub (.tmp 48) (.const (.int .i64 1))⟩,
    ⟨(some 50), none, .ia 3 (.tmp 46) (.tmp 47)⟩,
    ⟨(some 51), none, .fa 2 (.tmp 50)⟩,
    ⟨none, none, .store 1 (.tmp 51) (.tmp 49)⟩]) (.skip))))))
  (.kept [1, 4, 8, 9, 28, 29, 30] (.ops [⟨(some 52), none, .bin .add (.tmp 30) (.const (.int .i64 1))⟩,
    ⟨(some 30), none, .mv (.tmp 52)⟩]))))
def c_impl_GiveBack : AS :=
  .seq (.ops [⟨(some 2), none, .box (.tmp 0)⟩,
    ⟨(some 4), none, .alloc (.agg #[.int .i64 0, .slice none 0 0, .slice none 0 0])⟩,
    ⟨(some 5), none, .mv (.const (.bool false))⟩])
  (.seq (.seq (.ops [⟨(some 13), none, .load (some 3) (.tmp 2)⟩,
    ⟨(some 14), none, .mv (.tmp 1)⟩,
    ⟨(some 15), none, .call 99 [(.tmp 13), (.tmp 14)]⟩,
    ⟨(some 12), none, .mv (.tmp 15)⟩,
    ⟨(some 16), none, .ext 0 (.tmp 12)⟩,
    ⟨(some 17), none, .ext 1 (.tmp 12)⟩,
    ⟨(some 6), none, .mv (.tmp 16)⟩,
    ⟨(some 7), none, .mv (.tmp 17)⟩])
  (.kept [1, 2, 4, 6] (.seq (.ops [⟨(some 18), none, .mv (.tmp 6)⟩,
    ⟨(some 19), none, .not (.tmp 18)⟩])
  (.cond (.tmp 19) (.seq (.ops [⟨(some 20), none, .build (.agg #[.int .i64 0, .slice none 0 0, .slice none 0 0]) []⟩,
    ⟨none, none, .store 3 (.tmp 4) (.tmp 20)⟩,
    ⟨(some 5), none, .mv (.const (.bool false))⟩])
  (.ret)) (.skip)))))
  (.kept [1, 2, 4] (.seq (.ops [⟨(some 21), none, .load (some 3) (.tmp 2)⟩,
    ⟨(some 22), none, .call 37 [(.tmp 21)]⟩,
    ⟨(some 8), none, .alloc (.agg #[.int .i64 0, .slice none 0 0, .slice none 0 0])⟩,
    ⟨none, none, .store 3 (.tmp 8) (.tmp 22)⟩])
  (.seq (.ops [⟨(some 23), none, .load (some 3) (.tmp 2)⟩,
    ⟨(some 24), none, .mv (.tmp 1)⟩,
    ⟨(some 25), none, .call 97 [(.tmp 23), (.tmp 24)]⟩,
    ⟨(some 26), none, .fld 0 none (.tmp 25)⟩,
    ⟨(some 9), none, .mv (.tmp 26)⟩])
  (.seq (.seq (.ops [⟨(some 27), none, .fa 2 (.tmp 8)⟩,
    ⟨(some 28), none, .load none (.tmp 27)⟩,
    ⟨(some 29), none, .lens (.tmp 28)⟩,
    ⟨(some 30), none, .mv (.const (.int .i64 0))⟩])
  (.block 0 (.loop 2 [(1, 0), (4, 0), (8, 0), (9, 0), (28, 0), (29, 0), (30, 0)] c_impl_GiveBack_l1)))
  (.kept [4, 8] (.seq (.ops [⟨(some 53), none, .load (some 3) (.tmp 8)⟩,
    ⟨(some 54), none, .call 98 [(.tmp 53)]⟩,
    ⟨(some 55), none, .ext 0 (.tmp 54)⟩,
    ⟨(some 56), none, .ext 1 (.tmp 54)⟩,
    ⟨none, none, .store 3 (.tmp 4) (.tmp 55)⟩,
    ⟨(some 5), none, .mv (.tmp 56)⟩])
  (.ret))))))))
theorem h_impl_GiveBack : (Try.prog.funcs[n_impl_GiveBack]?).bind (fun fn => fn.body.bind (comp Try.prog fn.ntmps)) = some (AS.strip c_impl_GiveBack) := by kernel_rfl
theorem r_impl_GiveBack : (Try.prog.funcs[n_impl_GiveBack]?).map (fun fn => (fn.results.toList, fn.ntmps)) = some ([.cell 4 44, .tmp 5], 57) := by kernel_rfl
-- 78 loop.example/g00850/laws.eqClock
abbrev n_laws_eqClock : Nat := 78
def c_laws_eqClock : AS :=
  .seq (.ops [⟨(some 2), none, .box (.tmp 0)⟩,
    ⟨(some 3), none, .box (.tmp 1)⟩,
    ⟨(some 4), none, .mv (.const (.bool false))⟩])
  (.seq (.seq (.ops [⟨(some 5), none, .fa 0 (.tmp 2)⟩,
    ⟨(some 6), none, .load none (.tmp 5)⟩,
    ⟨(some 7), none, .fa 0 (.tmp 3)⟩,
    ⟨(some 8), none, .load none (.tmp 7)⟩,
    ⟨(some 9), none, .bin .neq (.tmp 6) (.tmp 8)⟩])
  (.cond (.tmp 9) (.seq (.ops [⟨(some 4), none, .mv (.const (.bool false))⟩])
  (.ret)) (.skip)))
  (.kept [] (.seq (.ops [⟨(some 4), none, .mv (.const (.bool true))⟩])
  (.ret))))
theorem h_laws_eqClock : (Try.prog.funcs[n_laws_eqClock]?).bind (fun fn => fn.body.bind (comp Try.prog fn.ntmps)) = some (AS.strip c_laws_eqClock) := by kernel_rfl
theorem r_laws_eqClock : (Try.prog.funcs[n_laws_eqClock]?).map (fun fn => (fn.results.toList, fn.ntmps)) = some ([.tmp 4], 10) := by kernel_rfl
-- 79 loop.example/g00850/laws.eqLease
abbrev n_laws_eqLease : Nat := 79
def c_laws_eqLease : AS :=
  .seq (.ops [⟨(some 2), none, .box (.tmp 0)⟩,
    ⟨(some 3), none, .box (.tmp 1)⟩,
    ⟨(some 4), none, .mv (.const (.bool false))⟩])
  (.seq (.seq (.ops [⟨(some 5), none, .fa 0 (.tmp 2)⟩,
    ⟨(some 6), none, .load none (.tmp 5)⟩,
    ⟨(some 7), none, .fa 0 (.tmp 3)⟩,
    ⟨(some 8), none, .load none (.tmp 7)⟩,
    ⟨(some 9), none, .bin .neq (.tmp 6) (.tmp 8)⟩])
  (.cond (.tmp 9) (.seq (.ops [⟨(some 4), none, .mv (.const (.bool false))⟩])
  (.ret)) (.skip)))
  (.kept [2, 3] (.seq (.seq (.ops [⟨(some 10), none, .fa 1 (.tmp 2)⟩,
    ⟨(some 11), none, .load none (.tmp 10)⟩,
    ⟨(some 12), none, .fa 1 (.tmp 3)⟩,
    ⟨(some 13), none, .load none (.tmp 12)⟩,
    ⟨(some 14), none, .bin .neq (.tmp 11) (.tmp 13)⟩])
  (.cond (.tmp 14) (.seq (.ops [⟨(some 4), none, .mv (.const (.bool false))⟩])
  (.ret)) (.skip)))
  (.kept [2, 3] (.seq (.seq (.ops [⟨(some 15), none, .fa 2 (.tmp 2)⟩,
    ⟨(some 16), none, .load none (.tmp 15)⟩,
    ⟨(some 17), none, .fa 2 (.tmp 3)⟩,
    ⟨(some 18), none, .load none (.tmp 17)⟩,
    ⟨(some 19), none, .bin .neq (.tmp 16) (.tmp 18)⟩])
  (.cond (.tmp 19) (.seq (.ops [⟨(some 4), none, .mv (.const (.bool false))⟩])
  (.ret)) (.skip)))
  (.kept [] (.seq (.ops [⟨(some 4), none, .mv (.const (.bool true))⟩])
  (.ret))))))))
theorem h_laws_eqLease : (Try.prog.funcs[n_laws_eqLease]?).bind (fun fn => fn.body.bind (comp Try.prog fn.ntmps)) = some (AS.strip c_laws_eqLease) := by kernel_rfl
theorem r_laws_eqLease : (Try.prog.funcs[n_laws_eqLease]?).map (fun fn => (fn.results.toList, fn.ntmps)) = some ([.tmp 4], 20) := by kernel_rfl
-- 87 loop.example/g00850/spec.l10Has
abbrev n_spec_l10Has : Nat := 87
def c_spec_l10Has : AS :=
  .seq (.ops [⟨(some 2), none, .box (.tmp 0)⟩,
    ⟨(some 4), none, .mv (.const (.bool false))⟩])
  (.seq (.ops [⟨(some 5), none, .load (some 3) (.tmp 2)⟩,
    ⟨(some 6), none, .call 30 [(.tmp 5)]⟩,
    ⟨(some 7), none, .mv (.tmp 6)⟩,
    ⟨(some 8), some (7, true), .mv (.tmp 1)⟩,
    ⟨(some 9), some (7, true), .fa 1 (.tmp 2)⟩,
    ⟨(some 10), some (7, true), .load none (.tmp 9)⟩,
    ⟨(some 11), some (7, true), .lens (.tmp 10)⟩,
    ⟨(some 12), some (7, true), .bin .sub (.tmp 11) (.const (.int .i64 1))⟩,
    ⟨(some 13), some (7, true), .call 47 [(.tmp 8), (.const (.int .i64 0)), (.tmp 12)]⟩,
    ⟨(some 14), none, .pick (.tmp 7) (.tmp 13) (.const (.bool false))⟩,
    ⟨(some 4), none, .mv (.tmp 14)⟩])
  (.ret))
theorem h_spec_l10Has : (Try.prog.funcs[n_spec_l10Has]?).bind (fun fn => fn.body.bind (comp Try.prog fn.ntmps)) = some (AS.strip c_spec_l10Has) := by kernel_rfl
theorem r_spec_l10Has : (Try.prog.funcs[n_spec_l10Has]?).map (fun fn => (fn.results.toList, fn.ntmps)) = some ([.tmp 4], 15) := by kernel_rfl
-- 88 loop.example/g00850/spec.l10Free
abbrev n_spec_l10Free : Nat := 88
def c_spec_l10Free_l1 : AS :=
  .seq (.seq (.ops [⟨(some 8), none, .mv (.tmp 7)⟩,
    ⟨(some 9), none, .fa 2 (.tmp 3)⟩,
    ⟨(some 10), none, .load none (.tmp 9)⟩,
    ⟨(some 11), none, .lens (.tmp 10)⟩,
    ⟨(some 12), none, .bin .lss (.tmp 8) (.tmp 11)⟩])
  (.cond (.tmp 12) (.skip) (.exit 0)))
  (.seq (.block 1 (.seq (.ops [⟨(some 15), none, .fa 2 (.tmp 3)⟩,
    ⟨(some 16), none, .load none (.tmp 15)⟩,
    ⟨(some 17), none, .mv (.tmp 7)⟩,
    ⟨(some 18), none, .ia 3 (.tmp 16) (.tmp 17)⟩,
    ⟨(some 19), none, .fa 0 (.tmp 18)⟩,
    ⟨(some 20), none, .load none (.tmp 19)⟩,
    ⟨(some 21), none, .mv (.tmp 1)⟩,
    ⟨(some 22), none, .bin .neq (.tmp 20) (.tmp 21)⟩,
    ⟨(some 23), none, .mv (.tmp 22)⟩,
    ⟨(some 24), some (23, true), .fa 2 (.tmp 3)⟩,
    ⟨(some 25), some (23, true), .load none (.tmp 24)⟩,
    ⟨(some 26), some (23, true), .mv (.tmp 7)⟩,
    ⟨(some 27), some (23, true), .ia 3 (.tmp 25) (.tmp 26)⟩,
    ⟨(some 28), some (23, true), .fa 2 (.tmp 27)⟩,
    ⟨(some 29), some (23, true), .load none (.tmp 28)⟩,
    ⟨(some 30), some (23, true), .mv (.tmp 2)⟩,
    ⟨(some 31), some (23, true), .bin .geq (.tmp 29) (.tmp 30)⟩,
    ⟨(some 32), none, .pick (.tmp 23) (.tmp 31) (.const (.bool false))⟩])
  (.kept [1, 2, 3, 7, 32] (.cond (.tmp 32) (.seq (.ops [⟨(some 6), none, .mv (.const (.bool false))⟩])
  (.ret)) (.skip)))))
  (.kept [1, 2, 3, 7] (.ops [⟨(some 13), none, .mv (.tmp 7)⟩,
    ⟨(some 14), none, .bin .add (.tmp 13) (.const (.int .i64 1))⟩,
    ⟨(some 7), none, .mv (.tmp 14)⟩])))
def c_spec_l10Free : AS :=
  .seq (.ops [⟨(some 3), none, .box (.tmp 0)⟩,
    ⟨(some 6), none, .mv (.const (.bool false))⟩])
  (.seq (.seq (.ops [⟨(some 7), none, .mv (.const (.int .i64 0))⟩])
  (.block 0 (.loop 3 [(1, 0), (2, 0), (3, 0), (7, 0)] c_spec_l10Free_l1)))
  (.kept [] (.seq (.ops [⟨(some 6), none, .mv (.const (.bool true))⟩])
  (.ret))))
theorem h_spec_l10Free : (Try.prog.funcs[n_spec_l10Free]?).bind (fun fn => fn.body.bind (comp Try.prog fn.ntmps)) = some (AS.strip c_spec_l10Free) := by kernel_rfl
theorem r_spec_l10Free : (Try.prog.funcs[n_spec_l10Free]?).map (fun fn => (fn.results.toList, fn.ntmps)) = some ([.tmp 6], 33) := by kernel_rfl
-- 89 loop.example/g00850/spec.l10Span
abbrev n_spec_l10Span : Nat := 89
def c_spec_l10Span : AS :=
  .seq (.ops [⟨(some 2), none, .box (.tmp 0)⟩,
    ⟨(some 4), none, .alloc (.agg #[.int .i64 0, .int .i64 0])⟩])
  (.seq (.rops [(none, ⟨(some 5), none, .fa 1 (.tmp 2)⟩),
    (none, ⟨(some 6), none, .load none (.tmp 5)⟩),
    (none, ⟨(some 7), none, .mv (.tmp 1)⟩),
    (none, ⟨(some 8), none, .ia 1 (.tmp 6) (.tmp 7)⟩),
    (none, ⟨(some 9), none, .load (some 1) (.tmp 8)⟩),
    (none, ⟨(some 10), none, .fa 0 (.tmp 2)⟩),
    (none, ⟨(some 11), none, .load none (.tmp 10)⟩),
    (some [], ⟨(some 12), none, .call 108 [(.tmp 9), (.tmp 11)]⟩),
    (some [], ⟨none, none, .store 2 (.tmp 4) (.tmp 12)⟩)])
  (.ret))
theorem h_spec_l10Span : (Try.prog.funcs[n_spec_l10Span]?).bind (fun fn => fn.body.bind (comp Try.prog fn.ntmps)) = some (AS.strip c_spec_l10Span) := by kernel_rfl
theorem r_spec_l10Span : (Try.prog.funcs[n_spec_l10Span]?).map (fun fn => (fn.results.toList, fn.ntmps)) = some ([.cell 4 127], 13) := by kernel_rfl
-- 90 loop.example/g00850/spec.l10If
abbrev n_spec_l10If : Nat := 90
def c_spec_l10If : AS :=
  .seq (.ops [⟨(some 1), none, .box (.tmp 0)⟩,
    ⟨(some 2), none, .alloc (.agg #[.int .i64 0, .slice none 0 0, .slice none 0 0])⟩,
    ⟨(some 3), none, .mv (.const (.bool false))⟩])
  (.seq (.seq (.ops [⟨(some 4), none, .load (some 3) (.tmp 1)⟩,
    ⟨(some 5), none, .call 30 [(.tmp 4)]⟩,
    ⟨(some 6), none, .not (.tmp 5)⟩])
  (.cond (.tmp 6) (.seq (.ops [⟨(some 7), none, .build (.agg #[.int .i64 0, .slice none 0 0, .slice none 0 0]) []⟩,
    ⟨none, none, .store 3 (.tmp 2) (.tmp 7)⟩,
    ⟨(some 3), none, .mv (.const (.bool false))⟩])
  (.ret)) (.skip)))
  (.seq (.ops [⟨(some 8), none, .load (some 3) (.tmp 1)⟩,
    ⟨none, none, .store 3 (.tmp 2) (.tmp 8)⟩,
    ⟨(some 3), none, .mv (.const (.bool true))⟩])
  (.ret)))
theorem h_spec_l10If : (Try.prog.funcs[n_spec_l10If]?).bind (fun fn => fn.body.bind (comp Try.prog fn.ntmps)) = some (AS.strip c_spec_l10If) := by kernel_rfl
theorem r_spec_l10If : (Try.prog.funcs[n_spec_l10If]?).map (fun fn => (fn.results.toList, fn.ntmps)) = some ([.cell 2 44, .tmp 3], 9) := by kernel_rfl
-- 91 loop.example/g00850/spec.l10Holds
abbrev n_spec_l10Holds : Nat := 91
def c_spec_l10Holds_l1 : AS :=
  .seq (.seq (.ops [⟨(some 12), none, .mv (.tmp 6)⟩,
    ⟨(some 13), none, .fa 2 (.tmp 2)⟩,
    ⟨(some 14), none, .load none (.tmp 13)⟩,
    ⟨(some 15), none, .lens (.tmp 14)⟩,
    ⟨(some 16), none, .bin .lss (.tmp 12) (.tmp 15)⟩])
  (.cond (.tmp 16) (.skip) (.exit 0)))
  (.seq (.block 1 (.seq (.ops [⟨(some 19), none, .fa 2 (.tmp 2)⟩,
    ⟨(some 20), none, .load none (.tmp 19)⟩,
    ⟨(some 21), none, .mv (.tmp 6)⟩,
    ⟨(some 22), none, .ia 3 (.tmp 20) (.tmp 21)⟩,
    ⟨(some 23), none, .load (some 3) (.tmp 22)⟩,
    ⟨(some 7), none, .alloc (.agg #[.int .i64 0, .int .i64 0, .int .i64 0])⟩,
    ⟨none, none, .store 3 (.tmp 7) (.tmp 23)⟩])
  (.seq (.ops [⟨(some 24), none, .fa 0 (.tmp 7)⟩,
    ⟨(some 25), none, .load none (.tmp 24)⟩,
    ⟨(some 26), none, .mv (.tmp 1)⟩,
    ⟨(some 27), none, .bin .eql (.tmp 25) (.tmp 26)⟩,
    ⟨(some 28), none, .mv (.tmp 27)⟩,
    ⟨(some 29), some (28, true), .fa 1 (.tmp 7)⟩,
    ⟨(some 30), some (28, true), .load none (.tmp 29)⟩,
    ⟨(some 31), some (28, true), .mv (.tmp 5)⟩,
    ⟨(some 32), some (28, true), .bin .leq (.tmp 30) (.tmp 31)⟩,
    ⟨(some 33), none, .pick (.tmp 28) (.tmp 32) (.const (.bool false))⟩,
    ⟨(some 34), none, .mv (.tmp 33)⟩,
    ⟨(some 35), some (34, true), .fa 2 (.tmp 7)⟩,
    ⟨(some 36), some (34, true), .load none (.tmp 35)⟩,
    ⟨(some 37), some (34, true), .mv (.tmp 5)⟩,
    ⟨(some 38), some (34, true), .bin .geq (.tmp 36) (.tmp 37)⟩,
    ⟨(some 39), none, .pick (.tmp 34) (.tmp 38) (.const (.bool false))⟩])
  (.kept [1, 2, 5, 6, 39] (.cond (.tmp 39) (.seq (.ops [⟨(some 4), none, .mv (.const (.bool true))⟩])
  (.ret)) (.skip))))))
  (.kept [1, 2, 5, 6] (.ops [⟨(some 17), none, .mv (.tmp 6)⟩,
    ⟨(some 18), none, .bin .add (.tmp 17) (.const (.int .i64 1))⟩,
    ⟨(some 6), none, .mv (.tmp 18)⟩])))
def c_spec_l10Holds : AS :=
  .seq (.ops [⟨(some 2), none, .box (.tmp 0)⟩,
    ⟨(some 4), none, .mv (.const (.bool false))⟩])
  (.seq (.ops [⟨(some 8), none, .load (some 3) (.tmp 2)⟩,
    ⟨(some 9), none, .mv (.tmp 1)⟩,
    ⟨(some 10), none, .call 89 [(.tmp 8), (.tmp 9)]⟩,
    ⟨(some 11), none, .fld 1 none (.tmp 10)⟩,
    ⟨(some 5), none, .mv (.tmp 11)⟩])
  (.seq (.seq (.ops [⟨(some 6), none, .mv (.const (.int .i64 0))⟩])
  (.block 0 (.loop 2 [(1, 0), (2, 0), (5, 0), (6, 0)] c_spec_l10Holds_l1)))
  (.kept [] (.seq (.ops [⟨(some 4), none, .mv (.const (.bool false))⟩])
  (.ret)))))
theorem h_spec_l10Holds : (Try.prog.funcs[n_spec_l10Holds]?).bind (fun fn => fn.body.bind (comp Try.prog fn.ntmps)) = some (AS.strip c_spec_l10Holds) := by kernel_rfl
theorem r_spec_l10Holds : (Try.prog.funcs[n_spec_l10Holds]?).map (fun fn => (fn.results.toList, fn.ntmps)) = some ([.tmp 4], 40) := by kernel_rfl
-- 92 slices.ContainsFunc[[]loop.example/g00850/impl.Clock,loop.example/g00850/impl.Clock]
abbrev n_slices_ContainsFunc___impl_Clock_impl_Clock_ : Nat := 92
def c_slices_ContainsFunc___impl_Clock_impl_Clock_ : AS :=
  .seq (.ops [⟨(some 4), none, .mv (.const (.bool false))⟩])
  (.seq (.ops [⟨(some 5), none, .mv (.tmp 0)⟩,
    ⟨(some 6), none, .mv (.tmp 1)⟩,
    ⟨(some 7), none, .call 109 [(.tmp 5), (.tmp 6)]⟩,
    ⟨(some 8), none, .bin .geq (.tmp 7) (.const (.int .i64 0))⟩,
    ⟨(some 4), none, .mv (.tmp 8)⟩])
  (.ret))
theorem h_slices_ContainsFunc___impl_Clock_impl_Clock_ : (Try.prog.funcs[n_slices_ContainsFunc___impl_Clock_impl_Clock_]?).bind (fun fn => fn.body.bind (comp Try.prog fn.ntmps)) = some (AS.strip c_slices_ContainsFunc___impl_Clock_impl_Clock_) := by kernel_rfl
theorem r_slices_ContainsFunc___impl_Clock_impl_Clock_ : (Try.prog.funcs[n_slices_ContainsFunc___impl_Clock_impl_Clock_]?).map (fun fn => (fn.results.toList, fn.ntmps)) = some ([.tmp 4], 9) := by kernel_rfl
-- 93 loop.example/g00850/impl.areClocks$1
abbrev n_impl_areClocks_1 : Nat := 93
def c_impl_areClocks_1 : AS :=
  .seq (.ops [⟨(some 1), none, .box (.tmp 0)⟩,
    ⟨(some 2), none, .mv (.const (.bool false))⟩])
  (.seq (.ops [⟨(some 3), none, .load (some 1) (.tmp 1)⟩,
    ⟨(some 4), none, .call 94 [(.tmp 3)]⟩,
    ⟨(some 5), none, .not (.tmp 4)⟩,
    ⟨(some 2), none, .mv (.tmp 5)⟩])
  (.ret))
theorem h_impl_areClocks_1 : (Try.prog.funcs[n_impl_areClocks_1]?).bind (fun fn => fn.body.bind (comp Try.prog fn.ntmps)) = some (AS.strip c_impl_areClocks_1) := by kernel_rfl
theorem r_impl_areClocks_1 : (Try.prog.funcs[n_impl_areClocks_1]?).map (fun fn => (fn.results.toList, fn.ntmps)) = some ([.tmp 2], 6) := by kernel_rfl
-- 94 loop.example/g00850/impl.GoodClock
abbrev n_impl_GoodClock : Nat := 94
def c_impl_GoodClock : AS :=
  .seq (.ops [⟨(some 1), none, .box (.tmp 0)⟩,
    ⟨(some 2), none, .mv (.const (.bool false))⟩])
  (.seq (.ops [⟨(some 3), none, .fa 0 (.tmp 1)⟩,
    ⟨(some 4), none, .load none (.tmp 3)⟩,
    ⟨(some 5), none, .call 51 [(.tmp 4), (.const (.int .i64 (-5))), (.const (.int .i64 5))]⟩,
    ⟨(some 2), none, .mv (.tmp 5)⟩])
  (.ret))
theorem h_impl_GoodClock : (Try.prog.funcs[n_impl_GoodClock]?).bind (fun fn => fn.body.bind (comp Try.prog fn.ntmps)) = some (AS.strip c_impl_GoodClock) := by kernel_rfl
theorem r_impl_GoodClock : (Try.prog.funcs[n_impl_GoodClock]?).map (fun fn => (fn.results.toList, fn.ntmps)) = some ([.tmp 2], 6) := by kernel_rfl
-- 95 slices.IndexFunc[[]loop.example/g00850/impl.Lease,loop.example/g00850/impl.Lease]
abbrev n_slices_IndexFunc___impl_Lease_impl_Lease_ : Nat := 95
def c_slices_IndexFunc___impl_Lease_impl_Lease__l1 : AS :=
  .seq (.ops [⟨(some 9), none, .bin .lss (.tmp 8) (.tmp 7)⟩])
  (.seq (.cond (.tmp 9) (.skip) (.exit 0))
  (.seq (.block 1 (.seq (.ops [⟨(some 10), none, .mv (.tmp 8)⟩,
    ⟨(some 5), none, .mv (.tmp 10)⟩])
  (.seq (.ops [⟨(some 11), none, .mv (.tmp 1)⟩,
    ⟨(some 12), none, .mv (.tmp 0)⟩,
    ⟨(some 13), none, .mv (.tmp 5)⟩,
    ⟨(some 14), none, .ia 3 (.tmp 12) (.tmp 13)⟩,
    ⟨(some 15), none, .load (some 3) (.tmp 14)⟩,
    ⟨(some 16), none, .callv (.tmp 11) [(.tmp 15)]⟩])
  (.cond (.tmp 16) (.seq (.ops [⟨(some 17), none, .mv (.tmp 5)⟩,
    ⟨(some 4), none, .mv (.tmp 17)⟩])
  (.ret)) (.skip)))))
  (.kept [0, 1, 7, 8] (.ops [⟨(some 18), none, .bin .add (.tmp 8) (.const (.int .i64 1))⟩,
    ⟨(some 8), none, .mv (.tmp 18)⟩]))))
def c_slices_IndexFunc___impl_Lease_impl_Lease_ : AS :=
  .seq (.ops [⟨(some 4), none, .mv (.const (.int .i64 0))⟩])
  (.seq (.seq (.ops [⟨(some 6), none, .mv (.tmp 0)⟩,
    ⟨(some 7), none, .lens (.tmp 6)⟩,
    ⟨(some 8), none, .mv (.const (.int .i64 0))⟩])
  (.block 0 (.loop 2 [(0, 0), (1, 0), (7, 0), (8, 0)] c_slices_IndexFunc___impl_Lease_impl_Lease__l1)))
  (.kept [] (.seq (.ops [⟨(some 4), none, .mv (.const (.int .i64 (-1)))⟩])
  (.ret))))
theorem h_slices_IndexFunc___impl_Lease_impl_Lease_ : (Try.prog.funcs[n_slices_IndexFunc___impl_Lease_impl_Lease_]?).bind (fun fn => fn.body.bind (comp Try.prog fn.ntmps)) = some (AS.strip c_slices_IndexFunc___impl_Lease_impl_Lease_) := by kernel_rfl
theorem r_slices_IndexFunc___impl_Lease_impl_Lease_ : (Try.prog.funcs[n_slices_IndexFunc___impl_Lease_impl_Lease_]?).map (fun fn => (fn.results.toList, fn.ntmps)) = some ([.tmp 4], 19) := by kernel_rfl
-- 96 (loop.example/g00850/impl.Watch).wait
abbrev n_impl_Watch_wait : Nat := 96
def c_impl_Watch_wait_l1 : AS :=
  .seq (.ops [⟨(some 12), none, .bin .lss (.tmp 11) (.tmp 10)⟩])
  (.seq (.cond (.tmp 12) (.skip) (.exit 0))
  (.seq (.block 1 (.seq (.ops [⟨(some 13), none, .ia 3 (.tmp 9) (.tmp 11)⟩,
    ⟨(some 14), none, .load (some 3) (.tmp 13)⟩,
    ⟨(some 7), none, .alloc (.agg #[.int .i64 0, .int .i64 0, .int .i64 0])⟩,
    ⟨none, none, .store 3 (.tmp 7) (.tmp 14)⟩])
  (.seq (.ops [⟨(some 15), none, .fa 0 (.tmp 7)⟩,
    ⟨(some 16), none, .load none (.tmp 15)⟩,
    ⟨(some 17), none, .mv (.tmp 1)⟩,
    ⟨(some 18), none, .bin .neq (.tmp 16) (.tmp 17)⟩])
  (.cond (.tmp 18) (.tops [(1, 0), (2, 0), (5, 0), (9, 0), (10, 0), (11, 0)] (.rd ⟨(some 19), none, .mv (.tmp 5)⟩ (.rd ⟨(some 20), none, .fa 2 (.tmp 7)⟩ (.rd ⟨(some 21), none, .load none (.tmp 20)⟩ (.rd ⟨(some 22), none, .bin .add (.tmp 21) (.const (.int .i64 1))⟩ (.rd ⟨(some 23), none, .load (some 3) (.tmp 2)⟩ (.rd ⟨(some 24), none, .mv (.tmp 1)⟩ (.alt [⟨(some 22), none, .bin .add (.tmp 21) (.const (.int .i64 1))⟩, ⟨(some 21), none, .load none (.tmp 20)⟩, ⟨(some 20), none, .fa 2 (.tmp 7)⟩, ⟨(some 19), none, .mv (.tmp 5)⟩] ⟨(some 25), none, .call 97 [(.tmp 23), (.tmp 24)]⟩
    (.rd ⟨(some 26), none, .fld 0 none (.tmp 25)⟩ (.rd ⟨(some 27), none, .bin .sub (.tmp 22) (.tmp 26)⟩ (.rd ⟨(some 28), none, .bmax [(.tmp 19), (.tmp 27)]⟩ (.alt [] ⟨(some 5), none, .mv (.tmp 28)⟩
    (.done)
    (.none)))))
    (.none))))))))) (.skip)))))
  (.kept [1, 2, 5, 9, 10, 11] (.ops [⟨(some 29), none, .bin .add (.tmp 11) (.const (.int .i64 1))⟩,
    ⟨(some 11), none, .mv (.tmp 29)⟩]))))
def c_impl_Watch_wait : AS :=
  .seq (.ops [⟨(some 2), none, .box (.tmp 0)⟩,
    ⟨(some 4), none, .mv (.const (.int .i64 0))⟩])
  (.seq (.ops [⟨(some 5), none, .mv (.const (.int .i64 0))⟩])
  (.seq (.seq (.ops [⟨(some 8), none, .fa 2 (.tmp 2)⟩,
    ⟨(some 9), none, .load none (.tmp 8)⟩,
    ⟨(some 10), none, .lens (.tmp 9)⟩,
    ⟨(some 11), none, .mv (.const (.int .i64 0))⟩])
  (.block 0 (.loop 2 [(1, 0), (2, 0), (5, 0), (9, 0), (10, 0), (11, 0)] c_impl_Watch_wait_l1)))
  (.kept [5] (.seq (.ops [⟨(some 30), none, .mv (.tmp 5)⟩,
    ⟨(some 4), none, .mv (.tmp 30)⟩])
  (.ret)))))
theorem h_impl_Watch_wait : (Try.prog.funcs[n_impl_Watch_wait]?).bind (fun fn => fn.body.bind (comp Try.prog fn.ntmps)) = some (AS.strip c_impl_Watch_wait) := by kernel_rfl
theorem r_impl_Watch_wait : (Try.prog.funcs[n_impl_Watch_wait]?).map (fun fn => (fn.results.toList, fn.ntmps)) = some ([.tmp 4], 31) := by kernel_rfl
-- 97 (loop.example/g00850/impl.Watch).span
abbrev n_impl_Watch_span : Nat := 97
def c_impl_Watch_span : AS :=
  .seq (.ops [⟨(some 2), none, .box (.tmp 0)⟩,
    ⟨(some 4), none, .alloc (.agg #[.int .i64 0, .int .i64 0])⟩])
  (.seq (.rops [(none, ⟨(some 5), none, .fa 1 (.tmp 2)⟩),
    (none, ⟨(some 6), none, .load none (.tmp 5)⟩),
    (none, ⟨(some 7), none, .mv (.tmp 1)⟩),
    (none, ⟨(some 8), none, .ia 1 (.tmp 6) (.tmp 7)⟩),
    (none, ⟨(some 9), none, .load (some 1) (.tmp 8)⟩),
    (none, ⟨(some 10), none, .fa 0 (.tmp 2)⟩),
    (none, ⟨(some 11), none, .load none (.tmp 10)⟩),
    (some [], ⟨(some 12), none, .call 110 [(.tmp 9), (.tmp 11)]⟩),
    (some [], ⟨none, none, .store 2 (.tmp 4) (.tmp 12)⟩)])
  (.ret))
theorem h_impl_Watch_span : (Try.prog.funcs[n_impl_Watch_span]?).bind (fun fn => fn.body.bind (comp Try.prog fn.ntmps)) = some (AS.strip c_impl_Watch_span) := by kernel_rfl
theorem r_impl_Watch_span : (Try.prog.funcs[n_impl_Watch_span]?).map (fun fn => (fn.results.toList, fn.ntmps)) = some ([.cell 4 127], 13) := by kernel_rfl
-- 98 loop.example/g00850/impl.ifWatch
abbrev n_impl_ifWatch : Nat := 98
def c_impl_ifWatch : AS :=
  .seq (.ops [⟨(some 1), none, .box (.tmp 0)⟩,
    ⟨(some 2), none, .alloc (.agg #[.int .i64 0, .slice none 0 0, .slice none 0 0])⟩,
    ⟨(some 3), none, .mv (.const (.bool false))⟩])
  (.seq (.seq (.ops [⟨(some 4), none, .load (some 3) (.tmp 1)⟩,
    ⟨(some 5), none, .call 36 [(.tmp 4)]⟩,
    ⟨(some 6), none, .not (.tmp 5)⟩])
  (.cond (.tmp 6) (.seq (.ops [⟨(some 7), none, .build (.agg #[.int .i64 0, .slice none 0 0, .slice none 0 0]) []⟩,
    ⟨none, none, .store 3 (.tmp 2) (.tmp 7)⟩,
    ⟨(some 3), none, .mv (.const (.bool false))⟩])
  (.ret)) (.skip)))
  (.seq (.ops [⟨(some 8), none, .load (some 3) (.tmp 1)⟩,
    ⟨none, none, .store 3 (.tmp 2) (.tmp 8)⟩,
    ⟨(some 3), none, .mv (.const (.bool true))⟩])
  (.ret)))
theorem h_impl_ifWatch : (Try.prog.funcs[n_impl_ifWatch]?).bind (fun fn => fn.body.bind (comp Try.prog fn.ntmps)) = some (AS.strip c_impl_ifWatch) := by kernel_rfl
theorem r_impl_ifWatch : (Try.prog.funcs[n_impl_ifWatch]?).map (fun fn => (fn.results.toList, fn.ntmps)) = some ([.cell 2 44, .tmp 3], 9) := by kernel_rfl
-- 99 loop.example/g00850/impl.HoldsLease
abbrev n_impl_HoldsLease : Nat := 99
def c_impl_HoldsLease : AS :=
  .seq (.ops [⟨(some 2), none, .box (.tmp 0)⟩,
    ⟨(some 4), none, .mv (.const (.bool false))⟩,
    ⟨(some 5), none, .mv (.const (.bool false))⟩])
  (.seq (.seq (.ops [⟨(some 6), none, .load (some 3) (.tmp 2)⟩,
    ⟨(some 7), none, .call 36 [(.tmp 6)]⟩,
    ⟨(some 8), none, .not (.tmp 7)⟩,
    ⟨(some 9), none, .mv (.tmp 8)⟩,
    ⟨(some 10), some (9, false), .load (some 3) (.tmp 2)⟩,
    ⟨(some 11), some (9, false), .mv (.tmp 1)⟩,
    ⟨(some 12), some (9, false), .call 71 [(.tmp 10), (.tmp 11)]⟩,
    ⟨(some 13), some (9, false), .not (.tmp 12)⟩,
    ⟨(some 14), none, .pick (.tmp 9) (.const (.bool true)) (.tmp 13)⟩])
  (.kept [1, 2, 14] (.cond (.tmp 14) (.seq (.ops [⟨(some 4), none, .mv (.const (.bool false))⟩,
    ⟨(some 5), none, .mv (.const (.bool false))⟩])
  (.ret)) (.skip))))
  (.kept [1, 2] (.seq (.ops [⟨(some 15), none, .load (some 3) (.tmp 2)⟩,
    ⟨(some 16), none, .mv (.tmp 1)⟩,
    ⟨(some 17), none, .call 111 [(.tmp 15), (.tmp 16)]⟩,
    ⟨(some 4), none, .mv (.tmp 17)⟩,
    ⟨(some 5), none, .mv (.const (.bool true))⟩])
  (.ret))))
theorem h_impl_HoldsLease : (Try.prog.funcs[n_impl_HoldsLease]?).bind (fun fn => fn.body.bind (comp Try.prog fn.ntmps)) = some (AS.strip c_impl_HoldsLease) := by kernel_rfl
theorem r_impl_HoldsLease : (Try.prog.funcs[n_impl_HoldsLease]?).map (fun fn => (fn.results.toList, fn.ntmps)) = some ([.tmp 4, .tmp 5], 18) := by kernel_rfl
-- 108 loop.example/g00850/spec.l2At
abbrev n_spec_l2At : Nat := 108
def c_spec_l2At : AS :=
  .seq (.ops [⟨(some 2), none, .box (.tmp 0)⟩,
    ⟨(some 4), none, .alloc (.agg #[.int .i64 0, .int .i64 0])⟩])
  (.seq (.ops [⟨(some 5), none, .mv (.tmp 1)⟩,
    ⟨(some 6), none, .fa 0 (.tmp 2)⟩,
    ⟨(some 7), none, .load none (.tmp 6)⟩,
    ⟨(some 8), none, .bin .add (.tmp 5) (.tmp 7)⟩,
    ⟨(some 9), none, .bin .sub (.tmp 8) (.const (.int .i64 5))⟩,
    ⟨(some 10), none, .mv (.tmp 1)⟩,
    ⟨(some 11), none, .fa 0 (.tmp 2)⟩,
    ⟨(some 12), none, .load none (.tmp 11)⟩,
    ⟨(some 13), none, .bin .add (.tmp 10) (.tmp 12)⟩,
    ⟨(some 14), none, .bin .add (.tmp 13) (.const (.int .i64 5))⟩,
    ⟨(some 15), none, .build (.agg #[.int .i64 0, .int .i64 0]) [(0, 1, (.tmp 9)), (1, 1, (.tmp 14))]⟩,
    ⟨none, none, .store 2 (.tmp 4) (.tmp 15)⟩])
  (.ret))
theorem h_spec_l2At : (Try.prog.funcs[n_spec_l2At]?).bind (fun fn => fn.body.bind (comp Try.prog fn.ntmps)) = some (AS.strip c_spec_l2At) := by kernel_rfl
theorem r_spec_l2At : (Try.prog.funcs[n_spec_l2At]?).map (fun fn => (fn.results.toList, fn.ntmps)) = some ([.cell 4 127], 16) := by kernel_rfl
-- 109 slices.IndexFunc[[]loop.example/g00850/impl.Clock,loop.example/g00850/impl.Clock]
abbrev n_slices_IndexFunc___impl_Clock_impl_Clock_ : Nat := 109
def c_slices_IndexFunc___impl_Clock_impl_Clock__l1 : AS :=
  .seq (.ops [⟨(some 9), none, .bin .lss (.tmp 8) (.tmp 7)⟩])
  (.seq (.cond (.tmp 9) (.skip) (.exit 0))
  (.seq (.block 1 (.seq (.ops [⟨(some 10), none, .mv (.tmp 8)⟩,
    ⟨(some 5), none, .mv (.tmp 10)⟩])
  (.seq (.ops [⟨(some 11), none, .mv (.tmp 1)⟩,
    ⟨(some 12), none, .mv (.tmp 0)⟩,
    ⟨(some 13), none, .mv (.tmp 5)⟩,
    ⟨(some 14), none, .ia 1 (.tmp 12) (.tmp 13)⟩,
    ⟨(some 15), none, .load (some 1) (.tmp 14)⟩,
    ⟨(some 16), none, .callv (.tmp 11) [(.tmp 15)]⟩])
  (.cond (.tmp 16) (.seq (.ops [⟨(some 17), none, .mv (.tmp 5)⟩,
    ⟨(some 4), none, .mv (.tmp 17)⟩])
  (.ret)) (.skip)))))
  (.kept [0, 1, 7, 8] (.ops [⟨(some 18), none, .bin .add (.tmp 8) (.const (.int .i64 1))⟩,
    ⟨(some 8), none, .mv (.tmp 18)⟩]))))
def c_slices_IndexFunc___impl_Clock_impl_Clock_ : AS :=
  .seq (.ops [⟨(some 4), none, .mv (.const (.int .i64 0))⟩])
  (.seq (.seq (.ops [⟨(some 6), none, .mv (.tmp 0)⟩,
    ⟨(some 7), none, .lens (.tmp 6)⟩,
    ⟨(some 8), none, .mv (.const (.int .i64 0))⟩])
  (.block 0 (.loop 2 [(0, 0), (1, 0), (7, 0), (8, 0)] c_slices_IndexFunc___impl_Clock_impl_Clock__l1)))
  (.kept [] (.seq (.ops [⟨(some 4), none, .mv (.const (.int .i64 (-1)))⟩])
  (.ret))))
theorem h_slices_IndexFunc___impl_Clock_impl_Clock_ : (Try.prog.funcs[n_slices_IndexFunc___impl_Clock_impl_Clock_]?).bind (fun fn => fn.body.bind (comp Try.prog fn.ntmps)) = some (AS.strip c_slices_IndexFunc___impl_Clock_impl_Clock_) := by kernel_rfl
theorem r_slices_IndexFunc___impl_Clock_impl_Clock_ : (Try.prog.funcs[n_slices_IndexFunc___impl_Clock_impl_Clock_]?).map (fun fn => (fn.results.toList, fn.ntmps)) = some ([.tmp 4], 19) := by kernel_rfl
-- 110 (loop.example/g00850/impl.Clock).span
abbrev n_impl_Clock_span : Nat := 110
def c_impl_Clock_span : AS :=
  .seq (.ops [⟨(some 2), none, .box (.tmp 0)⟩,
    ⟨(some 4), none, .alloc (.agg #[.int .i64 0, .int .i64 0])⟩])
  (.seq (.ops [⟨(some 5), none, .mv (.tmp 1)⟩,
    ⟨(some 6), none, .fa 0 (.tmp 2)⟩,
    ⟨(some 7), none, .load none (.tmp 6)⟩,
    ⟨(some 8), none, .bin .add (.tmp 5) (.tmp 7)⟩,
    ⟨(some 9), none, .bin .sub (.tmp 8) (.const (.int .i64 5))⟩,
    ⟨(some 10), none, .mv (.tmp 1)⟩,
    ⟨(some 11), none, .fa 0 (.tmp 2)⟩,
    ⟨(some 12), none, .load none (.tmp 11)⟩,
    ⟨(some 13), none, .bin .add (.tmp 10) (.tmp 12)⟩,
    ⟨(some 14), none, .bin .add (.tmp 13) (.const (.int .i64 5))⟩,
    ⟨(some 15), none, .build (.agg #[.int .i64 0, .int .i64 0]) [(0, 1, (.tmp 9)), (1, 1, (.tmp 14))]⟩,
    ⟨none, none, .store 2 (.tmp 4) (.tmp 15)⟩])
  (.ret))
theorem h_impl_Clock_span : (Try.prog.funcs[n_impl_Clock_span]?).bind (fun fn => fn.body.bind (comp Try.prog fn.ntmps)) = some (AS.strip c_impl_Clock_span) := by kernel_rfl
theorem r_impl_Clock_span : (Try.prog.funcs[n_impl_Clock_span]?).map (fun fn => (fn.results.toList, fn.ntmps)) = some ([.cell 4 127], 16) := by kernel_rfl
-- 111 (loop.example/g00850/impl.Watch).holds
abbrev n_impl_Watch_holds : Nat := 111
def c_impl_Watch_holds : AS :=
  .seq (.ops [⟨(some 2), none, .box (.tmp 0)⟩,
    ⟨(some 3), none, .box (.tmp 1)⟩,
    ⟨(some 4), none, .mv (.const (.bool false))⟩])
  (.seq (.ops [⟨(some 6), none, .load (some 3) (.tmp 2)⟩,
    ⟨(some 7), none, .load none (.tmp 3)⟩,
    ⟨(some 8), none, .call 97 [(.tmp 6), (.tmp 7)]⟩,
    ⟨(some 9), none, .fld 1 none (.tmp 8)⟩,
    ⟨(some 5), none, .alloc (.int .i64 0)⟩,
    ⟨none, none, .store 1 (.tmp 5) (.tmp 9)⟩])
  (.seq (.ops [⟨(some 10), none, .fa 2 (.tmp 2)⟩,
    ⟨(some 11), none, .load none (.tmp 10)⟩,
    ⟨(some 12), none, .mkf 123 [(.tmp 3), (.tmp 5)]⟩,
    ⟨(some 13), none, .call 69 [(.tmp 11), (.tmp 12)]⟩,
    ⟨(some 4), none, .mv (.tmp 13)⟩])
  (.ret)))
theorem h_impl_Watch_holds : (Try.prog.funcs[n_impl_Watch_holds]?).bind (fun fn => fn.body.bind (comp Try.prog fn.ntmps)) = some (AS.strip c_impl_Watch_holds) := by kernel_rfl
theorem r_impl_Watch_holds : (Try.prog.funcs[n_impl_Watch_holds]?).map (fun fn => (fn.results.toList, fn.ntmps)) = some ([.tmp 4], 14) := by kernel_rfl
-- 123 (loop.example/g00850/impl.Watch).holds$1
abbrev n_impl_Watch_holds_1 : Nat := 123
def c_impl_Watch_holds_1 : AS :=
  .seq (.ops [⟨(some 3), none, .box (.tmp 0)⟩,
    ⟨(some 4), none, .mv (.const (.bool false))⟩])
  (.seq (.ops [⟨(some 5), none, .fa 0 (.tmp 3)⟩,
    ⟨(some 6), none, .load none (.tmp 5)⟩,
    ⟨(some 7), none, .load none (.tmp 1)⟩,
    ⟨(some 8), none, .bin .eql (.tmp 6) (.tmp 7)⟩,
    ⟨(some 9), none, .mv (.tmp 8)⟩,
    ⟨(some 10), some (9, true), .fa 1 (.tmp 3)⟩,
    ⟨(some 11), some (9, true), .load none (.tmp 10)⟩,
    ⟨(some 12), some (9, true), .load none (.tmp 2)⟩,
    ⟨(some 13), some (9, true), .bin .leq (.tmp 11) (.tmp 12)⟩,
    ⟨(some 14), none, .pick (.tmp 9) (.tmp 13) (.const (.bool false))⟩,
    ⟨(some 15), none, .mv (.tmp 14)⟩,
    ⟨(some 16), some (15, true), .load none (.tmp 2)⟩,
    ⟨(some 17), some (15, true), .fa 2 (.tmp 3)⟩,
    ⟨(some 18), some (15, true), .load none (.tmp 17)⟩,
    ⟨(some 19), some (15, true), .bin .leq (.tmp 16) (.tmp 18)⟩,
    ⟨(some 20), none, .pick (.tmp 15) (.tmp 19) (.const (.bool false))⟩,
    ⟨(some 4), none, .mv (.tmp 20)⟩])
  (.ret))
theorem h_impl_Watch_holds_1 : (Try.prog.funcs[n_impl_Watch_holds_1]?).bind (fun fn => fn.body.bind (comp Try.prog fn.ntmps)) = some (AS.strip c_impl_Watch_holds_1) := by kernel_rfl
theorem r_impl_Watch_holds_1 : (Try.prog.funcs[n_impl_Watch_holds_1]?).map (fun fn => (fn.results.toList, fn.ntmps)) = some ([.tmp 4], 21) := by kernel_rfl

end Go.Proofs.Wb

/- The compiled statements of the functions that the law reaches. -/
import Derived.Test.YtjchgajhlpognaaProg
import Derived.Test.YtjchgajhlpognaaAmAuto
import Derived.Test.YtjchgajhlpognaaAmSet
namespace Go.Proofs.Wb
open Go Go.Am
@[go_sem] theorem w_7 : wide Try.prog 7 = some (some 4) := by kernel_rfl
@[go_sem] theorem w_8 : wide Try.prog 8 = some (some 4) := by kernel_rfl
@[go_sem] theorem w_13 : wide Try.prog 13 = some (some 2) := by kernel_rfl
@[go_sem] theorem w_14 : wide Try.prog 14 = some (some 2) := by kernel_rfl
@[go_sem] theorem w_18 : wide Try.prog 18 = some (some 1) := by kernel_rfl
@[go_sem] theorem w_19 : wide Try.prog 19 = some (some 1) := by kernel_rfl
@[go_sem] theorem w_26 : wide Try.prog 26 = some (some 3) := by kernel_rfl
@[go_sem] theorem w_27 : wide Try.prog 27 = some (some 3) := by kernel_rfl
@[go_sem] theorem w_44 : wide Try.prog 44 = some (some 2) := by kernel_rfl
@[go_sem] theorem w_45 : wide Try.prog 45 = some (some 2) := by kernel_rfl
@[go_sem] theorem w_47 : wide Try.prog 47 = some (some 3) := by kernel_rfl
@[go_sem] theorem w_48 : wide Try.prog 48 = some (some 3) := by kernel_rfl
@[go_sem] theorem w_56 : wide Try.prog 56 = some (some 3) := by kernel_rfl
@[go_sem] theorem w_57 : wide Try.prog 57 = some (some 3) := by kernel_rfl
@[go_sem] theorem w_62 : wide Try.prog 62 = some (some 1) := by kernel_rfl
@[go_sem] theorem w_63 : wide Try.prog 63 = some (some 1) := by kernel_rfl
@[go_sem] theorem w_82 : wide Try.prog 82 = some (some 3) := by kernel_rfl
@[go_sem] theorem w_83 : wide Try.prog 83 = some (some 3) := by kernel_rfl
@[go_sem] theorem w_85 : wide Try.prog 85 = some (some 4) := by kernel_rfl
@[go_sem] theorem w_86 : wide Try.prog 86 = some (some 4) := by kernel_rfl
@[go_sem] theorem w_97 : wide Try.prog 97 = some (some 11) := by kernel_rfl
@[go_sem] theorem w_98 : wide Try.prog 98 = some (some 11) := by kernel_rfl
-- 3 loop.example/g00850/laws.FnFree
abbrev n_laws_FnFree : Nat := 3
def c_laws_FnFree : AS :=
  .seq (.ops [⟨(some 2), none, .mv (.const (.bool false))⟩])
  (.seq (.seq (.ops [⟨(some 17), none, .mv (.tmp 0)⟩,
    ⟨(some 18), none, .call 5 [(.tmp 17)]⟩])
  (.cond (.tmp 18) (.seq (.ops [⟨(some 2), none, .mv (.const (.bool true))⟩])
  (.ret)) (.skip)))
  (.seq (.ops [⟨(some 20), none, .mv (.tmp 0)⟩,
    ⟨(some 21), none, .call 6 [(.tmp 20)]⟩,
    ⟨(some 19), none, .mv (.tmp 21)⟩,
    ⟨(some 22), none, .ext 0 (.tmp 19)⟩,
    ⟨(some 23), none, .ext 1 (.tmp 19)⟩,
    ⟨(some 3), none, .alloc (.agg #[.int .i64 0, .slice none 0 0, .slice none 0 0])⟩,
    ⟨none, none, .store 3 (.tmp 3) (.tmp 22)⟩,
    ⟨(some 4), none, .mv (.tmp 23)⟩])
  (.seq (.ops [⟨(some 25), none, .load (some 3) (.tmp 3)⟩,
    ⟨(some 26), none, .mv (.tmp 4)⟩,
    ⟨(some 27), none, .call 7 [(.tmp 25), (.tmp 26)]⟩,
    ⟨(some 24), none, .mv (.tmp 27)⟩,
    ⟨(some 28), none, .ext 0 (.tmp 24)⟩,
    ⟨(some 29), none, .ext 1 (.tmp 24)⟩,
    ⟨(some 5), none, .mv (.tmp 28)⟩,
    ⟨(some 6), none, .mv (.tmp 29)⟩])
  (.kept [3, 4, 5, 6] (.seq (.seq (.ops [⟨(some 31), none, .load (some 3) (.tmp 3)⟩,
    ⟨(some 32), none, .mv (.tmp 4)⟩,
    ⟨(some 33), none, .call 8 [(.tmp 31), (.tmp 32)]⟩,
    ⟨(some 30), none, .mv (.tmp 33)⟩,
    ⟨(some 34), none, .ext 0 (.tmp 30)⟩,
    ⟨(some 35), none, .ext 1 (.tmp 30)⟩,
    ⟨(some 7), none, .mv (.tmp 34)⟩,
    ⟨(some 8), none, .mv (.tmp 35)⟩])
  (.kept [3, 4, 5, 6, 7, 8] (.seq (.ops [⟨(some 36), none, .mv (.tmp 5)⟩,
    ⟨(some 37), none, .mv (.tmp 7)⟩,
    ⟨(some 38), none, .bin .neq (.tmp 36) (.tmp 37)⟩,
    ⟨(some 39), none, .mv (.tmp 38)⟩,
    ⟨(some 40), some (39, false), .mv (.tmp 6)⟩,
    ⟨(some 41), some (39, false), .mv (.tmp 8)⟩,
    ⟨(some 42), some (39, false), .eqb true (.tmp 40) (.tmp 41)⟩,
    ⟨(some 43), none, .pick (.tmp 39) (.const (.bool true)) (.tmp 42)⟩])
  (.kept [3, 4, 5, 6, 43] (.cond (.tmp 43) (.seq (.ops [⟨(some 2), none, .mv (.const (.bool false))⟩])
  (.ret)) (.skip))))))
  (.kept [3, 4, 5, 6] (.seq (.seq (.ops [⟨(some 44), none, .mv (.tmp 6)⟩,
    ⟨(some 45), none, .not (.tmp 44)⟩,
    ⟨(some 46), none, .mv (.tmp 45)⟩,
    ⟨(some 47), some (46, false), .fa 2 (.tmp 3)⟩,
    ⟨(some 48), some (46, false), .load none (.tmp 47)⟩,
    ⟨(some 49), some (46, false), .lens (.tmp 48)⟩,
    ⟨(some 50), some (46, false), .bin .eql (.tmp 49) (.const (.int .i64 40))⟩,
    ⟨(some 51), none, .pick (.tmp 46) (.const (.bool true)) (.tmp 50)⟩])
  (.kept [3, 4, 5, 51] (.cond (.tmp 51) (.seq (.ops [⟨(some 2), none, .mv (.const (.bool true))⟩])
  (.ret)) (.skip))))
  (.kept [3, 4, 5] (.seq (.ops [⟨(some 53), none, .load (some 3) (.tmp 3)⟩,
    ⟨(some 54), none, .mv (.tmp 5)⟩,
    ⟨(some 55), none, .call 9 [(.tmp 53), (.tmp 54)]⟩,
    ⟨(some 52), none, .mv (.tmp 55)⟩,
    ⟨(some 56), none, .ext 0 (.tmp 52)⟩,
    ⟨(some 57), none, .ext 1 (.tmp 52)⟩,
    ⟨(some 9), none, .alloc (.agg #[.int .i64 0, .slice none 0 0, .slice none 0 0])⟩,
    ⟨none, none, .store 3 (.tmp 9) (.tmp 56)⟩,
    ⟨(some 10), none, .mv (.tmp 57)⟩])
  (.kept [3, 4, 5, 9] (.seq (.ops [⟨(some 59), none, .load (some 3) (.tmp 9)⟩,
    ⟨(some 60), none, .mv (.tmp 4)⟩,
    ⟨(some 61), none, .call 10 [(.tmp 59), (.tmp 60), (.const (.int .i64 1))]⟩,
    ⟨(some 58), none, .mv (.tmp 61)⟩,
    ⟨(some 62), none, .ext 0 (.tmp 58)⟩,
    ⟨(some 63), none, .ext 1 (.tmp 58)⟩,
    ⟨(some 11), none, .alloc (.agg #[.int .i64 0, .slice none 0 0, .slice none 0 0])⟩,
    ⟨none, none, .store 3 (.tmp 11) (.tmp 62)⟩,
    ⟨(some 12), none, .mv (.tmp 63)⟩])
  (.kept [3, 4, 5, 12] (.seq (.seq (.ops [⟨(some 64), none, .mv (.tmp 5)⟩,
    ⟨(some 65), none, .bin .gtr (.tmp 64) (.const (.int .i64 0))⟩])
  (.cond (.tmp 65) (.seq (.ops [⟨(some 67), none, .load (some 3) (.tmp 3)⟩,
    ⟨(some 68), none, .mv (.tmp 5)⟩,
    ⟨(some 69), none, .bin .sub (.tmp 68) (.const (.int .i64 1))⟩,
    ⟨(some 70), none, .call 9 [(.tmp 67), (.tmp 69)]⟩,
    ⟨(some 66), none, .mv (.tmp 70)⟩,
    ⟨(some 71), none, .ext 0 (.tmp 66)⟩,
    ⟨(some 72), none, .ext 1 (.tmp 66)⟩,
    ⟨(some 13), none, .alloc (.agg #[.int .i64 0, .slice none 0 0, .slice none 0 0])⟩,
    ⟨none, none, .store 3 (.tmp 13) (.tmp 71)⟩,
    ⟨(some 14), none, .mv (.tmp 72)⟩])
  (.kept [4, 12, 13] (.seq (.ops [⟨(some 74), none, .load (some 3) (.tmp 13)⟩,
    ⟨(some 75), none, .mv (.tmp 4)⟩,
    ⟨(some 76), none, .call 10 [(.tmp 74), (.tmp 75), (.const (.int .i64 1))]⟩,
    ⟨(some 73), none, .mv (.tmp 76)⟩,
    ⟨(some 77), none, .ext 0 (.tmp 73)⟩,
    ⟨(some 78), none, .ext 1 (.tmp 73)⟩,
    ⟨(some 15), none, .alloc (.agg #[.int .i64 0, .slice none 0 0, .slice none 0 0])⟩,
    ⟨none, none, .store 3 (.tmp 15) (.tmp 77)⟩,
    ⟨(some 16), none, .mv (.tmp 78)⟩])
  (.kept [12, 16] (.seq (.ops [⟨(some 79), none, .mv (.tmp 16)⟩])
  (.cond (.tmp 79) (.seq (.ops [⟨(some 2), none, .mv (.const (.bool false))⟩])
  (.ret)) (.skip))))))) (.skip)))
  (.kept [12] (.seq (.ops [⟨(some 80), none, .mv (.tmp 12)⟩,
    ⟨(some 2), none, .mv (.tmp 80)⟩])
  (.ret))))))))))))))))
theorem h_laws_FnFree : (Try.prog.funcs[n_laws_FnFree]?).bind (fun fn => fn.body.bind (comp Try.prog fn.ntmps)) = some (AS.strip c_laws_FnFree) := by kernel_rfl
theorem r_laws_FnFree : (Try.prog.funcs[n_laws_FnFree]?).map (fun fn => (fn.results.toList, fn.ntmps)) = some ([.tmp 2], 81) := by kernel_rfl
-- 4 loop.example/g00850/laws.FnGiven
abbrev n_laws_FnGiven : Nat := 4
def c_laws_FnGiven : AS :=
  .seq (.ops [⟨(some 2), none, .mv (.const (.bool false))⟩])
  (.seq (.seq (.ops [⟨(some 20), none, .mv (.tmp 0)⟩,
    ⟨(some 21), none, .call 5 [(.tmp 20)]⟩])
  (.cond (.tmp 21) (.seq (.ops [⟨(some 2), none, .mv (.const (.bool true))⟩])
  (.ret)) (.skip)))
  (.seq (.ops [⟨(some 23), none, .mv (.tmp 0)⟩,
    ⟨(some 24), none, .call 11 [(.tmp 23)]⟩,
    ⟨(some 22), none, .mv (.tmp 24)⟩,
    ⟨(some 25), none, .ext 0 (.tmp 22)⟩,
    ⟨(some 26), none, .ext 1 (.tmp 22)⟩,
    ⟨(some 27), none, .ext 2 (.tmp 22)⟩,
    ⟨(some 3), none, .alloc (.agg #[.int .i64 0, .slice none 0 0, .slice none 0 0])⟩,
    ⟨none, none, .store 3 (.tmp 3) (.tmp 25)⟩,
    ⟨(some 4), none, .mv (.tmp 26)⟩,
    ⟨(some 5), none, .mv (.tmp 27)⟩])
  (.kept [3, 4, 5] (.seq (.ops [⟨(some 29), none, .load (some 3) (.tmp 3)⟩,
    ⟨(some 30), none, .mv (.tmp 4)⟩,
    ⟨(some 31), none, .mv (.tmp 5)⟩,
    ⟨(some 32), none, .call 10 [(.tmp 29), (.tmp 30), (.tmp 31)]⟩,
    ⟨(some 28), none, .mv (.tmp 32)⟩,
    ⟨(some 33), none, .ext 0 (.tmp 28)⟩,
    ⟨(some 34), none, .ext 1 (.tmp 28)⟩,
    ⟨(some 6), none, .alloc (.agg #[.int .i64 0, .slice none 0 0, .slice none 0 0])⟩,
    ⟨none, none, .store 3 (.tmp 6) (.tmp 33)⟩,
    ⟨(some 7), none, .mv (.tmp 34)⟩])
  (.kept [3, 4, 5, 6, 7] (.seq (.seq (.ops [⟨(some 36), none, .load (some 3) (.tmp 3)⟩,
    ⟨(some 37), none, .mv (.tmp 4)⟩,
    ⟨(some 38), none, .mv (.tmp 5)⟩,
    ⟨(some 39), none, .call 12 [(.tmp 36), (.tmp 37), (.tmp 38)]⟩,
    ⟨(some 35), none, .mv (.tmp 39)⟩,
    ⟨(some 40), none, .ext 0 (.tmp 35)⟩,
    ⟨(some 41), none, .ext 1 (.tmp 35)⟩,
    ⟨(some 8), none, .alloc (.agg #[.int .i64 0, .slice none 0 0, .slice none 0 0])⟩,
    ⟨none, none, .store 3 (.tmp 8) (.tmp 40)⟩,
    ⟨(some 9), none, .mv (.tmp 41)⟩])
  (.kept [4, 5, 6, 7, 8, 9] (.seq (.ops [⟨(some 42), none, .mv (.tmp 7)⟩,
    ⟨(some 43), none, .mv (.tmp 9)⟩,
    ⟨(some 44), none, .eqb true (.tmp 42) (.tmp 43)⟩,
    ⟨(some 45), none, .mv (.tmp 44)⟩,
    ⟨(some 46), some (45, false), .load (some 3) (.tmp 6)⟩,
    ⟨(some 47), some (45, false), .load (some 3) (.tmp 8)⟩,
    ⟨(some 48), some (45, false), .call 13 [(.tmp 46), (.tmp 47)]⟩,
    ⟨(some 49), some (45, false), .not (.tmp 48)⟩,
    ⟨(some 50), none, .pick (.tmp 45) (.const (.bool true)) (.tmp 49)⟩])
  (.kept [4, 5, 6, 7, 50] (.cond (.tmp 50) (.seq (.ops [⟨(some 2), none, .mv (.const (.bool false))⟩])
  (.ret)) (.skip))))))
  (.kept [4, 5, 6, 7] (.seq (.seq (.ops [⟨(some 51), none, .mv (.tmp 7)⟩,
    ⟨(some 52), none, .not (.tmp 51)⟩])
  (.cond (.tmp 52) (.seq (.ops [⟨(some 53), none, .load (some 3) (.tmp 6)⟩,
    ⟨(some 54), none, .build (.agg #[.int .i64 0, .slice none 0 0, .slice none 0 0]) []⟩,
    ⟨(some 55), none, .call 13 [(.tmp 53), (.tmp 54)]⟩,
    ⟨(some 2), none, .mv (.tmp 55)⟩])
  (.ret)) (.skip)))
  (.kept [4, 5, 6] (.seq (.ops [⟨(some 57), none, .load (some 3) (.tmp 6)⟩,
    ⟨(some 58), none, .mv (.tmp 4)⟩,
    ⟨(some 59), none, .call 14 [(.tmp 57), (.tmp 58)]⟩,
    ⟨(some 56), none, .mv (.tmp 59)⟩,
    ⟨(some 60), none, .ext 0 (.tmp 56)⟩,
    ⟨(some 61), none, .ext 1 (.tmp 56)⟩,
    ⟨(some 10), none, .mv (.tmp 60)⟩,
    ⟨(some 11), none, .mv (.tmp 61)⟩])
  (.kept [4, 5, 6, 10, 11] (.seq (.ops [⟨(some 63), none, .load (some 3) (.tmp 6)⟩,
    ⟨(some 64), none, .mv (.tmp 5)⟩,
    ⟨(some 65), none, .call 9 [(.tmp 63), (.tmp 64)]⟩,
    ⟨(some 62), none, .mv (.tmp 65)⟩,
    ⟨(some 66), none, .ext 0 (.tmp 62)⟩,
    ⟨(some 67), none, .ext 1 (.tmp 62)⟩,
    ⟨(some 12), none, .alloc (.agg #[.int .i64 0, .slice none 0 0, .slice none 0 0])⟩,
    ⟨none, none, .store 3 (.tmp 12) (.tmp 66)⟩,
    ⟨(some 13), none, .mv (.tmp 67)⟩])
  (.kept [4, 6, 10, 11, 12, 13] (.seq (.ops [⟨(some 69), none, .load (some 3) (.tmp 12)⟩,
    ⟨(some 70), none, .mv (.tmp 4)⟩,
    ⟨(some 71), none, .call 14 [(.tmp 69), (.tmp 70)]⟩,
    ⟨(some 68), none, .mv (.tmp 71)⟩,
    ⟨(some 72), none, .ext 0 (.tmp 68)⟩,
    ⟨(some 73), none, .ext 1 (.tmp 68)⟩,
    ⟨(some 14), none, .mv (.tmp 72)⟩,
    ⟨(some 15), none, .mv (.tmp 73)⟩])
  (.kept [4, 6, 10, 11, 13, 14] (.seq (.ops [⟨(some 75), none, .load (some 3) (.tmp 6)⟩,
    ⟨(some 76), none, .mv (.tmp 4)⟩,
    ⟨(some 77), none, .call 15 [(.tmp 75), (.tmp 76)]⟩,
    ⟨(some 74), none, .mv (.tmp 77)⟩,
    ⟨(some 78), none, .ext 0 (.tmp 74)⟩,
    ⟨(some 79), none, .ext 1 (.tmp 74)⟩,
    ⟨(some 16), none, .alloc (.agg #[.int .i64 0, .slice none 0 0, .slice none 0 0])⟩,
    ⟨none, none, .store 3 (.tmp 16) (.tmp 78)⟩,
    ⟨(some 17), none, .mv (.tmp 79)⟩])
  (.kept [4, 10, 11, 13, 14, 16, 17] (.seq (.ops [⟨(some 81), none, .load (some 3) (.tmp 16)⟩,
    ⟨(some 82), none, .mv (.tmp 4)⟩,
    ⟨(some 83), none, .call 14 [(.tmp 81), (.tmp 82)]⟩,
    ⟨(some 80), none, .mv (.tmp 83)⟩,
    ⟨(some 84), none, .ext 0 (.tmp 80)⟩,
    ⟨(some 85), none, .ext 1 (.tmp 80)⟩,
    ⟨(some 18), none, .mv (.tmp 84)⟩,
    ⟨(some 19), none, .mv (.tmp 85)⟩])
  (.kept [10, 11, 13, 14, 17, 18] (.seq (.ops [⟨(some 86), none, .mv (.tmp 10)⟩,
    ⟨(some 87), none, .mv (.tmp 86)⟩,
    ⟨(some 88), some (87, true), .mv (.tmp 11)⟩,
    ⟨(some 89), none, .pick (.tmp 87) (.tmp 88) (.const (.bool false))⟩,
    ⟨(some 90), none, .mv (.tmp 89)⟩,
    ⟨(some 91), some (90, true), .mv (.tmp 13)⟩,
    ⟨(some 92), some (90, true), .not (.tmp 91)⟩,
    ⟨(some 93), some (90, true), .mv (.tmp 92)⟩,
    ⟨(some 94), some (93, false), .mv (.tmp 14)⟩,
    ⟨(some 95), some (90, true), .pick (.tmp 93) (.const (.bool true)) (.tmp 94)⟩,
    ⟨(some 96), none, .pick (.tmp 90) (.tmp 95) (.const (.bool false))⟩,
    ⟨(some 97), none, .mv (.tmp 96)⟩,
    ⟨(some 98), some (97, true), .mv (.tmp 17)⟩,
    ⟨(some 99), none, .pick (.tmp 97) (.tmp 98) (.const (.bool false))⟩,
    ⟨(some 100), none, .mv (.tmp 99)⟩,
    ⟨(some 101), some (100, true), .mv (.tmp 18)⟩,
    ⟨(some 102), some (100, true), .not (.tmp 101)⟩,
    ⟨(some 103), none, .pick (.tmp 100) (.tmp 102) (.const (.bool false))⟩,
    ⟨(some 2), none, .mv (.tmp 103)⟩])
  (.ret)))))))))))))))))))))
theorem h_laws_FnGiven : (Try.prog.funcs[n_laws_FnGiven]?).bind (fun fn => fn.body.bind (comp Try.prog fn.ntmps)) = some (AS.strip c_laws_FnGiven) := by kernel_rfl
theorem r_laws_FnGiven : (Try.prog.funcs[n_laws_FnGiven]?).map (fun fn => (fn.results.toList, fn.ntmps)) = some ([.tmp 2], 104) := by kernel_rfl
-- 5 loop.example/g00850/laws.vBig
abbrev n_laws_vBig : Nat := 5
def c_laws_vBig : AS :=
  .seq (.ops [⟨(some 2), none, .mv (.const (.bool false))⟩])
  (.seq (.ops [⟨(some 3), none, .mv (.tmp 0)⟩,
    ⟨(some 4), none, .lens (.tmp 3)⟩,
    ⟨(some 5), none, .bin .gtr (.tmp 4) (.const (.int .i64 65536))⟩,
    ⟨(some 2), none, .mv (.tmp 5)⟩])
  (.ret))
theorem h_laws_vBig : (Try.prog.funcs[n_laws_vBig]?).bind (fun fn => fn.body.bind (comp Try.prog fn.ntmps)) = some (AS.strip c_laws_vBig) := by kernel_rfl
theorem r_laws_vBig : (Try.prog.funcs[n_laws_vBig]?).map (fun fn => (fn.results.toList, fn.ntmps)) = some ([.tmp 2], 6) := by kernel_rfl
-- 6 loop.example/g00850/spec.DrawWhenFree
abbrev n_spec_DrawWhenFree : Nat := 6
def c_spec_DrawWhenFree : AS :=
  .seq (.ops [⟨(some 2), none, .alloc (.agg #[.int .i64 0, .slice none 0 0, .slice none 0 0])⟩,
    ⟨(some 3), none, .mv (.const (.int .i64 0))⟩])
  (.seq (.ops [⟨(some 4), none, .mv (.tmp 0)⟩,
    ⟨(some 5), none, .call 16 [(.tmp 4)]⟩,
    ⟨(some 6), none, .ext 0 (.tmp 5)⟩,
    ⟨(some 7), none, .ext 1 (.tmp 5)⟩,
    ⟨none, none, .store 3 (.tmp 2) (.tmp 6)⟩,
    ⟨(some 3), none, .mv (.tmp 7)⟩])
  (.ret))
theorem h_spec_DrawWhenFree : (Try.prog.funcs[n_spec_DrawWhenFree]?).bind (fun fn => fn.body.bind (comp Try.prog fn.ntmps)) = some (AS.strip c_spec_DrawWhenFree) := by kernel_rfl
theorem r_spec_DrawWhenFree : (Try.prog.funcs[n_spec_DrawWhenFree]?).map (fun fn => (fn.results.toList, fn.ntmps)) = some ([.cell 2 27, .tmp 3], 8) := by kernel_rfl
-- 7 loop.example/g00850/impl.WhenFree
abbrev n_impl_WhenFree : Nat := 7
def c_impl_WhenFree : AS :=
  .seq (.ops [⟨(some 2), none, .box (.tmp 0)⟩,
    ⟨(some 4), none, .mv (.const (.int .i64 0))⟩,
    ⟨(some 5), none, .mv (.const (.bool false))⟩])
  (.seq (.seq (.rops [(none, ⟨(some 6), none, .load (some 3) (.tmp 2)⟩),
    (some [], ⟨(some 7), none, .call 17 [(.tmp 6)]⟩),
    (none, ⟨(some 8), none, .not (.tmp 7)⟩),
    (none, ⟨(some 9), none, .mv (.tmp 8)⟩),
    (none, ⟨(some 10), some (9, false), .load (some 3) (.tmp 2)⟩),
    (none, ⟨(some 11), some (9, false), .mv (.tmp 1)⟩),
    (some [], ⟨(some 12), some (9, false), .call 18 [(.tmp 10), (.tmp 11)]⟩),
    (none, ⟨(some 13), some (9, false), .not (.tmp 12)⟩),
    (none, ⟨(some 14), none, .pick (.tmp 9) (.const (.bool true)) (.tmp 13)⟩),
    (none, ⟨(some 15), none, .mv (.tmp 14)⟩),
    (none, ⟨(some 16), some (15, false), .fa 0 (.tmp 2)⟩),
    (none, ⟨(some 17), some (15, false), .load none (.tmp 16)⟩),
    (none, ⟨(some 18), some (15, false), .load (some 3) (.tmp 2)⟩),
    (none, ⟨(some 19), some (15, false), .mv (.tmp 1)⟩),
    (some [⟨(some 17), some (15, false), .load none (.tmp 16)⟩, ⟨(some 16), some (15, false), .fa 0 (.tmp 2)⟩], ⟨(some 20), some (15, false), .call 19 [(.tmp 18), (.tmp 19)]⟩),
    (none, ⟨(some 21), some (15, false), .bin .add (.tmp 17) (.tmp 20)⟩),
    (none, ⟨(some 22), some (15, false), .bin .gtr (.tmp 21) (.const (.int .i64 100000))⟩),
    (none, ⟨(some 23), none, .pick (.tmp 15) (.const (.bool true)) (.tmp 22)⟩)])
  (.kept [1, 2, 23] (.cond (.tmp 23) (.seq (.ops [⟨(some 4), none, .mv (.const (.int .i64 0))⟩,
    ⟨(some 5), none, .mv (.const (.bool false))⟩])
  (.ret)) (.skip))))
  (.kept [1, 2] (.seq (.ops [⟨(some 24), none, .load (some 3) (.tmp 2)⟩,
    ⟨(some 25), none, .mv (.tmp 1)⟩,
    ⟨(some 26), none, .call 19 [(.tmp 24), (.tmp 25)]⟩,
    ⟨(some 4), none, .mv (.tmp 26)⟩,
    ⟨(some 5), none, .mv (.const (.bool true))⟩])
  (.ret))))
theorem h_impl_WhenFree : (Try.prog.funcs[n_impl_WhenFree]?).bind (fun fn => fn.body.bind (comp Try.prog fn.ntmps)) = some (AS.strip c_impl_WhenFree) := by kernel_rfl
theorem r_impl_WhenFree : (Try.prog.funcs[n_impl_WhenFree]?).map (fun fn => (fn.results.toList, fn.ntmps)) = some ([.tmp 4, .tmp 5], 27) := by kernel_rfl
-- 8 loop.example/g00850/spec.WhenFree
abbrev n_spec_WhenFree : Nat := 8
def c_spec_WhenFree_l1 : AS :=
  .seq (.seq (.ops [⟨(some 17), none, .mv (.tmp 8)⟩,
    ⟨(some 18), none, .fa 2 (.tmp 2)⟩,
    ⟨(some 19), none, .load none (.tmp 18)⟩,
    ⟨(some 20), none, .lens (.tmp 19)⟩,
    ⟨(some 21), none, .bin .lss (.tmp 17) (.tmp 20)⟩])
  (.cond (.tmp 21) (.skip) (.exit 0)))
  (.seq (.block 1 (.seq (.ops [⟨(some 24), none, .fa 2 (.tmp 2)⟩,
    ⟨(some 25), none, .load none (.tmp 24)⟩,
    ⟨(some 26), none, .mv (.tmp 8)⟩,
    ⟨(some 27), none, .ia 3 (.tmp 25) (.tmp 26)⟩,
    ⟨(some 28), none, .fa 0 (.tmp 27)⟩,
    ⟨(some 29), none, .load none (.tmp 28)⟩,
    ⟨(some 30), none, .mv (.tmp 1)⟩,
    ⟨(some 31), none, .bin .neq (.tmp 29) (.tmp 30)⟩])
  (.kept [1, 2, 6, 7, 8, 31] (.cond (.tmp 31) (.ops [⟨(some 32), none, .mv (.tmp 7)⟩,
    ⟨(some 33), none, .fa 2 (.tmp 2)⟩,
    ⟨(some 34), none, .load none (.tmp 33)⟩,
    ⟨(some 35), none, .mv (.tmp 8)⟩,
    ⟨(some 36), none, .ia 3 (.tmp 34) (.tmp 35)⟩,
    ⟨(some 37), none, .fa 2 (.tmp 36)⟩,
    ⟨(some 38), none, .load none (.tmp 37)⟩,
    ⟨(some 39), none, .bin .add (.tmp 38) (.const (.int .i64 1))⟩,
    ⟨(some 40), none, .mv (.tmp 6)⟩,
    ⟨(some 41), none, .bin .sub (.tmp 39) (.tmp 40)⟩,
    ⟨(some 42), none, .call 22 [(.tmp 32), (.tmp 41)]⟩,
    ⟨(some 7), none, .mv (.tmp 42)⟩]) (.skip)))))
  (.kept [1, 2, 6, 7, 8] (.ops [⟨(some 22), none, .mv (.tmp 8)⟩,
    ⟨(some 23), none, .bin .add (.tmp 22) (.const (.int .i64 1))⟩,
    ⟨(some 8), none, .mv (.tmp 23)⟩])))
def c_spec_WhenFree : AS :=
  .seq (.ops [⟨(some 2), none, .box (.tmp 0)⟩,
    ⟨(some 4), none, .mv (.const (.int .i64 0))⟩,
    ⟨(some 5), none, .mv (.const (.bool false))⟩])
  (.seq (.seq (.ops [⟨(some 9), none, .load (some 3) (.tmp 2)⟩,
    ⟨(some 10), none, .mv (.tmp 1)⟩,
    ⟨(some 11), none, .call 20 [(.tmp 9), (.tmp 10)]⟩,
    ⟨(some 12), none, .not (.tmp 11)⟩])
  (.cond (.tmp 12) (.seq (.ops [⟨(some 4), none, .mv (.const (.int .i64 0))⟩,
    ⟨(some 5), none, .mv (.const (.bool false))⟩])
  (.ret)) (.skip)))
  (.kept [1, 2] (.seq (.ops [⟨(some 13), none, .load (some 3) (.tmp 2)⟩,
    ⟨(some 14), none, .mv (.tmp 1)⟩,
    ⟨(some 15), none, .call 21 [(.tmp 13), (.tmp 14)]⟩,
    ⟨(some 16), none, .fld 0 none (.tmp 15)⟩,
    ⟨(some 6), none, .mv (.tmp 16)⟩])
  (.seq (.ops [⟨(some 7), none, .mv (.const (.int .i64 0))⟩])
  (.seq (.seq (.ops [⟨(some 8), none, .mv (.const (.int .i64 0))⟩])
  (.block 0 (.loop 2 [(1, 0), (2, 0), (6, 0), (7, 0), (8, 0)] c_spec_WhenFree_l1)))
  (.kept [2, 7] (.seq (.seq (.ops [⟨(some 43), none, .fa 0 (.tmp 2)⟩,
    ⟨(some 44), none, .load none (.tmp 43)⟩,
    ⟨(some 45), none, .mv (.tmp 7)⟩,
    ⟨(some 46), none, .bin .add (.tmp 44) (.tmp 45)⟩,
    ⟨(some 47), none, .bin .gtr (.tmp 46) (.const (.int .i64 100000))⟩])
  (.cond (.tmp 47) (.seq (.ops [⟨(some 4), none, .mv (.const (.int .i64 0))⟩,
    ⟨(some 5), none, .mv (.const (.bool false))⟩])
  (.ret)) (.skip)))
  (.kept [7] (.seq (.ops [⟨(some 48), none, .mv (.tmp 7)⟩,
    ⟨(some 4), none, .mv (.tmp 48)⟩,
    ⟨(some 5), none, .mv (.const (.bool true))⟩])
  (.ret))))))))))
theorem h_spec_WhenFree : (Try.prog.funcs[n_spec_WhenFree]?).bind (fun fn => fn.body.bind (comp Try.prog fn.ntmps)) = some (AS.strip c_spec_WhenFree) := by kernel_rfl
theorem r_spec_WhenFree : (Try.prog.funcs[n_spec_WhenFree]?).map (fun fn => (fn.results.toList, fn.ntmps)) = some ([.tmp 4, .tmp 5], 49) := by kernel_rfl
-- 9 loop.example/g00850/impl.PassTime
abbrev n_impl_PassTime : Nat := 9
def c_impl_PassTime : AS :=
  .seq (.ops [⟨(some 2), none, .box (.tmp 0)⟩,
    ⟨(some 4), none, .alloc (.agg #[.int .i64 0, .slice none 0 0, .slice none 0 0])⟩,
    ⟨(some 5), none, .mv (.const (.bool false))⟩])
  (.seq (.seq (.ops [⟨(some 7), none, .load (some 3) (.tmp 2)⟩,
    ⟨(some 8), none, .call 17 [(.tmp 7)]⟩,
    ⟨(some 9), none, .not (.tmp 8)⟩,
    ⟨(some 10), none, .mv (.tmp 9)⟩,
    ⟨(some 11), some (10, false), .mv (.tmp 1)⟩,
    ⟨(some 12), some (10, false), .call 23 [(.tmp 11)]⟩,
    ⟨(some 13), some (10, false), .not (.tmp 12)⟩,
    ⟨(some 14), none, .pick (.tmp 10) (.const (.bool true)) (.tmp 13)⟩])
  (.kept [1, 2, 4, 14] (.cond (.tmp 14) (.seq (.ops [⟨(some 15), none, .build (.agg #[.int .i64 0, .slice none 0 0, .slice none 0 0]) []⟩,
    ⟨none, none, .store 3 (.tmp 4) (.tmp 15)⟩,
    ⟨(some 5), none, .mv (.const (.bool false))⟩])
  (.ret)) (.skip))))
  (.kept [1, 2, 4] (.seq (.ops [⟨(some 16), none, .load (some 3) (.tmp 2)⟩,
    ⟨(some 17), none, .call 24 [(.tmp 16)]⟩,
    ⟨(some 6), none, .alloc (.agg #[.int .i64 0, .slice none 0 0, .slice none 0 0])⟩,
    ⟨none, none, .store 3 (.tmp 6) (.tmp 17)⟩])
  (.seq (.ops [⟨(some 18), none, .fa 0 (.tmp 6)⟩,
    ⟨(some 19), none, .load none (.tmp 18)⟩,
    ⟨(some 20), none, .mv (.tmp 1)⟩,
    ⟨(some 21), none, .bin .add (.tmp 19) (.tmp 20)⟩,
    ⟨(some 22), none, .fa 0 (.tmp 6)⟩,
    ⟨none, none, .store 1 (.tmp 22) (.tmp 21)⟩])
  (.seq (.ops [⟨(some 23), none, .load (some 3) (.tmp 6)⟩,
    ⟨(some 24), none, .call 25 [(.tmp 23)]⟩,
    ⟨(some 25), none, .ext 0 (.tmp 24)⟩,
    ⟨(some 26), none, .ext 1 (.tmp 24)⟩,
    ⟨none, none, .store 3 (.tmp 4) (.tmp 25)⟩,
    ⟨(some 5), none, .mv (.tmp 26)⟩])
  (.ret))))))
theorem h_impl_PassTime : (Try.prog.funcs[n_impl_PassTime]?).bind (fun fn => fn.body.bind (comp Try.prog fn.ntmps)) = some (AS.strip c_impl_PassTime) := by kernel_rfl
theorem r_impl_PassTime : (Try.prog.funcs[n_impl_PassTime]?).map (fun fn => (fn.results.toList, fn.ntmps)) = some ([.cell 4 27, .tmp 5], 27) := by kernel_rfl
-- 10 loop.example/g00850/impl.AskLease
abbrev n_impl_AskLease : Nat := 10
def c_impl_AskLease : AS :=
  .seq (.ops [⟨(some 3), none, .box (.tmp 0)⟩,
    ⟨(some 6), none, .alloc (.agg #[.int .i64 0, .slice none 0 0, .slice none 0 0])⟩,
    ⟨(some 7), none, .mv (.const (.bool false))⟩])
  (.seq (.seq (.ops [⟨(some 10), none, .load (some 3) (.tmp 3)⟩,
    ⟨(some 11), none, .call 17 [(.tmp 10)]⟩,
    ⟨(some 12), none, .not (.tmp 11)⟩,
    ⟨(some 13), none, .mv (.tmp 12)⟩,
    ⟨(some 14), some (13, false), .load (some 3) (.tmp 3)⟩,
    ⟨(some 15), some (13, false), .mv (.tmp 1)⟩,
    ⟨(some 16), some (13, false), .call 18 [(.tmp 14), (.tmp 15)]⟩,
    ⟨(some 17), some (13, false), .not (.tmp 16)⟩,
    ⟨(some 18), none, .pick (.tmp 13) (.const (.bool true)) (.tmp 17)⟩,
    ⟨(some 19), none, .mv (.tmp 18)⟩,
    ⟨(some 20), some (19, false), .mv (.tmp 2)⟩,
    ⟨(some 21), some (19, false), .call 26 [(.tmp 20), (.const (.int .i64 1)), (.const (.int .i64 100))]⟩,
    ⟨(some 22), some (19, false), .not (.tmp 21)⟩,
    ⟨(some 23), none, .pick (.tmp 19) (.const (.bool true)) (.tmp 22)⟩,
    ⟨(some 24), none, .mv (.tmp 23)⟩,
    ⟨(some 25), some (24, false), .load (some 3) (.tmp 3)⟩,
    ⟨(some 26), some (24, false), .mv (.tmp 1)⟩,
    ⟨(some 27), some (24, false), .call 19 [(.tmp 25), (.tmp 26)]⟩,
    ⟨(some 28), some (24, false), .bin .gtr (.tmp 27) (.const (.int .i64 0))⟩,
    ⟨(some 29), none, .pick (.tmp 24) (.const (.bool true)) (.tmp 28)⟩])
  (.kept [1, 2, 3, 6, 29] (.cond (.tmp 29) (.seq (.ops [⟨(some 30), none, .build (.agg #[.int .i64 0, .slice none 0 0, .slice none 0 0]) []⟩,
    ⟨none, none, .store 3 (.tmp 6) (.tmp 30)⟩,
    ⟨(some 7), none, .mv (.const (.bool false))⟩])
  (.ret)) (.skip))))
  (.kept [1, 2, 3, 6] (.seq (.ops [⟨(some 31), none, .load (some 3) (.tmp 3)⟩,
    ⟨(some 32), none, .call 24 [(.tmp 31)]⟩,
    ⟨(some 8), none, .alloc (.agg #[.int .i64 0, .slice none 0 0, .slice none 0 0])⟩,
    ⟨none, none, .store 3 (.tmp 8) (.tmp 32)⟩])
  (.seq (.ops [⟨(some 33), none, .load (some 3) (.tmp 3)⟩,
    ⟨(some 34), none, .mv (.tmp 1)⟩,
    ⟨(some 35), none, .call 27 [(.tmp 33), (.tmp 34)]⟩,
    ⟨(some 9), none, .alloc (.agg #[.int .i64 0, .int .i64 0])⟩,
    ⟨none, none, .store 2 (.tmp 9) (.tmp 35)⟩])
  (.seq (.ops [⟨(some 36), none, .fa 2 (.tmp 8)⟩,
    ⟨(some 37), none, .load none (.tmp 36)⟩,
    ⟨(some 38), none, .mv (.tmp 1)⟩,
    ⟨(some 39), none, .fa 0 (.tmp 9)⟩,
    ⟨(some 40), none, .load none (.tmp 39)⟩,
    ⟨(some 41), none, .fa 1 (.tmp 9)⟩,
    ⟨(some 42), none, .load none (.tmp 41)⟩,
    ⟨(some 43), none, .mv (.tmp 2)⟩,
    ⟨(some 44), none, .bin .add (.tmp 42) (.tmp 43)⟩,
    ⟨(some 45), none, .build (.agg #[.int .i64 0, .int .i64 0, .int .i64 0]) [(0, 1, (.tmp 38)), (1, 1, (.tmp 40)), (2, 1, (.tmp 44))]⟩,
    ⟨(some 46), none, .bsl 3 (.agg #[.int .i64 0, .int .i64 0, .int .i64 0]) 1 [(0, (.tmp 45))]⟩,
    ⟨(some 47), none, .app 3 24 (.agg #[.int .i64 0, .int .i64 0, .int .i64 0]) (.tmp 37) (.tmp 46)⟩,
    ⟨(some 48), none, .fa 2 (.tmp 8)⟩,
    ⟨none, none, .store 1 (.tmp 48) (.tmp 47)⟩])
  (.kept [6, 8] (.seq (.ops [⟨(some 49), none, .load (some 3) (.tmp 8)⟩,
    ⟨(some 50), none, .call 25 [(.tmp 49)]⟩,
    ⟨(some 51), none, .ext 0 (.tmp 50)⟩,
    ⟨(some 52), none, .ext 1 (.tmp 50)⟩,
    ⟨none, none, .store 3 (.tmp 6) (.tmp 51)⟩,
    ⟨(some 7), none, .mv (.tmp 52)⟩])
  (.ret))))))))
theorem h_impl_AskLease : (Try.prog.funcs[n_impl_AskLease]?).bind (fun fn => fn.body.bind (comp Try.prog fn.ntmps)) = some (AS.strip c_impl_AskLease) := by kernel_rfl
theorem r_impl_AskLease : (Try.prog.funcs[n_impl_AskLease]?).map (fun fn => (fn.results.toList, fn.ntmps)) = some ([.cell 6 27, .tmp 7], 53) := by kernel_rfl
-- 11 loop.example/g00850/spec.DrawAskLease
abbrev n_spec_DrawAskLease : Nat := 11
def c_spec_DrawAskLease : AS :=
  .seq (.ops [⟨(some 2), none, .alloc (.agg #[.int .i64 0, .slice none 0 0, .slice none 0 0])⟩,
    ⟨(some 3), none, .mv (.const (.int .i64 0))⟩,
    ⟨(some 4), none, .mv (.const (.int .i64 0))⟩])
  (.seq (.ops [⟨(some 8), none, .mv (.tmp 0)⟩,
    ⟨(some 9), none, .build (.agg #[.slice none 0 0, .int .i64 0, .int .u64 0]) [(0, 1, (.tmp 8))]⟩,
    ⟨(some 10), none, .box (.tmp 9)⟩,
    ⟨(some 5), none, .mv (.tmp 10)⟩])
  (.seq (.ops [⟨(some 11), none, .mv (.tmp 5)⟩,
    ⟨(some 12), none, .call 28 [(.tmp 11)]⟩,
    ⟨(some 6), none, .alloc (.agg #[.int .i64 0, .slice none 0 0, .slice none 0 0])⟩,
    ⟨none, none, .store 3 (.tmp 6) (.tmp 12)⟩])
  (.seq (.ops [⟨(some 13), none, .mv (.tmp 5)⟩,
    ⟨(some 14), none, .call 29 [(.tmp 13), (.const (.int .i64 6))]⟩,
    ⟨(some 15), none, .bin .sub (.tmp 14) (.const (.int .i64 1))⟩,
    ⟨(some 7), none, .mv (.tmp 15)⟩])
  (.seq (.rops [(none, ⟨(some 16), none, .load (some 3) (.tmp 6)⟩),
    (none, ⟨(some 17), none, .mv (.tmp 7)⟩),
    (none, ⟨(some 18), none, .mv (.tmp 5)⟩),
    (some [⟨(some 18), none, .mv (.tmp 5)⟩, ⟨(some 17), none, .mv (.tmp 7)⟩, ⟨(some 16), none, .load (some 3) (.tmp 6)⟩], ⟨(some 19), none, .bsl 1 (.int .i64 0) 5 [(0, (.const (.int .i64 1))), (1, (.const (.int .i64 5))), (2, (.const (.int .i64 100))), (3, (.const (.int .i64 101))), (4, (.const (.int .i64 0)))]⟩),
    (some [⟨(some 17), none, .mv (.tmp 7)⟩, ⟨(some 16), none, .load (some 3) (.tmp 6)⟩], ⟨(some 20), none, .call 30 [(.tmp 18), (.tmp 19)]⟩),
    (some [⟨(some 17), none, .mv (.tmp 7)⟩], ⟨none, none, .store 3 (.tmp 2) (.tmp 16)⟩),
    (none, ⟨(some 3), none, .mv (.tmp 17)⟩),
    (none, ⟨(some 4), none, .mv (.tmp 20)⟩)])
  (.ret)))))
theorem h_spec_DrawAskLease : (Try.prog.funcs[n_spec_DrawAskLease]?).bind (fun fn => fn.body.bind (comp Try.prog fn.ntmps)) = some (AS.strip c_spec_DrawAskLease) := by kernel_rfl
theorem r_spec_DrawAskLease : (Try.prog.funcs[n_spec_DrawAskLease]?).map (fun fn => (fn.results.toList, fn.ntmps)) = some ([.cell 2 27, .tmp 3, .tmp 4], 21) := by kernel_rfl
-- 12 loop.example/g00850/spec.AskLease
abbrev n_spec_AskLease : Nat := 12
def c_spec_AskLease : AS :=
  .seq (.ops [⟨(some 3), none, .box (.tmp 0)⟩,
    ⟨(some 6), none, .alloc (.agg #[.int .i64 0, .slice none 0 0, .slice none 0 0])⟩,
    ⟨(some 7), none, .mv (.const (.bool false))⟩])
  (.seq (.seq (.rops [(none, ⟨(some 10), none, .load (some 3) (.tmp 3)⟩),
    (none, ⟨(some 11), none, .mv (.tmp 1)⟩),
    (some [], ⟨(some 12), none, .call 20 [(.tmp 10), (.tmp 11)]⟩),
    (none, ⟨(some 13), none, .not (.tmp 12)⟩),
    (none, ⟨(some 14), none, .mv (.tmp 13)⟩),
    (none, ⟨(some 15), some (14, false), .mv (.tmp 2)⟩),
    (some [], ⟨(some 16), some (14, false), .call 31 [(.tmp 15), (.const (.int .i64 1)), (.const (.int .i64 100))]⟩),
    (none, ⟨(some 17), some (14, false), .not (.tmp 16)⟩),
    (none, ⟨(some 18), none, .pick (.tmp 14) (.const (.bool true)) (.tmp 17)⟩),
    (none, ⟨(some 19), none, .mv (.tmp 18)⟩),
    (none, ⟨(some 20), some (19, false), .load (some 3) (.tmp 3)⟩),
    (none, ⟨(some 21), some (19, false), .mv (.tmp 1)⟩),
    (none, ⟨(some 22), some (19, false), .load (some 3) (.tmp 3)⟩),
    (none, ⟨(some 23), some (19, false), .mv (.tmp 1)⟩),
    (some [⟨(some 21), some (19, false), .mv (.tmp 1)⟩, ⟨(some 20), some (19, false), .load (some 3) (.tmp 3)⟩], ⟨(some 24), some (19, false), .call 21 [(.tmp 22), (.tmp 23)]⟩),
    (none, ⟨(some 25), some (19, false), .fld 0 none (.tmp 24)⟩),
    (some [], ⟨(some 26), some (19, false), .call 32 [(.tmp 20), (.tmp 21), (.tmp 25)]⟩),
    (none, ⟨(some 27), some (19, false), .not (.tmp 26)⟩),
    (none, ⟨(some 28), none, .pick (.tmp 19) (.const (.bool true)) (.tmp 27)⟩)])
  (.kept [1, 2, 3, 6, 28] (.cond (.tmp 28) (.seq (.ops [⟨(some 29), none, .build (.agg #[.int .i64 0, .slice none 0 0, .slice none 0 0]) []⟩,
    ⟨none, none, .store 3 (.tmp 6) (.tmp 29)⟩,
    ⟨(some 7), none, .mv (.const (.bool false))⟩])
  (.ret)) (.skip))))
  (.kept [1, 2, 3, 6] (.seq (.ops [⟨(some 30), none, .load (some 3) (.tmp 3)⟩,
    ⟨(some 31), none, .mv (.tmp 1)⟩,
    ⟨(some 32), none, .call 21 [(.tmp 30), (.tmp 31)]⟩,
    ⟨(some 8), none, .alloc (.agg #[.int .i64 0, .int .i64 0])⟩,
    ⟨none, none, .store 2 (.tmp 8) (.tmp 32)⟩])
  (.seq (.ops [⟨(some 33), none, .load (some 3) (.tmp 3)⟩,
    ⟨(some 34), none, .call 33 [(.tmp 33)]⟩,
    ⟨(some 9), none, .alloc (.agg #[.int .i64 0, .slice none 0 0, .slice none 0 0])⟩,
    ⟨none, none, .store 3 (.tmp 9) (.tmp 34)⟩])
  (.seq (.ops [⟨(some 35), none, .fa 2 (.tmp 9)⟩,
    ⟨(some 36), none, .load none (.tmp 35)⟩,
    ⟨(some 37), none, .mv (.tmp 1)⟩,
    ⟨(some 38), none, .fa 0 (.tmp 8)⟩,
    ⟨(some 39), none, .load none (.tmp 38)⟩,
    ⟨(some 40), none, .fa 1 (.tmp 8)⟩,
    ⟨(some 41), none, .load none (.tmp 40)⟩,
    ⟨(some 42), none, .mv (.tmp 2)⟩,
    ⟨(some 43), none, .bin .add (.tmp 41) (.tmp 42)⟩,
    ⟨(some 44), none, .build (.agg #[.int .i64 0, .int .i64 0, .int .i64 0]) [(0, 1, (.tmp 37)), (1, 1, (.tmp 39)), (2, 1, (.tmp 43))]⟩,
    ⟨(some 45), none, .bsl 3 (.agg #[.int .i64 0, .int .i64 0, .int .i64 0]) 1 [(0, (.tmp 44))]⟩,
    ⟨(some 46), none, .app 3 24 (.agg #[.int .i64 0, .int .i64 0, .int .i64 0]) (.tmp 36) (.tmp 45)⟩,
    ⟨(some 47), none, .fa 2 (.tmp 9)⟩,
    ⟨none, none, .store 1 (.tmp 47) (.tmp 46)⟩])
  (.kept [6, 9] (.seq (.ops [⟨(some 48), none, .load (some 3) (.tmp 9)⟩,
    ⟨(some 49), none, .call 34 [(.tmp 48)]⟩,
    ⟨(some 50), none, .ext 0 (.tmp 49)⟩,
    ⟨(some 51), none, .ext 1 (.tmp 49)⟩,
    ⟨none, none, .store 3 (.tmp 6) (.tmp 50)⟩,
    ⟨(some 7), none, .mv (.tmp 51)⟩])
  (.ret))))))))
theorem h_spec_AskLease : (Try.prog.funcs[n_spec_AskLease]?).bind (fun fn => fn.body.bind (comp Try.prog fn.ntmps)) = some (AS.strip c_spec_AskLease) := by kernel_rfl
theorem r_spec_AskLease : (Try.prog.funcs[n_spec_AskLease]?).map (fun fn => (fn.results.toList, fn.ntmps)) = some ([.cell 6 27, .tmp 7], 52) := by kernel_rfl
-- 13 loop.example/g00850/laws.vWatch
abbrev n_laws_vWatch : Nat := 13
def c_laws_vWatch_l1 : AS :=
  .seq (.seq (.ops [⟨(some 30), none, .mv (.tmp 5)⟩,
    ⟨(some 31), none, .fa 1 (.tmp 2)⟩,
    ⟨(some 32), none, .load none (.tmp 31)⟩,
    ⟨(some 33), none, .lens (.tmp 32)⟩,
    ⟨(some 34), none, .bin .lss (.tmp 30) (.tmp 33)⟩])
  (.cond (.tmp 34) (.skip) (.exit 0)))
  (.seq (.block 1 (.seq (.dops [⟨(some 37), none, .fa 1 (.tmp 2)⟩,
    ⟨(some 38), none, .load none (.tmp 37)⟩,
    ⟨(some 39), none, .mv (.tmp 5)⟩,
    ⟨(some 40), none, .ia 1 (.tmp 38) (.tmp 39)⟩,
    ⟨(some 41), none, .load (some 1) (.tmp 40)⟩,
    ⟨(some 42), none, .fa 1 (.tmp 3)⟩,
    ⟨(some 43), none, .load none (.tmp 42)⟩,
    ⟨(some 44), none, .mv (.tmp 5)⟩,
    ⟨(some 45), none, .ia 1 (.tmp 43) (.tmp 44)⟩,
    ⟨(some 46), none, .load (some 1) (.tmp 45)⟩,
    ⟨(some 47), none, .eqs true [(0, 0)] (.tmp 41) (.tmp 46)⟩])
  (.kept [2, 3, 5, 47] (.cond (.tmp 47) (.seq (.ops [⟨(some 4), none, .mv (.const (.bool false))⟩])
  (.ret)) (.skip)))))
  (.kept [2, 3, 5] (.ops [⟨(some 35), none, .mv (.tmp 5)⟩,
    ⟨(some 36), none, .bin .add (.tmp 35) (.const (.int .i64 1))⟩,
    ⟨(some 5), none, .mv (.tmp 36)⟩])))
def c_laws_vWatch_l2 : AS :=
  .seq (.seq (.ops [⟨(some 48), none, .mv (.tmp 6)⟩,
    ⟨(some 49), none, .fa 2 (.tmp 2)⟩,
    ⟨(some 50), none, .load none (.tmp 49)⟩,
    ⟨(some 51), none, .lens (.tmp 50)⟩,
    ⟨(some 52), none, .bin .lss (.tmp 48) (.tmp 51)⟩])
  (.cond (.tmp 52) (.skip) (.exit 2)))
  (.seq (.block 3 (.seq (.dops [⟨(some 55), none, .fa 2 (.tmp 2)⟩,
    ⟨(some 56), none, .load none (.tmp 55)⟩,
    ⟨(some 57), none, .mv (.tmp 6)⟩,
    ⟨(some 58), none, .ia 3 (.tmp 56) (.tmp 57)⟩,
    ⟨(some 59), none, .load (some 3) (.tmp 58)⟩,
    ⟨(some 60), none, .fa 2 (.tmp 3)⟩,
    ⟨(some 61), none, .load none (.tmp 60)⟩,
    ⟨(some 62), none, .mv (.tmp 6)⟩,
    ⟨(some 63), none, .ia 3 (.tmp 61) (.tmp 62)⟩,
    ⟨(some 64), none, .load (some 3) (.tmp 63)⟩,
    ⟨(some 65), none, .eqs true [(0, 0), (1, 0), (2, 0)] (.tmp 59) (.tmp 64)⟩])
  (.kept [2, 3, 6, 65] (.cond (.tmp 65) (.seq (.ops [⟨(some 4), none, .mv (.const (.bool false))⟩])
  (.ret)) (.skip)))))
  (.kept [2, 3, 6] (.ops [⟨(some 53), none, .mv (.tmp 6)⟩,
    ⟨(some 54), none, .bin .add (.tmp 53) (.const (.int .i64 1))⟩,
    ⟨(some 6), none, .mv (.tmp 54)⟩])))
def c_laws_vWatch : AS :=
  .seq (.ops [⟨(some 2), none, .box (.tmp 0)⟩,
    ⟨(some 3), none, .box (.tmp 1)⟩,
    ⟨(some 4), none, .mv (.const (.bool false))⟩])
  (.seq (.seq (.ops [⟨(some 7), none, .fa 0 (.tmp 2)⟩,
    ⟨(some 8), none, .load none (.tmp 7)⟩,
    ⟨(some 9), none, .fa 0 (.tmp 3)⟩,
    ⟨(some 10), none, .load none (.tmp 9)⟩,
    ⟨(some 11), none, .bin .neq (.tmp 8) (.tmp 10)⟩,
    ⟨(some 12), none, .mv (.tmp 11)⟩,
    ⟨(some 13), some (12, false), .fa 1 (.tmp 2)⟩,
    ⟨(some 14), some (12, false), .load none (.tmp 13)⟩,
    ⟨(some 15), some (12, false), .lens (.tmp 14)⟩,
    ⟨(some 16), some (12, false), .fa 1 (.tmp 3)⟩,
    ⟨(some 17), some (12, false), .load none (.tmp 16)⟩,
    ⟨(some 18), some (12, false), .lens (.tmp 17)⟩,
    ⟨(some 19), some (12, false), .bin .neq (.tmp 15) (.tmp 18)⟩,
    ⟨(some 20), none, .pick (.tmp 12) (.const (.bool true)) (.tmp 19)⟩,
    ⟨(some 21), none, .mv (.tmp 20)⟩,
    ⟨(some 22), some (21, false), .fa 2 (.tmp 2)⟩,
    ⟨(some 23), some (21, false), .load none (.tmp 22)⟩,
    ⟨(some 24), some (21, false), .lens (.tmp 23)⟩,
    ⟨(some 25), some (21, false), .fa 2 (.tmp 3)⟩,
    ⟨(some 26), some (21, false), .load none (.tmp 25)⟩,
    ⟨(some 27), some (21, false), .lens (.tmp 26)⟩,
    ⟨(some 28), some (21, false), .bin .neq (.tmp 24) (.tmp 27)⟩,
    ⟨(some 29), none, .pick (.tmp 21) (.const (.bool true)) (.tmp 28)⟩])
  (.kept [2, 3, 29] (.cond (.tmp 29) (.seq (.ops [⟨(some 4), none, .mv (.const (.bool false))⟩])
  (.ret)) (.skip))))
  (.kept [2, 3] (.seq (.seq (.ops [⟨(some 5), none, .mv (.const (.int .i64 0))⟩])
  (.block 0 (.loop 2 [(2, 0), (3, 0), (5, 0)] c_laws_vWatch_l1)))
  (.kept [2, 3] (.seq (.seq (.ops [⟨(some 6), none, .mv (.const (.int .i64 0))⟩])
  (.block 2 (.loop 2 [(2, 0), (3, 0), (6, 0)] c_laws_vWatch_l2)))
  (.kept [] (.seq (.ops [⟨(some 4), none, .mv (.const (.bool true))⟩])
  (.ret))))))))
theorem h_laws_vWatch : (Try.prog.funcs[n_laws_vWatch]?).bind (fun fn => fn.body.bind (comp Try.prog fn.ntmps)) = some (AS.strip c_laws_vWatch) := by kernel_rfl
theorem r_laws_vWatch : (Try.prog.funcs[n_laws_vWatch]?).map (fun fn => (fn.results.toList, fn.ntmps)) = some ([.tmp 4], 66) := by kernel_rfl
-- 14 loop.example/g00850/impl.HoldsLease
abbrev n_impl_HoldsLease : Nat := 14
def c_impl_HoldsLease : AS :=
  .seq (.ops [⟨(some 2), none, .box (.tmp 0)⟩,
    ⟨(some 4), none, .mv (.const (.bool false))⟩,
    ⟨(some 5), none, .mv (.const (.bool false))⟩])
  (.seq (.seq (.ops [⟨(some 6), none, .load (some 3) (.tmp 2)⟩,
    ⟨(some 7), none, .call 17 [(.tmp 6)]⟩,
    ⟨(some 8), none, .not (.tmp 7)⟩,
    ⟨(some 9), none, .mv (.tmp 8)⟩,
    ⟨(some 10), some (9, false), .load (some 3) (.tmp 2)⟩,
    ⟨(some 11), some (9, false), .mv (.tmp 1)⟩,
    ⟨(some 12), some (9, false), .call 18 [(.tmp 10), (.tmp 11)]⟩,
    ⟨(some 13), some (9, false), .not (.tmp 12)⟩,
    ⟨(some 14), none, .pick (.tmp 9) (.const (.bool true)) (.tmp 13)⟩])
  (.kept [1, 2, 14] (.cond (.tmp 14) (.seq (.ops [⟨(some 4), none, .mv (.const (.bool false))⟩,
    ⟨(some 5), none, .mv (.const (.bool false))⟩])
  (.ret)) (.skip))))
  (.kept [1, 2] (.seq (.ops [⟨(some 15), none, .load (some 3) (.tmp 2)⟩,
    ⟨(some 16), none, .mv (.tmp 1)⟩,
    ⟨(some 17), none, .call 35 [(.tmp 15), (.tmp 16)]⟩,
    ⟨(some 4), none, .mv (.tmp 17)⟩,
    ⟨(some 5), none, .mv (.const (.bool true))⟩])
  (.ret))))
theorem h_impl_HoldsLease : (Try.prog.funcs[n_impl_HoldsLease]?).bind (fun fn => fn.body.bind (comp Try.prog fn.ntmps)) = some (AS.strip c_impl_HoldsLease) := by kernel_rfl
theorem r_impl_HoldsLease : (Try.prog.funcs[n_impl_HoldsLease]?).map (fun fn => (fn.results.toList, fn.ntmps)) = some ([.tmp 4, .tmp 5], 18) := by kernel_rfl
-- 15 loop.example/g00850/impl.GiveBack
abbrev n_impl_GiveBack : Nat := 15
def c_impl_GiveBack_l1 : AS :=
  .seq (.ops [⟨(some 31), none, .bin .lss (.tmp 30) (.tmp 29)⟩])
  (.seq (.cond (.tmp 31) (.skip) (.exit 0))
  (.seq (.block 1 (.seq (.ops [⟨(some 32), none, .mv (.tmp 30)⟩,
    ⟨(some 33), none, .ia 3 (.tmp 28) (.tmp 30)⟩,
    ⟨(some 34), none, .load (some 3) (.tmp 33)⟩,
    ⟨(some 11), none, .alloc (.agg #[.int .i64 0, .int .i64 0, .int .i64 0])⟩,
    ⟨(some 10), none, .mv (.tmp 32)⟩,
    ⟨none, none, .store 3 (.tmp 11) (.tmp 34)⟩])
  (.seq (.ops [⟨(some 35), none, .fa 0 (.tmp 11)⟩,
    ⟨(some 36), none, .load none (.tmp 35)⟩,
    ⟨(some 37), none, .mv (.tmp 1)⟩,
    ⟨(some 38), none, .bin .eql (.tmp 36) (.tmp 37)⟩,
    ⟨(some 39), none, .mv (.tmp 38)⟩,
    ⟨(some 40), some (39, true), .fa 2 (.tmp 11)⟩,
    ⟨(some 41), some (39, true), .load none (.tmp 40)⟩,
    ⟨(some 42), some (39, true), .mv (.tmp 9)⟩,
    ⟨(some 43), some (39, true), .bin .geq (.tmp 41) (.tmp 42)⟩,
    ⟨(some 44), none, .pick (.tmp 39) (.tmp 43) (.const (.bool false))⟩])
  (.kept [1, 4, 8, 9, 10, 28, 29, 30, 44] (.cond (.tmp 44) (.ops [⟨(some 45), none, .fa 2 (.tmp 8)⟩,
    ⟨(some 46), none, .load none (.tmp 45)⟩,
    ⟨(some 47), none, .mv (.tmp 10)⟩,
    ⟨(some 48), none, .mv (.tmp 9)⟩,
    ⟨(some 49), none, .bin .sub (.tmp 48) (.const (.int .i64 1))⟩,
    ⟨(some 50), none, .ia 3 (.tmp 46) (.tmp 47)⟩,
    ⟨(some 51), none, .fa 2 (.tmp 50)⟩,
    ⟨none, none, .store 1 (.tmp 51) (.tmp 49)⟩]) (.skip))))))
  (.kept [1, 4, 8, 9, 28, 29, 30] (.ops [⟨(some 52), none, .bin .add (.tmp 30) (.const (.int .i64 1))⟩,
    ⟨(some 30), none, .mv (.tmp 52)⟩]))))
def c_impl_GiveBack : AS :=
  .seq (.ops [⟨(some 2), none, .box (.tmp 0)⟩,
    ⟨(some 4), none, .alloc (.agg #[.int .i64 0, .slice none 0 0, .slice none 0 0])⟩,
    ⟨(some 5), none, .mv (.const (.bool false))⟩])
  (.seq (.seq (.ops [⟨(some 13), none, .load (some 3) (.tmp 2)⟩,
    ⟨(some 14), none, .mv (.tmp 1)⟩,
    ⟨(some 15), none, .call 14 [(.tmp 13), (.tmp 14)]⟩,
    ⟨(some 12), none, .mv (.tmp 15)⟩,
    ⟨(some 16), none, .ext 0 (.tmp 12)⟩,
    ⟨(some 17), none, .ext 1 (.tmp 12)⟩,
    ⟨(some 6), none, .mv (.tmp 16)⟩,
    ⟨(some 7), none, .mv (.tmp 17)⟩])
  (.kept [1, 2, 4, 6] (.seq (.ops [⟨(some 18), none, .mv (.tmp 6)⟩,
    ⟨(some 19), none, .not (.tmp 18)⟩])
  (.cond (.tmp 19) (.seq (.ops [⟨(some 20), none, .build (.agg #[.int .i64 0, .slice none 0 0, .slice none 0 0]) []⟩,
    ⟨none, none, .store 3 (.tmp 4) (.tmp 20)⟩,
    ⟨(some 5), none, .mv (.const (.bool false))⟩])
  (.ret)) (.skip)))))
  (.kept [1, 2, 4] (.seq (.ops [⟨(some 21), none, .load (some 3) (.tmp 2)⟩,
    ⟨(some 22), none, .call 24 [(.tmp 21)]⟩,
    ⟨(some 8), none, .alloc (.agg #[.int .i64 0, .slice none 0 0, .slice none 0 0])⟩,
    ⟨none, none, .store 3 (.tmp 8) (.tmp 22)⟩])
  (.seq (.ops [⟨(some 23), none, .load (some 3) (.tmp 2)⟩,
    ⟨(some 24), none, .mv (.tmp 1)⟩,
    ⟨(some 25), none, .call 27 [(.tmp 23), (.tmp 24)]⟩,
    ⟨(some 26), none, .fld 0 none (.tmp 25)⟩,
    ⟨(some 9), none, .mv (.tmp 26)⟩])
  (.seq (.seq (.ops [⟨(some 27), none, .fa 2 (.tmp 8)⟩,
    ⟨(some 28), none, .load none (.tmp 27)⟩,
    ⟨(some 29), none, .lens (.tmp 28)⟩,
    ⟨(some 30), none, .mv (.const (.int .i64 0))⟩])
  (.block 0 (.loop 2 [(1, 0), (4, 0), (8, 0), (9, 0), (28, 0), (29, 0), (30, 0)] c_impl_GiveBack_l1)))
  (.kept [4, 8] (.seq (.ops [⟨(some 53), none, .load (some 3) (.tmp 8)⟩,
    ⟨(some 54), none, .call 25 [(.tmp 53)]⟩,
    ⟨(some 55), none, .ext 0 (.tmp 54)⟩,
    ⟨(some 56), none, .ext 1 (.tmp 54)⟩,
    ⟨none, none, .store 3 (.tmp 4) (.tmp 55)⟩,
    ⟨(some 5), none, .mv (.tmp 56)⟩])
  (.ret))))))))
theorem h_impl_GiveBack : (Try.prog.funcs[n_impl_GiveBack]?).bind (fun fn => fn.body.bind (comp Try.prog fn.ntmps)) = some (AS.strip c_impl_GiveBack) := by kernel_rfl
theorem r_impl_GiveBack : (Try.prog.funcs[n_impl_GiveBack]?).map (fun fn => (fn.results.toList, fn.ntmps)) = some ([.cell 4 27, .tmp 5], 57) := by kernel_rfl
-- 16 loop.example/g00850/spec.DrawGiveBack
abbrev n_spec_DrawGiveBack : Nat := 16
def c_spec_DrawGiveBack : AS :=
  .seq (.ops [⟨(some 2), none, .alloc (.agg #[.int .i64 0, .slice none 0 0, .slice none 0 0])⟩,
    ⟨(some 3), none, .mv (.const (.int .i64 0))⟩])
  (.seq (.ops [⟨(some 6), none, .mv (.tmp 0)⟩,
    ⟨(some 7), none, .build (.agg #[.slice none 0 0, .int .i64 0, .int .u64 0]) [(0, 1, (.tmp 6))]⟩,
    ⟨(some 8), none, .box (.tmp 7)⟩,
    ⟨(some 4), none, .mv (.tmp 8)⟩])
  (.seq (.ops [⟨(some 9), none, .mv (.tmp 4)⟩,
    ⟨(some 10), none, .call 28 [(.tmp 9)]⟩,
    ⟨(some 5), none, .alloc (.agg #[.int .i64 0, .slice none 0 0, .slice none 0 0])⟩,
    ⟨none, none, .store 3 (.tmp 5) (.tmp 10)⟩])
  (.seq (.rops [(none, ⟨(some 11), none, .load (some 3) (.tmp 5)⟩),
    (none, ⟨(some 12), none, .mv (.tmp 4)⟩),
    (some [⟨(some 11), none, .load (some 3) (.tmp 5)⟩], ⟨(some 13), none, .call 29 [(.tmp 12), (.const (.int .i64 6))]⟩),
    (none, ⟨(some 14), none, .bin .sub (.tmp 13) (.const (.int .i64 1))⟩),
    (some [⟨(some 14), none, .bin .sub (.tmp 13) (.const (.int .i64 1))⟩], ⟨none, none, .store 3 (.tmp 2) (.tmp 11)⟩),
    (none, ⟨(some 3), none, .mv (.tmp 14)⟩)])
  (.ret))))
theorem h_spec_DrawGiveBack : (Try.prog.funcs[n_spec_DrawGiveBack]?).bind (fun fn => fn.body.bind (comp Try.prog fn.ntmps)) = some (AS.strip c_spec_DrawGiveBack) := by kernel_rfl
theorem r_spec_DrawGiveBack : (Try.prog.funcs[n_spec_DrawGiveBack]?).map (fun fn => (fn.results.toList, fn.ntmps)) = some ([.cell 2 27, .tmp 3], 15) := by kernel_rfl
-- 17 loop.example/g00850/impl.GoodWatch
abbrev n_impl_GoodWatch : Nat := 17
def c_impl_GoodWatch : AS :=
  .seq (.ops [⟨(some 1), none, .box (.tmp 0)⟩,
    ⟨(some 2), none, .mv (.const (.bool false))⟩])
  (.seq (.ops [⟨(some 3), none, .fa 0 (.tmp 1)⟩,
    ⟨(some 4), none, .load none (.tmp 3)⟩,
    ⟨(some 5), none, .call 23 [(.tmp 4)]⟩,
    ⟨(some 6), none, .mv (.tmp 5)⟩,
    ⟨(some 7), some (6, true), .fa 1 (.tmp 1)⟩,
    ⟨(some 8), some (6, true), .load none (.tmp 7)⟩,
    ⟨(some 9), some (6, true), .call 36 [(.tmp 8)]⟩,
    ⟨(some 10), none, .pick (.tmp 6) (.tmp 9) (.const (.bool false))⟩,
    ⟨(some 11), none, .mv (.tmp 10)⟩,
    ⟨(some 12), some (11, true), .fa 2 (.tmp 1)⟩,
    ⟨(some 13), some (11, true), .load none (.tmp 12)⟩,
    ⟨(some 14), some (11, true), .lens (.tmp 13)⟩,
    ⟨(some 15), some (11, true), .bin .leq (.tmp 14) (.const (.int .i64 40))⟩,
    ⟨(some 16), none, .pick (.tmp 11) (.tmp 15) (.const (.bool false))⟩,
    ⟨(some 17), none, .mv (.tmp 16)⟩,
    ⟨(some 18), some (17, true), .fa 2 (.tmp 1)⟩,
    ⟨(some 19), some (17, true), .load none (.tmp 18)⟩,
    ⟨(some 20), some (17, true), .mkf 38 [(.tmp 1)]⟩,
    ⟨(some 21), some (17, true), .call 37 [(.tmp 19), (.tmp 20)]⟩,
    ⟨(some 22), some (17, true), .not (.tmp 21)⟩,
    ⟨(some 23), none, .pick (.tmp 17) (.tmp 22) (.const (.bool false))⟩,
    ⟨(some 2), none, .mv (.tmp 23)⟩])
  (.ret))
theorem h_impl_GoodWatch : (Try.prog.funcs[n_impl_GoodWatch]?).bind (fun fn => fn.body.bind (comp Try.prog fn.ntmps)) = some (AS.strip c_impl_GoodWatch) := by kernel_rfl
theorem r_impl_GoodWatch : (Try.prog.funcs[n_impl_GoodWatch]?).map (fun fn => (fn.results.toList, fn.ntmps)) = some ([.tmp 2], 24) := by kernel_rfl
-- 18 (loop.example/g00850/impl.Watch).isNode
abbrev n_impl_Watch_isNode : Nat := 18
def c_impl_Watch_isNode : AS :=
  .seq (.ops [⟨(some 2), none, .box (.tmp 0)⟩,
    ⟨(some 4), none, .mv (.const (.bool false))⟩])
  (.seq (.ops [⟨(some 5), none, .mv (.tmp 1)⟩,
    ⟨(some 6), none, .fa 1 (.tmp 2)⟩,
    ⟨(some 7), none, .load none (.tmp 6)⟩,
    ⟨(some 8), none, .lens (.tmp 7)⟩,
    ⟨(some 9), none, .bin .sub (.tmp 8) (.const (.int .i64 1))⟩,
    ⟨(some 10), none, .call 26 [(.tmp 5), (.const (.int .i64 0)), (.tmp 9)]⟩,
    ⟨(some 4), none, .mv (.tmp 10)⟩])
  (.ret))
theorem h_impl_Watch_isNode : (Try.prog.funcs[n_impl_Watch_isNode]?).bind (fun fn => fn.body.bind (comp Try.prog fn.ntmps)) = some (AS.strip c_impl_Watch_isNode) := by kernel_rfl
theorem r_impl_Watch_isNode : (Try.prog.funcs[n_impl_Watch_isNode]?).map (fun fn => (fn.results.toList, fn.ntmps)) = some ([.tmp 4], 11) := by kernel_rfl
-- 19 (loop.example/g00850/impl.Watch).wait
abbrev n_impl_Watch_wait : Nat := 19
def c_impl_Watch_wait_l1 : AS :=
  .seq (.ops [⟨(some 12), none, .bin .lss (.tmp 11) (.tmp 10)⟩])
  (.seq (.cond (.tmp 12) (.skip) (.exit 0))
  (.seq (.block 1 (.seq (.ops [⟨(some 13), none, .ia 3 (.tmp 9) (.tmp 11)⟩,
    ⟨(some 14), none, .load (some 3) (.tmp 13)⟩,
    ⟨(some 7), none, .alloc (.agg #[.int .i64 0, .int .i64 0, .int .i64 0])⟩,
    ⟨none, none, .store 3 (.tmp 7) (.tmp 14)⟩])
  (.seq (.ops [⟨(some 15), none, .fa 0 (.tmp 7)⟩,
    ⟨(some 16), none, .load none (.tmp 15)⟩,
    ⟨(some 17), none, .mv (.tmp 1)⟩,
    ⟨(some 18), none, .bin .neq (.tmp 16) (.tmp 17)⟩])
  (.cond (.tmp 18) (.tops [(1, 0), (2, 0), (5, 0), (9, 0), (10, 0), (11, 0)] (.rd ⟨(some 19), none, .mv (.tmp 5)⟩ (.rd ⟨(some 20), none, .fa 2 (.tmp 7)⟩ (.rd ⟨(some 21), none, .load none (.tmp 20)⟩ (.rd ⟨(some 22), none, .bin .add (.tmp 21) (.const (.int .i64 1))⟩ (.rd ⟨(some 23), none, .load (some 3) (.tmp 2)⟩ (.rd ⟨(some 24), none, .mv (.tmp 1)⟩ (.alt [⟨(some 22), none, .bin .add (.tmp 21) (.const (.int .i64 1))⟩, ⟨(some 21), none, .load none (.tmp 20)⟩, ⟨(some 20), none, .fa 2 (.tmp 7)⟩, ⟨(some 19), none, .mv (.tmp 5)⟩] ⟨(some 25), none, .call 27 [(.tmp 23), (.tmp 24)]⟩
    (.rd ⟨(some 26), none, .fld 0 none (.tmp 25)⟩ (.rd ⟨(some 27), none, .bin .sub (.tmp 22) (.tmp 26)⟩ (.rd ⟨(some 28), none, .bmax [(.tmp 19), (.tmp 27)]⟩ (.alt [] ⟨(some 5), none, .mv (.tmp 28)⟩
    (.done)
    (.none)))))
    (.none))))))))) (.skip)))))
  (.kept [1, 2, 5, 9, 10, 11] (.ops [⟨(some 29), none, .bin .add (.tmp 11) (.const (.int .i64 1))⟩,
    ⟨(some 11), none, .mv (.tmp 29)⟩]))))
def c_impl_Watch_wait : AS :=
  .seq (.ops [⟨(some 2), none, .box (.tmp 0)⟩,
    ⟨(some 4), none, .mv (.const (.int .i64 0))⟩])
  (.seq (.ops [⟨(some 5), none, .mv (.const (.int .i64 0))⟩])
  (.seq (.seq (.ops [⟨(some 8), none, .fa 2 (.tmp 2)⟩,
    ⟨(some 9), none, .load none (.tmp 8)⟩,
    ⟨(some 10), none, .lens (.tmp 9)⟩,
    ⟨(some 11), none, .mv (.const (.int .i64 0))⟩])
  (.block 0 (.loop 2 [(1, 0), (2, 0), (5, 0), (9, 0), (10, 0), (11, 0)] c_impl_Watch_wait_l1)))
  (.kept [5] (.seq (.ops [⟨(some 30), none, .mv (.tmp 5)⟩,
    ⟨(some 4), none, .mv (.tmp 30)⟩])
  (.ret)))))
theorem h_impl_Watch_wait : (Try.prog.funcs[n_impl_Watch_wait]?).bind (fun fn => fn.body.bind (comp Try.prog fn.ntmps)) = some (AS.strip c_impl_Watch_wait) := by kernel_rfl
theorem r_impl_Watch_wait : (Try.prog.funcs[n_impl_Watch_wait]?).map (fun fn => (fn.results.toList, fn.ntmps)) = some ([.tmp 4], 31) := by kernel_rfl
-- 20 loop.example/g00850/spec.l10Has
abbrev n_spec_l10Has : Nat := 20
def c_spec_l10Has : AS :=
  .seq (.ops [⟨(some 2), none, .box (.tmp 0)⟩,
    ⟨(some 4), none, .mv (.const (.bool false))⟩])
  (.seq (.ops [⟨(some 5), none, .load (some 3) (.tmp 2)⟩,
    ⟨(some 6), none, .call 39 [(.tmp 5)]⟩,
    ⟨(some 7), none, .mv (.tmp 6)⟩,
    ⟨(some 8), some (7, true), .mv (.tmp 1)⟩,
    ⟨(some 9), some (7, true), .fa 1 (.tmp 2)⟩,
    ⟨(some 10), some (7, true), .load none (.tmp 9)⟩,
    ⟨(some 11), some (7, true), .lens (.tmp 10)⟩,
    ⟨(some 12), some (7, true), .bin .sub (.tmp 11) (.const (.int .i64 1))⟩,
    ⟨(some 13), some (7, true), .call 31 [(.tmp 8), (.const (.int .i64 0)), (.tmp 12)]⟩,
    ⟨(some 14), none, .pick (.tmp 7) (.tmp 13) (.const (.bool false))⟩,
    ⟨(some 4), none, .mv (.tmp 14)⟩])
  (.ret))
theorem h_spec_l10Has : (Try.prog.funcs[n_spec_l10Has]?).bind (fun fn => fn.body.bind (comp Try.prog fn.ntmps)) = some (AS.strip c_spec_l10Has) := by kernel_rfl
theorem r_spec_l10Has : (Try.prog.funcs[n_spec_l10Has]?).map (fun fn => (fn.results.toList, fn.ntmps)) = some ([.tmp 4], 15) := by kernel_rfl
-- 21 loop.example/g00850/spec.l10Span
abbrev n_spec_l10Span : Nat := 21
def c_spec_l10Span : AS :=
  .seq (.ops [⟨(some 2), none, .box (.tmp 0)⟩,
    ⟨(some 4), none, .alloc (.agg #[.int .i64 0, .int .i64 0])⟩])
  (.seq (.rops [(none, ⟨(some 5), none, .fa 1 (.tmp 2)⟩),
    (none, ⟨(some 6), none, .load none (.tmp 5)⟩),
    (none, ⟨(some 7), none, .mv (.tmp 1)⟩),
    (none, ⟨(some 8), none, .ia 1 (.tmp 6) (.tmp 7)⟩),
    (none, ⟨(some 9), none, .load (some 1) (.tmp 8)⟩),
    (none, ⟨(some 10), none, .fa 0 (.tmp 2)⟩),
    (none, ⟨(some 11), none, .load none (.tmp 10)⟩),
    (some [], ⟨(some 12), none, .call 40 [(.tmp 9), (.tmp 11)]⟩),
    (some [], ⟨none, none, .store 2 (.tmp 4) (.tmp 12)⟩)])
  (.ret))
theorem h_spec_l10Span : (Try.prog.funcs[n_spec_l10Span]?).bind (fun fn => fn.body.bind (comp Try.prog fn.ntmps)) = some (AS.strip c_spec_l10Span) := by kernel_rfl
theorem r_spec_l10Span : (Try.prog.funcs[n_spec_l10Span]?).map (fun fn => (fn.results.toList, fn.ntmps)) = some ([.cell 4 45], 13) := by kernel_rfl
-- 22 loop.example/g00850/spec.l1Most
abbrev n_spec_l1Most : Nat := 22
def c_spec_l1Most : AS :=
  .seq (.ops [⟨(some 4), none, .mv (.const (.int .i64 0))⟩])
  (.seq (.seq (.ops [⟨(some 5), none, .mv (.tmp 0)⟩,
    ⟨(some 6), none, .mv (.tmp 1)⟩,
    ⟨(some 7), none, .bin .gtr (.tmp 5) (.tmp 6)⟩])
  (.cond (.tmp 7) (.seq (.ops [⟨(some 8), none, .mv (.tmp 0)⟩,
    ⟨(some 4), none, .mv (.tmp 8)⟩])
  (.ret)) (.skip)))
  (.seq (.ops [⟨(some 9), none, .mv (.tmp 1)⟩,
    ⟨(some 4), none, .mv (.tmp 9)⟩])
  (.ret)))
theorem h_spec_l1Most : (Try.prog.funcs[n_spec_l1Most]?).bind (fun fn => fn.body.bind (comp Try.prog fn.ntmps)) = some (AS.strip c_spec_l1Most) := by kernel_rfl
theorem r_spec_l1Most : (Try.prog.funcs[n_spec_l1Most]?).map (fun fn => (fn.results.toList, fn.ntmps)) = some ([.tmp 4], 10) := by kernel_rfl
-- 23 loop.example/g00850/impl.isTrue
abbrev n_impl_isTrue : Nat := 23
def c_impl_isTrue : AS :=
  .seq (.ops [⟨(some 2), none, .mv (.const (.bool false))⟩])
  (.seq (.ops [⟨(some 3), none, .mv (.tmp 0)⟩,
    ⟨(some 4), none, .call 26 [(.tmp 3), (.const (.int .i64 0)), (.const (.int .i64 100000))]⟩,
    ⟨(some 2), none, .mv (.tmp 4)⟩])
  (.ret))
theorem h_impl_isTrue : (Try.prog.funcs[n_impl_isTrue]?).bind (fun fn => fn.body.bind (comp Try.prog fn.ntmps)) = some (AS.strip c_impl_isTrue) := by kernel_rfl
theorem r_impl_isTrue : (Try.prog.funcs[n_impl_isTrue]?).map (fun fn => (fn.results.toList, fn.ntmps)) = some ([.tmp 2], 5) := by kernel_rfl
-- 24 loop.example/g00850/impl.copyWatch
abbrev n_impl_copyWatch : Nat := 24
def c_impl_copyWatch : AS :=
  .seq (.ops [⟨(some 1), none, .box (.tmp 0)⟩,
    ⟨(some 2), none, .alloc (.agg #[.int .i64 0, .slice none 0 0, .slice none 0 0])⟩])
  (.seq (.rops [(none, ⟨(some 3), none, .fa 0 (.tmp 1)⟩),
    (none, ⟨(some 4), none, .load none (.tmp 3)⟩),
    (none, ⟨(some 5), none, .fa 1 (.tmp 1)⟩),
    (none, ⟨(some 6), none, .load none (.tmp 5)⟩),
    (none, ⟨(some 8), none, .fa 2 (.tmp 1)⟩),
    (none, ⟨(some 9), none, .load none (.tmp 8)⟩),
    (some [⟨(some 9), none, .load none (.tmp 8)⟩, ⟨(some 8), none, .fa 2 (.tmp 1)⟩, ⟨(some 4), none, .load none (.tmp 3)⟩, ⟨(some 3), none, .fa 0 (.tmp 1)⟩], ⟨(some 7), none, .call 41 [(.tmp 6)]⟩),
    (some [⟨(some 4), none, .load none (.tmp 3)⟩, ⟨(some 3), none, .fa 0 (.tmp 1)⟩], ⟨(some 10), none, .call 42 [(.tmp 9)]⟩),
    (none, ⟨(some 11), none, .build (.agg #[.int .i64 0, .slice none 0 0, .slice none 0 0]) [(0, 1, (.tmp 4)), (1, 1, (.tmp 7)), (2, 1, (.tmp 10))]⟩),
    (some [], ⟨none, none, .store 3 (.tmp 2) (.tmp 11)⟩)])
  (.ret))
theorem h_impl_copyWatch : (Try.prog.funcs[n_impl_copyWatch]?).bind (fun fn => fn.body.bind (comp Try.prog fn.ntmps)) = some (AS.strip c_impl_copyWatch) := by kernel_rfl
theorem r_impl_copyWatch : (Try.prog.funcs[n_impl_copyWatch]?).map (fun fn => (fn.results.toList, fn.ntmps)) = some ([.cell 2 27], 12) := by kernel_rfl
-- 25 loop.example/g00850/impl.ifWatch
abbrev n_impl_ifWatch : Nat := 25
def c_impl_ifWatch : AS :=
  .seq (.ops [⟨(some 1), none, .box (.tmp 0)⟩,
    ⟨(some 2), none, .alloc (.agg #[.int .i64 0, .slice none 0 0, .slice none 0 0])⟩,
    ⟨(some 3), none, .mv (.const (.bool false))⟩])
  (.seq (.seq (.ops [⟨(some 4), none, .load (some 3) (.tmp 1)⟩,
    ⟨(some 5), none, .call 17 [(.tmp 4)]⟩,
    ⟨(some 6), none, .not (.tmp 5)⟩])
  (.cond (.tmp 6) (.seq (.ops [⟨(some 7), none, .build (.agg #[.int .i64 0, .slice none 0 0, .slice none 0 0]) []⟩,
    ⟨none, none, .store 3 (.tmp 2) (.tmp 7)⟩,
    ⟨(some 3), none, .mv (.const (.bool false))⟩])
  (.ret)) (.skip)))
  (.seq (.ops [⟨(some 8), none, .load (some 3) (.tmp 1)⟩,
    ⟨none, none, .store 3 (.tmp 2) (.tmp 8)⟩,
    ⟨(some 3), none, .mv (.const (.bool true))⟩])
  (.ret)))
theorem h_impl_ifWatch : (Try.prog.funcs[n_impl_ifWatch]?).bind (fun fn => fn.body.bind (comp Try.prog fn.ntmps)) = some (AS.strip c_impl_ifWatch) := by kernel_rfl
theorem r_impl_ifWatch : (Try.prog.funcs[n_impl_ifWatch]?).map (fun fn => (fn.results.toList, fn.ntmps)) = some ([.cell 2 27, .tmp 3], 9) := by kernel_rfl
-- 26 loop.example/g00850/impl.within
abbrev n_impl_within : Nat := 26
def c_impl_within : AS :=
  .seq (.ops [⟨(some 6), none, .mv (.const (.bool false))⟩])
  (.seq (.ops [⟨(some 7), none, .mv (.tmp 0)⟩,
    ⟨(some 8), none, .mv (.tmp 1)⟩,
    ⟨(some 9), none, .bin .geq (.tmp 7) (.tmp 8)⟩,
    ⟨(some 10), none, .mv (.tmp 9)⟩,
    ⟨(some 11), some (10, true), .mv (.tmp 0)⟩,
    ⟨(some 12), some (10, true), .mv (.tmp 2)⟩,
    ⟨(some 13), some (10, true), .bin .leq (.tmp 11) (.tmp 12)⟩,
    ⟨(some 14), none, .pick (.tmp 10) (.tmp 13) (.const (.bool false))⟩,
    ⟨(some 6), none, .mv (.tmp 14)⟩])
  (.ret))
theorem h_impl_within : (Try.prog.funcs[n_impl_within]?).bind (fun fn => fn.body.bind (comp Try.prog fn.ntmps)) = some (AS.strip c_impl_within) := by kernel_rfl
theorem r_impl_within : (Try.prog.funcs[n_impl_within]?).map (fun fn => (fn.results.toList, fn.ntmps)) = some ([.tmp 6], 15) := by kernel_rfl
-- 27 (loop.example/g00850/impl.Watch).span
abbrev n_impl_Watch_span : Nat := 27
def c_impl_Watch_span : AS :=
  .seq (.ops [⟨(some 2), none, .box (.tmp 0)⟩,
    ⟨(some 4), none, .alloc (.agg #[.int .i64 0, .int .i64 0])⟩])
  (.seq (.rops [(none, ⟨(some 5), none, .fa 1 (.tmp 2)⟩),
    (none, ⟨(some 6), none, .load none (.tmp 5)⟩),
    (none, ⟨(some 7), none, .mv (.tmp 1)⟩),
    (none, ⟨(some 8), none, .ia 1 (.tmp 6) (.tmp 7)⟩),
    (none, ⟨(some 9), none, .load (some 1) (.tmp 8)⟩),
    (none, ⟨(some 10), none, .fa 0 (.tmp 2)⟩),
    (none, ⟨(some 11), none, .load none (.tmp 10)⟩),
    (some [], ⟨(some 12), none, .call 43 [(.tmp 9), (.tmp 11)]⟩),
    (some [], ⟨none, none, .store 2 (.tmp 4) (.tmp 12)⟩)])
  (.ret))
theorem h_impl_Watch_span : (Try.prog.funcs[n_impl_Watch_span]?).bind (fun fn => fn.body.bind (comp Try.prog fn.ntmps)) = some (AS.strip c_impl_Watch_span) := by kernel_rfl
theorem r_impl_Watch_span : (Try.prog.funcs[n_impl_Watch_span]?).map (fun fn => (fn.results.toList, fn.ntmps)) = some ([.cell 4 45], 13) := by kernel_rfl
-- 28 loop.example/g00850/spec.l10Odd
abbrev n_spec_l10Odd : Nat := 28
def c_spec_l10Odd_l1 : AS :=
  .seq (.seq (.ops [⟨(some 44), none, .mv (.tmp 4)⟩,
    ⟨(some 45), none, .mv (.tmp 0)⟩,
    ⟨(some 46), none, .call 29 [(.tmp 45), (.const (.int .i64 3))]⟩,
    ⟨(some 47), none, .bin .add (.const (.int .i64 39)) (.tmp 46)⟩,
    ⟨(some 48), none, .bin .lss (.tmp 44) (.tmp 47)⟩])
  (.cond (.tmp 48) (.skip) (.exit 1)))
  (.seq (.block 2 (.ops [⟨(some 51), none, .fa 2 (.tmp 3)⟩,
    ⟨(some 52), none, .load none (.tmp 51)⟩,
    ⟨(some 53), none, .build (.agg #[.int .i64 0, .int .i64 0, .int .i64 0]) [(2, 1, (.const (.int .i64 (-1))))]⟩,
    ⟨(some 54), none, .bsl 3 (.agg #[.int .i64 0, .int .i64 0, .int .i64 0]) 1 [(0, (.tmp 53))]⟩,
    ⟨(some 55), none, .app 3 24 (.agg #[.int .i64 0, .int .i64 0, .int .i64 0]) (.tmp 52) (.tmp 54)⟩,
    ⟨(some 56), none, .fa 2 (.tmp 3)⟩,
    ⟨none, none, .store 1 (.tmp 56) (.tmp 55)⟩]))
  (.kept [0, 2, 3, 4] (.ops [⟨(some 49), none, .mv (.tmp 4)⟩,
    ⟨(some 50), none, .bin .add (.tmp 49) (.const (.int .i64 1))⟩,
    ⟨(some 4), none, .mv (.tmp 50)⟩])))
def c_spec_l10Odd : AS :=
  .seq (.ops [⟨(some 2), none, .alloc (.agg #[.int .i64 0, .slice none 0 0, .slice none 0 0])⟩])
  (.seq (.ops [⟨(some 5), none, .mv (.tmp 0)⟩,
    ⟨(some 6), none, .call 44 [(.tmp 5), (.const (.int .i64 16))]⟩,
    ⟨(some 3), none, .alloc (.agg #[.int .i64 0, .slice none 0 0, .slice none 0 0])⟩,
    ⟨none, none, .store 3 (.tmp 3) (.tmp 6)⟩])
  (.seq (.seq (.ops [⟨(some 7), none, .mv (.tmp 0)⟩,
    ⟨(some 8), none, .call 29 [(.tmp 7), (.const (.int .i64 14))]⟩])
  (.block 0 (.seq (.ops [⟨(some 10), none, .bin .eql (.tmp 8) (.const (.int .i64 0))⟩,
    ⟨(some 9), none, .mv (.tmp 10)⟩])
  (.cond (.tmp 9) (.ops [⟨(some 11), none, .mv (.tmp 0)⟩,
    ⟨(some 12), none, .bsl 1 (.int .i64 0) 3 [(0, (.const (.int .i64 (-1)))), (1, (.const (.int .i64 100000))), (2, (.const (.int .i64 100001)))]⟩,
    ⟨(some 13), none, .call 30 [(.tmp 11), (.tmp 12)]⟩,
    ⟨(some 14), none, .fa 0 (.tmp 3)⟩,
    ⟨none, none, .store 1 (.tmp 14) (.tmp 13)⟩]) (.seq (.ops [⟨(some 16), none, .bin .eql (.tmp 8) (.const (.int .i64 1))⟩,
    ⟨(some 15), none, .mv (.tmp 16)⟩])
  (.cond (.tmp 15) (.rops [(none, ⟨(some 17), none, .fa 1 (.tmp 3)⟩),
    (none, ⟨(some 18), none, .load none (.tmp 17)⟩),
    (none, ⟨(some 19), none, .mv (.tmp 0)⟩),
    (some [⟨(some 19), none, .mv (.tmp 0)⟩, ⟨(some 18), none, .load none (.tmp 17)⟩, ⟨(some 17), none, .fa 1 (.tmp 3)⟩], ⟨(some 20), none, .bsl 1 (.int .i64 0) 4 [(0, (.const (.int .i64 (-6)))), (1, (.const (.int .i64 (-5)))), (2, (.const (.int .i64 5))), (3, (.const (.int .i64 6)))]⟩),
    (some [⟨(some 18), none, .load none (.tmp 17)⟩, ⟨(some 17), none, .fa 1 (.tmp 3)⟩], ⟨(some 21), none, .call 30 [(.tmp 19), (.tmp 20)]⟩),
    (none, ⟨(some 22), none, .ia 1 (.tmp 18) (.const (.int .i64 0))⟩),
    (none, ⟨(some 23), none, .fa 0 (.tmp 22)⟩),
    (some [], ⟨none, none, .store 1 (.tmp 23) (.tmp 21)⟩)]) (.seq (.ops [⟨(some 25), none, .bin .eql (.tmp 8) (.const (.int .i64 2))⟩,
    ⟨(some 24), none, .mv (.tmp 25)⟩])
  (.cond (.tmp 24) (.tops [(0, 0), (2, 0), (3, 0)] (.rd ⟨(some 26), none, .fa 2 (.tmp 3)⟩ (.rd ⟨(some 27), none, .load none (.tmp 26)⟩ (.rd ⟨(some 28), none, .mv (.tmp 0)⟩ (.rd ⟨(some 30), none, .mv (.tmp 0)⟩ (.rd ⟨(some 33), none, .mv (.tmp 0)⟩ (.alt [⟨(some 33), none, .mv (.tmp 0)⟩, ⟨(some 30), none, .mv (.tmp 0)⟩, ⟨(some 27), none, .load none (.tmp 26)⟩, ⟨(some 26), none, .fa 2 (.tmp 3)⟩] ⟨(some 29), none, .call 29 [(.tmp 28), (.const (.int .i64 6))]⟩
    (.alt [⟨(some 33), none, .mv (.tmp 0)⟩, ⟨(some 30), none, .mv (.tmp 0)⟩, ⟨(some 27), none, .load none (.tmp 26)⟩, ⟨(some 26), none, .fa 2 (.tmp 3)⟩] ⟨(some 31), none, .bsl 1 (.int .i64 0) 3 [(0, (.const (.int .i64 (-21)))), (1, (.const (.int .i64 (-20)))), (2, (.const (.int .i64 0)))]⟩
    (.alt [⟨(some 33), none, .mv (.tmp 0)⟩, ⟨(some 27), none, .load none (.tmp 26)⟩, ⟨(some 26), none, .fa 2 (.tmp 3)⟩] ⟨(some 32), none, .call 30 [(.tmp 30), (.tmp 31)]⟩
    (.alt [⟨(some 33), none, .mv (.tmp 0)⟩, ⟨(some 27), none, .load none (.tmp 26)⟩, ⟨(some 26), none, .fa 2 (.tmp 3)⟩] ⟨(some 34), none, .bsl 1 (.int .i64 0) 3 [(0, (.const (.int .i64 40))), (1, (.const (.int .i64 100200))), (2, (.const (.int .i64 100201)))]⟩
    (.alt [⟨(some 27), none, .load none (.tmp 26)⟩, ⟨(some 26), none, .fa 2 (.tmp 3)⟩] ⟨(some 35), none, .call 30 [(.tmp 33), (.tmp 34)]⟩
    (.rd ⟨(some 36), none, .build (.agg #[.int .i64 0, .int .i64 0, .int .i64 0]) [(0, 1, (.tmp 29)), (1, 1, (.tmp 32)), (2, 1, (.tmp 35))]⟩ (.alt [⟨(some 27), none, .load none (.tmp 26)⟩, ⟨(some 26), none, .fa 2 (.tmp 3)⟩] ⟨(some 37), none, .bsl 3 (.agg #[.int .i64 0, .int .i64 0, .int .i64 0]) 1 [(0, (.tmp 36))]⟩
    (.alt [] ⟨(some 38), none, .app 3 24 (.agg #[.int .i64 0, .int .i64 0, .int .i64 0]) (.tmp 27) (.tmp 37)⟩
    (.rd ⟨(some 39), none, .fa 2 (.tmp 3)⟩ (.alt [] ⟨none, none, .store 1 (.tmp 39) (.tmp 38)⟩
    (.done)
    (.none)))
    (.none))
    (.none)))
    (.none))
    (.none))
    (.alt [⟨(some 33), none, .mv (.tmp 0)⟩, ⟨(some 30), none, .mv (.tmp 0)⟩, ⟨(some 27), none, .load none (.tmp 26)⟩, ⟨(some 26), none, .fa 2 (.tmp 3)⟩] ⟨(some 34), none, .bsl 1 (.int .i64 0) 3 [(0, (.const (.int .i64 40))), (1, (.const (.int .i64 100200))), (2, (.const (.int .i64 100201)))]⟩
    (.alt [⟨(some 33), none, .mv (.tmp 0)⟩, ⟨(some 27), none, .load none (.tmp 26)⟩, ⟨(some 26), none, .fa 2 (.tmp 3)⟩] ⟨(some 32), none, .call 30 [(.tmp 30), (.tmp 31)]⟩
    (.alt [⟨(some 27), none, .load none (.tmp 26)⟩, ⟨(some 26), none, .fa 2 (.tmp 3)⟩] ⟨(some 35), none, .call 30 [(.tmp 33), (.tmp 34)]⟩
    (.rd ⟨(some 36), none, .build (.agg #[.int .i64 0, .int .i64 0, .int .i64 0]) [(0, 1, (.tmp 29)), (1, 1, (.tmp 32)), (2, 1, (.tmp 35))]⟩ (.alt [⟨(some 27), none, .load none (.tmp 26)⟩, ⟨(some 26), none, .fa 2 (.tmp 3)⟩] ⟨(some 37), none, .bsl 3 (.agg #[.int .i64 0, .int .i64 0, .int .i64 0]) 1 [(0, (.tmp 36))]⟩
    (.alt [] ⟨(some 38), none, .app 3 24 (.agg #[.int .i64 0, .int .i64 0, .int .i64 0]) (.tmp 27) (.tmp 37)⟩
    (.rd ⟨(some 39), none, .fa 2 (.tmp 3)⟩ (.alt [] ⟨none, none, .store 1 (.tmp 39) (.tmp 38)⟩
    (.done)
    (.none)))
    (.none))
    (.none)))
    (.none))
    (.none))
    (.none)))
    (.alt [⟨(some 33), none, .mv (.tmp 0)⟩, ⟨(some 30), none, .mv (.tmp 0)⟩, ⟨(some 27), none, .load none (.tmp 26)⟩, ⟨(some 26), none, .fa 2 (.tmp 3)⟩] ⟨(some 34), none, .bsl 1 (.int .i64 0) 3 [(0, (.const (.int .i64 40))), (1, (.const (.int .i64 100200))), (2, (.const (.int .i64 100201)))]⟩
    (.alt [⟨(some 33), none, .mv (.tmp 0)⟩, ⟨(some 30), none, .mv (.tmp 0)⟩, ⟨(some 27), none, .load none (.tmp 26)⟩, ⟨(some 26), none, .fa 2 (.tmp 3)⟩] ⟨(some 31), none, .bsl 1 (.int .i64 0) 3 [(0, (.const (.int .i64 (-21)))), (1, (.const (.int .i64 (-20)))), (2, (.const (.int .i64 0)))]⟩
    (.alt [⟨(some 33), none, .mv (.tmp 0)⟩, ⟨(some 27), none, .load none (.tmp 26)⟩, ⟨(some 26), none, .fa 2 (.tmp 3)⟩] ⟨(some 32), none, .call 30 [(.tmp 30), (.tmp 31)]⟩
    (.alt [⟨(some 27), none, .load none (.tmp 26)⟩, ⟨(some 26), none, .fa 2 (.tmp 3)⟩] ⟨(some 35), none, .call 30 [(.tmp 33), (.tmp 34)]⟩
    (.rd ⟨(some 36), none, .build (.agg #[.int .i64 0, .int .i64 0, .int .i64 0]) [(0, 1, (.tmp 29)), (1, 1, (.tmp 32)), (2, 1, (.tmp 35))]⟩ (.alt [⟨(some 27), none, .load none (.tmp 26)⟩, ⟨(some 26), none, .fa 2 (.tmp 3)⟩] ⟨(some 37), none, .bsl 3 (.agg #[.int .i64 0, .int .i64 0, .int .i64 0]) 1 [(0, (.tmp 36))]⟩
    (.alt [] ⟨(some 38), none, .app 3 24 (.agg #[.int .i64 0, .int .i64 0, .int .i64 0]) (.tmp 27) (.tmp 37)⟩
    (.rd ⟨(some 39), none, .fa 2 (.tmp 3)⟩ (.alt [] ⟨none, none, .store 1 (.tmp 39) (.tmp 38)⟩
    (.done)
    (.none)))
    (.none))
    (.none)))
    (.none))
    (.none))
    (.none))
    (.none)))
    (.alt [⟨(some 33), none, .mv (.tmp 0)⟩, ⟨(some 30), none, .mv (.tmp 0)⟩, ⟨(some 28), none, .mv (.tmp 0)⟩, ⟨(some 27), none, .load none (.tmp 26)⟩, ⟨(some 26), none, .fa 2 (.tmp 3)⟩] ⟨(some 31), none, .bsl 1 (.int .i64 0) 3 [(0, (.const (.int .i64 (-21)))), (1, (.const (.int .i64 (-20)))), (2, (.const (.int .i64 0)))]⟩
    (.alt [⟨(some 33), none, .mv (.tmp 0)⟩, ⟨(some 30), none, .mv (.tmp 0)⟩, ⟨(some 27), none, .load none (.tmp 26)⟩, ⟨(some 26), none, .fa 2 (.tmp 3)⟩] ⟨(some 29), none, .call 29 [(.tmp 28), (.const (.int .i64 6))]⟩
    (.alt [⟨(some 33), none, .mv (.tmp 0)⟩, ⟨(some 27), none, .load none (.tmp 26)⟩, ⟨(some 26), none, .fa 2 (.tmp 3)⟩] ⟨(some 32), none, .call 30 [(.tmp 30), (.tmp 31)]⟩
    (.alt [⟨(some 33), none, .mv (.tmp 0)⟩, ⟨(some 27), none, .load none (.tmp 26)⟩, ⟨(some 26), none, .fa 2 (.tmp 3)⟩] ⟨(some 34), none, .bsl 1 (.int .i64 0) 3 [(0, (.const (.int .i64 40))), (1, (.const (.int .i64 100200))), (2, (.const (.int .i64 100201)))]⟩
    (.alt [⟨(some 27), none, .load none (.tmp 26)⟩, ⟨(some 26), none, .fa 2 (.tmp 3)⟩] ⟨(some 35), none, .call 30 [(.tmp 33), (.tmp 34)]⟩
    (.rd ⟨(some 36), none, .build (.agg #[.int .i64 0, .int .i64 0, .int .i64 0]) [(0, 1, (.tmp 29)), (1, 1, (.tmp 32)), (2, 1, (.tmp 35))]⟩ (.alt [⟨(some 27), none, .load none (.tmp 26)⟩, ⟨(some 26), none, .fa 2 (.tmp 3)⟩] ⟨(some 37), none, .bsl 3 (.agg #[.int .i64 0, .int .i64 0, .int .i64 0]) 1 [(0, (.tmp 36))]⟩
    (.alt [] ⟨(some 38), none, .app 3 24 (.agg #[.int .i64 0, .int .i64 0, .int .i64 0]) (.tmp 27) (.tmp 37)⟩
    (.rd ⟨(some 39), none, .fa 2 (.tmp 3)⟩ (.alt [] ⟨none, none, .store 1 (.tmp 39) (.tmp 38)⟩
    (.done)
    (.none)))
    (.none))
    (.none)))
    (.none))
    (.none))
    (.alt [⟨(some 33), none, .mv (.tmp 0)⟩, ⟨(some 30), none, .mv (.tmp 0)⟩, ⟨(some 27), none, .load none (.tmp 26)⟩, ⟨(some 26), none, .fa 2 (.tmp 3)⟩] ⟨(some 34), none, .bsl 1 (.int .i64 0) 3 [(0, (.const (.int .i64 40))), (1, (.const (.int .i64 100200))), (2, (.const (.int .i64 100201)))]⟩
    (.alt [⟨(some 33), none, .mv (.tmp 0)⟩, ⟨(some 27), none, .load none (.tmp 26)⟩, ⟨(some 26), none, .fa 2 (.tmp 3)⟩] ⟨(some 32), none, .call 30 [(.tmp 30), (.tmp 31)]⟩
    (.alt [⟨(some 27), none, .load none (.tmp 26)⟩, ⟨(some 26), none, .fa 2 (.tmp 3)⟩] ⟨(some 35), none, .call 30 [(.tmp 33), (.tmp 34)]⟩
    (.rd ⟨(some 36), none, .build (.agg #[.int .i64 0, .int .i64 0, .int .i64 0]) [(0, 1, (.tmp 29)), (1, 1, (.tmp 32)), (2, 1, (.tmp 35))]⟩ (.alt [⟨(some 27), none, .load none (.tmp 26)⟩, ⟨(some 26), none, .fa 2 (.tmp 3)⟩] ⟨(some 37), none, .bsl 3 (.agg #[.int .i64 0, .int .i64 0, .int .i64 0]) 1 [(0, (.tmp 36))]⟩
    (.alt [] ⟨(some 38), none, .app 3 24 (.agg #[.int .i64 0, .int .i64 0, .int .i64 0]) (.tmp 27) (.tmp 37)⟩
    (.rd ⟨(some 39), none, .fa 2 (.tmp 3)⟩ (.alt [] ⟨none, none, .store 1 (.tmp 39) (.tmp 38)⟩
    (.done)
    (.none)))
    (.none))
    (.none)))
    (.none))
    (.none))
    (.none)))
    (.alt [⟨(some 33), none, .mv (.tmp 0)⟩, ⟨(some 30), none, .mv (.tmp 0)⟩, ⟨(some 28), none, .mv (.tmp 0)⟩, ⟨(some 27), none, .load none (.tmp 26)⟩, ⟨(some 26), none, .fa 2 (.tmp 3)⟩] ⟨(some 34), none, .bsl 1 (.int .i64 0) 3 [(0, (.const (.int .i64 40))), (1, (.const (.int .i64 100200))), (2, (.const (.int .i64 100201)))]⟩
    (.alt [⟨(some 33), none, .mv (.tmp 0)⟩, ⟨(some 30), none, .mv (.tmp 0)⟩, ⟨(some 27), none, .load none (.tmp 26)⟩, ⟨(some 26), none, .fa 2 (.tmp 3)⟩] ⟨(some 29), none, .call 29 [(.tmp 28), (.const (.int .i64 6))]⟩
    (.alt [⟨(some 33), none, .mv (.tmp 0)⟩, ⟨(some 27), none, .load none (.tmp 26)⟩, ⟨(some 26), none, .fa 2 (.tmp 3)⟩] ⟨(some 32), none, .call 30 [(.tmp 30), (.tmp 31)]⟩
    (.alt [⟨(some 27), none, .load none (.tmp 26)⟩, ⟨(some 26), none, .fa 2 (.tmp 3)⟩] ⟨(some 35), none, .call 30 [(.tmp 33), (.tmp 34)]⟩
    (.rd ⟨(some 36), none, .build (.agg #[.int .i64 0, .int .i64 0, .int .i64 0]) [(0, 1, (.tmp 29)), (1, 1, (.tmp 32)), (2, 1, (.tmp 35))]⟩ (.alt [⟨(some 27), none, .load none (.tmp 26)⟩, ⟨(some 26), none, .fa 2 (.tmp 3)⟩] ⟨(some 37), none, .bsl 3 (.agg #[.int .i64 0, .int .i64 0, .int .i64 0]) 1 [(0, (.tmp 36))]⟩
    (.alt [] ⟨(some 38), none, .app 3 24 (.agg #[.int .i64 0, .int .i64 0, .int .i64 0]) (.tmp 27) (.tmp 37)⟩
    (.rd ⟨(some 39), none, .fa 2 (.tmp 3)⟩ (.alt [] ⟨none, none, .store 1 (.tmp 39) (.tmp 38)⟩
    (.done)
    (.none)))
    (.none))
    (.none)))
    (.none))
    (.none))
    (.none))
    (.none)))
    (.alt [⟨(some 33), none, .mv (.tmp 0)⟩, ⟨(some 30), none, .mv (.tmp 0)⟩, ⟨(some 28), none, .mv (.tmp 0)⟩, ⟨(some 27), none, .load none (.tmp 26)⟩, ⟨(some 26), none, .fa 2 (.tmp 3)⟩] ⟨(some 34), none, .bsl 1 (.int .i64 0) 3 [(0, (.const (.int .i64 40))), (1, (.const (.int .i64 100200))), (2, (.const (.int .i64 100201)))]⟩
    (.alt [⟨(some 33), none, .mv (.tmp 0)⟩, ⟨(some 30), none, .mv (.tmp 0)⟩, ⟨(some 27), none, .load none (.tmp 26)⟩, ⟨(some 26), none, .fa 2 (.tmp 3)⟩] ⟨(some 29), none, .call 29 [(.tmp 28), (.const (.int .i64 6))]⟩
    (.alt [⟨(some 33), none, .mv (.tmp 0)⟩, ⟨(some 30), none, .mv (.tmp 0)⟩, ⟨(some 27), none, .load none (.tmp 26)⟩, ⟨(some 26), none, .fa 2 (.tmp 3)⟩] ⟨(some 31), none, .bsl 1 (.int .i64 0) 3 [(0, (.const (.int .i64 (-21)))), (1, (.const (.int .i64 (-20)))), (2, (.const (.int .i64 0)))]⟩
    (.alt [⟨(some 33), none, .mv (.tmp 0)⟩, ⟨(some 27), none, .load none (.tmp 26)⟩, ⟨(some 26), none, .fa 2 (.tmp 3)⟩] ⟨(some 32), none, .call 30 [(.tmp 30), (.tmp 31)]⟩
    (.alt [⟨(some 27), none, .load none (.tmp 26)⟩, ⟨(some 26), none, .fa 2 (.tmp 3)⟩] ⟨(some 35), none, .call 30 [(.tmp 33), (.tmp 34)]⟩
    (.rd ⟨(some 36), none, .build (.agg #[.int .i64 0, .int .i64 0, .int .i64 0]) [(0, 1, (.tmp 29)), (1, 1, (.tmp 32)), (2, 1, (.tmp 35))]⟩ (.alt [⟨(some 27), none, .load none (.tmp 26)⟩, ⟨(some 26), none, .fa 2 (.tmp 3)⟩] ⟨(some 37), none, .bsl 3 (.agg #[.int .i64 0, .int .i64 0, .int .i64 0]) 1 [(0, (.tmp 36))]⟩
    (.alt [] ⟨(some 38), none, .app 3 24 (.agg #[.int .i64 0, .int .i64 0, .int .i64 0]) (.tmp 27) (.tmp 37)⟩
    (.rd ⟨(some 39), none, .fa 2 (.tmp 3)⟩ (.alt [] ⟨none, none, .store 1 (.tmp 39) (.tmp 38)⟩
    (.done)
    (.none)))
    (.none))
    (.none)))
    (.none))
    (.none))
    (.none))
    (.alt [⟨(some 33), none, .mv (.tmp 0)⟩, ⟨(some 30), none, .mv (.tmp 0)⟩, ⟨(some 28), none, .mv (.tmp 0)⟩, ⟨(some 27), none, .load none (.tmp 26)⟩, ⟨(some 26), none, .fa 2 (.tmp 3)⟩] ⟨(some 31), none, .bsl 1 (.int .i64 0) 3 [(0, (.const (.int .i64 (-21)))), (1, (.const (.int .i64 (-20)))), (2, (.const (.int .i64 0)))]⟩
    (.alt [⟨(some 33), none, .mv (.tmp 0)⟩, ⟨(some 30), none, .mv (.tmp 0)⟩, ⟨(some 27), none, .load none (.tmp 26)⟩, ⟨(some 26), none, .fa 2 (.tmp 3)⟩] ⟨(some 29), none, .call 29 [(.tmp 28), (.const (.int .i64 6))]⟩
    (.alt [⟨(some 33), none, .mv (.tmp 0)⟩, ⟨(some 27), none, .load none (.tmp 26)⟩, ⟨(some 26), none, .fa 2 (.tmp 3)⟩] ⟨(some 32), none, .call 30 [(.tmp 30), (.tmp 31)]⟩
    (.alt [⟨(some 27), none, .load none (.tmp 26)⟩, ⟨(some 26), none, .fa 2 (.tmp 3)⟩] ⟨(some 35), none, .call 30 [(.tmp 33), (.tmp 34)]⟩
    (.rd ⟨(some 36), none, .build (.agg #[.int .i64 0, .int .i64 0, .int .i64 0]) [(0, 1, (.tmp 29)), (1, 1, (.tmp 32)), (2, 1, (.tmp 35))]⟩ (.alt [⟨(some 27), none, .load none (.tmp 26)⟩, ⟨(some 26), none, .fa 2 (.tmp 3)⟩] ⟨(some 37), none, .bsl 3 (.agg #[.int .i64 0, .int .i64 0, .int .i64 0]) 1 [(0, (.tmp 36))]⟩
    (.alt [] ⟨(some 38), none, .app 3 24 (.agg #[.int .i64 0, .int .i64 0, .int .i64 0]) (.tmp 27) (.tmp 37)⟩
    (.rd ⟨(some 39), none, .fa 2 (.tmp 3)⟩ (.alt [] ⟨none, none, .store 1 (.tmp 39) (.tmp 38)⟩
    (.done)
    (.none)))
    (.none))
    (.none)))
    (.none))
    (.none))
    (.none))
    (.none)))
    (.none)))))))))) (.seq (.ops [⟨(some 41), none, .bin .eql (.tmp 8) (.const (.int .i64 3))⟩,
    ⟨(some 40), none, .mv (.tmp 41)⟩])
  (.cond (.tmp 40) (.seq (.ops [⟨(some 42), none, .bsl 3 (.agg #[.int .i64 0, .int .i64 0, .int .i64 0]) 0 []⟩,
    ⟨(some 43), none, .fa 2 (.tmp 3)⟩,
    ⟨none, none, .store 1 (.tmp 43) (.tmp 42)⟩])
  (.seq (.ops [⟨(some 4), none, .mv (.const (.int .i64 0))⟩])
  (.block 1 (.loop 1 [(0, 0), (2, 0), (3, 0), (4, 0)] c_spec_l10Odd_l1)))) (.skip)))))))))))
  (.kept [2, 3] (.seq (.ops [⟨(some 57), none, .load (some 3) (.tmp 3)⟩,
    ⟨none, none, .store 3 (.tmp 2) (.tmp 57)⟩])
  (.ret)))))
theorem h_spec_l10Odd : (Try.prog.funcs[n_spec_l10Odd]?).bind (fun fn => fn.body.bind (comp Try.prog fn.ntmps)) = some (AS.strip c_spec_l10Odd) := by kernel_rfl
theorem r_spec_l10Odd : (Try.prog.funcs[n_spec_l10Odd]?).map (fun fn => (fn.results.toList, fn.ntmps)) = some ([.cell 2 27], 58) := by kernel_rfl
-- 29 (*loop.example/g00850/spec.l1Cur).pick
abbrev n_pspec_l1Cur_pick : Nat := 29
def c_pspec_l1Cur_pick : AS :=
  .seq (.ops [⟨(some 4), none, .mv (.const (.int .i64 0))⟩])
  (.seq (.seq (.ops [⟨(some 6), none, .mv (.tmp 1)⟩,
    ⟨(some 7), none, .bin .leq (.tmp 6) (.const (.int .i64 1))⟩])
  (.cond (.tmp 7) (.seq (.ops [⟨(some 4), none, .mv (.const (.int .i64 0))⟩])
  (.ret)) (.skip)))
  (.seq (.ops [⟨(some 8), none, .mv (.tmp 0)⟩,
    ⟨(some 9), none, .call 45 [(.tmp 8)]⟩,
    ⟨(some 5), none, .mv (.tmp 9)⟩])
  (.seq (.seq (.ops [⟨(some 10), none, .mv (.tmp 1)⟩,
    ⟨(some 11), none, .bin .gtr (.tmp 10) (.const (.int .i64 200))⟩])
  (.cond (.tmp 11) (.ops [⟨(some 12), none, .mv (.tmp 5)⟩,
    ⟨(some 13), none, .bin .mul (.tmp 12) (.const (.int .i64 256))⟩,
    ⟨(some 14), none, .mv (.tmp 0)⟩,
    ⟨(some 15), none, .call 45 [(.tmp 14)]⟩,
    ⟨(some 16), none, .bin .add (.tmp 13) (.tmp 15)⟩,
    ⟨(some 5), none, .mv (.tmp 16)⟩]) (.skip)))
  (.kept [1, 5] (.seq (.ops [⟨(some 17), none, .mv (.tmp 5)⟩,
    ⟨(some 18), none, .mv (.tmp 1)⟩,
    ⟨(some 19), none, .bin .rem (.tmp 17) (.tmp 18)⟩,
    ⟨(some 4), none, .mv (.tmp 19)⟩])
  (.ret))))))
theorem h_pspec_l1Cur_pick : (Try.prog.funcs[n_pspec_l1Cur_pick]?).bind (fun fn => fn.body.bind (comp Try.prog fn.ntmps)) = some (AS.strip c_pspec_l1Cur_pick) := by kernel_rfl
theorem r_pspec_l1Cur_pick : (Try.prog.funcs[n_pspec_l1Cur_pick]?).map (fun fn => (fn.results.toList, fn.ntmps)) = some ([.tmp 4], 20) := by kernel_rfl
-- 30 (*loop.example/g00850/spec.l1Cur).among
abbrev n_pspec_l1Cur_among : Nat := 30
def c_pspec_l1Cur_among : AS :=
  .seq (.ops [⟨(some 4), none, .mv (.const (.int .i64 0))⟩])
  (.seq (.ops [⟨(some 5), none, .mv (.tmp 1)⟩,
    ⟨(some 6), none, .mv (.tmp 0)⟩,
    ⟨(some 7), none, .mv (.tmp 1)⟩,
    ⟨(some 8), none, .lens (.tmp 7)⟩,
    ⟨(some 9), none, .call 29 [(.tmp 6), (.tmp 8)]⟩,
    ⟨(some 10), none, .ia 1 (.tmp 5) (.tmp 9)⟩,
    ⟨(some 11), none, .load none (.tmp 10)⟩,
    ⟨(some 4), none, .mv (.tmp 11)⟩])
  (.ret))
theorem h_pspec_l1Cur_among : (Try.prog.funcs[n_pspec_l1Cur_among]?).bind (fun fn => fn.body.bind (comp Try.prog fn.ntmps)) = some (AS.strip c_pspec_l1Cur_among) := by kernel_rfl
theorem r_pspec_l1Cur_among : (Try.prog.funcs[n_pspec_l1Cur_among]?).map (fun fn => (fn.results.toList, fn.ntmps)) = some ([.tmp 4], 12) := by kernel_rfl
-- 31 loop.example/g00850/spec.l1In
abbrev n_spec_l1In : Nat := 31
def c_spec_l1In : AS :=
  .seq (.ops [⟨(some 6), none, .mv (.const (.bool false))⟩])
  (.seq (.ops [⟨(some 7), none, .mv (.tmp 0)⟩,
    ⟨(some 8), none, .mv (.tmp 1)⟩,
    ⟨(some 9), none, .bin .geq (.tmp 7) (.tmp 8)⟩,
    ⟨(some 10), none, .mv (.tmp 9)⟩,
    ⟨(some 11), some (10, true), .mv (.tmp 0)⟩,
    ⟨(some 12), some (10, true), .mv (.tmp 2)⟩,
    ⟨(some 13), some (10, true), .bin .leq (.tmp 11) (.tmp 12)⟩,
    ⟨(some 14), none, .pick (.tmp 10) (.tmp 13) (.const (.bool false))⟩,
    ⟨(some 6), none, .mv (.tmp 14)⟩])
  (.ret))
theorem h_spec_l1In : (Try.prog.funcs[n_spec_l1In]?).bind (fun fn => fn.body.bind (comp Try.prog fn.ntmps)) = some (AS.strip c_spec_l1In) := by kernel_rfl
theorem r_spec_l1In : (Try.prog.funcs[n_spec_l1In]?).map (fun fn => (fn.results.toList, fn.ntmps)) = some ([.tmp 6], 15) := by kernel_rfl
-- 32 loop.example/g00850/spec.l10Free
abbrev n_spec_l10Free : Nat := 32
def c_spec_l10Free_l1 : AS :=
  .seq (.seq (.ops [⟨(some 8), none, .mv (.tmp 7)⟩,
    ⟨(some 9), none, .fa 2 (.tmp 3)⟩,
    ⟨(some 10), none, .load none (.tmp 9)⟩,
    ⟨(some 11), none, .lens (.tmp 10)⟩,
    ⟨(some 12), none, .bin .lss (.tmp 8) (.tmp 11)⟩])
  (.cond (.tmp 12) (.skip) (.exit 0)))
  (.seq (.block 1 (.seq (.ops [⟨(some 15), none, .fa 2 (.tmp 3)⟩,
    ⟨(some 16), none, .load none (.tmp 15)⟩,
    ⟨(some 17), none, .mv (.tmp 7)⟩,
    ⟨(some 18), none, .ia 3 (.tmp 16) (.tmp 17)⟩,
    ⟨(some 19), none, .fa 0 (.tmp 18)⟩,
    ⟨(some 20), none, .load none (.tmp 19)⟩,
    ⟨(some 21), none, .mv (.tmp 1)⟩,
    ⟨(some 22), none, .bin .neq (.tmp 20) (.tmp 21)⟩,
    ⟨(some 23), none, .mv (.tmp 22)⟩,
    ⟨(some 24), some (23, true), .fa 2 (.tmp 3)⟩,
    ⟨(some 25), some (23, true), .load none (.tmp 24)⟩,
    ⟨(some 26), some (23, true), .mv (.tmp 7)⟩,
    ⟨(some 27), some (23, true), .ia 3 (.tmp 25) (.tmp 26)⟩,
    ⟨(some 28), some (23, true), .fa 2 (.tmp 27)⟩,
    ⟨(some 29), some (23, true), .load none (.tmp 28)⟩,
    ⟨(some 30), some (23, true), .mv (.tmp 2)⟩,
    ⟨(some 31), some (23, true), .bin .geq (.tmp 29) (.tmp 30)⟩,
    ⟨(some 32), none, .pick (.tmp 23) (.tmp 31) (.const (.bool false))⟩])
  (.kept [1, 2, 3, 7, 32] (.cond (.tmp 32) (.seq (.ops [⟨(some 6), none, .mv (.const (.bool false))⟩])
  (.ret)) (.skip)))))
  (.kept [1, 2, 3, 7] (.ops [⟨(some 13), none, .mv (.tmp 7)⟩,
    ⟨(some 14), none, .bin .add (.tmp 13) (.const (.int .i64 1))⟩,
    ⟨(some 7), none, .mv (.tmp 14)⟩])))
def c_spec_l10Free : AS :=
  .seq (.ops [⟨(some 3), none, .box (.tmp 0)⟩,
    ⟨(some 6), none, .mv (.const (.bool false))⟩])
  (.seq (.seq (.ops [⟨(some 7), none, .mv (.const (.int .i64 0))⟩])
  (.block 0 (.loop 3 [(1, 0), (2, 0), (3, 0), (7, 0)] c_spec_l10Free_l1)))
  (.kept [] (.seq (.ops [⟨(some 6), none, .mv (.const (.bool true))⟩])
  (.ret))))
theorem h_spec_l10Free : (Try.prog.funcs[n_spec_l10Free]?).bind (fun fn => fn.body.bind (comp Try.prog fn.ntmps)) = some (AS.strip c_spec_l10Free) := by kernel_rfl
theorem r_spec_l10Free : (Try.prog.funcs[n_spec_l10Free]?).map (fun fn => (fn.results.toList, fn.ntmps)) = some ([.tmp 6], 33) := by kernel_rfl
-- 33 loop.example/g00850/spec.l10Own
abbrev n_spec_l10Own : Nat := 33
def c_spec_l10Own : AS :=
  .seq (.ops [⟨(some 1), none, .box (.tmp 0)⟩,
    ⟨(some 2), none, .alloc (.agg #[.int .i64 0, .slice none 0 0, .slice none 0 0])⟩])
  (.seq (.tops [(2, 0)] (.rd ⟨(some 3), none, .fa 0 (.tmp 1)⟩ (.rd ⟨(some 4), none, .load none (.tmp 3)⟩ (.rd ⟨(some 6), none, .fa 1 (.tmp 1)⟩ (.rd ⟨(some 7), none, .load none (.tmp 6)⟩ (.rd ⟨(some 10), none, .fa 2 (.tmp 1)⟩ (.rd ⟨(some 11), none, .load none (.tmp 10)⟩ (.alt [⟨(some 11), none, .load none (.tmp 10)⟩, ⟨(some 10), none, .fa 2 (.tmp 1)⟩, ⟨(some 7), none, .load none (.tmp 6)⟩, ⟨(some 6), none, .fa 1 (.tmp 1)⟩, ⟨(some 4), none, .load none (.tmp 3)⟩, ⟨(some 3), none, .fa 0 (.tmp 1)⟩] ⟨(some 5), none, .bsl 1 (.agg #[.int .i64 0]) 0 []⟩
    (.alt [⟨(some 11), none, .load none (.tmp 10)⟩, ⟨(some 10), none, .fa 2 (.tmp 1)⟩, ⟨(some 4), none, .load none (.tmp 3)⟩, ⟨(some 3), none, .fa 0 (.tmp 1)⟩] ⟨(some 8), none, .app 1 8 (.agg #[.int .i64 0]) (.tmp 5) (.tmp 7)⟩
    (.alt [⟨(some 11), none, .load none (.tmp 10)⟩, ⟨(some 10), none, .fa 2 (.tmp 1)⟩, ⟨(some 4), none, .load none (.tmp 3)⟩, ⟨(some 3), none, .fa 0 (.tmp 1)⟩] ⟨(some 9), none, .bsl 3 (.agg #[.int .i64 0, .int .i64 0, .int .i64 0]) 0 []⟩
    (.alt [⟨(some 4), none, .load none (.tmp 3)⟩, ⟨(some 3), none, .fa 0 (.tmp 1)⟩] ⟨(some 12), none, .app 3 24 (.agg #[.int .i64 0, .int .i64 0, .int .i64 0]) (.tmp 9) (.tmp 11)⟩
    (.rd ⟨(some 13), none, .build (.agg #[.int .i64 0, .slice none 0 0, .slice none 0 0]) [(0, 1, (.tmp 4)), (1, 1, (.tmp 8)), (2, 1, (.tmp 12))]⟩ (.alt [] ⟨none, none, .store 3 (.tmp 2) (.tmp 13)⟩
    (.done)
    (.none)))
    (.none))
    (.none))
    (.alt [⟨(some 11), none, .load none (.tmp 10)⟩, ⟨(some 10), none, .fa 2 (.tmp 1)⟩, ⟨(some 7), none, .load none (.tmp 6)⟩, ⟨(some 6), none, .fa 1 (.tmp 1)⟩, ⟨(some 4), none, .load none (.tmp 3)⟩, ⟨(some 3), none, .fa 0 (.tmp 1)⟩] ⟨(some 9), none, .bsl 3 (.agg #[.int .i64 0, .int .i64 0, .int .i64 0]) 0 []⟩
    (.alt [⟨(some 11), none, .load none (.tmp 10)⟩, ⟨(some 10), none, .fa 2 (.tmp 1)⟩, ⟨(some 4), none, .load none (.tmp 3)⟩, ⟨(some 3), none, .fa 0 (.tmp 1)⟩] ⟨(some 8), none, .app 1 8 (.agg #[.int .i64 0]) (.tmp 5) (.tmp 7)⟩
    (.alt [⟨(some 4), none, .load none (.tmp 3)⟩, ⟨(some 3), none, .fa 0 (.tmp 1)⟩] ⟨(some 12), none, .app 3 24 (.agg #[.int .i64 0, .int .i64 0, .int .i64 0]) (.tmp 9) (.tmp 11)⟩
    (.rd ⟨(some 13), none, .build (.agg #[.int .i64 0, .slice none 0 0, .slice none 0 0]) [(0, 1, (.tmp 4)), (1, 1, (.tmp 8)), (2, 1, (.tmp 12))]⟩ (.alt [] ⟨none, none, .store 3 (.tmp 2) (.tmp 13)⟩
    (.done)
    (.none)))
    (.none))
    (.none))
    (.none)))
    (.alt [⟨(some 11), none, .load none (.tmp 10)⟩, ⟨(some 10), none, .fa 2 (.tmp 1)⟩, ⟨(some 7), none, .load none (.tmp 6)⟩, ⟨(some 6), none, .fa 1 (.tmp 1)⟩, ⟨(some 4), none, .load none (.tmp 3)⟩, ⟨(some 3), none, .fa 0 (.tmp 1)⟩] ⟨(some 9), none, .bsl 3 (.agg #[.int .i64 0, .int .i64 0, .int .i64 0]) 0 []⟩
    (.alt [⟨(some 11), none, .load none (.tmp 10)⟩, ⟨(some 10), none, .fa 2 (.tmp 1)⟩, ⟨(some 7), none, .load none (.tmp 6)⟩, ⟨(some 6), none, .fa 1 (.tmp 1)⟩, ⟨(some 4), none, .load none (.tmp 3)⟩, ⟨(some 3), none, .fa 0 (.tmp 1)⟩] ⟨(some 5), none, .bsl 1 (.agg #[.int .i64 0]) 0 []⟩
    (.alt [⟨(some 11), none, .load none (.tmp 10)⟩, ⟨(some 10), none, .fa 2 (.tmp 1)⟩, ⟨(some 4), none, .load none (.tmp 3)⟩, ⟨(some 3), none, .fa 0 (.tmp 1)⟩] ⟨(some 8), none, .app 1 8 (.agg #[.int .i64 0]) (.tmp 5) (.tmp 7)⟩
    (.alt [⟨(some 4), none, .load none (.tmp 3)⟩, ⟨(some 3), none, .fa 0 (.tmp 1)⟩] ⟨(some 12), none, .app 3 24 (.agg #[.int .i64 0, .int .i64 0, .int .i64 0]) (.tmp 9) (.tmp 11)⟩
    (.rd ⟨(some 13), none, .build (.agg #[.int .i64 0, .slice none 0 0, .slice none 0 0]) [(0, 1, (.tmp 4)), (1, 1, (.tmp 8)), (2, 1, (.tmp 12))]⟩ (.alt [] ⟨none, none, .store 3 (.tmp 2) (.tmp 13)⟩
    (.done)
    (.none)))
    (.none))
    (.none))
    (.none))
    (.none))))))))))
  (.ret))
theorem h_spec_l10Own : (Try.prog.funcs[n_spec_l10Own]?).bind (fun fn => fn.body.bind (comp Try.prog fn.ntmps)) = some (AS.strip c_spec_l10Own) := by kernel_rfl
theorem r_spec_l10Own : (Try.prog.funcs[n_spec_l10Own]?).map (fun fn => (fn.results.toList, fn.ntmps)) = some ([.cell 2 27], 14) := by kernel_rfl
-- 34 loop.example/g00850/spec.l10If
abbrev n_spec_l10If : Nat := 34
def c_spec_l10If : AS :=
  .seq (.ops [⟨(some 1), none, .box (.tmp 0)⟩,
    ⟨(some 2), none, .alloc (.agg #[.int .i64 0, .slice none 0 0, .slice none 0 0])⟩,
    ⟨(some 3), none, .mv (.const (.bool false))⟩])
  (.seq (.seq (.ops [⟨(some 4), none, .load (some 3) (.tmp 1)⟩,
    ⟨(some 5), none, .call 39 [(.tmp 4)]⟩,
    ⟨(some 6), none, .not (.tmp 5)⟩])
  (.cond (.tmp 6) (.seq (.ops [⟨(some 7), none, .build (.agg #[.int .i64 0, .slice none 0 0, .slice none 0 0]) []⟩,
    ⟨none, none, .store 3 (.tmp 2) (.tmp 7)⟩,
    ⟨(some 3), none, .mv (.const (.bool false))⟩])
  (.ret)) (.skip)))
  (.seq (.ops [⟨(some 8), none, .load (some 3) (.tmp 1)⟩,
    ⟨none, none, .store 3 (.tmp 2) (.tmp 8)⟩,
    ⟨(some 3), none, .mv (.const (.bool true))⟩])
  (.ret)))
theorem h_spec_l10If : (Try.prog.funcs[n_spec_l10If]?).bind (fun fn => fn.body.bind (comp Try.prog fn.ntmps)) = some (AS.strip c_spec_l10If) := by kernel_rfl
theorem r_spec_l10If : (Try.prog.funcs[n_spec_l10If]?).map (fun fn => (fn.results.toList, fn.ntmps)) = some ([.cell 2 27, .tmp 3], 9) := by kernel_rfl
-- 35 (loop.example/g00850/impl.Watch).holds
abbrev n_impl_Watch_holds : Nat := 35
def c_impl_Watch_holds : AS :=
  .seq (.ops [⟨(some 2), none, .box (.tmp 0)⟩,
    ⟨(some 3), none, .box (.tmp 1)⟩,
    ⟨(some 4), none, .mv (.const (.bool false))⟩])
  (.seq (.ops [⟨(some 6), none, .load (some 3) (.tmp 2)⟩,
    ⟨(some 7), none, .load none (.tmp 3)⟩,
    ⟨(some 8), none, .call 27 [(.tmp 6), (.tmp 7)]⟩,
    ⟨(some 9), none, .fld 1 none (.tmp 8)⟩,
    ⟨(some 5), none, .alloc (.int .i64 0)⟩,
    ⟨none, none, .store 1 (.tmp 5) (.tmp 9)⟩])
  (.seq (.ops [⟨(some 10), none, .fa 2 (.tmp 2)⟩,
    ⟨(some 11), none, .load none (.tmp 10)⟩,
    ⟨(some 12), none, .mkf 46 [(.tmp 3), (.tmp 5)]⟩,
    ⟨(some 13), none, .call 37 [(.tmp 11), (.tmp 12)]⟩,
    ⟨(some 4), none, .mv (.tmp 13)⟩])
  (.ret)))
theorem h_impl_Watch_holds : (Try.prog.funcs[n_impl_Watch_holds]?).bind (fun fn => fn.body.bind (comp Try.prog fn.ntmps)) = some (AS.strip c_impl_Watch_holds) := by kernel_rfl
theorem r_impl_Watch_holds : (Try.prog.funcs[n_impl_Watch_holds]?).map (fun fn => (fn.results.toList, fn.ntmps)) = some ([.tmp 4], 14) := by kernel_rfl
-- 36 loop.example/g00850/impl.areClocks
abbrev n_impl_areClocks : Nat := 36
def c_impl_areClocks : AS :=
  .seq (.ops [⟨(some 2), none, .mv (.const (.bool false))⟩])
  (.seq (.ops [⟨(some 3), none, .mv (.tmp 0)⟩,
    ⟨(some 4), none, .lens (.tmp 3)⟩,
    ⟨(some 5), none, .call 26 [(.tmp 4), (.const (.int .i64 1)), (.const (.int .i64 5))]⟩,
    ⟨(some 6), none, .mv (.tmp 5)⟩,
    ⟨(some 7), some (6, true), .mv (.tmp 0)⟩,
    ⟨(some 8), some (6, true), .call 47 [(.tmp 7), (.func 48)]⟩,
    ⟨(some 9), some (6, true), .not (.tmp 8)⟩,
    ⟨(some 10), none, .pick (.tmp 6) (.tmp 9) (.const (.bool false))⟩,
    ⟨(some 2), none, .mv (.tmp 10)⟩])
  (.ret))
theorem h_impl_areClocks : (Try.prog.funcs[n_impl_areClocks]?).bind (fun fn => fn.body.bind (comp Try.prog fn.ntmps)) = some (AS.strip c_impl_areClocks) := by kernel_rfl
theorem r_impl_areClocks : (Try.prog.funcs[n_impl_areClocks]?).map (fun fn => (fn.results.toList, fn.ntmps)) = some ([.tmp 2], 11) := by kernel_rfl
-- 37 slices.ContainsFunc[[]loop.example/g00850/impl.Lease,loop.example/g00850/impl.Lease]
abbrev n_slices_ContainsFunc___impl_Lease_impl_Lease_ : Nat := 37
def c_slices_ContainsFunc___impl_Lease_impl_Lease_ : AS :=
  .seq (.ops [⟨(some 4), none, .mv (.const (.bool false))⟩])
  (.seq (.ops [⟨(some 5), none, .mv (.tmp 0)⟩,
    ⟨(some 6), none, .mv (.tmp 1)⟩,
    ⟨(some 7), none, .call 50 [(.tmp 5), (.tmp 6)]⟩,
    ⟨(some 8), none, .bin .geq (.tmp 7) (.const (.int .i64 0))⟩,
    ⟨(some 4), none, .mv (.tmp 8)⟩])
  (.ret))
theorem h_slices_ContainsFunc___impl_Lease_impl_Lease_ : (Try.prog.funcs[n_slices_ContainsFunc___impl_Lease_impl_Lease_]?).bind (fun fn => fn.body.bind (comp Try.prog fn.ntmps)) = some (AS.strip c_slices_ContainsFunc___impl_Lease_impl_Lease_) := by kernel_rfl
theorem r_slices_ContainsFunc___impl_Lease_impl_Lease_ : (Try.prog.funcs[n_slices_ContainsFunc___impl_Lease_impl_Lease_]?).map (fun fn => (fn.results.toList, fn.ntmps)) = some ([.tmp 4], 9) := by kernel_rfl
-- 38 loop.example/g00850/impl.GoodWatch$1
abbrev n_impl_GoodWatch_1 : Nat := 38
def c_impl_GoodWatch_1 : AS :=
  .seq (.ops [⟨(some 2), none, .box (.tmp 0)⟩,
    ⟨(some 3), none, .mv (.const (.bool false))⟩])
  (.seq (.ops [⟨(some 4), none, .load (some 3) (.tmp 1)⟩,
    ⟨(some 5), none, .fa 0 (.tmp 2)⟩,
    ⟨(some 6), none, .load none (.tmp 5)⟩,
    ⟨(some 7), none, .call 18 [(.tmp 4), (.tmp 6)]⟩,
    ⟨(some 8), none, .not (.tmp 7)⟩,
    ⟨(some 9), none, .mv (.tmp 8)⟩,
    ⟨(some 10), some (9, false), .fa 1 (.tmp 2)⟩,
    ⟨(some 11), some (9, false), .load none (.tmp 10)⟩,
    ⟨(some 12), some (9, false), .call 26 [(.tmp 11), (.const (.int .i64 (-20))), (.const (.int .i64 100020))]⟩,
    ⟨(some 13), some (9, false), .not (.tmp 12)⟩,
    ⟨(some 14), none, .pick (.tmp 9) (.const (.bool true)) (.tmp 13)⟩,
    ⟨(some 15), none, .mv (.tmp 14)⟩,
    ⟨(some 16), some (15, false), .fa 2 (.tmp 2)⟩,
    ⟨(some 17), some (15, false), .load none (.tmp 16)⟩,
    ⟨(some 18), some (15, false), .call 26 [(.tmp 17), (.const (.int .i64 (-20))), (.const (.int .i64 100200))]⟩,
    ⟨(some 19), some (15, false), .not (.tmp 18)⟩,
    ⟨(some 20), none, .pick (.tmp 15) (.const (.bool true)) (.tmp 19)⟩,
    ⟨(some 3), none, .mv (.tmp 20)⟩])
  (.ret))
theorem h_impl_GoodWatch_1 : (Try.prog.funcs[n_impl_GoodWatch_1]?).bind (fun fn => fn.body.bind (comp Try.prog fn.ntmps)) = some (AS.strip c_impl_GoodWatch_1) := by kernel_rfl
theorem r_impl_GoodWatch_1 : (Try.prog.funcs[n_impl_GoodWatch_1]?).map (fun fn => (fn.results.toList, fn.ntmps)) = some ([.tmp 3], 21) := by kernel_rfl
-- 39 loop.example/g00850/spec.l10Good
abbrev n_spec_l10Good : Nat := 39
def c_spec_l10Good_l1 : AS :=
  .seq (.seq (.ops [⟨(some 23), none, .mv (.tmp 3)⟩,
    ⟨(some 24), none, .fa 1 (.tmp 1)⟩,
    ⟨(some 25), none, .load none (.tmp 24)⟩,
    ⟨(some 26), none, .lens (.tmp 25)⟩,
    ⟨(some 27), none, .bin .lss (.tmp 23) (.tmp 26)⟩])
  (.cond (.tmp 27) (.skip) (.exit 0)))
  (.seq (.block 1 (.seq (.ops [⟨(some 30), none, .fa 1 (.tmp 1)⟩,
    ⟨(some 31), none, .load none (.tmp 30)⟩,
    ⟨(some 32), none, .mv (.tmp 3)⟩,
    ⟨(some 33), none, .ia 1 (.tmp 31) (.tmp 32)⟩,
    ⟨(some 34), none, .load (some 1) (.tmp 33)⟩,
    ⟨(some 35), none, .call 51 [(.tmp 34)]⟩,
    ⟨(some 36), none, .not (.tmp 35)⟩])
  (.kept [1, 3, 36] (.cond (.tmp 36) (.seq (.ops [⟨(some 2), none, .mv (.const (.bool false))⟩])
  (.ret)) (.skip)))))
  (.kept [1, 3] (.ops [⟨(some 28), none, .mv (.tmp 3)⟩,
    ⟨(some 29), none, .bin .add (.tmp 28) (.const (.int .i64 1))⟩,
    ⟨(some 3), none, .mv (.tmp 29)⟩])))
def c_spec_l10Good_l2 : AS :=
  .seq (.seq (.ops [⟨(some 37), none, .mv (.tmp 4)⟩,
    ⟨(some 38), none, .fa 2 (.tmp 1)⟩,
    ⟨(some 39), none, .load none (.tmp 38)⟩,
    ⟨(some 40), none, .lens (.tmp 39)⟩,
    ⟨(some 41), none, .bin .lss (.tmp 37) (.tmp 40)⟩])
  (.cond (.tmp 41) (.skip) (.exit 2)))
  (.seq (.block 3 (.seq (.ops [⟨(some 44), none, .fa 2 (.tmp 1)⟩,
    ⟨(some 45), none, .load none (.tmp 44)⟩,
    ⟨(some 46), none, .mv (.tmp 4)⟩,
    ⟨(some 47), none, .ia 3 (.tmp 45) (.tmp 46)⟩,
    ⟨(some 48), none, .load (some 3) (.tmp 47)⟩,
    ⟨(some 5), none, .alloc (.agg #[.int .i64 0, .int .i64 0, .int .i64 0])⟩,
    ⟨none, none, .store 3 (.tmp 5) (.tmp 48)⟩])
  (.seq (.ops [⟨(some 49), none, .fa 0 (.tmp 5)⟩,
    ⟨(some 50), none, .load none (.tmp 49)⟩,
    ⟨(some 51), none, .fa 1 (.tmp 1)⟩,
    ⟨(some 52), none, .load none (.tmp 51)⟩,
    ⟨(some 53), none, .lens (.tmp 52)⟩,
    ⟨(some 54), none, .bin .sub (.tmp 53) (.const (.int .i64 1))⟩,
    ⟨(some 55), none, .call 31 [(.tmp 50), (.const (.int .i64 0)), (.tmp 54)]⟩,
    ⟨(some 56), none, .not (.tmp 55)⟩,
    ⟨(some 57), none, .mv (.tmp 56)⟩,
    ⟨(some 58), some (57, false), .fa 1 (.tmp 5)⟩,
    ⟨(some 59), some (57, false), .load none (.tmp 58)⟩,
    ⟨(some 60), some (57, false), .call 31 [(.tmp 59), (.const (.int .i64 (-20))), (.const (.int .i64 100020))]⟩,
    ⟨(some 61), some (57, false), .not (.tmp 60)⟩,
    ⟨(some 62), none, .pick (.tmp 57) (.const (.bool true)) (.tmp 61)⟩,
    ⟨(some 63), none, .mv (.tmp 62)⟩,
    ⟨(some 64), some (63, false), .fa 2 (.tmp 5)⟩,
    ⟨(some 65), some (63, false), .load none (.tmp 64)⟩,
    ⟨(some 66), some (63, false), .call 31 [(.tmp 65), (.const (.int .i64 (-20))), (.const (.int .i64 100200))]⟩,
    ⟨(some 67), some (63, false), .not (.tmp 66)⟩,
    ⟨(some 68), none, .pick (.tmp 63) (.const (.bool true)) (.tmp 67)⟩])
  (.kept [1, 4, 68] (.cond (.tmp 68) (.seq (.ops [⟨(some 2), none, .mv (.const (.bool false))⟩])
  (.ret)) (.skip))))))
  (.kept [1, 4] (.ops [⟨(some 42), none, .mv (.tmp 4)⟩,
    ⟨(some 43), none, .bin .add (.tmp 42) (.const (.int .i64 1))⟩,
    ⟨(some 4), none, .mv (.tmp 43)⟩])))
def c_spec_l10Good : AS :=
  .seq (.ops [⟨(some 1), none, .box (.tmp 0)⟩,
    ⟨(some 2), none, .mv (.const (.bool false))⟩])
  (.seq (.seq (.ops [⟨(some 6), none, .fa 0 (.tmp 1)⟩,
    ⟨(some 7), none, .load none (.tmp 6)⟩,
    ⟨(some 8), none, .call 31 [(.tmp 7), (.const (.int .i64 0)), (.const (.int .i64 100000))]⟩,
    ⟨(some 9), none, .not (.tmp 8)⟩,
    ⟨(some 10), none, .mv (.tmp 9)⟩,
    ⟨(some 11), some (10, false), .fa 1 (.tmp 1)⟩,
    ⟨(some 12), some (10, false), .load none (.tmp 11)⟩,
    ⟨(some 13), some (10, false), .lens (.tmp 12)⟩,
    ⟨(some 14), some (10, false), .call 31 [(.tmp 13), (.const (.int .i64 1)), (.const (.int .i64 5))]⟩,
    ⟨(some 15), some (10, false), .not (.tmp 14)⟩,
    ⟨(some 16), none, .pick (.tmp 10) (.const (.bool true)) (.tmp 15)⟩,
    ⟨(some 17), none, .mv (.tmp 16)⟩,
    ⟨(some 18), some (17, false), .fa 2 (.tmp 1)⟩,
    ⟨(some 19), some (17, false), .load none (.tmp 18)⟩,
    ⟨(some 20), some (17, false), .lens (.tmp 19)⟩,
    ⟨(some 21), some (17, false), .bin .gtr (.tmp 20) (.const (.int .i64 40))⟩,
    ⟨(some 22), none, .pick (.tmp 17) (.const (.bool true)) (.tmp 21)⟩])
  (.kept [1, 22] (.cond (.tmp 22) (.seq (.ops [⟨(some 2), none, .mv (.const (.bool false))⟩])
  (.ret)) (.skip))))
  (.kept [1] (.seq (.seq (.ops [⟨(some 3), none, .mv (.const (.int .i64 0))⟩])
  (.block 0 (.loop 1 [(1, 0), (3, 0)] c_spec_l10Good_l1)))
  (.kept [1] (.seq (.seq (.ops [⟨(some 4), none, .mv (.const (.int .i64 0))⟩])
  (.block 2 (.loop 1 [(1, 0), (4, 0)] c_spec_l10Good_l2)))
  (.kept [] (.seq (.ops [⟨(some 2), none, .mv (.const (.bool true))⟩])
  (.ret))))))))
theorem h_spec_l10Good : (Try.prog.funcs[n_spec_l10Good]?).bind (fun fn => fn.body.bind (comp Try.prog fn.ntmps)) = some (AS.strip c_spec_l10Good) := by kernel_rfl
theorem r_spec_l10Good : (Try.prog.funcs[n_spec_l10Good]?).map (fun fn => (fn.results.toList, fn.ntmps)) = some ([.tmp 2], 69) := by kernel_rfl
-- 40 loop.example/g00850/spec.l2At
abbrev n_spec_l2At : Nat := 40
def c_spec_l2At : AS :=
  .seq (.ops [⟨(some 2), none, .box (.tmp 0)⟩,
    ⟨(some 4), none, .alloc (.agg #[.int .i64 0, .int .i64 0])⟩])
  (.seq (.ops [⟨(some 5), none, .mv (.tmp 1)⟩,
    ⟨(some 6), none, .fa 0 (.tmp 2)⟩,
    ⟨(some 7), none, .load none (.tmp 6)⟩,
    ⟨(some 8), none, .bin .add (.tmp 5) (.tmp 7)⟩,
    ⟨(some 9), none, .bin .sub (.tmp 8) (.const (.int .i64 5))⟩,
    ⟨(some 10), none, .mv (.tmp 1)⟩,
    ⟨(some 11), none, .fa 0 (.tmp 2)⟩,
    ⟨(some 12), none, .load none (.tmp 11)⟩,
    ⟨(some 13), none, .bin .add (.tmp 10) (.tmp 12)⟩,
    ⟨(some 14), none, .bin .add (.tmp 13) (.const (.int .i64 5))⟩,
    ⟨(some 15), none, .build (.agg #[.int .i64 0, .int .i64 0]) [(0, 1, (.tmp 9)), (1, 1, (.tmp 14))]⟩,
    ⟨none, none, .store 2 (.tmp 4) (.tmp 15)⟩])
  (.ret))
theorem h_spec_l2At : (Try.prog.funcs[n_spec_l2At]?).bind (fun fn => fn.body.bind (comp Try.prog fn.ntmps)) = some (AS.strip c_spec_l2At) := by kernel_rfl
theorem r_spec_l2At : (Try.prog.funcs[n_spec_l2At]?).map (fun fn => (fn.results.toList, fn.ntmps)) = some ([.cell 4 45], 16) := by kernel_rfl
-- 41 slices.Clone[[]loop.example/g00850/impl.Clock,loop.example/g00850/impl.Clock]
abbrev n_slices_Clone___impl_Clock_impl_Clock_ : Nat := 41
def c_slices_Clone___impl_Clock_impl_Clock_ : AS :=
  .seq (.ops [⟨(some 2), none, .mv (.const (.slice none 0 0))⟩])
  (.seq (.seq (.ops [⟨(some 3), none, .mv (.tmp 0)⟩,
    ⟨(some 4), none, .isn false (.tmp 3)⟩])
  (.cond (.tmp 4) (.seq (.ops [⟨(some 2), none, .mv (.const (.slice none 0 0))⟩])
  (.ret)) (.skip)))
  (.seq (.ops [⟨(some 5), none, .bsl 1 (.agg #[.int .i64 0]) 0 []⟩,
    ⟨(some 6), none, .mv (.tmp 0)⟩,
    ⟨(some 7), none, .app 1 8 (.agg #[.int .i64 0]) (.tmp 5) (.tmp 6)⟩,
    ⟨(some 2), none, .mv (.tmp 7)⟩])
  (.ret)))
theorem h_slices_Clone___impl_Clock_impl_Clock_ : (Try.prog.funcs[n_slices_Clone___impl_Clock_impl_Clock_]?).bind (fun fn => fn.body.bind (comp Try.prog fn.ntmps)) = some (AS.strip c_slices_Clone___impl_Clock_impl_Clock_) := by kernel_rfl
theorem r_slices_Clone___impl_Clock_impl_Clock_ : (Try.prog.funcs[n_slices_Clone___impl_Clock_impl_Clock_]?).map (fun fn => (fn.results.toList, fn.ntmps)) = some ([.tmp 2], 8) := by kernel_rfl
-- 42 slices.Clone[[]loop.example/g00850/impl.Lease,loop.example/g00850/impl.Lease]
abbrev n_slices_Clone___impl_Lease_impl_Lease_ : Nat := 42
def c_slices_Clone___impl_Lease_impl_Lease_ : AS :=
  .seq (.ops [⟨(some 2), none, .mv (.const (.slice none 0 0))⟩])
  (.seq (.seq (.ops [⟨(some 3), none, .mv (.tmp 0)⟩,
    ⟨(some 4), none, .isn false (.tmp 3)⟩])
  (.cond (.tmp 4) (.seq (.ops [⟨(some 2), none, .mv (.const (.slice none 0 0))⟩])
  (.ret)) (.skip)))
  (.seq (.ops [⟨(some 5), none, .bsl 3 (.agg #[.int .i64 0, .int .i64 0, .int .i64 0]) 0 []⟩,
    ⟨(some 6), none, .mv (.tmp 0)⟩,
    ⟨(some 7), none, .app 3 24 (.agg #[.int .i64 0, .int .i64 0, .int .i64 0]) (.tmp 5) (.tmp 6)⟩,
    ⟨(some 2), none, .mv (.tmp 7)⟩])
  (.ret)))
theorem h_slices_Clone___impl_Lease_impl_Lease_ : (Try.prog.funcs[n_slices_Clone___impl_Lease_impl_Lease_]?).bind (fun fn => fn.body.bind (comp Try.prog fn.ntmps)) = some (AS.strip c_slices_Clone___impl_Lease_impl_Lease_) := by kernel_rfl
theorem r_slices_Clone___impl_Lease_impl_Lease_ : (Try.prog.funcs[n_slices_Clone___impl_Lease_impl_Lease_]?).map (fun fn => (fn.results.toList, fn.ntmps)) = some ([.tmp 2], 8) := by kernel_rfl
-- 43 (loop.example/g00850/impl.Clock).span
abbrev n_impl_Clock_span : Nat := 43
def c_impl_Clock_span : AS :=
  .seq (.ops [⟨(some 2), none, .box (.tmp 0)⟩,
    ⟨(some 4), none, .alloc (.agg #[.int .i64 0, .int .i64 0])⟩])
  (.seq (.ops [⟨(some 5), none, .mv (.tmp 1)⟩,
    ⟨(some 6), none, .fa 0 (.tmp 2)⟩,
    ⟨(some 7), none, .load none (.tmp 6)⟩,
    ⟨(some 8), none, .bin .add (.tmp 5) (.tmp 7)⟩,
    ⟨(some 9), none, .bin .sub (.tmp 8) (.const (.int .i64 5))⟩,
    ⟨(some 10), none, .mv (.tmp 1)⟩,
    ⟨(some 11), none, .fa 0 (.tmp 2)⟩,
    ⟨(some 12), none, .load none (.tmp 11)⟩,
    ⟨(some 13), none, .bin .add (.tmp 10) (.tmp 12)⟩,
    ⟨(some 14), none, .bin .add (.tmp 13) (.const (.int .i64 5))⟩,
    ⟨(some 15), none, .build (.agg #[.int .i64 0, .int .i64 0]) [(0, 1, (.tmp 9)), (1, 1, (.tmp 14))]⟩,
    ⟨none, none, .store 2 (.tmp 4) (.tmp 15)⟩])
  (.ret))
theorem h_impl_Clock_span : (Try.prog.funcs[n_impl_Clock_span]?).bind (fun fn => fn.body.bind (comp Try.prog fn.ntmps)) = some (AS.strip c_impl_Clock_span) := by kernel_rfl
theorem r_impl_Clock_span : (Try.prog.funcs[n_impl_Clock_span]?).map (fun fn => (fn.results.toList, fn.ntmps)) = some ([.cell 4 45], 16) := by kernel_rfl
-- 44 loop.example/g00850/spec.l10Make
abbrev n_spec_l10Make : Nat := 44
def c_spec_l10Make_l1 : AS :=
  .seq (.seq (.ops [⟨(some 14), none, .mv (.tmp 7)⟩,
    ⟨(some 15), none, .mv (.tmp 6)⟩,
    ⟨(some 16), none, .bin .lss (.tmp 14) (.tmp 15)⟩])
  (.cond (.tmp 16) (.skip) (.exit 0)))
  (.seq (.block 1 (.ops [⟨(some 19), none, .mv (.tmp 5)⟩,
    ⟨(some 20), none, .mv (.tmp 0)⟩,
    ⟨(some 21), none, .call 29 [(.tmp 20), (.const (.int .i64 11))]⟩,
    ⟨(some 22), none, .bin .sub (.tmp 21) (.const (.int .i64 5))⟩,
    ⟨(some 23), none, .build (.agg #[.int .i64 0]) [(0, 1, (.tmp 22))]⟩,
    ⟨(some 24), none, .bsl 1 (.agg #[.int .i64 0]) 1 [(0, (.tmp 23))]⟩,
    ⟨(some 25), none, .app 1 8 (.agg #[.int .i64 0]) (.tmp 19) (.tmp 24)⟩,
    ⟨(some 5), none, .mv (.tmp 25)⟩]))
  (.kept [0, 1, 4, 5, 6, 7] (.ops [⟨(some 17), none, .mv (.tmp 7)⟩,
    ⟨(some 18), none, .bin .add (.tmp 17) (.const (.int .i64 1))⟩,
    ⟨(some 7), none, .mv (.tmp 18)⟩])))
def c_spec_l10Make : AS :=
  .seq (.ops [⟨(some 4), none, .alloc (.agg #[.int .i64 0, .slice none 0 0, .slice none 0 0])⟩])
  (.seq (.ops [⟨(some 10), none, .bsl 1 (.agg #[.int .i64 0]) 0 []⟩,
    ⟨(some 5), none, .mv (.tmp 10)⟩])
  (.seq (.ops [⟨(some 11), none, .mv (.tmp 0)⟩,
    ⟨(some 12), none, .call 29 [(.tmp 11), (.const (.int .i64 4))]⟩,
    ⟨(some 13), none, .bin .add (.const (.int .i64 1)) (.tmp 12)⟩,
    ⟨(some 6), none, .mv (.tmp 13)⟩])
  (.seq (.seq (.ops [⟨(some 7), none, .mv (.const (.int .i64 0))⟩])
  (.block 0 (.loop 2 [(0, 0), (1, 0), (4, 0), (5, 1), (6, 0), (7, 0)] c_spec_l10Make_l1)))
  (.kept [0, 1, 4, 5] (.seq (.ops [⟨(some 27), none, .mv (.tmp 5)⟩,
    ⟨(some 28), none, .call 52 [(.tmp 27)]⟩,
    ⟨(some 26), none, .mv (.tmp 28)⟩,
    ⟨(some 29), none, .ext 0 (.tmp 26)⟩,
    ⟨(some 30), none, .ext 1 (.tmp 26)⟩,
    ⟨(some 8), none, .alloc (.agg #[.int .i64 0, .slice none 0 0, .slice none 0 0])⟩,
    ⟨none, none, .store 3 (.tmp 8) (.tmp 29)⟩,
    ⟨(some 9), none, .mv (.tmp 30)⟩])
  (.kept [0, 1, 4, 8] (.seq (.rops [(none, ⟨(some 32), none, .load (some 3) (.tmp 8)⟩),
    (none, ⟨(some 33), none, .mv (.tmp 0)⟩),
    (some [⟨(some 33), none, .mv (.tmp 0)⟩, ⟨(some 32), none, .load (some 3) (.tmp 8)⟩], ⟨(some 34), none, .bsl 1 (.int .i64 0) 4 [(0, (.const (.int .i64 0))), (1, (.const (.int .i64 3))), (2, (.const (.int .i64 50))), (3, (.const (.int .i64 99950)))]⟩),
    (some [⟨(some 32), none, .load (some 3) (.tmp 8)⟩], ⟨(some 35), none, .call 30 [(.tmp 33), (.tmp 34)]⟩),
    (some [], ⟨(some 36), none, .call 53 [(.tmp 32), (.tmp 35)]⟩),
    (none, ⟨(some 31), none, .mv (.tmp 36)⟩),
    (none, ⟨(some 37), none, .ext 0 (.tmp 31)⟩),
    (none, ⟨(some 38), none, .ext 1 (.tmp 31)⟩),
    (some [⟨(some 38), none, .ext 1 (.tmp 31)⟩], ⟨none, none, .store 3 (.tmp 8) (.tmp 37)⟩)])
  (.kept [0, 1, 4, 8] (.seq (.rops [(none, ⟨(some 40), none, .load (some 3) (.tmp 8)⟩),
    (none, ⟨(some 41), none, .mv (.tmp 0)⟩),
    (none, ⟨(some 42), none, .mv (.tmp 1)⟩),
    (some [⟨(some 40), none, .load (some 3) (.tmp 8)⟩], ⟨(some 43), none, .call 55 [(.tmp 41), (.tmp 42)]⟩),
    (some [], ⟨(some 44), none, .call 54 [(.tmp 40), (.tmp 43)]⟩),
    (none, ⟨(some 39), none, .mv (.tmp 44)⟩),
    (none, ⟨(some 45), none, .ext 0 (.tmp 39)⟩),
    (none, ⟨(some 46), none, .ext 1 (.tmp 39)⟩),
    (some [⟨(some 46), none, .ext 1 (.tmp 39)⟩], ⟨none, none, .store 3 (.tmp 8) (.tmp 45)⟩)])
  (.kept [4, 8] (.seq (.ops [⟨(some 47), none, .load (some 3) (.tmp 8)⟩,
    ⟨none, none, .store 3 (.tmp 4) (.tmp 47)⟩])
  (.ret))))))))))))
theorem h_spec_l10Make : (Try.prog.funcs[n_spec_l10Make]?).bind (fun fn => fn.body.bind (comp Try.prog fn.ntmps)) = some (AS.strip c_spec_l10Make) := by kernel_rfl
theorem r_spec_l10Make : (Try.prog.funcs[n_spec_l10Make]?).map (fun fn => (fn.results.toList, fn.ntmps)) = some ([.cell 4 27], 48) := by kernel_rfl
-- 45 (*loop.example/g00850/spec.l1Cur).next
abbrev n_pspec_l1Cur_next : Nat := 45
def c_pspec_l1Cur_next : AS :=
  .seq (.ops [⟨(some 2), none, .mv (.const (.int .i64 0))⟩])
  (.seq (.ops [⟨(some 3), none, .mv (.const (.int .i64 0))⟩])
  (.seq (.seq (.dops [⟨(some 4), none, .mv (.tmp 0)⟩,
    ⟨(some 5), none, .nc (.tmp 4)⟩,
    ⟨(some 6), none, .fa 1 (.tmp 5)⟩,
    ⟨(some 7), none, .load none (.tmp 6)⟩,
    ⟨(some 8), none, .mv (.tmp 0)⟩,
    ⟨(some 9), none, .nc (.tmp 8)⟩,
    ⟨(some 10), none, .fa 0 (.tmp 9)⟩,
    ⟨(some 11), none, .load none (.tmp 10)⟩,
    ⟨(some 12), none, .lens (.tmp 11)⟩,
    ⟨(some 13), none, .bin .lss (.tmp 7) (.tmp 12)⟩])
  (.kept [0, 3, 13] (.cond (.tmp 13) (.dops [⟨(some 14), none, .mv (.tmp 0)⟩,
    ⟨(some 15), none, .nc (.tmp 14)⟩,
    ⟨(some 16), none, .fa 0 (.tmp 15)⟩,
    ⟨(some 17), none, .load none (.tmp 16)⟩,
    ⟨(some 18), none, .mv (.tmp 0)⟩,
    ⟨(some 19), none, .nc (.tmp 18)⟩,
    ⟨(some 20), none, .fa 1 (.tmp 19)⟩,
    ⟨(some 21), none, .load none (.tmp 20)⟩,
    ⟨(some 22), none, .ia 1 (.tmp 17) (.tmp 21)⟩,
    ⟨(some 23), none, .load none (.tmp 22)⟩,
    ⟨(some 24), none, .cvi .i64 (.tmp 23)⟩,
    ⟨(some 3), none, .mv (.tmp 24)⟩]) (.skip))))
  (.kept [0, 3] (.seq (.ops [⟨(some 25), none, .mv (.tmp 0)⟩,
    ⟨(some 26), none, .nc (.tmp 25)⟩,
    ⟨(some 27), none, .fa 1 (.tmp 26)⟩,
    ⟨(some 28), none, .load none (.tmp 27)⟩,
    ⟨(some 29), none, .bin .add (.tmp 28) (.const (.int .i64 1))⟩,
    ⟨(some 30), none, .nc (.tmp 25)⟩,
    ⟨(some 31), none, .fa 1 (.tmp 30)⟩,
    ⟨none, none, .store 1 (.tmp 31) (.tmp 29)⟩])
  (.kept [0, 3] (.seq (.ops [⟨(some 32), none, .mv (.tmp 0)⟩,
    ⟨(some 33), none, .mv (.tmp 0)⟩,
    ⟨(some 34), none, .nc (.tmp 33)⟩,
    ⟨(some 35), none, .fa 2 (.tmp 34)⟩,
    ⟨(some 36), none, .load none (.tmp 35)⟩,
    ⟨(some 37), none, .bin .mul (.tmp 36) (.const (.int .u64 6364136223846793005))⟩,
    ⟨(some 38), none, .mv (.tmp 3)⟩,
    ⟨(some 39), none, .cvi .u64 (.tmp 38)⟩,
    ⟨(some 40), none, .bin .add (.tmp 37) (.tmp 39)⟩,
    ⟨(some 41), none, .bin .add (.tmp 40) (.const (.int .u64 1442695040888963407))⟩,
    ⟨(some 42), none, .nc (.tmp 32)⟩,
    ⟨(some 43), none, .fa 2 (.tmp 42)⟩,
    ⟨none, none, .store 1 (.tmp 43) (.tmp 41)⟩])
  (.kept [0, 3] (.seq (.seq (.dops [⟨(some 44), none, .mv (.tmp 0)⟩,
    ⟨(some 45), none, .nc (.tmp 44)⟩,
    ⟨(some 46), none, .fa 1 (.tmp 45)⟩,
    ⟨(some 47), none, .load none (.tmp 46)⟩,
    ⟨(some 48), none, .mv (.tmp 0)⟩,
    ⟨(some 49), none, .nc (.tmp 48)⟩,
    ⟨(some 50), none, .fa 0 (.tmp 49)⟩,
    ⟨(some 51), none, .load none (.tmp 50)⟩,
    ⟨(some 52), none, .lens (.tmp 51)⟩,
    ⟨(some 53), none, .bin .leq (.tmp 47) (.tmp 52)⟩])
  (.kept [0, 3, 53] (.cond (.tmp 53) (.seq (.ops [⟨(some 54), none, .mv (.tmp 3)⟩,
    ⟨(some 2), none, .mv (.tmp 54)⟩])
  (.ret)) (.skip))))
  (.kept [0] (.seq (.ops [⟨(some 55), none, .mv (.tmp 0)⟩,
    ⟨(some 56), none, .nc (.tmp 55)⟩,
    ⟨(some 57), none, .fa 2 (.tmp 56)⟩,
    ⟨(some 58), none, .load none (.tmp 57)⟩,
    ⟨(some 59), none, .bin .shr (.tmp 58) (.const (.int .u64 40))⟩,
    ⟨(some 60), none, .bin .and (.tmp 59) (.const (.int .u64 255))⟩,
    ⟨(some 61), none, .cvi .i64 (.tmp 60)⟩,
    ⟨(some 2), none, .mv (.tmp 61)⟩])
  (.ret)))))))))))
theorem h_pspec_l1Cur_next : (Try.prog.funcs[n_pspec_l1Cur_next]?).bind (fun fn => fn.body.bind (comp Try.prog fn.ntmps)) = some (AS.strip c_pspec_l1Cur_next) := by kernel_rfl
theorem r_pspec_l1Cur_next : (Try.prog.funcs[n_pspec_l1Cur_next]?).map (fun fn => (fn.results.toList, fn.ntmps)) = some ([.tmp 2], 62) := by kernel_rfl
-- 46 (loop.example/g00850/impl.Watch).holds$1
abbrev n_impl_Watch_holds_1 : Nat := 46
def c_impl_Watch_holds_1 : AS :=
  .seq (.ops [⟨(some 3), none, .box (.tmp 0)⟩,
    ⟨(some 4), none, .mv (.const (.bool false))⟩])
  (.seq (.ops [⟨(some 5), none, .fa 0 (.tmp 3)⟩,
    ⟨(some 6), none, .load none (.tmp 5)⟩,
    ⟨(some 7), none, .load none (.tmp 1)⟩,
    ⟨(some 8), none, .bin .eql (.tmp 6) (.tmp 7)⟩,
    ⟨(some 9), none, .mv (.tmp 8)⟩,
    ⟨(some 10), some (9, true), .fa 1 (.tmp 3)⟩,
    ⟨(some 11), some (9, true), .load none (.tmp 10)⟩,
    ⟨(some 12), some (9, true), .load none (.tmp 2)⟩,
    ⟨(some 13), some (9, true), .bin .leq (.tmp 11) (.tmp 12)⟩,
    ⟨(some 14), none, .pick (.tmp 9) (.tmp 13) (.const (.bool false))⟩,
    ⟨(some 15), none, .mv (.tmp 14)⟩,
    ⟨(some 16), some (15, true), .load none (.tmp 2)⟩,
    ⟨(some 17), some (15, true), .fa 2 (.tmp 3)⟩,
    ⟨(some 18), some (15, true), .load none (.tmp 17)⟩,
    ⟨(some 19), some (15, true), .bin .leq (.tmp 16) (.tmp 18)⟩,
    ⟨(some 20), none, .pick (.tmp 15) (.tmp 19) (.const (.bool false))⟩,
    ⟨(some 4), none, .mv (.tmp 20)⟩])
  (.ret))
theorem h_impl_Watch_holds_1 : (Try.prog.funcs[n_impl_Watch_holds_1]?).bind (fun fn => fn.body.bind (comp Try.prog fn.ntmps)) = some (AS.strip c_impl_Watch_holds_1) := by kernel_rfl
theorem r_impl_Watch_holds_1 : (Try.prog.funcs[n_impl_Watch_holds_1]?).map (fun fn => (fn.results.toList, fn.ntmps)) = some ([.tmp 4], 21) := by kernel_rfl
-- 47 slices.ContainsFunc[[]loop.example/g00850/impl.Clock,loop.example/g00850/impl.Clock]
abbrev n_slices_ContainsFunc___impl_Clock_impl_Clock_ : Nat := 47
def c_slices_ContainsFunc___impl_Clock_impl_Clock_ : AS :=
  .seq (.ops [⟨(some 4), none, .mv (.const (.bool false))⟩])
  (.seq (.ops [⟨(some 5), none, .mv (.tmp 0)⟩,
    ⟨(some 6), none, .mv (.tmp 1)⟩,
    ⟨(some 7), none, .call 56 [(.tmp 5), (.tmp 6)]⟩,
    ⟨(some 8), none, .bin .geq (.tmp 7) (.const (.int .i64 0))⟩,
    ⟨(some 4), none, .mv (.tmp 8)⟩])
  (.ret))
theorem h_slices_ContainsFunc___impl_Clock_impl_Clock_ : (Try.prog.funcs[n_slices_ContainsFunc___impl_Clock_impl_Clock_]?).bind (fun fn => fn.body.bind (comp Try.prog fn.ntmps)) = some (AS.strip c_slices_ContainsFunc___impl_Clock_impl_Clock_) := by kernel_rfl
theorem r_slices_ContainsFunc___impl_Clock_impl_Clock_ : (Try.prog.funcs[n_slices_ContainsFunc___impl_Clock_impl_Clock_]?).map (fun fn => (fn.results.toList, fn.ntmps)) = some ([.tmp 4], 9) := by kernel_rfl
-- 48 loop.example/g00850/impl.areClocks$1
abbrev n_impl_areClocks_1 : Nat := 48
def c_impl_areClocks_1 : AS :=
  .seq (.ops [⟨(some 1), none, .box (.tmp 0)⟩,
    ⟨(some 2), none, .mv (.const (.bool false))⟩])
  (.seq (.ops [⟨(some 3), none, .load (some 1) (.tmp 1)⟩,
    ⟨(some 4), none, .call 49 [(.tmp 3)]⟩,
    ⟨(some 5), none, .not (.tmp 4)⟩,
    ⟨(some 2), none, .mv (.tmp 5)⟩])
  (.ret))
theorem h_impl_areClocks_1 : (Try.prog.funcs[n_impl_areClocks_1]?).bind (fun fn => fn.body.bind (comp Try.prog fn.ntmps)) = some (AS.strip c_impl_areClocks_1) := by kernel_rfl
theorem r_impl_areClocks_1 : (Try.prog.funcs[n_impl_areClocks_1]?).map (fun fn => (fn.results.toList, fn.ntmps)) = some ([.tmp 2], 6) := by kernel_rfl
-- 49 loop.example/g00850/impl.GoodClock
abbrev n_impl_GoodClock : Nat := 49
def c_impl_GoodClock : AS :=
  .seq (.ops [⟨(some 1), none, .box (.tmp 0)⟩,
    ⟨(some 2), none, .mv (.const (.bool false))⟩])
  (.seq (.ops [⟨(some 3), none, .fa 0 (.tmp 1)⟩,
    ⟨(some 4), none, .load none (.tmp 3)⟩,
    ⟨(some 5), none, .call 26 [(.tmp 4), (.const (.int .i64 (-5))), (.const (.int .i64 5))]⟩,
    ⟨(some 2), none, .mv (.tmp 5)⟩])
  (.ret))
theorem h_impl_GoodClock : (Try.prog.funcs[n_impl_GoodClock]?).bind (fun fn => fn.body.bind (comp Try.prog fn.ntmps)) = some (AS.strip c_impl_GoodClock) := by kernel_rfl
theorem r_impl_GoodClock : (Try.prog.funcs[n_impl_GoodClock]?).map (fun fn => (fn.results.toList, fn.ntmps)) = some ([.tmp 2], 6) := by kernel_rfl
-- 50 slices.IndexFunc[[]loop.example/g00850/impl.Lease,loop.example/g00850/impl.Lease]
abbrev n_slices_IndexFunc___impl_Lease_impl_Lease_ : Nat := 50
def c_slices_IndexFunc___impl_Lease_impl_Lease__l1 : AS :=
  .seq (.ops [⟨(some 9), none, .bin .lss (.tmp 8) (.tmp 7)⟩])
  (.seq (.cond (.tmp 9) (.skip) (.exit 0))
  (.seq (.block 1 (.seq (.ops [⟨(some 10), none, .mv (.tmp 8)⟩,
    ⟨(some 5), none, .mv (.tmp 10)⟩])
  (.seq (.ops [⟨(some 11), none, .mv (.tmp 1)⟩,
    ⟨(some 12), none, .mv (.tmp 0)⟩,
    ⟨(some 13), none, .mv (.tmp 5)⟩,
    ⟨(some 14), none, .ia 3 (.tmp 12) (.tmp 13)⟩,
    ⟨(some 15), none, .load (some 3) (.tmp 14)⟩,
    ⟨(some 16), none, .callv (.tmp 11) [(.tmp 15)]⟩])
  (.cond (.tmp 16) (.seq (.ops [⟨(some 17), none, .mv (.tmp 5)⟩,
    ⟨(some 4), none, .mv (.tmp 17)⟩])
  (.ret)) (.skip)))))
  (.kept [0, 1, 7, 8] (.ops [⟨(some 18), none, .bin .add (.tmp 8) (.const (.int .i64 1))⟩,
    ⟨(some 8), none, .mv (.tmp 18)⟩]))))
def c_slices_IndexFunc___impl_Lease_impl_Lease_ : AS :=
  .seq (.ops [⟨(some 4), none, .mv (.const (.int .i64 0))⟩])
  (.seq (.seq (.ops [⟨(some 6), none, .mv (.tmp 0)⟩,
    ⟨(some 7), none, .lens (.tmp 6)⟩,
    ⟨(some 8), none, .mv (.const (.int .i64 0))⟩])
  (.block 0 (.loop 2 [(0, 0), (1, 0), (7, 0), (8, 0)] c_slices_IndexFunc___impl_Lease_impl_Lease__l1)))
  (.kept [] (.seq (.ops [⟨(some 4), none, .mv (.const (.int .i64 (-1)))⟩])
  (.ret))))
theorem h_slices_IndexFunc___impl_Lease_impl_Lease_ : (Try.prog.funcs[n_slices_IndexFunc___impl_Lease_impl_Lease_]?).bind (fun fn => fn.body.bind (comp Try.prog fn.ntmps)) = some (AS.strip c_slices_IndexFunc___impl_Lease_impl_Lease_) := by kernel_rfl
theorem r_slices_IndexFunc___impl_Lease_impl_Lease_ : (Try.prog.funcs[n_slices_IndexFunc___impl_Lease_impl_Lease_]?).map (fun fn => (fn.results.toList, fn.ntmps)) = some ([.tmp 4], 19) := by kernel_rfl
-- 51 loop.example/g00850/spec.l2Clock
abbrev n_spec_l2Clock : Nat := 51
def c_spec_l2Clock : AS :=
  .seq (.ops [⟨(some 1), none, .box (.tmp 0)⟩,
    ⟨(some 2), none, .mv (.const (.bool false))⟩])
  (.seq (.ops [⟨(some 3), none, .fa 0 (.tmp 1)⟩,
    ⟨(some 4), none, .load none (.tmp 3)⟩,
    ⟨(some 5), none, .call 31 [(.tmp 4), (.const (.int .i64 (-5))), (.const (.int .i64 5))]⟩,
    ⟨(some 2), none, .mv (.tmp 5)⟩])
  (.ret))
theorem h_spec_l2Clock : (Try.prog.funcs[n_spec_l2Clock]?).bind (fun fn => fn.body.bind (comp Try.prog fn.ntmps)) = some (AS.strip c_spec_l2Clock) := by kernel_rfl
theorem r_spec_l2Clock : (Try.prog.funcs[n_spec_l2Clock]?).map (fun fn => (fn.results.toList, fn.ntmps)) = some ([.tmp 2], 6) := by kernel_rfl
-- 52 loop.example/g00850/spec.NewWatch
abbrev n_spec_NewWatch : Nat := 52
def c_spec_NewWatch : AS :=
  .seq (.ops [⟨(some 2), none, .alloc (.agg #[.int .i64 0, .slice none 0 0, .slice none 0 0])⟩,
    ⟨(some 3), none, .mv (.const (.bool false))⟩])
  (.seq (.ops [⟨(some 4), none, .mv (.tmp 0)⟩,
    ⟨(some 5), none, .build (.agg #[.int .i64 0, .slice none 0 0, .slice none 0 0]) [(1, 1, (.tmp 4))]⟩,
    ⟨(some 6), none, .call 33 [(.tmp 5)]⟩,
    ⟨(some 7), none, .call 34 [(.tmp 6)]⟩,
    ⟨(some 8), none, .ext 0 (.tmp 7)⟩,
    ⟨(some 9), none, .ext 1 (.tmp 7)⟩,
    ⟨none, none, .store 3 (.tmp 2) (.tmp 8)⟩,
    ⟨(some 3), none, .mv (.tmp 9)⟩])
  (.ret))
theorem h_spec_NewWatch : (Try.prog.funcs[n_spec_NewWatch]?).bind (fun fn => fn.body.bind (comp Try.prog fn.ntmps)) = some (AS.strip c_spec_NewWatch) := by kernel_rfl
theorem r_spec_NewWatch : (Try.prog.funcs[n_spec_NewWatch]?).map (fun fn => (fn.results.toList, fn.ntmps)) = some ([.cell 2 27, .tmp 3], 10) := by kernel_rfl
-- 53 loop.example/g00850/spec.PassTime
abbrev n_spec_PassTime : Nat := 53
def c_spec_PassTime : AS :=
  .seq (.ops [⟨(some 2), none, .box (.tmp 0)⟩,
    ⟨(some 4), none, .alloc (.agg #[.int .i64 0, .slice none 0 0, .slice none 0 0])⟩,
    ⟨(some 5), none, .mv (.const (.bool false))⟩])
  (.seq (.seq (.ops [⟨(some 7), none, .load (some 3) (.tmp 2)⟩,
    ⟨(some 8), none, .call 39 [(.tmp 7)]⟩,
    ⟨(some 9), none, .not (.tmp 8)⟩,
    ⟨(some 10), none, .mv (.tmp 9)⟩,
    ⟨(some 11), some (10, false), .mv (.tmp 1)⟩,
    ⟨(some 12), some (10, false), .call 31 [(.tmp 11), (.const (.int .i64 0)), (.const (.int .i64 100000))]⟩,
    ⟨(some 13), some (10, false), .not (.tmp 12)⟩,
    ⟨(some 14), none, .pick (.tmp 10) (.const (.bool true)) (.tmp 13)⟩])
  (.kept [1, 2, 4, 14] (.cond (.tmp 14) (.seq (.ops [⟨(some 15), none, .build (.agg #[.int .i64 0, .slice none 0 0, .slice none 0 0]) []⟩,
    ⟨none, none, .store 3 (.tmp 4) (.tmp 15)⟩,
    ⟨(some 5), none, .mv (.const (.bool false))⟩])
  (.ret)) (.skip))))
  (.kept [1, 2, 4] (.seq (.ops [⟨(some 16), none, .load (some 3) (.tmp 2)⟩,
    ⟨(some 17), none, .call 33 [(.tmp 16)]⟩,
    ⟨(some 6), none, .alloc (.agg #[.int .i64 0, .slice none 0 0, .slice none 0 0])⟩,
    ⟨none, none, .store 3 (.tmp 6) (.tmp 17)⟩])
  (.seq (.ops [⟨(some 18), none, .fa 0 (.tmp 2)⟩,
    ⟨(some 19), none, .load none (.tmp 18)⟩,
    ⟨(some 20), none, .mv (.tmp 1)⟩,
    ⟨(some 21), none, .bin .add (.tmp 19) (.tmp 20)⟩,
    ⟨(some 22), none, .fa 0 (.tmp 6)⟩,
    ⟨none, none, .store 1 (.tmp 22) (.tmp 21)⟩])
  (.seq (.ops [⟨(some 23), none, .load (some 3) (.tmp 6)⟩,
    ⟨(some 24), none, .call 34 [(.tmp 23)]⟩,
    ⟨(some 25), none, .ext 0 (.tmp 24)⟩,
    ⟨(some 26), none, .ext 1 (.tmp 24)⟩,
    ⟨none, none, .store 3 (.tmp 4) (.tmp 25)⟩,
    ⟨(some 5), none, .mv (.tmp 26)⟩])
  (.ret))))))
theorem h_spec_PassTime : (Try.prog.funcs[n_spec_PassTime]?).bind (fun fn => fn.body.bind (comp Try.prog fn.ntmps)) = some (AS.strip c_spec_PassTime) := by kernel_rfl
theorem r_spec_PassTime : (Try.prog.funcs[n_spec_PassTime]?).map (fun fn => (fn.results.toList, fn.ntmps)) = some ([.cell 4 27, .tmp 5], 27) := by kernel_rfl
-- 54 loop.example/g00850/spec.PlayWatch
abbrev n_spec_PlayWatch : Nat := 54
def c_spec_PlayWatch_l1 : AS :=
  .seq (.seq (.ops [⟨(some 21), none, .mv (.tmp 7)⟩,
    ⟨(some 22), none, .mv (.tmp 1)⟩,
    ⟨(some 23), none, .lens (.tmp 22)⟩,
    ⟨(some 24), none, .bin .lss (.tmp 21) (.tmp 23)⟩])
  (.cond (.tmp 24) (.skip) (.exit 0)))
  (.seq (.block 1 (.seq (.tops [(1, 0), (4, 0), (6, 0), (7, 0), (8, 0), (9, 0)] (.rd ⟨(some 28), none, .load (some 3) (.tmp 6)⟩ (.rd ⟨(some 29), none, .mv (.tmp 1)⟩ (.rd ⟨(some 30), none, .mv (.tmp 7)⟩ (.rd ⟨(some 31), none, .ia 3 (.tmp 29) (.tmp 30)⟩ (.rd ⟨(some 32), none, .load (some 3) (.tmp 31)⟩ (.alt [] ⟨(some 33), none, .call 57 [(.tmp 28), (.tmp 32)]⟩
    (.rd ⟨(some 27), none, .mv (.tmp 33)⟩ (.rd ⟨(some 34), none, .ext 0 (.tmp 27)⟩ (.rd ⟨(some 35), none, .ext 1 (.tmp 27)⟩ (.alt [⟨(some 35), none, .ext 1 (.tmp 27)⟩, ⟨(some 34), none, .ext 0 (.tmp 27)⟩, ⟨(some 27), none, .mv (.tmp 33)⟩] ⟨(some 8), none, .alloc (.agg #[.int .i64 0, .slice none 0 0, .slice none 0 0])⟩
    (.alt [⟨(some 35), none, .ext 1 (.tmp 27)⟩] ⟨none, none, .store 3 (.tmp 8) (.tmp 34)⟩
    (.rd ⟨(some 9), none, .mv (.tmp 35)⟩ (.done))
    (.none))
    (.none)))))
    (.alt [⟨(some 32), none, .load (some 3) (.tmp 31)⟩, ⟨(some 31), none, .ia 3 (.tmp 29) (.tmp 30)⟩, ⟨(some 30), none, .mv (.tmp 7)⟩, ⟨(some 29), none, .mv (.tmp 1)⟩, ⟨(some 28), none, .load (some 3) (.tmp 6)⟩] ⟨(some 8), none, .alloc (.agg #[.int .i64 0, .slice none 0 0, .slice none 0 0])⟩
    (.alt [] ⟨(some 33), none, .call 57 [(.tmp 28), (.tmp 32)]⟩
    (.rd ⟨(some 27), none, .mv (.tmp 33)⟩ (.rd ⟨(some 34), none, .ext 0 (.tmp 27)⟩ (.rd ⟨(some 35), none, .ext 1 (.tmp 27)⟩ (.alt [⟨(some 35), none, .ext 1 (.tmp 27)⟩] ⟨none, none, .store 3 (.tmp 8) (.tmp 34)⟩
    (.rd ⟨(some 9), none, .mv (.tmp 35)⟩ (.done))
    (.none)))))
    (.none))
    (.none)))))))))
  (.kept [1, 4, 6, 7, 8, 9] (.seq (.ops [⟨(some 36), none, .mv (.tmp 9)⟩])
  (.cond (.tmp 36) (.ops [⟨(some 37), none, .load (some 3) (.tmp 8)⟩,
    ⟨none, none, .store 3 (.tmp 6) (.tmp 37)⟩]) (.skip))))))
  (.kept [1, 4, 6, 7] (.ops [⟨(some 25), none, .mv (.tmp 7)⟩,
    ⟨(some 26), none, .bin .add (.tmp 25) (.const (.int .i64 1))⟩,
    ⟨(some 7), none, .mv (.tmp 26)⟩])))
def c_spec_PlayWatch : AS :=
  .seq (.ops [⟨(some 2), none, .box (.tmp 0)⟩,
    ⟨(some 4), none, .alloc (.agg #[.int .i64 0, .slice none 0 0, .slice none 0 0])⟩,
    ⟨(some 5), none, .mv (.const (.bool false))⟩])
  (.seq (.seq (.ops [⟨(some 10), none, .load (some 3) (.tmp 2)⟩,
    ⟨(some 11), none, .call 39 [(.tmp 10)]⟩,
    ⟨(some 12), none, .not (.tmp 11)⟩,
    ⟨(some 13), none, .mv (.tmp 12)⟩,
    ⟨(some 14), some (13, false), .mv (.tmp 1)⟩,
    ⟨(some 15), some (13, false), .lens (.tmp 14)⟩,
    ⟨(some 16), some (13, false), .bin .gtr (.tmp 15) (.const (.int .i64 100))⟩,
    ⟨(some 17), none, .pick (.tmp 13) (.const (.bool true)) (.tmp 16)⟩])
  (.kept [1, 2, 4, 17] (.cond (.tmp 17) (.seq (.ops [⟨(some 18), none, .build (.agg #[.int .i64 0, .slice none 0 0, .slice none 0 0]) []⟩,
    ⟨none, none, .store 3 (.tmp 4) (.tmp 18)⟩,
    ⟨(some 5), none, .mv (.const (.bool false))⟩])
  (.ret)) (.skip))))
  (.kept [1, 2, 4] (.seq (.ops [⟨(some 19), none, .load (some 3) (.tmp 2)⟩,
    ⟨(some 20), none, .call 33 [(.tmp 19)]⟩,
    ⟨(some 6), none, .alloc (.agg #[.int .i64 0, .slice none 0 0, .slice none 0 0])⟩,
    ⟨none, none, .store 3 (.tmp 6) (.tmp 20)⟩])
  (.seq (.seq (.ops [⟨(some 7), none, .mv (.const (.int .i64 0))⟩])
  (.block 0 (.loop 2 [(1, 0), (4, 0), (6, 0), (7, 0)] c_spec_PlayWatch_l1)))
  (.kept [4, 6] (.seq (.ops [⟨(some 38), none, .load (some 3) (.tmp 6)⟩,
    ⟨none, none, .store 3 (.tmp 4) (.tmp 38)⟩,
    ⟨(some 5), none, .mv (.const (.bool true))⟩])
  (.ret)))))))
theorem h_spec_PlayWatch : (Try.prog.funcs[n_spec_PlayWatch]?).bind (fun fn => fn.body.bind (comp Try.prog fn.ntmps)) = some (AS.strip c_spec_PlayWatch) := by kernel_rfl
theorem r_spec_PlayWatch : (Try.prog.funcs[n_spec_PlayWatch]?).map (fun fn => (fn.results.toList, fn.ntmps)) = some ([.cell 4 27, .tmp 5], 39) := by kernel_rfl
-- 55 loop.example/g00850/spec.l10Acts
abbrev n_spec_l10Acts : Nat := 55
def c_spec_l10Acts_l1 : AS :=
  .seq (.seq (.ops [⟨(some 14), none, .mv (.tmp 7)⟩,
    ⟨(some 15), none, .mv (.tmp 6)⟩,
    ⟨(some 16), none, .bin .lss (.tmp 14) (.tmp 15)⟩])
  (.cond (.tmp 16) (.skip) (.exit 0)))
  (.seq (.block 1 (.seq (.ops [⟨(some 19), none, .mv (.tmp 0)⟩,
    ⟨(some 20), none, .bsl 1 (.int .i64 0) 7 [(0, (.const (.int .i64 1))), (1, (.const (.int .i64 1))), (2, (.const (.int .i64 1))), (3, (.const (.int .i64 2))), (4, (.const (.int .i64 2))), (5, (.const (.int .i64 3))), (6, (.const (.int .i64 4)))]⟩,
    ⟨(some 21), none, .call 30 [(.tmp 19), (.tmp 20)]⟩,
    ⟨(some 22), none, .mv (.tmp 0)⟩,
    ⟨(some 23), none, .call 29 [(.tmp 22), (.const (.int .i64 5))]⟩,
    ⟨(some 24), none, .mv (.tmp 0)⟩,
    ⟨(some 25), none, .call 29 [(.tmp 24), (.const (.int .i64 12))]⟩,
    ⟨(some 26), none, .bin .add (.const (.int .i64 1)) (.tmp 25)⟩,
    ⟨(some 27), none, .build (.agg #[.int .i64 0, .int .i64 0, .int .i64 0]) [(0, 1, (.tmp 21)), (1, 1, (.tmp 23)), (2, 1, (.tmp 26))]⟩,
    ⟨(some 8), none, .alloc (.agg #[.int .i64 0, .int .i64 0, .int .i64 0])⟩,
    ⟨none, none, .store 3 (.tmp 8) (.tmp 27)⟩])
  (.kept [0, 5, 6, 7, 8] (.seq (.seq (.ops [⟨(some 28), none, .fa 0 (.tmp 8)⟩,
    ⟨(some 29), none, .load none (.tmp 28)⟩,
    ⟨(some 30), none, .bin .eql (.tmp 29) (.const (.int .i64 3))⟩])
  (.cond (.tmp 30) (.ops [⟨(some 31), none, .mv (.tmp 0)⟩,
    ⟨(some 32), none, .call 29 [(.tmp 31), (.const (.int .i64 13))]⟩,
    ⟨(some 33), none, .bin .sub (.tmp 32) (.const (.int .i64 6))⟩,
    ⟨(some 34), none, .fa 2 (.tmp 8)⟩,
    ⟨none, none, .store 1 (.tmp 34) (.tmp 33)⟩]) (.skip)))
  (.kept [0, 5, 6, 7, 8] (.ops [⟨(some 35), none, .mv (.tmp 5)⟩,
    ⟨(some 36), none, .load (some 3) (.tmp 8)⟩,
    ⟨(some 37), none, .bsl 3 (.agg #[.int .i64 0, .int .i64 0, .int .i64 0]) 1 [(0, (.tmp 36))]⟩,
    ⟨(some 38), none, .app 3 24 (.agg #[.int .i64 0, .int .i64 0, .int .i64 0]) (.tmp 35) (.tmp 37)⟩,
    ⟨(some 5), none, .mv (.tmp 38)⟩]))))))
  (.kept [0, 5, 6, 7] (.ops [⟨(some 17), none, .mv (.tmp 7)⟩,
    ⟨(some 18), none, .bin .add (.tmp 17) (.const (.int .i64 1))⟩,
    ⟨(some 7), none, .mv (.tmp 18)⟩])))
def c_spec_l10Acts : AS :=
  .seq (.ops [⟨(some 4), none, .mv (.const (.slice none 0 0))⟩])
  (.seq (.ops [⟨(some 9), none, .bsl 3 (.agg #[.int .i64 0, .int .i64 0, .int .i64 0]) 0 []⟩,
    ⟨(some 5), none, .mv (.tmp 9)⟩])
  (.seq (.ops [⟨(some 10), none, .mv (.tmp 0)⟩,
    ⟨(some 11), none, .mv (.tmp 1)⟩,
    ⟨(some 12), none, .bin .add (.tmp 11) (.const (.int .i64 1))⟩,
    ⟨(some 13), none, .call 29 [(.tmp 10), (.tmp 12)]⟩,
    ⟨(some 6), none, .mv (.tmp 13)⟩])
  (.seq (.seq (.ops [⟨(some 7), none, .mv (.const (.int .i64 0))⟩])
  (.block 0 (.loop 2 [(0, 0), (5, 3), (6, 0), (7, 0)] c_spec_l10Acts_l1)))
  (.kept [5] (.seq (.ops [⟨(some 39), none, .mv (.tmp 5)⟩,
    ⟨(some 4), none, .mv (.tmp 39)⟩])
  (.ret))))))
theorem h_spec_l10Acts : (Try.prog.funcs[n_spec_l10Acts]?).bind (fun fn => fn.body.bind (comp Try.prog fn.ntmps)) = some (AS.strip c_spec_l10Acts) := by kernel_rfl
theorem r_spec_l10Acts : (Try.prog.funcs[n_spec_l10Acts]?).map (fun fn => (fn.results.toList, fn.ntmps)) = some ([.tmp 4], 40) := by kernel_rfl
-- 56 slices.IndexFunc[[]loop.example/g00850/impl.Clock,loop.example/g00850/impl.Clock]
abbrev n_slices_IndexFunc___impl_Clock_impl_Clock_ : Nat := 56
def c_slices_IndexFunc___impl_Clock_impl_Clock__l1 : AS :=
  .seq (.ops [⟨(some 9), none, .bin .lss (.tmp 8) (.tmp 7)⟩])
  (.seq (.cond (.tmp 9) (.skip) (.exit 0))
  (.seq (.block 1 (.seq (.ops [⟨(some 10), none, .mv (.tmp 8)⟩,
    ⟨(some 5), none, .mv (.tmp 10)⟩])
  (.seq (.ops [⟨(some 11), none, .mv (.tmp 1)⟩,
    ⟨(some 12), none, .mv (.tmp 0)⟩,
    ⟨(some 13), none, .mv (.tmp 5)⟩,
    ⟨(some 14), none, .ia 1 (.tmp 12) (.tmp 13)⟩,
    ⟨(some 15), none, .load (some 1) (.tmp 14)⟩,
    ⟨(some 16), none, .callv (.tmp 11) [(.tmp 15)]⟩])
  (.cond (.tmp 16) (.seq (.ops [⟨(some 17), none, .mv (.tmp 5)⟩,
    ⟨(some 4), none, .mv (.tmp 17)⟩])
  (.ret)) (.skip)))))
  (.kept [0, 1, 7, 8] (.ops [⟨(some 18), none, .bin .add (.tmp 8) (.const (.int .i64 1))⟩,
    ⟨(some 8), none, .mv (.tmp 18)⟩]))))
def c_slices_IndexFunc___impl_Clock_impl_Clock_ : AS :=
  .seq (.ops [⟨(some 4), none, .mv (.const (.int .i64 0))⟩])
  (.seq (.seq (.ops [⟨(some 6), none, .mv (.tmp 0)⟩,
    ⟨(some 7), none, .lens (.tmp 6)⟩,
    ⟨(some 8), none, .mv (.const (.int .i64 0))⟩])
  (.block 0 (.loop 2 [(0, 0), (1, 0), (7, 0), (8, 0)] c_slices_IndexFunc___impl_Clock_impl_Clock__l1)))
  (.kept [] (.seq (.ops [⟨(some 4), none, .mv (.const (.int .i64 (-1)))⟩])
  (.ret))))
theorem h_slices_IndexFunc___impl_Clock_impl_Clock_ : (Try.prog.funcs[n_slices_IndexFunc___impl_Clock_impl_Clock_]?).bind (fun fn => fn.body.bind (comp Try.prog fn.ntmps)) = some (AS.strip c_slices_IndexFunc___impl_Clock_impl_Clock_) := by kernel_rfl
theorem r_slices_IndexFunc___impl_Clock_impl_Clock_ : (Try.prog.funcs[n_slices_IndexFunc___impl_Clock_impl_Clock_]?).map (fun fn => (fn.results.toList, fn.ntmps)) = some ([.tmp 4], 19) := by kernel_rfl
-- 57 loop.example/g00850/spec.l10Do
abbrev n_spec_l10Do : Nat := 57
def c_spec_l10Do : AS :=
  .seq (.ops [⟨(some 2), none, .box (.tmp 0)⟩,
    ⟨(some 3), none, .box (.tmp 1)⟩,
    ⟨(some 4), none, .alloc (.agg #[.int .i64 0, .slice none 0 0, .slice none 0 0])⟩,
    ⟨(some 5), none, .mv (.const (.bool false))⟩])
  (.seq (.seq (.ops [⟨(some 6), none, .fa 0 (.tmp 3)⟩,
    ⟨(some 7), none, .load none (.tmp 6)⟩])
  (.block 0 (.seq (.ops [⟨(some 9), none, .bin .eql (.tmp 7) (.const (.int .i64 1))⟩,
    ⟨(some 8), none, .mv (.tmp 9)⟩])
  (.cond (.tmp 8) (.seq (.ops [⟨(some 10), none, .load (some 3) (.tmp 2)⟩,
    ⟨(some 11), none, .fa 1 (.tmp 3)⟩,
    ⟨(some 12), none, .load none (.tmp 11)⟩,
    ⟨(some 13), none, .fa 2 (.tmp 3)⟩,
    ⟨(some 14), none, .load none (.tmp 13)⟩,
    ⟨(some 15), none, .call 12 [(.tmp 10), (.tmp 12), (.tmp 14)]⟩,
    ⟨(some 16), none, .ext 0 (.tmp 15)⟩,
    ⟨(some 17), none, .ext 1 (.tmp 15)⟩,
    ⟨none, none, .store 3 (.tmp 4) (.tmp 16)⟩,
    ⟨(some 5), none, .mv (.tmp 17)⟩])
  (.ret)) (.seq (.ops [⟨(some 19), none, .bin .eql (.tmp 7) (.const (.int .i64 2))⟩,
    ⟨(some 18), none, .mv (.tmp 19)⟩])
  (.cond (.tmp 18) (.seq (.ops [⟨(some 20), none, .load (some 3) (.tmp 2)⟩,
    ⟨(some 21), none, .fa 2 (.tmp 3)⟩,
    ⟨(some 22), none, .load none (.tmp 21)⟩,
    ⟨(some 23), none, .call 53 [(.tmp 20), (.tmp 22)]⟩,
    ⟨(some 24), none, .ext 0 (.tmp 23)⟩,
    ⟨(some 25), none, .ext 1 (.tmp 23)⟩,
    ⟨none, none, .store 3 (.tmp 4) (.tmp 24)⟩,
    ⟨(some 5), none, .mv (.tmp 25)⟩])
  (.ret)) (.seq (.ops [⟨(some 27), none, .bin .eql (.tmp 7) (.const (.int .i64 3))⟩,
    ⟨(some 26), none, .mv (.tmp 27)⟩])
  (.cond (.tmp 26) (.seq (.ops [⟨(some 28), none, .load (some 3) (.tmp 2)⟩,
    ⟨(some 29), none, .fa 1 (.tmp 3)⟩,
    ⟨(some 30), none, .load none (.tmp 29)⟩,
    ⟨(some 31), none, .fa 2 (.tmp 3)⟩,
    ⟨(some 32), none, .load none (.tmp 31)⟩,
    ⟨(some 33), none, .call 58 [(.tmp 28), (.tmp 30), (.tmp 32)]⟩,
    ⟨(some 34), none, .ext 0 (.tmp 33)⟩,
    ⟨(some 35), none, .ext 1 (.tmp 33)⟩,
    ⟨none, none, .store 3 (.tmp 4) (.tmp 34)⟩,
    ⟨(some 5), none, .mv (.tmp 35)⟩])
  (.ret)) (.seq (.ops [⟨(some 37), none, .bin .eql (.tmp 7) (.const (.int .i64 4))⟩,
    ⟨(some 36), none, .mv (.tmp 37)⟩])
  (.cond (.tmp 36) (.seq (.ops [⟨(some 38), none, .load (some 3) (.tmp 2)⟩,
    ⟨(some 39), none, .fa 1 (.tmp 3)⟩,
    ⟨(some 40), none, .load none (.tmp 39)⟩,
    ⟨(some 41), none, .call 59 [(.tmp 38), (.tmp 40)]⟩,
    ⟨(some 42), none, .ext 0 (.tmp 41)⟩,
    ⟨(some 43), none, .ext 1 (.tmp 41)⟩,
    ⟨none, none, .store 3 (.tmp 4) (.tmp 42)⟩,
    ⟨(some 5), none, .mv (.tmp 43)⟩])
  (.ret)) (.skip)))))))))))
  (.kept [4] (.seq (.ops [⟨(some 44), none, .build (.agg #[.int .i64 0, .slice none 0 0, .slice none 0 0]) []⟩,
    ⟨none, none, .store 3 (.tmp 4) (.tmp 44)⟩,
    ⟨(some 5), none, .mv (.const (.bool false))⟩])
  (.ret))))
theorem h_spec_l10Do : (Try.prog.funcs[n_spec_l10Do]?).bind (fun fn => fn.body.bind (comp Try.prog fn.ntmps)) = some (AS.strip c_spec_l10Do) := by kernel_rfl
theorem r_spec_l10Do : (Try.prog.funcs[n_spec_l10Do]?).map (fun fn => (fn.results.toList, fn.ntmps)) = some ([.cell 4 27, .tmp 5], 45) := by kernel_rfl
-- 58 loop.example/g00850/spec.DriftTo
abbrev n_spec_DriftTo : Nat := 58
def c_spec_DriftTo : AS :=
  .seq (.ops [⟨(some 3), none, .box (.tmp 0)⟩,
    ⟨(some 6), none, .alloc (.agg #[.int .i64 0, .slice none 0 0, .slice none 0 0])⟩,
    ⟨(some 7), none, .mv (.const (.bool false))⟩])
  (.seq (.seq (.ops [⟨(some 9), none, .load (some 3) (.tmp 3)⟩,
    ⟨(some 10), none, .mv (.tmp 1)⟩,
    ⟨(some 11), none, .call 20 [(.tmp 9), (.tmp 10)]⟩,
    ⟨(some 12), none, .not (.tmp 11)⟩,
    ⟨(some 13), none, .mv (.tmp 12)⟩,
    ⟨(some 14), some (13, false), .mv (.tmp 2)⟩,
    ⟨(some 15), some (13, false), .call 31 [(.tmp 14), (.const (.int .i64 (-5))), (.const (.int .i64 5))]⟩,
    ⟨(some 16), some (13, false), .not (.tmp 15)⟩,
    ⟨(some 17), none, .pick (.tmp 13) (.const (.bool true)) (.tmp 16)⟩])
  (.kept [1, 2, 3, 6, 17] (.cond (.tmp 17) (.seq (.ops [⟨(some 18), none, .build (.agg #[.int .i64 0, .slice none 0 0, .slice none 0 0]) []⟩,
    ⟨none, none, .store 3 (.tmp 6) (.tmp 18)⟩,
    ⟨(some 7), none, .mv (.const (.bool false))⟩])
  (.ret)) (.skip))))
  (.kept [1, 2, 3, 6] (.seq (.ops [⟨(some 19), none, .load (some 3) (.tmp 3)⟩,
    ⟨(some 20), none, .call 33 [(.tmp 19)]⟩,
    ⟨(some 8), none, .alloc (.agg #[.int .i64 0, .slice none 0 0, .slice none 0 0])⟩,
    ⟨none, none, .store 3 (.tmp 8) (.tmp 20)⟩])
  (.seq (.ops [⟨(some 21), none, .fa 1 (.tmp 8)⟩,
    ⟨(some 22), none, .load none (.tmp 21)⟩,
    ⟨(some 23), none, .mv (.tmp 1)⟩,
    ⟨(some 24), none, .mv (.tmp 2)⟩,
    ⟨(some 25), none, .build (.agg #[.int .i64 0]) [(0, 1, (.tmp 24))]⟩,
    ⟨(some 26), none, .ia 1 (.tmp 22) (.tmp 23)⟩,
    ⟨none, none, .store 1 (.tmp 26) (.tmp 25)⟩])
  (.kept [6, 8] (.seq (.ops [⟨(some 27), none, .load (some 3) (.tmp 8)⟩,
    ⟨none, none, .store 3 (.tmp 6) (.tmp 27)⟩,
    ⟨(some 7), none, .mv (.const (.bool true))⟩])
  (.ret)))))))
theorem h_spec_DriftTo : (Try.prog.funcs[n_spec_DriftTo]?).bind (fun fn => fn.body.bind (comp Try.prog fn.ntmps)) = some (AS.strip c_spec_DriftTo) := by kernel_rfl
theorem r_spec_DriftTo : (Try.prog.funcs[n_spec_DriftTo]?).map (fun fn => (fn.results.toList, fn.ntmps)) = some ([.cell 6 27, .tmp 7], 28) := by kernel_rfl
-- 59 loop.example/g00850/spec.GiveBack
abbrev n_spec_GiveBack : Nat := 59
def c_spec_GiveBack_l1 : AS :=
  .seq (.seq (.ops [⟨(some 26), none, .mv (.tmp 8)⟩,
    ⟨(some 27), none, .fa 2 (.tmp 6)⟩,
    ⟨(some 28), none, .load none (.tmp 27)⟩,
    ⟨(some 29), none, .lens (.tmp 28)⟩,
    ⟨(some 30), none, .bin .lss (.tmp 26) (.tmp 29)⟩])
  (.cond (.tmp 30) (.skip) (.exit 0)))
  (.seq (.block 1 (.seq (.ops [⟨(some 33), none, .fa 2 (.tmp 6)⟩,
    ⟨(some 34), none, .load none (.tmp 33)⟩,
    ⟨(some 35), none, .mv (.tmp 8)⟩,
    ⟨(some 36), none, .ia 3 (.tmp 34) (.tmp 35)⟩,
    ⟨(some 37), none, .fa 0 (.tmp 36)⟩,
    ⟨(some 38), none, .load none (.tmp 37)⟩,
    ⟨(some 39), none, .mv (.tmp 1)⟩,
    ⟨(some 40), none, .bin .eql (.tmp 38) (.tmp 39)⟩,
    ⟨(some 41), none, .mv (.tmp 40)⟩,
    ⟨(some 42), some (41, true), .fa 2 (.tmp 6)⟩,
    ⟨(some 43), some (41, true), .load none (.tmp 42)⟩,
    ⟨(some 44), some (41, true), .mv (.tmp 8)⟩,
    ⟨(some 45), some (41, true), .ia 3 (.tmp 43) (.tmp 44)⟩,
    ⟨(some 46), some (41, true), .fa 2 (.tmp 45)⟩,
    ⟨(some 47), some (41, true), .load none (.tmp 46)⟩,
    ⟨(some 48), some (41, true), .mv (.tmp 7)⟩,
    ⟨(some 49), some (41, true), .bin .geq (.tmp 47) (.tmp 48)⟩,
    ⟨(some 50), none, .pick (.tmp 41) (.tmp 49) (.const (.bool false))⟩])
  (.kept [1, 4, 6, 7, 8, 50] (.cond (.tmp 50) (.ops [⟨(some 51), none, .fa 2 (.tmp 6)⟩,
    ⟨(some 52), none, .load none (.tmp 51)⟩,
    ⟨(some 53), none, .mv (.tmp 8)⟩,
    ⟨(some 54), none, .mv (.tmp 7)⟩,
    ⟨(some 55), none, .bin .sub (.tmp 54) (.const (.int .i64 1))⟩,
    ⟨(some 56), none, .ia 3 (.tmp 52) (.tmp 53)⟩,
    ⟨(some 57), none, .fa 2 (.tmp 56)⟩,
    ⟨none, none, .store 1 (.tmp 57) (.tmp 55)⟩]) (.skip)))))
  (.kept [1, 4, 6, 7, 8] (.ops [⟨(some 31), none, .mv (.tmp 8)⟩,
    ⟨(some 32), none, .bin .add (.tmp 31) (.const (.int .i64 1))⟩,
    ⟨(some 8), none, .mv (.tmp 32)⟩])))
def c_spec_GiveBack : AS :=
  .seq (.ops [⟨(some 2), none, .box (.tmp 0)⟩,
    ⟨(some 4), none, .alloc (.agg #[.int .i64 0, .slice none 0 0, .slice none 0 0])⟩,
    ⟨(some 5), none, .mv (.const (.bool false))⟩])
  (.seq (.seq (.ops [⟨(some 9), none, .load (some 3) (.tmp 2)⟩,
    ⟨(some 10), none, .mv (.tmp 1)⟩,
    ⟨(some 11), none, .call 20 [(.tmp 9), (.tmp 10)]⟩,
    ⟨(some 12), none, .not (.tmp 11)⟩,
    ⟨(some 13), none, .mv (.tmp 12)⟩,
    ⟨(some 14), some (13, false), .load (some 3) (.tmp 2)⟩,
    ⟨(some 15), some (13, false), .mv (.tmp 1)⟩,
    ⟨(some 16), some (13, false), .call 60 [(.tmp 14), (.tmp 15)]⟩,
    ⟨(some 17), some (13, false), .not (.tmp 16)⟩,
    ⟨(some 18), none, .pick (.tmp 13) (.const (.bool true)) (.tmp 17)⟩])
  (.kept [1, 2, 4, 18] (.cond (.tmp 18) (.seq (.ops [⟨(some 19), none, .build (.agg #[.int .i64 0, .slice none 0 0, .slice none 0 0]) []⟩,
    ⟨none, none, .store 3 (.tmp 4) (.tmp 19)⟩,
    ⟨(some 5), none, .mv (.const (.bool false))⟩])
  (.ret)) (.skip))))
  (.kept [1, 2, 4] (.seq (.ops [⟨(some 20), none, .load (some 3) (.tmp 2)⟩,
    ⟨(some 21), none, .call 33 [(.tmp 20)]⟩,
    ⟨(some 6), none, .alloc (.agg #[.int .i64 0, .slice none 0 0, .slice none 0 0])⟩,
    ⟨none, none, .store 3 (.tmp 6) (.tmp 21)⟩])
  (.seq (.ops [⟨(some 22), none, .load (some 3) (.tmp 2)⟩,
    ⟨(some 23), none, .mv (.tmp 1)⟩,
    ⟨(some 24), none, .call 21 [(.tmp 22), (.tmp 23)]⟩,
    ⟨(some 25), none, .fld 0 none (.tmp 24)⟩,
    ⟨(some 7), none, .mv (.tmp 25)⟩])
  (.seq (.seq (.ops [⟨(some 8), none, .mv (.const (.int .i64 0))⟩])
  (.block 0 (.loop 2 [(1, 0), (4, 0), (6, 0), (7, 0), (8, 0)] c_spec_GiveBack_l1)))
  (.kept [4, 6] (.seq (.ops [⟨(some 58), none, .load (some 3) (.tmp 6)⟩,
    ⟨none, none, .store 3 (.tmp 4) (.tmp 58)⟩,
    ⟨(some 5), none, .mv (.const (.bool true))⟩])
  (.ret))))))))
theorem h_spec_GiveBack : (Try.prog.funcs[n_spec_GiveBack]?).bind (fun fn => fn.body.bind (comp Try.prog fn.ntmps)) = some (AS.strip c_spec_GiveBack) := by kernel_rfl
theorem r_spec_GiveBack : (Try.prog.funcs[n_spec_GiveBack]?).map (fun fn => (fn.results.toList, fn.ntmps)) = some ([.cell 4 27, .tmp 5], 59) := by kernel_rfl
-- 60 loop.example/g00850/spec.l10Holds
abbrev n_spec_l10Holds : Nat := 60
def c_spec_l10Holds_l1 : AS :=
  .seq (.seq (.ops [⟨(some 12), none, .mv (.tmp 6)⟩,
    ⟨(some 13), none, .fa 2 (.tmp 2)⟩,
    ⟨(some 14), none, .load none (.tmp 13)⟩,
    ⟨(some 15), none, .lens (.tmp 14)⟩,
    ⟨(some 16), none, .bin .lss (.tmp 12) (.tmp 15)⟩])
  (.cond (.tmp 16) (.skip) (.exit 0)))
  (.seq (.block 1 (.seq (.ops [⟨(some 19), none, .fa 2 (.tmp 2)⟩,
    ⟨(some 20), none, .load none (.tmp 19)⟩,
    ⟨(some 21), none, .mv (.tmp 6)⟩,
    ⟨(some 22), none, .ia 3 (.tmp 20) (.tmp 21)⟩,
    ⟨(some 23), none, .load (some 3) (.tmp 22)⟩,
    ⟨(some 7), none, .alloc (.agg #[.int .i64 0, .int .i64 0, .int .i64 0])⟩,
    ⟨none, none, .store 3 (.tmp 7) (.tmp 23)⟩])
  (.seq (.ops [⟨(some 24), none, .fa 0 (.tmp 7)⟩,
    ⟨(some 25), none, .load none (.tmp 24)⟩,
    ⟨(some 26), none, .mv (.tmp 1)⟩,
    ⟨(some 27), none, .bin .eql (.tmp 25) (.tmp 26)⟩,
    ⟨(some 28), none, .mv (.tmp 27)⟩,
    ⟨(some 29), some (28, true), .fa 1 (.tmp 7)⟩,
    ⟨(some 30), some (28, true), .load none (.tmp 29)⟩,
    ⟨(some 31), some (28, true), .mv (.tmp 5)⟩,
    ⟨(some 32), some (28, true), .bin .leq (.tmp 30) (.tmp 31)⟩,
    ⟨(some 33), none, .pick (.tmp 28) (.tmp 32) (.const (.bool false))⟩,
    ⟨(some 34), none, .mv (.tmp 33)⟩,
    ⟨(some 35), some (34, true), .fa 2 (.tmp 7)⟩,
    ⟨(some 36), some (34, true), .load none (.tmp 35)⟩,
    ⟨(some 37), some (34, true), .mv (.tmp 5)⟩,
    ⟨(some 38), some (34, true), .bin .geq (.tmp 36) (.tmp 37)⟩,
    ⟨(some 39), none, .pick (.tmp 34) (.tmp 38) (.const (.bool false))⟩])
  (.kept [1, 2, 5, 6, 39] (.cond (.tmp 39) (.seq (.ops [⟨(some 4), none, .mv (.const (.bool true))⟩])
  (.ret)) (.skip))))))
  (.kept [1, 2, 5, 6] (.ops [⟨(some 17), none, .mv (.tmp 6)⟩,
    ⟨(some 18), none, .bin .add (.tmp 17) (.const (.int .i64 1))⟩,
    ⟨(some 6), none, .mv (.tmp 18)⟩])))
def c_spec_l10Holds : AS :=
  .seq (.ops [⟨(some 2), none, .box (.tmp 0)⟩,
    ⟨(some 4), none, .mv (.const (.bool false))⟩])
  (.seq (.ops [⟨(some 8), none, .load (some 3) (.tmp 2)⟩,
    ⟨(some 9), none, .mv (.tmp 1)⟩,
    ⟨(some 10), none, .call 21 [(.tmp 8), (.tmp 9)]⟩,
    ⟨(some 11), none, .fld 1 none (.tmp 10)⟩,
    ⟨(some 5), none, .mv (.tmp 11)⟩])
  (.seq (.seq (.ops [⟨(some 6), none, .mv (.const (.int .i64 0))⟩])
  (.block 0 (.loop 2 [(1, 0), (2, 0), (5, 0), (6, 0)] c_spec_l10Holds_l1)))
  (.kept [] (.seq (.ops [⟨(some 4), none, .mv (.const (.bool false))⟩])
  (.ret)))))
theorem h_spec_l10Holds : (Try.prog.funcs[n_spec_l10Holds]?).bind (fun fn => fn.body.bind (comp Try.prog fn.ntmps)) = some (AS.strip c_spec_l10Holds) := by kernel_rfl
theorem r_spec_l10Holds : (Try.prog.funcs[n_spec_l10Holds]?).map (fun fn => (fn.results.toList, fn.ntmps)) = some ([.tmp 4], 40) := by kernel_rfl

end Go.Proofs.Wb

/- The compiled statements of the functions that the law reaches. -/
import Derived.Test.YtpfgmidkclompaaProg
import Derived.Test.YtpfgmidkclompaaAmAuto
import Derived.Test.YtpfgmidkclompaaAmSet
namespace Go.Proofs.Wb
open Go Go.Am
@[go_sem] theorem w_7 : wide Try.prog 7 = some (some 4) := by kernel_rfl
@[go_sem] theorem w_8 : wide Try.prog 8 = some (some 4) := by kernel_rfl
@[go_sem] theorem w_13 : wide Try.prog 13 = some (some 2) := by kernel_rfl
@[go_sem] theorem w_14 : wide Try.prog 14 = some (some 2) := by kernel_rfl
@[go_sem] theorem w_18 : wide Try.prog 18 = some (some 1) := by kernel_rfl
@[go_sem] theorem w_19 : wide Try.prog 19 = some (some 1) := by kernel_rfl
@[go_sem] theorem w_48 : wide Try.prog 48 = some (some 8) := by kernel_rfl
@[go_sem] theorem w_49 : wide Try.prog 49 = some (some 8) := by kernel_rfl
@[go_sem] theorem w_53 : wide Try.prog 53 = some (some 8) := by kernel_rfl
@[go_sem] theorem w_54 : wide Try.prog 54 = some (some 8) := by kernel_rfl
@[go_sem] theorem w_59 : wide Try.prog 59 = some (some 3) := by kernel_rfl
@[go_sem] theorem w_60 : wide Try.prog 60 = some (some 3) := by kernel_rfl
@[go_sem] theorem w_71 : wide Try.prog 71 = some (some 3) := by kernel_rfl
@[go_sem] theorem w_72 : wide Try.prog 72 = some (some 3) := by kernel_rfl
@[go_sem] theorem w_102 : wide Try.prog 102 = some (some 3) := by kernel_rfl
@[go_sem] theorem w_104 : wide Try.prog 104 = some (some 3) := by kernel_rfl
@[go_sem] theorem w_130 : wide Try.prog 130 = some (some 4) := by kernel_rfl
@[go_sem] theorem w_131 : wide Try.prog 131 = some (some 4) := by kernel_rfl
@[go_sem] theorem w_143 : wide Try.prog 143 = some (some 11) := by kernel_rfl
@[go_sem] theorem w_144 : wide Try.prog 144 = some (some 11) := by kernel_rfl
-- 4 loop.example/g00850/laws.FnExactSeenBy
abbrev n_laws_FnExactSeenBy : Nat := 4
def c_laws_FnExactSeenBy : AS :=
  .seq (.ops [⟨(some 4), none, .mv (.const (.bool false))⟩])
  (.seq (.ops [⟨(some 5), none, .mv (.const (.int .i64 1048576))⟩])
  (.seq (.ops [⟨(some 16), none, .mv (.tmp 0)⟩,
    ⟨(some 17), none, .mv (.tmp 5)⟩,
    ⟨(some 18), none, .call 7 [(.tmp 16), (.tmp 17)]⟩,
    ⟨(some 5), none, .mv (.tmp 18)⟩])
  (.seq (.seq (.ops [⟨(some 19), none, .mv (.tmp 5)⟩,
    ⟨(some 20), none, .bin .lss (.tmp 19) (.const (.int .i64 0))⟩])
  (.cond (.tmp 20) (.seq (.ops [⟨(some 4), none, .mv (.const (.bool true))⟩])
  (.ret)) (.skip)))
  (.seq (.ops [⟨(some 22), none, .mv (.tmp 0)⟩,
    ⟨(some 23), none, .call 9 [(.tmp 22)]⟩,
    ⟨(some 24), none, .mv (.tmp 1)⟩,
    ⟨(some 25), none, .call 16 [(.tmp 23), (.tmp 24)]⟩,
    ⟨(some 21), none, .mv (.tmp 25)⟩,
    ⟨(some 26), none, .ext 0 (.tmp 21)⟩,
    ⟨(some 27), none, .ext 1 (.tmp 21)⟩,
    ⟨(some 6), none, .mv (.tmp 26)⟩,
    ⟨(some 7), none, .mv (.tmp 27)⟩])
  (.kept [0, 1, 6, 7] (.seq (.ops [⟨(some 28), none, .mv (.tmp 0)⟩,
    ⟨(some 29), none, .call 9 [(.tmp 28)]⟩,
    ⟨(some 8), none, .mv (.tmp 29)⟩])
  (.seq (.ops [⟨(some 31), none, .mv (.tmp 8)⟩,
    ⟨(some 32), none, .mv (.tmp 1)⟩,
    ⟨(some 33), none, .call 17 [(.tmp 31), (.tmp 32)]⟩,
    ⟨(some 30), none, .mv (.tmp 33)⟩,
    ⟨(some 34), none, .ext 0 (.tmp 30)⟩,
    ⟨(some 35), none, .ext 1 (.tmp 30)⟩,
    ⟨(some 9), none, .mv (.tmp 34)⟩,
    ⟨(some 10), none, .mv (.tmp 35)⟩])
  (.kept [0, 1, 6, 7, 8, 9, 10] (.seq (.seq (.ops [⟨(some 36), none, .mv (.tmp 9)⟩,
    ⟨(some 37), none, .mv (.tmp 6)⟩,
    ⟨(some 38), none, .call 11 [(.tmp 36), (.tmp 37)]⟩,
    ⟨(some 39), none, .not (.tmp 38)⟩,
    ⟨(some 40), none, .mv (.tmp 39)⟩,
    ⟨(some 41), some (40, false), .mv (.tmp 10)⟩,
    ⟨(some 42), some (40, false), .mv (.tmp 7)⟩,
    ⟨(some 43), some (40, false), .eqb true (.tmp 41) (.tmp 42)⟩,
    ⟨(some 44), none, .pick (.tmp 40) (.const (.bool true)) (.tmp 43)⟩])
  (.kept [0, 1, 6, 7, 8, 9, 10, 44] (.cond (.tmp 44) (.seq (.ops [⟨(some 4), none, .mv (.const (.bool false))⟩])
  (.ret)) (.skip))))
  (.kept [0, 1, 6, 7, 8, 9, 10] (.seq (.seq (.ops [⟨(some 45), none, .mv (.tmp 8)⟩,
    ⟨(some 46), none, .mv (.tmp 0)⟩,
    ⟨(some 47), none, .call 9 [(.tmp 46)]⟩,
    ⟨(some 48), none, .call 12 [(.tmp 45), (.tmp 47)]⟩,
    ⟨(some 49), none, .not (.tmp 48)⟩])
  (.cond (.tmp 49) (.seq (.ops [⟨(some 4), none, .mv (.const (.bool false))⟩])
  (.ret)) (.skip)))
  (.kept [0, 1, 6, 7, 8, 9, 10] (.seq (.ops [⟨(some 11), none, .mv (.const (.int .i64 1))⟩])
  (.seq (.ops [⟨(some 50), none, .mv (.tmp 8)⟩,
    ⟨(some 51), none, .mv (.tmp 11)⟩,
    ⟨(some 52), none, .call 13 [(.tmp 50), (.tmp 51)]⟩,
    ⟨(some 11), none, .mv (.tmp 52)⟩])
  (.seq (.seq (.ops [⟨(some 53), none, .mv (.tmp 11)⟩,
    ⟨(some 54), none, .bin .lss (.tmp 53) (.const (.int .i64 0))⟩,
    ⟨(some 55), none, .mv (.tmp 54)⟩,
    ⟨(some 56), some (55, false), .mv (.tmp 9)⟩,
    ⟨(some 57), some (55, false), .mv (.tmp 6)⟩,
    ⟨(some 58), some (55, false), .call 11 [(.tmp 56), (.tmp 57)]⟩,
    ⟨(some 59), some (55, false), .not (.tmp 58)⟩,
    ⟨(some 60), none, .pick (.tmp 55) (.const (.bool true)) (.tmp 59)⟩,
    ⟨(some 61), none, .mv (.tmp 60)⟩,
    ⟨(some 62), some (61, false), .mv (.tmp 10)⟩,
    ⟨(some 63), some (61, false), .mv (.tmp 7)⟩,
    ⟨(some 64), some (61, false), .eqb true (.tmp 62) (.tmp 63)⟩,
    ⟨(some 65), none, .pick (.tmp 61) (.const (.bool true)) (.tmp 64)⟩])
  (.kept [0, 1, 6, 7, 9, 65] (.cond (.tmp 65) (.seq (.ops [⟨(some 4), none, .mv (.const (.bool false))⟩])
  (.ret)) (.skip))))
  (.kept [0, 1, 6, 7, 9] (.seq (.ops [⟨(some 12), none, .mv (.const (.int .i64 1))⟩])
  (.seq (.ops [⟨(some 66), none, .mv (.tmp 9)⟩,
    ⟨(some 67), none, .mv (.tmp 12)⟩,
    ⟨(some 68), none, .call 14 [(.tmp 66), (.tmp 67)]⟩,
    ⟨(some 12), none, .mv (.tmp 68)⟩])
  (.seq (.ops [⟨(some 13), none, .mv (.const (.int .i64 1))⟩])
  (.seq (.ops [⟨(some 69), none, .mv (.tmp 9)⟩,
    ⟨(some 70), none, .mv (.tmp 13)⟩,
    ⟨(some 71), none, .call 15 [(.tmp 69), (.tmp 70)]⟩,
    ⟨(some 13), none, .mv (.tmp 71)⟩])
  (.seq (.seq (.ops [⟨(some 72), none, .mv (.tmp 13)⟩,
    ⟨(some 73), none, .bin .lss (.tmp 72) (.const (.int .i64 0))⟩])
  (.cond (.tmp 73) (.seq (.ops [⟨(some 4), none, .mv (.const (.bool false))⟩])
  (.ret)) (.skip)))
  (.seq (.seq (.ops [⟨(some 74), none, .mv (.tmp 13)⟩,
    ⟨(some 75), none, .mv (.tmp 12)⟩,
    ⟨(some 76), none, .bin .neq (.tmp 74) (.tmp 75)⟩])
  (.cond (.tmp 76) (.seq (.ops [⟨(some 4), none, .mv (.const (.bool false))⟩])
  (.ret)) (.skip)))
  (.seq (.ops [⟨(some 78), none, .mv (.tmp 0)⟩,
    ⟨(some 79), none, .call 9 [(.tmp 78)]⟩,
    ⟨(some 80), none, .mv (.tmp 1)⟩,
    ⟨(some 81), none, .call 17 [(.tmp 79), (.tmp 80)]⟩,
    ⟨(some 77), none, .mv (.tmp 81)⟩,
    ⟨(some 82), none, .ext 0 (.tmp 77)⟩,
    ⟨(some 83), none, .ext 1 (.tmp 77)⟩,
    ⟨(some 14), none, .mv (.tmp 82)⟩,
    ⟨(some 15), none, .mv (.tmp 83)⟩])
  (.kept [6, 7, 9, 12, 14, 15] (.seq (.seq (.ops [⟨(some 84), none, .mv (.tmp 14)⟩,
    ⟨(some 85), none, .mv (.tmp 6)⟩,
    ⟨(some 86), none, .call 11 [(.tmp 84), (.tmp 85)]⟩,
    ⟨(some 87), none, .not (.tmp 86)⟩,
    ⟨(some 88), none, .mv (.tmp 87)⟩,
    ⟨(some 89), some (88, false), .mv (.tmp 15)⟩,
    ⟨(some 90), some (88, false), .mv (.tmp 7)⟩,
    ⟨(some 91), some (88, false), .eqb true (.tmp 89) (.tmp 90)⟩,
    ⟨(some 92), none, .pick (.tmp 88) (.const (.bool true)) (.tmp 91)⟩])
  (.kept [9, 12, 92] (.cond (.tmp 92) (.seq (.ops [⟨(some 4), none, .mv (.const (.bool false))⟩])
  (.ret)) (.skip))))
  (.kept [9, 12] (.seq (.ops [⟨(some 13), none, .mv (.const (.int .i64 1))⟩])
  (.seq (.ops [⟨(some 93), none, .mv (.tmp 9)⟩,
    ⟨(some 94), none, .mv (.tmp 13)⟩,
    ⟨(some 95), none, .call 15 [(.tmp 93), (.tmp 94)]⟩,
    ⟨(some 13), none, .mv (.tmp 95)⟩])
  (.seq (.seq (.ops [⟨(some 96), none, .mv (.tmp 13)⟩,
    ⟨(some 97), none, .bin .lss (.tmp 96) (.const (.int .i64 0))⟩])
  (.cond (.tmp 97) (.seq (.ops [⟨(some 4), none, .mv (.const (.bool false))⟩])
  (.ret)) (.skip)))
  (.seq (.seq (.ops [⟨(some 98), none, .mv (.tmp 13)⟩,
    ⟨(some 99), none, .mv (.tmp 12)⟩,
    ⟨(some 100), none, .bin .neq (.tmp 98) (.tmp 99)⟩])
  (.cond (.tmp 100) (.seq (.ops [⟨(some 4), none, .mv (.const (.bool false))⟩])
  (.ret)) (.skip)))
  (.seq (.ops [⟨(some 4), none, .mv (.const (.bool true))⟩])
  (.ret))))))))))))))))))))))))))))))))
theorem h_laws_FnExactSeenBy : (Try.prog.funcs[n_laws_FnExactSeenBy]?).bind (fun fn => fn.body.bind (comp Try.prog fn.ntmps)) = some (AS.strip c_laws_FnExactSeenBy) := by kernel_rfl
theorem r_laws_FnExactSeenBy : (Try.prog.funcs[n_laws_FnExactSeenBy]?).map (fun fn => (fn.results.toList, fn.ntmps)) = some ([.tmp 4], 101) := by kernel_rfl
-- 7 loop.example/g00850/laws.szDeedS
abbrev n_laws_szDeedS : Nat := 7
def c_laws_szDeedS_l1 : AS :=
  .seq (.seq (.ops [⟨(some 12), none, .mv (.tmp 5)⟩,
    ⟨(some 13), none, .mv (.tmp 0)⟩,
    ⟨(some 14), none, .lens (.tmp 13)⟩,
    ⟨(some 15), none, .bin .lss (.tmp 12) (.tmp 14)⟩])
  (.cond (.tmp 15) (.skip) (.exit 0)))
  (.seq (.block 1 (.seq (.post [(20, 1, [(6, 3), (7, 3)])] (.ops [⟨(some 18), none, .mv (.tmp 0)⟩,
    ⟨(some 19), none, .mv (.tmp 5)⟩,
    ⟨(some 20), none, .ia 8 (.tmp 18) (.tmp 19)⟩,
    ⟨(some 21), none, .load (some 8) (.tmp 20)⟩,
    ⟨(some 22), none, .mv (.tmp 1)⟩,
    ⟨(some 23), none, .call 26 [(.tmp 21), (.tmp 22)]⟩,
    ⟨(some 1), none, .mv (.tmp 23)⟩]))
  (.kept [0, 1, 5] (.seq (.ops [⟨(some 24), none, .mv (.tmp 1)⟩,
    ⟨(some 25), none, .bin .lss (.tmp 24) (.const (.int .i64 0))⟩])
  (.cond (.tmp 25) (.seq (.ops [⟨(some 4), none, .mv (.const (.int .i64 (-1)))⟩])
  (.ret)) (.skip))))))
  (.kept [0, 1, 5] (.ops [⟨(some 16), none, .mv (.tmp 5)⟩,
    ⟨(some 17), none, .bin .add (.tmp 16) (.const (.int .i64 1))⟩,
    ⟨(some 5), none, .mv (.tmp 17)⟩])))
def c_laws_szDeedS : AS :=
  .seq (.ops [⟨(some 4), none, .mv (.const (.int .i64 0))⟩])
  (.seq (.ops [⟨(some 6), none, .mv (.tmp 1)⟩,
    ⟨(some 7), none, .mv (.tmp 0)⟩,
    ⟨(some 8), none, .lens (.tmp 7)⟩,
    ⟨(some 9), none, .bin .sub (.tmp 6) (.tmp 8)⟩,
    ⟨(some 1), none, .mv (.tmp 9)⟩])
  (.seq (.seq (.ops [⟨(some 10), none, .mv (.tmp 1)⟩,
    ⟨(some 11), none, .bin .lss (.tmp 10) (.const (.int .i64 0))⟩])
  (.cond (.tmp 11) (.seq (.ops [⟨(some 4), none, .mv (.const (.int .i64 (-1)))⟩])
  (.ret)) (.skip)))
  (.seq (.seq (.ops [⟨(some 5), none, .mv (.const (.int .i64 0))⟩])
  (.block 0 (.loop 2 [(0, 0), (1, 0), (5, 0)] c_laws_szDeedS_l1)))
  (.kept [1] (.seq (.ops [⟨(some 26), none, .mv (.tmp 1)⟩,
    ⟨(some 4), none, .mv (.tmp 26)⟩])
  (.ret))))))
theorem h_laws_szDeedS : (Try.prog.funcs[n_laws_szDeedS]?).bind (fun fn => fn.body.bind (comp Try.prog fn.ntmps)) = some (AS.strip c_laws_szDeedS) := by kernel_rfl
theorem r_laws_szDeedS : (Try.prog.funcs[n_laws_szDeedS]?).map (fun fn => (fn.results.toList, fn.ntmps)) = some ([.tmp 4], 27) := by kernel_rfl
-- 9 loop.example/g00850/laws.toDeedS
abbrev n_laws_toDeedS : Nat := 9
def c_laws_toDeedS_l1 : AS :=
  .seq (.seq (.ops [⟨(some 8), none, .mv (.tmp 4)⟩,
    ⟨(some 9), none, .mv (.tmp 0)⟩,
    ⟨(some 10), none, .lens (.tmp 9)⟩,
    ⟨(some 11), none, .bin .lss (.tmp 8) (.tmp 10)⟩])
  (.cond (.tmp 11) (.skip) (.exit 0)))
  (.seq (.block 1 (.post [(21, 1, [(6, 3), (7, 3)]), (18, 1, [(6, 3), (7, 3)])] (.ops [⟨(some 14), none, .mv (.tmp 3)⟩,
    ⟨(some 15), none, .mv (.tmp 4)⟩,
    ⟨(some 16), none, .mv (.tmp 0)⟩,
    ⟨(some 17), none, .mv (.tmp 4)⟩,
    ⟨(some 18), none, .ia 8 (.tmp 16) (.tmp 17)⟩,
    ⟨(some 19), none, .load (some 8) (.tmp 18)⟩,
    ⟨(some 20), none, .call 29 [(.tmp 19)]⟩,
    ⟨(some 21), none, .ia 8 (.tmp 14) (.tmp 15)⟩,
    ⟨none, none, .store 8 (.tmp 21) (.tmp 20)⟩])))
  (.kept [0, 3, 4] (.ops [⟨(some 12), none, .mv (.tmp 4)⟩,
    ⟨(some 13), none, .bin .add (.tmp 12) (.const (.int .i64 1))⟩,
    ⟨(some 4), none, .mv (.tmp 13)⟩])))
def c_laws_toDeedS : AS :=
  .seq (.ops [⟨(some 2), none, .mv (.const (.slice none 0 0))⟩])
  (.seq (.ops [⟨(some 5), none, .mv (.tmp 0)⟩,
    ⟨(some 6), none, .lens (.tmp 5)⟩,
    ⟨(some 7), none, .mks 8 88 (.agg #[.int .i64 0, .int .i64 0, .int .i64 0, .bool false, .bool false, .int .i64 0, .slice none 0 0, .slice none 0 0]) (.tmp 6) (.tmp 6)⟩,
    ⟨(some 3), none, .mv (.tmp 7)⟩])
  (.seq (.seq (.ops [⟨(some 4), none, .mv (.const (.int .i64 0))⟩])
  (.block 0 (.loop 1 [(0, 0), (3, 0), (4, 0)] c_laws_toDeedS_l1)))
  (.kept [3] (.seq (.ops [⟨(some 22), none, .mv (.tmp 3)⟩,
    ⟨(some 2), none, .mv (.tmp 22)⟩])
  (.ret)))))
theorem h_laws_toDeedS : (Try.prog.funcs[n_laws_toDeedS]?).bind (fun fn => fn.body.bind (comp Try.prog fn.ntmps)) = some (AS.strip c_laws_toDeedS) := by kernel_rfl
theorem r_laws_toDeedS : (Try.prog.funcs[n_laws_toDeedS]?).map (fun fn => (fn.results.toList, fn.ntmps)) = some ([.tmp 2], 23) := by kernel_rfl
-- 11 loop.example/g00850/laws.eqIntS
abbrev n_laws_eqIntS : Nat := 11
def c_laws_eqIntS_l1 : AS :=
  .seq (.seq (.ops [⟨(some 11), none, .mv (.tmp 5)⟩,
    ⟨(some 12), none, .mv (.tmp 0)⟩,
    ⟨(some 13), none, .lens (.tmp 12)⟩,
    ⟨(some 14), none, .bin .lss (.tmp 11) (.tmp 13)⟩])
  (.cond (.tmp 14) (.skip) (.exit 0)))
  (.seq (.block 1 (.seq (.dops [⟨(some 17), none, .mv (.tmp 0)⟩,
    ⟨(some 18), none, .mv (.tmp 5)⟩,
    ⟨(some 19), none, .ia 1 (.tmp 17) (.tmp 18)⟩,
    ⟨(some 20), none, .load none (.tmp 19)⟩,
    ⟨(some 21), none, .mv (.tmp 1)⟩,
    ⟨(some 22), none, .mv (.tmp 5)⟩,
    ⟨(some 23), none, .ia 1 (.tmp 21) (.tmp 22)⟩,
    ⟨(some 24), none, .load none (.tmp 23)⟩,
    ⟨(some 25), none, .bin .neq (.tmp 20) (.tmp 24)⟩])
  (.kept [0, 1, 5, 25] (.cond (.tmp 25) (.seq (.ops [⟨(some 4), none, .mv (.const (.bool false))⟩])
  (.ret)) (.skip)))))
  (.kept [0, 1, 5] (.ops [⟨(some 15), none, .mv (.tmp 5)⟩,
    ⟨(some 16), none, .bin .add (.tmp 15) (.const (.int .i64 1))⟩,
    ⟨(some 5), none, .mv (.tmp 16)⟩])))
def c_laws_eqIntS : AS :=
  .seq (.ops [⟨(some 4), none, .mv (.const (.bool false))⟩])
  (.seq (.seq (.ops [⟨(some 6), none, .mv (.tmp 0)⟩,
    ⟨(some 7), none, .lens (.tmp 6)⟩,
    ⟨(some 8), none, .mv (.tmp 1)⟩,
    ⟨(some 9), none, .lens (.tmp 8)⟩,
    ⟨(some 10), none, .bin .neq (.tmp 7) (.tmp 9)⟩])
  (.cond (.tmp 10) (.seq (.ops [⟨(some 4), none, .mv (.const (.bool false))⟩])
  (.ret)) (.skip)))
  (.kept [0, 1] (.seq (.seq (.ops [⟨(some 5), none, .mv (.const (.int .i64 0))⟩])
  (.block 0 (.loop 2 [(0, 0), (1, 0), (5, 0)] c_laws_eqIntS_l1)))
  (.kept [] (.seq (.ops [⟨(some 4), none, .mv (.const (.bool true))⟩])
  (.ret))))))
theorem h_laws_eqIntS : (Try.prog.funcs[n_laws_eqIntS]?).bind (fun fn => fn.body.bind (comp Try.prog fn.ntmps)) = some (AS.strip c_laws_eqIntS) := by kernel_rfl
theorem r_laws_eqIntS : (Try.prog.funcs[n_laws_eqIntS]?).map (fun fn => (fn.results.toList, fn.ntmps)) = some ([.tmp 4], 26) := by kernel_rfl
-- 12 loop.example/g00850/laws.eqDeedS
abbrev n_laws_eqDeedS : Nat := 12
def c_laws_eqDeedS_l1 : AS :=
  .seq (.seq (.ops [⟨(some 11), none, .mv (.tmp 5)⟩,
    ⟨(some 12), none, .mv (.tmp 0)⟩,
    ⟨(some 13), none, .lens (.tmp 12)⟩,
    ⟨(some 14), none, .bin .lss (.tmp 11) (.tmp 13)⟩])
  (.cond (.tmp 14) (.skip) (.exit 0)))
  (.seq (.block 1 (.seq (.post [(23, 1, [(6, 3), (7, 3)]), (19, 1, [(6, 3), (7, 3)])] (.rops [(none, ⟨(some 17), none, .mv (.tmp 0)⟩),
    (none, ⟨(some 18), none, .mv (.tmp 5)⟩),
    (none, ⟨(some 19), none, .ia 8 (.tmp 17) (.tmp 18)⟩),
    (none, ⟨(some 20), none, .load (some 8) (.tmp 19)⟩),
    (none, ⟨(some 21), none, .mv (.tmp 1)⟩),
    (none, ⟨(some 22), none, .mv (.tmp 5)⟩),
    (none, ⟨(some 23), none, .ia 8 (.tmp 21) (.tmp 22)⟩),
    (none, ⟨(some 24), none, .load (some 8) (.tmp 23)⟩),
    (some [], ⟨(some 25), none, .call 32 [(.tmp 20), (.tmp 24)]⟩),
    (none, ⟨(some 26), none, .not (.tmp 25)⟩)]))
  (.kept [0, 1, 5, 26] (.cond (.tmp 26) (.seq (.ops [⟨(some 4), none, .mv (.const (.bool false))⟩])
  (.ret)) (.skip)))))
  (.kept [0, 1, 5] (.ops [⟨(some 15), none, .mv (.tmp 5)⟩,
    ⟨(some 16), none, .bin .add (.tmp 15) (.const (.int .i64 1))⟩,
    ⟨(some 5), none, .mv (.tmp 16)⟩])))
def c_laws_eqDeedS : AS :=
  .seq (.ops [⟨(some 4), none, .mv (.const (.bool false))⟩])
  (.seq (.seq (.ops [⟨(some 6), none, .mv (.tmp 0)⟩,
    ⟨(some 7), none, .lens (.tmp 6)⟩,
    ⟨(some 8), none, .mv (.tmp 1)⟩,
    ⟨(some 9), none, .lens (.tmp 8)⟩,
    ⟨(some 10), none, .bin .neq (.tmp 7) (.tmp 9)⟩])
  (.cond (.tmp 10) (.seq (.ops [⟨(some 4), none, .mv (.const (.bool false))⟩])
  (.ret)) (.skip)))
  (.kept [0, 1] (.seq (.seq (.ops [⟨(some 5), none, .mv (.const (.int .i64 0))⟩])
  (.block 0 (.loop 2 [(0, 0), (1, 0), (5, 0)] c_laws_eqDeedS_l1)))
  (.kept [] (.seq (.ops [⟨(some 4), none, .mv (.const (.bool true))⟩])
  (.ret))))))
theorem h_laws_eqDeedS : (Try.prog.funcs[n_laws_eqDeedS]?).bind (fun fn => fn.body.bind (comp Try.prog fn.ntmps)) = some (AS.strip c_laws_eqDeedS) := by kernel_rfl
theorem r_laws_eqDeedS : (Try.prog.funcs[n_laws_eqDeedS]?).map (fun fn => (fn.results.toList, fn.ntmps)) = some ([.tmp 4], 27) := by kernel_rfl
-- 13 loop.example/g00850/laws.markDeedS
abbrev n_laws_markDeedS : Nat := 13
def c_laws_markDeedS_l1 : AS :=
  .seq (.seq (.ops [⟨(some 6), none, .mv (.tmp 5)⟩,
    ⟨(some 7), none, .mv (.tmp 0)⟩,
    ⟨(some 8), none, .lens (.tmp 7)⟩,
    ⟨(some 9), none, .bin .lss (.tmp 6) (.tmp 8)⟩])
  (.cond (.tmp 9) (.skip) (.exit 0)))
  (.seq (.block 1 (.seq (.ops [⟨(some 12), none, .mv (.tmp 0)⟩,
    ⟨(some 13), none, .mv (.tmp 5)⟩,
    ⟨(some 14), none, .mv (.tmp 1)⟩,
    ⟨(some 15), none, .ia 8 (.tmp 12) (.tmp 13)⟩,
    ⟨(some 16), none, .fa 0 (.tmp 15)⟩,
    ⟨none, none, .store 1 (.tmp 16) (.tmp 14)⟩])
  (.seq (.ops [⟨(some 17), none, .mv (.tmp 1)⟩,
    ⟨(some 18), none, .bin .add (.tmp 17) (.const (.int .i64 1))⟩,
    ⟨(some 1), none, .mv (.tmp 18)⟩])
  (.seq (.ops [⟨(some 19), none, .mv (.tmp 0)⟩,
    ⟨(some 20), none, .mv (.tmp 5)⟩,
    ⟨(some 21), none, .mv (.tmp 1)⟩,
    ⟨(some 22), none, .ia 8 (.tmp 19) (.tmp 20)⟩,
    ⟨(some 23), none, .fa 1 (.tmp 22)⟩,
    ⟨none, none, .store 1 (.tmp 23) (.tmp 21)⟩])
  (.seq (.ops [⟨(some 24), none, .mv (.tmp 1)⟩,
    ⟨(some 25), none, .bin .add (.tmp 24) (.const (.int .i64 1))⟩,
    ⟨(some 1), none, .mv (.tmp 25)⟩])
  (.seq (.ops [⟨(some 26), none, .mv (.tmp 0)⟩,
    ⟨(some 27), none, .mv (.tmp 5)⟩,
    ⟨(some 28), none, .mv (.tmp 1)⟩,
    ⟨(some 29), none, .ia 8 (.tmp 26) (.tmp 27)⟩,
    ⟨(some 30), none, .fa 2 (.tmp 29)⟩,
    ⟨none, none, .store 1 (.tmp 30) (.tmp 28)⟩])
  (.seq (.ops [⟨(some 31), none, .mv (.tmp 1)⟩,
    ⟨(some 32), none, .bin .add (.tmp 31) (.const (.int .i64 1))⟩,
    ⟨(some 1), none, .mv (.tmp 32)⟩])
  (.seq (.ops [⟨(some 33), none, .mv (.tmp 0)⟩,
    ⟨(some 34), none, .mv (.tmp 5)⟩,
    ⟨(some 35), none, .mv (.tmp 1)⟩,
    ⟨(some 36), none, .bin .rem (.tmp 35) (.const (.int .i64 3))⟩,
    ⟨(some 37), none, .bin .eql (.tmp 36) (.const (.int .i64 0))⟩,
    ⟨(some 38), none, .ia 8 (.tmp 33) (.tmp 34)⟩,
    ⟨(some 39), none, .fa 3 (.tmp 38)⟩,
    ⟨none, none, .store 1 (.tmp 39) (.tmp 37)⟩])
  (.kept [0, 1, 5] (.seq (.ops [⟨(some 40), none, .mv (.tmp 1)⟩,
    ⟨(some 41), none, .bin .add (.tmp 40) (.const (.int .i64 1))⟩,
    ⟨(some 1), none, .mv (.tmp 41)⟩])
  (.seq (.ops [⟨(some 42), none, .mv (.tmp 0)⟩,
    ⟨(some 43), none, .mv (.tmp 5)⟩,
    ⟨(some 44), none, .mv (.tmp 1)⟩,
    ⟨(some 45), none, .bin .rem (.tmp 44) (.const (.int .i64 3))⟩,
    ⟨(some 46), none, .bin .eql (.tmp 45) (.const (.int .i64 0))⟩,
    ⟨(some 47), none, .ia 8 (.tmp 42) (.tmp 43)⟩,
    ⟨(some 48), none, .fa 4 (.tmp 47)⟩,
    ⟨none, none, .store 1 (.tmp 48) (.tmp 46)⟩])
  (.kept [0, 1, 5] (.seq (.ops [⟨(some 49), none, .mv (.tmp 1)⟩,
    ⟨(some 50), none, .bin .add (.tmp 49) (.const (.int .i64 1))⟩,
    ⟨(some 1), none, .mv (.tmp 50)⟩])
  (.seq (.ops [⟨(some 51), none, .mv (.tmp 0)⟩,
    ⟨(some 52), none, .mv (.tmp 5)⟩,
    ⟨(some 53), none, .mv (.tmp 1)⟩,
    ⟨(some 54), none, .ia 8 (.tmp 51) (.tmp 52)⟩,
    ⟨(some 55), none, .fa 5 (.tmp 54)⟩,
    ⟨none, none, .store 1 (.tmp 55) (.tmp 53)⟩])
  (.seq (.ops [⟨(some 56), none, .mv (.tmp 1)⟩,
    ⟨(some 57), none, .bin .add (.tmp 56) (.const (.int .i64 1))⟩,
    ⟨(some 1), none, .mv (.tmp 57)⟩])
  (.seq (.post [(60, 1, [(6, 3), (7, 3)])] (.ops [⟨(some 58), none, .mv (.tmp 0)⟩,
    ⟨(some 59), none, .mv (.tmp 5)⟩,
    ⟨(some 60), none, .ia 8 (.tmp 58) (.tmp 59)⟩,
    ⟨(some 61), none, .fa 6 (.tmp 60)⟩,
    ⟨(some 62), none, .load none (.tmp 61)⟩,
    ⟨(some 63), none, .mv (.tmp 1)⟩,
    ⟨(some 64), none, .call 33 [(.tmp 62), (.tmp 63)]⟩,
    ⟨(some 1), none, .mv (.tmp 64)⟩]))
  (.kept [0, 1, 5] (.post [(67, 1, [(6, 3), (7, 3)])] (.ops [⟨(some 65), none, .mv (.tmp 0)⟩,
    ⟨(some 66), none, .mv (.tmp 5)⟩,
    ⟨(some 67), none, .ia 8 (.tmp 65) (.tmp 66)⟩,
    ⟨(some 68), none, .fa 7 (.tmp 67)⟩,
    ⟨(some 69), none, .load none (.tmp 68)⟩,
    ⟨(some 70), none, .mv (.tmp 1)⟩,
    ⟨(some 71), none, .call 22 [(.tmp 69), (.tmp 70)]⟩,
    ⟨(some 1), none, .mv (.tmp 71)⟩])))))))))))))))))))
  (.kept [0, 1, 5] (.ops [⟨(some 10), none, .mv (.tmp 5)⟩,
    ⟨(some 11), none, .bin .add (.tmp 10) (.const (.int .i64 1))⟩,
    ⟨(some 5), none, .mv (.tmp 11)⟩])))
def c_laws_markDeedS : AS :=
  .seq (.ops [⟨(some 4), none, .mv (.const (.int .i64 0))⟩])
  (.seq (.seq (.ops [⟨(some 5), none, .mv (.const (.int .i64 0))⟩])
  (.block 0 (.loop 2 [(0, 0), (1, 0), (5, 0)] c_laws_markDeedS_l1)))
  (.kept [1] (.seq (.ops [⟨(some 72), none, .mv (.tmp 1)⟩,
    ⟨(some 4), none, .mv (.tmp 72)⟩])
  (.ret))))
theorem h_laws_markDeedS : (Try.prog.funcs[n_laws_markDeedS]?).bind (fun fn => fn.body.bind (comp Try.prog fn.ntmps)) = some (AS.strip c_laws_markDeedS) := by kernel_rfl
theorem r_laws_markDeedS : (Try.prog.funcs[n_laws_markDeedS]?).map (fun fn => (fn.results.toList, fn.ntmps)) = some ([.tmp 4], 73) := by kernel_rfl
-- 14 loop.example/g00850/laws.markIntS
abbrev n_laws_markIntS : Nat := 14
def c_laws_markIntS_l1 : AS :=
  .seq (.seq (.ops [⟨(some 6), none, .mv (.tmp 5)⟩,
    ⟨(some 7), none, .mv (.tmp 0)⟩,
    ⟨(some 8), none, .lens (.tmp 7)⟩,
    ⟨(some 9), none, .bin .lss (.tmp 6) (.tmp 8)⟩])
  (.cond (.tmp 9) (.skip) (.exit 0)))
  (.seq (.block 1 (.seq (.ops [⟨(some 12), none, .mv (.tmp 0)⟩,
    ⟨(some 13), none, .mv (.tmp 5)⟩,
    ⟨(some 14), none, .mv (.tmp 1)⟩,
    ⟨(some 15), none, .ia 1 (.tmp 12) (.tmp 13)⟩,
    ⟨none, none, .store 1 (.tmp 15) (.tmp 14)⟩])
  (.ops [⟨(some 16), none, .mv (.tmp 1)⟩,
    ⟨(some 17), none, .bin .add (.tmp 16) (.const (.int .i64 1))⟩,
    ⟨(some 1), none, .mv (.tmp 17)⟩])))
  (.kept [0, 1, 5] (.ops [⟨(some 10), none, .mv (.tmp 5)⟩,
    ⟨(some 11), none, .bin .add (.tmp 10) (.const (.int .i64 1))⟩,
    ⟨(some 5), none, .mv (.tmp 11)⟩])))
def c_laws_markIntS : AS :=
  .seq (.ops [⟨(some 4), none, .mv (.const (.int .i64 0))⟩])
  (.seq (.seq (.ops [⟨(some 5), none, .mv (.const (.int .i64 0))⟩])
  (.block 0 (.loop 2 [(0, 0), (1, 0), (5, 0)] c_laws_markIntS_l1)))
  (.kept [1] (.seq (.ops [⟨(some 18), none, .mv (.tmp 1)⟩,
    ⟨(some 4), none, .mv (.tmp 18)⟩])
  (.ret))))
theorem h_laws_markIntS : (Try.prog.funcs[n_laws_markIntS]?).bind (fun fn => fn.body.bind (comp Try.prog fn.ntmps)) = some (AS.strip c_laws_markIntS) := by kernel_rfl
theorem r_laws_markIntS : (Try.prog.funcs[n_laws_markIntS]?).map (fun fn => (fn.results.toList, fn.ntmps)) = some ([.tmp 4], 19) := by kernel_rfl
-- 15 loop.example/g00850/laws.heldIntS
abbrev n_laws_heldIntS : Nat := 15
def c_laws_heldIntS_l1 : AS :=
  .seq (.seq (.ops [⟨(some 6), none, .mv (.tmp 5)⟩,
    ⟨(some 7), none, .mv (.tmp 0)⟩,
    ⟨(some 8), none, .lens (.tmp 7)⟩,
    ⟨(some 9), none, .bin .lss (.tmp 6) (.tmp 8)⟩])
  (.cond (.tmp 9) (.skip) (.exit 0)))
  (.seq (.block 1 (.seq (.seq (.ops [⟨(some 12), none, .mv (.tmp 0)⟩,
    ⟨(some 13), none, .mv (.tmp 5)⟩,
    ⟨(some 14), none, .ia 1 (.tmp 12) (.tmp 13)⟩,
    ⟨(some 15), none, .load none (.tmp 14)⟩,
    ⟨(some 16), none, .mv (.tmp 1)⟩,
    ⟨(some 17), none, .bin .neq (.tmp 15) (.tmp 16)⟩])
  (.cond (.tmp 17) (.seq (.ops [⟨(some 4), none, .mv (.const (.int .i64 (-1)))⟩])
  (.ret)) (.skip)))
  (.kept [0, 1, 5] (.ops [⟨(some 18), none, .mv (.tmp 1)⟩,
    ⟨(some 19), none, .bin .add (.tmp 18) (.const (.int .i64 1))⟩,
    ⟨(some 1), none, .mv (.tmp 19)⟩]))))
  (.kept [0, 1, 5] (.ops [⟨(some 10), none, .mv (.tmp 5)⟩,
    ⟨(some 11), none, .bin .add (.tmp 10) (.const (.int .i64 1))⟩,
    ⟨(some 5), none, .mv (.tmp 11)⟩])))
def c_laws_heldIntS : AS :=
  .seq (.ops [⟨(some 4), none, .mv (.const (.int .i64 0))⟩])
  (.seq (.seq (.ops [⟨(some 5), none, .mv (.const (.int .i64 0))⟩])
  (.block 0 (.loop 2 [(0, 0), (1, 0), (5, 0)] c_laws_heldIntS_l1)))
  (.kept [1] (.seq (.ops [⟨(some 20), none, .mv (.tmp 1)⟩,
    ⟨(some 4), none, .mv (.tmp 20)⟩])
  (.ret))))
theorem h_laws_heldIntS : (Try.prog.funcs[n_laws_heldIntS]?).bind (fun fn => fn.body.bind (comp Try.prog fn.ntmps)) = some (AS.strip c_laws_heldIntS) := by kernel_rfl
theorem r_laws_heldIntS : (Try.prog.funcs[n_laws_heldIntS]?).map (fun fn => (fn.results.toList, fn.ntmps)) = some ([.tmp 4], 21) := by kernel_rfl
-- 16 loop.example/g00850/spec.SeenBy
abbrev n_spec_SeenBy : Nat := 16
def c_spec_SeenBy_l1 : AS :=
  .seq (.ops [⟨(some 45), none, .bin .lss (.tmp 44) (.tmp 43)⟩])
  (.seq (.cond (.tmp 45) (.skip) (.exit 2))
  (.seq (.block 3 (.seq (.ops [⟨(some 46), none, .ia 1 (.tmp 42) (.tmp 44)⟩,
    ⟨(some 47), none, .load none (.tmp 46)⟩,
    ⟨(some 11), none, .mv (.tmp 47)⟩])
  (.seq (.seq (.ops [⟨(some 48), none, .mv (.tmp 11)⟩,
    ⟨(some 49), none, .mv (.tmp 1)⟩,
    ⟨(some 50), none, .bin .eql (.tmp 48) (.tmp 49)⟩])
  (.cond (.tmp 50) (.exit 2) (.skip)))
  (.seq (.post [(53, 1, [(6, 3), (7, 3)])] (.rops [(none, ⟨(some 51), none, .mv (.tmp 0)⟩),
    (none, ⟨(some 52), none, .mv (.tmp 11)⟩),
    (none, ⟨(some 53), none, .ia 8 (.tmp 51) (.tmp 52)⟩),
    (none, ⟨(some 54), none, .fa 7 (.tmp 53)⟩),
    (none, ⟨(some 55), none, .load none (.tmp 54)⟩),
    (none, ⟨(some 56), none, .fa 0 (.tmp 8)⟩),
    (none, ⟨(some 57), none, .load none (.tmp 56)⟩),
    (some [], ⟨(some 58), none, .call 35 [(.tmp 55), (.tmp 57)]⟩)]))
  (.kept [0, 1, 6, 8, 9, 11, 35, 36, 37, 42, 43, 44, 58] (.cond (.tmp 58) (.ops [⟨(some 59), none, .mv (.tmp 11)⟩,
    ⟨(some 9), none, .mv (.tmp 59)⟩]) (.skip)))))))
  (.kept [0, 1, 6, 8, 9, 35, 36, 37, 42, 43, 44] (.ops [⟨(some 60), none, .bin .add (.tmp 44) (.const (.int .i64 1))⟩,
    ⟨(some 44), none, .mv (.tmp 60)⟩]))))
def c_spec_SeenBy_l2 : AS :=
  .seq (.ops [⟨(some 38), none, .bin .lss (.tmp 37) (.tmp 36)⟩])
  (.seq (.cond (.tmp 38) (.skip) (.exit 0))
  (.seq (.block 1 (.seq (.ops [⟨(some 39), none, .ia 3 (.tmp 35) (.tmp 37)⟩,
    ⟨(some 40), none, .load (some 3) (.tmp 39)⟩,
    ⟨(some 8), none, .alloc (.agg #[.string ⟨⟨[]⟩⟩, .string ⟨⟨[]⟩⟩, .bool false])⟩,
    ⟨none, none, .store 3 (.tmp 8) (.tmp 40)⟩])
  (.seq (.ops [⟨(some 9), none, .mv (.const (.int .i64 (-1)))⟩])
  (.seq (.seq (.ops [⟨(some 41), none, .mv (.tmp 0)⟩,
    ⟨(some 42), none, .call 28 [(.tmp 41)]⟩,
    ⟨(some 43), none, .lens (.tmp 42)⟩,
    ⟨(some 44), none, .mv (.const (.int .i64 0))⟩])
  (.block 2 (.loop 2 [(0, 0), (1, 0), (6, 1), (8, 0), (9, 0), (35, 0), (36, 0), (37, 0), (42, 0), (43, 0), (44, 0)] c_spec_SeenBy_l1)))
  (.kept [0, 1, 6, 9, 35, 36, 37] (.ops [⟨(some 61), none, .mv (.tmp 6)⟩,
    ⟨(some 62), none, .mv (.tmp 9)⟩,
    ⟨(some 63), none, .bsl 1 (.int .i64 0) 1 [(0, (.tmp 62))]⟩,
    ⟨(some 64), none, .app 1 8 (.int .i64 0) (.tmp 61) (.tmp 63)⟩,
    ⟨(some 6), none, .mv (.tmp 64)⟩]))))))
  (.kept [0, 1, 6, 35, 36, 37] (.ops [⟨(some 65), none, .bin .add (.tmp 37) (.const (.int .i64 1))⟩,
    ⟨(some 37), none, .mv (.tmp 65)⟩]))))
def c_spec_SeenBy : AS :=
  .seq (.ops [⟨(some 4), none, .mv (.const (.slice none 0 0))⟩,
    ⟨(some 5), none, .mv (.const (.bool false))⟩])
  (.seq (.seq (.ops [⟨(some 12), none, .mv (.tmp 0)⟩,
    ⟨(some 13), none, .call 27 [(.tmp 12)]⟩,
    ⟨(some 14), none, .not (.tmp 13)⟩,
    ⟨(some 15), none, .mv (.tmp 14)⟩,
    ⟨(some 16), some (15, false), .mv (.tmp 1)⟩,
    ⟨(some 17), some (15, false), .mv (.tmp 0)⟩,
    ⟨(some 18), some (15, false), .lens (.tmp 17)⟩,
    ⟨(some 19), some (15, false), .bin .sub (.tmp 18) (.const (.int .i64 1))⟩,
    ⟨(some 20), some (15, false), .call 34 [(.tmp 16), (.const (.int .i64 0)), (.tmp 19)]⟩,
    ⟨(some 21), some (15, false), .not (.tmp 20)⟩,
    ⟨(some 22), none, .pick (.tmp 15) (.const (.bool true)) (.tmp 21)⟩,
    ⟨(some 23), none, .mv (.tmp 22)⟩,
    ⟨(some 24), some (23, false), .mv (.tmp 0)⟩,
    ⟨(some 25), some (23, false), .mv (.tmp 1)⟩,
    ⟨(some 26), some (23, false), .ia 8 (.tmp 24) (.tmp 25)⟩,
    ⟨(some 27), some (23, false), .fa 3 (.tmp 26)⟩,
    ⟨(some 28), some (23, false), .load none (.tmp 27)⟩,
    ⟨(some 29), some (23, false), .not (.tmp 28)⟩,
    ⟨(some 30), none, .pick (.tmp 23) (.const (.bool true)) (.tmp 29)⟩])
  (.kept [0, 1, 30] (.cond (.tmp 30) (.seq (.ops [⟨(some 4), none, .mv (.const (.slice none 0 0))⟩,
    ⟨(some 5), none, .mv (.const (.bool false))⟩])
  (.ret)) (.skip))))
  (.kept [0, 1] (.seq (.ops [⟨(some 6), none, .mv (.const (.slice none 0 0))⟩])
  (.seq (.seq (.ops [⟨(some 31), none, .mv (.tmp 0)⟩,
    ⟨(some 32), none, .mv (.tmp 1)⟩,
    ⟨(some 33), none, .ia 8 (.tmp 31) (.tmp 32)⟩,
    ⟨(some 34), none, .fa 6 (.tmp 33)⟩,
    ⟨(some 35), none, .load none (.tmp 34)⟩,
    ⟨(some 36), none, .lens (.tmp 35)⟩,
    ⟨(some 37), none, .mv (.const (.int .i64 0))⟩])
  (.block 0 (.loop 2 [(0, 0), (1, 0), (6, 1), (35, 0), (36, 0), (37, 0)] c_spec_SeenBy_l2)))
  (.kept [6, 33] (.seq (.post [(33, 1, [(6, 3), (7, 3)])] (.ops [⟨(some 66), none, .mv (.tmp 6)⟩,
    ⟨(some 4), none, .mv (.tmp 66)⟩,
    ⟨(some 5), none, .mv (.const (.bool true))⟩]))
  (.ret)))))))
theorem h_spec_SeenBy : (Try.prog.funcs[n_spec_SeenBy]?).bind (fun fn => fn.body.bind (comp Try.prog fn.ntmps)) = some (AS.strip c_spec_SeenBy) := by kernel_rfl
theorem r_spec_SeenBy : (Try.prog.funcs[n_spec_SeenBy]?).map (fun fn => (fn.results.toList, fn.ntmps)) = some ([.tmp 4, .tmp 5], 67) := by kernel_rfl
-- 17 loop.example/g00850/impl.SeenBy
abbrev n_impl_SeenBy : Nat := 17
def c_impl_SeenBy_l1 : AS :=
  .seq (.ops [⟨(some 55), none, .bin .lss (.tmp 54) (.tmp 53)⟩])
  (.seq (.cond (.tmp 55) (.skip) (.exit 2))
  (.seq (.block 3 (.seq (.ops [⟨(some 56), none, .ia 1 (.tmp 52) (.tmp 54)⟩,
    ⟨(some 57), none, .load none (.tmp 56)⟩,
    ⟨(some 12), none, .mv (.tmp 57)⟩])
  (.seq (.post [(61, 1, [(6, 3), (7, 3)])] (.rops [(none, ⟨(some 59), none, .mv (.tmp 0)⟩),
    (none, ⟨(some 60), none, .mv (.tmp 12)⟩),
    (none, ⟨(some 61), none, .ia 8 (.tmp 59) (.tmp 60)⟩),
    (none, ⟨(some 62), none, .fa 7 (.tmp 61)⟩),
    (none, ⟨(some 63), none, .load none (.tmp 62)⟩),
    (none, ⟨(some 64), none, .fa 0 (.tmp 9)⟩),
    (none, ⟨(some 65), none, .load none (.tmp 64)⟩),
    (some [], ⟨(some 66), none, .call 38 [(.tmp 63), (.tmp 65)]⟩),
    (none, ⟨(some 58), none, .mv (.tmp 66)⟩),
    (none, ⟨(some 67), none, .ext 0 (.tmp 58)⟩),
    (none, ⟨(some 68), none, .ext 1 (.tmp 58)⟩),
    (none, ⟨(some 13), none, .mv (.tmp 67)⟩),
    (none, ⟨(some 14), none, .mv (.tmp 68)⟩)]))
  (.kept [0, 6, 7, 9, 10, 12, 14, 46, 47, 48, 52, 53, 54] (.seq (.ops [⟨(some 69), none, .mv (.tmp 14)⟩])
  (.cond (.tmp 69) (.ops [⟨(some 70), none, .mv (.tmp 12)⟩,
    ⟨(some 10), none, .mv (.tmp 70)⟩]) (.skip)))))))
  (.kept [0, 6, 7, 9, 10, 46, 47, 48, 52, 53, 54] (.ops [⟨(some 71), none, .bin .add (.tmp 54) (.const (.int .i64 1))⟩,
    ⟨(some 54), none, .mv (.tmp 71)⟩]))))
def c_impl_SeenBy_l2 : AS :=
  .seq (.ops [⟨(some 49), none, .bin .lss (.tmp 48) (.tmp 47)⟩])
  (.seq (.cond (.tmp 49) (.skip) (.exit 0))
  (.seq (.block 1 (.seq (.ops [⟨(some 50), none, .ia 3 (.tmp 46) (.tmp 48)⟩,
    ⟨(some 51), none, .load (some 3) (.tmp 50)⟩,
    ⟨(some 9), none, .alloc (.agg #[.string ⟨⟨[]⟩⟩, .string ⟨⟨[]⟩⟩, .bool false])⟩,
    ⟨none, none, .store 3 (.tmp 9) (.tmp 51)⟩])
  (.seq (.ops [⟨(some 10), none, .mv (.const (.int .i64 (-1)))⟩])
  (.seq (.seq (.ops [⟨(some 52), none, .mv (.tmp 6)⟩,
    ⟨(some 53), none, .lens (.tmp 52)⟩,
    ⟨(some 54), none, .mv (.const (.int .i64 0))⟩])
  (.block 2 (.loop 2 [(0, 0), (6, 0), (7, 1), (9, 0), (10, 0), (46, 0), (47, 0), (48, 0), (52, 0), (53, 0), (54, 0)] c_impl_SeenBy_l1)))
  (.kept [0, 6, 7, 10, 46, 47, 48] (.ops [⟨(some 72), none, .mv (.tmp 7)⟩,
    ⟨(some 73), none, .mv (.tmp 10)⟩,
    ⟨(some 74), none, .bsl 1 (.int .i64 0) 1 [(0, (.tmp 73))]⟩,
    ⟨(some 75), none, .app 1 8 (.int .i64 0) (.tmp 72) (.tmp 74)⟩,
    ⟨(some 7), none, .mv (.tmp 75)⟩]))))))
  (.kept [0, 6, 7, 46, 47, 48] (.ops [⟨(some 76), none, .bin .add (.tmp 48) (.const (.int .i64 1))⟩,
    ⟨(some 48), none, .mv (.tmp 76)⟩]))))
def c_impl_SeenBy : AS :=
  .seq (.ops [⟨(some 4), none, .mv (.const (.slice none 0 0))⟩,
    ⟨(some 5), none, .mv (.const (.bool false))⟩])
  (.seq (.seq (.ops [⟨(some 15), none, .mv (.tmp 0)⟩,
    ⟨(some 16), none, .call 30 [(.tmp 15)]⟩,
    ⟨(some 17), none, .not (.tmp 16)⟩,
    ⟨(some 18), none, .mv (.tmp 17)⟩,
    ⟨(some 19), some (18, false), .mv (.tmp 1)⟩,
    ⟨(some 20), some (18, false), .mv (.tmp 0)⟩,
    ⟨(some 21), some (18, false), .lens (.tmp 20)⟩,
    ⟨(some 22), some (18, false), .bin .sub (.tmp 21) (.const (.int .i64 1))⟩,
    ⟨(some 23), some (18, false), .call 36 [(.tmp 19), (.const (.int .i64 0)), (.tmp 22)]⟩,
    ⟨(some 24), some (18, false), .not (.tmp 23)⟩,
    ⟨(some 25), none, .pick (.tmp 18) (.const (.bool true)) (.tmp 24)⟩,
    ⟨(some 26), none, .mv (.tmp 25)⟩,
    ⟨(some 27), some (26, false), .mv (.tmp 0)⟩,
    ⟨(some 28), some (26, false), .mv (.tmp 1)⟩,
    ⟨(some 29), some (26, false), .ia 8 (.tmp 27) (.tmp 28)⟩,
    ⟨(some 30), some (26, false), .fa 3 (.tmp 29)⟩,
    ⟨(some 31), some (26, false), .load none (.tmp 30)⟩,
    ⟨(some 32), some (26, false), .not (.tmp 31)⟩,
    ⟨(some 33), none, .pick (.tmp 26) (.const (.bool true)) (.tmp 32)⟩])
  (.kept [0, 1, 33] (.cond (.tmp 33) (.seq (.ops [⟨(some 4), none, .mv (.const (.slice none 0 0))⟩,
    ⟨(some 5), none, .mv (.const (.bool false))⟩])
  (.ret)) (.skip))))
  (.kept [0, 1] (.seq (.ops [⟨(some 34), none, .mv (.tmp 0)⟩,
    ⟨(some 35), none, .call 31 [(.tmp 34)]⟩,
    ⟨(some 6), none, .mv (.tmp 35)⟩])
  (.seq (.ops [⟨(some 36), none, .mv (.tmp 6)⟩,
    ⟨(some 37), none, .mv (.tmp 6)⟩,
    ⟨(some 38), none, .mv (.tmp 1)⟩,
    ⟨(some 39), none, .call 37 [(.tmp 37), (.tmp 38)]⟩,
    ⟨(some 40), none, .sls 1 (.tmp 36) none (some (.tmp 39)) none⟩,
    ⟨(some 6), none, .mv (.tmp 40)⟩])
  (.seq (.ops [⟨(some 41), none, .bsl 1 (.int .i64 0) 0 []⟩,
    ⟨(some 7), none, .mv (.tmp 41)⟩])
  (.seq (.seq (.ops [⟨(some 42), none, .mv (.tmp 0)⟩,
    ⟨(some 43), none, .mv (.tmp 1)⟩,
    ⟨(some 44), none, .ia 8 (.tmp 42) (.tmp 43)⟩,
    ⟨(some 45), none, .fa 6 (.tmp 44)⟩,
    ⟨(some 46), none, .load none (.tmp 45)⟩,
    ⟨(some 47), none, .lens (.tmp 46)⟩,
    ⟨(some 48), none, .mv (.const (.int .i64 0))⟩])
  (.block 0 (.loop 2 [(0, 0), (6, 0), (7, 1), (46, 0), (47, 0), (48, 0)] c_impl_SeenBy_l2)))
  (.kept [7, 44] (.seq (.post [(44, 1, [(6, 3), (7, 3)])] (.ops [⟨(some 77), none, .mv (.tmp 7)⟩,
    ⟨(some 4), none, .mv (.tmp 77)⟩,
    ⟨(some 5), none, .mv (.const (.bool true))⟩]))
  (.ret)))))))))
theorem h_impl_SeenBy : (Try.prog.funcs[n_impl_SeenBy]?).bind (fun fn => fn.body.bind (comp Try.prog fn.ntmps)) = some (AS.strip c_impl_SeenBy) := by kernel_rfl
theorem r_impl_SeenBy : (Try.prog.funcs[n_impl_SeenBy]?).map (fun fn => (fn.results.toList, fn.ntmps)) = some ([.tmp 4, .tmp 5], 78) := by kernel_rfl
-- 21 loop.example/g00850/laws.eqWriteS
abbrev n_laws_eqWriteS : Nat := 21
def c_laws_eqWriteS_l1 : AS :=
  .seq (.seq (.ops [⟨(some 11), none, .mv (.tmp 5)⟩,
    ⟨(some 12), none, .mv (.tmp 0)⟩,
    ⟨(some 13), none, .lens (.tmp 12)⟩,
    ⟨(some 14), none, .bin .lss (.tmp 11) (.tmp 13)⟩])
  (.cond (.tmp 14) (.skip) (.exit 0)))
  (.seq (.block 1 (.seq (.rops [(none, ⟨(some 17), none, .mv (.tmp 0)⟩),
    (none, ⟨(some 18), none, .mv (.tmp 5)⟩),
    (none, ⟨(some 19), none, .ia 3 (.tmp 17) (.tmp 18)⟩),
    (none, ⟨(some 20), none, .load (some 3) (.tmp 19)⟩),
    (none, ⟨(some 21), none, .mv (.tmp 1)⟩),
    (none, ⟨(some 22), none, .mv (.tmp 5)⟩),
    (none, ⟨(some 23), none, .ia 3 (.tmp 21) (.tmp 22)⟩),
    (none, ⟨(some 24), none, .load (some 3) (.tmp 23)⟩),
    (some [], ⟨(some 25), none, .call 46 [(.tmp 20), (.tmp 24)]⟩),
    (none, ⟨(some 26), none, .not (.tmp 25)⟩)])
  (.kept [0, 1, 5, 26] (.cond (.tmp 26) (.seq (.ops [⟨(some 4), none, .mv (.const (.bool false))⟩])
  (.ret)) (.skip)))))
  (.kept [0, 1, 5] (.ops [⟨(some 15), none, .mv (.tmp 5)⟩,
    ⟨(some 16), none, .bin .add (.tmp 15) (.const (.int .i64 1))⟩,
    ⟨(some 5), none, .mv (.tmp 16)⟩])))
def c_laws_eqWriteS : AS :=
  .seq (.ops [⟨(some 4), none, .mv (.const (.bool false))⟩])
  (.seq (.seq (.ops [⟨(some 6), none, .mv (.tmp 0)⟩,
    ⟨(some 7), none, .lens (.tmp 6)⟩,
    ⟨(some 8), none, .mv (.tmp 1)⟩,
    ⟨(some 9), none, .lens (.tmp 8)⟩,
    ⟨(some 10), none, .bin .neq (.tmp 7) (.tmp 9)⟩])
  (.cond (.tmp 10) (.seq (.ops [⟨(some 4), none, .mv (.const (.bool false))⟩])
  (.ret)) (.skip)))
  (.kept [0, 1] (.seq (.seq (.ops [⟨(some 5), none, .mv (.const (.int .i64 0))⟩])
  (.block 0 (.loop 2 [(0, 0), (1, 0), (5, 0)] c_laws_eqWriteS_l1)))
  (.kept [] (.seq (.ops [⟨(some 4), none, .mv (.const (.bool true))⟩])
  (.ret))))))
theorem h_laws_eqWriteS : (Try.prog.funcs[n_laws_eqWriteS]?).bind (fun fn => fn.body.bind (comp Try.prog fn.ntmps)) = some (AS.strip c_laws_eqWriteS) := by kernel_rfl
theorem r_laws_eqWriteS : (Try.prog.funcs[n_laws_eqWriteS]?).map (fun fn => (fn.results.toList, fn.ntmps)) = some ([.tmp 4], 27) := by kernel_rfl
-- 22 loop.example/g00850/laws.markWriteS
abbrev n_laws_markWriteS : Nat := 22
def c_laws_markWriteS_l1 : AS :=
  .seq (.seq (.ops [⟨(some 6), none, .mv (.tmp 5)⟩,
    ⟨(some 7), none, .mv (.tmp 0)⟩,
    ⟨(some 8), none, .lens (.tmp 7)⟩,
    ⟨(some 9), none, .bin .lss (.tmp 6) (.tmp 8)⟩])
  (.cond (.tmp 9) (.skip) (.exit 0)))
  (.seq (.block 1 (.seq (.ops [⟨(some 12), none, .mv (.tmp 0)⟩,
    ⟨(some 13), none, .mv (.tmp 5)⟩,
    ⟨(some 14), none, .mv (.tmp 1)⟩,
    ⟨(some 15), none, .call 47 [(.tmp 14)]⟩,
    ⟨(some 16), none, .ia 3 (.tmp 12) (.tmp 13)⟩,
    ⟨(some 17), none, .fa 0 (.tmp 16)⟩,
    ⟨none, none, .store 1 (.tmp 17) (.tmp 15)⟩])
  (.kept [0, 1, 5] (.seq (.ops [⟨(some 18), none, .mv (.tmp 1)⟩,
    ⟨(some 19), none, .bin .add (.tmp 18) (.const (.int .i64 1))⟩,
    ⟨(some 1), none, .mv (.tmp 19)⟩])
  (.seq (.ops [⟨(some 20), none, .mv (.tmp 0)⟩,
    ⟨(some 21), none, .mv (.tmp 5)⟩,
    ⟨(some 22), none, .mv (.tmp 1)⟩,
    ⟨(some 23), none, .call 47 [(.tmp 22)]⟩,
    ⟨(some 24), none, .ia 3 (.tmp 20) (.tmp 21)⟩,
    ⟨(some 25), none, .fa 1 (.tmp 24)⟩,
    ⟨none, none, .store 1 (.tmp 25) (.tmp 23)⟩])
  (.kept [0, 1, 5] (.seq (.ops [⟨(some 26), none, .mv (.tmp 1)⟩,
    ⟨(some 27), none, .bin .add (.tmp 26) (.const (.int .i64 1))⟩,
    ⟨(some 1), none, .mv (.tmp 27)⟩])
  (.seq (.ops [⟨(some 28), none, .mv (.tmp 0)⟩,
    ⟨(some 29), none, .mv (.tmp 5)⟩,
    ⟨(some 30), none, .mv (.tmp 1)⟩,
    ⟨(some 31), none, .bin .rem (.tmp 30) (.const (.int .i64 3))⟩,
    ⟨(some 32), none, .bin .eql (.tmp 31) (.const (.int .i64 0))⟩,
    ⟨(some 33), none, .ia 3 (.tmp 28) (.tmp 29)⟩,
    ⟨(some 34), none, .fa 2 (.tmp 33)⟩,
    ⟨none, none, .store 1 (.tmp 34) (.tmp 32)⟩])
  (.kept [0, 1, 5] (.ops [⟨(some 35), none, .mv (.tmp 1)⟩,
    ⟨(some 36), none, .bin .add (.tmp 35) (.const (.int .i64 1))⟩,
    ⟨(some 1), none, .mv (.tmp 36)⟩]))))))))))
  (.kept [0, 1, 5] (.ops [⟨(some 10), none, .mv (.tmp 5)⟩,
    ⟨(some 11), none, .bin .add (.tmp 10) (.const (.int .i64 1))⟩,
    ⟨(some 5), none, .mv (.tmp 11)⟩])))
def c_laws_markWriteS : AS :=
  .seq (.ops [⟨(some 4), none, .mv (.const (.int .i64 0))⟩])
  (.seq (.seq (.ops [⟨(some 5), none, .mv (.const (.int .i64 0))⟩])
  (.block 0 (.loop 2 [(0, 0), (1, 0), (5, 0)] c_laws_markWriteS_l1)))
  (.kept [1] (.seq (.ops [⟨(some 37), none, .mv (.tmp 1)⟩,
    ⟨(some 4), none, .mv (.tmp 37)⟩])
  (.ret))))
theorem h_laws_markWriteS : (Try.prog.funcs[n_laws_markWriteS]?).bind (fun fn => fn.body.bind (comp Try.prog fn.ntmps)) = some (AS.strip c_laws_markWriteS) := by kernel_rfl
theorem r_laws_markWriteS : (Try.prog.funcs[n_laws_markWriteS]?).map (fun fn => (fn.results.toList, fn.ntmps)) = some ([.tmp 4], 38) := by kernel_rfl
-- 26 loop.example/g00850/laws.szDeed
abbrev n_laws_szDeed : Nat := 26
def c_laws_szDeed : AS :=
  .seq (.ops [⟨(some 2), none, .box (.tmp 0)⟩,
    ⟨(some 4), none, .mv (.const (.int .i64 0))⟩])
  (.seq (.ops [⟨(some 5), none, .fa 6 (.tmp 2)⟩,
    ⟨(some 6), none, .load none (.tmp 5)⟩,
    ⟨(some 7), none, .mv (.tmp 1)⟩,
    ⟨(some 8), none, .call 55 [(.tmp 6), (.tmp 7)]⟩,
    ⟨(some 1), none, .mv (.tmp 8)⟩])
  (.seq (.seq (.ops [⟨(some 9), none, .mv (.tmp 1)⟩,
    ⟨(some 10), none, .bin .lss (.tmp 9) (.const (.int .i64 0))⟩])
  (.cond (.tmp 10) (.seq (.ops [⟨(some 4), none, .mv (.const (.int .i64 (-1)))⟩])
  (.ret)) (.skip)))
  (.seq (.ops [⟨(some 11), none, .fa 7 (.tmp 2)⟩,
    ⟨(some 12), none, .load none (.tmp 11)⟩,
    ⟨(some 13), none, .mv (.tmp 1)⟩,
    ⟨(some 14), none, .call 56 [(.tmp 12), (.tmp 13)]⟩,
    ⟨(some 1), none, .mv (.tmp 14)⟩])
  (.seq (.seq (.ops [⟨(some 15), none, .mv (.tmp 1)⟩,
    ⟨(some 16), none, .bin .lss (.tmp 15) (.const (.int .i64 0))⟩])
  (.cond (.tmp 16) (.seq (.ops [⟨(some 4), none, .mv (.const (.int .i64 (-1)))⟩])
  (.ret)) (.skip)))
  (.seq (.ops [⟨(some 17), none, .mv (.tmp 1)⟩,
    ⟨(some 4), none, .mv (.tmp 17)⟩])
  (.ret))))))
theorem h_laws_szDeed : (Try.prog.funcs[n_laws_szDeed]?).bind (fun fn => fn.body.bind (comp Try.prog fn.ntmps)) = some (AS.strip c_laws_szDeed) := by kernel_rfl
theorem r_laws_szDeed : (Try.prog.funcs[n_laws_szDeed]?).map (fun fn => (fn.results.toList, fn.ntmps)) = some ([.tmp 4], 18) := by kernel_rfl
-- 27 loop.example/g00850/spec.l18Good
abbrev n_spec_l18Good : Nat := 27
def c_spec_l18Good_l1 : AS :=
  .seq (.ops [⟨(some 8), none, .bin .lss (.tmp 7) (.tmp 6)⟩])
  (.seq (.cond (.tmp 8) (.skip) (.exit 0))
  (.seq (.block 1 (.seq (.post [(9, 1, [(6, 3), (7, 3)])] (.ops [⟨(some 9), none, .ia 8 (.tmp 5) (.tmp 7)⟩,
    ⟨(some 10), none, .load (some 8) (.tmp 9)⟩,
    ⟨(some 4), none, .alloc (.agg #[.int .i64 0, .int .i64 0, .int .i64 0, .bool false, .bool false, .int .i64 0, .slice none 0 0, .slice none 0 0])⟩,
    ⟨none, none, .store 8 (.tmp 4) (.tmp 10)⟩]))
  (.seq (.ops [⟨(some 11), none, .load (some 8) (.tmp 4)⟩,
    ⟨(some 12), none, .call 57 [(.tmp 11)]⟩,
    ⟨(some 13), none, .not (.tmp 12)⟩])
  (.cond (.tmp 13) (.seq (.ops [⟨(some 2), none, .mv (.const (.bool false))⟩])
  (.ret)) (.skip)))))
  (.kept [0, 5, 6, 7] (.ops [⟨(some 14), none, .bin .add (.tmp 7) (.const (.int .i64 1))⟩,
    ⟨(some 7), none, .mv (.tmp 14)⟩]))))
def c_spec_l18Good : AS :=
  .seq (.ops [⟨(some 2), none, .mv (.const (.bool false))⟩])
  (.seq (.seq (.ops [⟨(some 5), none, .mv (.tmp 0)⟩,
    ⟨(some 6), none, .lens (.tmp 5)⟩,
    ⟨(some 7), none, .mv (.const (.int .i64 0))⟩])
  (.block 0 (.loop 1 [(0, 0), (5, 0), (6, 0), (7, 0)] c_spec_l18Good_l1)))
  (.kept [0] (.seq (.ops [⟨(some 15), none, .mv (.tmp 0)⟩,
    ⟨(some 16), none, .lens (.tmp 15)⟩,
    ⟨(some 17), none, .bin .leq (.tmp 16) (.const (.int .i64 10))⟩,
    ⟨(some 2), none, .mv (.tmp 17)⟩])
  (.ret))))
theorem h_spec_l18Good : (Try.prog.funcs[n_spec_l18Good]?).bind (fun fn => fn.body.bind (comp Try.prog fn.ntmps)) = some (AS.strip c_spec_l18Good) := by kernel_rfl
theorem r_spec_l18Good : (Try.prog.funcs[n_spec_l18Good]?).map (fun fn => (fn.results.toList, fn.ntmps)) = some ([.tmp 2], 18) := by kernel_rfl
-- 28 loop.example/g00850/spec.l19Order
abbrev n_spec_l19Order : Nat := 28
def c_spec_l19Order_l1 : AS :=
  .seq (.seq (.ops [⟨(some 20), none, .mv (.tmp 6)⟩,
    ⟨(some 21), none, .bin .gtr (.tmp 20) (.const (.int .i64 0))⟩,
    ⟨(some 22), none, .mv (.tmp 21)⟩,
    ⟨(some 23), some (22, true), .mv (.tmp 0)⟩,
    ⟨(some 24), some (22, true), .mv (.tmp 4)⟩,
    ⟨(some 25), some (22, true), .mv (.tmp 3)⟩,
    ⟨(some 26), some (22, true), .mv (.tmp 6)⟩,
    ⟨(some 27), some (22, true), .bin .sub (.tmp 26) (.const (.int .i64 1))⟩,
    ⟨(some 28), some (22, true), .ia 1 (.tmp 25) (.tmp 27)⟩,
    ⟨(some 29), some (22, true), .load none (.tmp 28)⟩,
    ⟨(some 30), some (22, true), .call 58 [(.tmp 23), (.tmp 24), (.tmp 29)]⟩,
    ⟨(some 31), none, .pick (.tmp 22) (.tmp 30) (.const (.bool false))⟩])
  (.kept [0, 3, 4, 6, 8, 9, 10, 31] (.cond (.tmp 31) (.skip) (.exit 2))))
  (.kept [0, 3, 4, 6, 8, 9, 10] (.block 3 (.ops [⟨(some 32), none, .mv (.tmp 6)⟩,
    ⟨(some 33), none, .bin .sub (.tmp 32) (.const (.int .i64 1))⟩,
    ⟨(some 6), none, .mv (.tmp 33)⟩])))
def c_spec_l19Order_l2 : AS :=
  .seq (.ops [⟨(some 11), none, .bin .lss (.tmp 10) (.tmp 9)⟩])
  (.seq (.cond (.tmp 11) (.skip) (.exit 0))
  (.seq (.block 1 (.seq (.post [(13, 1, [(6, 3), (7, 3)])] (.ops [⟨(some 12), none, .mv (.tmp 10)⟩,
    ⟨(some 13), none, .ia 8 (.tmp 8) (.tmp 10)⟩,
    ⟨(some 14), none, .load (some 8) (.tmp 13)⟩,
    ⟨(some 5), none, .alloc (.agg #[.int .i64 0, .int .i64 0, .int .i64 0, .bool false, .bool false, .int .i64 0, .slice none 0 0, .slice none 0 0])⟩,
    ⟨(some 4), none, .mv (.tmp 12)⟩,
    ⟨none, none, .store 8 (.tmp 5) (.tmp 14)⟩]))
  (.seq (.seq (.ops [⟨(some 15), none, .fa 3 (.tmp 5)⟩,
    ⟨(some 16), none, .load none (.tmp 15)⟩,
    ⟨(some 17), none, .not (.tmp 16)⟩])
  (.cond (.tmp 17) (.exit 1) (.skip)))
  (.seq (.ops [⟨(some 18), none, .mv (.tmp 3)⟩,
    ⟨(some 19), none, .lens (.tmp 18)⟩,
    ⟨(some 6), none, .mv (.tmp 19)⟩])
  (.seq (.block 2 (.loop 1 [(0, 0), (3, 1), (4, 0), (6, 0), (8, 0), (9, 0), (10, 0)] c_spec_l19Order_l1))
  (.kept [0, 3, 4, 6, 8, 9, 10] (.seq (.ops [⟨(some 34), none, .mv (.tmp 3)⟩,
    ⟨(some 35), none, .mv (.tmp 6)⟩,
    ⟨(some 36), none, .sls 1 (.tmp 34) (some (.tmp 35)) none none⟩,
    ⟨(some 37), none, .call 59 [(.tmp 36)]⟩,
    ⟨(some 7), none, .mv (.tmp 37)⟩])
  (.ops [⟨(some 38), none, .mv (.tmp 3)⟩,
    ⟨(some 39), none, .mv (.tmp 6)⟩,
    ⟨(some 40), none, .sls 1 (.tmp 38) none (some (.tmp 39)) none⟩,
    ⟨(some 41), none, .call 59 [(.tmp 40)]⟩,
    ⟨(some 42), none, .mv (.tmp 4)⟩,
    ⟨(some 43), none, .bsl 1 (.int .i64 0) 1 [(0, (.tmp 42))]⟩,
    ⟨(some 44), none, .app 1 8 (.int .i64 0) (.tmp 41) (.tmp 43)⟩,
    ⟨(some 45), none, .mv (.tmp 7)⟩,
    ⟨(some 46), none, .app 1 8 (.int .i64 0) (.tmp 44) (.tmp 45)⟩,
    ⟨(some 3), none, .mv (.tmp 46)⟩]))))))))
  (.kept [0, 3, 8, 9, 10] (.ops [⟨(some 47), none, .bin .add (.tmp 10) (.const (.int .i64 1))⟩,
    ⟨(some 10), none, .mv (.tmp 47)⟩]))))
def c_spec_l19Order : AS :=
  .seq (.ops [⟨(some 2), none, .mv (.const (.slice none 0 0))⟩])
  (.seq (.ops [⟨(some 3), none, .mv (.const (.slice none 0 0))⟩])
  (.seq (.seq (.ops [⟨(some 8), none, .mv (.tmp 0)⟩,
    ⟨(some 9), none, .lens (.tmp 8)⟩,
    ⟨(some 10), none, .mv (.const (.int .i64 0))⟩])
  (.block 0 (.loop 1 [(0, 0), (3, 1), (8, 0), (9, 0), (10, 0)] c_spec_l19Order_l2)))
  (.kept [3] (.seq (.ops [⟨(some 48), none, .mv (.tmp 3)⟩,
    ⟨(some 2), none, .mv (.tmp 48)⟩])
  (.ret)))))
theorem h_spec_l19Order : (Try.prog.funcs[n_spec_l19Order]?).bind (fun fn => fn.body.bind (comp Try.prog fn.ntmps)) = some (AS.strip c_spec_l19Order) := by kernel_rfl
theorem r_spec_l19Order : (Try.prog.funcs[n_spec_l19Order]?).map (fun fn => (fn.results.toList, fn.ntmps)) = some ([.tmp 2], 49) := by kernel_rfl
-- 29 loop.example/g00850/laws.toDeed
abbrev n_laws_toDeed : Nat := 29
def c_laws_toDeed : AS :=
  .seq (.ops [⟨(some 1), none, .box (.tmp 0)⟩,
    ⟨(some 2), none, .alloc (.agg #[.int .i64 0, .int .i64 0, .int .i64 0, .bool false, .bool false, .int .i64 0, .slice none 0 0, .slice none 0 0])⟩])
  (.seq (.ops [⟨(some 3), none, .alloc (.agg #[.int .i64 0, .int .i64 0, .int .i64 0, .bool false, .bool false, .int .i64 0, .slice none 0 0, .slice none 0 0])⟩])
  (.seq (.ops [⟨(some 4), none, .fa 0 (.tmp 1)⟩,
    ⟨(some 5), none, .load none (.tmp 4)⟩,
    ⟨(some 6), none, .fa 0 (.tmp 3)⟩,
    ⟨none, none, .store 1 (.tmp 6) (.tmp 5)⟩])
  (.seq (.ops [⟨(some 7), none, .fa 1 (.tmp 1)⟩,
    ⟨(some 8), none, .load none (.tmp 7)⟩,
    ⟨(some 9), none, .fa 1 (.tmp 3)⟩,
    ⟨none, none, .store 1 (.tmp 9) (.tmp 8)⟩])
  (.seq (.ops [⟨(some 10), none, .fa 2 (.tmp 1)⟩,
    ⟨(some 11), none, .load none (.tmp 10)⟩,
    ⟨(some 12), none, .fa 2 (.tmp 3)⟩,
    ⟨none, none, .store 1 (.tmp 12) (.tmp 11)⟩])
  (.seq (.ops [⟨(some 13), none, .fa 3 (.tmp 1)⟩,
    ⟨(some 14), none, .load none (.tmp 13)⟩,
    ⟨(some 15), none, .fa 3 (.tmp 3)⟩,
    ⟨none, none, .store 1 (.tmp 15) (.tmp 14)⟩])
  (.seq (.ops [⟨(some 16), none, .fa 4 (.tmp 1)⟩,
    ⟨(some 17), none, .load none (.tmp 16)⟩,
    ⟨(some 18), none, .fa 4 (.tmp 3)⟩,
    ⟨none, none, .store 1 (.tmp 18) (.tmp 17)⟩])
  (.seq (.ops [⟨(some 19), none, .fa 5 (.tmp 1)⟩,
    ⟨(some 20), none, .load none (.tmp 19)⟩,
    ⟨(some 21), none, .fa 5 (.tmp 3)⟩,
    ⟨none, none, .store 1 (.tmp 21) (.tmp 20)⟩])
  (.seq (.ops [⟨(some 22), none, .fa 6 (.tmp 1)⟩,
    ⟨(some 23), none, .load none (.tmp 22)⟩,
    ⟨(some 24), none, .call 60 [(.tmp 23)]⟩,
    ⟨(some 25), none, .fa 6 (.tmp 3)⟩,
    ⟨none, none, .store 1 (.tmp 25) (.tmp 24)⟩])
  (.seq (.ops [⟨(some 26), none, .fa 7 (.tmp 1)⟩,
    ⟨(some 27), none, .load none (.tmp 26)⟩,
    ⟨(some 28), none, .call 61 [(.tmp 27)]⟩,
    ⟨(some 29), none, .fa 7 (.tmp 3)⟩,
    ⟨none, none, .store 1 (.tmp 29) (.tmp 28)⟩])
  (.seq (.ops [⟨(some 30), none, .load (some 8) (.tmp 3)⟩,
    ⟨none, none, .store 8 (.tmp 2) (.tmp 30)⟩])
  (.ret)))))))))))
theorem h_laws_toDeed : (Try.prog.funcs[n_laws_toDeed]?).bind (fun fn => fn.body.bind (comp Try.prog fn.ntmps)) = some (AS.strip c_laws_toDeed) := by kernel_rfl
theorem r_laws_toDeed : (Try.prog.funcs[n_laws_toDeed]?).map (fun fn => (fn.results.toList, fn.ntmps)) = some ([.cell 2 54], 31) := by kernel_rfl
-- 30 loop.example/g00850/impl.GoodHistory
abbrev n_impl_GoodHistory : Nat := 30
def c_impl_GoodHistory : AS :=
  .seq (.ops [⟨(some 2), none, .mv (.const (.bool false))⟩])
  (.seq (.ops [⟨(some 3), none, .mv (.tmp 0)⟩,
    ⟨(some 4), none, .lens (.tmp 3)⟩,
    ⟨(some 5), none, .bin .leq (.tmp 4) (.const (.int .i64 10))⟩,
    ⟨(some 6), none, .mv (.tmp 5)⟩,
    ⟨(some 7), some (6, true), .mv (.tmp 0)⟩,
    ⟨(some 8), some (6, true), .call 62 [(.tmp 7), (.func 63)]⟩,
    ⟨(some 9), some (6, true), .not (.tmp 8)⟩,
    ⟨(some 10), none, .pick (.tmp 6) (.tmp 9) (.const (.bool false))⟩,
    ⟨(some 2), none, .mv (.tmp 10)⟩])
  (.ret))
theorem h_impl_GoodHistory : (Try.prog.funcs[n_impl_GoodHistory]?).bind (fun fn => fn.body.bind (comp Try.prog fn.ntmps)) = some (AS.strip c_impl_GoodHistory) := by kernel_rfl
theorem r_impl_GoodHistory : (Try.prog.funcs[n_impl_GoodHistory]?).map (fun fn => (fn.results.toList, fn.ntmps)) = some ([.tmp 2], 11) := by kernel_rfl
-- 31 loop.example/g00850/impl.orderByTime
abbrev n_impl_orderByTime : Nat := 31
def c_impl_orderByTime : AS :=
  .seq (.ops [⟨(some 1), none, .box (.tmp 0)⟩,
    ⟨(some 2), none, .mv (.const (.slice none 0 0))⟩])
  (.seq (.ops [⟨(some 5), none, .load none (.tmp 1)⟩,
    ⟨(some 6), none, .call 51 [(.tmp 5)]⟩,
    ⟨(some 3), none, .mv (.tmp 6)⟩])
  (.seq (.ops [⟨(some 7), none, .mkf 65 [(.tmp 1)]⟩,
    ⟨(some 4), none, .alloc (.nilFunc)⟩,
    ⟨none, none, .store 1 (.tmp 4) (.tmp 7)⟩])
  (.seq (.ops [⟨(some 8), none, .mv (.tmp 3)⟩,
    ⟨(some 9), none, .mkf 67 [(.tmp 1), (.tmp 4)]⟩,
    ⟨(some 10), none, .call 66 [(.tmp 8), (.tmp 9)]⟩])
  (.seq (.ops [⟨(some 11), none, .mv (.tmp 3)⟩,
    ⟨(some 2), none, .mv (.tmp 11)⟩])
  (.ret)))))
theorem h_impl_orderByTime : (Try.prog.funcs[n_impl_orderByTime]?).bind (fun fn => fn.body.bind (comp Try.prog fn.ntmps)) = some (AS.strip c_impl_orderByTime) := by kernel_rfl
theorem r_impl_orderByTime : (Try.prog.funcs[n_impl_orderByTime]?).map (fun fn => (fn.results.toList, fn.ntmps)) = some ([.tmp 2], 12) := by kernel_rfl
-- 32 loop.example/g00850/laws.eqDeed
abbrev n_laws_eqDeed : Nat := 32
def c_laws_eqDeed : AS :=
  .seq (.ops [⟨(some 2), none, .box (.tmp 0)⟩,
    ⟨(some 3), none, .box (.tmp 1)⟩,
    ⟨(some 4), none, .mv (.const (.bool false))⟩])
  (.seq (.seq (.ops [⟨(some 5), none, .fa 0 (.tmp 2)⟩,
    ⟨(some 6), none, .load none (.tmp 5)⟩,
    ⟨(some 7), none, .fa 0 (.tmp 3)⟩,
    ⟨(some 8), none, .load none (.tmp 7)⟩,
    ⟨(some 9), none, .bin .neq (.tmp 6) (.tmp 8)⟩])
  (.cond (.tmp 9) (.seq (.ops [⟨(some 4), none, .mv (.const (.bool false))⟩])
  (.ret)) (.skip)))
  (.kept [2, 3] (.seq (.seq (.ops [⟨(some 10), none, .fa 1 (.tmp 2)⟩,
    ⟨(some 11), none, .load none (.tmp 10)⟩,
    ⟨(some 12), none, .fa 1 (.tmp 3)⟩,
    ⟨(some 13), none, .load none (.tmp 12)⟩,
    ⟨(some 14), none, .bin .neq (.tmp 11) (.tmp 13)⟩])
  (.cond (.tmp 14) (.seq (.ops [⟨(some 4), none, .mv (.const (.bool false))⟩])
  (.ret)) (.skip)))
  (.kept [2, 3] (.seq (.seq (.ops [⟨(some 15), none, .fa 2 (.tmp 2)⟩,
    ⟨(some 16), none, .load none (.tmp 15)⟩,
    ⟨(some 17), none, .fa 2 (.tmp 3)⟩,
    ⟨(some 18), none, .load none (.tmp 17)⟩,
    ⟨(some 19), none, .bin .neq (.tmp 16) (.tmp 18)⟩])
  (.cond (.tmp 19) (.seq (.ops [⟨(some 4), none, .mv (.const (.bool false))⟩])
  (.ret)) (.skip)))
  (.kept [2, 3] (.seq (.seq (.ops [⟨(some 20), none, .fa 3 (.tmp 2)⟩,
    ⟨(some 21), none, .load none (.tmp 20)⟩,
    ⟨(some 22), none, .fa 3 (.tmp 3)⟩,
    ⟨(some 23), none, .load none (.tmp 22)⟩,
    ⟨(some 24), none, .eqb true (.tmp 21) (.tmp 23)⟩])
  (.cond (.tmp 24) (.seq (.ops [⟨(some 4), none, .mv (.const (.bool false))⟩])
  (.ret)) (.skip)))
  (.kept [2, 3] (.seq (.seq (.ops [⟨(some 25), none, .fa 4 (.tmp 2)⟩,
    ⟨(some 26), none, .load none (.tmp 25)⟩,
    ⟨(some 27), none, .fa 4 (.tmp 3)⟩,
    ⟨(some 28), none, .load none (.tmp 27)⟩,
    ⟨(some 29), none, .eqb true (.tmp 26) (.tmp 28)⟩])
  (.cond (.tmp 29) (.seq (.ops [⟨(some 4), none, .mv (.const (.bool false))⟩])
  (.ret)) (.skip)))
  (.kept [2, 3] (.seq (.seq (.ops [⟨(some 30), none, .fa 5 (.tmp 2)⟩,
    ⟨(some 31), none, .load none (.tmp 30)⟩,
    ⟨(some 32), none, .fa 5 (.tmp 3)⟩,
    ⟨(some 33), none, .load none (.tmp 32)⟩,
    ⟨(some 34), none, .bin .neq (.tmp 31) (.tmp 33)⟩])
  (.cond (.tmp 34) (.seq (.ops [⟨(some 4), none, .mv (.const (.bool false))⟩])
  (.ret)) (.skip)))
  (.kept [2, 3] (.seq (.seq (.ops [⟨(some 35), none, .fa 6 (.tmp 2)⟩,
    ⟨(some 36), none, .load none (.tmp 35)⟩,
    ⟨(some 37), none, .fa 6 (.tmp 3)⟩,
    ⟨(some 38), none, .load none (.tmp 37)⟩,
    ⟨(some 39), none, .call 70 [(.tmp 36), (.tmp 38)]⟩,
    ⟨(some 40), none, .not (.tmp 39)⟩])
  (.cond (.tmp 40) (.seq (.ops [⟨(some 4), none, .mv (.const (.bool false))⟩])
  (.ret)) (.skip)))
  (.kept [2, 3] (.seq (.seq (.ops [⟨(some 41), none, .fa 7 (.tmp 2)⟩,
    ⟨(some 42), none, .load none (.tmp 41)⟩,
    ⟨(some 43), none, .fa 7 (.tmp 3)⟩,
    ⟨(some 44), none, .load none (.tmp 43)⟩,
    ⟨(some 45), none, .call 21 [(.tmp 42), (.tmp 44)]⟩,
    ⟨(some 46), none, .not (.tmp 45)⟩])
  (.cond (.tmp 46) (.seq (.ops [⟨(some 4), none, .mv (.const (.bool false))⟩])
  (.ret)) (.skip)))
  (.kept [] (.seq (.ops [⟨(some 4), none, .mv (.const (.bool true))⟩])
  (.ret))))))))))))))))))
theorem h_laws_eqDeed : (Try.prog.funcs[n_laws_eqDeed]?).bind (fun fn => fn.body.bind (comp Try.prog fn.ntmps)) = some (AS.strip c_laws_eqDeed) := by kernel_rfl
theorem r_laws_eqDeed : (Try.prog.funcs[n_laws_eqDeed]?).map (fun fn => (fn.results.toList, fn.ntmps)) = some ([.tmp 4], 47) := by kernel_rfl
-- 33 loop.example/g00850/laws.markGotS
abbrev n_laws_markGotS : Nat := 33
def c_laws_markGotS_l1 : AS :=
  .seq (.seq (.ops [⟨(some 6), none, .mv (.tmp 5)⟩,
    ⟨(some 7), none, .mv (.tmp 0)⟩,
    ⟨(some 8), none, .lens (.tmp 7)⟩,
    ⟨(some 9), none, .bin .lss (.tmp 6) (.tmp 8)⟩])
  (.cond (.tmp 9) (.skip) (.exit 0)))
  (.seq (.block 1 (.seq (.ops [⟨(some 12), none, .mv (.tmp 0)⟩,
    ⟨(some 13), none, .mv (.tmp 5)⟩,
    ⟨(some 14), none, .mv (.tmp 1)⟩,
    ⟨(some 15), none, .call 47 [(.tmp 14)]⟩,
    ⟨(some 16), none, .ia 3 (.tmp 12) (.tmp 13)⟩,
    ⟨(some 17), none, .fa 0 (.tmp 16)⟩,
    ⟨none, none, .store 1 (.tmp 17) (.tmp 15)⟩])
  (.kept [0, 1, 5] (.seq (.ops [⟨(some 18), none, .mv (.tmp 1)⟩,
    ⟨(some 19), none, .bin .add (.tmp 18) (.const (.int .i64 1))⟩,
    ⟨(some 1), none, .mv (.tmp 19)⟩])
  (.seq (.ops [⟨(some 20), none, .mv (.tmp 0)⟩,
    ⟨(some 21), none, .mv (.tmp 5)⟩,
    ⟨(some 22), none, .mv (.tmp 1)⟩,
    ⟨(some 23), none, .call 47 [(.tmp 22)]⟩,
    ⟨(some 24), none, .ia 3 (.tmp 20) (.tmp 21)⟩,
    ⟨(some 25), none, .fa 1 (.tmp 24)⟩,
    ⟨none, none, .store 1 (.tmp 25) (.tmp 23)⟩])
  (.kept [0, 1, 5] (.seq (.ops [⟨(some 26), none, .mv (.tmp 1)⟩,
    ⟨(some 27), none, .bin .add (.tmp 26) (.const (.int .i64 1))⟩,
    ⟨(some 1), none, .mv (.tmp 27)⟩])
  (.seq (.ops [⟨(some 28), none, .mv (.tmp 0)⟩,
    ⟨(some 29), none, .mv (.tmp 5)⟩,
    ⟨(some 30), none, .mv (.tmp 1)⟩,
    ⟨(some 31), none, .bin .rem (.tmp 30) (.const (.int .i64 3))⟩,
    ⟨(some 32), none, .bin .eql (.tmp 31) (.const (.int .i64 0))⟩,
    ⟨(some 33), none, .ia 3 (.tmp 28) (.tmp 29)⟩,
    ⟨(some 34), none, .fa 2 (.tmp 33)⟩,
    ⟨none, none, .store 1 (.tmp 34) (.tmp 32)⟩])
  (.kept [0, 1, 5] (.ops [⟨(some 35), none, .mv (.tmp 1)⟩,
    ⟨(some 36), none, .bin .add (.tmp 35) (.const (.int .i64 1))⟩,
    ⟨(some 1), none, .mv (.tmp 36)⟩]))))))))))
  (.kept [0, 1, 5] (.ops [⟨(some 10), none, .mv (.tmp 5)⟩,
    ⟨(some 11), none, .bin .add (.tmp 10) (.const (.int .i64 1))⟩,
    ⟨(some 5), none, .mv (.tmp 11)⟩])))
def c_laws_markGotS : AS :=
  .seq (.ops [⟨(some 4), none, .mv (.const (.int .i64 0))⟩])
  (.seq (.seq (.ops [⟨(some 5), none, .mv (.const (.int .i64 0))⟩])
  (.block 0 (.loop 2 [(0, 0), (1, 0), (5, 0)] c_laws_markGotS_l1)))
  (.kept [1] (.seq (.ops [⟨(some 37), none, .mv (.tmp 1)⟩,
    ⟨(some 4), none, .mv (.tmp 37)⟩])
  (.ret))))
theorem h_laws_markGotS : (Try.prog.funcs[n_laws_markGotS]?).bind (fun fn => fn.body.bind (comp Try.prog fn.ntmps)) = some (AS.strip c_laws_markGotS) := by kernel_rfl
theorem r_laws_markGotS : (Try.prog.funcs[n_laws_markGotS]?).map (fun fn => (fn.results.toList, fn.ntmps)) = some ([.tmp 4], 38) := by kernel_rfl
-- 34 loop.example/g00850/spec.l1In
abbrev n_spec_l1In : Nat := 34
def c_spec_l1In : AS :=
  .seq (.ops [⟨(some 6), none, .mv (.const (.bool false))⟩])
  (.seq (.ops [⟨(some 7), none, .mv (.tmp 0)⟩,
    ⟨(some 8), none, .mv (.tmp 1)⟩,
    ⟨(some 9), none, .bin .geq (.tmp 7) (.tmp 8)⟩,
    ⟨(some 10), none, .mv (.tmp 9)⟩,
    ⟨(some 11), some (10, true), .mv (.tmp 0)⟩,
    ⟨(some 12), some (10, true), .mv (.tmp 2)⟩,
    ⟨(some 13), some (10, true), .bin .leq (.tmp 11) (.tmp 12)⟩,
    ⟨(some 14), none, .pick (.tmp 10) (.tmp 13) (.const (.bool false))⟩,
    ⟨(some 6), none, .mv (.tmp 14)⟩])
  (.ret))
theorem h_spec_l1In : (Try.prog.funcs[n_spec_l1In]?).bind (fun fn => fn.body.bind (comp Try.prog fn.ntmps)) = some (AS.strip c_spec_l1In) := by kernel_rfl
theorem r_spec_l1In : (Try.prog.funcs[n_spec_l1In]?).map (fun fn => (fn.results.toList, fn.ntmps)) = some ([.tmp 6], 15) := by kernel_rfl
-- 35 loop.example/g00850/spec.l13Wrote
abbrev n_spec_l13Wrote : Nat := 35
def c_spec_l13Wrote_l1 : AS :=
  .seq (.ops [⟨(some 10), none, .bin .lss (.tmp 9) (.tmp 8)⟩])
  (.seq (.cond (.tmp 10) (.skip) (.exit 0))
  (.seq (.block 1 (.seq (.ops [⟨(some 11), none, .ia 3 (.tmp 7) (.tmp 9)⟩,
    ⟨(some 12), none, .load (some 3) (.tmp 11)⟩,
    ⟨(some 6), none, .alloc (.agg #[.string ⟨⟨[]⟩⟩, .string ⟨⟨[]⟩⟩, .bool false])⟩,
    ⟨none, none, .store 3 (.tmp 6) (.tmp 12)⟩])
  (.seq (.ops [⟨(some 13), none, .fa 0 (.tmp 6)⟩,
    ⟨(some 14), none, .load none (.tmp 13)⟩,
    ⟨(some 15), none, .mv (.tmp 1)⟩,
    ⟨(some 16), none, .bin .eql (.tmp 14) (.tmp 15)⟩])
  (.cond (.tmp 16) (.seq (.ops [⟨(some 4), none, .mv (.const (.bool true))⟩])
  (.ret)) (.skip)))))
  (.kept [1, 7, 8, 9] (.ops [⟨(some 17), none, .bin .add (.tmp 9) (.const (.int .i64 1))⟩,
    ⟨(some 9), none, .mv (.tmp 17)⟩]))))
def c_spec_l13Wrote : AS :=
  .seq (.ops [⟨(some 4), none, .mv (.const (.bool false))⟩])
  (.seq (.seq (.ops [⟨(some 7), none, .mv (.tmp 0)⟩,
    ⟨(some 8), none, .lens (.tmp 7)⟩,
    ⟨(some 9), none, .mv (.const (.int .i64 0))⟩])
  (.block 0 (.loop 2 [(1, 0), (7, 0), (8, 0), (9, 0)] c_spec_l13Wrote_l1)))
  (.kept [] (.seq (.ops [⟨(some 4), none, .mv (.const (.bool false))⟩])
  (.ret))))
theorem h_spec_l13Wrote : (Try.prog.funcs[n_spec_l13Wrote]?).bind (fun fn => fn.body.bind (comp Try.prog fn.ntmps)) = some (AS.strip c_spec_l13Wrote) := by kernel_rfl
theorem r_spec_l13Wrote : (Try.prog.funcs[n_spec_l13Wrote]?).map (fun fn => (fn.results.toList, fn.ntmps)) = some ([.tmp 4], 18) := by kernel_rfl
-- 36 loop.example/g00850/impl.within
abbrev n_impl_within : Nat := 36
def c_impl_within : AS :=
  .seq (.ops [⟨(some 6), none, .mv (.const (.bool false))⟩])
  (.seq (.ops [⟨(some 7), none, .mv (.tmp 0)⟩,
    ⟨(some 8), none, .mv (.tmp 1)⟩,
    ⟨(some 9), none, .bin .geq (.tmp 7) (.tmp 8)⟩,
    ⟨(some 10), none, .mv (.tmp 9)⟩,
    ⟨(some 11), some (10, true), .mv (.tmp 0)⟩,
    ⟨(some 12), some (10, true), .mv (.tmp 2)⟩,
    ⟨(some 13), some (10, true), .bin .leq (.tmp 11) (.tmp 12)⟩,
    ⟨(some 14), none, .pick (.tmp 10) (.tmp 13) (.const (.bool false))⟩,
    ⟨(some 6), none, .mv (.tmp 14)⟩])
  (.ret))
theorem h_impl_within : (Try.prog.funcs[n_impl_within]?).bind (fun fn => fn.body.bind (comp Try.prog fn.ntmps)) = some (AS.strip c_impl_within) := by kernel_rfl
theorem r_impl_within : (Try.prog.funcs[n_impl_within]?).map (fun fn => (fn.results.toList, fn.ntmps)) = some ([.tmp 6], 15) := by kernel_rfl
-- 37 slices.Index[[]int,int]
abbrev n_slices_Index___int_int_ : Nat := 37
def c_slices_Index___int_int__l1 : AS :=
  .seq (.ops [⟨(some 9), none, .bin .lss (.tmp 8) (.tmp 7)⟩])
  (.seq (.cond (.tmp 9) (.skip) (.exit 0))
  (.seq (.block 1 (.seq (.ops [⟨(some 10), none, .mv (.tmp 8)⟩,
    ⟨(some 5), none, .mv (.tmp 10)⟩])
  (.seq (.ops [⟨(some 11), none, .mv (.tmp 1)⟩,
    ⟨(some 12), none, .mv (.tmp 0)⟩,
    ⟨(some 13), none, .mv (.tmp 5)⟩,
    ⟨(some 14), none, .ia 1 (.tmp 12) (.tmp 13)⟩,
    ⟨(some 15), none, .load none (.tmp 14)⟩,
    ⟨(some 16), none, .bin .eql (.tmp 11) (.tmp 15)⟩])
  (.cond (.tmp 16) (.seq (.ops [⟨(some 17), none, .mv (.tmp 5)⟩,
    ⟨(some 4), none, .mv (.tmp 17)⟩])
  (.ret)) (.skip)))))
  (.kept [0, 1, 7, 8] (.ops [⟨(some 18), none, .bin .add (.tmp 8) (.const (.int .i64 1))⟩,
    ⟨(some 8), none, .mv (.tmp 18)⟩]))))
def c_slices_Index___int_int_ : AS :=
  .seq (.ops [⟨(some 4), none, .mv (.const (.int .i64 0))⟩])
  (.seq (.seq (.ops [⟨(some 6), none, .mv (.tmp 0)⟩,
    ⟨(some 7), none, .lens (.tmp 6)⟩,
    ⟨(some 8), none, .mv (.const (.int .i64 0))⟩])
  (.block 0 (.loop 2 [(0, 0), (1, 0), (7, 0), (8, 0)] c_slices_Index___int_int__l1)))
  (.kept [] (.seq (.ops [⟨(some 4), none, .mv (.const (.int .i64 (-1)))⟩])
  (.ret))))
theorem h_slices_Index___int_int_ : (Try.prog.funcs[n_slices_Index___int_int_]?).bind (fun fn => fn.body.bind (comp Try.prog fn.ntmps)) = some (AS.strip c_slices_Index___int_int_) := by kernel_rfl
theorem r_slices_Index___int_int_ : (Try.prog.funcs[n_slices_Index___int_int_]?).map (fun fn => (fn.results.toList, fn.ntmps)) = some ([.tmp 4], 19) := by kernel_rfl
-- 38 loop.example/g00850/impl.findWrite
abbrev n_impl_findWrite : Nat := 38
def c_impl_findWrite : AS :=
  .seq (.ops [⟨(some 4), none, .mv (.const (.int .i64 0))⟩,
    ⟨(some 5), none, .mv (.const (.bool false))⟩])
  (.seq (.ops [⟨(some 6), none, .mv (.tmp 0)⟩,
    ⟨(some 7), none, .mv (.tmp 1)⟩,
    ⟨(some 8), none, .call 71 [(.tmp 6), (.tmp 7), (.func 72)]⟩,
    ⟨(some 9), none, .ext 0 (.tmp 8)⟩,
    ⟨(some 10), none, .ext 1 (.tmp 8)⟩,
    ⟨(some 4), none, .mv (.tmp 9)⟩,
    ⟨(some 5), none, .mv (.tmp 10)⟩])
  (.ret))
theorem h_impl_findWrite : (Try.prog.funcs[n_impl_findWrite]?).bind (fun fn => fn.body.bind (comp Try.prog fn.ntmps)) = some (AS.strip c_impl_findWrite) := by kernel_rfl
theorem r_impl_findWrite : (Try.prog.funcs[n_impl_findWrite]?).map (fun fn => (fn.results.toList, fn.ntmps)) = some ([.tmp 4, .tmp 5], 11) := by kernel_rfl
-- 42 loop.example/g00850/spec.l5Rows
abbrev n_spec_l5Rows : Nat := 42
def c_spec_l5Rows_l1 : AS :=
  .seq (.ops [⟨(some 8), none, .bin .lss (.tmp 7) (.tmp 6)⟩])
  (.seq (.cond (.tmp 8) (.skip) (.exit 0))
  (.seq (.block 1 (.seq (.ops [⟨(some 9), none, .ia 3 (.tmp 5) (.tmp 7)⟩,
    ⟨(some 10), none, .load (some 3) (.tmp 9)⟩,
    ⟨(some 4), none, .alloc (.agg #[.string ⟨⟨[]⟩⟩, .string ⟨⟨[]⟩⟩, .bool false])⟩,
    ⟨none, none, .store 3 (.tmp 4) (.tmp 10)⟩])
  (.seq (.ops [⟨(some 11), none, .fa 2 (.tmp 4)⟩,
    ⟨(some 12), none, .load none (.tmp 11)⟩])
  (.cond (.tmp 12) (.seq (.ops [⟨(some 2), none, .mv (.const (.bool false))⟩])
  (.ret)) (.skip)))))
  (.kept [0, 5, 6, 7] (.ops [⟨(some 13), none, .bin .add (.tmp 7) (.const (.int .i64 1))⟩,
    ⟨(some 7), none, .mv (.tmp 13)⟩]))))
def c_spec_l5Rows : AS :=
  .seq (.ops [⟨(some 2), none, .mv (.const (.bool false))⟩])
  (.seq (.seq (.ops [⟨(some 5), none, .mv (.tmp 0)⟩,
    ⟨(some 6), none, .lens (.tmp 5)⟩,
    ⟨(some 7), none, .mv (.const (.int .i64 0))⟩])
  (.block 0 (.loop 1 [(0, 0), (5, 0), (6, 0), (7, 0)] c_spec_l5Rows_l1)))
  (.kept [0] (.seq (.ops [⟨(some 14), none, .mv (.tmp 0)⟩,
    ⟨(some 15), none, .call 77 [(.tmp 14)]⟩,
    ⟨(some 2), none, .mv (.tmp 15)⟩])
  (.ret))))
theorem h_spec_l5Rows : (Try.prog.funcs[n_spec_l5Rows]?).bind (fun fn => fn.body.bind (comp Try.prog fn.ntmps)) = some (AS.strip c_spec_l5Rows) := by kernel_rfl
theorem r_spec_l5Rows : (Try.prog.funcs[n_spec_l5Rows]?).map (fun fn => (fn.results.toList, fn.ntmps)) = some ([.tmp 2], 16) := by kernel_rfl
-- 46 loop.example/g00850/laws.eqWrite
abbrev n_laws_eqWrite : Nat := 46
def c_laws_eqWrite : AS :=
  .seq (.ops [⟨(some 2), none, .box (.tmp 0)⟩,
    ⟨(some 3), none, .box (.tmp 1)⟩,
    ⟨(some 4), none, .mv (.const (.bool false))⟩])
  (.seq (.seq (.ops [⟨(some 5), none, .fa 0 (.tmp 2)⟩,
    ⟨(some 6), none, .load none (.tmp 5)⟩,
    ⟨(some 7), none, .fa 0 (.tmp 3)⟩,
    ⟨(some 8), none, .load none (.tmp 7)⟩,
    ⟨(some 9), none, .bin .neq (.tmp 6) (.tmp 8)⟩])
  (.cond (.tmp 9) (.seq (.ops [⟨(some 4), none, .mv (.const (.bool false))⟩])
  (.ret)) (.skip)))
  (.kept [2, 3] (.seq (.seq (.ops [⟨(some 10), none, .fa 1 (.tmp 2)⟩,
    ⟨(some 11), none, .load none (.tmp 10)⟩,
    ⟨(some 12), none, .fa 1 (.tmp 3)⟩,
    ⟨(some 13), none, .load none (.tmp 12)⟩,
    ⟨(some 14), none, .bin .neq (.tmp 11) (.tmp 13)⟩])
  (.cond (.tmp 14) (.seq (.ops [⟨(some 4), none, .mv (.const (.bool false))⟩])
  (.ret)) (.skip)))
  (.kept [2, 3] (.seq (.seq (.ops [⟨(some 15), none, .fa 2 (.tmp 2)⟩,
    ⟨(some 16), none, .load none (.tmp 15)⟩,
    ⟨(some 17), none, .fa 2 (.tmp 3)⟩,
    ⟨(some 18), none, .load none (.tmp 17)⟩,
    ⟨(some 19), none, .eqb true (.tmp 16) (.tmp 18)⟩])
  (.cond (.tmp 19) (.seq (.ops [⟨(some 4), none, .mv (.const (.bool false))⟩])
  (.ret)) (.skip)))
  (.kept [] (.seq (.ops [⟨(some 4), none, .mv (.const (.bool true))⟩])
  (.ret))))))))
theorem h_laws_eqWrite : (Try.prog.funcs[n_laws_eqWrite]?).bind (fun fn => fn.body.bind (comp Try.prog fn.ntmps)) = some (AS.strip c_laws_eqWrite) := by kernel_rfl
theorem r_laws_eqWrite : (Try.prog.funcs[n_laws_eqWrite]?).map (fun fn => (fn.results.toList, fn.ntmps)) = some ([.tmp 4], 20) := by kernel_rfl
-- 47 loop.example/g00850/laws.markText
abbrev n_laws_markText : Nat := 47
def c_laws_markText_l1 : AS :=
  .seq (.seq (.ops [⟨(some 6), none, .mv (.tmp 0)⟩,
    ⟨(some 7), none, .bin .gtr (.tmp 6) (.const (.int .i64 0))⟩])
  (.cond (.tmp 7) (.skip) (.exit 0)))
  (.block 1 (.seq (.ops [⟨(some 8), none, .mv (.tmp 0)⟩,
    ⟨(some 9), none, .bin .rem (.tmp 8) (.const (.int .i64 10))⟩,
    ⟨(some 10), none, .bin .add (.const (.int .i64 48)) (.tmp 9)⟩,
    ⟨(some 11), none, .cvi .u8 (.tmp 10)⟩,
    ⟨(some 12), none, .bsl 1 (.int .u8 0) 1 [(0, (.tmp 11))]⟩,
    ⟨(some 13), none, .cvbs (.tmp 12)⟩,
    ⟨(some 14), none, .mv (.tmp 3)⟩,
    ⟨(some 15), none, .bin .add (.tmp 13) (.tmp 14)⟩,
    ⟨(some 3), none, .mv (.tmp 15)⟩])
  (.kept [0, 3] (.ops [⟨(some 16), none, .mv (.tmp 0)⟩,
    ⟨(some 17), none, .bin .quo (.tmp 16) (.const (.int .i64 10))⟩,
    ⟨(some 0), none, .mv (.tmp 17)⟩]))))
def c_laws_markText : AS :=
  .seq (.ops [⟨(some 2), none, .mv (.const (.string ⟨⟨[]⟩⟩))⟩])
  (.seq (.seq (.ops [⟨(some 4), none, .mv (.tmp 0)⟩,
    ⟨(some 5), none, .bin .leq (.tmp 4) (.const (.int .i64 0))⟩])
  (.cond (.tmp 5) (.seq (.ops [⟨(some 2), none, .mv (.const (.string ⟨⟨[109, 48]⟩⟩))⟩])
  (.ret)) (.skip)))
  (.seq (.ops [⟨(some 3), none, .mv (.const (.string ⟨⟨[]⟩⟩))⟩])
  (.seq (.block 0 (.loop 1 [(0, 0), (3, 0)] c_laws_markText_l1))
  (.kept [3] (.seq (.ops [⟨(some 18), none, .mv (.tmp 3)⟩,
    ⟨(some 19), none, .bin .add (.const (.string ⟨⟨[109]⟩⟩)) (.tmp 18)⟩,
    ⟨(some 2), none, .mv (.tmp 19)⟩])
  (.ret))))))
theorem h_laws_markText : (Try.prog.funcs[n_laws_markText]?).bind (fun fn => fn.body.bind (comp Try.prog fn.ntmps)) = some (AS.strip c_laws_markText) := by kernel_rfl
theorem r_laws_markText : (Try.prog.funcs[n_laws_markText]?).map (fun fn => (fn.results.toList, fn.ntmps)) = some ([.tmp 2], 20) := by kernel_rfl
-- 51 loop.example/g00850/impl.committed
abbrev n_impl_committed : Nat := 51
def c_impl_committed_l1 : AS :=
  .seq (.ops [⟨(some 10), none, .bin .lss (.tmp 9) (.tmp 8)⟩])
  (.seq (.cond (.tmp 10) (.skip) (.exit 0))
  (.seq (.block 1 (.seq (.post [(12, 1, [(6, 3), (7, 3)])] (.ops [⟨(some 11), none, .mv (.tmp 9)⟩,
    ⟨(some 12), none, .ia 8 (.tmp 7) (.tmp 9)⟩,
    ⟨(some 13), none, .load (some 8) (.tmp 12)⟩,
    ⟨(some 5), none, .alloc (.agg #[.int .i64 0, .int .i64 0, .int .i64 0, .bool false, .bool false, .int .i64 0, .slice none 0 0, .slice none 0 0])⟩,
    ⟨(some 4), none, .mv (.tmp 11)⟩,
    ⟨none, none, .store 8 (.tmp 5) (.tmp 13)⟩]))
  (.seq (.ops [⟨(some 14), none, .fa 3 (.tmp 5)⟩,
    ⟨(some 15), none, .load none (.tmp 14)⟩])
  (.cond (.tmp 15) (.ops [⟨(some 16), none, .mv (.tmp 3)⟩,
    ⟨(some 17), none, .mv (.tmp 4)⟩,
    ⟨(some 18), none, .bsl 1 (.int .i64 0) 1 [(0, (.tmp 17))]⟩,
    ⟨(some 19), none, .app 1 8 (.int .i64 0) (.tmp 16) (.tmp 18)⟩,
    ⟨(some 3), none, .mv (.tmp 19)⟩]) (.skip)))))
  (.kept [3, 7, 8, 9] (.ops [⟨(some 20), none, .bin .add (.tmp 9) (.const (.int .i64 1))⟩,
    ⟨(some 9), none, .mv (.tmp 20)⟩]))))
def c_impl_committed : AS :=
  .seq (.ops [⟨(some 2), none, .mv (.const (.slice none 0 0))⟩])
  (.seq (.ops [⟨(some 6), none, .bsl 1 (.int .i64 0) 0 []⟩,
    ⟨(some 3), none, .mv (.tmp 6)⟩])
  (.seq (.seq (.ops [⟨(some 7), none, .mv (.tmp 0)⟩,
    ⟨(some 8), none, .lens (.tmp 7)⟩,
    ⟨(some 9), none, .mv (.const (.int .i64 0))⟩])
  (.block 0 (.loop 1 [(3, 1), (7, 0), (8, 0), (9, 0)] c_impl_committed_l1)))
  (.kept [3] (.seq (.ops [⟨(some 21), none, .mv (.tmp 3)⟩,
    ⟨(some 2), none, .mv (.tmp 21)⟩])
  (.ret)))))
theorem h_impl_committed : (Try.prog.funcs[n_impl_committed]?).bind (fun fn => fn.body.bind (comp Try.prog fn.ntmps)) = some (AS.strip c_impl_committed) := by kernel_rfl
theorem r_impl_committed : (Try.prog.funcs[n_impl_committed]?).map (fun fn => (fn.results.toList, fn.ntmps)) = some ([.tmp 2], 22) := by kernel_rfl
-- 55 loop.example/g00850/laws.szGotS
abbrev n_laws_szGotS : Nat := 55
def c_laws_szGotS_l1 : AS :=
  .seq (.seq (.ops [⟨(some 12), none, .mv (.tmp 5)⟩,
    ⟨(some 13), none, .mv (.tmp 0)⟩,
    ⟨(some 14), none, .lens (.tmp 13)⟩,
    ⟨(some 15), none, .bin .lss (.tmp 12) (.tmp 14)⟩])
  (.cond (.tmp 15) (.skip) (.exit 0)))
  (.seq (.block 1 (.seq (.ops [⟨(some 18), none, .mv (.tmp 0)⟩,
    ⟨(some 19), none, .mv (.tmp 5)⟩,
    ⟨(some 20), none, .ia 3 (.tmp 18) (.tmp 19)⟩,
    ⟨(some 21), none, .load (some 3) (.tmp 20)⟩,
    ⟨(some 22), none, .mv (.tmp 1)⟩,
    ⟨(some 23), none, .call 88 [(.tmp 21), (.tmp 22)]⟩,
    ⟨(some 1), none, .mv (.tmp 23)⟩])
  (.kept [0, 1, 5] (.seq (.ops [⟨(some 24), none, .mv (.tmp 1)⟩,
    ⟨(some 25), none, .bin .lss (.tmp 24) (.const (.int .i64 0))⟩])
  (.cond (.tmp 25) (.seq (.ops [⟨(some 4), none, .mv (.const (.int .i64 (-1)))⟩])
  (.ret)) (.skip))))))
  (.kept [0, 1, 5] (.ops [⟨(some 16), none, .mv (.tmp 5)⟩,
    ⟨(some 17), none, .bin .add (.tmp 16) (.const (.int .i64 1))⟩,
    ⟨(some 5), none, .mv (.tmp 17)⟩])))
def c_laws_szGotS : AS :=
  .seq (.ops [⟨(some 4), none, .mv (.const (.int .i64 0))⟩])
  (.seq (.ops [⟨(some 6), none, .mv (.tmp 1)⟩,
    ⟨(some 7), none, .mv (.tmp 0)⟩,
    ⟨(some 8), none, .lens (.tmp 7)⟩,
    ⟨(some 9), none, .bin .sub (.tmp 6) (.tmp 8)⟩,
    ⟨(some 1), none, .mv (.tmp 9)⟩])
  (.seq (.seq (.ops [⟨(some 10), none, .mv (.tmp 1)⟩,
    ⟨(some 11), none, .bin .lss (.tmp 10) (.const (.int .i64 0))⟩])
  (.cond (.tmp 11) (.seq (.ops [⟨(some 4), none, .mv (.const (.int .i64 (-1)))⟩])
  (.ret)) (.skip)))
  (.seq (.seq (.ops [⟨(some 5), none, .mv (.const (.int .i64 0))⟩])
  (.block 0 (.loop 2 [(0, 0), (1, 0), (5, 0)] c_laws_szGotS_l1)))
  (.kept [1] (.seq (.ops [⟨(some 26), none, .mv (.tmp 1)⟩,
    ⟨(some 4), none, .mv (.tmp 26)⟩])
  (.ret))))))
theorem h_laws_szGotS : (Try.prog.funcs[n_laws_szGotS]?).bind (fun fn => fn.body.bind (comp Try.prog fn.ntmps)) = some (AS.strip c_laws_szGotS) := by kernel_rfl
theorem r_laws_szGotS : (Try.prog.funcs[n_laws_szGotS]?).map (fun fn => (fn.results.toList, fn.ntmps)) = some ([.tmp 4], 27) := by kernel_rfl
-- 56 loop.example/g00850/laws.szWriteS
abbrev n_laws_szWriteS : Nat := 56
def c_laws_szWriteS_l1 : AS :=
  .seq (.seq (.ops [⟨(some 12), none, .mv (.tmp 5)⟩,
    ⟨(some 13), none, .mv (.tmp 0)⟩,
    ⟨(some 14), none, .lens (.tmp 13)⟩,
    ⟨(some 15), none, .bin .lss (.tmp 12) (.tmp 14)⟩])
  (.cond (.tmp 15) (.skip) (.exit 0)))
  (.seq (.block 1 (.seq (.ops [⟨(some 18), none, .mv (.tmp 0)⟩,
    ⟨(some 19), none, .mv (.tmp 5)⟩,
    ⟨(some 20), none, .ia 3 (.tmp 18) (.tmp 19)⟩,
    ⟨(some 21), none, .load (some 3) (.tmp 20)⟩,
    ⟨(some 22), none, .mv (.tmp 1)⟩,
    ⟨(some 23), none, .call 89 [(.tmp 21), (.tmp 22)]⟩,
    ⟨(some 1), none, .mv (.tmp 23)⟩])
  (.kept [0, 1, 5] (.seq (.ops [⟨(some 24), none, .mv (.tmp 1)⟩,
    ⟨(some 25), none, .bin .lss (.tmp 24) (.const (.int .i64 0))⟩])
  (.cond (.tmp 25) (.seq (.ops [⟨(some 4), none, .mv (.const (.int .i64 (-1)))⟩])
  (.ret)) (.skip))))))
  (.kept [0, 1, 5] (.ops [⟨(some 16), none, .mv (.tmp 5)⟩,
    ⟨(some 17), none, .bin .add (.tmp 16) (.const (.int .i64 1))⟩,
    ⟨(some 5), none, .mv (.tmp 17)⟩])))
def c_laws_szWriteS : AS :=
  .seq (.ops [⟨(some 4), none, .mv (.const (.int .i64 0))⟩])
  (.seq (.ops [⟨(some 6), none, .mv (.tmp 1)⟩,
    ⟨(some 7), none, .mv (.tmp 0)⟩,
    ⟨(some 8), none, .lens (.tmp 7)⟩,
    ⟨(some 9), none, .bin .sub (.tmp 6) (.tmp 8)⟩,
    ⟨(some 1), none, .mv (.tmp 9)⟩])
  (.seq (.seq (.ops [⟨(some 10), none, .mv (.tmp 1)⟩,
    ⟨(some 11), none, .bin .lss (.tmp 10) (.const (.int .i64 0))⟩])
  (.cond (.tmp 11) (.seq (.ops [⟨(some 4), none, .mv (.const (.int .i64 (-1)))⟩])
  (.ret)) (.skip)))
  (.seq (.seq (.ops [⟨(some 5), none, .mv (.const (.int .i64 0))⟩])
  (.block 0 (.loop 2 [(0, 0), (1, 0), (5, 0)] c_laws_szWriteS_l1)))
  (.kept [1] (.seq (.ops [⟨(some 26), none, .mv (.tmp 1)⟩,
    ⟨(some 4), none, .mv (.tmp 26)⟩])
  (.ret))))))
theorem h_laws_szWriteS : (Try.prog.funcs[n_laws_szWriteS]?).bind (fun fn => fn.body.bind (comp Try.prog fn.ntmps)) = some (AS.strip c_laws_szWriteS) := by kernel_rfl
theorem r_laws_szWriteS : (Try.prog.funcs[n_laws_szWriteS]?).map (fun fn => (fn.results.toList, fn.ntmps)) = some ([.tmp 4], 27) := by kernel_rfl
-- 57 loop.example/g00850/spec.l18Deed
abbrev n_spec_l18Deed : Nat := 57
def c_spec_l18Deed : AS :=
  .seq (.ops [⟨(some 1), none, .box (.tmp 0)⟩,
    ⟨(some 2), none, .mv (.const (.bool false))⟩])
  (.seq (.seq (.ops [⟨(some 3), none, .fa 4 (.tmp 1)⟩,
    ⟨(some 4), none, .load none (.tmp 3)⟩,
    ⟨(some 5), none, .mv (.tmp 4)⟩,
    ⟨(some 6), some (5, true), .fa 3 (.tmp 1)⟩,
    ⟨(some 7), some (5, true), .load none (.tmp 6)⟩,
    ⟨(some 8), some (5, true), .not (.tmp 7)⟩,
    ⟨(some 9), some (5, true), .mv (.tmp 8)⟩,
    ⟨(some 10), some (9, false), .fa 7 (.tmp 1)⟩,
    ⟨(some 11), some (9, false), .load none (.tmp 10)⟩,
    ⟨(some 12), some (9, false), .lens (.tmp 11)⟩,
    ⟨(some 13), some (9, false), .bin .gtr (.tmp 12) (.const (.int .i64 0))⟩,
    ⟨(some 14), some (5, true), .pick (.tmp 9) (.const (.bool true)) (.tmp 13)⟩,
    ⟨(some 15), none, .pick (.tmp 5) (.tmp 14) (.const (.bool false))⟩])
  (.kept [1, 15] (.cond (.tmp 15) (.seq (.ops [⟨(some 2), none, .mv (.const (.bool false))⟩])
  (.ret)) (.skip))))
  (.kept [1] (.seq (.ops [⟨(some 16), none, .fa 0 (.tmp 1)⟩,
    ⟨(some 17), none, .load none (.tmp 16)⟩,
    ⟨(some 18), none, .call 34 [(.tmp 17), (.const (.int .i64 1)), (.const (.int .i64 60))]⟩,
    ⟨(some 19), none, .mv (.tmp 18)⟩,
    ⟨(some 20), some (19, true), .fa 1 (.tmp 1)⟩,
    ⟨(some 21), some (19, true), .load none (.tmp 20)⟩,
    ⟨(some 22), some (19, true), .call 34 [(.tmp 21), (.const (.int .i64 0)), (.const (.int .i64 1000000))]⟩,
    ⟨(some 23), none, .pick (.tmp 19) (.tmp 22) (.const (.bool false))⟩,
    ⟨(some 24), none, .mv (.tmp 23)⟩,
    ⟨(some 25), some (24, true), .fa 2 (.tmp 1)⟩,
    ⟨(some 26), some (24, true), .load none (.tmp 25)⟩,
    ⟨(some 27), some (24, true), .bin .eql (.tmp 26) (.const (.int .i64 (-1)))⟩,
    ⟨(some 28), some (24, true), .mv (.tmp 27)⟩,
    ⟨(some 29), some (28, false), .fa 2 (.tmp 1)⟩,
    ⟨(some 30), some (28, false), .load none (.tmp 29)⟩,
    ⟨(some 31), some (28, false), .fa 1 (.tmp 1)⟩,
    ⟨(some 32), some (28, false), .load none (.tmp 31)⟩,
    ⟨(some 33), some (28, false), .bin .gtr (.tmp 30) (.tmp 32)⟩,
    ⟨(some 34), some (28, false), .mv (.tmp 33)⟩,
    ⟨(some 35), some (34, true), .fa 2 (.tmp 1)⟩,
    ⟨(some 36), some (34, true), .load none (.tmp 35)⟩,
    ⟨(some 37), some (34, true), .bin .leq (.tmp 36) (.const (.int .i64 1000000))⟩,
    ⟨(some 38), some (28, false), .pick (.tmp 34) (.tmp 37) (.const (.bool false))⟩,
    ⟨(some 39), some (24, true), .pick (.tmp 28) (.const (.bool true)) (.tmp 38)⟩,
    ⟨(some 40), none, .pick (.tmp 24) (.tmp 39) (.const (.bool false))⟩,
    ⟨(some 41), none, .mv (.tmp 40)⟩,
    ⟨(some 42), some (41, true), .fa 5 (.tmp 1)⟩,
    ⟨(some 43), some (41, true), .load none (.tmp 42)⟩,
    ⟨(some 44), some (41, true), .call 90 [(.tmp 43)]⟩,
    ⟨(some 45), none, .pick (.tmp 41) (.tmp 44) (.const (.bool false))⟩,
    ⟨(some 46), none, .mv (.tmp 45)⟩,
    ⟨(some 47), some (46, true), .fa 6 (.tmp 1)⟩,
    ⟨(some 48), some (46, true), .load none (.tmp 47)⟩,
    ⟨(some 49), some (46, true), .call 91 [(.tmp 48)]⟩,
    ⟨(some 50), none, .pick (.tmp 46) (.tmp 49) (.const (.bool false))⟩,
    ⟨(some 51), none, .mv (.tmp 50)⟩,
    ⟨(some 52), some (51, true), .fa 7 (.tmp 1)⟩,
    ⟨(some 53), some (51, true), .load none (.tmp 52)⟩,
    ⟨(some 54), some (51, true), .call 77 [(.tmp 53)]⟩,
    ⟨(some 55), none, .pick (.tmp 51) (.tmp 54) (.const (.bool false))⟩,
    ⟨(some 2), none, .mv (.tmp 55)⟩])
  (.ret))))
theorem h_spec_l18Deed : (Try.prog.funcs[n_spec_l18Deed]?).bind (fun fn => fn.body.bind (comp Try.prog fn.ntmps)) = some (AS.strip c_spec_l18Deed) := by kernel_rfl
theorem r_spec_l18Deed : (Try.prog.funcs[n_spec_l18Deed]?).map (fun fn => (fn.results.toList, fn.ntmps)) = some ([.tmp 2], 56) := by kernel_rfl
-- 58 loop.example/g00850/spec.l19Less
abbrev n_spec_l19Less : Nat := 58
def c_spec_l19Less : AS :=
  .seq (.ops [⟨(some 6), none, .mv (.const (.bool false))⟩])
  (.seq (.post [(15, 1, [(6, 3), (7, 3)]), (11, 1, [(6, 3), (7, 3)])] (.tops [(1, 0), (2, 0), (7, 0), (8, 0), (11, 0), (15, 0)] (.rd ⟨(some 9), none, .mv (.tmp 0)⟩ (.rd ⟨(some 10), none, .mv (.tmp 1)⟩ (.rd ⟨(some 11), none, .ia 8 (.tmp 9) (.tmp 10)⟩ (.rd ⟨(some 12), none, .load (some 8) (.tmp 11)⟩ (.rd ⟨(some 13), none, .mv (.tmp 0)⟩ (.rd ⟨(some 14), none, .mv (.tmp 2)⟩ (.rd ⟨(some 15), none, .ia 8 (.tmp 13) (.tmp 14)⟩ (.rd ⟨(some 16), none, .load (some 8) (.tmp 15)⟩ (.alt [⟨(some 16), none, .load (some 8) (.tmp 15)⟩, ⟨(some 15), none, .ia 8 (.tmp 13) (.tmp 14)⟩, ⟨(some 14), none, .mv (.tmp 2)⟩, ⟨(some 13), none, .mv (.tmp 0)⟩, ⟨(some 12), none, .load (some 8) (.tmp 11)⟩, ⟨(some 11), none, .ia 8 (.tmp 9) (.tmp 10)⟩, ⟨(some 10), none, .mv (.tmp 1)⟩, ⟨(some 9), none, .mv (.tmp 0)⟩] ⟨(some 7), none, .alloc (.agg #[.int .i64 0, .int .i64 0, .int .i64 0, .bool false, .bool false, .int .i64 0, .slice none 0 0, .slice none 0 0])⟩
    (.alt [⟨(some 16), none, .load (some 8) (.tmp 15)⟩, ⟨(some 15), none, .ia 8 (.tmp 13) (.tmp 14)⟩, ⟨(some 14), none, .mv (.tmp 2)⟩, ⟨(some 13), none, .mv (.tmp 0)⟩, ⟨(some 12), none, .load (some 8) (.tmp 11)⟩, ⟨(some 11), none, .ia 8 (.tmp 9) (.tmp 10)⟩, ⟨(some 10), none, .mv (.tmp 1)⟩, ⟨(some 9), none, .mv (.tmp 0)⟩] ⟨(some 8), none, .alloc (.agg #[.int .i64 0, .int .i64 0, .int .i64 0, .bool false, .bool false, .int .i64 0, .slice none 0 0, .slice none 0 0])⟩
    (.alt [⟨(some 16), none, .load (some 8) (.tmp 15)⟩, ⟨(some 15), none, .ia 8 (.tmp 13) (.tmp 14)⟩, ⟨(some 14), none, .mv (.tmp 2)⟩, ⟨(some 13), none, .mv (.tmp 0)⟩] ⟨none, none, .store 8 (.tmp 7) (.tmp 12)⟩
    (.alt [] ⟨none, none, .store 8 (.tmp 8) (.tmp 16)⟩
    (.done)
    (.none))
    (.none))
    (.none))
    (.alt [⟨(some 16), none, .load (some 8) (.tmp 15)⟩, ⟨(some 15), none, .ia 8 (.tmp 13) (.tmp 14)⟩, ⟨(some 14), none, .mv (.tmp 2)⟩, ⟨(some 13), none, .mv (.tmp 0)⟩, ⟨(some 12), none, .load (some 8) (.tmp 11)⟩, ⟨(some 11), none, .ia 8 (.tmp 9) (.tmp 10)⟩, ⟨(some 10), none, .mv (.tmp 1)⟩, ⟨(some 9), none, .mv (.tmp 0)⟩] ⟨(some 8), none, .alloc (.agg #[.int .i64 0, .int .i64 0, .int .i64 0, .bool false, .bool false, .int .i64 0, .slice none 0 0, .slice none 0 0])⟩
    (.alt [⟨(some 16), none, .load (some 8) (.tmp 15)⟩, ⟨(some 15), none, .ia 8 (.tmp 13) (.tmp 14)⟩, ⟨(some 14), none, .mv (.tmp 2)⟩, ⟨(some 13), none, .mv (.tmp 0)⟩, ⟨(some 12), none, .load (some 8) (.tmp 11)⟩, ⟨(some 11), none, .ia 8 (.tmp 9) (.tmp 10)⟩, ⟨(some 10), none, .mv (.tmp 1)⟩, ⟨(some 9), none, .mv (.tmp 0)⟩] ⟨(some 7), none, .alloc (.agg #[.int .i64 0, .int .i64 0, .int .i64 0, .bool false, .bool false, .int .i64 0, .slice none 0 0, .slice none 0 0])⟩
    (.alt [⟨(some 16), none, .load (some 8) (.tmp 15)⟩, ⟨(some 15), none, .ia 8 (.tmp 13) (.tmp 14)⟩, ⟨(some 14), none, .mv (.tmp 2)⟩, ⟨(some 13), none, .mv (.tmp 0)⟩] ⟨none, none, .store 8 (.tmp 7) (.tmp 12)⟩
    (.alt [] ⟨none, none, .store 8 (.tmp 8) (.tmp 16)⟩
    (.done)
    (.none))
    (.none))
    (.none))
    (.none)))))))))))))
  (.kept [1, 2, 7, 8] (.seq (.seq (.ops [⟨(some 17), none, .fa 5 (.tmp 7)⟩,
    ⟨(some 18), none, .load none (.tmp 17)⟩,
    ⟨(some 19), none, .fa 5 (.tmp 8)⟩,
    ⟨(some 20), none, .load none (.tmp 19)⟩,
    ⟨(some 21), none, .bin .neq (.tmp 18) (.tmp 20)⟩])
  (.cond (.tmp 21) (.seq (.ops [⟨(some 22), none, .fa 5 (.tmp 7)⟩,
    ⟨(some 23), none, .load none (.tmp 22)⟩,
    ⟨(some 24), none, .fa 5 (.tmp 8)⟩,
    ⟨(some 25), none, .load none (.tmp 24)⟩,
    ⟨(some 26), none, .bin .lss (.tmp 23) (.tmp 25)⟩,
    ⟨(some 6), none, .mv (.tmp 26)⟩])
  (.ret)) (.skip)))
  (.kept [1, 2, 7, 8] (.seq (.seq (.ops [⟨(some 27), none, .fa 4 (.tmp 7)⟩,
    ⟨(some 28), none, .load none (.tmp 27)⟩,
    ⟨(some 29), none, .fa 4 (.tmp 8)⟩,
    ⟨(some 30), none, .load none (.tmp 29)⟩,
    ⟨(some 31), none, .eqb true (.tmp 28) (.tmp 30)⟩])
  (.cond (.tmp 31) (.seq (.ops [⟨(some 32), none, .fa 4 (.tmp 8)⟩,
    ⟨(some 33), none, .load none (.tmp 32)⟩,
    ⟨(some 6), none, .mv (.tmp 33)⟩])
  (.ret)) (.skip)))
  (.kept [1, 2] (.seq (.ops [⟨(some 34), none, .mv (.tmp 1)⟩,
    ⟨(some 35), none, .mv (.tmp 2)⟩,
    ⟨(some 36), none, .bin .lss (.tmp 34) (.tmp 35)⟩,
    ⟨(some 6), none, .mv (.tmp 36)⟩])
  (.ret))))))))
theorem h_spec_l19Less : (Try.prog.funcs[n_spec_l19Less]?).bind (fun fn => fn.body.bind (comp Try.prog fn.ntmps)) = some (AS.strip c_spec_l19Less) := by kernel_rfl
theorem r_spec_l19Less : (Try.prog.funcs[n_spec_l19Less]?).map (fun fn => (fn.results.toList, fn.ntmps)) = some ([.tmp 6], 37) := by kernel_rfl
-- 59 loop.example/g00850/spec.l1Own
abbrev n_spec_l1Own : Nat := 59
def c_spec_l1Own : AS :=
  .seq (.ops [⟨(some 2), none, .mv (.const (.slice none 0 0))⟩])
  (.seq (.ops [⟨(some 3), none, .bsl 1 (.int .i64 0) 0 []⟩,
    ⟨(some 4), none, .mv (.tmp 0)⟩,
    ⟨(some 5), none, .app 1 8 (.int .i64 0) (.tmp 3) (.tmp 4)⟩,
    ⟨(some 2), none, .mv (.tmp 5)⟩])
  (.ret))
theorem h_spec_l1Own : (Try.prog.funcs[n_spec_l1Own]?).bind (fun fn => fn.body.bind (comp Try.prog fn.ntmps)) = some (AS.strip c_spec_l1Own) := by kernel_rfl
theorem r_spec_l1Own : (Try.prog.funcs[n_spec_l1Own]?).map (fun fn => (fn.results.toList, fn.ntmps)) = some ([.tmp 2], 6) := by kernel_rfl
-- 60 loop.example/g00850/laws.toGotS
abbrev n_laws_toGotS : Nat := 60
def c_laws_toGotS_l1 : AS :=
  .seq (.seq (.ops [⟨(some 8), none, .mv (.tmp 4)⟩,
    ⟨(some 9), none, .mv (.tmp 0)⟩,
    ⟨(some 10), none, .lens (.tmp 9)⟩,
    ⟨(some 11), none, .bin .lss (.tmp 8) (.tmp 10)⟩])
  (.cond (.tmp 11) (.skip) (.exit 0)))
  (.seq (.block 1 (.ops [⟨(some 14), none, .mv (.tmp 3)⟩,
    ⟨(some 15), none, .mv (.tmp 4)⟩,
    ⟨(some 16), none, .mv (.tmp 0)⟩,
    ⟨(some 17), none, .mv (.tmp 4)⟩,
    ⟨(some 18), none, .ia 3 (.tmp 16) (.tmp 17)⟩,
    ⟨(some 19), none, .load (some 3) (.tmp 18)⟩,
    ⟨(some 20), none, .call 92 [(.tmp 19)]⟩,
    ⟨(some 21), none, .ia 3 (.tmp 14) (.tmp 15)⟩,
    ⟨none, none, .store 3 (.tmp 21) (.tmp 20)⟩]))
  (.kept [0, 3, 4] (.ops [⟨(some 12), none, .mv (.tmp 4)⟩,
    ⟨(some 13), none, .bin .add (.tmp 12) (.const (.int .i64 1))⟩,
    ⟨(some 4), none, .mv (.tmp 13)⟩])))
def c_laws_toGotS : AS :=
  .seq (.ops [⟨(some 2), none, .mv (.const (.slice none 0 0))⟩])
  (.seq (.ops [⟨(some 5), none, .mv (.tmp 0)⟩,
    ⟨(some 6), none, .lens (.tmp 5)⟩,
    ⟨(some 7), none, .mks 3 40 (.agg #[.string ⟨⟨[]⟩⟩, .string ⟨⟨[]⟩⟩, .bool false]) (.tmp 6) (.tmp 6)⟩,
    ⟨(some 3), none, .mv (.tmp 7)⟩])
  (.seq (.seq (.ops [⟨(some 4), none, .mv (.const (.int .i64 0))⟩])
  (.block 0 (.loop 1 [(0, 0), (3, 0), (4, 0)] c_laws_toGotS_l1)))
  (.kept [3] (.seq (.ops [⟨(some 22), none, .mv (.tmp 3)⟩,
    ⟨(some 2), none, .mv (.tmp 22)⟩])
  (.ret)))))
theorem h_laws_toGotS : (Try.prog.funcs[n_laws_toGotS]?).bind (fun fn => fn.body.bind (comp Try.prog fn.ntmps)) = some (AS.strip c_laws_toGotS) := by kernel_rfl
theorem r_laws_toGotS : (Try.prog.funcs[n_laws_toGotS]?).map (fun fn => (fn.results.toList, fn.ntmps)) = some ([.tmp 2], 23) := by kernel_rfl
-- 61 loop.example/g00850/laws.toWriteS
abbrev n_laws_toWriteS : Nat := 61
def c_laws_toWriteS_l1 : AS :=
  .seq (.seq (.ops [⟨(some 8), none, .mv (.tmp 4)⟩,
    ⟨(some 9), none, .mv (.tmp 0)⟩,
    ⟨(some 10), none, .lens (.tmp 9)⟩,
    ⟨(some 11), none, .bin .lss (.tmp 8) (.tmp 10)⟩])
  (.cond (.tmp 11) (.skip) (.exit 0)))
  (.seq (.block 1 (.ops [⟨(some 14), none, .mv (.tmp 3)⟩,
    ⟨(some 15), none, .mv (.tmp 4)⟩,
    ⟨(some 16), none, .mv (.tmp 0)⟩,
    ⟨(some 17), none, .mv (.tmp 4)⟩,
    ⟨(some 18), none, .ia 3 (.tmp 16) (.tmp 17)⟩,
    ⟨(some 19), none, .load (some 3) (.tmp 18)⟩,
    ⟨(some 20), none, .call 93 [(.tmp 19)]⟩,
    ⟨(some 21), none, .ia 3 (.tmp 14) (.tmp 15)⟩,
    ⟨none, none, .store 3 (.tmp 21) (.tmp 20)⟩]))
  (.kept [0, 3, 4] (.ops [⟨(some 12), none, .mv (.tmp 4)⟩,
    ⟨(some 13), none, .bin .add (.tmp 12) (.const (.int .i64 1))⟩,
    ⟨(some 4), none, .mv (.tmp 13)⟩])))
def c_laws_toWriteS : AS :=
  .seq (.ops [⟨(some 2), none, .mv (.const (.slice none 0 0))⟩])
  (.seq (.ops [⟨(some 5), none, .mv (.tmp 0)⟩,
    ⟨(some 6), none, .lens (.tmp 5)⟩,
    ⟨(some 7), none, .mks 3 40 (.agg #[.string ⟨⟨[]⟩⟩, .string ⟨⟨[]⟩⟩, .bool false]) (.tmp 6) (.tmp 6)⟩,
    ⟨(some 3), none, .mv (.tmp 7)⟩])
  (.seq (.seq (.ops [⟨(some 4), none, .mv (.const (.int .i64 0))⟩])
  (.block 0 (.loop 1 [(0, 0), (3, 0), (4, 0)] c_laws_toWriteS_l1)))
  (.kept [3] (.seq (.ops [⟨(some 22), none, .mv (.tmp 3)⟩,
    ⟨(some 2), none, .mv (.tmp 22)⟩])
  (.ret)))))
theorem h_laws_toWriteS : (Try.prog.funcs[n_laws_toWriteS]?).bind (fun fn => fn.body.bind (comp Try.prog fn.ntmps)) = some (AS.strip c_laws_toWriteS) := by kernel_rfl
theorem r_laws_toWriteS : (Try.prog.funcs[n_laws_toWriteS]?).map (fun fn => (fn.results.toList, fn.ntmps)) = some ([.tmp 2], 23) := by kernel_rfl
-- 62 slices.ContainsFunc[[]loop.example/g00850/impl.Deed,loop.example/g00850/impl.Deed]
abbrev n_slices_ContainsFunc___impl_Deed_impl_Deed_ : Nat := 62
def c_slices_ContainsFunc___impl_Deed_impl_Deed_ : AS :=
  .seq (.ops [⟨(some 4), none, .mv (.const (.bool false))⟩])
  (.seq (.ops [⟨(some 5), none, .mv (.tmp 0)⟩,
    ⟨(some 6), none, .mv (.tmp 1)⟩,
    ⟨(some 7), none, .call 94 [(.tmp 5), (.tmp 6)]⟩,
    ⟨(some 8), none, .bin .geq (.tmp 7) (.const (.int .i64 0))⟩,
    ⟨(some 4), none, .mv (.tmp 8)⟩])
  (.ret))
theorem h_slices_ContainsFunc___impl_Deed_impl_Deed_ : (Try.prog.funcs[n_slices_ContainsFunc___impl_Deed_impl_Deed_]?).bind (fun fn => fn.body.bind (comp Try.prog fn.ntmps)) = some (AS.strip c_slices_ContainsFunc___impl_Deed_impl_Deed_) := by kernel_rfl
theorem r_slices_ContainsFunc___impl_Deed_impl_Deed_ : (Try.prog.funcs[n_slices_ContainsFunc___impl_Deed_impl_Deed_]?).map (fun fn => (fn.results.toList, fn.ntmps)) = some ([.tmp 4], 9) := by kernel_rfl
-- 63 loop.example/g00850/impl.GoodHistory$1
abbrev n_impl_GoodHistory_1 : Nat := 63
def c_impl_GoodHistory_1 : AS :=
  .seq (.ops [⟨(some 1), none, .box (.tmp 0)⟩,
    ⟨(some 2), none, .mv (.const (.bool false))⟩])
  (.seq (.ops [⟨(some 3), none, .load (some 8) (.tmp 1)⟩,
    ⟨(some 4), none, .call 64 [(.tmp 3)]⟩,
    ⟨(some 5), none, .not (.tmp 4)⟩,
    ⟨(some 2), none, .mv (.tmp 5)⟩])
  (.ret))
theorem h_impl_GoodHistory_1 : (Try.prog.funcs[n_impl_GoodHistory_1]?).bind (fun fn => fn.body.bind (comp Try.prog fn.ntmps)) = some (AS.strip c_impl_GoodHistory_1) := by kernel_rfl
theorem r_impl_GoodHistory_1 : (Try.prog.funcs[n_impl_GoodHistory_1]?).map (fun fn => (fn.results.toList, fn.ntmps)) = some ([.tmp 2], 6) := by kernel_rfl
-- 64 loop.example/g00850/impl.isDeed
abbrev n_impl_isDeed : Nat := 64
def c_impl_isDeed : AS :=
  .seq (.ops [⟨(some 1), none, .box (.tmp 0)⟩,
    ⟨(some 2), none, .mv (.const (.bool false))⟩])
  (.seq (.ops [⟨(some 3), none, .fa 0 (.tmp 1)⟩,
    ⟨(some 4), none, .load none (.tmp 3)⟩,
    ⟨(some 5), none, .call 95 [(.tmp 4)]⟩,
    ⟨(some 6), none, .mv (.tmp 5)⟩,
    ⟨(some 7), some (6, true), .fa 1 (.tmp 1)⟩,
    ⟨(some 8), some (6, true), .load none (.tmp 7)⟩,
    ⟨(some 9), some (6, true), .call 36 [(.tmp 8), (.const (.int .i64 0)), (.const (.int .i64 1000000))]⟩,
    ⟨(some 10), none, .pick (.tmp 6) (.tmp 9) (.const (.bool false))⟩,
    ⟨(some 11), none, .mv (.tmp 10)⟩,
    ⟨(some 12), some (11, true), .fa 2 (.tmp 1)⟩,
    ⟨(some 13), some (11, true), .load none (.tmp 12)⟩,
    ⟨(some 14), some (11, true), .bin .eql (.tmp 13) (.const (.int .i64 (-1)))⟩,
    ⟨(some 15), some (11, true), .mv (.tmp 14)⟩,
    ⟨(some 16), some (15, false), .fa 2 (.tmp 1)⟩,
    ⟨(some 17), some (15, false), .load none (.tmp 16)⟩,
    ⟨(some 18), some (15, false), .fa 1 (.tmp 1)⟩,
    ⟨(some 19), some (15, false), .load none (.tmp 18)⟩,
    ⟨(some 20), some (15, false), .bin .add (.tmp 19) (.const (.int .i64 1))⟩,
    ⟨(some 21), some (15, false), .call 36 [(.tmp 17), (.tmp 20), (.const (.int .i64 1000000))]⟩,
    ⟨(some 22), some (11, true), .pick (.tmp 15) (.const (.bool true)) (.tmp 21)⟩,
    ⟨(some 23), none, .pick (.tmp 11) (.tmp 22) (.const (.bool false))⟩,
    ⟨(some 24), none, .mv (.tmp 23)⟩,
    ⟨(some 25), some (24, true), .fa 4 (.tmp 1)⟩,
    ⟨(some 26), some (24, true), .load none (.tmp 25)⟩,
    ⟨(some 27), some (24, true), .not (.tmp 26)⟩,
    ⟨(some 28), some (24, true), .mv (.tmp 27)⟩,
    ⟨(some 29), some (28, false), .fa 3 (.tmp 1)⟩,
    ⟨(some 30), some (28, false), .load none (.tmp 29)⟩,
    ⟨(some 31), some (28, false), .mv (.tmp 30)⟩,
    ⟨(some 32), some (31, true), .fa 7 (.tmp 1)⟩,
    ⟨(some 33), some (31, true), .load none (.tmp 32)⟩,
    ⟨(some 34), some (31, true), .lens (.tmp 33)⟩,
    ⟨(some 35), some (31, true), .bin .eql (.tmp 34) (.const (.int .i64 0))⟩,
    ⟨(some 36), some (28, false), .pick (.tmp 31) (.tmp 35) (.const (.bool false))⟩,
    ⟨(some 37), some (24, true), .pick (.tmp 28) (.const (.bool true)) (.tmp 36)⟩,
    ⟨(some 38), none, .pick (.tmp 24) (.tmp 37) (.const (.bool false))⟩,
    ⟨(some 39), none, .mv (.tmp 38)⟩,
    ⟨(some 40), some (39, true), .fa 5 (.tmp 1)⟩,
    ⟨(some 41), some (39, true), .load none (.tmp 40)⟩,
    ⟨(some 42), some (39, true), .call 96 [(.tmp 41)]⟩,
    ⟨(some 43), none, .pick (.tmp 39) (.tmp 42) (.const (.bool false))⟩,
    ⟨(some 44), none, .mv (.tmp 43)⟩,
    ⟨(some 45), some (44, true), .fa 6 (.tmp 1)⟩,
    ⟨(some 46), some (44, true), .load none (.tmp 45)⟩,
    ⟨(some 47), some (44, true), .call 97 [(.tmp 46)]⟩,
    ⟨(some 48), none, .pick (.tmp 44) (.tmp 47) (.const (.bool false))⟩,
    ⟨(some 49), none, .mv (.tmp 48)⟩,
    ⟨(some 50), some (49, true), .fa 7 (.tmp 1)⟩,
    ⟨(some 51), some (49, true), .load none (.tmp 50)⟩,
    ⟨(some 52), some (49, true), .call 98 [(.tmp 51)]⟩,
    ⟨(some 53), none, .pick (.tmp 49) (.tmp 52) (.const (.bool false))⟩,
    ⟨(some 2), none, .mv (.tmp 53)⟩])
  (.ret))
theorem h_impl_isDeed : (Try.prog.funcs[n_impl_isDeed]?).bind (fun fn => fn.body.bind (comp Try.prog fn.ntmps)) = some (AS.strip c_impl_isDeed) := by kernel_rfl
theorem r_impl_isDeed : (Try.prog.funcs[n_impl_isDeed]?).map (fun fn => (fn.results.toList, fn.ntmps)) = some ([.tmp 2], 54) := by kernel_rfl
-- 65 loop.example/g00850/impl.orderByTime$1
abbrev n_impl_orderByTime_1 : Nat := 65
def c_impl_orderByTime_1 : AS :=
  .seq (.ops [⟨(some 3), none, .mv (.const (.int .i64 0))⟩])
  (.seq (.seq (.ops [⟨(some 4), none, .load none (.tmp 1)⟩,
    ⟨(some 5), none, .mv (.tmp 0)⟩,
    ⟨(some 6), none, .ia 8 (.tmp 4) (.tmp 5)⟩,
    ⟨(some 7), none, .fa 4 (.tmp 6)⟩,
    ⟨(some 8), none, .load none (.tmp 7)⟩])
  (.cond (.tmp 8) (.seq (.ops [⟨(some 3), none, .mv (.const (.int .i64 1))⟩])
  (.ret)) (.skip)))
  (.kept [] (.seq (.ops [⟨(some 3), none, .mv (.const (.int .i64 0))⟩])
  (.ret))))
theorem h_impl_orderByTime_1 : (Try.prog.funcs[n_impl_orderByTime_1]?).bind (fun fn => fn.body.bind (comp Try.prog fn.ntmps)) = some (AS.strip c_impl_orderByTime_1) := by kernel_rfl
theorem r_impl_orderByTime_1 : (Try.prog.funcs[n_impl_orderByTime_1]?).map (fun fn => (fn.results.toList, fn.ntmps)) = some ([.tmp 3], 9) := by kernel_rfl
-- 66 slices.SortStableFunc[[]int,int]
abbrev n_slices_SortStableFunc___int_int_ : Nat := 66
def c_slices_SortStableFunc___int_int_ : AS :=
  .ops [⟨(some 4), none, .mv (.tmp 0)⟩,
    ⟨(some 5), none, .mv (.tmp 0)⟩,
    ⟨(some 6), none, .lens (.tmp 5)⟩,
    ⟨(some 7), none, .mv (.tmp 1)⟩,
    ⟨(some 8), none, .call 99 [(.tmp 4), (.tmp 6), (.tmp 7)]⟩]
theorem h_slices_SortStableFunc___int_int_ : (Try.prog.funcs[n_slices_SortStableFunc___int_int_]?).bind (fun fn => fn.body.bind (comp Try.prog fn.ntmps)) = some (AS.strip c_slices_SortStableFunc___int_int_) := by kernel_rfl
theorem r_slices_SortStableFunc___int_int_ : (Try.prog.funcs[n_slices_SortStableFunc___int_int_]?).map (fun fn => (fn.results.toList, fn.ntmps)) = some ([], 9) := by kernel_rfl
-- 67 loop.example/g00850/impl.orderByTime$2
abbrev n_impl_orderByTime_2 : Nat := 67
def c_impl_orderByTime_2 : AS :=
  .seq (.ops [⟨(some 6), none, .mv (.const (.int .i64 0))⟩])
  (.seq (.rops [(none, ⟨(some 7), none, .load none (.tmp 2)⟩),
    (none, ⟨(some 8), none, .mv (.tmp 0)⟩),
    (none, ⟨(some 9), none, .ia 8 (.tmp 7) (.tmp 8)⟩),
    (none, ⟨(some 10), none, .fa 5 (.tmp 9)⟩),
    (none, ⟨(some 11), none, .load none (.tmp 10)⟩),
    (none, ⟨(some 12), none, .load none (.tmp 2)⟩),
    (none, ⟨(some 13), none, .mv (.tmp 1)⟩),
    (none, ⟨(some 14), none, .ia 8 (.tmp 12) (.tmp 13)⟩),
    (none, ⟨(some 15), none, .fa 5 (.tmp 14)⟩),
    (none, ⟨(some 16), none, .load none (.tmp 15)⟩),
    (none, ⟨(some 18), none, .load none (.tmp 3)⟩),
    (none, ⟨(some 19), none, .mv (.tmp 0)⟩),
    (none, ⟨(some 21), none, .load none (.tmp 3)⟩),
    (none, ⟨(some 22), none, .mv (.tmp 1)⟩),
    (some [⟨(some 22), none, .mv (.tmp 1)⟩, ⟨(some 21), none, .load none (.tmp 3)⟩, ⟨(some 19), none, .mv (.tmp 0)⟩, ⟨(some 18), none, .load none (.tmp 3)⟩], ⟨(some 17), none, .call 69 [(.tmp 11), (.tmp 16)]⟩),
    (some [⟨(some 22), none, .mv (.tmp 1)⟩, ⟨(some 21), none, .load none (.tmp 3)⟩], ⟨(some 20), none, .callv (.tmp 18) [(.tmp 19)]⟩),
    (some [], ⟨(some 23), none, .callv (.tmp 21) [(.tmp 22)]⟩),
    (some [], ⟨(some 24), none, .call 69 [(.tmp 20), (.tmp 23)]⟩),
    (some [], ⟨(some 25), none, .bsl 1 (.int .i64 0) 2 [(0, (.tmp 17)), (1, (.tmp 24))]⟩),
    (some [], ⟨(some 26), none, .call 68 [(.tmp 25)]⟩),
    (none, ⟨(some 6), none, .mv (.tmp 26)⟩)])
  (.ret))
theorem h_impl_orderByTime_2 : (Try.prog.funcs[n_impl_orderByTime_2]?).bind (fun fn => fn.body.bind (comp Try.prog fn.ntmps)) = some (AS.strip c_impl_orderByTime_2) := by kernel_rfl
theorem r_impl_orderByTime_2 : (Try.prog.funcs[n_impl_orderByTime_2]?).map (fun fn => (fn.results.toList, fn.ntmps)) = some ([.tmp 6], 27) := by kernel_rfl
-- 68 cmp.Or[int]
abbrev n_cmp_Or_int_ : Nat := 68
def c_cmp_Or_int__l1 : AS :=
  .seq (.ops [⟨(some 9), none, .bin .lss (.tmp 8) (.tmp 7)⟩])
  (.seq (.cond (.tmp 9) (.skip) (.exit 0))
  (.seq (.block 1 (.seq (.ops [⟨(some 10), none, .ia 1 (.tmp 6) (.tmp 8)⟩,
    ⟨(some 11), none, .load none (.tmp 10)⟩,
    ⟨(some 5), none, .mv (.tmp 11)⟩])
  (.seq (.ops [⟨(some 12), none, .mv (.tmp 5)⟩,
    ⟨(some 13), none, .mv (.tmp 3)⟩,
    ⟨(some 14), none, .bin .neq (.tmp 12) (.tmp 13)⟩])
  (.cond (.tmp 14) (.seq (.ops [⟨(some 15), none, .mv (.tmp 5)⟩,
    ⟨(some 2), none, .mv (.tmp 15)⟩])
  (.ret)) (.skip)))))
  (.kept [3, 6, 7, 8] (.ops [⟨(some 16), none, .bin .add (.tmp 8) (.const (.int .i64 1))⟩,
    ⟨(some 8), none, .mv (.tmp 16)⟩]))))
def c_cmp_Or_int_ : AS :=
  .seq (.ops [⟨(some 2), none, .mv (.const (.int .i64 0))⟩])
  (.seq (.ops [⟨(some 3), none, .mv (.const (.int .i64 0))⟩])
  (.seq (.seq (.ops [⟨(some 6), none, .mv (.tmp 0)⟩,
    ⟨(some 7), none, .lens (.tmp 6)⟩,
    ⟨(some 8), none, .mv (.const (.int .i64 0))⟩])
  (.block 0 (.loop 1 [(3, 0), (6, 0), (7, 0), (8, 0)] c_cmp_Or_int__l1)))
  (.kept [3] (.seq (.ops [⟨(some 17), none, .mv (.tmp 3)⟩,
    ⟨(some 2), none, .mv (.tmp 17)⟩])
  (.ret)))))
theorem h_cmp_Or_int_ : (Try.prog.funcs[n_cmp_Or_int_]?).bind (fun fn => fn.body.bind (comp Try.prog fn.ntmps)) = some (AS.strip c_cmp_Or_int_) := by kernel_rfl
theorem r_cmp_Or_int_ : (Try.prog.funcs[n_cmp_Or_int_]?).map (fun fn => (fn.results.toList, fn.ntmps)) = some ([.tmp 2], 18) := by kernel_rfl
-- 69 cmp.Compare[int]
abbrev n_cmp_Compare_int_ : Nat := 69
def c_cmp_Compare_int_ : AS :=
  .seq (.ops [⟨(some 4), none, .mv (.const (.int .i64 0))⟩])
  (.seq (.ops [⟨(some 7), none, .mv (.tmp 0)⟩,
    ⟨(some 8), none, .call 100 [(.tmp 7)]⟩,
    ⟨(some 5), none, .mv (.tmp 8)⟩])
  (.seq (.ops [⟨(some 9), none, .mv (.tmp 1)⟩,
    ⟨(some 10), none, .call 100 [(.tmp 9)]⟩,
    ⟨(some 6), none, .mv (.tmp 10)⟩])
  (.seq (.seq (.ops [⟨(some 11), none, .mv (.tmp 5)⟩])
  (.cond (.tmp 11) (.seq (.seq (.ops [⟨(some 12), none, .mv (.tmp 6)⟩])
  (.cond (.tmp 12) (.seq (.ops [⟨(some 4), none, .mv (.const (.int .i64 0))⟩])
  (.ret)) (.skip)))
  (.seq (.ops [⟨(some 4), none, .mv (.const (.int .i64 (-1)))⟩])
  (.ret))) (.skip)))
  (.seq (.seq (.ops [⟨(some 13), none, .mv (.tmp 6)⟩])
  (.cond (.tmp 13) (.seq (.ops [⟨(some 4), none, .mv (.const (.int .i64 1))⟩])
  (.ret)) (.skip)))
  (.seq (.seq (.ops [⟨(some 14), none, .mv (.tmp 0)⟩,
    ⟨(some 15), none, .mv (.tmp 1)⟩,
    ⟨(some 16), none, .bin .lss (.tmp 14) (.tmp 15)⟩])
  (.cond (.tmp 16) (.seq (.ops [⟨(some 4), none, .mv (.const (.int .i64 (-1)))⟩])
  (.ret)) (.skip)))
  (.seq (.seq (.ops [⟨(some 17), none, .mv (.tmp 0)⟩,
    ⟨(some 18), none, .mv (.tmp 1)⟩,
    ⟨(some 19), none, .bin .gtr (.tmp 17) (.tmp 18)⟩])
  (.cond (.tmp 19) (.seq (.ops [⟨(some 4), none, .mv (.const (.int .i64 1))⟩])
  (.ret)) (.skip)))
  (.seq (.ops [⟨(some 4), none, .mv (.const (.int .i64 0))⟩])
  (.ret))))))))
theorem h_cmp_Compare_int_ : (Try.prog.funcs[n_cmp_Compare_int_]?).bind (fun fn => fn.body.bind (comp Try.prog fn.ntmps)) = some (AS.strip c_cmp_Compare_int_) := by kernel_rfl
theorem r_cmp_Compare_int_ : (Try.prog.funcs[n_cmp_Compare_int_]?).map (fun fn => (fn.results.toList, fn.ntmps)) = some ([.tmp 4], 20) := by kernel_rfl
-- 70 loop.example/g00850/laws.eqGotS
abbrev n_laws_eqGotS : Nat := 70
def c_laws_eqGotS_l1 : AS :=
  .seq (.seq (.ops [⟨(some 11), none, .mv (.tmp 5)⟩,
    ⟨(some 12), none, .mv (.tmp 0)⟩,
    ⟨(some 13), none, .lens (.tmp 12)⟩,
    ⟨(some 14), none, .bin .lss (.tmp 11) (.tmp 13)⟩])
  (.cond (.tmp 14) (.skip) (.exit 0)))
  (.seq (.block 1 (.seq (.rops [(none, ⟨(some 17), none, .mv (.tmp 0)⟩),
    (none, ⟨(some 18), none, .mv (.tmp 5)⟩),
    (none, ⟨(some 19), none, .ia 3 (.tmp 17) (.tmp 18)⟩),
    (none, ⟨(some 20), none, .load (some 3) (.tmp 19)⟩),
    (none, ⟨(some 21), none, .mv (.tmp 1)⟩),
    (none, ⟨(some 22), none, .mv (.tmp 5)⟩),
    (none, ⟨(some 23), none, .ia 3 (.tmp 21) (.tmp 22)⟩),
    (none, ⟨(some 24), none, .load (some 3) (.tmp 23)⟩),
    (some [], ⟨(some 25), none, .call 101 [(.tmp 20), (.tmp 24)]⟩),
    (none, ⟨(some 26), none, .not (.tmp 25)⟩)])
  (.kept [0, 1, 5, 26] (.cond (.tmp 26) (.seq (.ops [⟨(some 4), none, .mv (.const (.bool false))⟩])
  (.ret)) (.skip)))))
  (.kept [0, 1, 5] (.ops [⟨(some 15), none, .mv (.tmp 5)⟩,
    ⟨(some 16), none, .bin .add (.tmp 15) (.const (.int .i64 1))⟩,
    ⟨(some 5), none, .mv (.tmp 16)⟩])))
def c_laws_eqGotS : AS :=
  .seq (.ops [⟨(some 4), none, .mv (.const (.bool false))⟩])
  (.seq (.seq (.ops [⟨(some 6), none, .mv (.tmp 0)⟩,
    ⟨(some 7), none, .lens (.tmp 6)⟩,
    ⟨(some 8), none, .mv (.tmp 1)⟩,
    ⟨(some 9), none, .lens (.tmp 8)⟩,
    ⟨(some 10), none, .bin .neq (.tmp 7) (.tmp 9)⟩])
  (.cond (.tmp 10) (.seq (.ops [⟨(some 4), none, .mv (.const (.bool false))⟩])
  (.ret)) (.skip)))
  (.kept [0, 1] (.seq (.seq (.ops [⟨(some 5), none, .mv (.const (.int .i64 0))⟩])
  (.block 0 (.loop 2 [(0, 0), (1, 0), (5, 0)] c_laws_eqGotS_l1)))
  (.kept [] (.seq (.ops [⟨(some 4), none, .mv (.const (.bool true))⟩])
  (.ret))))))
theorem h_laws_eqGotS : (Try.prog.funcs[n_laws_eqGotS]?).bind (fun fn => fn.body.bind (comp Try.prog fn.ntmps)) = some (AS.strip c_laws_eqGotS) := by kernel_rfl
theorem r_laws_eqGotS : (Try.prog.funcs[n_laws_eqGotS]?).map (fun fn => (fn.results.toList, fn.ntmps)) = some ([.tmp 4], 27) := by kernel_rfl
-- 71 slices.BinarySearchFunc[[]loop.example/g00850/impl.Write,loop.example/g00850/impl.Write,string]
abbrev n_slices_BinarySearchFunc___impl_Write_impl_Write_string_ : Nat := 71
def c_slices_BinarySearchFunc___impl_Write_impl_Write_string__l1 : AS :=
  .seq (.seq (.ops [⟨(some 15), none, .mv (.tmp 9)⟩,
    ⟨(some 16), none, .mv (.tmp 10)⟩,
    ⟨(some 17), none, .bin .lss (.tmp 15) (.tmp 16)⟩])
  (.cond (.tmp 17) (.skip) (.exit 0)))
  (.block 1 (.seq (.ops [⟨(some 18), none, .mv (.tmp 9)⟩,
    ⟨(some 19), none, .mv (.tmp 10)⟩,
    ⟨(some 20), none, .bin .add (.tmp 18) (.tmp 19)⟩,
    ⟨(some 21), none, .cvi .u64 (.tmp 20)⟩,
    ⟨(some 22), none, .bin .shr (.tmp 21) (.const (.int .u64 1))⟩,
    ⟨(some 23), none, .cvi .i64 (.tmp 22)⟩,
    ⟨(some 11), none, .mv (.tmp 23)⟩])
  (.kept [0, 1, 2, 8, 9, 10, 11] (.seq (.ops [⟨(some 24), none, .mv (.tmp 2)⟩,
    ⟨(some 25), none, .mv (.tmp 0)⟩,
    ⟨(some 26), none, .mv (.tmp 11)⟩,
    ⟨(some 27), none, .ia 3 (.tmp 25) (.tmp 26)⟩,
    ⟨(some 28), none, .load (some 3) (.tmp 27)⟩,
    ⟨(some 29), none, .mv (.tmp 1)⟩,
    ⟨(some 30), none, .callv (.tmp 24) [(.tmp 28), (.tmp 29)]⟩,
    ⟨(some 31), none, .bin .lss (.tmp 30) (.const (.int .i64 0))⟩])
  (.kept [0, 1, 2, 8, 9, 10, 11, 31] (.cond (.tmp 31) (.ops [⟨(some 32), none, .mv (.tmp 11)⟩,
    ⟨(some 33), none, .bin .add (.tmp 32) (.const (.int .i64 1))⟩,
    ⟨(some 9), none, .mv (.tmp 33)⟩]) (.ops [⟨(some 34), none, .mv (.tmp 11)⟩,
    ⟨(some 10), none, .mv (.tmp 34)⟩])))))))
def c_slices_BinarySearchFunc___impl_Write_impl_Write_string_ : AS :=
  .seq (.ops [⟨(some 6), none, .mv (.const (.int .i64 0))⟩,
    ⟨(some 7), none, .mv (.const (.bool false))⟩])
  (.seq (.ops [⟨(some 12), none, .mv (.tmp 0)⟩,
    ⟨(some 13), none, .lens (.tmp 12)⟩,
    ⟨(some 8), none, .mv (.tmp 13)⟩])
  (.seq (.ops [⟨(some 14), none, .mv (.tmp 8)⟩,
    ⟨(some 9), none, .mv (.const (.int .i64 0))⟩,
    ⟨(some 10), none, .mv (.tmp 14)⟩])
  (.seq (.block 0 (.loop 3 [(0, 0), (1, 0), (2, 0), (8, 0), (9, 0), (10, 0)] c_slices_BinarySearchFunc___impl_Write_impl_Write_string__l1))
  (.kept [0, 1, 2, 8, 9] (.seq (.ops [⟨(some 35), none, .mv (.tmp 9)⟩,
    ⟨(some 36), none, .mv (.tmp 9)⟩,
    ⟨(some 37), none, .mv (.tmp 8)⟩,
    ⟨(some 38), none, .bin .lss (.tmp 36) (.tmp 37)⟩,
    ⟨(some 39), none, .mv (.tmp 38)⟩,
    ⟨(some 40), some (39, true), .mv (.tmp 2)⟩,
    ⟨(some 41), some (39, true), .mv (.tmp 0)⟩,
    ⟨(some 42), some (39, true), .mv (.tmp 9)⟩,
    ⟨(some 43), some (39, true), .ia 3 (.tmp 41) (.tmp 42)⟩,
    ⟨(some 44), some (39, true), .load (some 3) (.tmp 43)⟩,
    ⟨(some 45), some (39, true), .mv (.tmp 1)⟩,
    ⟨(some 46), some (39, true), .callv (.tmp 40) [(.tmp 44), (.tmp 45)]⟩,
    ⟨(some 47), some (39, true), .bin .eql (.tmp 46) (.const (.int .i64 0))⟩,
    ⟨(some 48), none, .pick (.tmp 39) (.tmp 47) (.const (.bool false))⟩,
    ⟨(some 6), none, .mv (.tmp 35)⟩,
    ⟨(some 7), none, .mv (.tmp 48)⟩])
  (.ret))))))
theorem h_slices_BinarySearchFunc___impl_Write_impl_Write_string_ : (Try.prog.funcs[n_slices_BinarySearchFunc___impl_Write_impl_Write_string_]?).bind (fun fn => fn.body.bind (comp Try.prog fn.ntmps)) = some (AS.strip c_slices_BinarySearchFunc___impl_Write_impl_Write_string_) := by kernel_rfl
theorem r_slices_BinarySearchFunc___impl_Write_impl_Write_string_ : (Try.prog.funcs[n_slices_BinarySearchFunc___impl_Write_impl_Write_string_]?).map (fun fn => (fn.results.toList, fn.ntmps)) = some ([.tmp 6, .tmp 7], 49) := by kernel_rfl
-- 72 loop.example/g00850/impl.findWrite$1
abbrev n_impl_findWrite_1 : Nat := 72
def c_impl_findWrite_1 : AS :=
  .seq (.ops [⟨(some 2), none, .box (.tmp 0)⟩,
    ⟨(some 4), none, .mv (.const (.int .i64 0))⟩])
  (.seq (.ops [⟨(some 5), none, .fa 0 (.tmp 2)⟩,
    ⟨(some 6), none, .load none (.tmp 5)⟩,
    ⟨(some 7), none, .mv (.tmp 1)⟩,
    ⟨(some 8), none, .call 73 [(.tmp 6), (.tmp 7)]⟩,
    ⟨(some 4), none, .mv (.tmp 8)⟩])
  (.ret))
theorem h_impl_findWrite_1 : (Try.prog.funcs[n_impl_findWrite_1]?).bind (fun fn => fn.body.bind (comp Try.prog fn.ntmps)) = some (AS.strip c_impl_findWrite_1) := by kernel_rfl
theorem r_impl_findWrite_1 : (Try.prog.funcs[n_impl_findWrite_1]?).map (fun fn => (fn.results.toList, fn.ntmps)) = some ([.tmp 4], 9) := by kernel_rfl
-- 73 cmp.Compare[string]
abbrev n_cmp_Compare_string_ : Nat := 73
def c_cmp_Compare_string_ : AS :=
  .seq (.ops [⟨(some 4), none, .mv (.const (.int .i64 0))⟩])
  (.seq (.ops [⟨(some 7), none, .mv (.tmp 0)⟩,
    ⟨(some 8), none, .call 102 [(.tmp 7)]⟩,
    ⟨(some 5), none, .mv (.tmp 8)⟩])
  (.seq (.ops [⟨(some 9), none, .mv (.tmp 1)⟩,
    ⟨(some 10), none, .call 102 [(.tmp 9)]⟩,
    ⟨(some 6), none, .mv (.tmp 10)⟩])
  (.seq (.seq (.ops [⟨(some 11), none, .mv (.tmp 5)⟩])
  (.cond (.tmp 11) (.seq (.seq (.ops [⟨(some 12), none, .mv (.tmp 6)⟩])
  (.cond (.tmp 12) (.seq (.ops [⟨(some 4), none, .mv (.const (.int .i64 0))⟩])
  (.ret)) (.skip)))
  (.seq (.ops [⟨(some 4), none, .mv (.const (.int .i64 (-1)))⟩])
  (.ret))) (.skip)))
  (.seq (.seq (.ops [⟨(some 13), none, .mv (.tmp 6)⟩])
  (.cond (.tmp 13) (.seq (.ops [⟨(some 4), none, .mv (.const (.int .i64 1))⟩])
  (.ret)) (.skip)))
  (.seq (.seq (.ops [⟨(some 14), none, .mv (.tmp 0)⟩,
    ⟨(some 15), none, .mv (.tmp 1)⟩,
    ⟨(some 16), none, .bin .lss (.tmp 14) (.tmp 15)⟩])
  (.cond (.tmp 16) (.seq (.ops [⟨(some 4), none, .mv (.const (.int .i64 (-1)))⟩])
  (.ret)) (.skip)))
  (.seq (.seq (.ops [⟨(some 17), none, .mv (.tmp 0)⟩,
    ⟨(some 18), none, .mv (.tmp 1)⟩,
    ⟨(some 19), none, .bin .gtr (.tmp 17) (.tmp 18)⟩])
  (.cond (.tmp 19) (.seq (.ops [⟨(some 4), none, .mv (.const (.int .i64 1))⟩])
  (.ret)) (.skip)))
  (.seq (.ops [⟨(some 4), none, .mv (.const (.int .i64 0))⟩])
  (.ret))))))))
theorem h_cmp_Compare_string_ : (Try.prog.funcs[n_cmp_Compare_string_]?).bind (fun fn => fn.body.bind (comp Try.prog fn.ntmps)) = some (AS.strip c_cmp_Compare_string_) := by kernel_rfl
theorem r_cmp_Compare_string_ : (Try.prog.funcs[n_cmp_Compare_string_]?).map (fun fn => (fn.results.toList, fn.ntmps)) = some ([.tmp 4], 20) := by kernel_rfl
-- 77 loop.example/g00850/spec.l3Writes
abbrev n_spec_l3Writes : Nat := 77
def c_spec_l3Writes_l1 : AS :=
  .seq (.ops [⟨(some 8), none, .bin .lss (.tmp 7) (.tmp 6)⟩])
  (.seq (.cond (.tmp 8) (.skip) (.exit 0))
  (.seq (.block 1 (.seq (.ops [⟨(some 9), none, .mv (.tmp 7)⟩,
    ⟨(some 10), none, .ia 3 (.tmp 5) (.tmp 7)⟩,
    ⟨(some 11), none, .load (some 3) (.tmp 10)⟩,
    ⟨(some 4), none, .alloc (.agg #[.string ⟨⟨[]⟩⟩, .string ⟨⟨[]⟩⟩, .bool false])⟩,
    ⟨(some 3), none, .mv (.tmp 9)⟩,
    ⟨none, none, .store 3 (.tmp 4) (.tmp 11)⟩])
  (.seq (.rops [(none, ⟨(some 12), none, .fa 0 (.tmp 4)⟩),
    (none, ⟨(some 13), none, .load none (.tmp 12)⟩),
    (none, ⟨(some 14), none, .fa 1 (.tmp 4)⟩),
    (none, ⟨(some 15), none, .load none (.tmp 14)⟩),
    (none, ⟨(some 16), none, .fa 2 (.tmp 4)⟩),
    (none, ⟨(some 17), none, .load none (.tmp 16)⟩),
    (some [], ⟨(some 18), none, .call 103 [(.tmp 13), (.tmp 15), (.tmp 17)]⟩),
    (none, ⟨(some 19), none, .not (.tmp 18)⟩),
    (none, ⟨(some 20), none, .mv (.tmp 19)⟩),
    (none, ⟨(some 21), some (20, false), .mv (.tmp 3)⟩),
    (none, ⟨(some 22), some (20, false), .bin .gtr (.tmp 21) (.const (.int .i64 0))⟩),
    (none, ⟨(some 23), some (20, false), .mv (.tmp 22)⟩),
    (none, ⟨(some 24), some (23, true), .mv (.tmp 0)⟩),
    (none, ⟨(some 25), some (23, true), .mv (.tmp 3)⟩),
    (none, ⟨(some 26), some (23, true), .bin .sub (.tmp 25) (.const (.int .i64 1))⟩),
    (none, ⟨(some 27), some (23, true), .ia 3 (.tmp 24) (.tmp 26)⟩),
    (none, ⟨(some 28), some (23, true), .fa 0 (.tmp 27)⟩),
    (none, ⟨(some 29), some (23, true), .load none (.tmp 28)⟩),
    (none, ⟨(some 30), some (23, true), .fa 0 (.tmp 4)⟩),
    (none, ⟨(some 31), some (23, true), .load none (.tmp 30)⟩),
    (none, ⟨(some 32), some (23, true), .bin .geq (.tmp 29) (.tmp 31)⟩),
    (none, ⟨(some 33), some (20, false), .pick (.tmp 23) (.tmp 32) (.const (.bool false))⟩),
    (none, ⟨(some 34), none, .pick (.tmp 20) (.const (.bool true)) (.tmp 33)⟩)])
  (.kept [0, 5, 6, 7, 34] (.cond (.tmp 34) (.seq (.ops [⟨(some 2), none, .mv (.const (.bool false))⟩])
  (.ret)) (.skip))))))
  (.kept [0, 5, 6, 7] (.ops [⟨(some 35), none, .bin .add (.tmp 7) (.const (.int .i64 1))⟩,
    ⟨(some 7), none, .mv (.tmp 35)⟩]))))
def c_spec_l3Writes : AS :=
  .seq (.ops [⟨(some 2), none, .mv (.const (.bool false))⟩])
  (.seq (.seq (.ops [⟨(some 5), none, .mv (.tmp 0)⟩,
    ⟨(some 6), none, .lens (.tmp 5)⟩,
    ⟨(some 7), none, .mv (.const (.int .i64 0))⟩])
  (.block 0 (.loop 1 [(0, 0), (5, 0), (6, 0), (7, 0)] c_spec_l3Writes_l1)))
  (.kept [0] (.seq (.ops [⟨(some 36), none, .mv (.tmp 0)⟩,
    ⟨(some 37), none, .lens (.tmp 36)⟩,
    ⟨(some 38), none, .bin .leq (.tmp 37) (.const (.int .i64 24))⟩,
    ⟨(some 2), none, .mv (.tmp 38)⟩])
  (.ret))))
theorem h_spec_l3Writes : (Try.prog.funcs[n_spec_l3Writes]?).bind (fun fn => fn.body.bind (comp Try.prog fn.ntmps)) = some (AS.strip c_spec_l3Writes) := by kernel_rfl
theorem r_spec_l3Writes : (Try.prog.funcs[n_spec_l3Writes]?).map (fun fn => (fn.results.toList, fn.ntmps)) = some ([.tmp 2], 39) := by kernel_rfl
-- 78 slices.ContainsFunc[[]loop.example/g00850/impl.Got,loop.example/g00850/impl.Got]
abbrev n_slices_ContainsFunc___impl_Got_impl_Got_ : Nat := 78
def c_slices_ContainsFunc___impl_Got_impl_Got_ : AS :=
  .seq (.ops [⟨(some 4), none, .mv (.const (.bool false))⟩])
  (.seq (.ops [⟨(some 5), none, .mv (.tmp 0)⟩,
    ⟨(some 6), none, .mv (.tmp 1)⟩,
    ⟨(some 7), none, .call 104 [(.tmp 5), (.tmp 6)]⟩,
    ⟨(some 8), none, .bin .geq (.tmp 7) (.const (.int .i64 0))⟩,
    ⟨(some 4), none, .mv (.tmp 8)⟩])
  (.ret))
theorem h_slices_ContainsFunc___impl_Got_impl_Got_ : (Try.prog.funcs[n_slices_ContainsFunc___impl_Got_impl_Got_]?).bind (fun fn => fn.body.bind (comp Try.prog fn.ntmps)) = some (AS.strip c_slices_ContainsFunc___impl_Got_impl_Got_) := by kernel_rfl
theorem r_slices_ContainsFunc___impl_Got_impl_Got_ : (Try.prog.funcs[n_slices_ContainsFunc___impl_Got_impl_Got_]?).map (fun fn => (fn.results.toList, fn.ntmps)) = some ([.tmp 4], 9) := by kernel_rfl
-- 87 loop.example/g00850/impl.ahead
abbrev n_impl_ahead : Nat := 87
def c_impl_ahead : AS :=
  .seq (.ops [⟨(some 2), none, .box (.tmp 0)⟩,
    ⟨(some 3), none, .box (.tmp 1)⟩,
    ⟨(some 4), none, .mv (.const (.bool false))⟩])
  (.seq (.ops [⟨(some 5), none, .fa 2 (.tmp 2)⟩,
    ⟨(some 6), none, .load none (.tmp 5)⟩,
    ⟨(some 7), none, .bin .neq (.tmp 6) (.const (.int .i64 (-1)))⟩,
    ⟨(some 8), none, .mv (.tmp 7)⟩,
    ⟨(some 9), some (8, true), .fa 2 (.tmp 2)⟩,
    ⟨(some 10), some (8, true), .load none (.tmp 9)⟩,
    ⟨(some 11), some (8, true), .fa 1 (.tmp 3)⟩,
    ⟨(some 12), some (8, true), .load none (.tmp 11)⟩,
    ⟨(some 13), some (8, true), .bin .lss (.tmp 10) (.tmp 12)⟩,
    ⟨(some 14), none, .pick (.tmp 8) (.tmp 13) (.const (.bool false))⟩,
    ⟨(some 4), none, .mv (.tmp 14)⟩])
  (.ret))
theorem h_impl_ahead : (Try.prog.funcs[n_impl_ahead]?).bind (fun fn => fn.body.bind (comp Try.prog fn.ntmps)) = some (AS.strip c_impl_ahead) := by kernel_rfl
theorem r_impl_ahead : (Try.prog.funcs[n_impl_ahead]?).map (fun fn => (fn.results.toList, fn.ntmps)) = some ([.tmp 4], 15) := by kernel_rfl
-- 88 loop.example/g00850/laws.szGot
abbrev n_laws_szGot : Nat := 88
def c_laws_szGot : AS :=
  .seq (.ops [⟨(some 2), none, .box (.tmp 0)⟩,
    ⟨(some 4), none, .mv (.const (.int .i64 0))⟩])
  (.seq (.ops [⟨(some 5), none, .mv (.tmp 1)⟩,
    ⟨(some 6), none, .fa 0 (.tmp 2)⟩,
    ⟨(some 7), none, .load none (.tmp 6)⟩,
    ⟨(some 8), none, .lent (.tmp 7)⟩,
    ⟨(some 9), none, .bin .sub (.tmp 5) (.tmp 8)⟩,
    ⟨(some 1), none, .mv (.tmp 9)⟩])
  (.seq (.seq (.ops [⟨(some 10), none, .mv (.tmp 1)⟩,
    ⟨(some 11), none, .bin .lss (.tmp 10) (.const (.int .i64 0))⟩])
  (.cond (.tmp 11) (.seq (.ops [⟨(some 4), none, .mv (.const (.int .i64 (-1)))⟩])
  (.ret)) (.skip)))
  (.seq (.ops [⟨(some 12), none, .mv (.tmp 1)⟩,
    ⟨(some 13), none, .fa 1 (.tmp 2)⟩,
    ⟨(some 14), none, .load none (.tmp 13)⟩,
    ⟨(some 15), none, .lent (.tmp 14)⟩,
    ⟨(some 16), none, .bin .sub (.tmp 12) (.tmp 15)⟩,
    ⟨(some 1), none, .mv (.tmp 16)⟩])
  (.seq (.seq (.ops [⟨(some 17), none, .mv (.tmp 1)⟩,
    ⟨(some 18), none, .bin .lss (.tmp 17) (.const (.int .i64 0))⟩])
  (.cond (.tmp 18) (.seq (.ops [⟨(some 4), none, .mv (.const (.int .i64 (-1)))⟩])
  (.ret)) (.skip)))
  (.seq (.ops [⟨(some 19), none, .mv (.tmp 1)⟩,
    ⟨(some 4), none, .mv (.tmp 19)⟩])
  (.ret))))))
theorem h_laws_szGot : (Try.prog.funcs[n_laws_szGot]?).bind (fun fn => fn.body.bind (comp Try.prog fn.ntmps)) = some (AS.strip c_laws_szGot) := by kernel_rfl
theorem r_laws_szGot : (Try.prog.funcs[n_laws_szGot]?).map (fun fn => (fn.results.toList, fn.ntmps)) = some ([.tmp 4], 20) := by kernel_rfl
-- 89 loop.example/g00850/laws.szWrite
abbrev n_laws_szWrite : Nat := 89
def c_laws_szWrite : AS :=
  .seq (.ops [⟨(some 2), none, .box (.tmp 0)⟩,
    ⟨(some 4), none, .mv (.const (.int .i64 0))⟩])
  (.seq (.ops [⟨(some 5), none, .mv (.tmp 1)⟩,
    ⟨(some 6), none, .fa 0 (.tmp 2)⟩,
    ⟨(some 7), none, .load none (.tmp 6)⟩,
    ⟨(some 8), none, .lent (.tmp 7)⟩,
    ⟨(some 9), none, .bin .sub (.tmp 5) (.tmp 8)⟩,
    ⟨(some 1), none, .mv (.tmp 9)⟩])
  (.seq (.seq (.ops [⟨(some 10), none, .mv (.tmp 1)⟩,
    ⟨(some 11), none, .bin .lss (.tmp 10) (.const (.int .i64 0))⟩])
  (.cond (.tmp 11) (.seq (.ops [⟨(some 4), none, .mv (.const (.int .i64 (-1)))⟩])
  (.ret)) (.skip)))
  (.seq (.ops [⟨(some 12), none, .mv (.tmp 1)⟩,
    ⟨(some 13), none, .fa 1 (.tmp 2)⟩,
    ⟨(some 14), none, .load none (.tmp 13)⟩,
    ⟨(some 15), none, .lent (.tmp 14)⟩,
    ⟨(some 16), none, .bin .sub (.tmp 12) (.tmp 15)⟩,
    ⟨(some 1), none, .mv (.tmp 16)⟩])
  (.seq (.seq (.ops [⟨(some 17), none, .mv (.tmp 1)⟩,
    ⟨(some 18), none, .bin .lss (.tmp 17) (.const (.int .i64 0))⟩])
  (.cond (.tmp 18) (.seq (.ops [⟨(some 4), none, .mv (.const (.int .i64 (-1)))⟩])
  (.ret)) (.skip)))
  (.seq (.ops [⟨(some 19), none, .mv (.tmp 1)⟩,
    ⟨(some 4), none, .mv (.tmp 19)⟩])
  (.ret))))))
theorem h_laws_szWrite : (Try.prog.funcs[n_laws_szWrite]?).bind (fun fn => fn.body.bind (comp Try.prog fn.ntmps)) = some (AS.strip c_laws_szWrite) := by kernel_rfl
theorem r_laws_szWrite : (Try.prog.funcs[n_laws_szWrite]?).map (fun fn => (fn.results.toList, fn.ntmps)) = some ([.tmp 4], 20) := by kernel_rfl
-- 90 loop.example/g00850/spec.l2True
abbrev n_spec_l2True : Nat := 90
def c_spec_l2True : AS :=
  .seq (.ops [⟨(some 2), none, .mv (.const (.bool false))⟩])
  (.seq (.ops [⟨(some 3), none, .mv (.tmp 0)⟩,
    ⟨(some 4), none, .call 34 [(.tmp 3), (.const (.int .i64 0)), (.const (.int .i64 100000))]⟩,
    ⟨(some 2), none, .mv (.tmp 4)⟩])
  (.ret))
theorem h_spec_l2True : (Try.prog.funcs[n_spec_l2True]?).bind (fun fn => fn.body.bind (comp Try.prog fn.ntmps)) = some (AS.strip c_spec_l2True) := by kernel_rfl
theorem r_spec_l2True : (Try.prog.funcs[n_spec_l2True]?).map (fun fn => (fn.results.toList, fn.ntmps)) = some ([.tmp 2], 5) := by kernel_rfl
-- 91 loop.example/g00850/spec.l5Gots
abbrev n_spec_l5Gots : Nat := 91
def c_spec_l5Gots_l1 : AS :=
  .seq (.ops [⟨(some 39), none, .bin .lss (.tmp 38) (.tmp 37)⟩])
  (.seq (.cond (.tmp 39) (.skip) (.exit 2))
  (.seq (.block 3 (.seq (.ops [⟨(some 40), none, .ia 3 (.tmp 36) (.tmp 38)⟩,
    ⟨(some 41), none, .load (some 3) (.tmp 40)⟩,
    ⟨(some 6), none, .alloc (.agg #[.string ⟨⟨[]⟩⟩, .string ⟨⟨[]⟩⟩, .bool false])⟩,
    ⟨none, none, .store 3 (.tmp 6) (.tmp 41)⟩])
  (.seq (.ops [⟨(some 42), none, .fa 0 (.tmp 4)⟩,
    ⟨(some 43), none, .load none (.tmp 42)⟩,
    ⟨(some 44), none, .fa 0 (.tmp 6)⟩,
    ⟨(some 45), none, .load none (.tmp 44)⟩,
    ⟨(some 46), none, .bin .eql (.tmp 43) (.tmp 45)⟩])
  (.cond (.tmp 46) (.seq (.ops [⟨(some 2), none, .mv (.const (.bool false))⟩])
  (.ret)) (.skip)))))
  (.kept [0, 4, 7, 8, 9, 36, 37, 38] (.ops [⟨(some 47), none, .bin .add (.tmp 38) (.const (.int .i64 1))⟩,
    ⟨(some 38), none, .mv (.tmp 47)⟩]))))
def c_spec_l5Gots_l2 : AS :=
  .seq (.ops [⟨(some 10), none, .bin .lss (.tmp 9) (.tmp 8)⟩])
  (.seq (.cond (.tmp 10) (.skip) (.exit 0))
  (.seq (.block 1 (.seq (.ops [⟨(some 11), none, .mv (.tmp 9)⟩,
    ⟨(some 12), none, .ia 3 (.tmp 7) (.tmp 9)⟩,
    ⟨(some 13), none, .load (some 3) (.tmp 12)⟩,
    ⟨(some 4), none, .alloc (.agg #[.string ⟨⟨[]⟩⟩, .string ⟨⟨[]⟩⟩, .bool false])⟩,
    ⟨(some 3), none, .mv (.tmp 11)⟩,
    ⟨none, none, .store 3 (.tmp 4) (.tmp 13)⟩])
  (.seq (.seq (.ops [⟨(some 14), none, .fa 0 (.tmp 4)⟩,
    ⟨(some 15), none, .load none (.tmp 14)⟩,
    ⟨(some 16), none, .call 107 [(.tmp 15)]⟩,
    ⟨(some 17), none, .not (.tmp 16)⟩,
    ⟨(some 18), none, .mv (.tmp 17)⟩,
    ⟨(some 19), some (18, false), .fa 1 (.tmp 4)⟩,
    ⟨(some 20), some (18, false), .load none (.tmp 19)⟩,
    ⟨(some 21), some (18, false), .call 108 [(.tmp 20)]⟩,
    ⟨(some 22), some (18, false), .not (.tmp 21)⟩,
    ⟨(some 23), none, .pick (.tmp 18) (.const (.bool true)) (.tmp 22)⟩,
    ⟨(some 24), none, .mv (.tmp 23)⟩,
    ⟨(some 25), some (24, false), .fa 2 (.tmp 4)⟩,
    ⟨(some 26), some (24, false), .load none (.tmp 25)⟩,
    ⟨(some 27), some (24, false), .not (.tmp 26)⟩,
    ⟨(some 28), some (24, false), .mv (.tmp 27)⟩,
    ⟨(some 29), some (28, true), .fa 1 (.tmp 4)⟩,
    ⟨(some 30), some (28, true), .load none (.tmp 29)⟩,
    ⟨(some 31), some (28, true), .bin .neq (.tmp 30) (.const (.string ⟨⟨[]⟩⟩))⟩,
    ⟨(some 32), some (24, false), .pick (.tmp 28) (.tmp 31) (.const (.bool false))⟩,
    ⟨(some 33), none, .pick (.tmp 24) (.const (.bool true)) (.tmp 32)⟩])
  (.kept [0, 3, 4, 7, 8, 9, 33] (.cond (.tmp 33) (.seq (.ops [⟨(some 2), none, .mv (.const (.bool false))⟩])
  (.ret)) (.skip))))
  (.kept [0, 3, 4, 7, 8, 9] (.seq (.ops [⟨(some 34), none, .mv (.tmp 0)⟩,
    ⟨(some 35), none, .mv (.tmp 3)⟩,
    ⟨(some 36), none, .sls 3 (.tmp 34) none (some (.tmp 35)) none⟩,
    ⟨(some 37), none, .lens (.tmp 36)⟩,
    ⟨(some 38), none, .mv (.const (.int .i64 0))⟩])
  (.block 2 (.loop 1 [(0, 0), (4, 0), (7, 0), (8, 0), (9, 0), (36, 0), (37, 0), (38, 0)] c_spec_l5Gots_l1)))))))
  (.kept [0, 7, 8, 9] (.ops [⟨(some 48), none, .bin .add (.tmp 9) (.const (.int .i64 1))⟩,
    ⟨(some 9), none, .mv (.tmp 48)⟩]))))
def c_spec_l5Gots : AS :=
  .seq (.ops [⟨(some 2), none, .mv (.const (.bool false))⟩])
  (.seq (.seq (.ops [⟨(some 7), none, .mv (.tmp 0)⟩,
    ⟨(some 8), none, .lens (.tmp 7)⟩,
    ⟨(some 9), none, .mv (.const (.int .i64 0))⟩])
  (.block 0 (.loop 1 [(0, 0), (7, 0), (8, 0), (9, 0)] c_spec_l5Gots_l2)))
  (.kept [0] (.seq (.ops [⟨(some 49), none, .mv (.tmp 0)⟩,
    ⟨(some 50), none, .lens (.tmp 49)⟩,
    ⟨(some 51), none, .bin .leq (.tmp 50) (.const (.int .i64 8))⟩,
    ⟨(some 2), none, .mv (.tmp 51)⟩])
  (.ret))))
theorem h_spec_l5Gots : (Try.prog.funcs[n_spec_l5Gots]?).bind (fun fn => fn.body.bind (comp Try.prog fn.ntmps)) = some (AS.strip c_spec_l5Gots) := by kernel_rfl
theorem r_spec_l5Gots : (Try.prog.funcs[n_spec_l5Gots]?).map (fun fn => (fn.results.toList, fn.ntmps)) = some ([.tmp 2], 52) := by kernel_rfl
-- 92 loop.example/g00850/laws.toGot
abbrev n_laws_toGot : Nat := 92
def c_laws_toGot : AS :=
  .seq (.ops [⟨(some 1), none, .box (.tmp 0)⟩,
    ⟨(some 2), none, .alloc (.agg #[.string ⟨⟨[]⟩⟩, .string ⟨⟨[]⟩⟩, .bool false])⟩])
  (.seq (.ops [⟨(some 3), none, .alloc (.agg #[.string ⟨⟨[]⟩⟩, .string ⟨⟨[]⟩⟩, .bool false])⟩])
  (.seq (.ops [⟨(some 4), none, .fa 0 (.tmp 1)⟩,
    ⟨(some 5), none, .load none (.tmp 4)⟩,
    ⟨(some 6), none, .fa 0 (.tmp 3)⟩,
    ⟨none, none, .store 1 (.tmp 6) (.tmp 5)⟩])
  (.seq (.ops [⟨(some 7), none, .fa 1 (.tmp 1)⟩,
    ⟨(some 8), none, .load none (.tmp 7)⟩,
    ⟨(some 9), none, .fa 1 (.tmp 3)⟩,
    ⟨none, none, .store 1 (.tmp 9) (.tmp 8)⟩])
  (.seq (.ops [⟨(some 10), none, .fa 2 (.tmp 1)⟩,
    ⟨(some 11), none, .load none (.tmp 10)⟩,
    ⟨(some 12), none, .fa 2 (.tmp 3)⟩,
    ⟨none, none, .store 1 (.tmp 12) (.tmp 11)⟩])
  (.seq (.ops [⟨(some 13), none, .load (some 3) (.tmp 3)⟩,
    ⟨none, none, .store 3 (.tmp 2) (.tmp 13)⟩])
  (.ret))))))
theorem h_laws_toGot : (Try.prog.funcs[n_laws_toGot]?).bind (fun fn => fn.body.bind (comp Try.prog fn.ntmps)) = some (AS.strip c_laws_toGot) := by kernel_rfl
theorem r_laws_toGot : (Try.prog.funcs[n_laws_toGot]?).map (fun fn => (fn.results.toList, fn.ntmps)) = some ([.cell 2 60], 14) := by kernel_rfl
-- 93 loop.example/g00850/laws.toWrite
abbrev n_laws_toWrite : Nat := 93
def c_laws_toWrite : AS :=
  .seq (.ops [⟨(some 1), none, .box (.tmp 0)⟩,
    ⟨(some 2), none, .alloc (.agg #[.string ⟨⟨[]⟩⟩, .string ⟨⟨[]⟩⟩, .bool false])⟩])
  (.seq (.ops [⟨(some 3), none, .alloc (.agg #[.string ⟨⟨[]⟩⟩, .string ⟨⟨[]⟩⟩, .bool false])⟩])
  (.seq (.ops [⟨(some 4), none, .fa 0 (.tmp 1)⟩,
    ⟨(some 5), none, .load none (.tmp 4)⟩,
    ⟨(some 6), none, .fa 0 (.tmp 3)⟩,
    ⟨none, none, .store 1 (.tmp 6) (.tmp 5)⟩])
  (.seq (.ops [⟨(some 7), none, .fa 1 (.tmp 1)⟩,
    ⟨(some 8), none, .load none (.tmp 7)⟩,
    ⟨(some 9), none, .fa 1 (.tmp 3)⟩,
    ⟨none, none, .store 1 (.tmp 9) (.tmp 8)⟩])
  (.seq (.ops [⟨(some 10), none, .fa 2 (.tmp 1)⟩,
    ⟨(some 11), none, .load none (.tmp 10)⟩,
    ⟨(some 12), none, .fa 2 (.tmp 3)⟩,
    ⟨none, none, .store 1 (.tmp 12) (.tmp 11)⟩])
  (.seq (.ops [⟨(some 13), none, .load (some 3) (.tmp 3)⟩,
    ⟨none, none, .store 3 (.tmp 2) (.tmp 13)⟩])
  (.ret))))))
theorem h_laws_toWrite : (Try.prog.funcs[n_laws_toWrite]?).bind (fun fn => fn.body.bind (comp Try.prog fn.ntmps)) = some (AS.strip c_laws_toWrite) := by kernel_rfl
theorem r_laws_toWrite : (Try.prog.funcs[n_laws_toWrite]?).map (fun fn => (fn.results.toList, fn.ntmps)) = some ([.cell 2 72], 14) := by kernel_rfl
-- 94 slices.IndexFunc[[]loop.example/g00850/impl.Deed,loop.example/g00850/impl.Deed]
abbrev n_slices_IndexFunc___impl_Deed_impl_Deed_ : Nat := 94
def c_slices_IndexFunc___impl_Deed_impl_Deed__l1 : AS :=
  .seq (.ops [⟨(some 9), none, .bin .lss (.tmp 8) (.tmp 7)⟩])
  (.seq (.cond (.tmp 9) (.skip) (.exit 0))
  (.seq (.block 1 (.seq (.ops [⟨(some 10), none, .mv (.tmp 8)⟩,
    ⟨(some 5), none, .mv (.tmp 10)⟩])
  (.seq (.post [(14, 1, [(6, 3), (7, 3)])] (.ops [⟨(some 11), none, .mv (.tmp 1)⟩,
    ⟨(some 12), none, .mv (.tmp 0)⟩,
    ⟨(some 13), none, .mv (.tmp 5)⟩,
    ⟨(some 14), none, .ia 8 (.tmp 12) (.tmp 13)⟩,
    ⟨(some 15), none, .load (some 8) (.tmp 14)⟩,
    ⟨(some 16), none, .callv (.tmp 11) [(.tmp 15)]⟩]))
  (.cond (.tmp 16) (.seq (.ops [⟨(some 17), none, .mv (.tmp 5)⟩,
    ⟨(some 4), none, .mv (.tmp 17)⟩])
  (.ret)) (.skip)))))
  (.kept [0, 1, 7, 8] (.ops [⟨(some 18), none, .bin .add (.tmp 8) (.const (.int .i64 1))⟩,
    ⟨(some 8), none, .mv (.tmp 18)⟩]))))
def c_slices_IndexFunc___impl_Deed_impl_Deed_ : AS :=
  .seq (.ops [⟨(some 4), none, .mv (.const (.int .i64 0))⟩])
  (.seq (.seq (.ops [⟨(some 6), none, .mv (.tmp 0)⟩,
    ⟨(some 7), none, .lens (.tmp 6)⟩,
    ⟨(some 8), none, .mv (.const (.int .i64 0))⟩])
  (.block 0 (.loop 2 [(0, 0), (1, 0), (7, 0), (8, 0)] c_slices_IndexFunc___impl_Deed_impl_Deed__l1)))
  (.kept [] (.seq (.ops [⟨(some 4), none, .mv (.const (.int .i64 (-1)))⟩])
  (.ret))))
theorem h_slices_IndexFunc___impl_Deed_impl_Deed_ : (Try.prog.funcs[n_slices_IndexFunc___impl_Deed_impl_Deed_]?).bind (fun fn => fn.body.bind (comp Try.prog fn.ntmps)) = some (AS.strip c_slices_IndexFunc___impl_Deed_impl_Deed_) := by kernel_rfl
theorem r_slices_IndexFunc___impl_Deed_impl_Deed_ : (Try.prog.funcs[n_slices_IndexFunc___impl_Deed_impl_Deed_]?).map (fun fn => (fn.results.toList, fn.ntmps)) = some ([.tmp 4], 19) := by kernel_rfl
-- 95 loop.example/g00850/impl.isTxn
abbrev n_impl_isTxn : Nat := 95
def c_impl_isTxn : AS :=
  .seq (.ops [⟨(some 2), none, .mv (.const (.bool false))⟩])
  (.seq (.ops [⟨(some 3), none, .mv (.tmp 0)⟩,
    ⟨(some 4), none, .call 36 [(.tmp 3), (.const (.int .i64 1)), (.const (.int .i64 60))]⟩,
    ⟨(some 2), none, .mv (.tmp 4)⟩])
  (.ret))
theorem h_impl_isTxn : (Try.prog.funcs[n_impl_isTxn]?).bind (fun fn => fn.body.bind (comp Try.prog fn.ntmps)) = some (AS.strip c_impl_isTxn) := by kernel_rfl
theorem r_impl_isTxn : (Try.prog.funcs[n_impl_isTxn]?).map (fun fn => (fn.results.toList, fn.ntmps)) = some ([.tmp 2], 5) := by kernel_rfl
-- 96 loop.example/g00850/impl.isTrue
abbrev n_impl_isTrue : Nat := 96
def c_impl_isTrue : AS :=
  .seq (.ops [⟨(some 2), none, .mv (.const (.bool false))⟩])
  (.seq (.ops [⟨(some 3), none, .mv (.tmp 0)⟩,
    ⟨(some 4), none, .call 36 [(.tmp 3), (.const (.int .i64 0)), (.const (.int .i64 100000))]⟩,
    ⟨(some 2), none, .mv (.tmp 4)⟩])
  (.ret))
theorem h_impl_isTrue : (Try.prog.funcs[n_impl_isTrue]?).bind (fun fn => fn.body.bind (comp Try.prog fn.ntmps)) = some (AS.strip c_impl_isTrue) := by kernel_rfl
theorem r_impl_isTrue : (Try.prog.funcs[n_impl_isTrue]?).map (fun fn => (fn.results.toList, fn.ntmps)) = some ([.tmp 2], 5) := by kernel_rfl
-- 97 loop.example/g00850/impl.areGot
abbrev n_impl_areGot : Nat := 97
def c_impl_areGot_l1 : AS :=
  .seq (.ops [⟨(some 8), none, .bin .lss (.tmp 7) (.tmp 6)⟩])
  (.seq (.cond (.tmp 8) (.skip) (.exit 0))
  (.seq (.block 1 (.seq (.ops [⟨(some 9), none, .mv (.tmp 7)⟩,
    ⟨(some 10), none, .ia 3 (.tmp 5) (.tmp 7)⟩,
    ⟨(some 11), none, .load (some 3) (.tmp 10)⟩,
    ⟨(some 4), none, .alloc (.agg #[.string ⟨⟨[]⟩⟩, .string ⟨⟨[]⟩⟩, .bool false])⟩,
    ⟨(some 3), none, .mv (.tmp 9)⟩,
    ⟨none, none, .store 3 (.tmp 4) (.tmp 11)⟩])
  (.seq (.ops [⟨(some 12), none, .fa 0 (.tmp 4)⟩,
    ⟨(some 13), none, .load none (.tmp 12)⟩,
    ⟨(some 14), none, .call 109 [(.tmp 13)]⟩,
    ⟨(some 15), none, .not (.tmp 14)⟩,
    ⟨(some 16), none, .mv (.tmp 15)⟩,
    ⟨(some 17), some (16, false), .fa 1 (.tmp 4)⟩,
    ⟨(some 18), some (16, false), .load none (.tmp 17)⟩,
    ⟨(some 19), some (16, false), .fa 2 (.tmp 4)⟩,
    ⟨(some 20), some (16, false), .load none (.tmp 19)⟩,
    ⟨(some 21), some (16, false), .not (.tmp 20)⟩,
    ⟨(some 22), some (16, false), .call 110 [(.tmp 18), (.tmp 21)]⟩,
    ⟨(some 23), some (16, false), .not (.tmp 22)⟩,
    ⟨(some 24), none, .pick (.tmp 16) (.const (.bool true)) (.tmp 23)⟩,
    ⟨(some 25), none, .mv (.tmp 24)⟩,
    ⟨(some 26), some (25, false), .mv (.tmp 0)⟩,
    ⟨(some 27), some (25, false), .mv (.tmp 3)⟩,
    ⟨(some 28), some (25, false), .sls 3 (.tmp 26) none (some (.tmp 27)) none⟩,
    ⟨(some 29), some (25, false), .mkf 111 [(.tmp 4)]⟩,
    ⟨(some 30), some (25, false), .call 78 [(.tmp 28), (.tmp 29)]⟩,
    ⟨(some 31), none, .pick (.tmp 25) (.const (.bool true)) (.tmp 30)⟩])
  (.kept [0, 5, 6, 7, 31] (.cond (.tmp 31) (.seq (.ops [⟨(some 2), none, .mv (.const (.bool false))⟩])
  (.ret)) (.skip))))))
  (.kept [0, 5, 6, 7] (.ops [⟨(some 32), none, .bin .add (.tmp 7) (.const (.int .i64 1))⟩,
    ⟨(some 7), none, .mv (.tmp 32)⟩]))))
def c_impl_areGot : AS :=
  .seq (.ops [⟨(some 2), none, .mv (.const (.bool false))⟩])
  (.seq (.seq (.ops [⟨(some 5), none, .mv (.tmp 0)⟩,
    ⟨(some 6), none, .lens (.tmp 5)⟩,
    ⟨(some 7), none, .mv (.const (.int .i64 0))⟩])
  (.block 0 (.loop 1 [(0, 0), (5, 0), (6, 0), (7, 0)] c_impl_areGot_l1)))
  (.kept [0] (.seq (.ops [⟨(some 33), none, .mv (.tmp 0)⟩,
    ⟨(some 34), none, .lens (.tmp 33)⟩,
    ⟨(some 35), none, .bin .leq (.tmp 34) (.const (.int .i64 8))⟩,
    ⟨(some 2), none, .mv (.tmp 35)⟩])
  (.ret))))
theorem h_impl_areGot : (Try.prog.funcs[n_impl_areGot]?).bind (fun fn => fn.body.bind (comp Try.prog fn.ntmps)) = some (AS.strip c_impl_areGot) := by kernel_rfl
theorem r_impl_areGot : (Try.prog.funcs[n_impl_areGot]?).map (fun fn => (fn.results.toList, fn.ntmps)) = some ([.tmp 2], 36) := by kernel_rfl
-- 98 loop.example/g00850/impl.GoodWrites
abbrev n_impl_GoodWrites : Nat := 98
def c_impl_GoodWrites : AS :=
  .seq (.ops [⟨(some 2), none, .mv (.const (.bool false))⟩])
  (.seq (.ops [⟨(some 3), none, .mv (.tmp 0)⟩,
    ⟨(some 4), none, .lens (.tmp 3)⟩,
    ⟨(some 5), none, .bin .leq (.tmp 4) (.const (.int .i64 24))⟩,
    ⟨(some 6), none, .mv (.tmp 5)⟩,
    ⟨(some 7), some (6, true), .mv (.tmp 0)⟩,
    ⟨(some 8), some (6, true), .call 113 [(.tmp 7)]⟩,
    ⟨(some 9), some (6, true), .call 112 [(.tmp 8)]⟩,
    ⟨(some 10), none, .pick (.tmp 6) (.tmp 9) (.const (.bool false))⟩,
    ⟨(some 11), none, .mv (.tmp 10)⟩,
    ⟨(some 12), some (11, true), .mv (.tmp 0)⟩,
    ⟨(some 13), some (11, true), .call 114 [(.tmp 12), (.func 115)]⟩,
    ⟨(some 14), some (11, true), .not (.tmp 13)⟩,
    ⟨(some 15), none, .pick (.tmp 11) (.tmp 14) (.const (.bool false))⟩,
    ⟨(some 2), none, .mv (.tmp 15)⟩])
  (.ret))
theorem h_impl_GoodWrites : (Try.prog.funcs[n_impl_GoodWrites]?).bind (fun fn => fn.body.bind (comp Try.prog fn.ntmps)) = some (AS.strip c_impl_GoodWrites) := by kernel_rfl
theorem r_impl_GoodWrites : (Try.prog.funcs[n_impl_GoodWrites]?).map (fun fn => (fn.results.toList, fn.ntmps)) = some ([.tmp 2], 16) := by kernel_rfl
-- 99 slices.stableCmpFunc[int]
abbrev n_slices_stableCmpFunc_int_ : Nat := 99
def c_slices_stableCmpFunc_int__l1 : AS :=
  .seq (.seq (.ops [⟨(some 11), none, .mv (.tmp 8)⟩,
    ⟨(some 12), none, .mv (.tmp 1)⟩,
    ⟨(some 13), none, .bin .leq (.tmp 11) (.tmp 12)⟩])
  (.cond (.tmp 13) (.skip) (.exit 0)))
  (.block 1 (.seq (.ops [⟨(some 14), none, .mv (.tmp 0)⟩,
    ⟨(some 15), none, .mv (.tmp 7)⟩,
    ⟨(some 16), none, .mv (.tmp 8)⟩,
    ⟨(some 17), none, .mv (.tmp 2)⟩,
    ⟨(some 18), none, .call 116 [(.tmp 14), (.tmp 15), (.tmp 16), (.tmp 17)]⟩])
  (.seq (.ops [⟨(some 19), none, .mv (.tmp 8)⟩,
    ⟨(some 7), none, .mv (.tmp 19)⟩])
  (.ops [⟨(some 20), none, .mv (.tmp 8)⟩,
    ⟨(some 21), none, .mv (.tmp 6)⟩,
    ⟨(some 22), none, .bin .add (.tmp 20) (.tmp 21)⟩,
    ⟨(some 8), none, .mv (.tmp 22)⟩]))))
def c_slices_stableCmpFunc_int__l2 : AS :=
  .seq (.seq (.ops [⟨(some 33), none, .mv (.tmp 8)⟩,
    ⟨(some 34), none, .mv (.tmp 1)⟩,
    ⟨(some 35), none, .bin .leq (.tmp 33) (.tmp 34)⟩])
  (.cond (.tmp 35) (.skip) (.exit 4)))
  (.block 5 (.seq (.ops [⟨(some 36), none, .mv (.tmp 0)⟩,
    ⟨(some 37), none, .mv (.tmp 7)⟩,
    ⟨(some 38), none, .mv (.tmp 7)⟩,
    ⟨(some 39), none, .mv (.tmp 6)⟩,
    ⟨(some 40), none, .bin .add (.tmp 38) (.tmp 39)⟩,
    ⟨(some 41), none, .mv (.tmp 8)⟩,
    ⟨(some 42), none, .mv (.tmp 2)⟩,
    ⟨(some 43), none, .call 117 [(.tmp 36), (.tmp 37), (.tmp 40), (.tmp 41), (.tmp 42)]⟩])
  (.kept [0, 1, 2, 6, 8] (.seq (.ops [⟨(some 44), none, .mv (.tmp 8)⟩,
    ⟨(some 7), none, .mv (.tmp 44)⟩])
  (.ops [⟨(some 45), none, .mv (.tmp 8)⟩,
    ⟨(some 46), none, .mv (.tmp 6)⟩,
    ⟨(some 47), none, .bin .mul (.const (.int .i64 2)) (.tmp 46)⟩,
    ⟨(some 48), none, .bin .add (.tmp 45) (.tmp 47)⟩,
    ⟨(some 8), none, .mv (.tmp 48)⟩])))))
def c_slices_stableCmpFunc_int__l3 : AS :=
  .seq (.seq (.ops [⟨(some 28), none, .mv (.tmp 6)⟩,
    ⟨(some 29), none, .mv (.tmp 1)⟩,
    ⟨(some 30), none, .bin .lss (.tmp 28) (.tmp 29)⟩])
  (.cond (.tmp 30) (.skip) (.exit 2)))
  (.block 3 (.seq (.ops [⟨(some 31), none, .mv (.tmp 6)⟩,
    ⟨(some 32), none, .bin .mul (.const (.int .i64 2)) (.tmp 31)⟩,
    ⟨(some 7), none, .mv (.const (.int .i64 0))⟩,
    ⟨(some 8), none, .mv (.tmp 32)⟩])
  (.seq (.block 4 (.loop 3 [(0, 0), (1, 0), (2, 0), (6, 0), (7, 0), (8, 0)] c_slices_stableCmpFunc_int__l2))
  (.kept [0, 1, 2, 6, 7] (.seq (.seq (.ops [⟨(some 49), none, .mv (.tmp 7)⟩,
    ⟨(some 50), none, .mv (.tmp 6)⟩,
    ⟨(some 51), none, .bin .add (.tmp 49) (.tmp 50)⟩,
    ⟨(some 9), none, .mv (.tmp 51)⟩])
  (.seq (.ops [⟨(some 52), none, .mv (.tmp 9)⟩,
    ⟨(some 53), none, .mv (.tmp 1)⟩,
    ⟨(some 54), none, .bin .lss (.tmp 52) (.tmp 53)⟩])
  (.cond (.tmp 54) (.ops [⟨(some 55), none, .mv (.tmp 0)⟩,
    ⟨(some 56), none, .mv (.tmp 7)⟩,
    ⟨(some 57), none, .mv (.tmp 9)⟩,
    ⟨(some 58), none, .mv (.tmp 1)⟩,
    ⟨(some 59), none, .mv (.tmp 2)⟩,
    ⟨(some 60), none, .call 117 [(.tmp 55), (.tmp 56), (.tmp 57), (.tmp 58), (.tmp 59)]⟩]) (.skip))))
  (.kept [0, 1, 2, 6] (.ops [⟨(some 61), none, .mv (.tmp 6)⟩,
    ⟨(some 62), none, .bin .mul (.tmp 61) (.const (.int .i64 2))⟩,
    ⟨(some 6), none, .mv (.tmp 62)⟩])))))))
def c_slices_stableCmpFunc_int_ : AS :=
  .seq (.ops [⟨(some 6), none, .mv (.const (.int .i64 20))⟩])
  (.seq (.ops [⟨(some 10), none, .mv (.tmp 6)⟩,
    ⟨(some 7), none, .mv (.const (.int .i64 0))⟩,
    ⟨(some 8), none, .mv (.tmp 10)⟩])
  (.seq (.block 0 (.loop 3 [(0, 0), (1, 0), (2, 0), (6, 0), (7, 0), (8, 0)] c_slices_stableCmpFunc_int__l1))
  (.kept [0, 1, 2, 6, 7] (.seq (.ops [⟨(some 23), none, .mv (.tmp 0)⟩,
    ⟨(some 24), none, .mv (.tmp 7)⟩,
    ⟨(some 25), none, .mv (.tmp 1)⟩,
    ⟨(some 26), none, .mv (.tmp 2)⟩,
    ⟨(some 27), none, .call 116 [(.tmp 23), (.tmp 24), (.tmp 25), (.tmp 26)]⟩])
  (.block 2 (.loop 3 [(0, 0), (1, 0), (2, 0), (6, 0)] c_slices_stableCmpFunc_int__l3))))))
theorem h_slices_stableCmpFunc_int_ : (Try.prog.funcs[n_slices_stableCmpFunc_int_]?).bind (fun fn => fn.body.bind (comp Try.prog fn.ntmps)) = some (AS.strip c_slices_stableCmpFunc_int_) := by kernel_rfl
theorem r_slices_stableCmpFunc_int_ : (Try.prog.funcs[n_slices_stableCmpFunc_int_]?).map (fun fn => (fn.results.toList, fn.ntmps)) = some ([], 63) := by kernel_rfl
-- 100 cmp.isNaN[int]
abbrev n_cmp_isNaN_int_ : Nat := 100
def c_cmp_isNaN_int_ : AS :=
  .seq (.ops [⟨(some 2), none, .mv (.const (.bool false))⟩])
  (.seq (.ops [⟨(some 3), none, .mv (.tmp 0)⟩,
    ⟨(some 4), none, .mv (.tmp 0)⟩,
    ⟨(some 5), none, .bin .neq (.tmp 3) (.tmp 4)⟩,
    ⟨(some 2), none, .mv (.tmp 5)⟩])
  (.ret))
theorem h_cmp_isNaN_int_ : (Try.prog.funcs[n_cmp_isNaN_int_]?).bind (fun fn => fn.body.bind (comp Try.prog fn.ntmps)) = some (AS.strip c_cmp_isNaN_int_) := by kernel_rfl
theorem r_cmp_isNaN_int_ : (Try.prog.funcs[n_cmp_isNaN_int_]?).map (fun fn => (fn.results.toList, fn.ntmps)) = some ([.tmp 2], 6) := by kernel_rfl
-- 101 loop.example/g00850/laws.eqGot
abbrev n_laws_eqGot : Nat := 101
def c_laws_eqGot : AS :=
  .seq (.ops [⟨(some 2), none, .box (.tmp 0)⟩,
    ⟨(some 3), none, .box (.tmp 1)⟩,
    ⟨(some 4), none, .mv (.const (.bool false))⟩])
  (.seq (.seq (.ops [⟨(some 5), none, .fa 0 (.tmp 2)⟩,
    ⟨(some 6), none, .load none (.tmp 5)⟩,
    ⟨(some 7), none, .fa 0 (.tmp 3)⟩,
    ⟨(some 8), none, .load none (.tmp 7)⟩,
    ⟨(some 9), none, .bin .neq (.tmp 6) (.tmp 8)⟩])
  (.cond (.tmp 9) (.seq (.ops [⟨(some 4), none, .mv (.const (.bool false))⟩])
  (.ret)) (.skip)))
  (.kept [2, 3] (.seq (.seq (.ops [⟨(some 10), none, .fa 1 (.tmp 2)⟩,
    ⟨(some 11), none, .load none (.tmp 10)⟩,
    ⟨(some 12), none, .fa 1 (.tmp 3)⟩,
    ⟨(some 13), none, .load none (.tmp 12)⟩,
    ⟨(some 14), none, .bin .neq (.tmp 11) (.tmp 13)⟩])
  (.cond (.tmp 14) (.seq (.ops [⟨(some 4), none, .mv (.const (.bool false))⟩])
  (.ret)) (.skip)))
  (.kept [2, 3] (.seq (.seq (.ops [⟨(some 15), none, .fa 2 (.tmp 2)⟩,
    ⟨(some 16), none, .load none (.tmp 15)⟩,
    ⟨(some 17), none, .fa 2 (.tmp 3)⟩,
    ⟨(some 18), none, .load none (.tmp 17)⟩,
    ⟨(some 19), none, .eqb true (.tmp 16) (.tmp 18)⟩])
  (.cond (.tmp 19) (.seq (.ops [⟨(some 4), none, .mv (.const (.bool false))⟩])
  (.ret)) (.skip)))
  (.kept [] (.seq (.ops [⟨(some 4), none, .mv (.const (.bool true))⟩])
  (.ret))))))))
theorem h_laws_eqGot : (Try.prog.funcs[n_laws_eqGot]?).bind (fun fn => fn.body.bind (comp Try.prog fn.ntmps)) = some (AS.strip c_laws_eqGot) := by kernel_rfl
theorem r_laws_eqGot : (Try.prog.funcs[n_laws_eqGot]?).map (fun fn => (fn.results.toList, fn.ntmps)) = some ([.tmp 4], 20) := by kernel_rfl
-- 102 cmp.isNaN[string]
abbrev n_cmp_isNaN_string_ : Nat := 102
def c_cmp_isNaN_string_ : AS :=
  .seq (.ops [⟨(some 2), none, .mv (.const (.bool false))⟩])
  (.seq (.ops [⟨(some 3), none, .mv (.tmp 0)⟩,
    ⟨(some 4), none, .mv (.tmp 0)⟩,
    ⟨(some 5), none, .bin .neq (.tmp 3) (.tmp 4)⟩,
    ⟨(some 2), none, .mv (.tmp 5)⟩])
  (.ret))
theorem h_cmp_isNaN_string_ : (Try.prog.funcs[n_cmp_isNaN_string_]?).bind (fun fn => fn.body.bind (comp Try.prog fn.ntmps)) = some (AS.strip c_cmp_isNaN_string_) := by kernel_rfl
theorem r_cmp_isNaN_string_ : (Try.prog.funcs[n_cmp_isNaN_string_]?).map (fun fn => (fn.results.toList, fn.ntmps)) = some ([.tmp 2], 6) := by kernel_rfl
-- 103 loop.example/g00850/spec.l3Write
abbrev n_spec_l3Write : Nat := 103
def c_spec_l3Write : AS :=
  .seq (.ops [⟨(some 6), none, .mv (.const (.bool false))⟩])
  (.seq (.ops [⟨(some 7), none, .mv (.tmp 0)⟩,
    ⟨(some 8), none, .call 107 [(.tmp 7)]⟩,
    ⟨(some 9), none, .mv (.tmp 8)⟩,
    ⟨(some 10), some (9, true), .mv (.tmp 1)⟩,
    ⟨(some 11), some (9, true), .call 108 [(.tmp 10)]⟩,
    ⟨(some 12), none, .pick (.tmp 9) (.tmp 11) (.const (.bool false))⟩,
    ⟨(some 13), none, .mv (.tmp 12)⟩,
    ⟨(some 14), some (13, true), .mv (.tmp 2)⟩,
    ⟨(some 15), some (13, true), .not (.tmp 14)⟩,
    ⟨(some 16), some (13, true), .mv (.tmp 15)⟩,
    ⟨(some 17), some (16, false), .mv (.tmp 1)⟩,
    ⟨(some 18), some (16, false), .bin .eql (.tmp 17) (.const (.string ⟨⟨[]⟩⟩))⟩,
    ⟨(some 19), some (13, true), .pick (.tmp 16) (.const (.bool true)) (.tmp 18)⟩,
    ⟨(some 20), none, .pick (.tmp 13) (.tmp 19) (.const (.bool false))⟩,
    ⟨(some 6), none, .mv (.tmp 20)⟩])
  (.ret))
theorem h_spec_l3Write : (Try.prog.funcs[n_spec_l3Write]?).bind (fun fn => fn.body.bind (comp Try.prog fn.ntmps)) = some (AS.strip c_spec_l3Write) := by kernel_rfl
theorem r_spec_l3Write : (Try.prog.funcs[n_spec_l3Write]?).map (fun fn => (fn.results.toList, fn.ntmps)) = some ([.tmp 6], 21) := by kernel_rfl
-- 104 slices.IndexFunc[[]loop.example/g00850/impl.Got,loop.example/g00850/impl.Got]
abbrev n_slices_IndexFunc___impl_Got_impl_Got_ : Nat := 104
def c_slices_IndexFunc___impl_Got_impl_Got__l1 : AS :=
  .seq (.ops [⟨(some 9), none, .bin .lss (.tmp 8) (.tmp 7)⟩])
  (.seq (.cond (.tmp 9) (.skip) (.exit 0))
  (.seq (.block 1 (.seq (.ops [⟨(some 10), none, .mv (.tmp 8)⟩,
    ⟨(some 5), none, .mv (.tmp 10)⟩])
  (.seq (.ops [⟨(some 11), none, .mv (.tmp 1)⟩,
    ⟨(some 12), none, .mv (.tmp 0)⟩,
    ⟨(some 13), none, .mv (.tmp 5)⟩,
    ⟨(some 14), none, .ia 3 (.tmp 12) (.tmp 13)⟩,
    ⟨(some 15), none, .load (some 3) (.tmp 14)⟩,
    ⟨(some 16), none, .callv (.tmp 11) [(.tmp 15)]⟩])
  (.cond (.tmp 16) (.seq (.ops [⟨(some 17), none, .mv (.tmp 5)⟩,
    ⟨(some 4), none, .mv (.tmp 17)⟩])
  (.ret)) (.skip)))))
  (.kept [0, 1, 7, 8] (.ops [⟨(some 18), none, .bin .add (.tmp 8) (.const (.int .i64 1))⟩,
    ⟨(some 8), none, .mv (.tmp 18)⟩]))))
def c_slices_IndexFunc___impl_Got_impl_Got_ : AS :=
  .seq (.ops [⟨(some 4), none, .mv (.const (.int .i64 0))⟩])
  (.seq (.seq (.ops [⟨(some 6), none, .mv (.tmp 0)⟩,
    ⟨(some 7), none, .lens (.tmp 6)⟩,
    ⟨(some 8), none, .mv (.const (.int .i64 0))⟩])
  (.block 0 (.loop 2 [(0, 0), (1, 0), (7, 0), (8, 0)] c_slices_IndexFunc___impl_Got_impl_Got__l1)))
  (.kept [] (.seq (.ops [⟨(some 4), none, .mv (.const (.int .i64 (-1)))⟩])
  (.ret))))
theorem h_slices_IndexFunc___impl_Got_impl_Got_ : (Try.prog.funcs[n_slices_IndexFunc___impl_Got_impl_Got_]?).bind (fun fn => fn.body.bind (comp Try.prog fn.ntmps)) = some (AS.strip c_slices_IndexFunc___impl_Got_impl_Got_) := by kernel_rfl
theorem r_slices_IndexFunc___impl_Got_impl_Got_ : (Try.prog.funcs[n_slices_IndexFunc___impl_Got_impl_Got_]?).map (fun fn => (fn.results.toList, fn.ntmps)) = some ([.tmp 4], 19) := by kernel_rfl
-- 106 slices.IndexFunc[[]loop.example/g00850/impl.Write,loop.example/g00850/impl.Write]
abbrev n_slices_IndexFunc___impl_Write_impl_Write_ : Nat := 106
def c_slices_IndexFunc___impl_Write_impl_Write__l1 : AS :=
  .seq (.ops [⟨(some 9), none, .bin .lss (.tmp 8) (.tmp 7)⟩])
  (.seq (.cond (.tmp 9) (.skip) (.exit 0))
  (.seq (.block 1 (.seq (.ops [⟨(some 10), none, .mv (.tmp 8)⟩,
    ⟨(some 5), none, .mv (.tmp 10)⟩])
  (.seq (.ops [⟨(some 11), none, .mv (.tmp 1)⟩,
    ⟨(some 12), none, .mv (.tmp 0)⟩,
    ⟨(some 13), none, .mv (.tmp 5)⟩,
    ⟨(some 14), none, .ia 3 (.tmp 12) (.tmp 13)⟩,
    ⟨(some 15), none, .load (some 3) (.tmp 14)⟩,
    ⟨(some 16), none, .callv (.tmp 11) [(.tmp 15)]⟩])
  (.cond (.tmp 16) (.seq (.ops [⟨(some 17), none, .mv (.tmp 5)⟩,
    ⟨(some 4), none, .mv (.tmp 17)⟩])
  (.ret)) (.skip)))))
  (.kept [0, 1, 7, 8] (.ops [⟨(some 18), none, .bin .add (.tmp 8) (.const (.int .i64 1))⟩,
    ⟨(some 8), none, .mv (.tmp 18)⟩]))))
def c_slices_IndexFunc___impl_Write_impl_Write_ : AS :=
  .seq (.ops [⟨(some 4), none, .mv (.const (.int .i64 0))⟩])
  (.seq (.seq (.ops [⟨(some 6), none, .mv (.tmp 0)⟩,
    ⟨(some 7), none, .lens (.tmp 6)⟩,
    ⟨(some 8), none, .mv (.const (.int .i64 0))⟩])
  (.block 0 (.loop 2 [(0, 0), (1, 0), (7, 0), (8, 0)] c_slices_IndexFunc___impl_Write_impl_Write__l1)))
  (.kept [] (.seq (.ops [⟨(some 4), none, .mv (.const (.int .i64 (-1)))⟩])
  (.ret))))
theorem h_slices_IndexFunc___impl_Write_impl_Write_ : (Try.prog.funcs[n_slices_IndexFunc___impl_Write_impl_Write_]?).bind (fun fn => fn.body.bind (comp Try.prog fn.ntmps)) = some (AS.strip c_slices_IndexFunc___impl_Write_impl_Write_) := by kernel_rfl
theorem r_slices_IndexFunc___impl_Write_impl_Write_ : (Try.prog.funcs[n_slices_IndexFunc___impl_Write_impl_Write_]?).map (fun fn => (fn.results.toList, fn.ntmps)) = some ([.tmp 4], 19) := by kernel_rfl
-- 107 loop.example/g00850/spec.l3Key
abbrev n_spec_l3Key : Nat := 107
def c_spec_l3Key : AS :=
  .seq (.ops [⟨(some 2), none, .mv (.const (.bool false))⟩])
  (.seq (.ops [⟨(some 3), none, .mv (.tmp 0)⟩,
    ⟨(some 4), none, .lent (.tmp 3)⟩,
    ⟨(some 5), none, .call 34 [(.tmp 4), (.const (.int .i64 1)), (.const (.int .i64 12))]⟩,
    ⟨(some 6), none, .mv (.tmp 5)⟩,
    ⟨(some 7), some (6, true), .mv (.tmp 0)⟩,
    ⟨(some 8), some (6, true), .call 120 [(.tmp 7), (.const (.string ⟨⟨[46, 47]⟩⟩))]⟩,
    ⟨(some 9), none, .pick (.tmp 6) (.tmp 8) (.const (.bool false))⟩,
    ⟨(some 2), none, .mv (.tmp 9)⟩])
  (.ret))
theorem h_spec_l3Key : (Try.prog.funcs[n_spec_l3Key]?).bind (fun fn => fn.body.bind (comp Try.prog fn.ntmps)) = some (AS.strip c_spec_l3Key) := by kernel_rfl
theorem r_spec_l3Key : (Try.prog.funcs[n_spec_l3Key]?).map (fun fn => (fn.results.toList, fn.ntmps)) = some ([.tmp 2], 10) := by kernel_rfl
-- 108 loop.example/g00850/spec.l3Val
abbrev n_spec_l3Val : Nat := 108
def c_spec_l3Val : AS :=
  .seq (.ops [⟨(some 2), none, .mv (.const (.bool false))⟩])
  (.seq (.ops [⟨(some 3), none, .mv (.tmp 0)⟩,
    ⟨(some 4), none, .lent (.tmp 3)⟩,
    ⟨(some 5), none, .bin .leq (.tmp 4) (.const (.int .i64 24))⟩,
    ⟨(some 6), none, .mv (.tmp 5)⟩,
    ⟨(some 7), some (6, true), .mv (.tmp 0)⟩,
    ⟨(some 8), some (6, true), .call 120 [(.tmp 7), (.const (.string ⟨⟨[46, 45, 44, 95]⟩⟩))]⟩,
    ⟨(some 9), none, .pick (.tmp 6) (.tmp 8) (.const (.bool false))⟩,
    ⟨(some 2), none, .mv (.tmp 9)⟩])
  (.ret))
theorem h_spec_l3Val : (Try.prog.funcs[n_spec_l3Val]?).bind (fun fn => fn.body.bind (comp Try.prog fn.ntmps)) = some (AS.strip c_spec_l3Val) := by kernel_rfl
theorem r_spec_l3Val : (Try.prog.funcs[n_spec_l3Val]?).map (fun fn => (fn.results.toList, fn.ntmps)) = some ([.tmp 2], 10) := by kernel_rfl
-- 109 loop.example/g00850/impl.GoodKey
abbrev n_impl_GoodKey : Nat := 109
def c_impl_GoodKey : AS :=
  .seq (.ops [⟨(some 2), none, .mv (.const (.bool false))⟩])
  (.seq (.ops [⟨(some 3), none, .mv (.tmp 0)⟩,
    ⟨(some 4), none, .lent (.tmp 3)⟩,
    ⟨(some 5), none, .call 36 [(.tmp 4), (.const (.int .i64 1)), (.const (.int .i64 12))]⟩,
    ⟨(some 6), none, .mv (.tmp 5)⟩,
    ⟨(some 7), some (6, true), .mv (.tmp 0)⟩,
    ⟨(some 8), some (6, true), .call 121 [(.tmp 7), (.const (.string ⟨⟨[46, 47]⟩⟩))]⟩,
    ⟨(some 9), none, .pick (.tmp 6) (.tmp 8) (.const (.bool false))⟩,
    ⟨(some 2), none, .mv (.tmp 9)⟩])
  (.ret))
theorem h_impl_GoodKey : (Try.prog.funcs[n_impl_GoodKey]?).bind (fun fn => fn.body.bind (comp Try.prog fn.ntmps)) = some (AS.strip c_impl_GoodKey) := by kernel_rfl
theorem r_impl_GoodKey : (Try.prog.funcs[n_impl_GoodKey]?).map (fun fn => (fn.results.toList, fn.ntmps)) = some ([.tmp 2], 10) := by kernel_rfl
-- 110 loop.example/g00850/impl.isStored
abbrev n_impl_isStored : Nat := 110
def c_impl_isStored : AS :=
  .seq (.ops [⟨(some 4), none, .mv (.const (.bool false))⟩])
  (.seq (.ops [⟨(some 5), none, .mv (.tmp 0)⟩,
    ⟨(some 6), none, .call 122 [(.tmp 5)]⟩,
    ⟨(some 7), none, .mv (.tmp 6)⟩,
    ⟨(some 8), some (7, true), .mv (.tmp 1)⟩,
    ⟨(some 9), some (7, true), .mv (.tmp 8)⟩,
    ⟨(some 10), some (9, true), .mv (.tmp 0)⟩,
    ⟨(some 11), some (9, true), .bin .neq (.tmp 10) (.const (.string ⟨⟨[]⟩⟩))⟩,
    ⟨(some 12), some (7, true), .pick (.tmp 9) (.tmp 11) (.const (.bool false))⟩,
    ⟨(some 13), some (7, true), .not (.tmp 12)⟩,
    ⟨(some 14), none, .pick (.tmp 7) (.tmp 13) (.const (.bool false))⟩,
    ⟨(some 4), none, .mv (.tmp 14)⟩])
  (.ret))
theorem h_impl_isStored : (Try.prog.funcs[n_impl_isStored]?).bind (fun fn => fn.body.bind (comp Try.prog fn.ntmps)) = some (AS.strip c_impl_isStored) := by kernel_rfl
theorem r_impl_isStored : (Try.prog.funcs[n_impl_isStored]?).map (fun fn => (fn.results.toList, fn.ntmps)) = some ([.tmp 4], 15) := by kernel_rfl
-- 111 loop.example/g00850/impl.areGot$1
abbrev n_impl_areGot_1 : Nat := 111
def c_impl_areGot_1 : AS :=
  .seq (.ops [⟨(some 2), none, .box (.tmp 0)⟩,
    ⟨(some 3), none, .mv (.const (.bool false))⟩])
  (.seq (.ops [⟨(some 4), none, .fa 0 (.tmp 2)⟩,
    ⟨(some 5), none, .load none (.tmp 4)⟩,
    ⟨(some 6), none, .fa 0 (.tmp 1)⟩,
    ⟨(some 7), none, .load none (.tmp 6)⟩,
    ⟨(some 8), none, .bin .eql (.tmp 5) (.tmp 7)⟩,
    ⟨(some 3), none, .mv (.tmp 8)⟩])
  (.ret))
theorem h_impl_areGot_1 : (Try.prog.funcs[n_impl_areGot_1]?).bind (fun fn => fn.body.bind (comp Try.prog fn.ntmps)) = some (AS.strip c_impl_areGot_1) := by kernel_rfl
theorem r_impl_areGot_1 : (Try.prog.funcs[n_impl_areGot_1]?).map (fun fn => (fn.results.toList, fn.ntmps)) = some ([.tmp 3], 9) := by kernel_rfl
-- 112 loop.example/g00850/impl.areRising
abbrev n_impl_areRising : Nat := 112
def c_impl_areRising_l1 : AS :=
  .seq (.ops [⟨(some 8), none, .bin .lss (.tmp 7) (.tmp 6)⟩])
  (.seq (.cond (.tmp 8) (.skip) (.exit 0))
  (.seq (.block 1 (.seq (.ops [⟨(some 9), none, .mv (.tmp 7)⟩,
    ⟨(some 10), none, .ia 1 (.tmp 5) (.tmp 7)⟩,
    ⟨(some 11), none, .load none (.tmp 10)⟩,
    ⟨(some 3), none, .mv (.tmp 9)⟩,
    ⟨(some 4), none, .mv (.tmp 11)⟩])
  (.seq (.ops [⟨(some 12), none, .mv (.tmp 4)⟩,
    ⟨(some 13), none, .call 109 [(.tmp 12)]⟩,
    ⟨(some 14), none, .not (.tmp 13)⟩,
    ⟨(some 15), none, .mv (.tmp 14)⟩,
    ⟨(some 16), some (15, false), .mv (.tmp 3)⟩,
    ⟨(some 17), some (15, false), .bin .gtr (.tmp 16) (.const (.int .i64 0))⟩,
    ⟨(some 18), some (15, false), .mv (.tmp 17)⟩,
    ⟨(some 19), some (18, true), .mv (.tmp 4)⟩,
    ⟨(some 20), some (18, true), .mv (.tmp 0)⟩,
    ⟨(some 21), some (18, true), .mv (.tmp 3)⟩,
    ⟨(some 22), some (18, true), .bin .sub (.tmp 21) (.const (.int .i64 1))⟩,
    ⟨(some 23), some (18, true), .ia 1 (.tmp 20) (.tmp 22)⟩,
    ⟨(some 24), some (18, true), .load none (.tmp 23)⟩,
    ⟨(some 25), some (18, true), .bin .leq (.tmp 19) (.tmp 24)⟩,
    ⟨(some 26), some (15, false), .pick (.tmp 18) (.tmp 25) (.const (.bool false))⟩,
    ⟨(some 27), none, .pick (.tmp 15) (.const (.bool true)) (.tmp 26)⟩])
  (.kept [0, 5, 6, 7, 27] (.cond (.tmp 27) (.seq (.ops [⟨(some 2), none, .mv (.const (.bool false))⟩])
  (.ret)) (.skip))))))
  (.kept [0, 5, 6, 7] (.ops [⟨(some 28), none, .bin .add (.tmp 7) (.const (.int .i64 1))⟩,
    ⟨(some 7), none, .mv (.tmp 28)⟩]))))
def c_impl_areRising : AS :=
  .seq (.ops [⟨(some 2), none, .mv (.const (.bool false))⟩])
  (.seq (.seq (.ops [⟨(some 5), none, .mv (.tmp 0)⟩,
    ⟨(some 6), none, .lens (.tmp 5)⟩,
    ⟨(some 7), none, .mv (.const (.int .i64 0))⟩])
  (.block 0 (.loop 1 [(0, 0), (5, 0), (6, 0), (7, 0)] c_impl_areRising_l1)))
  (.kept [] (.seq (.ops [⟨(some 2), none, .mv (.const (.bool true))⟩])
  (.ret))))
theorem h_impl_areRising : (Try.prog.funcs[n_impl_areRising]?).bind (fun fn => fn.body.bind (comp Try.prog fn.ntmps)) = some (AS.strip c_impl_areRising) := by kernel_rfl
theorem r_impl_areRising : (Try.prog.funcs[n_impl_areRising]?).map (fun fn => (fn.results.toList, fn.ntmps)) = some ([.tmp 2], 29) := by kernel_rfl
-- 113 loop.example/g00850/impl.writeKeys
abbrev n_impl_writeKeys : Nat := 113
def c_impl_writeKeys_l1 : AS :=
  .seq (.ops [⟨(some 10), none, .bin .lss (.tmp 9) (.tmp 8)⟩])
  (.seq (.cond (.tmp 10) (.skip) (.exit 0))
  (.seq (.block 1 (.seq (.ops [⟨(some 11), none, .ia 3 (.tmp 7) (.tmp 9)⟩,
    ⟨(some 12), none, .load (some 3) (.tmp 11)⟩,
    ⟨(some 5), none, .alloc (.agg #[.string ⟨⟨[]⟩⟩, .string ⟨⟨[]⟩⟩, .bool false])⟩,
    ⟨none, none, .store 3 (.tmp 5) (.tmp 12)⟩])
  (.ops [⟨(some 13), none, .mv (.tmp 3)⟩,
    ⟨(some 14), none, .fa 0 (.tmp 5)⟩,
    ⟨(some 15), none, .load none (.tmp 14)⟩,
    ⟨(some 16), none, .bsl 1 (.string ⟨⟨[]⟩⟩) 1 [(0, (.tmp 15))]⟩,
    ⟨(some 17), none, .app 1 16 (.string ⟨⟨[]⟩⟩) (.tmp 13) (.tmp 16)⟩,
    ⟨(some 3), none, .mv (.tmp 17)⟩])))
  (.kept [3, 7, 8, 9] (.ops [⟨(some 18), none, .bin .add (.tmp 9) (.const (.int .i64 1))⟩,
    ⟨(some 9), none, .mv (.tmp 18)⟩]))))
def c_impl_writeKeys : AS :=
  .seq (.ops [⟨(some 2), none, .mv (.const (.slice none 0 0))⟩])
  (.seq (.ops [⟨(some 6), none, .bsl 1 (.string ⟨⟨[]⟩⟩) 0 []⟩,
    ⟨(some 3), none, .mv (.tmp 6)⟩])
  (.seq (.seq (.ops [⟨(some 7), none, .mv (.tmp 0)⟩,
    ⟨(some 8), none, .lens (.tmp 7)⟩,
    ⟨(some 9), none, .mv (.const (.int .i64 0))⟩])
  (.block 0 (.loop 1 [(3, 1), (7, 0), (8, 0), (9, 0)] c_impl_writeKeys_l1)))
  (.kept [3] (.seq (.ops [⟨(some 19), none, .mv (.tmp 3)⟩,
    ⟨(some 2), none, .mv (.tmp 19)⟩])
  (.ret)))))
theorem h_impl_writeKeys : (Try.prog.funcs[n_impl_writeKeys]?).bind (fun fn => fn.body.bind (comp Try.prog fn.ntmps)) = some (AS.strip c_impl_writeKeys) := by kernel_rfl
theorem r_impl_writeKeys : (Try.prog.funcs[n_impl_writeKeys]?).map (fun fn => (fn.results.toList, fn.ntmps)) = some ([.tmp 2], 20) := by kernel_rfl
-- 114 slices.ContainsFunc[[]loop.example/g00850/impl.Write,loop.example/g00850/impl.Write]
abbrev n_slices_ContainsFunc___impl_Write_impl_Write_ : Nat := 114
def c_slices_ContainsFunc___impl_Write_impl_Write_ : AS :=
  .seq (.ops [⟨(some 4), none, .mv (.const (.bool false))⟩])
  (.seq (.ops [⟨(some 5), none, .mv (.tmp 0)⟩,
    ⟨(some 6), none, .mv (.tmp 1)⟩,
    ⟨(some 7), none, .call 106 [(.tmp 5), (.tmp 6)]⟩,
    ⟨(some 8), none, .bin .geq (.tmp 7) (.const (.int .i64 0))⟩,
    ⟨(some 4), none, .mv (.tmp 8)⟩])
  (.ret))
theorem h_slices_ContainsFunc___impl_Write_impl_Write_ : (Try.prog.funcs[n_slices_ContainsFunc___impl_Write_impl_Write_]?).bind (fun fn => fn.body.bind (comp Try.prog fn.ntmps)) = some (AS.strip c_slices_ContainsFunc___impl_Write_impl_Write_) := by kernel_rfl
theorem r_slices_ContainsFunc___impl_Write_impl_Write_ : (Try.prog.funcs[n_slices_ContainsFunc___impl_Write_impl_Write_]?).map (fun fn => (fn.results.toList, fn.ntmps)) = some ([.tmp 4], 9) := by kernel_rfl
-- 115 loop.example/g00850/impl.GoodWrites$1
abbrev n_impl_GoodWrites_1 : Nat := 115
def c_impl_GoodWrites_1 : AS :=
  .seq (.ops [⟨(some 1), none, .box (.tmp 0)⟩,
    ⟨(some 2), none, .mv (.const (.bool false))⟩])
  (.seq (.ops [⟨(some 3), none, .fa 1 (.tmp 1)⟩,
    ⟨(some 4), none, .load none (.tmp 3)⟩,
    ⟨(some 5), none, .fa 2 (.tmp 1)⟩,
    ⟨(some 6), none, .load none (.tmp 5)⟩,
    ⟨(some 7), none, .call 110 [(.tmp 4), (.tmp 6)]⟩,
    ⟨(some 8), none, .not (.tmp 7)⟩,
    ⟨(some 2), none, .mv (.tmp 8)⟩])
  (.ret))
theorem h_impl_GoodWrites_1 : (Try.prog.funcs[n_impl_GoodWrites_1]?).bind (fun fn => fn.body.bind (comp Try.prog fn.ntmps)) = some (AS.strip c_impl_GoodWrites_1) := by kernel_rfl
theorem r_impl_GoodWrites_1 : (Try.prog.funcs[n_impl_GoodWrites_1]?).map (fun fn => (fn.results.toList, fn.ntmps)) = some ([.tmp 2], 9) := by kernel_rfl
-- 116 slices.insertionSortCmpFunc[int]
abbrev n_slices_insertionSortCmpFunc_int_ : Nat := 116
def c_slices_insertionSortCmpFunc_int__l1 : AS :=
  .seq (.seq (.rops [(none, ⟨(some 18), none, .mv (.tmp 9)⟩),
    (none, ⟨(some 19), none, .mv (.tmp 1)⟩),
    (none, ⟨(some 20), none, .bin .gtr (.tmp 18) (.tmp 19)⟩),
    (none, ⟨(some 21), none, .mv (.tmp 20)⟩),
    (none, ⟨(some 22), some (21, true), .mv (.tmp 3)⟩),
    (none, ⟨(some 23), some (21, true), .mv (.tmp 0)⟩),
    (none, ⟨(some 24), some (21, true), .mv (.tmp 9)⟩),
    (none, ⟨(some 25), some (21, true), .ia 1 (.tmp 23) (.tmp 24)⟩),
    (none, ⟨(some 26), some (21, true), .load none (.tmp 25)⟩),
    (none, ⟨(some 27), some (21, true), .mv (.tmp 0)⟩),
    (none, ⟨(some 28), some (21, true), .mv (.tmp 9)⟩),
    (none, ⟨(some 29), some (21, true), .bin .sub (.tmp 28) (.const (.int .i64 1))⟩),
    (none, ⟨(some 30), some (21, true), .ia 1 (.tmp 27) (.tmp 29)⟩),
    (none, ⟨(some 31), some (21, true), .load none (.tmp 30)⟩),
    (some [], ⟨(some 32), some (21, true), .callv (.tmp 22) [(.tmp 26), (.tmp 31)]⟩),
    (none, ⟨(some 33), some (21, true), .bin .lss (.tmp 32) (.const (.int .i64 0))⟩),
    (none, ⟨(some 34), none, .pick (.tmp 21) (.tmp 33) (.const (.bool false))⟩)])
  (.kept [0, 1, 2, 3, 8, 9, 34] (.cond (.tmp 34) (.skip) (.exit 2))))
  (.kept [0, 1, 2, 3, 8, 9] (.seq (.block 3 (.rops [(none, ⟨(some 37), none, .mv (.tmp 0)⟩),
    (none, ⟨(some 38), none, .mv (.tmp 9)⟩),
    (none, ⟨(some 39), none, .mv (.tmp 0)⟩),
    (none, ⟨(some 40), none, .mv (.tmp 9)⟩),
    (none, ⟨(some 41), none, .bin .sub (.tmp 40) (.const (.int .i64 1))⟩),
    (none, ⟨(some 42), none, .mv (.tmp 0)⟩),
    (none, ⟨(some 43), none, .mv (.tmp 9)⟩),
    (none, ⟨(some 44), none, .bin .sub (.tmp 43) (.const (.int .i64 1))⟩),
    (none, ⟨(some 45), none, .ia 1 (.tmp 42) (.tmp 44)⟩),
    (none, ⟨(some 46), none, .load none (.tmp 45)⟩),
    (none, ⟨(some 47), none, .mv (.tmp 0)⟩),
    (none, ⟨(some 48), none, .mv (.tmp 9)⟩),
    (none, ⟨(some 49), none, .ia 1 (.tmp 47) (.tmp 48)⟩),
    (none, ⟨(some 50), none, .load none (.tmp 49)⟩),
    (none, ⟨(some 51), none, .ia 1 (.tmp 37) (.tmp 38)⟩),
    (some [⟨(some 41), none, .bin .sub (.tmp 40) (.const (.int .i64 1))⟩, ⟨(some 40), none, .mv (.tmp 9)⟩, ⟨(some 39), none, .mv (.tmp 0)⟩], ⟨none, none, .store 1 (.tmp 51) (.tmp 46)⟩),
    (none, ⟨(some 52), none, .ia 1 (.tmp 39) (.tmp 41)⟩),
    (some [], ⟨none, none, .store 1 (.tmp 52) (.tmp 50)⟩)]))
  (.kept [0, 1, 2, 3, 8, 9] (.ops [⟨(some 35), none, .mv (.tmp 9)⟩,
    ⟨(some 36), none, .bin .sub (.tmp 35) (.const (.int .i64 1))⟩,
    ⟨(some 9), none, .mv (.tmp 36)⟩]))))
def c_slices_insertionSortCmpFunc_int__l2 : AS :=
  .seq (.seq (.ops [⟨(some 12), none, .mv (.tmp 8)⟩,
    ⟨(some 13), none, .mv (.tmp 2)⟩,
    ⟨(some 14), none, .bin .lss (.tmp 12) (.tmp 13)⟩])
  (.cond (.tmp 14) (.skip) (.exit 0)))
  (.seq (.block 1 (.seq (.ops [⟨(some 17), none, .mv (.tmp 8)⟩,
    ⟨(some 9), none, .mv (.tmp 17)⟩])
  (.block 2 (.loop 4 [(0, 0), (1, 0), (2, 0), (3, 0), (8, 0), (9, 0)] c_slices_insertionSortCmpFunc_int__l1))))
  (.kept [0, 1, 2, 3, 8] (.ops [⟨(some 15), none, .mv (.tmp 8)⟩,
    ⟨(some 16), none, .bin .add (.tmp 15) (.const (.int .i64 1))⟩,
    ⟨(some 8), none, .mv (.tmp 16)⟩])))
def c_slices_insertionSortCmpFunc_int_ : AS :=
  .seq (.ops [⟨(some 10), none, .mv (.tmp 1)⟩,
    ⟨(some 11), none, .bin .add (.tmp 10) (.const (.int .i64 1))⟩,
    ⟨(some 8), none, .mv (.tmp 11)⟩])
  (.block 0 (.loop 4 [(0, 0), (1, 0), (2, 0), (3, 0), (8, 0)] c_slices_insertionSortCmpFunc_int__l2))
theorem h_slices_insertionSortCmpFunc_int_ : (Try.prog.funcs[n_slices_insertionSortCmpFunc_int_]?).bind (fun fn => fn.body.bind (comp Try.prog fn.ntmps)) = some (AS.strip c_slices_insertionSortCmpFunc_int_) := by kernel_rfl
theorem r_slices_insertionSortCmpFunc_int_ : (Try.prog.funcs[n_slices_insertionSortCmpFunc_int_]?).map (fun fn => (fn.results.toList, fn.ntmps)) = some ([], 53) := by kernel_rfl
-- 120 loop.example/g00850/spec.l3Bytes
abbrev n_spec_l3Bytes : Nat := 120
def c_spec_l3Bytes_l1 : AS :=
  .seq (.seq (.ops [⟨(some 36), none, .mv (.tmp 7)⟩,
    ⟨(some 37), none, .mv (.tmp 1)⟩,
    ⟨(some 38), none, .lent (.tmp 37)⟩,
    ⟨(some 39), none, .bin .lss (.tmp 36) (.tmp 38)⟩])
  (.cond (.tmp 39) (.skip) (.exit 2)))
  (.seq (.block 3 (.dops [⟨(some 42), none, .mv (.tmp 6)⟩,
    ⟨(some 43), none, .mv (.tmp 42)⟩,
    ⟨(some 44), some (43, false), .mv (.tmp 0)⟩,
    ⟨(some 45), some (43, false), .mv (.tmp 5)⟩,
    ⟨(some 46), some (43, false), .ix (.tmp 44) (.tmp 45)⟩,
    ⟨(some 47), some (43, false), .mv (.tmp 1)⟩,
    ⟨(some 48), some (43, false), .mv (.tmp 7)⟩,
    ⟨(some 49), some (43, false), .ix (.tmp 47) (.tmp 48)⟩,
    ⟨(some 50), some (43, false), .bin .eql (.tmp 46) (.tmp 49)⟩,
    ⟨(some 51), none, .pick (.tmp 43) (.const (.bool true)) (.tmp 50)⟩,
    ⟨(some 6), none, .mv (.tmp 51)⟩]))
  (.kept [0, 1, 5, 6, 7] (.ops [⟨(some 40), none, .mv (.tmp 7)⟩,
    ⟨(some 41), none, .bin .add (.tmp 40) (.const (.int .i64 1))⟩,
    ⟨(some 7), none, .mv (.tmp 41)⟩])))
def c_spec_l3Bytes_l2 : AS :=
  .seq (.seq (.ops [⟨(some 8), none, .mv (.tmp 5)⟩,
    ⟨(some 9), none, .mv (.tmp 0)⟩,
    ⟨(some 10), none, .lent (.tmp 9)⟩,
    ⟨(some 11), none, .bin .lss (.tmp 8) (.tmp 10)⟩])
  (.cond (.tmp 11) (.skip) (.exit 0)))
  (.seq (.block 1 (.seq (.ops [⟨(some 14), none, .mv (.tmp 0)⟩,
    ⟨(some 15), none, .mv (.tmp 5)⟩,
    ⟨(some 16), none, .ix (.tmp 14) (.tmp 15)⟩,
    ⟨(some 17), none, .bin .geq (.tmp 16) (.const (.int .u8 97))⟩,
    ⟨(some 18), none, .mv (.tmp 17)⟩,
    ⟨(some 19), some (18, true), .mv (.tmp 0)⟩,
    ⟨(some 20), some (18, true), .mv (.tmp 5)⟩,
    ⟨(some 21), some (18, true), .ix (.tmp 19) (.tmp 20)⟩,
    ⟨(some 22), some (18, true), .bin .leq (.tmp 21) (.const (.int .u8 122))⟩,
    ⟨(some 23), none, .pick (.tmp 18) (.tmp 22) (.const (.bool false))⟩,
    ⟨(some 24), none, .mv (.tmp 23)⟩,
    ⟨(some 25), some (24, false), .mv (.tmp 0)⟩,
    ⟨(some 26), some (24, false), .mv (.tmp 5)⟩,
    ⟨(some 27), some (24, false), .ix (.tmp 25) (.tmp 26)⟩,
    ⟨(some 28), some (24, false), .bin .geq (.tmp 27) (.const (.int .u8 48))⟩,
    ⟨(some 29), some (24, false), .mv (.tmp 28)⟩,
    ⟨(some 30), some (29, true), .mv (.tmp 0)⟩,
    ⟨(some 31), some (29, true), .mv (.tmp 5)⟩,
    ⟨(some 32), some (29, true), .ix (.tmp 30) (.tmp 31)⟩,
    ⟨(some 33), some (29, true), .bin .leq (.tmp 32) (.const (.int .u8 57))⟩,
    ⟨(some 34), some (24, false), .pick (.tmp 29) (.tmp 33) (.const (.bool false))⟩,
    ⟨(some 35), none, .pick (.tmp 24) (.const (.bool true)) (.tmp 34)⟩,
    ⟨(some 6), none, .mv (.tmp 35)⟩])
  (.kept [0, 1, 5, 6] (.seq (.seq (.ops [⟨(some 7), none, .mv (.const (.int .i64 0))⟩])
  (.block 2 (.loop 2 [(0, 0), (1, 0), (5, 0), (6, 0), (7, 0)] c_spec_l3Bytes_l1)))
  (.kept [0, 1, 5, 6] (.seq (.ops [⟨(some 52), none, .mv (.tmp 6)⟩,
    ⟨(some 53), none, .not (.tmp 52)⟩])
  (.cond (.tmp 53) (.seq (.ops [⟨(some 4), none, .mv (.const (.bool false))⟩])
  (.ret)) (.skip))))))))
  (.kept [0, 1, 5] (.ops [⟨(some 12), none, .mv (.tmp 5)⟩,
    ⟨(some 13), none, .bin .add (.tmp 12) (.const (.int .i64 1))⟩,
    ⟨(some 5), none, .mv (.tmp 13)⟩])))
def c_spec_l3Bytes : AS :=
  .seq (.ops [⟨(some 4), none, .mv (.const (.bool false))⟩])
  (.seq (.seq (.ops [⟨(some 5), none, .mv (.const (.int .i64 0))⟩])
  (.block 0 (.loop 2 [(0, 0), (1, 0), (5, 0)] c_spec_l3Bytes_l2)))
  (.kept [] (.seq (.ops [⟨(some 4), none, .mv (.const (.bool true))⟩])
  (.ret))))
theorem h_spec_l3Bytes : (Try.prog.funcs[n_spec_l3Bytes]?).bind (fun fn => fn.body.bind (comp Try.prog fn.ntmps)) = some (AS.strip c_spec_l3Bytes) := by kernel_rfl
theorem r_spec_l3Bytes : (Try.prog.funcs[n_spec_l3Bytes]?).map (fun fn => (fn.results.toList, fn.ntmps)) = some ([.tmp 4], 54) := by kernel_rfl
-- 121 loop.example/g00850/impl.hasBytes
abbrev n_impl_hasBytes : Nat := 121
def c_impl_hasBytes_l1 : AS :=
  .seq (.ops [⟨(some 9), none, .bin .lss (.tmp 8) (.tmp 7)⟩])
  (.seq (.cond (.tmp 9) (.skip) (.exit 0))
  (.seq (.block 1 (.seq (.ops [⟨(some 10), none, .mv (.tmp 8)⟩,
    ⟨(some 5), none, .mv (.tmp 10)⟩])
  (.seq (.ops [⟨(some 11), none, .mv (.tmp 0)⟩,
    ⟨(some 12), none, .mv (.tmp 5)⟩,
    ⟨(some 13), none, .ix (.tmp 11) (.tmp 12)⟩,
    ⟨(some 14), none, .call 125 [(.tmp 13)]⟩,
    ⟨(some 15), none, .not (.tmp 14)⟩,
    ⟨(some 16), none, .mv (.tmp 15)⟩,
    ⟨(some 17), some (16, true), .mv (.tmp 1)⟩,
    ⟨(some 18), some (16, true), .mv (.tmp 0)⟩,
    ⟨(some 19), some (16, true), .mv (.tmp 5)⟩,
    ⟨(some 20), some (16, true), .ix (.tmp 18) (.tmp 19)⟩,
    ⟨(some 21), some (16, true), .call 126 [(.tmp 17), (.tmp 20)]⟩,
    ⟨(some 22), some (16, true), .bin .lss (.tmp 21) (.const (.int .i64 0))⟩,
    ⟨(some 23), none, .pick (.tmp 16) (.tmp 22) (.const (.bool false))⟩])
  (.kept [0, 1, 7, 8, 23] (.cond (.tmp 23) (.seq (.ops [⟨(some 4), none, .mv (.const (.bool false))⟩])
  (.ret)) (.skip))))))
  (.kept [0, 1, 7, 8] (.ops [⟨(some 24), none, .bin .add (.tmp 8) (.const (.int .i64 1))⟩,
    ⟨(some 8), none, .mv (.tmp 24)⟩]))))
def c_impl_hasBytes : AS :=
  .seq (.ops [⟨(some 4), none, .mv (.const (.bool false))⟩])
  (.seq (.seq (.ops [⟨(some 6), none, .mv (.tmp 0)⟩,
    ⟨(some 7), none, .lent (.tmp 6)⟩,
    ⟨(some 8), none, .mv (.const (.int .i64 0))⟩])
  (.block 0 (.loop 2 [(0, 0), (1, 0), (7, 0), (8, 0)] c_impl_hasBytes_l1)))
  (.kept [] (.seq (.ops [⟨(some 4), none, .mv (.const (.bool true))⟩])
  (.ret))))
theorem h_impl_hasBytes : (Try.prog.funcs[n_impl_hasBytes]?).bind (fun fn => fn.body.bind (comp Try.prog fn.ntmps)) = some (AS.strip c_impl_hasBytes) := by kernel_rfl
theorem r_impl_hasBytes : (Try.prog.funcs[n_impl_hasBytes]?).map (fun fn => (fn.results.toList, fn.ntmps)) = some ([.tmp 4], 25) := by kernel_rfl
-- 122 loop.example/g00850/impl.GoodVal
abbrev n_impl_GoodVal : Nat := 122
def c_impl_GoodVal : AS :=
  .seq (.ops [⟨(some 2), none, .mv (.const (.bool false))⟩])
  (.seq (.ops [⟨(some 3), none, .mv (.tmp 0)⟩,
    ⟨(some 4), none, .lent (.tmp 3)⟩,
    ⟨(some 5), none, .bin .leq (.tmp 4) (.const (.int .i64 24))⟩,
    ⟨(some 6), none, .mv (.tmp 5)⟩,
    ⟨(some 7), some (6, true), .mv (.tmp 0)⟩,
    ⟨(some 8), some (6, true), .call 121 [(.tmp 7), (.const (.string ⟨⟨[46, 45, 44, 95]⟩⟩))]⟩,
    ⟨(some 9), none, .pick (.tmp 6) (.tmp 8) (.const (.bool false))⟩,
    ⟨(some 2), none, .mv (.tmp 9)⟩])
  (.ret))
theorem h_impl_GoodVal : (Try.prog.funcs[n_impl_GoodVal]?).bind (fun fn => fn.body.bind (comp Try.prog fn.ntmps)) = some (AS.strip c_impl_GoodVal) := by kernel_rfl
theorem r_impl_GoodVal : (Try.prog.funcs[n_impl_GoodVal]?).map (fun fn => (fn.results.toList, fn.ntmps)) = some ([.tmp 2], 10) := by kernel_rfl
-- 125 loop.example/g00850/impl.isLowerOrDigit
abbrev n_impl_isLowerOrDigit : Nat := 125
def c_impl_isLowerOrDigit : AS :=
  .seq (.ops [⟨(some 2), none, .mv (.const (.bool false))⟩])
  (.seq (.ops [⟨(some 3), none, .mv (.tmp 0)⟩,
    ⟨(some 4), none, .bin .geq (.tmp 3) (.const (.int .u8 97))⟩,
    ⟨(some 5), none, .mv (.tmp 4)⟩,
    ⟨(some 6), some (5, true), .mv (.tmp 0)⟩,
    ⟨(some 7), some (5, true), .bin .leq (.tmp 6) (.const (.int .u8 122))⟩,
    ⟨(some 8), none, .pick (.tmp 5) (.tmp 7) (.const (.bool false))⟩,
    ⟨(some 9), none, .mv (.tmp 8)⟩,
    ⟨(some 10), some (9, false), .mv (.tmp 0)⟩,
    ⟨(some 11), some (9, false), .bin .geq (.tmp 10) (.const (.int .u8 48))⟩,
    ⟨(some 12), some (9, false), .mv (.tmp 11)⟩,
    ⟨(some 13), some (12, true), .mv (.tmp 0)⟩,
    ⟨(some 14), some (12, true), .bin .leq (.tmp 13) (.const (.int .u8 57))⟩,
    ⟨(some 15), some (9, false), .pick (.tmp 12) (.tmp 14) (.const (.bool false))⟩,
    ⟨(some 16), none, .pick (.tmp 9) (.const (.bool true)) (.tmp 15)⟩,
    ⟨(some 2), none, .mv (.tmp 16)⟩])
  (.ret))
theorem h_impl_isLowerOrDigit : (Try.prog.funcs[n_impl_isLowerOrDigit]?).bind (fun fn => fn.body.bind (comp Try.prog fn.ntmps)) = some (AS.strip c_impl_isLowerOrDigit) := by kernel_rfl
theorem r_impl_isLowerOrDigit : (Try.prog.funcs[n_impl_isLowerOrDigit]?).map (fun fn => (fn.results.toList, fn.ntmps)) = some ([.tmp 2], 17) := by kernel_rfl
-- 126 strings.IndexByte
abbrev n_strings_IndexByte : Nat := 126
def c_strings_IndexByte : AS :=
  .seq (.ops [⟨(some 4), none, .mv (.const (.int .i64 0))⟩])
  (.seq (.ops [⟨(some 5), none, .mv (.tmp 0)⟩,
    ⟨(some 6), none, .mv (.tmp 1)⟩,
    ⟨(some 7), none, .call 129 [(.tmp 5), (.tmp 6)]⟩,
    ⟨(some 4), none, .mv (.tmp 7)⟩])
  (.ret))
theorem h_strings_IndexByte : (Try.prog.funcs[n_strings_IndexByte]?).bind (fun fn => fn.body.bind (comp Try.prog fn.ntmps)) = some (AS.strip c_strings_IndexByte) := by kernel_rfl
theorem r_strings_IndexByte : (Try.prog.funcs[n_strings_IndexByte]?).map (fun fn => (fn.results.toList, fn.ntmps)) = some ([.tmp 4], 8) := by kernel_rfl
-- 129 internal/stringslite.IndexByte
abbrev n_internal_stringslite_IndexByte : Nat := 129
def c_internal_stringslite_IndexByte : AS :=
  .seq (.ops [⟨(some 4), none, .mv (.const (.int .i64 0))⟩])
  (.seq (.ops [⟨(some 5), none, .mv (.tmp 0)⟩,
    ⟨(some 6), none, .mv (.tmp 1)⟩,
    ⟨(some 7), none, .xcall 130 [(.tmp 5), (.tmp 6)]⟩,
    ⟨(some 4), none, .mv (.tmp 7)⟩])
  (.ret))
theorem h_internal_stringslite_IndexByte : (Try.prog.funcs[n_internal_stringslite_IndexByte]?).bind (fun fn => fn.body.bind (comp Try.prog fn.ntmps)) = some (AS.strip c_internal_stringslite_IndexByte) := by kernel_rfl
theorem r_internal_stringslite_IndexByte : (Try.prog.funcs[n_internal_stringslite_IndexByte]?).map (fun fn => (fn.results.toList, fn.ntmps)) = some ([.tmp 4], 8) := by kernel_rfl
-- 130 internal/bytealg.IndexByteString
abbrev n_internal_bytealg_IndexByteString : Nat := 130
-- NOT COMPILED
theorem d_internal_bytealg_IndexByteString : Try.prog.funcs[n_internal_bytealg_IndexByteString]? = some Try.f130 := by kernel_rfl

end Go.Proofs.Wb

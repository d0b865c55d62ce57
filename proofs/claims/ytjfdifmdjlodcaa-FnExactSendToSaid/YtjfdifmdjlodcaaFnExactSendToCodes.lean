/- The compiled statements of the functions that the law reaches. -/
import Derived.Test.YtjfdifmdjlodcaaProg
import Derived.Test.YtjfdifmdjlodcaaAmAuto
import Derived.Test.YtjfdifmdjlodcaaAmSet
namespace Go.Proofs.Wb
open Go Go.Am
@[go_sem] theorem w_7 : wide Try.prog 7 = some (some 4) := by kernel_rfl
@[go_sem] theorem w_8 : wide Try.prog 8 = some (some 4) := by kernel_rfl
@[go_sem] theorem w_13 : wide Try.prog 13 = some (some 2) := by kernel_rfl
@[go_sem] theorem w_14 : wide Try.prog 14 = some (some 2) := by kernel_rfl
@[go_sem] theorem w_18 : wide Try.prog 18 = some (some 1) := by kernel_rfl
@[go_sem] theorem w_19 : wide Try.prog 19 = some (some 1) := by kernel_rfl
@[go_sem] theorem w_24 : wide Try.prog 24 = some (some 3) := by kernel_rfl
@[go_sem] theorem w_25 : wide Try.prog 25 = some (some 3) := by kernel_rfl
@[go_sem] theorem w_27 : wide Try.prog 27 = some (some 3) := by kernel_rfl
@[go_sem] theorem w_35 : wide Try.prog 35 = some (some 4) := by kernel_rfl
@[go_sem] theorem w_36 : wide Try.prog 36 = some (some 4) := by kernel_rfl
@[go_sem] theorem w_39 : wide Try.prog 39 = some (some 4) := by kernel_rfl
@[go_sem] theorem w_40 : wide Try.prog 40 = some (some 4) := by kernel_rfl
@[go_sem] theorem w_72 : wide Try.prog 72 = some (some 4) := by kernel_rfl
@[go_sem] theorem w_73 : wide Try.prog 73 = some (some 4) := by kernel_rfl
@[go_sem] theorem w_86 : wide Try.prog 86 = some (some 4) := by kernel_rfl
@[go_sem] theorem w_106 : wide Try.prog 106 = some (some 4) := by kernel_rfl
@[go_sem] theorem w_107 : wide Try.prog 107 = some (some 4) := by kernel_rfl
@[go_sem] theorem w_119 : wide Try.prog 119 = some (some 11) := by kernel_rfl
@[go_sem] theorem w_120 : wide Try.prog 120 = some (some 11) := by kernel_rfl
-- 7 loop.example/g00850/laws.FnExactSendTo
abbrev n_laws_FnExactSendTo : Nat := 7
def c_laws_FnExactSendTo : AS :=
  .seq (.ops [⟨(some 4), none, .box (.tmp 0)⟩,
    ⟨(some 8), none, .mv (.const (.bool false))⟩])
  (.seq (.seq (.ops [⟨(some 20), none, .mv (.tmp 3)⟩,
    ⟨(some 21), none, .lent (.tmp 20)⟩,
    ⟨(some 22), none, .bin .gtr (.tmp 21) (.const (.int .i64 1048576))⟩])
  (.cond (.tmp 22) (.seq (.ops [⟨(some 8), none, .mv (.const (.bool true))⟩])
  (.ret)) (.skip)))
  (.seq (.ops [⟨(some 9), none, .mv (.const (.int .i64 1048576))⟩])
  (.seq (.ops [⟨(some 23), none, .load (some 4) (.tmp 4)⟩,
    ⟨(some 24), none, .mv (.tmp 9)⟩,
    ⟨(some 25), none, .call 15 [(.tmp 23), (.tmp 24)]⟩,
    ⟨(some 9), none, .mv (.tmp 25)⟩])
  (.seq (.seq (.ops [⟨(some 26), none, .mv (.tmp 9)⟩,
    ⟨(some 27), none, .bin .lss (.tmp 26) (.const (.int .i64 0))⟩])
  (.cond (.tmp 27) (.seq (.ops [⟨(some 8), none, .mv (.const (.bool true))⟩])
  (.ret)) (.skip)))
  (.seq (.ops [⟨(some 29), none, .load (some 4) (.tmp 4)⟩,
    ⟨(some 30), none, .call 17 [(.tmp 29)]⟩,
    ⟨(some 31), none, .mv (.tmp 1)⟩,
    ⟨(some 32), none, .mv (.tmp 2)⟩,
    ⟨(some 33), none, .mv (.tmp 3)⟩,
    ⟨(some 34), none, .call 26 [(.tmp 30), (.tmp 31), (.tmp 32), (.tmp 33)]⟩,
    ⟨(some 28), none, .mv (.tmp 34)⟩,
    ⟨(some 35), none, .ext 0 (.tmp 28)⟩,
    ⟨(some 36), none, .ext 1 (.tmp 28)⟩,
    ⟨(some 10), none, .alloc (.agg #[.int .i64 0, .slice none 0 0, .int .i64 0, .slice none 0 0])⟩,
    ⟨none, none, .store 4 (.tmp 10) (.tmp 35)⟩,
    ⟨(some 11), none, .mv (.tmp 36)⟩])
  (.kept [1, 2, 3, 4, 10, 11] (.seq (.ops [⟨(some 37), none, .load (some 4) (.tmp 4)⟩,
    ⟨(some 38), none, .call 17 [(.tmp 37)]⟩,
    ⟨(some 12), none, .alloc (.agg #[.int .i64 0, .slice none 0 0, .int .i64 0, .slice none 0 0])⟩,
    ⟨none, none, .store 4 (.tmp 12) (.tmp 38)⟩])
  (.seq (.ops [⟨(some 40), none, .load (some 4) (.tmp 12)⟩,
    ⟨(some 41), none, .mv (.tmp 1)⟩,
    ⟨(some 42), none, .mv (.tmp 2)⟩,
    ⟨(some 43), none, .mv (.tmp 3)⟩,
    ⟨(some 44), none, .call 27 [(.tmp 40), (.tmp 41), (.tmp 42), (.tmp 43)]⟩,
    ⟨(some 39), none, .mv (.tmp 44)⟩,
    ⟨(some 45), none, .ext 0 (.tmp 39)⟩,
    ⟨(some 46), none, .ext 1 (.tmp 39)⟩,
    ⟨(some 13), none, .alloc (.agg #[.int .i64 0, .slice none 0 0, .int .i64 0, .slice none 0 0])⟩,
    ⟨none, none, .store 4 (.tmp 13) (.tmp 45)⟩,
    ⟨(some 14), none, .mv (.tmp 46)⟩])
  (.kept [1, 2, 3, 4, 10, 11, 12, 13, 14] (.seq (.seq (.ops [⟨(some 47), none, .load (some 4) (.tmp 13)⟩,
    ⟨(some 48), none, .load (some 4) (.tmp 10)⟩,
    ⟨(some 49), none, .call 19 [(.tmp 47), (.tmp 48)]⟩,
    ⟨(some 50), none, .not (.tmp 49)⟩,
    ⟨(some 51), none, .mv (.tmp 50)⟩,
    ⟨(some 52), some (51, false), .mv (.tmp 14)⟩,
    ⟨(some 53), some (51, false), .mv (.tmp 11)⟩,
    ⟨(some 54), some (51, false), .eqb true (.tmp 52) (.tmp 53)⟩,
    ⟨(some 55), none, .pick (.tmp 51) (.const (.bool true)) (.tmp 54)⟩])
  (.kept [1, 2, 3, 4, 10, 11, 12, 13, 14, 55] (.cond (.tmp 55) (.seq (.ops [⟨(some 8), none, .mv (.const (.bool false))⟩])
  (.ret)) (.skip))))
  (.kept [1, 2, 3, 4, 10, 11, 12, 13, 14] (.seq (.seq (.rops [(none, ⟨(some 56), none, .load (some 4) (.tmp 12)⟩),
    (none, ⟨(some 57), none, .load (some 4) (.tmp 4)⟩),
    (some [⟨(some 56), none, .load (some 4) (.tmp 12)⟩], ⟨(some 58), none, .call 17 [(.tmp 57)]⟩),
    (some [], ⟨(some 59), none, .call 19 [(.tmp 56), (.tmp 58)]⟩),
    (none, ⟨(some 60), none, .not (.tmp 59)⟩)])
  (.cond (.tmp 60) (.seq (.ops [⟨(some 8), none, .mv (.const (.bool false))⟩])
  (.ret)) (.skip)))
  (.kept [1, 2, 3, 4, 10, 11, 12, 13, 14] (.seq (.ops [⟨(some 15), none, .mv (.const (.int .i64 1))⟩])
  (.seq (.ops [⟨(some 61), none, .load (some 4) (.tmp 12)⟩,
    ⟨(some 62), none, .mv (.tmp 15)⟩,
    ⟨(some 63), none, .call 20 [(.tmp 61), (.tmp 62)]⟩,
    ⟨(some 15), none, .mv (.tmp 63)⟩])
  (.seq (.seq (.ops [⟨(some 64), none, .mv (.tmp 15)⟩,
    ⟨(some 65), none, .bin .lss (.tmp 64) (.const (.int .i64 0))⟩,
    ⟨(some 66), none, .mv (.tmp 65)⟩,
    ⟨(some 67), some (66, false), .load (some 4) (.tmp 13)⟩,
    ⟨(some 68), some (66, false), .load (some 4) (.tmp 10)⟩,
    ⟨(some 69), some (66, false), .call 19 [(.tmp 67), (.tmp 68)]⟩,
    ⟨(some 70), some (66, false), .not (.tmp 69)⟩,
    ⟨(some 71), none, .pick (.tmp 66) (.const (.bool true)) (.tmp 70)⟩,
    ⟨(some 72), none, .mv (.tmp 71)⟩,
    ⟨(some 73), some (72, false), .mv (.tmp 14)⟩,
    ⟨(some 74), some (72, false), .mv (.tmp 11)⟩,
    ⟨(some 75), some (72, false), .eqb true (.tmp 73) (.tmp 74)⟩,
    ⟨(some 76), none, .pick (.tmp 72) (.const (.bool true)) (.tmp 75)⟩])
  (.kept [1, 2, 3, 4, 10, 11, 13, 76] (.cond (.tmp 76) (.seq (.ops [⟨(some 8), none, .mv (.const (.bool false))⟩])
  (.ret)) (.skip))))
  (.kept [1, 2, 3, 4, 10, 11, 13] (.seq (.ops [⟨(some 16), none, .mv (.const (.int .i64 1))⟩])
  (.seq (.ops [⟨(some 77), none, .load (some 4) (.tmp 13)⟩,
    ⟨(some 78), none, .mv (.tmp 16)⟩,
    ⟨(some 79), none, .call 20 [(.tmp 77), (.tmp 78)]⟩,
    ⟨(some 16), none, .mv (.tmp 79)⟩])
  (.seq (.ops [⟨(some 17), none, .mv (.const (.int .i64 1))⟩])
  (.seq (.ops [⟨(some 80), none, .load (some 4) (.tmp 13)⟩,
    ⟨(some 81), none, .mv (.tmp 17)⟩,
    ⟨(some 82), none, .call 21 [(.tmp 80), (.tmp 81)]⟩,
    ⟨(some 17), none, .mv (.tmp 82)⟩])
  (.seq (.seq (.ops [⟨(some 83), none, .mv (.tmp 17)⟩,
    ⟨(some 84), none, .bin .lss (.tmp 83) (.const (.int .i64 0))⟩])
  (.cond (.tmp 84) (.seq (.ops [⟨(some 8), none, .mv (.const (.bool false))⟩])
  (.ret)) (.skip)))
  (.seq (.seq (.ops [⟨(some 85), none, .mv (.tmp 17)⟩,
    ⟨(some 86), none, .mv (.tmp 16)⟩,
    ⟨(some 87), none, .bin .neq (.tmp 85) (.tmp 86)⟩])
  (.cond (.tmp 87) (.seq (.ops [⟨(some 8), none, .mv (.const (.bool false))⟩])
  (.ret)) (.skip)))
  (.seq (.ops [⟨(some 89), none, .load (some 4) (.tmp 4)⟩,
    ⟨(some 90), none, .call 17 [(.tmp 89)]⟩,
    ⟨(some 91), none, .mv (.tmp 1)⟩,
    ⟨(some 92), none, .mv (.tmp 2)⟩,
    ⟨(some 93), none, .mv (.tmp 3)⟩,
    ⟨(some 94), none, .call 27 [(.tmp 90), (.tmp 91), (.tmp 92), (.tmp 93)]⟩,
    ⟨(some 88), none, .mv (.tmp 94)⟩,
    ⟨(some 95), none, .ext 0 (.tmp 88)⟩,
    ⟨(some 96), none, .ext 1 (.tmp 88)⟩,
    ⟨(some 18), none, .alloc (.agg #[.int .i64 0, .slice none 0 0, .int .i64 0, .slice none 0 0])⟩,
    ⟨none, none, .store 4 (.tmp 18) (.tmp 95)⟩,
    ⟨(some 19), none, .mv (.tmp 96)⟩])
  (.kept [10, 11, 13, 16, 18, 19] (.seq (.seq (.ops [⟨(some 97), none, .load (some 4) (.tmp 18)⟩,
    ⟨(some 98), none, .load (some 4) (.tmp 10)⟩,
    ⟨(some 99), none, .call 19 [(.tmp 97), (.tmp 98)]⟩,
    ⟨(some 100), none, .not (.tmp 99)⟩,
    ⟨(some 101), none, .mv (.tmp 100)⟩,
    ⟨(some 102), some (101, false), .mv (.tmp 19)⟩,
    ⟨(some 103), some (101, false), .mv (.tmp 11)⟩,
    ⟨(some 104), some (101, false), .eqb true (.tmp 102) (.tmp 103)⟩,
    ⟨(some 105), none, .pick (.tmp 101) (.const (.bool true)) (.tmp 104)⟩])
  (.kept [13, 16, 105] (.cond (.tmp 105) (.seq (.ops [⟨(some 8), none, .mv (.const (.bool false))⟩])
  (.ret)) (.skip))))
  (.kept [13, 16] (.seq (.ops [⟨(some 17), none, .mv (.const (.int .i64 1))⟩])
  (.seq (.ops [⟨(some 106), none, .load (some 4) (.tmp 13)⟩,
    ⟨(some 107), none, .mv (.tmp 17)⟩,
    ⟨(some 108), none, .call 21 [(.tmp 106), (.tmp 107)]⟩,
    ⟨(some 17), none, .mv (.tmp 108)⟩])
  (.seq (.seq (.ops [⟨(some 109), none, .mv (.tmp 17)⟩,
    ⟨(some 110), none, .bin .lss (.tmp 109) (.const (.int .i64 0))⟩])
  (.cond (.tmp 110) (.seq (.ops [⟨(some 8), none, .mv (.const (.bool false))⟩])
  (.ret)) (.skip)))
  (.seq (.seq (.ops [⟨(some 111), none, .mv (.tmp 17)⟩,
    ⟨(some 112), none, .mv (.tmp 16)⟩,
    ⟨(some 113), none, .bin .neq (.tmp 111) (.tmp 112)⟩])
  (.cond (.tmp 113) (.seq (.ops [⟨(some 8), none, .mv (.const (.bool false))⟩])
  (.ret)) (.skip)))
  (.seq (.ops [⟨(some 8), none, .mv (.const (.bool true))⟩])
  (.ret)))))))))))))))))))))))))))))))))
theorem h_laws_FnExactSendTo : (Try.prog.funcs[n_laws_FnExactSendTo]?).bind (fun fn => fn.body.bind (comp Try.prog fn.ntmps)) = some (AS.strip c_laws_FnExactSendTo) := by kernel_rfl
theorem r_laws_FnExactSendTo : (Try.prog.funcs[n_laws_FnExactSendTo]?).map (fun fn => (fn.results.toList, fn.ntmps)) = some ([.tmp 8], 114) := by kernel_rfl
-- 15 loop.example/g00850/laws.szNet
abbrev n_laws_szNet : Nat := 15
def c_laws_szNet : AS :=
  .seq (.ops [⟨(some 2), none, .box (.tmp 0)⟩,
    ⟨(some 4), none, .mv (.const (.int .i64 0))⟩])
  (.seq (.ops [⟨(some 5), none, .fa 1 (.tmp 2)⟩,
    ⟨(some 6), none, .load none (.tmp 5)⟩,
    ⟨(some 7), none, .mv (.tmp 1)⟩,
    ⟨(some 8), none, .call 29 [(.tmp 6), (.tmp 7)]⟩,
    ⟨(some 1), none, .mv (.tmp 8)⟩])
  (.seq (.seq (.ops [⟨(some 9), none, .mv (.tmp 1)⟩,
    ⟨(some 10), none, .bin .lss (.tmp 9) (.const (.int .i64 0))⟩])
  (.cond (.tmp 10) (.seq (.ops [⟨(some 4), none, .mv (.const (.int .i64 (-1)))⟩])
  (.ret)) (.skip)))
  (.seq (.ops [⟨(some 11), none, .fa 3 (.tmp 2)⟩,
    ⟨(some 12), none, .load none (.tmp 11)⟩,
    ⟨(some 13), none, .mv (.tmp 1)⟩,
    ⟨(some 14), none, .call 47 [(.tmp 12), (.tmp 13)]⟩,
    ⟨(some 1), none, .mv (.tmp 14)⟩])
  (.seq (.seq (.ops [⟨(some 15), none, .mv (.tmp 1)⟩,
    ⟨(some 16), none, .bin .lss (.tmp 15) (.const (.int .i64 0))⟩])
  (.cond (.tmp 16) (.seq (.ops [⟨(some 4), none, .mv (.const (.int .i64 (-1)))⟩])
  (.ret)) (.skip)))
  (.seq (.ops [⟨(some 17), none, .mv (.tmp 1)⟩,
    ⟨(some 4), none, .mv (.tmp 17)⟩])
  (.ret))))))
theorem h_laws_szNet : (Try.prog.funcs[n_laws_szNet]?).bind (fun fn => fn.body.bind (comp Try.prog fn.ntmps)) = some (AS.strip c_laws_szNet) := by kernel_rfl
theorem r_laws_szNet : (Try.prog.funcs[n_laws_szNet]?).map (fun fn => (fn.results.toList, fn.ntmps)) = some ([.tmp 4], 18) := by kernel_rfl
-- 17 loop.example/g00850/laws.toNet
abbrev n_laws_toNet : Nat := 17
def c_laws_toNet : AS :=
  .seq (.ops [⟨(some 1), none, .box (.tmp 0)⟩,
    ⟨(some 2), none, .alloc (.agg #[.int .i64 0, .slice none 0 0, .int .i64 0, .slice none 0 0])⟩])
  (.seq (.ops [⟨(some 3), none, .alloc (.agg #[.int .i64 0, .slice none 0 0, .int .i64 0, .slice none 0 0])⟩])
  (.seq (.ops [⟨(some 4), none, .fa 0 (.tmp 1)⟩,
    ⟨(some 5), none, .load none (.tmp 4)⟩,
    ⟨(some 6), none, .fa 0 (.tmp 3)⟩,
    ⟨none, none, .store 1 (.tmp 6) (.tmp 5)⟩])
  (.seq (.ops [⟨(some 7), none, .fa 1 (.tmp 1)⟩,
    ⟨(some 8), none, .load none (.tmp 7)⟩,
    ⟨(some 9), none, .call 35 [(.tmp 8)]⟩,
    ⟨(some 10), none, .fa 1 (.tmp 3)⟩,
    ⟨none, none, .store 1 (.tmp 10) (.tmp 9)⟩])
  (.seq (.ops [⟨(some 11), none, .fa 2 (.tmp 1)⟩,
    ⟨(some 12), none, .load none (.tmp 11)⟩,
    ⟨(some 13), none, .fa 2 (.tmp 3)⟩,
    ⟨none, none, .store 1 (.tmp 13) (.tmp 12)⟩])
  (.seq (.ops [⟨(some 14), none, .fa 3 (.tmp 1)⟩,
    ⟨(some 15), none, .load none (.tmp 14)⟩,
    ⟨(some 16), none, .call 51 [(.tmp 15)]⟩,
    ⟨(some 17), none, .fa 3 (.tmp 3)⟩,
    ⟨none, none, .store 1 (.tmp 17) (.tmp 16)⟩])
  (.seq (.ops [⟨(some 18), none, .load (some 4) (.tmp 3)⟩,
    ⟨none, none, .store 4 (.tmp 2) (.tmp 18)⟩])
  (.ret)))))))
theorem h_laws_toNet : (Try.prog.funcs[n_laws_toNet]?).bind (fun fn => fn.body.bind (comp Try.prog fn.ntmps)) = some (AS.strip c_laws_toNet) := by kernel_rfl
theorem r_laws_toNet : (Try.prog.funcs[n_laws_toNet]?).map (fun fn => (fn.results.toList, fn.ntmps)) = some ([.cell 2 40], 19) := by kernel_rfl
-- 19 loop.example/g00850/laws.eqNet
abbrev n_laws_eqNet : Nat := 19
def c_laws_eqNet : AS :=
  .seq (.ops [⟨(some 2), none, .box (.tmp 0)⟩,
    ⟨(some 3), none, .box (.tmp 1)⟩,
    ⟨(some 4), none, .mv (.const (.bool false))⟩])
  (.seq (.seq (.ops [⟨(some 5), none, .fa 0 (.tmp 2)⟩,
    ⟨(some 6), none, .load none (.tmp 5)⟩,
    ⟨(some 7), none, .fa 0 (.tmp 3)⟩,
    ⟨(some 8), none, .load none (.tmp 7)⟩,
    ⟨(some 9), none, .bin .neq (.tmp 6) (.tmp 8)⟩])
  (.cond (.tmp 9) (.seq (.ops [⟨(some 4), none, .mv (.const (.bool false))⟩])
  (.ret)) (.skip)))
  (.kept [2, 3] (.seq (.seq (.ops [⟨(some 10), none, .fa 1 (.tmp 2)⟩,
    ⟨(some 11), none, .load none (.tmp 10)⟩,
    ⟨(some 12), none, .fa 1 (.tmp 3)⟩,
    ⟨(some 13), none, .load none (.tmp 12)⟩,
    ⟨(some 14), none, .call 42 [(.tmp 11), (.tmp 13)]⟩,
    ⟨(some 15), none, .not (.tmp 14)⟩])
  (.cond (.tmp 15) (.seq (.ops [⟨(some 4), none, .mv (.const (.bool false))⟩])
  (.ret)) (.skip)))
  (.kept [2, 3] (.seq (.seq (.ops [⟨(some 16), none, .fa 2 (.tmp 2)⟩,
    ⟨(some 17), none, .load none (.tmp 16)⟩,
    ⟨(some 18), none, .fa 2 (.tmp 3)⟩,
    ⟨(some 19), none, .load none (.tmp 18)⟩,
    ⟨(some 20), none, .bin .neq (.tmp 17) (.tmp 19)⟩])
  (.cond (.tmp 20) (.seq (.ops [⟨(some 4), none, .mv (.const (.bool false))⟩])
  (.ret)) (.skip)))
  (.kept [2, 3] (.seq (.seq (.ops [⟨(some 21), none, .fa 3 (.tmp 2)⟩,
    ⟨(some 22), none, .load none (.tmp 21)⟩,
    ⟨(some 23), none, .fa 3 (.tmp 3)⟩,
    ⟨(some 24), none, .load none (.tmp 23)⟩,
    ⟨(some 25), none, .call 56 [(.tmp 22), (.tmp 24)]⟩,
    ⟨(some 26), none, .not (.tmp 25)⟩])
  (.cond (.tmp 26) (.seq (.ops [⟨(some 4), none, .mv (.const (.bool false))⟩])
  (.ret)) (.skip)))
  (.kept [] (.seq (.ops [⟨(some 4), none, .mv (.const (.bool true))⟩])
  (.ret))))))))))
theorem h_laws_eqNet : (Try.prog.funcs[n_laws_eqNet]?).bind (fun fn => fn.body.bind (comp Try.prog fn.ntmps)) = some (AS.strip c_laws_eqNet) := by kernel_rfl
theorem r_laws_eqNet : (Try.prog.funcs[n_laws_eqNet]?).map (fun fn => (fn.results.toList, fn.ntmps)) = some ([.tmp 4], 27) := by kernel_rfl
-- 20 loop.example/g00850/laws.markNet
abbrev n_laws_markNet : Nat := 20
def c_laws_markNet : AS :=
  .seq (.ops [⟨(some 2), none, .box (.tmp 0)⟩,
    ⟨(some 4), none, .mv (.const (.int .i64 0))⟩])
  (.seq (.ops [⟨(some 5), none, .fa 1 (.tmp 2)⟩,
    ⟨(some 6), none, .load none (.tmp 5)⟩,
    ⟨(some 7), none, .mv (.tmp 1)⟩,
    ⟨(some 8), none, .call 44 [(.tmp 6), (.tmp 7)]⟩,
    ⟨(some 1), none, .mv (.tmp 8)⟩])
  (.seq (.ops [⟨(some 9), none, .fa 3 (.tmp 2)⟩,
    ⟨(some 10), none, .load none (.tmp 9)⟩,
    ⟨(some 11), none, .mv (.tmp 1)⟩,
    ⟨(some 12), none, .call 57 [(.tmp 10), (.tmp 11)]⟩,
    ⟨(some 1), none, .mv (.tmp 12)⟩])
  (.seq (.ops [⟨(some 13), none, .mv (.tmp 1)⟩,
    ⟨(some 4), none, .mv (.tmp 13)⟩])
  (.ret))))
theorem h_laws_markNet : (Try.prog.funcs[n_laws_markNet]?).bind (fun fn => fn.body.bind (comp Try.prog fn.ntmps)) = some (AS.strip c_laws_markNet) := by kernel_rfl
theorem r_laws_markNet : (Try.prog.funcs[n_laws_markNet]?).map (fun fn => (fn.results.toList, fn.ntmps)) = some ([.tmp 4], 14) := by kernel_rfl
-- 21 loop.example/g00850/laws.heldNet
abbrev n_laws_heldNet : Nat := 21
def c_laws_heldNet : AS :=
  .seq (.ops [⟨(some 2), none, .box (.tmp 0)⟩,
    ⟨(some 4), none, .mv (.const (.int .i64 0))⟩])
  (.seq (.ops [⟨(some 5), none, .fa 1 (.tmp 2)⟩,
    ⟨(some 6), none, .load none (.tmp 5)⟩,
    ⟨(some 7), none, .mv (.tmp 1)⟩,
    ⟨(some 8), none, .call 46 [(.tmp 6), (.tmp 7)]⟩,
    ⟨(some 1), none, .mv (.tmp 8)⟩])
  (.seq (.seq (.ops [⟨(some 9), none, .mv (.tmp 1)⟩,
    ⟨(some 10), none, .bin .lss (.tmp 9) (.const (.int .i64 0))⟩])
  (.cond (.tmp 10) (.seq (.ops [⟨(some 4), none, .mv (.const (.int .i64 (-1)))⟩])
  (.ret)) (.skip)))
  (.seq (.ops [⟨(some 11), none, .fa 3 (.tmp 2)⟩,
    ⟨(some 12), none, .load none (.tmp 11)⟩,
    ⟨(some 13), none, .mv (.tmp 1)⟩,
    ⟨(some 14), none, .call 58 [(.tmp 12), (.tmp 13)]⟩,
    ⟨(some 1), none, .mv (.tmp 14)⟩])
  (.seq (.seq (.ops [⟨(some 15), none, .mv (.tmp 1)⟩,
    ⟨(some 16), none, .bin .lss (.tmp 15) (.const (.int .i64 0))⟩])
  (.cond (.tmp 16) (.seq (.ops [⟨(some 4), none, .mv (.const (.int .i64 (-1)))⟩])
  (.ret)) (.skip)))
  (.seq (.ops [⟨(some 17), none, .mv (.tmp 1)⟩,
    ⟨(some 4), none, .mv (.tmp 17)⟩])
  (.ret))))))
theorem h_laws_heldNet : (Try.prog.funcs[n_laws_heldNet]?).bind (fun fn => fn.body.bind (comp Try.prog fn.ntmps)) = some (AS.strip c_laws_heldNet) := by kernel_rfl
theorem r_laws_heldNet : (Try.prog.funcs[n_laws_heldNet]?).map (fun fn => (fn.results.toList, fn.ntmps)) = some ([.tmp 4], 18) := by kernel_rfl
-- 26 loop.example/g00850/spec.SendTo
abbrev n_spec_SendTo : Nat := 26
def c_spec_SendTo : AS :=
  .seq (.ops [⟨(some 4), none, .box (.tmp 0)⟩,
    ⟨(some 8), none, .alloc (.agg #[.int .i64 0, .slice none 0 0, .int .i64 0, .slice none 0 0])⟩,
    ⟨(some 9), none, .mv (.const (.bool false))⟩])
  (.seq (.seq (.ops [⟨(some 10), none, .load (some 4) (.tmp 4)⟩,
    ⟨(some 11), none, .call 63 [(.tmp 10)]⟩,
    ⟨(some 12), none, .not (.tmp 11)⟩,
    ⟨(some 13), none, .mv (.tmp 12)⟩,
    ⟨(some 14), some (13, false), .load (some 4) (.tmp 4)⟩,
    ⟨(some 15), some (13, false), .mv (.tmp 1)⟩,
    ⟨(some 16), some (13, false), .call 64 [(.tmp 14), (.tmp 15)]⟩,
    ⟨(some 17), some (13, false), .not (.tmp 16)⟩,
    ⟨(some 18), none, .pick (.tmp 13) (.const (.bool true)) (.tmp 17)⟩,
    ⟨(some 19), none, .mv (.tmp 18)⟩,
    ⟨(some 20), some (19, false), .load (some 4) (.tmp 4)⟩,
    ⟨(some 21), some (19, false), .mv (.tmp 2)⟩,
    ⟨(some 22), some (19, false), .call 64 [(.tmp 20), (.tmp 21)]⟩,
    ⟨(some 23), some (19, false), .not (.tmp 22)⟩,
    ⟨(some 24), none, .pick (.tmp 19) (.const (.bool true)) (.tmp 23)⟩,
    ⟨(some 25), none, .mv (.tmp 24)⟩,
    ⟨(some 26), some (25, false), .mv (.tmp 1)⟩,
    ⟨(some 27), some (25, false), .mv (.tmp 2)⟩,
    ⟨(some 28), some (25, false), .bin .eql (.tmp 26) (.tmp 27)⟩,
    ⟨(some 29), none, .pick (.tmp 25) (.const (.bool true)) (.tmp 28)⟩])
  (.kept [1, 2, 3, 4, 8, 29] (.cond (.tmp 29) (.seq (.ops [⟨(some 30), none, .build (.agg #[.int .i64 0, .slice none 0 0, .int .i64 0, .slice none 0 0]) []⟩,
    ⟨none, none, .store 4 (.tmp 8) (.tmp 30)⟩,
    ⟨(some 9), none, .mv (.const (.bool false))⟩])
  (.ret)) (.skip))))
  (.kept [1, 2, 3, 4, 8] (.seq (.rops [(none, ⟨(some 31), none, .load (some 4) (.tmp 4)⟩),
    (none, ⟨(some 32), none, .fa 3 (.tmp 4)⟩),
    (none, ⟨(some 33), none, .load none (.tmp 32)⟩),
    (none, ⟨(some 34), none, .mv (.tmp 1)⟩),
    (none, ⟨(some 35), none, .mv (.tmp 2)⟩),
    (none, ⟨(some 36), none, .fa 0 (.tmp 4)⟩),
    (none, ⟨(some 37), none, .load none (.tmp 36)⟩),
    (none, ⟨(some 38), none, .load (some 4) (.tmp 4)⟩),
    (none, ⟨(some 39), none, .mv (.tmp 1)⟩),
    (none, ⟨(some 40), none, .mv (.tmp 2)⟩),
    (none, ⟨(some 43), none, .mv (.tmp 3)⟩),
    (some [⟨(some 43), none, .mv (.tmp 3)⟩, ⟨(some 37), none, .load none (.tmp 36)⟩, ⟨(some 36), none, .fa 0 (.tmp 4)⟩, ⟨(some 35), none, .mv (.tmp 2)⟩, ⟨(some 34), none, .mv (.tmp 1)⟩, ⟨(some 33), none, .load none (.tmp 32)⟩, ⟨(some 32), none, .fa 3 (.tmp 4)⟩, ⟨(some 31), none, .load (some 4) (.tmp 4)⟩], ⟨(some 41), none, .call 65 [(.tmp 38), (.tmp 39), (.tmp 40)]⟩),
    (none, ⟨(some 42), none, .bin .add (.tmp 37) (.tmp 41)⟩),
    (none, ⟨(some 44), none, .build (.agg #[.int .i64 0, .int .i64 0, .int .i64 0, .string ⟨⟨[]⟩⟩]) [(0, 1, (.tmp 34)), (1, 1, (.tmp 35)), (2, 1, (.tmp 42)), (3, 1, (.tmp 43))]⟩),
    (some [⟨(some 31), none, .load (some 4) (.tmp 4)⟩], ⟨(some 45), none, .call 60 [(.tmp 33), (.tmp 44)]⟩),
    (some [], ⟨(some 46), none, .call 49 [(.tmp 31), (.tmp 45)]⟩),
    (some [], ⟨(some 47), none, .call 59 [(.tmp 46)]⟩),
    (none, ⟨(some 48), none, .ext 0 (.tmp 47)⟩),
    (none, ⟨(some 49), none, .ext 1 (.tmp 47)⟩),
    (some [], ⟨none, none, .store 4 (.tmp 8) (.tmp 48)⟩),
    (none, ⟨(some 9), none, .mv (.tmp 49)⟩)])
  (.ret))))
theorem h_spec_SendTo : (Try.prog.funcs[n_spec_SendTo]?).bind (fun fn => fn.body.bind (comp Try.prog fn.ntmps)) = some (AS.strip c_spec_SendTo) := by kernel_rfl
theorem r_spec_SendTo : (Try.prog.funcs[n_spec_SendTo]?).map (fun fn => (fn.results.toList, fn.ntmps)) = some ([.cell 8 40, .tmp 9], 50) := by kernel_rfl
-- 27 loop.example/g00850/impl.SendTo
abbrev n_impl_SendTo : Nat := 27
def c_impl_SendTo : AS :=
  .seq (.ops [⟨(some 4), none, .box (.tmp 0)⟩,
    ⟨(some 8), none, .alloc (.agg #[.int .i64 0, .slice none 0 0, .int .i64 0, .slice none 0 0])⟩,
    ⟨(some 9), none, .mv (.const (.bool false))⟩])
  (.seq (.seq (.ops [⟨(some 10), none, .load (some 4) (.tmp 4)⟩,
    ⟨(some 11), none, .call 66 [(.tmp 10)]⟩,
    ⟨(some 12), none, .not (.tmp 11)⟩])
  (.cond (.tmp 12) (.seq (.ops [⟨(some 13), none, .build (.agg #[.int .i64 0, .slice none 0 0, .int .i64 0, .slice none 0 0]) []⟩,
    ⟨none, none, .store 4 (.tmp 8) (.tmp 13)⟩,
    ⟨(some 9), none, .mv (.const (.bool false))⟩])
  (.ret)) (.skip)))
  (.seq (.ops [⟨(some 14), none, .load (some 4) (.tmp 4)⟩,
    ⟨(some 15), none, .mv (.tmp 1)⟩,
    ⟨(some 16), none, .mv (.tmp 2)⟩,
    ⟨(some 17), none, .mv (.tmp 3)⟩,
    ⟨(some 18), none, .call 67 [(.tmp 14), (.tmp 15), (.tmp 16), (.tmp 17)]⟩,
    ⟨(some 19), none, .ext 0 (.tmp 18)⟩,
    ⟨(some 20), none, .ext 1 (.tmp 18)⟩,
    ⟨none, none, .store 4 (.tmp 8) (.tmp 19)⟩,
    ⟨(some 9), none, .mv (.tmp 20)⟩])
  (.ret)))
theorem h_impl_SendTo : (Try.prog.funcs[n_impl_SendTo]?).bind (fun fn => fn.body.bind (comp Try.prog fn.ntmps)) = some (AS.strip c_impl_SendTo) := by kernel_rfl
theorem r_impl_SendTo : (Try.prog.funcs[n_impl_SendTo]?).map (fun fn => (fn.results.toList, fn.ntmps)) = some ([.cell 8 40, .tmp 9], 21) := by kernel_rfl
-- 29 loop.example/g00850/laws.szIntS
abbrev n_laws_szIntS : Nat := 29
def c_laws_szIntS : AS :=
  .seq (.ops [⟨(some 4), none, .mv (.const (.int .i64 0))⟩])
  (.seq (.ops [⟨(some 5), none, .mv (.tmp 1)⟩,
    ⟨(some 6), none, .mv (.tmp 0)⟩,
    ⟨(some 7), none, .lens (.tmp 6)⟩,
    ⟨(some 8), none, .bin .sub (.tmp 5) (.tmp 7)⟩,
    ⟨(some 1), none, .mv (.tmp 8)⟩])
  (.seq (.seq (.ops [⟨(some 9), none, .mv (.tmp 1)⟩,
    ⟨(some 10), none, .bin .lss (.tmp 9) (.const (.int .i64 0))⟩])
  (.cond (.tmp 10) (.seq (.ops [⟨(some 4), none, .mv (.const (.int .i64 (-1)))⟩])
  (.ret)) (.skip)))
  (.seq (.ops [⟨(some 11), none, .mv (.tmp 1)⟩,
    ⟨(some 4), none, .mv (.tmp 11)⟩])
  (.ret))))
theorem h_laws_szIntS : (Try.prog.funcs[n_laws_szIntS]?).bind (fun fn => fn.body.bind (comp Try.prog fn.ntmps)) = some (AS.strip c_laws_szIntS) := by kernel_rfl
theorem r_laws_szIntS : (Try.prog.funcs[n_laws_szIntS]?).map (fun fn => (fn.results.toList, fn.ntmps)) = some ([.tmp 4], 12) := by kernel_rfl
-- 31 loop.example/g00850/spec.l1In
abbrev n_spec_l1In : Nat := 31
def c_spec_l1In : AS :=
  .seq (.ops [⟨(some 6), none, .mv (.const (.bool false))⟩])
  (.seq (.ops [⟨(some 7), none, .mv (.tmp 0)⟩,
    ⟨(some 8), none, .mv (.tmp 1)⟩,
    ⟨(some 9), none, .bin .geq (.tmp 7) (.tmp 8)⟩,
    ⟨(some 10), none, .mv (.tmp 9)⟩,
    ⟨(some 11), some (10, true), .mv (.tmp 0)⟩,
    ⟨(some 12), some (10, true), .mv (.tmp 2)⟩,
    ⟨(some 13), some (10, true), .bin .leq (.tmp 11) (.tmp 12)⟩,
    ⟨(some 14), none, .pick (.tmp 10) (.tmp 13) (.const (.bool false))⟩,
    ⟨(some 6), none, .mv (.tmp 14)⟩])
  (.ret))
theorem h_spec_l1In : (Try.prog.funcs[n_spec_l1In]?).bind (fun fn => fn.body.bind (comp Try.prog fn.ntmps)) = some (AS.strip c_spec_l1In) := by kernel_rfl
theorem r_spec_l1In : (Try.prog.funcs[n_spec_l1In]?).map (fun fn => (fn.results.toList, fn.ntmps)) = some ([.tmp 6], 15) := by kernel_rfl
-- 32 loop.example/g00850/spec.l1Own
abbrev n_spec_l1Own : Nat := 32
def c_spec_l1Own : AS :=
  .seq (.ops [⟨(some 2), none, .mv (.const (.slice none 0 0))⟩])
  (.seq (.ops [⟨(some 3), none, .bsl 1 (.int .i64 0) 0 []⟩,
    ⟨(some 4), none, .mv (.tmp 0)⟩,
    ⟨(some 5), none, .app 1 8 (.int .i64 0) (.tmp 3) (.tmp 4)⟩,
    ⟨(some 2), none, .mv (.tmp 5)⟩])
  (.ret))
theorem h_spec_l1Own : (Try.prog.funcs[n_spec_l1Own]?).bind (fun fn => fn.body.bind (comp Try.prog fn.ntmps)) = some (AS.strip c_spec_l1Own) := by kernel_rfl
theorem r_spec_l1Own : (Try.prog.funcs[n_spec_l1Own]?).map (fun fn => (fn.results.toList, fn.ntmps)) = some ([.tmp 2], 6) := by kernel_rfl
-- 35 loop.example/g00850/laws.toIntS
abbrev n_laws_toIntS : Nat := 35
def c_laws_toIntS_l1 : AS :=
  .seq (.seq (.ops [⟨(some 8), none, .mv (.tmp 4)⟩,
    ⟨(some 9), none, .mv (.tmp 0)⟩,
    ⟨(some 10), none, .lens (.tmp 9)⟩,
    ⟨(some 11), none, .bin .lss (.tmp 8) (.tmp 10)⟩])
  (.cond (.tmp 11) (.skip) (.exit 0)))
  (.seq (.block 1 (.ops [⟨(some 14), none, .mv (.tmp 3)⟩,
    ⟨(some 15), none, .mv (.tmp 4)⟩,
    ⟨(some 16), none, .mv (.tmp 0)⟩,
    ⟨(some 17), none, .mv (.tmp 4)⟩,
    ⟨(some 18), none, .ia 1 (.tmp 16) (.tmp 17)⟩,
    ⟨(some 19), none, .load none (.tmp 18)⟩,
    ⟨(some 20), none, .ia 1 (.tmp 14) (.tmp 15)⟩,
    ⟨none, none, .store 1 (.tmp 20) (.tmp 19)⟩]))
  (.kept [0, 3, 4] (.ops [⟨(some 12), none, .mv (.tmp 4)⟩,
    ⟨(some 13), none, .bin .add (.tmp 12) (.const (.int .i64 1))⟩,
    ⟨(some 4), none, .mv (.tmp 13)⟩])))
def c_laws_toIntS : AS :=
  .seq (.ops [⟨(some 2), none, .mv (.const (.slice none 0 0))⟩])
  (.seq (.ops [⟨(some 5), none, .mv (.tmp 0)⟩,
    ⟨(some 6), none, .lens (.tmp 5)⟩,
    ⟨(some 7), none, .mks 1 8 (.int .i64 0) (.tmp 6) (.tmp 6)⟩,
    ⟨(some 3), none, .mv (.tmp 7)⟩])
  (.seq (.seq (.ops [⟨(some 4), none, .mv (.const (.int .i64 0))⟩])
  (.block 0 (.loop 1 [(0, 0), (3, 0), (4, 0)] c_laws_toIntS_l1)))
  (.kept [3] (.seq (.ops [⟨(some 21), none, .mv (.tmp 3)⟩,
    ⟨(some 2), none, .mv (.tmp 21)⟩])
  (.ret)))))
theorem h_laws_toIntS : (Try.prog.funcs[n_laws_toIntS]?).bind (fun fn => fn.body.bind (comp Try.prog fn.ntmps)) = some (AS.strip c_laws_toIntS) := by kernel_rfl
theorem r_laws_toIntS : (Try.prog.funcs[n_laws_toIntS]?).map (fun fn => (fn.results.toList, fn.ntmps)) = some ([.tmp 2], 22) := by kernel_rfl
-- 42 loop.example/g00850/laws.eqIntS
abbrev n_laws_eqIntS : Nat := 42
def c_laws_eqIntS_l1 : AS :=
  .seq (.seq (.ops [⟨(some 11), none, .mv (.tmp 5)⟩,
    ⟨(some 12), none, .mv (.tmp 0)⟩,
    ⟨(some 13), none, .lens (.tmp 12)⟩,
    ⟨(some 14), none, .bin .lss (.tmp 11) (.tmp 13)⟩])
  (.cond (.tmp 14) (.skip) (.exit 0)))
  (.seq (.block 1 (.seq (.dops [⟨(some 17), none, .mv (.tmp 0)⟩,
    ⟨(some 18), none, .mv (.tmp 5)⟩,
    ⟨(some 19), none, .ia 1 (.tmp 17) (.tmp 18)⟩,
    ⟨(some 20), none, .load none (.tmp 19)⟩,
    ⟨(some 21), none, .mv (.tmp 1)⟩,
    ⟨(some 22), none, .mv (.tmp 5)⟩,
    ⟨(some 23), none, .ia 1 (.tmp 21) (.tmp 22)⟩,
    ⟨(some 24), none, .load none (.tmp 23)⟩,
    ⟨(some 25), none, .bin .neq (.tmp 20) (.tmp 24)⟩])
  (.kept [0, 1, 5, 25] (.cond (.tmp 25) (.seq (.ops [⟨(some 4), none, .mv (.const (.bool false))⟩])
  (.ret)) (.skip)))))
  (.kept [0, 1, 5] (.ops [⟨(some 15), none, .mv (.tmp 5)⟩,
    ⟨(some 16), none, .bin .add (.tmp 15) (.const (.int .i64 1))⟩,
    ⟨(some 5), none, .mv (.tmp 16)⟩])))
def c_laws_eqIntS : AS :=
  .seq (.ops [⟨(some 4), none, .mv (.const (.bool false))⟩])
  (.seq (.seq (.ops [⟨(some 6), none, .mv (.tmp 0)⟩,
    ⟨(some 7), none, .lens (.tmp 6)⟩,
    ⟨(some 8), none, .mv (.tmp 1)⟩,
    ⟨(some 9), none, .lens (.tmp 8)⟩,
    ⟨(some 10), none, .bin .neq (.tmp 7) (.tmp 9)⟩])
  (.cond (.tmp 10) (.seq (.ops [⟨(some 4), none, .mv (.const (.bool false))⟩])
  (.ret)) (.skip)))
  (.kept [0, 1] (.seq (.seq (.ops [⟨(some 5), none, .mv (.const (.int .i64 0))⟩])
  (.block 0 (.loop 2 [(0, 0), (1, 0), (5, 0)] c_laws_eqIntS_l1)))
  (.kept [] (.seq (.ops [⟨(some 4), none, .mv (.const (.bool true))⟩])
  (.ret))))))
theorem h_laws_eqIntS : (Try.prog.funcs[n_laws_eqIntS]?).bind (fun fn => fn.body.bind (comp Try.prog fn.ntmps)) = some (AS.strip c_laws_eqIntS) := by kernel_rfl
theorem r_laws_eqIntS : (Try.prog.funcs[n_laws_eqIntS]?).map (fun fn => (fn.results.toList, fn.ntmps)) = some ([.tmp 4], 26) := by kernel_rfl
-- 44 loop.example/g00850/laws.markIntS
abbrev n_laws_markIntS : Nat := 44
def c_laws_markIntS_l1 : AS :=
  .seq (.seq (.ops [⟨(some 6), none, .mv (.tmp 5)⟩,
    ⟨(some 7), none, .mv (.tmp 0)⟩,
    ⟨(some 8), none, .lens (.tmp 7)⟩,
    ⟨(some 9), none, .bin .lss (.tmp 6) (.tmp 8)⟩])
  (.cond (.tmp 9) (.skip) (.exit 0)))
  (.seq (.block 1 (.seq (.ops [⟨(some 12), none, .mv (.tmp 0)⟩,
    ⟨(some 13), none, .mv (.tmp 5)⟩,
    ⟨(some 14), none, .mv (.tmp 1)⟩,
    ⟨(some 15), none, .ia 1 (.tmp 12) (.tmp 13)⟩,
    ⟨none, none, .store 1 (.tmp 15) (.tmp 14)⟩])
  (.ops [⟨(some 16), none, .mv (.tmp 1)⟩,
    ⟨(some 17), none, .bin .add (.tmp 16) (.const (.int .i64 1))⟩,
    ⟨(some 1), none, .mv (.tmp 17)⟩])))
  (.kept [0, 1, 5] (.ops [⟨(some 10), none, .mv (.tmp 5)⟩,
    ⟨(some 11), none, .bin .add (.tmp 10) (.const (.int .i64 1))⟩,
    ⟨(some 5), none, .mv (.tmp 11)⟩])))
def c_laws_markIntS : AS :=
  .seq (.ops [⟨(some 4), none, .mv (.const (.int .i64 0))⟩])
  (.seq (.seq (.ops [⟨(some 5), none, .mv (.const (.int .i64 0))⟩])
  (.block 0 (.loop 2 [(0, 0), (1, 0), (5, 0)] c_laws_markIntS_l1)))
  (.kept [1] (.seq (.ops [⟨(some 18), none, .mv (.tmp 1)⟩,
    ⟨(some 4), none, .mv (.tmp 18)⟩])
  (.ret))))
theorem h_laws_markIntS : (Try.prog.funcs[n_laws_markIntS]?).bind (fun fn => fn.body.bind (comp Try.prog fn.ntmps)) = some (AS.strip c_laws_markIntS) := by kernel_rfl
theorem r_laws_markIntS : (Try.prog.funcs[n_laws_markIntS]?).map (fun fn => (fn.results.toList, fn.ntmps)) = some ([.tmp 4], 19) := by kernel_rfl
-- 46 loop.example/g00850/laws.heldIntS
abbrev n_laws_heldIntS : Nat := 46
def c_laws_heldIntS_l1 : AS :=
  .seq (.seq (.ops [⟨(some 6), none, .mv (.tmp 5)⟩,
    ⟨(some 7), none, .mv (.tmp 0)⟩,
    ⟨(some 8), none, .lens (.tmp 7)⟩,
    ⟨(some 9), none, .bin .lss (.tmp 6) (.tmp 8)⟩])
  (.cond (.tmp 9) (.skip) (.exit 0)))
  (.seq (.block 1 (.seq (.seq (.ops [⟨(some 12), none, .mv (.tmp 0)⟩,
    ⟨(some 13), none, .mv (.tmp 5)⟩,
    ⟨(some 14), none, .ia 1 (.tmp 12) (.tmp 13)⟩,
    ⟨(some 15), none, .load none (.tmp 14)⟩,
    ⟨(some 16), none, .mv (.tmp 1)⟩,
    ⟨(some 17), none, .bin .neq (.tmp 15) (.tmp 16)⟩])
  (.cond (.tmp 17) (.seq (.ops [⟨(some 4), none, .mv (.const (.int .i64 (-1)))⟩])
  (.ret)) (.skip)))
  (.kept [0, 1, 5] (.ops [⟨(some 18), none, .mv (.tmp 1)⟩,
    ⟨(some 19), none, .bin .add (.tmp 18) (.const (.int .i64 1))⟩,
    ⟨(some 1), none, .mv (.tmp 19)⟩]))))
  (.kept [0, 1, 5] (.ops [⟨(some 10), none, .mv (.tmp 5)⟩,
    ⟨(some 11), none, .bin .add (.tmp 10) (.const (.int .i64 1))⟩,
    ⟨(some 5), none, .mv (.tmp 11)⟩])))
def c_laws_heldIntS : AS :=
  .seq (.ops [⟨(some 4), none, .mv (.const (.int .i64 0))⟩])
  (.seq (.seq (.ops [⟨(some 5), none, .mv (.const (.int .i64 0))⟩])
  (.block 0 (.loop 2 [(0, 0), (1, 0), (5, 0)] c_laws_heldIntS_l1)))
  (.kept [1] (.seq (.ops [⟨(some 20), none, .mv (.tmp 1)⟩,
    ⟨(some 4), none, .mv (.tmp 20)⟩])
  (.ret))))
theorem h_laws_heldIntS : (Try.prog.funcs[n_laws_heldIntS]?).bind (fun fn => fn.body.bind (comp Try.prog fn.ntmps)) = some (AS.strip c_laws_heldIntS) := by kernel_rfl
theorem r_laws_heldIntS : (Try.prog.funcs[n_laws_heldIntS]?).map (fun fn => (fn.results.toList, fn.ntmps)) = some ([.tmp 4], 21) := by kernel_rfl
-- 47 loop.example/g00850/laws.szLetterS
abbrev n_laws_szLetterS : Nat := 47
def c_laws_szLetterS_l1 : AS :=
  .seq (.seq (.ops [⟨(some 12), none, .mv (.tmp 5)⟩,
    ⟨(some 13), none, .mv (.tmp 0)⟩,
    ⟨(some 14), none, .lens (.tmp 13)⟩,
    ⟨(some 15), none, .bin .lss (.tmp 12) (.tmp 14)⟩])
  (.cond (.tmp 15) (.skip) (.exit 0)))
  (.seq (.block 1 (.seq (.ops [⟨(some 18), none, .mv (.tmp 0)⟩,
    ⟨(some 19), none, .mv (.tmp 5)⟩,
    ⟨(some 20), none, .ia 4 (.tmp 18) (.tmp 19)⟩,
    ⟨(some 21), none, .load (some 4) (.tmp 20)⟩,
    ⟨(some 22), none, .mv (.tmp 1)⟩,
    ⟨(some 23), none, .call 74 [(.tmp 21), (.tmp 22)]⟩,
    ⟨(some 1), none, .mv (.tmp 23)⟩])
  (.kept [0, 1, 5] (.seq (.ops [⟨(some 24), none, .mv (.tmp 1)⟩,
    ⟨(some 25), none, .bin .lss (.tmp 24) (.const (.int .i64 0))⟩])
  (.cond (.tmp 25) (.seq (.ops [⟨(some 4), none, .mv (.const (.int .i64 (-1)))⟩])
  (.ret)) (.skip))))))
  (.kept [0, 1, 5] (.ops [⟨(some 16), none, .mv (.tmp 5)⟩,
    ⟨(some 17), none, .bin .add (.tmp 16) (.const (.int .i64 1))⟩,
    ⟨(some 5), none, .mv (.tmp 17)⟩])))
def c_laws_szLetterS : AS :=
  .seq (.ops [⟨(some 4), none, .mv (.const (.int .i64 0))⟩])
  (.seq (.ops [⟨(some 6), none, .mv (.tmp 1)⟩,
    ⟨(some 7), none, .mv (.tmp 0)⟩,
    ⟨(some 8), none, .lens (.tmp 7)⟩,
    ⟨(some 9), none, .bin .sub (.tmp 6) (.tmp 8)⟩,
    ⟨(some 1), none, .mv (.tmp 9)⟩])
  (.seq (.seq (.ops [⟨(some 10), none, .mv (.tmp 1)⟩,
    ⟨(some 11), none, .bin .lss (.tmp 10) (.const (.int .i64 0))⟩])
  (.cond (.tmp 11) (.seq (.ops [⟨(some 4), none, .mv (.const (.int .i64 (-1)))⟩])
  (.ret)) (.skip)))
  (.seq (.seq (.ops [⟨(some 5), none, .mv (.const (.int .i64 0))⟩])
  (.block 0 (.loop 2 [(0, 0), (1, 0), (5, 0)] c_laws_szLetterS_l1)))
  (.kept [1] (.seq (.ops [⟨(some 26), none, .mv (.tmp 1)⟩,
    ⟨(some 4), none, .mv (.tmp 26)⟩])
  (.ret))))))
theorem h_laws_szLetterS : (Try.prog.funcs[n_laws_szLetterS]?).bind (fun fn => fn.body.bind (comp Try.prog fn.ntmps)) = some (AS.strip c_laws_szLetterS) := by kernel_rfl
theorem r_laws_szLetterS : (Try.prog.funcs[n_laws_szLetterS]?).map (fun fn => (fn.results.toList, fn.ntmps)) = some ([.tmp 4], 27) := by kernel_rfl
-- 49 loop.example/g00850/spec.l7Own
abbrev n_spec_l7Own : Nat := 49
def c_spec_l7Own : AS :=
  .seq (.ops [⟨(some 2), none, .box (.tmp 0)⟩,
    ⟨(some 4), none, .alloc (.agg #[.int .i64 0, .slice none 0 0, .int .i64 0, .slice none 0 0])⟩])
  (.seq (.rops [(none, ⟨(some 5), none, .fa 0 (.tmp 2)⟩),
    (none, ⟨(some 6), none, .load none (.tmp 5)⟩),
    (none, ⟨(some 7), none, .fa 1 (.tmp 2)⟩),
    (none, ⟨(some 8), none, .load none (.tmp 7)⟩),
    (none, ⟨(some 10), none, .fa 2 (.tmp 2)⟩),
    (none, ⟨(some 11), none, .load none (.tmp 10)⟩),
    (none, ⟨(some 12), none, .mv (.tmp 1)⟩),
    (some [⟨(some 12), none, .mv (.tmp 1)⟩, ⟨(some 11), none, .load none (.tmp 10)⟩, ⟨(some 10), none, .fa 2 (.tmp 2)⟩, ⟨(some 6), none, .load none (.tmp 5)⟩, ⟨(some 5), none, .fa 0 (.tmp 2)⟩], ⟨(some 9), none, .call 32 [(.tmp 8)]⟩),
    (some [⟨(some 11), none, .load none (.tmp 10)⟩, ⟨(some 10), none, .fa 2 (.tmp 2)⟩, ⟨(some 6), none, .load none (.tmp 5)⟩, ⟨(some 5), none, .fa 0 (.tmp 2)⟩], ⟨(some 13), none, .call 75 [(.tmp 12)]⟩),
    (none, ⟨(some 14), none, .build (.agg #[.int .i64 0, .slice none 0 0, .int .i64 0, .slice none 0 0]) [(0, 1, (.tmp 6)), (1, 1, (.tmp 9)), (2, 1, (.tmp 11)), (3, 1, (.tmp 13))]⟩),
    (some [], ⟨none, none, .store 4 (.tmp 4) (.tmp 14)⟩)])
  (.ret))
theorem h_spec_l7Own : (Try.prog.funcs[n_spec_l7Own]?).bind (fun fn => fn.body.bind (comp Try.prog fn.ntmps)) = some (AS.strip c_spec_l7Own) := by kernel_rfl
theorem r_spec_l7Own : (Try.prog.funcs[n_spec_l7Own]?).map (fun fn => (fn.results.toList, fn.ntmps)) = some ([.cell 4 40], 15) := by kernel_rfl
-- 51 loop.example/g00850/laws.toLetterS
abbrev n_laws_toLetterS : Nat := 51
def c_laws_toLetterS_l1 : AS :=
  .seq (.seq (.ops [⟨(some 8), none, .mv (.tmp 4)⟩,
    ⟨(some 9), none, .mv (.tmp 0)⟩,
    ⟨(some 10), none, .lens (.tmp 9)⟩,
    ⟨(some 11), none, .bin .lss (.tmp 8) (.tmp 10)⟩])
  (.cond (.tmp 11) (.skip) (.exit 0)))
  (.seq (.block 1 (.ops [⟨(some 14), none, .mv (.tmp 3)⟩,
    ⟨(some 15), none, .mv (.tmp 4)⟩,
    ⟨(some 16), none, .mv (.tmp 0)⟩,
    ⟨(some 17), none, .mv (.tmp 4)⟩,
    ⟨(some 18), none, .ia 4 (.tmp 16) (.tmp 17)⟩,
    ⟨(some 19), none, .load (some 4) (.tmp 18)⟩,
    ⟨(some 20), none, .call 76 [(.tmp 19)]⟩,
    ⟨(some 21), none, .ia 4 (.tmp 14) (.tmp 15)⟩,
    ⟨none, none, .store 4 (.tmp 21) (.tmp 20)⟩]))
  (.kept [0, 3, 4] (.ops [⟨(some 12), none, .mv (.tmp 4)⟩,
    ⟨(some 13), none, .bin .add (.tmp 12) (.const (.int .i64 1))⟩,
    ⟨(some 4), none, .mv (.tmp 13)⟩])))
def c_laws_toLetterS : AS :=
  .seq (.ops [⟨(some 2), none, .mv (.const (.slice none 0 0))⟩])
  (.seq (.ops [⟨(some 5), none, .mv (.tmp 0)⟩,
    ⟨(some 6), none, .lens (.tmp 5)⟩,
    ⟨(some 7), none, .mks 4 40 (.agg #[.int .i64 0, .int .i64 0, .int .i64 0, .string ⟨⟨[]⟩⟩]) (.tmp 6) (.tmp 6)⟩,
    ⟨(some 3), none, .mv (.tmp 7)⟩])
  (.seq (.seq (.ops [⟨(some 4), none, .mv (.const (.int .i64 0))⟩])
  (.block 0 (.loop 1 [(0, 0), (3, 0), (4, 0)] c_laws_toLetterS_l1)))
  (.kept [3] (.seq (.ops [⟨(some 22), none, .mv (.tmp 3)⟩,
    ⟨(some 2), none, .mv (.tmp 22)⟩])
  (.ret)))))
theorem h_laws_toLetterS : (Try.prog.funcs[n_laws_toLetterS]?).bind (fun fn => fn.body.bind (comp Try.prog fn.ntmps)) = some (AS.strip c_laws_toLetterS) := by kernel_rfl
theorem r_laws_toLetterS : (Try.prog.funcs[n_laws_toLetterS]?).map (fun fn => (fn.results.toList, fn.ntmps)) = some ([.tmp 2], 23) := by kernel_rfl
-- 55 slices.Clone[[]loop.example/g00850/impl.Letter,loop.example/g00850/impl.Letter]
abbrev n_slices_Clone___impl_Letter_impl_Letter_ : Nat := 55
def c_slices_Clone___impl_Letter_impl_Letter_ : AS :=
  .seq (.ops [⟨(some 2), none, .mv (.const (.slice none 0 0))⟩])
  (.seq (.seq (.ops [⟨(some 3), none, .mv (.tmp 0)⟩,
    ⟨(some 4), none, .isn false (.tmp 3)⟩])
  (.cond (.tmp 4) (.seq (.ops [⟨(some 2), none, .mv (.const (.slice none 0 0))⟩])
  (.ret)) (.skip)))
  (.seq (.ops [⟨(some 5), none, .bsl 4 (.agg #[.int .i64 0, .int .i64 0, .int .i64 0, .string ⟨⟨[]⟩⟩]) 0 []⟩,
    ⟨(some 6), none, .mv (.tmp 0)⟩,
    ⟨(some 7), none, .app 4 40 (.agg #[.int .i64 0, .int .i64 0, .int .i64 0, .string ⟨⟨[]⟩⟩]) (.tmp 5) (.tmp 6)⟩,
    ⟨(some 2), none, .mv (.tmp 7)⟩])
  (.ret)))
theorem h_slices_Clone___impl_Letter_impl_Letter_ : (Try.prog.funcs[n_slices_Clone___impl_Letter_impl_Letter_]?).bind (fun fn => fn.body.bind (comp Try.prog fn.ntmps)) = some (AS.strip c_slices_Clone___impl_Letter_impl_Letter_) := by kernel_rfl
theorem r_slices_Clone___impl_Letter_impl_Letter_ : (Try.prog.funcs[n_slices_Clone___impl_Letter_impl_Letter_]?).map (fun fn => (fn.results.toList, fn.ntmps)) = some ([.tmp 2], 8) := by kernel_rfl
-- 56 loop.example/g00850/laws.eqLetterS
abbrev n_laws_eqLetterS : Nat := 56
def c_laws_eqLetterS_l1 : AS :=
  .seq (.seq (.ops [⟨(some 11), none, .mv (.tmp 5)⟩,
    ⟨(some 12), none, .mv (.tmp 0)⟩,
    ⟨(some 13), none, .lens (.tmp 12)⟩,
    ⟨(some 14), none, .bin .lss (.tmp 11) (.tmp 13)⟩])
  (.cond (.tmp 14) (.skip) (.exit 0)))
  (.seq (.block 1 (.seq (.rops [(none, ⟨(some 17), none, .mv (.tmp 0)⟩),
    (none, ⟨(some 18), none, .mv (.tmp 5)⟩),
    (none, ⟨(some 19), none, .ia 4 (.tmp 17) (.tmp 18)⟩),
    (none, ⟨(some 20), none, .load (some 4) (.tmp 19)⟩),
    (none, ⟨(some 21), none, .mv (.tmp 1)⟩),
    (none, ⟨(some 22), none, .mv (.tmp 5)⟩),
    (none, ⟨(some 23), none, .ia 4 (.tmp 21) (.tmp 22)⟩),
    (none, ⟨(some 24), none, .load (some 4) (.tmp 23)⟩),
    (some [], ⟨(some 25), none, .call 78 [(.tmp 20), (.tmp 24)]⟩),
    (none, ⟨(some 26), none, .not (.tmp 25)⟩)])
  (.kept [0, 1, 5, 26] (.cond (.tmp 26) (.seq (.ops [⟨(some 4), none, .mv (.const (.bool false))⟩])
  (.ret)) (.skip)))))
  (.kept [0, 1, 5] (.ops [⟨(some 15), none, .mv (.tmp 5)⟩,
    ⟨(some 16), none, .bin .add (.tmp 15) (.const (.int .i64 1))⟩,
    ⟨(some 5), none, .mv (.tmp 16)⟩])))
def c_laws_eqLetterS : AS :=
  .seq (.ops [⟨(some 4), none, .mv (.const (.bool false))⟩])
  (.seq (.seq (.ops [⟨(some 6), none, .mv (.tmp 0)⟩,
    ⟨(some 7), none, .lens (.tmp 6)⟩,
    ⟨(some 8), none, .mv (.tmp 1)⟩,
    ⟨(some 9), none, .lens (.tmp 8)⟩,
    ⟨(some 10), none, .bin .neq (.tmp 7) (.tmp 9)⟩])
  (.cond (.tmp 10) (.seq (.ops [⟨(some 4), none, .mv (.const (.bool false))⟩])
  (.ret)) (.skip)))
  (.kept [0, 1] (.seq (.seq (.ops [⟨(some 5), none, .mv (.const (.int .i64 0))⟩])
  (.block 0 (.loop 2 [(0, 0), (1, 0), (5, 0)] c_laws_eqLetterS_l1)))
  (.kept [] (.seq (.ops [⟨(some 4), none, .mv (.const (.bool true))⟩])
  (.ret))))))
theorem h_laws_eqLetterS : (Try.prog.funcs[n_laws_eqLetterS]?).bind (fun fn => fn.body.bind (comp Try.prog fn.ntmps)) = some (AS.strip c_laws_eqLetterS) := by kernel_rfl
theorem r_laws_eqLetterS : (Try.prog.funcs[n_laws_eqLetterS]?).map (fun fn => (fn.results.toList, fn.ntmps)) = some ([.tmp 4], 27) := by kernel_rfl
-- 57 loop.example/g00850/laws.markLetterS
abbrev n_laws_markLetterS : Nat := 57
def c_laws_markLetterS_l1 : AS :=
  .seq (.seq (.ops [⟨(some 6), none, .mv (.tmp 5)⟩,
    ⟨(some 7), none, .mv (.tmp 0)⟩,
    ⟨(some 8), none, .lens (.tmp 7)⟩,
    ⟨(some 9), none, .bin .lss (.tmp 6) (.tmp 8)⟩])
  (.cond (.tmp 9) (.skip) (.exit 0)))
  (.seq (.block 1 (.seq (.ops [⟨(some 12), none, .mv (.tmp 0)⟩,
    ⟨(some 13), none, .mv (.tmp 5)⟩,
    ⟨(some 14), none, .mv (.tmp 1)⟩,
    ⟨(some 15), none, .ia 4 (.tmp 12) (.tmp 13)⟩,
    ⟨(some 16), none, .fa 0 (.tmp 15)⟩,
    ⟨none, none, .store 1 (.tmp 16) (.tmp 14)⟩])
  (.seq (.ops [⟨(some 17), none, .mv (.tmp 1)⟩,
    ⟨(some 18), none, .bin .add (.tmp 17) (.const (.int .i64 1))⟩,
    ⟨(some 1), none, .mv (.tmp 18)⟩])
  (.seq (.ops [⟨(some 19), none, .mv (.tmp 0)⟩,
    ⟨(some 20), none, .mv (.tmp 5)⟩,
    ⟨(some 21), none, .mv (.tmp 1)⟩,
    ⟨(some 22), none, .ia 4 (.tmp 19) (.tmp 20)⟩,
    ⟨(some 23), none, .fa 1 (.tmp 22)⟩,
    ⟨none, none, .store 1 (.tmp 23) (.tmp 21)⟩])
  (.seq (.ops [⟨(some 24), none, .mv (.tmp 1)⟩,
    ⟨(some 25), none, .bin .add (.tmp 24) (.const (.int .i64 1))⟩,
    ⟨(some 1), none, .mv (.tmp 25)⟩])
  (.seq (.ops [⟨(some 26), none, .mv (.tmp 0)⟩,
    ⟨(some 27), none, .mv (.tmp 5)⟩,
    ⟨(some 28), none, .mv (.tmp 1)⟩,
    ⟨(some 29), none, .ia 4 (.tmp 26) (.tmp 27)⟩,
    ⟨(some 30), none, .fa 2 (.tmp 29)⟩,
    ⟨none, none, .store 1 (.tmp 30) (.tmp 28)⟩])
  (.seq (.ops [⟨(some 31), none, .mv (.tmp 1)⟩,
    ⟨(some 32), none, .bin .add (.tmp 31) (.const (.int .i64 1))⟩,
    ⟨(some 1), none, .mv (.tmp 32)⟩])
  (.seq (.ops [⟨(some 33), none, .mv (.tmp 0)⟩,
    ⟨(some 34), none, .mv (.tmp 5)⟩,
    ⟨(some 35), none, .mv (.tmp 1)⟩,
    ⟨(some 36), none, .call 73 [(.tmp 35)]⟩,
    ⟨(some 37), none, .ia 4 (.tmp 33) (.tmp 34)⟩,
    ⟨(some 38), none, .fa 3 (.tmp 37)⟩,
    ⟨none, none, .store 1 (.tmp 38) (.tmp 36)⟩])
  (.kept [0, 1, 5] (.ops [⟨(some 39), none, .mv (.tmp 1)⟩,
    ⟨(some 40), none, .bin .add (.tmp 39) (.const (.int .i64 1))⟩,
    ⟨(some 1), none, .mv (.tmp 40)⟩]))))))))))
  (.kept [0, 1, 5] (.ops [⟨(some 10), none, .mv (.tmp 5)⟩,
    ⟨(some 11), none, .bin .add (.tmp 10) (.const (.int .i64 1))⟩,
    ⟨(some 5), none, .mv (.tmp 11)⟩])))
def c_laws_markLetterS : AS :=
  .seq (.ops [⟨(some 4), none, .mv (.const (.int .i64 0))⟩])
  (.seq (.seq (.ops [⟨(some 5), none, .mv (.const (.int .i64 0))⟩])
  (.block 0 (.loop 2 [(0, 0), (1, 0), (5, 0)] c_laws_markLetterS_l1)))
  (.kept [1] (.seq (.ops [⟨(some 41), none, .mv (.tmp 1)⟩,
    ⟨(some 4), none, .mv (.tmp 41)⟩])
  (.ret))))
theorem h_laws_markLetterS : (Try.prog.funcs[n_laws_markLetterS]?).bind (fun fn => fn.body.bind (comp Try.prog fn.ntmps)) = some (AS.strip c_laws_markLetterS) := by kernel_rfl
theorem r_laws_markLetterS : (Try.prog.funcs[n_laws_markLetterS]?).map (fun fn => (fn.results.toList, fn.ntmps)) = some ([.tmp 4], 42) := by kernel_rfl
-- 58 loop.example/g00850/laws.heldLetterS
abbrev n_laws_heldLetterS : Nat := 58
def c_laws_heldLetterS_l1 : AS :=
  .seq (.seq (.ops [⟨(some 6), none, .mv (.tmp 5)⟩,
    ⟨(some 7), none, .mv (.tmp 0)⟩,
    ⟨(some 8), none, .lens (.tmp 7)⟩,
    ⟨(some 9), none, .bin .lss (.tmp 6) (.tmp 8)⟩])
  (.cond (.tmp 9) (.skip) (.exit 0)))
  (.seq (.block 1 (.seq (.seq (.ops [⟨(some 12), none, .mv (.tmp 0)⟩,
    ⟨(some 13), none, .mv (.tmp 5)⟩,
    ⟨(some 14), none, .ia 4 (.tmp 12) (.tmp 13)⟩,
    ⟨(some 15), none, .fa 0 (.tmp 14)⟩,
    ⟨(some 16), none, .load none (.tmp 15)⟩,
    ⟨(some 17), none, .mv (.tmp 1)⟩,
    ⟨(some 18), none, .bin .neq (.tmp 16) (.tmp 17)⟩])
  (.kept [0, 1, 5, 18] (.cond (.tmp 18) (.seq (.ops [⟨(some 4), none, .mv (.const (.int .i64 (-1)))⟩])
  (.ret)) (.skip))))
  (.kept [0, 1, 5] (.seq (.ops [⟨(some 19), none, .mv (.tmp 1)⟩,
    ⟨(some 20), none, .bin .add (.tmp 19) (.const (.int .i64 1))⟩,
    ⟨(some 1), none, .mv (.tmp 20)⟩])
  (.seq (.seq (.ops [⟨(some 21), none, .mv (.tmp 0)⟩,
    ⟨(some 22), none, .mv (.tmp 5)⟩,
    ⟨(some 23), none, .ia 4 (.tmp 21) (.tmp 22)⟩,
    ⟨(some 24), none, .fa 1 (.tmp 23)⟩,
    ⟨(some 25), none, .load none (.tmp 24)⟩,
    ⟨(some 26), none, .mv (.tmp 1)⟩,
    ⟨(some 27), none, .bin .neq (.tmp 25) (.tmp 26)⟩])
  (.kept [0, 1, 5, 27] (.cond (.tmp 27) (.seq (.ops [⟨(some 4), none, .mv (.const (.int .i64 (-1)))⟩])
  (.ret)) (.skip))))
  (.kept [0, 1, 5] (.seq (.ops [⟨(some 28), none, .mv (.tmp 1)⟩,
    ⟨(some 29), none, .bin .add (.tmp 28) (.const (.int .i64 1))⟩,
    ⟨(some 1), none, .mv (.tmp 29)⟩])
  (.seq (.seq (.ops [⟨(some 30), none, .mv (.tmp 0)⟩,
    ⟨(some 31), none, .mv (.tmp 5)⟩,
    ⟨(some 32), none, .ia 4 (.tmp 30) (.tmp 31)⟩,
    ⟨(some 33), none, .fa 2 (.tmp 32)⟩,
    ⟨(some 34), none, .load none (.tmp 33)⟩,
    ⟨(some 35), none, .mv (.tmp 1)⟩,
    ⟨(some 36), none, .bin .neq (.tmp 34) (.tmp 35)⟩])
  (.kept [0, 1, 5, 36] (.cond (.tmp 36) (.seq (.ops [⟨(some 4), none, .mv (.const (.int .i64 (-1)))⟩])
  (.ret)) (.skip))))
  (.kept [0, 1, 5] (.seq (.ops [⟨(some 37), none, .mv (.tmp 1)⟩,
    ⟨(some 38), none, .bin .add (.tmp 37) (.const (.int .i64 1))⟩,
    ⟨(some 1), none, .mv (.tmp 38)⟩])
  (.seq (.seq (.rops [(none, ⟨(some 39), none, .mv (.tmp 0)⟩),
    (none, ⟨(some 40), none, .mv (.tmp 5)⟩),
    (none, ⟨(some 41), none, .ia 4 (.tmp 39) (.tmp 40)⟩),
    (none, ⟨(some 42), none, .fa 3 (.tmp 41)⟩),
    (none, ⟨(some 43), none, .load none (.tmp 42)⟩),
    (none, ⟨(some 44), none, .mv (.tmp 1)⟩),
    (some [⟨(some 43), none, .load none (.tmp 42)⟩, ⟨(some 42), none, .fa 3 (.tmp 41)⟩, ⟨(some 41), none, .ia 4 (.tmp 39) (.tmp 40)⟩, ⟨(some 40), none, .mv (.tmp 5)⟩, ⟨(some 39), none, .mv (.tmp 0)⟩], ⟨(some 45), none, .call 73 [(.tmp 44)]⟩),
    (none, ⟨(some 46), none, .bin .neq (.tmp 43) (.tmp 45)⟩)])
  (.kept [0, 1, 5, 46] (.cond (.tmp 46) (.seq (.ops [⟨(some 4), none, .mv (.const (.int .i64 (-1)))⟩])
  (.ret)) (.skip))))
  (.kept [0, 1, 5] (.ops [⟨(some 47), none, .mv (.tmp 1)⟩,
    ⟨(some 48), none, .bin .add (.tmp 47) (.const (.int .i64 1))⟩,
    ⟨(some 1), none, .mv (.tmp 48)⟩])))))))))))))
  (.kept [0, 1, 5] (.ops [⟨(some 10), none, .mv (.tmp 5)⟩,
    ⟨(some 11), none, .bin .add (.tmp 10) (.const (.int .i64 1))⟩,
    ⟨(some 5), none, .mv (.tmp 11)⟩])))
def c_laws_heldLetterS : AS :=
  .seq (.ops [⟨(some 4), none, .mv (.const (.int .i64 0))⟩])
  (.seq (.seq (.ops [⟨(some 5), none, .mv (.const (.int .i64 0))⟩])
  (.block 0 (.loop 2 [(0, 0), (1, 0), (5, 0)] c_laws_heldLetterS_l1)))
  (.kept [1] (.seq (.ops [⟨(some 49), none, .mv (.tmp 1)⟩,
    ⟨(some 4), none, .mv (.tmp 49)⟩])
  (.ret))))
theorem h_laws_heldLetterS : (Try.prog.funcs[n_laws_heldLetterS]?).bind (fun fn => fn.body.bind (comp Try.prog fn.ntmps)) = some (AS.strip c_laws_heldLetterS) := by kernel_rfl
theorem r_laws_heldLetterS : (Try.prog.funcs[n_laws_heldLetterS]?).map (fun fn => (fn.results.toList, fn.ntmps)) = some ([.tmp 4], 50) := by kernel_rfl
-- 59 loop.example/g00850/spec.l7If
abbrev n_spec_l7If : Nat := 59
def c_spec_l7If : AS :=
  .seq (.ops [⟨(some 1), none, .box (.tmp 0)⟩,
    ⟨(some 2), none, .alloc (.agg #[.int .i64 0, .slice none 0 0, .int .i64 0, .slice none 0 0])⟩,
    ⟨(some 3), none, .mv (.const (.bool false))⟩])
  (.seq (.seq (.ops [⟨(some 4), none, .load (some 4) (.tmp 1)⟩,
    ⟨(some 5), none, .call 63 [(.tmp 4)]⟩,
    ⟨(some 6), none, .not (.tmp 5)⟩])
  (.cond (.tmp 6) (.seq (.ops [⟨(some 7), none, .build (.agg #[.int .i64 0, .slice none 0 0, .int .i64 0, .slice none 0 0]) []⟩,
    ⟨none, none, .store 4 (.tmp 2) (.tmp 7)⟩,
    ⟨(some 3), none, .mv (.const (.bool false))⟩])
  (.ret)) (.skip)))
  (.seq (.ops [⟨(some 8), none, .load (some 4) (.tmp 1)⟩,
    ⟨none, none, .store 4 (.tmp 2) (.tmp 8)⟩,
    ⟨(some 3), none, .mv (.const (.bool true))⟩])
  (.ret)))
theorem h_spec_l7If : (Try.prog.funcs[n_spec_l7If]?).bind (fun fn => fn.body.bind (comp Try.prog fn.ntmps)) = some (AS.strip c_spec_l7If) := by kernel_rfl
theorem r_spec_l7If : (Try.prog.funcs[n_spec_l7If]?).map (fun fn => (fn.results.toList, fn.ntmps)) = some ([.cell 2 40, .tmp 3], 9) := by kernel_rfl
-- 60 loop.example/g00850/spec.l7In
abbrev n_spec_l7In : Nat := 60
def c_spec_l7In_l1 : AS :=
  .seq (.seq (.dops [⟨(some 6), none, .mv (.tmp 5)⟩,
    ⟨(some 7), none, .mv (.tmp 0)⟩,
    ⟨(some 8), none, .lens (.tmp 7)⟩,
    ⟨(some 9), none, .bin .lss (.tmp 6) (.tmp 8)⟩,
    ⟨(some 10), none, .mv (.tmp 9)⟩,
    ⟨(some 11), some (10, true), .mv (.tmp 0)⟩,
    ⟨(some 12), some (10, true), .mv (.tmp 5)⟩,
    ⟨(some 13), some (10, true), .ia 4 (.tmp 11) (.tmp 12)⟩,
    ⟨(some 14), some (10, true), .fa 2 (.tmp 13)⟩,
    ⟨(some 15), some (10, true), .load none (.tmp 14)⟩,
    ⟨(some 16), some (10, true), .fa 2 (.tmp 3)⟩,
    ⟨(some 17), some (10, true), .load none (.tmp 16)⟩,
    ⟨(some 18), some (10, true), .bin .leq (.tmp 15) (.tmp 17)⟩,
    ⟨(some 19), none, .pick (.tmp 10) (.tmp 18) (.const (.bool false))⟩])
  (.kept [0, 3, 5, 19] (.cond (.tmp 19) (.skip) (.exit 0))))
  (.kept [0, 3, 5] (.block 1 (.ops [⟨(some 20), none, .mv (.tmp 5)⟩,
    ⟨(some 21), none, .bin .add (.tmp 20) (.const (.int .i64 1))⟩,
    ⟨(some 5), none, .mv (.tmp 21)⟩])))
def c_spec_l7In : AS :=
  .seq (.ops [⟨(some 3), none, .box (.tmp 1)⟩,
    ⟨(some 4), none, .mv (.const (.slice none 0 0))⟩])
  (.seq (.ops [⟨(some 5), none, .mv (.const (.int .i64 0))⟩])
  (.seq (.block 0 (.loop 2 [(0, 0), (3, 0), (5, 0)] c_spec_l7In_l1))
  (.kept [0, 3, 5] (.seq (.tops [(4, 0)] (.rd ⟨(some 22), none, .mv (.tmp 0)⟩ (.rd ⟨(some 23), none, .mv (.tmp 5)⟩ (.rd ⟨(some 24), none, .sls 4 (.tmp 22) none (some (.tmp 23)) none⟩ (.rd ⟨(some 26), none, .load (some 4) (.tmp 3)⟩ (.rd ⟨(some 29), none, .mv (.tmp 0)⟩ (.rd ⟨(some 30), none, .mv (.tmp 5)⟩ (.rd ⟨(some 31), none, .sls 4 (.tmp 29) (some (.tmp 30)) none none⟩ (.alt [⟨(some 31), none, .sls 4 (.tmp 29) (some (.tmp 30)) none none⟩, ⟨(some 30), none, .mv (.tmp 5)⟩, ⟨(some 29), none, .mv (.tmp 0)⟩, ⟨(some 26), none, .load (some 4) (.tmp 3)⟩] ⟨(some 25), none, .call 75 [(.tmp 24)]⟩
    (.alt [⟨(some 31), none, .sls 4 (.tmp 29) (some (.tmp 30)) none none⟩, ⟨(some 30), none, .mv (.tmp 5)⟩, ⟨(some 29), none, .mv (.tmp 0)⟩] ⟨(some 27), none, .bsl 4 (.agg #[.int .i64 0, .int .i64 0, .int .i64 0, .string ⟨⟨[]⟩⟩]) 1 [(0, (.tmp 26))]⟩
    (.alt [⟨(some 31), none, .sls 4 (.tmp 29) (some (.tmp 30)) none none⟩, ⟨(some 30), none, .mv (.tmp 5)⟩, ⟨(some 29), none, .mv (.tmp 0)⟩] ⟨(some 28), none, .app 4 40 (.agg #[.int .i64 0, .int .i64 0, .int .i64 0, .string ⟨⟨[]⟩⟩]) (.tmp 25) (.tmp 27)⟩
    (.alt [] ⟨(some 32), none, .app 4 40 (.agg #[.int .i64 0, .int .i64 0, .int .i64 0, .string ⟨⟨[]⟩⟩]) (.tmp 28) (.tmp 31)⟩
    (.rd ⟨(some 4), none, .mv (.tmp 32)⟩ (.done))
    (.none))
    (.none))
    (.none))
    (.alt [⟨(some 31), none, .sls 4 (.tmp 29) (some (.tmp 30)) none none⟩, ⟨(some 30), none, .mv (.tmp 5)⟩, ⟨(some 29), none, .mv (.tmp 0)⟩, ⟨(some 24), none, .sls 4 (.tmp 22) none (some (.tmp 23)) none⟩, ⟨(some 23), none, .mv (.tmp 5)⟩, ⟨(some 22), none, .mv (.tmp 0)⟩] ⟨(some 27), none, .bsl 4 (.agg #[.int .i64 0, .int .i64 0, .int .i64 0, .string ⟨⟨[]⟩⟩]) 1 [(0, (.tmp 26))]⟩
    (.alt [⟨(some 31), none, .sls 4 (.tmp 29) (some (.tmp 30)) none none⟩, ⟨(some 30), none, .mv (.tmp 5)⟩, ⟨(some 29), none, .mv (.tmp 0)⟩] ⟨(some 25), none, .call 75 [(.tmp 24)]⟩
    (.alt [⟨(some 31), none, .sls 4 (.tmp 29) (some (.tmp 30)) none none⟩, ⟨(some 30), none, .mv (.tmp 5)⟩, ⟨(some 29), none, .mv (.tmp 0)⟩] ⟨(some 28), none, .app 4 40 (.agg #[.int .i64 0, .int .i64 0, .int .i64 0, .string ⟨⟨[]⟩⟩]) (.tmp 25) (.tmp 27)⟩
    (.alt [] ⟨(some 32), none, .app 4 40 (.agg #[.int .i64 0, .int .i64 0, .int .i64 0, .string ⟨⟨[]⟩⟩]) (.tmp 28) (.tmp 31)⟩
    (.rd ⟨(some 4), none, .mv (.tmp 32)⟩ (.done))
    (.none))
    (.none))
    (.none))
    (.none)))))))))))
  (.ret)))))
theorem h_spec_l7In : (Try.prog.funcs[n_spec_l7In]?).bind (fun fn => fn.body.bind (comp Try.prog fn.ntmps)) = some (AS.strip c_spec_l7In) := by kernel_rfl
theorem r_spec_l7In : (Try.prog.funcs[n_spec_l7In]?).map (fun fn => (fn.results.toList, fn.ntmps)) = some ([.tmp 4], 33) := by kernel_rfl
-- 61 loop.example/g00850/impl.laid
abbrev n_impl_laid : Nat := 61
def c_impl_laid : AS :=
  .seq (.ops [⟨(some 3), none, .box (.tmp 1)⟩,
    ⟨(some 4), none, .mv (.const (.slice none 0 0))⟩])
  (.seq (.ops [⟨(some 6), none, .mv (.tmp 0)⟩,
    ⟨(some 7), none, .mkf 80 [(.tmp 3)]⟩,
    ⟨(some 8), none, .call 79 [(.tmp 6), (.tmp 7)]⟩,
    ⟨(some 5), none, .mv (.tmp 8)⟩])
  (.seq (.seq (.ops [⟨(some 9), none, .mv (.tmp 5)⟩,
    ⟨(some 10), none, .bin .lss (.tmp 9) (.const (.int .i64 0))⟩])
  (.cond (.tmp 10) (.ops [⟨(some 11), none, .mv (.tmp 0)⟩,
    ⟨(some 12), none, .lens (.tmp 11)⟩,
    ⟨(some 5), none, .mv (.tmp 12)⟩]) (.skip)))
  (.seq (.tops [(4, 0)] (.rd ⟨(some 13), none, .mv (.tmp 0)⟩ (.rd ⟨(some 15), none, .mv (.tmp 5)⟩ (.rd ⟨(some 16), none, .load (some 4) (.tmp 3)⟩ (.alt [⟨(some 16), none, .load (some 4) (.tmp 3)⟩, ⟨(some 15), none, .mv (.tmp 5)⟩] ⟨(some 14), none, .call 55 [(.tmp 13)]⟩
    (.alt [⟨(some 15), none, .mv (.tmp 5)⟩] ⟨(some 17), none, .bsl 4 (.agg #[.int .i64 0, .int .i64 0, .int .i64 0, .string ⟨⟨[]⟩⟩]) 1 [(0, (.tmp 16))]⟩
    (.alt [] ⟨(some 18), none, .call 81 [(.tmp 14), (.tmp 15), (.tmp 17)]⟩
    (.rd ⟨(some 4), none, .mv (.tmp 18)⟩ (.done))
    (.none))
    (.none))
    (.alt [⟨(some 15), none, .mv (.tmp 5)⟩, ⟨(some 13), none, .mv (.tmp 0)⟩] ⟨(some 17), none, .bsl 4 (.agg #[.int .i64 0, .int .i64 0, .int .i64 0, .string ⟨⟨[]⟩⟩]) 1 [(0, (.tmp 16))]⟩
    (.alt [⟨(some 15), none, .mv (.tmp 5)⟩] ⟨(some 14), none, .call 55 [(.tmp 13)]⟩
    (.alt [] ⟨(some 18), none, .call 81 [(.tmp 14), (.tmp 15), (.tmp 17)]⟩
    (.rd ⟨(some 4), none, .mv (.tmp 18)⟩ (.done))
    (.none))
    (.none))
    (.none)))))))
  (.ret))))
theorem h_impl_laid : (Try.prog.funcs[n_impl_laid]?).bind (fun fn => fn.body.bind (comp Try.prog fn.ntmps)) = some (AS.strip c_impl_laid) := by kernel_rfl
theorem r_impl_laid : (Try.prog.funcs[n_impl_laid]?).map (fun fn => (fn.results.toList, fn.ntmps)) = some ([.tmp 4], 19) := by kernel_rfl
-- 62 loop.example/g00850/impl.within
abbrev n_impl_within : Nat := 62
def c_impl_within : AS :=
  .seq (.ops [⟨(some 6), none, .mv (.const (.bool false))⟩])
  (.seq (.ops [⟨(some 7), none, .mv (.tmp 0)⟩,
    ⟨(some 8), none, .mv (.tmp 1)⟩,
    ⟨(some 9), none, .bin .geq (.tmp 7) (.tmp 8)⟩,
    ⟨(some 10), none, .mv (.tmp 9)⟩,
    ⟨(some 11), some (10, true), .mv (.tmp 0)⟩,
    ⟨(some 12), some (10, true), .mv (.tmp 2)⟩,
    ⟨(some 13), some (10, true), .bin .leq (.tmp 11) (.tmp 12)⟩,
    ⟨(some 14), none, .pick (.tmp 10) (.tmp 13) (.const (.bool false))⟩,
    ⟨(some 6), none, .mv (.tmp 14)⟩])
  (.ret))
theorem h_impl_within : (Try.prog.funcs[n_impl_within]?).bind (fun fn => fn.body.bind (comp Try.prog fn.ntmps)) = some (AS.strip c_impl_within) := by kernel_rfl
theorem r_impl_within : (Try.prog.funcs[n_impl_within]?).map (fun fn => (fn.results.toList, fn.ntmps)) = some ([.tmp 6], 15) := by kernel_rfl
-- 63 loop.example/g00850/spec.l7Good
abbrev n_spec_l7Good : Nat := 63
def c_spec_l7Good_l1 : AS :=
  .seq (.seq (.ops [⟨(some 35), none, .mv (.tmp 4)⟩,
    ⟨(some 36), none, .fa 3 (.tmp 1)⟩,
    ⟨(some 37), none, .load none (.tmp 36)⟩,
    ⟨(some 38), none, .lens (.tmp 37)⟩,
    ⟨(some 39), none, .bin .lss (.tmp 35) (.tmp 38)⟩])
  (.cond (.tmp 39) (.skip) (.exit 0)))
  (.seq (.block 1 (.seq (.ops [⟨(some 42), none, .fa 3 (.tmp 1)⟩,
    ⟨(some 43), none, .load none (.tmp 42)⟩,
    ⟨(some 44), none, .mv (.tmp 4)⟩,
    ⟨(some 45), none, .ia 4 (.tmp 43) (.tmp 44)⟩,
    ⟨(some 46), none, .load (some 4) (.tmp 45)⟩,
    ⟨(some 5), none, .alloc (.agg #[.int .i64 0, .int .i64 0, .int .i64 0, .string ⟨⟨[]⟩⟩])⟩,
    ⟨none, none, .store 4 (.tmp 5) (.tmp 46)⟩])
  (.seq (.seq (.ops [⟨(some 47), none, .load (some 4) (.tmp 1)⟩,
    ⟨(some 48), none, .fa 0 (.tmp 5)⟩,
    ⟨(some 49), none, .load none (.tmp 48)⟩,
    ⟨(some 50), none, .call 64 [(.tmp 47), (.tmp 49)]⟩,
    ⟨(some 51), none, .not (.tmp 50)⟩,
    ⟨(some 52), none, .mv (.tmp 51)⟩,
    ⟨(some 53), some (52, false), .load (some 4) (.tmp 1)⟩,
    ⟨(some 54), some (52, false), .fa 1 (.tmp 5)⟩,
    ⟨(some 55), some (52, false), .load none (.tmp 54)⟩,
    ⟨(some 56), some (52, false), .call 64 [(.tmp 53), (.tmp 55)]⟩,
    ⟨(some 57), some (52, false), .not (.tmp 56)⟩,
    ⟨(some 58), none, .pick (.tmp 52) (.const (.bool true)) (.tmp 57)⟩,
    ⟨(some 59), none, .mv (.tmp 58)⟩,
    ⟨(some 60), some (59, false), .fa 0 (.tmp 5)⟩,
    ⟨(some 61), some (59, false), .load none (.tmp 60)⟩,
    ⟨(some 62), some (59, false), .fa 1 (.tmp 5)⟩,
    ⟨(some 63), some (59, false), .load none (.tmp 62)⟩,
    ⟨(some 64), some (59, false), .bin .eql (.tmp 61) (.tmp 63)⟩,
    ⟨(some 65), none, .pick (.tmp 59) (.const (.bool true)) (.tmp 64)⟩,
    ⟨(some 66), none, .mv (.tmp 65)⟩,
    ⟨(some 67), some (66, false), .fa 2 (.tmp 5)⟩,
    ⟨(some 68), some (66, false), .load none (.tmp 67)⟩,
    ⟨(some 69), some (66, false), .mv (.tmp 3)⟩,
    ⟨(some 70), some (66, false), .call 31 [(.tmp 68), (.tmp 69), (.const (.int .i64 100200))]⟩,
    ⟨(some 71), some (66, false), .not (.tmp 70)⟩,
    ⟨(some 72), none, .pick (.tmp 66) (.const (.bool true)) (.tmp 71)⟩,
    ⟨(some 73), none, .mv (.tmp 72)⟩,
    ⟨(some 74), some (73, false), .fa 3 (.tmp 5)⟩,
    ⟨(some 75), some (73, false), .load none (.tmp 74)⟩,
    ⟨(some 76), some (73, false), .lent (.tmp 75)⟩,
    ⟨(some 77), some (73, false), .call 31 [(.tmp 76), (.const (.int .i64 1)), (.const (.int .i64 40))]⟩,
    ⟨(some 78), some (73, false), .not (.tmp 77)⟩,
    ⟨(some 79), none, .pick (.tmp 73) (.const (.bool true)) (.tmp 78)⟩])
  (.kept [1, 4, 5, 79] (.cond (.tmp 79) (.seq (.ops [⟨(some 2), none, .mv (.const (.bool false))⟩])
  (.ret)) (.skip))))
  (.kept [1, 4, 5] (.ops [⟨(some 80), none, .fa 2 (.tmp 5)⟩,
    ⟨(some 81), none, .load none (.tmp 80)⟩,
    ⟨(some 3), none, .mv (.tmp 81)⟩])))))
  (.kept [1, 3, 4] (.ops [⟨(some 40), none, .mv (.tmp 4)⟩,
    ⟨(some 41), none, .bin .add (.tmp 40) (.const (.int .i64 1))⟩,
    ⟨(some 4), none, .mv (.tmp 41)⟩])))
def c_spec_l7Good : AS :=
  .seq (.ops [⟨(some 1), none, .box (.tmp 0)⟩,
    ⟨(some 2), none, .mv (.const (.bool false))⟩])
  (.seq (.seq (.ops [⟨(some 6), none, .fa 0 (.tmp 1)⟩,
    ⟨(some 7), none, .load none (.tmp 6)⟩,
    ⟨(some 8), none, .call 31 [(.tmp 7), (.const (.int .i64 0)), (.const (.int .i64 100000))]⟩,
    ⟨(some 9), none, .not (.tmp 8)⟩,
    ⟨(some 10), none, .mv (.tmp 9)⟩,
    ⟨(some 11), some (10, false), .fa 1 (.tmp 1)⟩,
    ⟨(some 12), some (10, false), .load none (.tmp 11)⟩,
    ⟨(some 13), some (10, false), .lens (.tmp 12)⟩,
    ⟨(some 14), some (10, false), .call 31 [(.tmp 13), (.const (.int .i64 1)), (.const (.int .i64 5))]⟩,
    ⟨(some 15), some (10, false), .not (.tmp 14)⟩,
    ⟨(some 16), none, .pick (.tmp 10) (.const (.bool true)) (.tmp 15)⟩,
    ⟨(some 17), none, .mv (.tmp 16)⟩,
    ⟨(some 18), some (17, false), .fa 1 (.tmp 1)⟩,
    ⟨(some 19), some (17, false), .load none (.tmp 18)⟩,
    ⟨(some 20), some (17, false), .call 69 [(.tmp 19), (.const (.int .i64 0)), (.const (.int .i64 2))]⟩,
    ⟨(some 21), some (17, false), .not (.tmp 20)⟩,
    ⟨(some 22), none, .pick (.tmp 17) (.const (.bool true)) (.tmp 21)⟩,
    ⟨(some 23), none, .mv (.tmp 22)⟩,
    ⟨(some 24), some (23, false), .fa 2 (.tmp 1)⟩,
    ⟨(some 25), some (23, false), .load none (.tmp 24)⟩,
    ⟨(some 26), some (23, false), .call 31 [(.tmp 25), (.const (.int .i64 0)), (.const (.int .i64 20))]⟩,
    ⟨(some 27), some (23, false), .not (.tmp 26)⟩,
    ⟨(some 28), none, .pick (.tmp 23) (.const (.bool true)) (.tmp 27)⟩,
    ⟨(some 29), none, .mv (.tmp 28)⟩,
    ⟨(some 30), some (29, false), .fa 3 (.tmp 1)⟩,
    ⟨(some 31), some (29, false), .load none (.tmp 30)⟩,
    ⟨(some 32), some (29, false), .lens (.tmp 31)⟩,
    ⟨(some 33), some (29, false), .bin .gtr (.tmp 32) (.const (.int .i64 60))⟩,
    ⟨(some 34), none, .pick (.tmp 29) (.const (.bool true)) (.tmp 33)⟩])
  (.kept [1, 34] (.cond (.tmp 34) (.seq (.ops [⟨(some 2), none, .mv (.const (.bool false))⟩])
  (.ret)) (.skip))))
  (.kept [1] (.seq (.ops [⟨(some 3), none, .mv (.const (.int .i64 0))⟩])
  (.seq (.seq (.ops [⟨(some 4), none, .mv (.const (.int .i64 0))⟩])
  (.block 0 (.loop 1 [(1, 0), (3, 0), (4, 0)] c_spec_l7Good_l1)))
  (.kept [] (.seq (.ops [⟨(some 2), none, .mv (.const (.bool true))⟩])
  (.ret)))))))
theorem h_spec_l7Good : (Try.prog.funcs[n_spec_l7Good]?).bind (fun fn => fn.body.bind (comp Try.prog fn.ntmps)) = some (AS.strip c_spec_l7Good) := by kernel_rfl
theorem r_spec_l7Good : (Try.prog.funcs[n_spec_l7Good]?).map (fun fn => (fn.results.toList, fn.ntmps)) = some ([.tmp 2], 82) := by kernel_rfl
-- 64 loop.example/g00850/spec.l7Node
abbrev n_spec_l7Node : Nat := 64
def c_spec_l7Node : AS :=
  .seq (.ops [⟨(some 2), none, .box (.tmp 0)⟩,
    ⟨(some 4), none, .mv (.const (.bool false))⟩])
  (.seq (.ops [⟨(some 5), none, .mv (.tmp 1)⟩,
    ⟨(some 6), none, .fa 1 (.tmp 2)⟩,
    ⟨(some 7), none, .load none (.tmp 6)⟩,
    ⟨(some 8), none, .lens (.tmp 7)⟩,
    ⟨(some 9), none, .bin .sub (.tmp 8) (.const (.int .i64 1))⟩,
    ⟨(some 10), none, .call 31 [(.tmp 5), (.const (.int .i64 0)), (.tmp 9)]⟩,
    ⟨(some 4), none, .mv (.tmp 10)⟩])
  (.ret))
theorem h_spec_l7Node : (Try.prog.funcs[n_spec_l7Node]?).bind (fun fn => fn.body.bind (comp Try.prog fn.ntmps)) = some (AS.strip c_spec_l7Node) := by kernel_rfl
theorem r_spec_l7Node : (Try.prog.funcs[n_spec_l7Node]?).map (fun fn => (fn.results.toList, fn.ntmps)) = some ([.tmp 4], 11) := by kernel_rfl
-- 65 loop.example/g00850/spec.l7Trip
abbrev n_spec_l7Trip : Nat := 65
def c_spec_l7Trip : AS :=
  .seq (.ops [⟨(some 3), none, .box (.tmp 0)⟩,
    ⟨(some 6), none, .mv (.const (.int .i64 0))⟩])
  (.seq (.dops [⟨(some 8), none, .fa 1 (.tmp 3)⟩,
    ⟨(some 9), none, .load none (.tmp 8)⟩,
    ⟨(some 10), none, .mv (.tmp 1)⟩,
    ⟨(some 11), none, .ia 1 (.tmp 9) (.tmp 10)⟩,
    ⟨(some 12), none, .load none (.tmp 11)⟩,
    ⟨(some 13), none, .fa 1 (.tmp 3)⟩,
    ⟨(some 14), none, .load none (.tmp 13)⟩,
    ⟨(some 15), none, .mv (.tmp 2)⟩,
    ⟨(some 16), none, .ia 1 (.tmp 14) (.tmp 15)⟩,
    ⟨(some 17), none, .load none (.tmp 16)⟩,
    ⟨(some 18), none, .bin .sub (.tmp 12) (.tmp 17)⟩,
    ⟨(some 7), none, .mv (.tmp 18)⟩])
  (.kept [3, 7] (.seq (.rops [(none, ⟨(some 19), none, .fa 2 (.tmp 3)⟩),
    (none, ⟨(some 20), none, .load none (.tmp 19)⟩),
    (none, ⟨(some 21), none, .mv (.tmp 7)⟩),
    (none, ⟨(some 22), none, .mv (.tmp 7)⟩),
    (none, ⟨(some 23), none, .neg (.tmp 22)⟩),
    (some [⟨(some 20), none, .load none (.tmp 19)⟩, ⟨(some 19), none, .fa 2 (.tmp 3)⟩], ⟨(some 24), none, .call 82 [(.tmp 21), (.tmp 23)]⟩),
    (none, ⟨(some 25), none, .bin .mul (.tmp 20) (.tmp 24)⟩),
    (none, ⟨(some 26), none, .bin .add (.const (.int .i64 1)) (.tmp 25)⟩),
    (none, ⟨(some 6), none, .mv (.tmp 26)⟩)])
  (.ret))))
theorem h_spec_l7Trip : (Try.prog.funcs[n_spec_l7Trip]?).bind (fun fn => fn.body.bind (comp Try.prog fn.ntmps)) = some (AS.strip c_spec_l7Trip) := by kernel_rfl
theorem r_spec_l7Trip : (Try.prog.funcs[n_spec_l7Trip]?).map (fun fn => (fn.results.toList, fn.ntmps)) = some ([.tmp 6], 27) := by kernel_rfl
-- 66 loop.example/g00850/impl.GoodNet
abbrev n_impl_GoodNet : Nat := 66
def c_impl_GoodNet_l1 : AS :=
  .seq (.ops [⟨(some 27), none, .bin .lss (.tmp 26) (.tmp 25)⟩])
  (.seq (.cond (.tmp 27) (.skip) (.exit 0))
  (.seq (.block 1 (.seq (.ops [⟨(some 28), none, .mv (.tmp 26)⟩,
    ⟨(some 29), none, .ia 4 (.tmp 24) (.tmp 26)⟩,
    ⟨(some 30), none, .load (some 4) (.tmp 29)⟩,
    ⟨(some 4), none, .alloc (.agg #[.int .i64 0, .int .i64 0, .int .i64 0, .string ⟨⟨[]⟩⟩])⟩,
    ⟨(some 3), none, .mv (.tmp 28)⟩,
    ⟨none, none, .store 4 (.tmp 4) (.tmp 30)⟩])
  (.seq (.rops [(none, ⟨(some 31), none, .load (some 4) (.tmp 1)⟩),
    (none, ⟨(some 32), none, .load (some 4) (.tmp 4)⟩),
    (some [], ⟨(some 33), none, .call 85 [(.tmp 31), (.tmp 32)]⟩),
    (none, ⟨(some 34), none, .not (.tmp 33)⟩),
    (none, ⟨(some 35), none, .mv (.tmp 34)⟩),
    (none, ⟨(some 36), some (35, false), .mv (.tmp 3)⟩),
    (none, ⟨(some 37), some (35, false), .bin .gtr (.tmp 36) (.const (.int .i64 0))⟩),
    (none, ⟨(some 38), some (35, false), .mv (.tmp 37)⟩),
    (none, ⟨(some 39), some (38, true), .fa 2 (.tmp 4)⟩),
    (none, ⟨(some 40), some (38, true), .load none (.tmp 39)⟩),
    (none, ⟨(some 41), some (38, true), .fa 3 (.tmp 1)⟩),
    (none, ⟨(some 42), some (38, true), .load none (.tmp 41)⟩),
    (none, ⟨(some 43), some (38, true), .mv (.tmp 3)⟩),
    (none, ⟨(some 44), some (38, true), .bin .sub (.tmp 43) (.const (.int .i64 1))⟩),
    (none, ⟨(some 45), some (38, true), .ia 4 (.tmp 42) (.tmp 44)⟩),
    (none, ⟨(some 46), some (38, true), .fa 2 (.tmp 45)⟩),
    (none, ⟨(some 47), some (38, true), .load none (.tmp 46)⟩),
    (none, ⟨(some 48), some (38, true), .bin .lss (.tmp 40) (.tmp 47)⟩),
    (none, ⟨(some 49), some (35, false), .pick (.tmp 38) (.tmp 48) (.const (.bool false))⟩),
    (none, ⟨(some 50), none, .pick (.tmp 35) (.const (.bool true)) (.tmp 49)⟩)])
  (.kept [1, 24, 25, 26, 50] (.cond (.tmp 50) (.seq (.ops [⟨(some 2), none, .mv (.const (.bool false))⟩])
  (.ret)) (.skip))))))
  (.kept [1, 24, 25, 26] (.ops [⟨(some 51), none, .bin .add (.tmp 26) (.const (.int .i64 1))⟩,
    ⟨(some 26), none, .mv (.tmp 51)⟩]))))
def c_impl_GoodNet : AS :=
  .seq (.ops [⟨(some 1), none, .box (.tmp 0)⟩,
    ⟨(some 2), none, .mv (.const (.bool false))⟩])
  (.seq (.seq (.ops [⟨(some 5), none, .fa 0 (.tmp 1)⟩,
    ⟨(some 6), none, .load none (.tmp 5)⟩,
    ⟨(some 7), none, .call 83 [(.tmp 6)]⟩,
    ⟨(some 8), none, .not (.tmp 7)⟩,
    ⟨(some 9), none, .mv (.tmp 8)⟩,
    ⟨(some 10), some (9, false), .fa 1 (.tmp 1)⟩,
    ⟨(some 11), some (9, false), .load none (.tmp 10)⟩,
    ⟨(some 12), some (9, false), .fa 2 (.tmp 1)⟩,
    ⟨(some 13), some (9, false), .load none (.tmp 12)⟩,
    ⟨(some 14), some (9, false), .call 84 [(.tmp 11), (.tmp 13)]⟩,
    ⟨(some 15), some (9, false), .not (.tmp 14)⟩,
    ⟨(some 16), none, .pick (.tmp 9) (.const (.bool true)) (.tmp 15)⟩,
    ⟨(some 17), none, .mv (.tmp 16)⟩,
    ⟨(some 18), some (17, false), .fa 3 (.tmp 1)⟩,
    ⟨(some 19), some (17, false), .load none (.tmp 18)⟩,
    ⟨(some 20), some (17, false), .lens (.tmp 19)⟩,
    ⟨(some 21), some (17, false), .bin .gtr (.tmp 20) (.const (.int .i64 60))⟩,
    ⟨(some 22), none, .pick (.tmp 17) (.const (.bool true)) (.tmp 21)⟩])
  (.kept [1, 22] (.cond (.tmp 22) (.seq (.ops [⟨(some 2), none, .mv (.const (.bool false))⟩])
  (.ret)) (.skip))))
  (.kept [1] (.seq (.seq (.ops [⟨(some 23), none, .fa 3 (.tmp 1)⟩,
    ⟨(some 24), none, .load none (.tmp 23)⟩,
    ⟨(some 25), none, .lens (.tmp 24)⟩,
    ⟨(some 26), none, .mv (.const (.int .i64 0))⟩])
  (.block 0 (.loop 1 [(1, 0), (24, 0), (25, 0), (26, 0)] c_impl_GoodNet_l1)))
  (.kept [] (.seq (.ops [⟨(some 2), none, .mv (.const (.bool true))⟩])
  (.ret))))))
theorem h_impl_GoodNet : (Try.prog.funcs[n_impl_GoodNet]?).bind (fun fn => fn.body.bind (comp Try.prog fn.ntmps)) = some (AS.strip c_impl_GoodNet) := by kernel_rfl
theorem r_impl_GoodNet : (Try.prog.funcs[n_impl_GoodNet]?).map (fun fn => (fn.results.toList, fn.ntmps)) = some ([.tmp 2], 52) := by kernel_rfl
-- 67 (loop.example/g00850/impl.Net).sent
abbrev n_impl_Net_sent : Nat := 67
def c_impl_Net_sent : AS :=
  .seq (.ops [⟨(some 4), none, .box (.tmp 0)⟩,
    ⟨(some 8), none, .alloc (.agg #[.int .i64 0, .slice none 0 0, .int .i64 0, .slice none 0 0])⟩,
    ⟨(some 9), none, .mv (.const (.bool false))⟩])
  (.seq (.seq (.ops [⟨(some 11), none, .load (some 4) (.tmp 4)⟩,
    ⟨(some 12), none, .mv (.tmp 1)⟩,
    ⟨(some 13), none, .call 86 [(.tmp 11), (.tmp 12)]⟩,
    ⟨(some 14), none, .not (.tmp 13)⟩,
    ⟨(some 15), none, .mv (.tmp 14)⟩,
    ⟨(some 16), some (15, false), .load (some 4) (.tmp 4)⟩,
    ⟨(some 17), some (15, false), .mv (.tmp 2)⟩,
    ⟨(some 18), some (15, false), .call 86 [(.tmp 16), (.tmp 17)]⟩,
    ⟨(some 19), some (15, false), .not (.tmp 18)⟩,
    ⟨(some 20), none, .pick (.tmp 15) (.const (.bool true)) (.tmp 19)⟩,
    ⟨(some 21), none, .mv (.tmp 20)⟩,
    ⟨(some 22), some (21, false), .mv (.tmp 1)⟩,
    ⟨(some 23), some (21, false), .mv (.tmp 2)⟩,
    ⟨(some 24), some (21, false), .bin .eql (.tmp 22) (.tmp 23)⟩,
    ⟨(some 25), none, .pick (.tmp 21) (.const (.bool true)) (.tmp 24)⟩])
  (.kept [1, 2, 3, 4, 8, 25] (.cond (.tmp 25) (.seq (.ops [⟨(some 26), none, .build (.agg #[.int .i64 0, .slice none 0 0, .int .i64 0, .slice none 0 0]) []⟩,
    ⟨none, none, .store 4 (.tmp 8) (.tmp 26)⟩,
    ⟨(some 9), none, .mv (.const (.bool false))⟩])
  (.ret)) (.skip))))
  (.kept [1, 2, 3, 4, 8] (.seq (.tops [(4, 0), (8, 0), (10, 0)] (.rd ⟨(some 27), none, .mv (.tmp 1)⟩ (.rd ⟨(some 28), none, .mv (.tmp 2)⟩ (.rd ⟨(some 29), none, .fa 0 (.tmp 4)⟩ (.rd ⟨(some 30), none, .load none (.tmp 29)⟩ (.rd ⟨(some 31), none, .load (some 4) (.tmp 4)⟩ (.rd ⟨(some 32), none, .mv (.tmp 1)⟩ (.rd ⟨(some 33), none, .mv (.tmp 2)⟩ (.rd ⟨(some 36), none, .mv (.tmp 3)⟩ (.alt [⟨(some 36), none, .mv (.tmp 3)⟩, ⟨(some 30), none, .load none (.tmp 29)⟩, ⟨(some 29), none, .fa 0 (.tmp 4)⟩, ⟨(some 28), none, .mv (.tmp 2)⟩, ⟨(some 27), none, .mv (.tmp 1)⟩] ⟨(some 34), none, .call 87 [(.tmp 31), (.tmp 32), (.tmp 33)]⟩
    (.rd ⟨(some 35), none, .bin .add (.tmp 30) (.tmp 34)⟩ (.rd ⟨(some 37), none, .build (.agg #[.int .i64 0, .int .i64 0, .int .i64 0, .string ⟨⟨[]⟩⟩]) [(0, 1, (.tmp 27)), (1, 1, (.tmp 28)), (2, 1, (.tmp 35)), (3, 1, (.tmp 36))]⟩ (.alt [⟨(some 37), none, .build (.agg #[.int .i64 0, .int .i64 0, .int .i64 0, .string ⟨⟨[]⟩⟩]) [(0, 1, (.tmp 27)), (1, 1, (.tmp 28)), (2, 1, (.tmp 35)), (3, 1, (.tmp 36))]⟩, ⟨(some 35), none, .bin .add (.tmp 30) (.tmp 34)⟩, ⟨(some 36), none, .mv (.tmp 3)⟩, ⟨(some 30), none, .load none (.tmp 29)⟩, ⟨(some 29), none, .fa 0 (.tmp 4)⟩, ⟨(some 28), none, .mv (.tmp 2)⟩, ⟨(some 27), none, .mv (.tmp 1)⟩] ⟨(some 10), none, .alloc (.agg #[.int .i64 0, .int .i64 0, .int .i64 0, .string ⟨⟨[]⟩⟩])⟩
    (.alt [] ⟨none, none, .store 4 (.tmp 10) (.tmp 37)⟩
    (.done)
    (.none))
    (.none))))
    (.alt [⟨(some 36), none, .mv (.tmp 3)⟩, ⟨(some 33), none, .mv (.tmp 2)⟩, ⟨(some 32), none, .mv (.tmp 1)⟩, ⟨(some 31), none, .load (some 4) (.tmp 4)⟩, ⟨(some 30), none, .load none (.tmp 29)⟩, ⟨(some 29), none, .fa 0 (.tmp 4)⟩, ⟨(some 28), none, .mv (.tmp 2)⟩, ⟨(some 27), none, .mv (.tmp 1)⟩] ⟨(some 10), none, .alloc (.agg #[.int .i64 0, .int .i64 0, .int .i64 0, .string ⟨⟨[]⟩⟩])⟩
    (.alt [⟨(some 36), none, .mv (.tmp 3)⟩, ⟨(some 30), none, .load none (.tmp 29)⟩, ⟨(some 29), none, .fa 0 (.tmp 4)⟩, ⟨(some 28), none, .mv (.tmp 2)⟩, ⟨(some 27), none, .mv (.tmp 1)⟩] ⟨(some 34), none, .call 87 [(.tmp 31), (.tmp 32), (.tmp 33)]⟩
    (.rd ⟨(some 35), none, .bin .add (.tmp 30) (.tmp 34)⟩ (.rd ⟨(some 37), none, .build (.agg #[.int .i64 0, .int .i64 0, .int .i64 0, .string ⟨⟨[]⟩⟩]) [(0, 1, (.tmp 27)), (1, 1, (.tmp 28)), (2, 1, (.tmp 35)), (3, 1, (.tmp 36))]⟩ (.alt [] ⟨none, none, .store 4 (.tmp 10) (.tmp 37)⟩
    (.done)
    (.none))))
    (.none))
    (.none))))))))))))
  (.kept [4, 8, 10] (.seq (.seq (.ops [⟨(some 38), none, .load (some 4) (.tmp 4)⟩,
    ⟨(some 39), none, .load (some 4) (.tmp 10)⟩,
    ⟨(some 40), none, .call 85 [(.tmp 38), (.tmp 39)]⟩,
    ⟨(some 41), none, .not (.tmp 40)⟩,
    ⟨(some 42), none, .mv (.tmp 41)⟩,
    ⟨(some 43), some (42, false), .fa 3 (.tmp 4)⟩,
    ⟨(some 44), some (42, false), .load none (.tmp 43)⟩,
    ⟨(some 45), some (42, false), .lens (.tmp 44)⟩,
    ⟨(some 46), some (42, false), .bin .geq (.tmp 45) (.const (.int .i64 60))⟩,
    ⟨(some 47), none, .pick (.tmp 42) (.const (.bool true)) (.tmp 46)⟩])
  (.kept [4, 8, 10, 47] (.cond (.tmp 47) (.seq (.ops [⟨(some 48), none, .build (.agg #[.int .i64 0, .slice none 0 0, .int .i64 0, .slice none 0 0]) []⟩,
    ⟨none, none, .store 4 (.tmp 8) (.tmp 48)⟩,
    ⟨(some 9), none, .mv (.const (.bool false))⟩])
  (.ret)) (.skip))))
  (.kept [4, 8, 10] (.seq (.ops [⟨(some 49), none, .fa 1 (.tmp 4)⟩,
    ⟨(some 50), none, .load none (.tmp 49)⟩,
    ⟨(some 51), none, .call 72 [(.tmp 50)]⟩,
    ⟨(some 52), none, .fa 1 (.tmp 4)⟩,
    ⟨none, none, .store 1 (.tmp 52) (.tmp 51)⟩])
  (.seq (.ops [⟨(some 53), none, .fa 3 (.tmp 4)⟩,
    ⟨(some 54), none, .load none (.tmp 53)⟩,
    ⟨(some 55), none, .load (some 4) (.tmp 10)⟩,
    ⟨(some 56), none, .call 61 [(.tmp 54), (.tmp 55)]⟩,
    ⟨(some 57), none, .fa 3 (.tmp 4)⟩,
    ⟨none, none, .store 1 (.tmp 57) (.tmp 56)⟩])
  (.seq (.ops [⟨(some 58), none, .load (some 4) (.tmp 4)⟩,
    ⟨none, none, .store 4 (.tmp 8) (.tmp 58)⟩,
    ⟨(some 9), none, .mv (.const (.bool true))⟩])
  (.ret))))))))))
theorem h_impl_Net_sent : (Try.prog.funcs[n_impl_Net_sent]?).bind (fun fn => fn.body.bind (comp Try.prog fn.ntmps)) = some (AS.strip c_impl_Net_sent) := by kernel_rfl
theorem r_impl_Net_sent : (Try.prog.funcs[n_impl_Net_sent]?).map (fun fn => (fn.results.toList, fn.ntmps)) = some ([.cell 8 40, .tmp 9], 59) := by kernel_rfl
-- 69 loop.example/g00850/spec.l1All
abbrev n_spec_l1All : Nat := 69
def c_spec_l1All_l1 : AS :=
  .seq (.ops [⟨(some 12), none, .bin .lss (.tmp 11) (.tmp 10)⟩])
  (.seq (.cond (.tmp 12) (.skip) (.exit 0))
  (.seq (.block 1 (.seq (.ops [⟨(some 13), none, .ia 1 (.tmp 9) (.tmp 11)⟩,
    ⟨(some 14), none, .load none (.tmp 13)⟩,
    ⟨(some 8), none, .mv (.tmp 14)⟩])
  (.seq (.ops [⟨(some 15), none, .mv (.tmp 8)⟩,
    ⟨(some 16), none, .mv (.tmp 1)⟩,
    ⟨(some 17), none, .mv (.tmp 2)⟩,
    ⟨(some 18), none, .call 31 [(.tmp 15), (.tmp 16), (.tmp 17)]⟩,
    ⟨(some 19), none, .not (.tmp 18)⟩])
  (.cond (.tmp 19) (.seq (.ops [⟨(some 6), none, .mv (.const (.bool false))⟩])
  (.ret)) (.skip)))))
  (.kept [1, 2, 9, 10, 11] (.ops [⟨(some 20), none, .bin .add (.tmp 11) (.const (.int .i64 1))⟩,
    ⟨(some 11), none, .mv (.tmp 20)⟩]))))
def c_spec_l1All : AS :=
  .seq (.ops [⟨(some 6), none, .mv (.const (.bool false))⟩])
  (.seq (.seq (.ops [⟨(some 9), none, .mv (.tmp 0)⟩,
    ⟨(some 10), none, .lens (.tmp 9)⟩,
    ⟨(some 11), none, .mv (.const (.int .i64 0))⟩])
  (.block 0 (.loop 3 [(1, 0), (2, 0), (9, 0), (10, 0), (11, 0)] c_spec_l1All_l1)))
  (.kept [] (.seq (.ops [⟨(some 6), none, .mv (.const (.bool true))⟩])
  (.ret))))
theorem h_spec_l1All : (Try.prog.funcs[n_spec_l1All]?).bind (fun fn => fn.body.bind (comp Try.prog fn.ntmps)) = some (AS.strip c_spec_l1All) := by kernel_rfl
theorem r_spec_l1All : (Try.prog.funcs[n_spec_l1All]?).map (fun fn => (fn.results.toList, fn.ntmps)) = some ([.tmp 6], 21) := by kernel_rfl
-- 72 slices.Clone[[]int,int]
abbrev n_slices_Clone___int_int_ : Nat := 72
def c_slices_Clone___int_int_ : AS :=
  .seq (.ops [⟨(some 2), none, .mv (.const (.slice none 0 0))⟩])
  (.seq (.seq (.ops [⟨(some 3), none, .mv (.tmp 0)⟩,
    ⟨(some 4), none, .isn false (.tmp 3)⟩])
  (.cond (.tmp 4) (.seq (.ops [⟨(some 2), none, .mv (.const (.slice none 0 0))⟩])
  (.ret)) (.skip)))
  (.seq (.ops [⟨(some 5), none, .bsl 1 (.int .i64 0) 0 []⟩,
    ⟨(some 6), none, .mv (.tmp 0)⟩,
    ⟨(some 7), none, .app 1 8 (.int .i64 0) (.tmp 5) (.tmp 6)⟩,
    ⟨(some 2), none, .mv (.tmp 7)⟩])
  (.ret)))
theorem h_slices_Clone___int_int_ : (Try.prog.funcs[n_slices_Clone___int_int_]?).bind (fun fn => fn.body.bind (comp Try.prog fn.ntmps)) = some (AS.strip c_slices_Clone___int_int_) := by kernel_rfl
theorem r_slices_Clone___int_int_ : (Try.prog.funcs[n_slices_Clone___int_int_]?).map (fun fn => (fn.results.toList, fn.ntmps)) = some ([.tmp 2], 8) := by kernel_rfl
-- 73 loop.example/g00850/laws.markText
abbrev n_laws_markText : Nat := 73
def c_laws_markText_l1 : AS :=
  .seq (.seq (.ops [⟨(some 6), none, .mv (.tmp 0)⟩,
    ⟨(some 7), none, .bin .gtr (.tmp 6) (.const (.int .i64 0))⟩])
  (.cond (.tmp 7) (.skip) (.exit 0)))
  (.block 1 (.seq (.ops [⟨(some 8), none, .mv (.tmp 0)⟩,
    ⟨(some 9), none, .bin .rem (.tmp 8) (.const (.int .i64 10))⟩,
    ⟨(some 10), none, .bin .add (.const (.int .i64 48)) (.tmp 9)⟩,
    ⟨(some 11), none, .cvi .u8 (.tmp 10)⟩,
    ⟨(some 12), none, .bsl 1 (.int .u8 0) 1 [(0, (.tmp 11))]⟩,
    ⟨(some 13), none, .cvbs (.tmp 12)⟩,
    ⟨(some 14), none, .mv (.tmp 3)⟩,
    ⟨(some 15), none, .bin .add (.tmp 13) (.tmp 14)⟩,
    ⟨(some 3), none, .mv (.tmp 15)⟩])
  (.kept [0, 3] (.ops [⟨(some 16), none, .mv (.tmp 0)⟩,
    ⟨(some 17), none, .bin .quo (.tmp 16) (.const (.int .i64 10))⟩,
    ⟨(some 0), none, .mv (.tmp 17)⟩]))))
def c_laws_markText : AS :=
  .seq (.ops [⟨(some 2), none, .mv (.const (.string ⟨⟨[]⟩⟩))⟩])
  (.seq (.seq (.ops [⟨(some 4), none, .mv (.tmp 0)⟩,
    ⟨(some 5), none, .bin .leq (.tmp 4) (.const (.int .i64 0))⟩])
  (.cond (.tmp 5) (.seq (.ops [⟨(some 2), none, .mv (.const (.string ⟨⟨[109, 48]⟩⟩))⟩])
  (.ret)) (.skip)))
  (.seq (.ops [⟨(some 3), none, .mv (.const (.string ⟨⟨[]⟩⟩))⟩])
  (.seq (.block 0 (.loop 1 [(0, 0), (3, 0)] c_laws_markText_l1))
  (.kept [3] (.seq (.ops [⟨(some 18), none, .mv (.tmp 3)⟩,
    ⟨(some 19), none, .bin .add (.const (.string ⟨⟨[109]⟩⟩)) (.tmp 18)⟩,
    ⟨(some 2), none, .mv (.tmp 19)⟩])
  (.ret))))))
theorem h_laws_markText : (Try.prog.funcs[n_laws_markText]?).bind (fun fn => fn.body.bind (comp Try.prog fn.ntmps)) = some (AS.strip c_laws_markText) := by kernel_rfl
theorem r_laws_markText : (Try.prog.funcs[n_laws_markText]?).map (fun fn => (fn.results.toList, fn.ntmps)) = some ([.tmp 2], 20) := by kernel_rfl
-- 74 loop.example/g00850/laws.szLetter
abbrev n_laws_szLetter : Nat := 74
def c_laws_szLetter : AS :=
  .seq (.ops [⟨(some 2), none, .box (.tmp 0)⟩,
    ⟨(some 4), none, .mv (.const (.int .i64 0))⟩])
  (.seq (.ops [⟨(some 5), none, .mv (.tmp 1)⟩,
    ⟨(some 6), none, .fa 3 (.tmp 2)⟩,
    ⟨(some 7), none, .load none (.tmp 6)⟩,
    ⟨(some 8), none, .lent (.tmp 7)⟩,
    ⟨(some 9), none, .bin .sub (.tmp 5) (.tmp 8)⟩,
    ⟨(some 1), none, .mv (.tmp 9)⟩])
  (.seq (.seq (.ops [⟨(some 10), none, .mv (.tmp 1)⟩,
    ⟨(some 11), none, .bin .lss (.tmp 10) (.const (.int .i64 0))⟩])
  (.cond (.tmp 11) (.seq (.ops [⟨(some 4), none, .mv (.const (.int .i64 (-1)))⟩])
  (.ret)) (.skip)))
  (.seq (.ops [⟨(some 12), none, .mv (.tmp 1)⟩,
    ⟨(some 4), none, .mv (.tmp 12)⟩])
  (.ret))))
theorem h_laws_szLetter : (Try.prog.funcs[n_laws_szLetter]?).bind (fun fn => fn.body.bind (comp Try.prog fn.ntmps)) = some (AS.strip c_laws_szLetter) := by kernel_rfl
theorem r_laws_szLetter : (Try.prog.funcs[n_laws_szLetter]?).map (fun fn => (fn.results.toList, fn.ntmps)) = some ([.tmp 4], 13) := by kernel_rfl
-- 75 loop.example/g00850/spec.l7OwnL
abbrev n_spec_l7OwnL : Nat := 75
def c_spec_l7OwnL : AS :=
  .seq (.ops [⟨(some 2), none, .mv (.const (.slice none 0 0))⟩])
  (.seq (.ops [⟨(some 3), none, .bsl 4 (.agg #[.int .i64 0, .int .i64 0, .int .i64 0, .string ⟨⟨[]⟩⟩]) 0 []⟩,
    ⟨(some 4), none, .mv (.tmp 0)⟩,
    ⟨(some 5), none, .app 4 40 (.agg #[.int .i64 0, .int .i64 0, .int .i64 0, .string ⟨⟨[]⟩⟩]) (.tmp 3) (.tmp 4)⟩,
    ⟨(some 2), none, .mv (.tmp 5)⟩])
  (.ret))
theorem h_spec_l7OwnL : (Try.prog.funcs[n_spec_l7OwnL]?).bind (fun fn => fn.body.bind (comp Try.prog fn.ntmps)) = some (AS.strip c_spec_l7OwnL) := by kernel_rfl
theorem r_spec_l7OwnL : (Try.prog.funcs[n_spec_l7OwnL]?).map (fun fn => (fn.results.toList, fn.ntmps)) = some ([.tmp 2], 6) := by kernel_rfl
-- 76 loop.example/g00850/laws.toLetter
abbrev n_laws_toLetter : Nat := 76
def c_laws_toLetter : AS :=
  .seq (.ops [⟨(some 1), none, .box (.tmp 0)⟩,
    ⟨(some 2), none, .alloc (.agg #[.int .i64 0, .int .i64 0, .int .i64 0, .string ⟨⟨[]⟩⟩])⟩])
  (.seq (.ops [⟨(some 3), none, .alloc (.agg #[.int .i64 0, .int .i64 0, .int .i64 0, .string ⟨⟨[]⟩⟩])⟩])
  (.seq (.ops [⟨(some 4), none, .fa 0 (.tmp 1)⟩,
    ⟨(some 5), none, .load none (.tmp 4)⟩,
    ⟨(some 6), none, .fa 0 (.tmp 3)⟩,
    ⟨none, none, .store 1 (.tmp 6) (.tmp 5)⟩])
  (.seq (.ops [⟨(some 7), none, .fa 1 (.tmp 1)⟩,
    ⟨(some 8), none, .load none (.tmp 7)⟩,
    ⟨(some 9), none, .fa 1 (.tmp 3)⟩,
    ⟨none, none, .store 1 (.tmp 9) (.tmp 8)⟩])
  (.seq (.ops [⟨(some 10), none, .fa 2 (.tmp 1)⟩,
    ⟨(some 11), none, .load none (.tmp 10)⟩,
    ⟨(some 12), none, .fa 2 (.tmp 3)⟩,
    ⟨none, none, .store 1 (.tmp 12) (.tmp 11)⟩])
  (.seq (.ops [⟨(some 13), none, .fa 3 (.tmp 1)⟩,
    ⟨(some 14), none, .load none (.tmp 13)⟩,
    ⟨(some 15), none, .fa 3 (.tmp 3)⟩,
    ⟨none, none, .store 1 (.tmp 15) (.tmp 14)⟩])
  (.seq (.ops [⟨(some 16), none, .load (some 4) (.tmp 3)⟩,
    ⟨none, none, .store 4 (.tmp 2) (.tmp 16)⟩])
  (.ret)))))))
theorem h_laws_toLetter : (Try.prog.funcs[n_laws_toLetter]?).bind (fun fn => fn.body.bind (comp Try.prog fn.ntmps)) = some (AS.strip c_laws_toLetter) := by kernel_rfl
theorem r_laws_toLetter : (Try.prog.funcs[n_laws_toLetter]?).map (fun fn => (fn.results.toList, fn.ntmps)) = some ([.cell 2 73], 17) := by kernel_rfl
-- 78 loop.example/g00850/laws.eqLetter
abbrev n_laws_eqLetter : Nat := 78
def c_laws_eqLetter : AS :=
  .seq (.ops [⟨(some 2), none, .box (.tmp 0)⟩,
    ⟨(some 3), none, .box (.tmp 1)⟩,
    ⟨(some 4), none, .mv (.const (.bool false))⟩])
  (.seq (.seq (.ops [⟨(some 5), none, .fa 0 (.tmp 2)⟩,
    ⟨(some 6), none, .load none (.tmp 5)⟩,
    ⟨(some 7), none, .fa 0 (.tmp 3)⟩,
    ⟨(some 8), none, .load none (.tmp 7)⟩,
    ⟨(some 9), none, .bin .neq (.tmp 6) (.tmp 8)⟩])
  (.cond (.tmp 9) (.seq (.ops [⟨(some 4), none, .mv (.const (.bool false))⟩])
  (.ret)) (.skip)))
  (.kept [2, 3] (.seq (.seq (.ops [⟨(some 10), none, .fa 1 (.tmp 2)⟩,
    ⟨(some 11), none, .load none (.tmp 10)⟩,
    ⟨(some 12), none, .fa 1 (.tmp 3)⟩,
    ⟨(some 13), none, .load none (.tmp 12)⟩,
    ⟨(some 14), none, .bin .neq (.tmp 11) (.tmp 13)⟩])
  (.cond (.tmp 14) (.seq (.ops [⟨(some 4), none, .mv (.const (.bool false))⟩])
  (.ret)) (.skip)))
  (.kept [2, 3] (.seq (.seq (.ops [⟨(some 15), none, .fa 2 (.tmp 2)⟩,
    ⟨(some 16), none, .load none (.tmp 15)⟩,
    ⟨(some 17), none, .fa 2 (.tmp 3)⟩,
    ⟨(some 18), none, .load none (.tmp 17)⟩,
    ⟨(some 19), none, .bin .neq (.tmp 16) (.tmp 18)⟩])
  (.cond (.tmp 19) (.seq (.ops [⟨(some 4), none, .mv (.const (.bool false))⟩])
  (.ret)) (.skip)))
  (.kept [2, 3] (.seq (.seq (.ops [⟨(some 20), none, .fa 3 (.tmp 2)⟩,
    ⟨(some 21), none, .load none (.tmp 20)⟩,
    ⟨(some 22), none, .fa 3 (.tmp 3)⟩,
    ⟨(some 23), none, .load none (.tmp 22)⟩,
    ⟨(some 24), none, .bin .neq (.tmp 21) (.tmp 23)⟩])
  (.cond (.tmp 24) (.seq (.ops [⟨(some 4), none, .mv (.const (.bool false))⟩])
  (.ret)) (.skip)))
  (.kept [] (.seq (.ops [⟨(some 4), none, .mv (.const (.bool true))⟩])
  (.ret))))))))))
theorem h_laws_eqLetter : (Try.prog.funcs[n_laws_eqLetter]?).bind (fun fn => fn.body.bind (comp Try.prog fn.ntmps)) = some (AS.strip c_laws_eqLetter) := by kernel_rfl
theorem r_laws_eqLetter : (Try.prog.funcs[n_laws_eqLetter]?).map (fun fn => (fn.results.toList, fn.ntmps)) = some ([.tmp 4], 25) := by kernel_rfl
-- 79 slices.IndexFunc[[]loop.example/g00850/impl.Letter,loop.example/g00850/impl.Letter]
abbrev n_slices_IndexFunc___impl_Letter_impl_Letter_ : Nat := 79
def c_slices_IndexFunc___impl_Letter_impl_Letter__l1 : AS :=
  .seq (.ops [⟨(some 9), none, .bin .lss (.tmp 8) (.tmp 7)⟩])
  (.seq (.cond (.tmp 9) (.skip) (.exit 0))
  (.seq (.block 1 (.seq (.ops [⟨(some 10), none, .mv (.tmp 8)⟩,
    ⟨(some 5), none, .mv (.tmp 10)⟩])
  (.seq (.ops [⟨(some 11), none, .mv (.tmp 1)⟩,
    ⟨(some 12), none, .mv (.tmp 0)⟩,
    ⟨(some 13), none, .mv (.tmp 5)⟩,
    ⟨(some 14), none, .ia 4 (.tmp 12) (.tmp 13)⟩,
    ⟨(some 15), none, .load (some 4) (.tmp 14)⟩,
    ⟨(some 16), none, .callv (.tmp 11) [(.tmp 15)]⟩])
  (.cond (.tmp 16) (.seq (.ops [⟨(some 17), none, .mv (.tmp 5)⟩,
    ⟨(some 4), none, .mv (.tmp 17)⟩])
  (.ret)) (.skip)))))
  (.kept [0, 1, 7, 8] (.ops [⟨(some 18), none, .bin .add (.tmp 8) (.const (.int .i64 1))⟩,
    ⟨(some 8), none, .mv (.tmp 18)⟩]))))
def c_slices_IndexFunc___impl_Letter_impl_Letter_ : AS :=
  .seq (.ops [⟨(some 4), none, .mv (.const (.int .i64 0))⟩])
  (.seq (.seq (.ops [⟨(some 6), none, .mv (.tmp 0)⟩,
    ⟨(some 7), none, .lens (.tmp 6)⟩,
    ⟨(some 8), none, .mv (.const (.int .i64 0))⟩])
  (.block 0 (.loop 2 [(0, 0), (1, 0), (7, 0), (8, 0)] c_slices_IndexFunc___impl_Letter_impl_Letter__l1)))
  (.kept [] (.seq (.ops [⟨(some 4), none, .mv (.const (.int .i64 (-1)))⟩])
  (.ret))))
theorem h_slices_IndexFunc___impl_Letter_impl_Letter_ : (Try.prog.funcs[n_slices_IndexFunc___impl_Letter_impl_Letter_]?).bind (fun fn => fn.body.bind (comp Try.prog fn.ntmps)) = some (AS.strip c_slices_IndexFunc___impl_Letter_impl_Letter_) := by kernel_rfl
theorem r_slices_IndexFunc___impl_Letter_impl_Letter_ : (Try.prog.funcs[n_slices_IndexFunc___impl_Letter_impl_Letter_]?).map (fun fn => (fn.results.toList, fn.ntmps)) = some ([.tmp 4], 19) := by kernel_rfl
-- 80 loop.example/g00850/impl.laid$1
abbrev n_impl_laid_1 : Nat := 80
def c_impl_laid_1 : AS :=
  .seq (.ops [⟨(some 2), none, .box (.tmp 0)⟩,
    ⟨(some 3), none, .mv (.const (.bool false))⟩])
  (.seq (.ops [⟨(some 4), none, .fa 2 (.tmp 2)⟩,
    ⟨(some 5), none, .load none (.tmp 4)⟩,
    ⟨(some 6), none, .fa 2 (.tmp 1)⟩,
    ⟨(some 7), none, .load none (.tmp 6)⟩,
    ⟨(some 8), none, .bin .gtr (.tmp 5) (.tmp 7)⟩,
    ⟨(some 3), none, .mv (.tmp 8)⟩])
  (.ret))
theorem h_impl_laid_1 : (Try.prog.funcs[n_impl_laid_1]?).bind (fun fn => fn.body.bind (comp Try.prog fn.ntmps)) = some (AS.strip c_impl_laid_1) := by kernel_rfl
theorem r_impl_laid_1 : (Try.prog.funcs[n_impl_laid_1]?).map (fun fn => (fn.results.toList, fn.ntmps)) = some ([.tmp 3], 9) := by kernel_rfl
-- 81 slices.Insert[[]loop.example/g00850/impl.Letter,loop.example/g00850/impl.Letter]
abbrev n_slices_Insert___impl_Letter_impl_Letter_ : Nat := 81
def c_slices_Insert___impl_Letter_impl_Letter_ : AS :=
  .seq (.ops [⟨(some 6), none, .mv (.const (.slice none 0 0))⟩])
  (.seq (.ops [⟨(some 10), none, .mv (.tmp 0)⟩,
    ⟨(some 11), none, .mv (.tmp 1)⟩,
    ⟨(some 12), none, .sls 4 (.tmp 10) (some (.tmp 11)) none none⟩])
  (.seq (.ops [⟨(some 13), none, .mv (.tmp 2)⟩,
    ⟨(some 14), none, .lens (.tmp 13)⟩,
    ⟨(some 7), none, .mv (.tmp 14)⟩])
  (.seq (.seq (.ops [⟨(some 15), none, .mv (.tmp 7)⟩,
    ⟨(some 16), none, .bin .eql (.tmp 15) (.const (.int .i64 0))⟩])
  (.cond (.tmp 16) (.seq (.post [(6, 0, [])] (.ops [⟨(some 17), none, .mv (.tmp 0)⟩,
    ⟨(some 6), none, .mv (.tmp 17)⟩]))
  (.ret)) (.skip)))
  (.seq (.ops [⟨(some 18), none, .mv (.tmp 0)⟩,
    ⟨(some 19), none, .lens (.tmp 18)⟩,
    ⟨(some 8), none, .mv (.tmp 19)⟩])
  (.seq (.seq (.ops [⟨(some 20), none, .mv (.tmp 1)⟩,
    ⟨(some 21), none, .mv (.tmp 8)⟩,
    ⟨(some 22), none, .bin .eql (.tmp 20) (.tmp 21)⟩])
  (.cond (.tmp 22) (.seq (.post [(6, 0, [])] (.ops [⟨(some 23), none, .mv (.tmp 0)⟩,
    ⟨(some 24), none, .mv (.tmp 2)⟩,
    ⟨(some 25), none, .app 4 40 (.agg #[.int .i64 0, .int .i64 0, .int .i64 0, .string ⟨⟨[]⟩⟩]) (.tmp 23) (.tmp 24)⟩,
    ⟨(some 6), none, .mv (.tmp 25)⟩]))
  (.ret)) (.skip)))
  (.kept [0, 1, 2, 7, 8] (.seq (.seq (.ops [⟨(some 26), none, .mv (.tmp 8)⟩,
    ⟨(some 27), none, .mv (.tmp 7)⟩,
    ⟨(some 28), none, .bin .add (.tmp 26) (.tmp 27)⟩,
    ⟨(some 29), none, .mv (.tmp 0)⟩,
    ⟨(some 30), none, .capo (.tmp 29)⟩,
    ⟨(some 31), none, .bin .gtr (.tmp 28) (.tmp 30)⟩])
  (.cond (.tmp 31) (.seq (.ops [⟨(some 32), none, .mv (.tmp 0)⟩,
    ⟨(some 33), none, .mv (.tmp 1)⟩,
    ⟨(some 34), none, .sls 4 (.tmp 32) none (some (.tmp 33)) none⟩,
    ⟨(some 35), none, .mv (.tmp 8)⟩,
    ⟨(some 36), none, .mv (.tmp 7)⟩,
    ⟨(some 37), none, .bin .add (.tmp 35) (.tmp 36)⟩,
    ⟨(some 38), none, .mv (.tmp 1)⟩,
    ⟨(some 39), none, .bin .sub (.tmp 37) (.tmp 38)⟩,
    ⟨(some 40), none, .apz 4 40 (.agg #[.int .i64 0, .int .i64 0, .int .i64 0, .string ⟨⟨[]⟩⟩]) (.tmp 34) (.tmp 39)⟩,
    ⟨(some 9), none, .mv (.tmp 40)⟩])
  (.kept [0, 1, 2, 7, 9] (.seq (.ops [⟨(some 41), none, .mv (.tmp 9)⟩,
    ⟨(some 42), none, .mv (.tmp 1)⟩,
    ⟨(some 43), none, .sls 4 (.tmp 41) (some (.tmp 42)) none none⟩,
    ⟨(some 44), none, .mv (.tmp 2)⟩,
    ⟨(some 45), none, .cpy 4 (.tmp 43) (.tmp 44)⟩])
  (.seq (.rops [(none, ⟨(some 46), none, .mv (.tmp 9)⟩),
    (none, ⟨(some 47), none, .mv (.tmp 1)⟩),
    (none, ⟨(some 48), none, .mv (.tmp 7)⟩),
    (none, ⟨(some 49), none, .bin .add (.tmp 47) (.tmp 48)⟩),
    (none, ⟨(some 50), none, .sls 4 (.tmp 46) (some (.tmp 49)) none none⟩),
    (none, ⟨(some 51), none, .mv (.tmp 0)⟩),
    (none, ⟨(some 52), none, .mv (.tmp 1)⟩),
    (none, ⟨(some 53), none, .sls 4 (.tmp 51) (some (.tmp 52)) none none⟩),
    (some [], ⟨(some 54), none, .cpy 4 (.tmp 50) (.tmp 53)⟩)])
  (.kept [9] (.seq (.post [(6, 0, [])] (.ops [⟨(some 55), none, .mv (.tmp 9)⟩,
    ⟨(some 6), none, .mv (.tmp 55)⟩]))
  (.ret))))))) (.skip)))
  (.kept [0, 1, 2, 7, 8] (.seq (.ops [⟨(some 56), none, .mv (.tmp 0)⟩,
    ⟨(some 57), none, .mv (.tmp 8)⟩,
    ⟨(some 58), none, .mv (.tmp 7)⟩,
    ⟨(some 59), none, .bin .add (.tmp 57) (.tmp 58)⟩,
    ⟨(some 60), none, .sls 4 (.tmp 56) none (some (.tmp 59)) none⟩,
    ⟨(some 0), none, .mv (.tmp 60)⟩])
  (.seq (.seq (.ops [⟨(some 61), none, .mv (.tmp 2)⟩,
    ⟨(some 62), none, .mv (.tmp 0)⟩,
    ⟨(some 63), none, .mv (.tmp 1)⟩,
    ⟨(some 64), none, .mv (.tmp 7)⟩,
    ⟨(some 65), none, .bin .add (.tmp 63) (.tmp 64)⟩,
    ⟨(some 66), none, .sls 4 (.tmp 62) (some (.tmp 65)) none none⟩,
    ⟨(some 67), none, .xcall 93 [(.tmp 61), (.tmp 66)]⟩,
    ⟨(some 68), none, .not (.tmp 67)⟩])
  (.kept [0, 1, 2, 7, 8, 68] (.cond (.tmp 68) (.seq (.rops [(none, ⟨(some 69), none, .mv (.tmp 0)⟩),
    (none, ⟨(some 70), none, .mv (.tmp 1)⟩),
    (none, ⟨(some 71), none, .mv (.tmp 7)⟩),
    (none, ⟨(some 72), none, .bin .add (.tmp 70) (.tmp 71)⟩),
    (none, ⟨(some 73), none, .sls 4 (.tmp 69) (some (.tmp 72)) none none⟩),
    (none, ⟨(some 74), none, .mv (.tmp 0)⟩),
    (none, ⟨(some 75), none, .mv (.tmp 1)⟩),
    (none, ⟨(some 76), none, .sls 4 (.tmp 74) (some (.tmp 75)) none none⟩),
    (some [], ⟨(some 77), none, .cpy 4 (.tmp 73) (.tmp 76)⟩)])
  (.kept [0, 1, 2] (.seq (.ops [⟨(some 78), none, .mv (.tmp 0)⟩,
    ⟨(some 79), none, .mv (.tmp 1)⟩,
    ⟨(some 80), none, .sls 4 (.tmp 78) (some (.tmp 79)) none none⟩,
    ⟨(some 81), none, .mv (.tmp 2)⟩,
    ⟨(some 82), none, .cpy 4 (.tmp 80) (.tmp 81)⟩])
  (.seq (.post [(6, 0, [])] (.ops [⟨(some 83), none, .mv (.tmp 0)⟩,
    ⟨(some 6), none, .mv (.tmp 83)⟩]))
  (.ret))))) (.skip))))
  (.kept [0, 1, 2, 7, 8] (.seq (.ops [⟨(some 84), none, .mv (.tmp 0)⟩,
    ⟨(some 85), none, .mv (.tmp 8)⟩,
    ⟨(some 86), none, .sls 4 (.tmp 84) (some (.tmp 85)) none none⟩,
    ⟨(some 87), none, .mv (.tmp 2)⟩,
    ⟨(some 88), none, .cpy 4 (.tmp 86) (.tmp 87)⟩])
  (.seq (.ops [⟨(some 89), none, .mv (.tmp 0)⟩,
    ⟨(some 90), none, .mv (.tmp 1)⟩,
    ⟨(some 91), none, .sls 4 (.tmp 89) (some (.tmp 90)) none none⟩,
    ⟨(some 92), none, .mv (.tmp 7)⟩,
    ⟨(some 93), none, .call 94 [(.tmp 91), (.tmp 92)]⟩])
  (.seq (.post [(6, 0, [])] (.ops [⟨(some 94), none, .mv (.tmp 0)⟩,
    ⟨(some 6), none, .mv (.tmp 94)⟩]))
  (.ret)))))))))))))))
theorem h_slices_Insert___impl_Letter_impl_Letter_ : (Try.prog.funcs[n_slices_Insert___impl_Letter_impl_Letter_]?).bind (fun fn => fn.body.bind (comp Try.prog fn.ntmps)) = some (AS.strip c_slices_Insert___impl_Letter_impl_Letter_) := by kernel_rfl
theorem r_slices_Insert___impl_Letter_impl_Letter_ : (Try.prog.funcs[n_slices_Insert___impl_Letter_impl_Letter_]?).map (fun fn => (fn.results.toList, fn.ntmps)) = some ([.tmp 6], 95) := by kernel_rfl
-- 82 loop.example/g00850/spec.l1Most
abbrev n_spec_l1Most : Nat := 82
def c_spec_l1Most : AS :=
  .seq (.ops [⟨(some 4), none, .mv (.const (.int .i64 0))⟩])
  (.seq (.seq (.ops [⟨(some 5), none, .mv (.tmp 0)⟩,
    ⟨(some 6), none, .mv (.tmp 1)⟩,
    ⟨(some 7), none, .bin .gtr (.tmp 5) (.tmp 6)⟩])
  (.cond (.tmp 7) (.seq (.ops [⟨(some 8), none, .mv (.tmp 0)⟩,
    ⟨(some 4), none, .mv (.tmp 8)⟩])
  (.ret)) (.skip)))
  (.seq (.ops [⟨(some 9), none, .mv (.tmp 1)⟩,
    ⟨(some 4), none, .mv (.tmp 9)⟩])
  (.ret)))
theorem h_spec_l1Most : (Try.prog.funcs[n_spec_l1Most]?).bind (fun fn => fn.body.bind (comp Try.prog fn.ntmps)) = some (AS.strip c_spec_l1Most) := by kernel_rfl
theorem r_spec_l1Most : (Try.prog.funcs[n_spec_l1Most]?).map (fun fn => (fn.results.toList, fn.ntmps)) = some ([.tmp 4], 10) := by kernel_rfl
-- 83 loop.example/g00850/impl.isTrue
abbrev n_impl_isTrue : Nat := 83
def c_impl_isTrue : AS :=
  .seq (.ops [⟨(some 2), none, .mv (.const (.bool false))⟩])
  (.seq (.ops [⟨(some 3), none, .mv (.tmp 0)⟩,
    ⟨(some 4), none, .call 62 [(.tmp 3), (.const (.int .i64 0)), (.const (.int .i64 100000))]⟩,
    ⟨(some 2), none, .mv (.tmp 4)⟩])
  (.ret))
theorem h_impl_isTrue : (Try.prog.funcs[n_impl_isTrue]?).bind (fun fn => fn.body.bind (comp Try.prog fn.ntmps)) = some (AS.strip c_impl_isTrue) := by kernel_rfl
theorem r_impl_isTrue : (Try.prog.funcs[n_impl_isTrue]?).map (fun fn => (fn.results.toList, fn.ntmps)) = some ([.tmp 2], 5) := by kernel_rfl
-- 84 loop.example/g00850/impl.areHomes
abbrev n_impl_areHomes : Nat := 84
def c_impl_areHomes : AS :=
  .seq (.ops [⟨(some 4), none, .mv (.const (.bool false))⟩])
  (.seq (.ops [⟨(some 5), none, .mv (.tmp 0)⟩,
    ⟨(some 6), none, .lens (.tmp 5)⟩,
    ⟨(some 7), none, .call 62 [(.tmp 6), (.const (.int .i64 1)), (.const (.int .i64 5))]⟩,
    ⟨(some 8), none, .mv (.tmp 7)⟩,
    ⟨(some 9), some (8, true), .mv (.tmp 0)⟩,
    ⟨(some 10), some (8, true), .call 90 [(.tmp 9), (.func 95)]⟩,
    ⟨(some 11), some (8, true), .not (.tmp 10)⟩,
    ⟨(some 12), none, .pick (.tmp 8) (.tmp 11) (.const (.bool false))⟩,
    ⟨(some 13), none, .mv (.tmp 12)⟩,
    ⟨(some 14), some (13, true), .mv (.tmp 1)⟩,
    ⟨(some 15), some (13, true), .call 62 [(.tmp 14), (.const (.int .i64 0)), (.const (.int .i64 20))]⟩,
    ⟨(some 16), none, .pick (.tmp 13) (.tmp 15) (.const (.bool false))⟩,
    ⟨(some 4), none, .mv (.tmp 16)⟩])
  (.ret))
theorem h_impl_areHomes : (Try.prog.funcs[n_impl_areHomes]?).bind (fun fn => fn.body.bind (comp Try.prog fn.ntmps)) = some (AS.strip c_impl_areHomes) := by kernel_rfl
theorem r_impl_areHomes : (Try.prog.funcs[n_impl_areHomes]?).map (fun fn => (fn.results.toList, fn.ntmps)) = some ([.tmp 4], 17) := by kernel_rfl
-- 85 (loop.example/g00850/impl.Net).isLetter
abbrev n_impl_Net_isLetter : Nat := 85
def c_impl_Net_isLetter : AS :=
  .seq (.ops [⟨(some 2), none, .box (.tmp 0)⟩,
    ⟨(some 3), none, .box (.tmp 1)⟩,
    ⟨(some 4), none, .mv (.const (.bool false))⟩])
  (.seq (.ops [⟨(some 5), none, .load (some 4) (.tmp 2)⟩,
    ⟨(some 6), none, .fa 0 (.tmp 3)⟩,
    ⟨(some 7), none, .load none (.tmp 6)⟩,
    ⟨(some 8), none, .call 86 [(.tmp 5), (.tmp 7)]⟩,
    ⟨(some 9), none, .mv (.tmp 8)⟩,
    ⟨(some 10), some (9, true), .load (some 4) (.tmp 2)⟩,
    ⟨(some 11), some (9, true), .fa 1 (.tmp 3)⟩,
    ⟨(some 12), some (9, true), .load none (.tmp 11)⟩,
    ⟨(some 13), some (9, true), .call 86 [(.tmp 10), (.tmp 12)]⟩,
    ⟨(some 14), none, .pick (.tmp 9) (.tmp 13) (.const (.bool false))⟩,
    ⟨(some 15), none, .mv (.tmp 14)⟩,
    ⟨(some 16), some (15, true), .fa 0 (.tmp 3)⟩,
    ⟨(some 17), some (15, true), .load none (.tmp 16)⟩,
    ⟨(some 18), some (15, true), .fa 1 (.tmp 3)⟩,
    ⟨(some 19), some (15, true), .load none (.tmp 18)⟩,
    ⟨(some 20), some (15, true), .bin .neq (.tmp 17) (.tmp 19)⟩,
    ⟨(some 21), none, .pick (.tmp 15) (.tmp 20) (.const (.bool false))⟩,
    ⟨(some 22), none, .mv (.tmp 21)⟩,
    ⟨(some 23), some (22, true), .fa 2 (.tmp 3)⟩,
    ⟨(some 24), some (22, true), .load none (.tmp 23)⟩,
    ⟨(some 25), some (22, true), .call 62 [(.tmp 24), (.const (.int .i64 0)), (.const (.int .i64 100200))]⟩,
    ⟨(some 26), none, .pick (.tmp 22) (.tmp 25) (.const (.bool false))⟩,
    ⟨(some 27), none, .mv (.tmp 26)⟩,
    ⟨(some 28), some (27, true), .fa 3 (.tmp 3)⟩,
    ⟨(some 29), some (27, true), .load none (.tmp 28)⟩,
    ⟨(some 30), some (27, true), .lent (.tmp 29)⟩,
    ⟨(some 31), some (27, true), .call 62 [(.tmp 30), (.const (.int .i64 1)), (.const (.int .i64 40))]⟩,
    ⟨(some 32), none, .pick (.tmp 27) (.tmp 31) (.const (.bool false))⟩,
    ⟨(some 4), none, .mv (.tmp 32)⟩])
  (.ret))
theorem h_impl_Net_isLetter : (Try.prog.funcs[n_impl_Net_isLetter]?).bind (fun fn => fn.body.bind (comp Try.prog fn.ntmps)) = some (AS.strip c_impl_Net_isLetter) := by kernel_rfl
theorem r_impl_Net_isLetter : (Try.prog.funcs[n_impl_Net_isLetter]?).map (fun fn => (fn.results.toList, fn.ntmps)) = some ([.tmp 4], 33) := by kernel_rfl
-- 86 (loop.example/g00850/impl.Net).isNode
abbrev n_impl_Net_isNode : Nat := 86
def c_impl_Net_isNode : AS :=
  .seq (.ops [⟨(some 2), none, .box (.tmp 0)⟩,
    ⟨(some 4), none, .mv (.const (.bool false))⟩])
  (.seq (.ops [⟨(some 5), none, .mv (.tmp 1)⟩,
    ⟨(some 6), none, .fa 1 (.tmp 2)⟩,
    ⟨(some 7), none, .load none (.tmp 6)⟩,
    ⟨(some 8), none, .lens (.tmp 7)⟩,
    ⟨(some 9), none, .bin .sub (.tmp 8) (.const (.int .i64 1))⟩,
    ⟨(some 10), none, .call 62 [(.tmp 5), (.const (.int .i64 0)), (.tmp 9)]⟩,
    ⟨(some 4), none, .mv (.tmp 10)⟩])
  (.ret))
theorem h_impl_Net_isNode : (Try.prog.funcs[n_impl_Net_isNode]?).bind (fun fn => fn.body.bind (comp Try.prog fn.ntmps)) = some (AS.strip c_impl_Net_isNode) := by kernel_rfl
theorem r_impl_Net_isNode : (Try.prog.funcs[n_impl_Net_isNode]?).map (fun fn => (fn.results.toList, fn.ntmps)) = some ([.tmp 4], 11) := by kernel_rfl
-- 87 (loop.example/g00850/impl.Net).trip
abbrev n_impl_Net_trip : Nat := 87
def c_impl_Net_trip : AS :=
  .seq (.ops [⟨(some 3), none, .box (.tmp 0)⟩,
    ⟨(some 6), none, .mv (.const (.int .i64 0))⟩])
  (.seq (.dops [⟨(some 8), none, .fa 1 (.tmp 3)⟩,
    ⟨(some 9), none, .load none (.tmp 8)⟩,
    ⟨(some 10), none, .mv (.tmp 1)⟩,
    ⟨(some 11), none, .ia 1 (.tmp 9) (.tmp 10)⟩,
    ⟨(some 12), none, .load none (.tmp 11)⟩,
    ⟨(some 13), none, .fa 1 (.tmp 3)⟩,
    ⟨(some 14), none, .load none (.tmp 13)⟩,
    ⟨(some 15), none, .mv (.tmp 2)⟩,
    ⟨(some 16), none, .ia 1 (.tmp 14) (.tmp 15)⟩,
    ⟨(some 17), none, .load none (.tmp 16)⟩,
    ⟨(some 18), none, .bin .sub (.tmp 12) (.tmp 17)⟩,
    ⟨(some 7), none, .mv (.tmp 18)⟩])
  (.kept [3, 7] (.seq (.ops [⟨(some 19), none, .fa 2 (.tmp 3)⟩,
    ⟨(some 20), none, .load none (.tmp 19)⟩,
    ⟨(some 21), none, .mv (.tmp 7)⟩,
    ⟨(some 22), none, .mv (.tmp 7)⟩,
    ⟨(some 23), none, .neg (.tmp 22)⟩,
    ⟨(some 24), none, .bmax [(.tmp 21), (.tmp 23)]⟩,
    ⟨(some 25), none, .bin .mul (.tmp 20) (.tmp 24)⟩,
    ⟨(some 26), none, .bin .add (.const (.int .i64 1)) (.tmp 25)⟩,
    ⟨(some 6), none, .mv (.tmp 26)⟩])
  (.ret))))
theorem h_impl_Net_trip : (Try.prog.funcs[n_impl_Net_trip]?).bind (fun fn => fn.body.bind (comp Try.prog fn.ntmps)) = some (AS.strip c_impl_Net_trip) := by kernel_rfl
theorem r_impl_Net_trip : (Try.prog.funcs[n_impl_Net_trip]?).map (fun fn => (fn.results.toList, fn.ntmps)) = some ([.tmp 6], 27) := by kernel_rfl
-- 90 slices.ContainsFunc[[]int,int]
abbrev n_slices_ContainsFunc___int_int_ : Nat := 90
def c_slices_ContainsFunc___int_int_ : AS :=
  .seq (.ops [⟨(some 4), none, .mv (.const (.bool false))⟩])
  (.seq (.ops [⟨(some 5), none, .mv (.tmp 0)⟩,
    ⟨(some 6), none, .mv (.tmp 1)⟩,
    ⟨(some 7), none, .call 97 [(.tmp 5), (.tmp 6)]⟩,
    ⟨(some 8), none, .bin .geq (.tmp 7) (.const (.int .i64 0))⟩,
    ⟨(some 4), none, .mv (.tmp 8)⟩])
  (.ret))
theorem h_slices_ContainsFunc___int_int_ : (Try.prog.funcs[n_slices_ContainsFunc___int_int_]?).bind (fun fn => fn.body.bind (comp Try.prog fn.ntmps)) = some (AS.strip c_slices_ContainsFunc___int_int_) := by kernel_rfl
theorem r_slices_ContainsFunc___int_int_ : (Try.prog.funcs[n_slices_ContainsFunc___int_int_]?).map (fun fn => (fn.results.toList, fn.ntmps)) = some ([.tmp 4], 9) := by kernel_rfl
-- 93 slices.overlaps[loop.example/g00850/impl.Letter]
abbrev n_slices_overlaps_impl_Letter_ : Nat := 93
-- NOT COMPILED
theorem d_slices_overlaps_impl_Letter_ : Try.prog.funcs[n_slices_overlaps_impl_Letter_]? = some Try.f93 := by kernel_rfl
theorem x_slices_overlaps_impl_Letter_ (vs : Array Value) (w : World) : (callFunc n_slices_overlaps_impl_Letter_ vs).run Try.prog w = ((Extern.SlicesOverlaps.overlaps #[38, 38] #[4] vs).run Try.prog w).andThen fun v w' => .ok (.value v) w' := run_callFunc_extern (e := Extern.SlicesOverlaps.overlaps #[38, 38] #[4]) d_slices_overlaps_impl_Letter_ (by kernel_rfl) (by kernel_rfl) (by kernel_rfl) (by kernel_rfl) vs w
theorem u_slices_overlaps_impl_Letter_ : Try.prog.underlying 38 = some (.slice 73) := by kernel_rfl
theorem wd_slices_overlaps_impl_Letter_ : width Try.prog 73 = some 4 := by kernel_rfl
-- 95 loop.example/g00850/impl.areHomes$1
abbrev n_impl_areHomes_1 : Nat := 95
def c_impl_areHomes_1 : AS :=
  .seq (.ops [⟨(some 2), none, .mv (.const (.bool false))⟩])
  (.seq (.ops [⟨(some 3), none, .mv (.tmp 0)⟩,
    ⟨(some 4), none, .call 62 [(.tmp 3), (.const (.int .i64 0)), (.const (.int .i64 2))]⟩,
    ⟨(some 5), none, .not (.tmp 4)⟩,
    ⟨(some 2), none, .mv (.tmp 5)⟩])
  (.ret))
theorem h_impl_areHomes_1 : (Try.prog.funcs[n_impl_areHomes_1]?).bind (fun fn => fn.body.bind (comp Try.prog fn.ntmps)) = some (AS.strip c_impl_areHomes_1) := by kernel_rfl
theorem r_impl_areHomes_1 : (Try.prog.funcs[n_impl_areHomes_1]?).map (fun fn => (fn.results.toList, fn.ntmps)) = some ([.tmp 2], 6) := by kernel_rfl
-- 97 slices.IndexFunc[[]int,int]
abbrev n_slices_IndexFunc___int_int_ : Nat := 97
def c_slices_IndexFunc___int_int__l1 : AS :=
  .seq (.ops [⟨(some 9), none, .bin .lss (.tmp 8) (.tmp 7)⟩])
  (.seq (.cond (.tmp 9) (.skip) (.exit 0))
  (.seq (.block 1 (.seq (.ops [⟨(some 10), none, .mv (.tmp 8)⟩,
    ⟨(some 5), none, .mv (.tmp 10)⟩])
  (.seq (.ops [⟨(some 11), none, .mv (.tmp 1)⟩,
    ⟨(some 12), none, .mv (.tmp 0)⟩,
    ⟨(some 13), none, .mv (.tmp 5)⟩,
    ⟨(some 14), none, .ia 1 (.tmp 12) (.tmp 13)⟩,
    ⟨(some 15), none, .load none (.tmp 14)⟩,
    ⟨(some 16), none, .callv (.tmp 11) [(.tmp 15)]⟩])
  (.cond (.tmp 16) (.seq (.ops [⟨(some 17), none, .mv (.tmp 5)⟩,
    ⟨(some 4), none, .mv (.tmp 17)⟩])
  (.ret)) (.skip)))))
  (.kept [0, 1, 7, 8] (.ops [⟨(some 18), none, .bin .add (.tmp 8) (.const (.int .i64 1))⟩,
    ⟨(some 8), none, .mv (.tmp 18)⟩]))))
def c_slices_IndexFunc___int_int_ : AS :=
  .seq (.ops [⟨(some 4), none, .mv (.const (.int .i64 0))⟩])
  (.seq (.seq (.ops [⟨(some 6), none, .mv (.tmp 0)⟩,
    ⟨(some 7), none, .lens (.tmp 6)⟩,
    ⟨(some 8), none, .mv (.const (.int .i64 0))⟩])
  (.block 0 (.loop 2 [(0, 0), (1, 0), (7, 0), (8, 0)] c_slices_IndexFunc___int_int__l1)))
  (.kept [] (.seq (.ops [⟨(some 4), none, .mv (.const (.int .i64 (-1)))⟩])
  (.ret))))
theorem h_slices_IndexFunc___int_int_ : (Try.prog.funcs[n_slices_IndexFunc___int_int_]?).bind (fun fn => fn.body.bind (comp Try.prog fn.ntmps)) = some (AS.strip c_slices_IndexFunc___int_int_) := by kernel_rfl
theorem r_slices_IndexFunc___int_int_ : (Try.prog.funcs[n_slices_IndexFunc___int_int_]?).map (fun fn => (fn.results.toList, fn.ntmps)) = some ([.tmp 4], 19) := by kernel_rfl

end Go.Proofs.Wb

/- The compiled statements of the functions that the law reaches. -/
import Derived.Test.YtdahmcffofifdaaProg
import Derived.Test.YtdahmcffofifdaaAmAuto
import Derived.Test.YtdahmcffofifdaaAmSet
namespace Go.Proofs.Wb
open Go Go.Am
@[go_sem] theorem w_7 : wide Try.prog 7 = some (some 4) := by kernel_rfl
@[go_sem] theorem w_8 : wide Try.prog 8 = some (some 4) := by kernel_rfl
@[go_sem] theorem w_13 : wide Try.prog 13 = some (some 2) := by kernel_rfl
@[go_sem] theorem w_14 : wide Try.prog 14 = some (some 2) := by kernel_rfl
@[go_sem] theorem w_18 : wide Try.prog 18 = some (some 1) := by kernel_rfl
@[go_sem] theorem w_19 : wide Try.prog 19 = some (some 1) := by kernel_rfl
@[go_sem] theorem w_24 : wide Try.prog 24 = some (some 8) := by kernel_rfl
@[go_sem] theorem w_25 : wide Try.prog 25 = some (some 8) := by kernel_rfl
@[go_sem] theorem w_31 : wide Try.prog 31 = some (some 8) := by kernel_rfl
@[go_sem] theorem w_32 : wide Try.prog 32 = some (some 8) := by kernel_rfl
@[go_sem] theorem w_38 : wide Try.prog 38 = some (some 4) := by kernel_rfl
@[go_sem] theorem w_39 : wide Try.prog 39 = some (some 4) := by kernel_rfl
@[go_sem] theorem w_42 : wide Try.prog 42 = some (some 4) := by kernel_rfl
@[go_sem] theorem w_43 : wide Try.prog 43 = some (some 4) := by kernel_rfl
@[go_sem] theorem w_65 : wide Try.prog 65 = some (some 6) := by kernel_rfl
@[go_sem] theorem w_66 : wide Try.prog 66 = some (some 6) := by kernel_rfl
@[go_sem] theorem w_71 : wide Try.prog 71 = some (some 6) := by kernel_rfl
@[go_sem] theorem w_72 : wide Try.prog 72 = some (some 6) := by kernel_rfl
@[go_sem] theorem w_86 : wide Try.prog 86 = some (some 4) := by kernel_rfl
@[go_sem] theorem w_87 : wide Try.prog 87 = some (some 4) := by kernel_rfl
@[go_sem] theorem w_107 : wide Try.prog 107 = some (some 5) := by kernel_rfl
@[go_sem] theorem w_108 : wide Try.prog 108 = some (some 5) := by kernel_rfl
@[go_sem] theorem w_111 : wide Try.prog 111 = some (some 2) := by kernel_rfl
@[go_sem] theorem w_112 : wide Try.prog 112 = some (some 2) := by kernel_rfl
@[go_sem] theorem w_118 : wide Try.prog 118 = some (some 3) := by kernel_rfl
@[go_sem] theorem w_119 : wide Try.prog 119 = some (some 3) := by kernel_rfl
@[go_sem] theorem w_121 : wide Try.prog 121 = some (some 3) := by kernel_rfl
@[go_sem] theorem w_122 : wide Try.prog 122 = some (some 3) := by kernel_rfl
@[go_sem] theorem w_125 : wide Try.prog 125 = some (some 3) := by kernel_rfl
@[go_sem] theorem w_127 : wide Try.prog 127 = some (some 3) := by kernel_rfl
@[go_sem] theorem w_132 : wide Try.prog 132 = some (some 4) := by kernel_rfl
@[go_sem] theorem w_142 : wide Try.prog 142 = some (some 5) := by kernel_rfl
@[go_sem] theorem w_145 : wide Try.prog 145 = some (some 2) := by kernel_rfl
@[go_sem] theorem w_167 : wide Try.prog 167 = some (some 4) := by kernel_rfl
@[go_sem] theorem w_168 : wide Try.prog 168 = some (some 4) := by kernel_rfl
@[go_sem] theorem w_180 : wide Try.prog 180 = some (some 11) := by kernel_rfl
@[go_sem] theorem w_181 : wide Try.prog 181 = some (some 11) := by kernel_rfl
-- 4 loop.example/g00850/laws.FnExactDeliver
abbrev n_laws_FnExactDeliver : Nat := 4
def c_laws_FnExactDeliver : AS :=
  .seq (.ops [⟨(some 1), none, .box (.tmp 0)⟩,
    ⟨(some 2), none, .mv (.const (.bool false))⟩])
  (.seq (.ops [⟨(some 3), none, .mv (.const (.int .i64 1048576))⟩])
  (.seq (.ops [⟨(some 17), none, .load (some 4) (.tmp 1)⟩,
    ⟨(some 18), none, .mv (.tmp 3)⟩,
    ⟨(some 19), none, .call 14 [(.tmp 17), (.tmp 18)]⟩,
    ⟨(some 3), none, .mv (.tmp 19)⟩])
  (.seq (.seq (.ops [⟨(some 20), none, .mv (.tmp 3)⟩,
    ⟨(some 21), none, .bin .lss (.tmp 20) (.const (.int .i64 0))⟩])
  (.cond (.tmp 21) (.seq (.ops [⟨(some 2), none, .mv (.const (.bool true))⟩])
  (.ret)) (.skip)))
  (.seq (.ops [⟨(some 23), none, .load (some 4) (.tmp 1)⟩,
    ⟨(some 24), none, .call 16 [(.tmp 23)]⟩,
    ⟨(some 25), none, .call 15 [(.tmp 24)]⟩,
    ⟨(some 22), none, .mv (.tmp 25)⟩,
    ⟨(some 26), none, .ext 0 (.tmp 22)⟩,
    ⟨(some 27), none, .ext 1 (.tmp 22)⟩,
    ⟨(some 28), none, .ext 2 (.tmp 22)⟩,
    ⟨(some 4), none, .alloc (.agg #[.int .i64 0, .slice none 0 0, .int .i64 0, .slice none 0 0])⟩,
    ⟨none, none, .store 4 (.tmp 4) (.tmp 26)⟩,
    ⟨(some 5), none, .mv (.tmp 27)⟩,
    ⟨(some 6), none, .mv (.tmp 28)⟩])
  (.kept [1, 4, 5, 6] (.seq (.ops [⟨(some 29), none, .load (some 4) (.tmp 1)⟩,
    ⟨(some 30), none, .call 16 [(.tmp 29)]⟩,
    ⟨(some 7), none, .alloc (.agg #[.int .i64 0, .slice none 0 0, .int .i64 0, .slice none 0 0])⟩,
    ⟨none, none, .store 4 (.tmp 7) (.tmp 30)⟩])
  (.seq (.ops [⟨(some 32), none, .load (some 4) (.tmp 7)⟩,
    ⟨(some 33), none, .call 17 [(.tmp 32)]⟩,
    ⟨(some 31), none, .mv (.tmp 33)⟩,
    ⟨(some 34), none, .ext 0 (.tmp 31)⟩,
    ⟨(some 35), none, .ext 1 (.tmp 31)⟩,
    ⟨(some 36), none, .ext 2 (.tmp 31)⟩,
    ⟨(some 8), none, .alloc (.agg #[.int .i64 0, .slice none 0 0, .int .i64 0, .slice none 0 0])⟩,
    ⟨none, none, .store 4 (.tmp 8) (.tmp 34)⟩,
    ⟨(some 9), none, .mv (.tmp 35)⟩,
    ⟨(some 10), none, .mv (.tmp 36)⟩])
  (.kept [1, 4, 5, 6, 7, 8, 9, 10] (.seq (.seq (.ops [⟨(some 37), none, .load (some 4) (.tmp 8)⟩,
    ⟨(some 38), none, .load (some 4) (.tmp 4)⟩,
    ⟨(some 39), none, .call 18 [(.tmp 37), (.tmp 38)]⟩,
    ⟨(some 40), none, .not (.tmp 39)⟩,
    ⟨(some 41), none, .mv (.tmp 40)⟩,
    ⟨(some 42), some (41, false), .mv (.tmp 9)⟩,
    ⟨(some 43), some (41, false), .mv (.tmp 5)⟩,
    ⟨(some 44), some (41, false), .call 19 [(.tmp 42), (.tmp 43)]⟩,
    ⟨(some 45), some (41, false), .not (.tmp 44)⟩,
    ⟨(some 46), none, .pick (.tmp 41) (.const (.bool true)) (.tmp 45)⟩,
    ⟨(some 47), none, .mv (.tmp 46)⟩,
    ⟨(some 48), some (47, false), .mv (.tmp 10)⟩,
    ⟨(some 49), some (47, false), .mv (.tmp 6)⟩,
    ⟨(some 50), some (47, false), .eqb true (.tmp 48) (.tmp 49)⟩,
    ⟨(some 51), none, .pick (.tmp 47) (.const (.bool true)) (.tmp 50)⟩])
  (.kept [1, 4, 5, 6, 7, 8, 9, 10, 51] (.cond (.tmp 51) (.seq (.ops [⟨(some 2), none, .mv (.const (.bool false))⟩])
  (.ret)) (.skip))))
  (.kept [1, 4, 5, 6, 7, 8, 9, 10] (.seq (.seq (.rops [(none, ⟨(some 52), none, .load (some 4) (.tmp 7)⟩),
    (none, ⟨(some 53), none, .load (some 4) (.tmp 1)⟩),
    (some [⟨(some 52), none, .load (some 4) (.tmp 7)⟩], ⟨(some 54), none, .call 16 [(.tmp 53)]⟩),
    (some [], ⟨(some 55), none, .call 18 [(.tmp 52), (.tmp 54)]⟩),
    (none, ⟨(some 56), none, .not (.tmp 55)⟩)])
  (.cond (.tmp 56) (.seq (.ops [⟨(some 2), none, .mv (.const (.bool false))⟩])
  (.ret)) (.skip)))
  (.kept [1, 4, 5, 6, 7, 8, 9, 10] (.seq (.ops [⟨(some 11), none, .mv (.const (.int .i64 1))⟩])
  (.seq (.ops [⟨(some 57), none, .load (some 4) (.tmp 7)⟩,
    ⟨(some 58), none, .mv (.tmp 11)⟩,
    ⟨(some 59), none, .call 20 [(.tmp 57), (.tmp 58)]⟩,
    ⟨(some 11), none, .mv (.tmp 59)⟩])
  (.seq (.seq (.ops [⟨(some 60), none, .mv (.tmp 11)⟩,
    ⟨(some 61), none, .bin .lss (.tmp 60) (.const (.int .i64 0))⟩,
    ⟨(some 62), none, .mv (.tmp 61)⟩,
    ⟨(some 63), some (62, false), .load (some 4) (.tmp 8)⟩,
    ⟨(some 64), some (62, false), .load (some 4) (.tmp 4)⟩,
    ⟨(some 65), some (62, false), .call 18 [(.tmp 63), (.tmp 64)]⟩,
    ⟨(some 66), some (62, false), .not (.tmp 65)⟩,
    ⟨(some 67), none, .pick (.tmp 62) (.const (.bool true)) (.tmp 66)⟩,
    ⟨(some 68), none, .mv (.tmp 67)⟩,
    ⟨(some 69), some (68, false), .mv (.tmp 9)⟩,
    ⟨(some 70), some (68, false), .mv (.tmp 5)⟩,
    ⟨(some 71), some (68, false), .call 19 [(.tmp 69), (.tmp 70)]⟩,
    ⟨(some 72), some (68, false), .not (.tmp 71)⟩,
    ⟨(some 73), none, .pick (.tmp 68) (.const (.bool true)) (.tmp 72)⟩,
    ⟨(some 74), none, .mv (.tmp 73)⟩,
    ⟨(some 75), some (74, false), .mv (.tmp 10)⟩,
    ⟨(some 76), some (74, false), .mv (.tmp 6)⟩,
    ⟨(some 77), some (74, false), .eqb true (.tmp 75) (.tmp 76)⟩,
    ⟨(some 78), none, .pick (.tmp 74) (.const (.bool true)) (.tmp 77)⟩])
  (.kept [1, 4, 5, 6, 8, 9, 78] (.cond (.tmp 78) (.seq (.ops [⟨(some 2), none, .mv (.const (.bool false))⟩])
  (.ret)) (.skip))))
  (.kept [1, 4, 5, 6, 8, 9] (.seq (.ops [⟨(some 12), none, .mv (.const (.int .i64 1))⟩])
  (.seq (.ops [⟨(some 79), none, .load (some 4) (.tmp 8)⟩,
    ⟨(some 80), none, .mv (.tmp 12)⟩,
    ⟨(some 81), none, .call 20 [(.tmp 79), (.tmp 80)]⟩,
    ⟨(some 12), none, .mv (.tmp 81)⟩])
  (.seq (.ops [⟨(some 82), none, .mv (.tmp 9)⟩,
    ⟨(some 83), none, .mv (.tmp 12)⟩,
    ⟨(some 84), none, .call 21 [(.tmp 82), (.tmp 83)]⟩,
    ⟨(some 12), none, .mv (.tmp 84)⟩])
  (.seq (.ops [⟨(some 13), none, .mv (.const (.int .i64 1))⟩])
  (.seq (.ops [⟨(some 85), none, .load (some 4) (.tmp 8)⟩,
    ⟨(some 86), none, .mv (.tmp 13)⟩,
    ⟨(some 87), none, .call 22 [(.tmp 85), (.tmp 86)]⟩,
    ⟨(some 13), none, .mv (.tmp 87)⟩])
  (.seq (.seq (.ops [⟨(some 88), none, .mv (.tmp 13)⟩,
    ⟨(some 89), none, .bin .lss (.tmp 88) (.const (.int .i64 0))⟩])
  (.cond (.tmp 89) (.seq (.ops [⟨(some 2), none, .mv (.const (.bool false))⟩])
  (.ret)) (.skip)))
  (.seq (.ops [⟨(some 90), none, .mv (.tmp 9)⟩,
    ⟨(some 91), none, .mv (.tmp 13)⟩,
    ⟨(some 92), none, .call 23 [(.tmp 90), (.tmp 91)]⟩,
    ⟨(some 13), none, .mv (.tmp 92)⟩])
  (.seq (.seq (.ops [⟨(some 93), none, .mv (.tmp 13)⟩,
    ⟨(some 94), none, .bin .lss (.tmp 93) (.const (.int .i64 0))⟩])
  (.cond (.tmp 94) (.seq (.ops [⟨(some 2), none, .mv (.const (.bool false))⟩])
  (.ret)) (.skip)))
  (.seq (.seq (.ops [⟨(some 95), none, .mv (.tmp 13)⟩,
    ⟨(some 96), none, .mv (.tmp 12)⟩,
    ⟨(some 97), none, .bin .neq (.tmp 95) (.tmp 96)⟩])
  (.cond (.tmp 97) (.seq (.ops [⟨(some 2), none, .mv (.const (.bool false))⟩])
  (.ret)) (.skip)))
  (.seq (.ops [⟨(some 99), none, .load (some 4) (.tmp 1)⟩,
    ⟨(some 100), none, .call 16 [(.tmp 99)]⟩,
    ⟨(some 101), none, .call 17 [(.tmp 100)]⟩,
    ⟨(some 98), none, .mv (.tmp 101)⟩,
    ⟨(some 102), none, .ext 0 (.tmp 98)⟩,
    ⟨(some 103), none, .ext 1 (.tmp 98)⟩,
    ⟨(some 104), none, .ext 2 (.tmp 98)⟩,
    ⟨(some 14), none, .alloc (.agg #[.int .i64 0, .slice none 0 0, .int .i64 0, .slice none 0 0])⟩,
    ⟨none, none, .store 4 (.tmp 14) (.tmp 102)⟩,
    ⟨(some 15), none, .mv (.tmp 103)⟩,
    ⟨(some 16), none, .mv (.tmp 104)⟩])
  (.kept [4, 5, 6, 8, 9, 12, 14, 15, 16] (.seq (.seq (.ops [⟨(some 105), none, .load (some 4) (.tmp 14)⟩,
    ⟨(some 106), none, .load (some 4) (.tmp 4)⟩,
    ⟨(some 107), none, .call 18 [(.tmp 105), (.tmp 106)]⟩,
    ⟨(some 108), none, .not (.tmp 107)⟩,
    ⟨(some 109), none, .mv (.tmp 108)⟩,
    ⟨(some 110), some (109, false), .mv (.tmp 15)⟩,
    ⟨(some 111), some (109, false), .mv (.tmp 5)⟩,
    ⟨(some 112), some (109, false), .call 19 [(.tmp 110), (.tmp 111)]⟩,
    ⟨(some 113), some (109, false), .not (.tmp 112)⟩,
    ⟨(some 114), none, .pick (.tmp 109) (.const (.bool true)) (.tmp 113)⟩,
    ⟨(some 115), none, .mv (.tmp 114)⟩,
    ⟨(some 116), some (115, false), .mv (.tmp 16)⟩,
    ⟨(some 117), some (115, false), .mv (.tmp 6)⟩,
    ⟨(some 118), some (115, false), .eqb true (.tmp 116) (.tmp 117)⟩,
    ⟨(some 119), none, .pick (.tmp 115) (.const (.bool true)) (.tmp 118)⟩])
  (.kept [8, 9, 12, 119] (.cond (.tmp 119) (.seq (.ops [⟨(some 2), none, .mv (.const (.bool false))⟩])
  (.ret)) (.skip))))
  (.kept [8, 9, 12] (.seq (.ops [⟨(some 13), none, .mv (.const (.int .i64 1))⟩])
  (.seq (.ops [⟨(some 120), none, .load (some 4) (.tmp 8)⟩,
    ⟨(some 121), none, .mv (.tmp 13)⟩,
    ⟨(some 122), none, .call 22 [(.tmp 120), (.tmp 121)]⟩,
    ⟨(some 13), none, .mv (.tmp 122)⟩])
  (.seq (.seq (.ops [⟨(some 123), none, .mv (.tmp 13)⟩,
    ⟨(some 124), none, .bin .lss (.tmp 123) (.const (.int .i64 0))⟩])
  (.cond (.tmp 124) (.seq (.ops [⟨(some 2), none, .mv (.const (.bool false))⟩])
  (.ret)) (.skip)))
  (.seq (.ops [⟨(some 125), none, .mv (.tmp 9)⟩,
    ⟨(some 126), none, .mv (.tmp 13)⟩,
    ⟨(some 127), none, .call 23 [(.tmp 125), (.tmp 126)]⟩,
    ⟨(some 13), none, .mv (.tmp 127)⟩])
  (.seq (.seq (.ops [⟨(some 128), none, .mv (.tmp 13)⟩,
    ⟨(some 129), none, .bin .lss (.tmp 128) (.const (.int .i64 0))⟩])
  (.cond (.tmp 129) (.seq (.ops [⟨(some 2), none, .mv (.const (.bool false))⟩])
  (.ret)) (.skip)))
  (.seq (.seq (.ops [⟨(some 130), none, .mv (.tmp 13)⟩,
    ⟨(some 131), none, .mv (.tmp 12)⟩,
    ⟨(some 132), none, .bin .neq (.tmp 130) (.tmp 131)⟩])
  (.cond (.tmp 132) (.seq (.ops [⟨(some 2), none, .mv (.const (.bool false))⟩])
  (.ret)) (.skip)))
  (.seq (.ops [⟨(some 2), none, .mv (.const (.bool true))⟩])
  (.ret)))))))))))))))))))))))))))))))))))))
theorem h_laws_FnExactDeliver : (Try.prog.funcs[n_laws_FnExactDeliver]?).bind (fun fn => fn.body.bind (comp Try.prog fn.ntmps)) = some (AS.strip c_laws_FnExactDeliver) := by kernel_rfl
theorem r_laws_FnExactDeliver : (Try.prog.funcs[n_laws_FnExactDeliver]?).map (fun fn => (fn.results.toList, fn.ntmps)) = some ([.tmp 2], 133) := by kernel_rfl
-- 14 loop.example/g00850/laws.szNet
abbrev n_laws_szNet : Nat := 14
def c_laws_szNet : AS :=
  .seq (.ops [⟨(some 2), none, .box (.tmp 0)⟩,
    ⟨(some 4), none, .mv (.const (.int .i64 0))⟩])
  (.seq (.ops [⟨(some 5), none, .fa 1 (.tmp 2)⟩,
    ⟨(some 6), none, .load none (.tmp 5)⟩,
    ⟨(some 7), none, .mv (.tmp 1)⟩,
    ⟨(some 8), none, .call 48 [(.tmp 6), (.tmp 7)]⟩,
    ⟨(some 1), none, .mv (.tmp 8)⟩])
  (.seq (.seq (.ops [⟨(some 9), none, .mv (.tmp 1)⟩,
    ⟨(some 10), none, .bin .lss (.tmp 9) (.const (.int .i64 0))⟩])
  (.cond (.tmp 10) (.seq (.ops [⟨(some 4), none, .mv (.const (.int .i64 (-1)))⟩])
  (.ret)) (.skip)))
  (.seq (.ops [⟨(some 11), none, .fa 3 (.tmp 2)⟩,
    ⟨(some 12), none, .load none (.tmp 11)⟩,
    ⟨(some 13), none, .mv (.tmp 1)⟩,
    ⟨(some 14), none, .call 49 [(.tmp 12), (.tmp 13)]⟩,
    ⟨(some 1), none, .mv (.tmp 14)⟩])
  (.seq (.seq (.ops [⟨(some 15), none, .mv (.tmp 1)⟩,
    ⟨(some 16), none, .bin .lss (.tmp 15) (.const (.int .i64 0))⟩])
  (.cond (.tmp 16) (.seq (.ops [⟨(some 4), none, .mv (.const (.int .i64 (-1)))⟩])
  (.ret)) (.skip)))
  (.seq (.ops [⟨(some 17), none, .mv (.tmp 1)⟩,
    ⟨(some 4), none, .mv (.tmp 17)⟩])
  (.ret))))))
theorem h_laws_szNet : (Try.prog.funcs[n_laws_szNet]?).bind (fun fn => fn.body.bind (comp Try.prog fn.ntmps)) = some (AS.strip c_laws_szNet) := by kernel_rfl
theorem r_laws_szNet : (Try.prog.funcs[n_laws_szNet]?).map (fun fn => (fn.results.toList, fn.ntmps)) = some ([.tmp 4], 18) := by kernel_rfl
-- 15 loop.example/g00850/spec.Deliver
abbrev n_spec_Deliver : Nat := 15
def c_spec_Deliver_l1 : AS :=
  .seq (.seq (.dops [⟨(some 11), none, .mv (.tmp 5)⟩,
    ⟨(some 12), none, .fa 3 (.tmp 1)⟩,
    ⟨(some 13), none, .load none (.tmp 12)⟩,
    ⟨(some 14), none, .lens (.tmp 13)⟩,
    ⟨(some 15), none, .bin .lss (.tmp 11) (.tmp 14)⟩,
    ⟨(some 16), none, .mv (.tmp 15)⟩,
    ⟨(some 17), some (16, true), .fa 3 (.tmp 1)⟩,
    ⟨(some 18), some (16, true), .load none (.tmp 17)⟩,
    ⟨(some 19), some (16, true), .mv (.tmp 5)⟩,
    ⟨(some 20), some (16, true), .ia 4 (.tmp 18) (.tmp 19)⟩,
    ⟨(some 21), some (16, true), .fa 2 (.tmp 20)⟩,
    ⟨(some 22), some (16, true), .load none (.tmp 21)⟩,
    ⟨(some 23), some (16, true), .fa 0 (.tmp 1)⟩,
    ⟨(some 24), some (16, true), .load none (.tmp 23)⟩,
    ⟨(some 25), some (16, true), .bin .leq (.tmp 22) (.tmp 24)⟩,
    ⟨(some 26), none, .pick (.tmp 16) (.tmp 25) (.const (.bool false))⟩])
  (.kept [1, 2, 5, 26] (.cond (.tmp 26) (.skip) (.exit 0))))
  (.kept [1, 2, 5] (.block 1 (.ops [⟨(some 27), none, .mv (.tmp 5)⟩,
    ⟨(some 28), none, .bin .add (.tmp 27) (.const (.int .i64 1))⟩,
    ⟨(some 5), none, .mv (.tmp 28)⟩])))
def c_spec_Deliver : AS :=
  .seq (.ops [⟨(some 1), none, .box (.tmp 0)⟩,
    ⟨(some 2), none, .alloc (.agg #[.int .i64 0, .slice none 0 0, .int .i64 0, .slice none 0 0])⟩,
    ⟨(some 3), none, .mv (.const (.slice none 0 0))⟩,
    ⟨(some 4), none, .mv (.const (.bool false))⟩])
  (.seq (.seq (.ops [⟨(some 6), none, .load (some 4) (.tmp 1)⟩,
    ⟨(some 7), none, .call 50 [(.tmp 6)]⟩,
    ⟨(some 8), none, .not (.tmp 7)⟩])
  (.cond (.tmp 8) (.seq (.ops [⟨(some 9), none, .build (.agg #[.int .i64 0, .slice none 0 0, .int .i64 0, .slice none 0 0]) []⟩,
    ⟨(some 10), none, .bsl 4 (.agg #[.int .i64 0, .int .i64 0, .int .i64 0, .string ⟨⟨[]⟩⟩]) 0 []⟩,
    ⟨none, none, .store 4 (.tmp 2) (.tmp 9)⟩,
    ⟨(some 3), none, .mv (.tmp 10)⟩,
    ⟨(some 4), none, .mv (.const (.bool false))⟩])
  (.ret)) (.skip)))
  (.kept [1, 2] (.seq (.ops [⟨(some 5), none, .mv (.const (.int .i64 0))⟩])
  (.seq (.block 0 (.loop 1 [(1, 0), (2, 0), (5, 0)] c_spec_Deliver_l1))
  (.kept [1, 2, 5] (.seq (.rops [(none, ⟨(some 29), none, .load (some 4) (.tmp 1)⟩),
    (none, ⟨(some 30), none, .fa 3 (.tmp 1)⟩),
    (none, ⟨(some 31), none, .load none (.tmp 30)⟩),
    (none, ⟨(some 32), none, .mv (.tmp 5)⟩),
    (none, ⟨(some 33), none, .sls 4 (.tmp 31) (some (.tmp 32)) none none⟩),
    (none, ⟨(some 35), none, .fa 3 (.tmp 1)⟩),
    (none, ⟨(some 36), none, .load none (.tmp 35)⟩),
    (none, ⟨(some 37), none, .mv (.tmp 5)⟩),
    (none, ⟨(some 38), none, .sls 4 (.tmp 36) none (some (.tmp 37)) none⟩),
    (some [⟨(some 38), none, .sls 4 (.tmp 36) none (some (.tmp 37)) none⟩, ⟨(some 37), none, .mv (.tmp 5)⟩, ⟨(some 36), none, .load none (.tmp 35)⟩, ⟨(some 35), none, .fa 3 (.tmp 1)⟩], ⟨(some 34), none, .call 51 [(.tmp 29), (.tmp 33)]⟩),
    (some [], ⟨(some 39), none, .call 52 [(.tmp 38)]⟩),
    (some [], ⟨none, none, .store 4 (.tmp 2) (.tmp 34)⟩),
    (none, ⟨(some 3), none, .mv (.tmp 39)⟩),
    (none, ⟨(some 4), none, .mv (.const (.bool true))⟩)])
  (.ret)))))))
theorem h_spec_Deliver : (Try.prog.funcs[n_spec_Deliver]?).bind (fun fn => fn.body.bind (comp Try.prog fn.ntmps)) = some (AS.strip c_spec_Deliver) := by kernel_rfl
theorem r_spec_Deliver : (Try.prog.funcs[n_spec_Deliver]?).map (fun fn => (fn.results.toList, fn.ntmps)) = some ([.cell 2 43, .tmp 3, .tmp 4], 40) := by kernel_rfl
-- 16 loop.example/g00850/laws.toNet
abbrev n_laws_toNet : Nat := 16
def c_laws_toNet : AS :=
  .seq (.ops [⟨(some 1), none, .box (.tmp 0)⟩,
    ⟨(some 2), none, .alloc (.agg #[.int .i64 0, .slice none 0 0, .int .i64 0, .slice none 0 0])⟩])
  (.seq (.ops [⟨(some 3), none, .alloc (.agg #[.int .i64 0, .slice none 0 0, .int .i64 0, .slice none 0 0])⟩])
  (.seq (.ops [⟨(some 4), none, .fa 0 (.tmp 1)⟩,
    ⟨(some 5), none, .load none (.tmp 4)⟩,
    ⟨(some 6), none, .fa 0 (.tmp 3)⟩,
    ⟨none, none, .store 1 (.tmp 6) (.tmp 5)⟩])
  (.seq (.ops [⟨(some 7), none, .fa 1 (.tmp 1)⟩,
    ⟨(some 8), none, .load none (.tmp 7)⟩,
    ⟨(some 9), none, .call 53 [(.tmp 8)]⟩,
    ⟨(some 10), none, .fa 1 (.tmp 3)⟩,
    ⟨none, none, .store 1 (.tmp 10) (.tmp 9)⟩])
  (.seq (.ops [⟨(some 11), none, .fa 2 (.tmp 1)⟩,
    ⟨(some 12), none, .load none (.tmp 11)⟩,
    ⟨(some 13), none, .fa 2 (.tmp 3)⟩,
    ⟨none, none, .store 1 (.tmp 13) (.tmp 12)⟩])
  (.seq (.ops [⟨(some 14), none, .fa 3 (.tmp 1)⟩,
    ⟨(some 15), none, .load none (.tmp 14)⟩,
    ⟨(some 16), none, .call 54 [(.tmp 15)]⟩,
    ⟨(some 17), none, .fa 3 (.tmp 3)⟩,
    ⟨none, none, .store 1 (.tmp 17) (.tmp 16)⟩])
  (.seq (.ops [⟨(some 18), none, .load (some 4) (.tmp 3)⟩,
    ⟨none, none, .store 4 (.tmp 2) (.tmp 18)⟩])
  (.ret)))))))
theorem h_laws_toNet : (Try.prog.funcs[n_laws_toNet]?).bind (fun fn => fn.body.bind (comp Try.prog fn.ntmps)) = some (AS.strip c_laws_toNet) := by kernel_rfl
theorem r_laws_toNet : (Try.prog.funcs[n_laws_toNet]?).map (fun fn => (fn.results.toList, fn.ntmps)) = some ([.cell 2 43], 19) := by kernel_rfl
-- 17 loop.example/g00850/impl.Deliver
abbrev n_impl_Deliver : Nat := 17
def c_impl_Deliver : AS :=
  .seq (.ops [⟨(some 1), none, .box (.tmp 0)⟩,
    ⟨(some 2), none, .alloc (.agg #[.int .i64 0, .slice none 0 0, .int .i64 0, .slice none 0 0])⟩,
    ⟨(some 3), none, .mv (.const (.slice none 0 0))⟩,
    ⟨(some 4), none, .mv (.const (.bool false))⟩])
  (.seq (.seq (.ops [⟨(some 7), none, .load (some 4) (.tmp 1)⟩,
    ⟨(some 8), none, .call 55 [(.tmp 7)]⟩,
    ⟨(some 9), none, .not (.tmp 8)⟩])
  (.cond (.tmp 9) (.seq (.ops [⟨(some 10), none, .build (.agg #[.int .i64 0, .slice none 0 0, .int .i64 0, .slice none 0 0]) []⟩,
    ⟨none, none, .store 4 (.tmp 2) (.tmp 10)⟩,
    ⟨(some 3), none, .mv (.const (.slice none 0 0))⟩,
    ⟨(some 4), none, .mv (.const (.bool false))⟩])
  (.ret)) (.skip)))
  (.kept [1, 2] (.seq (.ops [⟨(some 12), none, .load (some 4) (.tmp 1)⟩,
    ⟨(some 13), none, .call 56 [(.tmp 12)]⟩,
    ⟨(some 11), none, .mv (.tmp 13)⟩,
    ⟨(some 14), none, .ext 0 (.tmp 11)⟩,
    ⟨(some 15), none, .ext 1 (.tmp 11)⟩,
    ⟨(some 5), none, .alloc (.agg #[.int .i64 0, .slice none 0 0, .int .i64 0, .slice none 0 0])⟩,
    ⟨none, none, .store 4 (.tmp 5) (.tmp 14)⟩,
    ⟨(some 6), none, .mv (.tmp 15)⟩])
  (.seq (.ops [⟨(some 16), none, .load (some 4) (.tmp 5)⟩,
    ⟨(some 17), none, .mv (.tmp 6)⟩,
    ⟨none, none, .store 4 (.tmp 2) (.tmp 16)⟩,
    ⟨(some 3), none, .mv (.tmp 17)⟩,
    ⟨(some 4), none, .mv (.const (.bool true))⟩])
  (.ret)))))
theorem h_impl_Deliver : (Try.prog.funcs[n_impl_Deliver]?).bind (fun fn => fn.body.bind (comp Try.prog fn.ntmps)) = some (AS.strip c_impl_Deliver) := by kernel_rfl
theorem r_impl_Deliver : (Try.prog.funcs[n_impl_Deliver]?).map (fun fn => (fn.results.toList, fn.ntmps)) = some ([.cell 2 43, .tmp 3, .tmp 4], 18) := by kernel_rfl
-- 18 loop.example/g00850/laws.eqNet
abbrev n_laws_eqNet : Nat := 18
def c_laws_eqNet : AS :=
  .seq (.ops [⟨(some 2), none, .box (.tmp 0)⟩,
    ⟨(some 3), none, .box (.tmp 1)⟩,
    ⟨(some 4), none, .mv (.const (.bool false))⟩])
  (.seq (.seq (.ops [⟨(some 5), none, .fa 0 (.tmp 2)⟩,
    ⟨(some 6), none, .load none (.tmp 5)⟩,
    ⟨(some 7), none, .fa 0 (.tmp 3)⟩,
    ⟨(some 8), none, .load none (.tmp 7)⟩,
    ⟨(some 9), none, .bin .neq (.tmp 6) (.tmp 8)⟩])
  (.cond (.tmp 9) (.seq (.ops [⟨(some 4), none, .mv (.const (.bool false))⟩])
  (.ret)) (.skip)))
  (.kept [2, 3] (.seq (.seq (.ops [⟨(some 10), none, .fa 1 (.tmp 2)⟩,
    ⟨(some 11), none, .load none (.tmp 10)⟩,
    ⟨(some 12), none, .fa 1 (.tmp 3)⟩,
    ⟨(some 13), none, .load none (.tmp 12)⟩,
    ⟨(some 14), none, .call 57 [(.tmp 11), (.tmp 13)]⟩,
    ⟨(some 15), none, .not (.tmp 14)⟩])
  (.cond (.tmp 15) (.seq (.ops [⟨(some 4), none, .mv (.const (.bool false))⟩])
  (.ret)) (.skip)))
  (.kept [2, 3] (.seq (.seq (.ops [⟨(some 16), none, .fa 2 (.tmp 2)⟩,
    ⟨(some 17), none, .load none (.tmp 16)⟩,
    ⟨(some 18), none, .fa 2 (.tmp 3)⟩,
    ⟨(some 19), none, .load none (.tmp 18)⟩,
    ⟨(some 20), none, .bin .neq (.tmp 17) (.tmp 19)⟩])
  (.cond (.tmp 20) (.seq (.ops [⟨(some 4), none, .mv (.const (.bool false))⟩])
  (.ret)) (.skip)))
  (.kept [2, 3] (.seq (.seq (.ops [⟨(some 21), none, .fa 3 (.tmp 2)⟩,
    ⟨(some 22), none, .load none (.tmp 21)⟩,
    ⟨(some 23), none, .fa 3 (.tmp 3)⟩,
    ⟨(some 24), none, .load none (.tmp 23)⟩,
    ⟨(some 25), none, .call 19 [(.tmp 22), (.tmp 24)]⟩,
    ⟨(some 26), none, .not (.tmp 25)⟩])
  (.cond (.tmp 26) (.seq (.ops [⟨(some 4), none, .mv (.const (.bool false))⟩])
  (.ret)) (.skip)))
  (.kept [] (.seq (.ops [⟨(some 4), none, .mv (.const (.bool true))⟩])
  (.ret))))))))))
theorem h_laws_eqNet : (Try.prog.funcs[n_laws_eqNet]?).bind (fun fn => fn.body.bind (comp Try.prog fn.ntmps)) = some (AS.strip c_laws_eqNet) := by kernel_rfl
theorem r_laws_eqNet : (Try.prog.funcs[n_laws_eqNet]?).map (fun fn => (fn.results.toList, fn.ntmps)) = some ([.tmp 4], 27) := by kernel_rfl
-- 19 loop.example/g00850/laws.eqLetterS
abbrev n_laws_eqLetterS : Nat := 19
def c_laws_eqLetterS_l1 : AS :=
  .seq (.seq (.ops [⟨(some 11), none, .mv (.tmp 5)⟩,
    ⟨(some 12), none, .mv (.tmp 0)⟩,
    ⟨(some 13), none, .lens (.tmp 12)⟩,
    ⟨(some 14), none, .bin .lss (.tmp 11) (.tmp 13)⟩])
  (.cond (.tmp 14) (.skip) (.exit 0)))
  (.seq (.block 1 (.seq (.rops [(none, ⟨(some 17), none, .mv (.tmp 0)⟩),
    (none, ⟨(some 18), none, .mv (.tmp 5)⟩),
    (none, ⟨(some 19), none, .ia 4 (.tmp 17) (.tmp 18)⟩),
    (none, ⟨(some 20), none, .load (some 4) (.tmp 19)⟩),
    (none, ⟨(some 21), none, .mv (.tmp 1)⟩),
    (none, ⟨(some 22), none, .mv (.tmp 5)⟩),
    (none, ⟨(some 23), none, .ia 4 (.tmp 21) (.tmp 22)⟩),
    (none, ⟨(some 24), none, .load (some 4) (.tmp 23)⟩),
    (some [], ⟨(some 25), none, .call 58 [(.tmp 20), (.tmp 24)]⟩),
    (none, ⟨(some 26), none, .not (.tmp 25)⟩)])
  (.kept [0, 1, 5, 26] (.cond (.tmp 26) (.seq (.ops [⟨(some 4), none, .mv (.const (.bool false))⟩])
  (.ret)) (.skip)))))
  (.kept [0, 1, 5] (.ops [⟨(some 15), none, .mv (.tmp 5)⟩,
    ⟨(some 16), none, .bin .add (.tmp 15) (.const (.int .i64 1))⟩,
    ⟨(some 5), none, .mv (.tmp 16)⟩])))
def c_laws_eqLetterS : AS :=
  .seq (.ops [⟨(some 4), none, .mv (.const (.bool false))⟩])
  (.seq (.seq (.ops [⟨(some 6), none, .mv (.tmp 0)⟩,
    ⟨(some 7), none, .lens (.tmp 6)⟩,
    ⟨(some 8), none, .mv (.tmp 1)⟩,
    ⟨(some 9), none, .lens (.tmp 8)⟩,
    ⟨(some 10), none, .bin .neq (.tmp 7) (.tmp 9)⟩])
  (.cond (.tmp 10) (.seq (.ops [⟨(some 4), none, .mv (.const (.bool false))⟩])
  (.ret)) (.skip)))
  (.kept [0, 1] (.seq (.seq (.ops [⟨(some 5), none, .mv (.const (.int .i64 0))⟩])
  (.block 0 (.loop 2 [(0, 0), (1, 0), (5, 0)] c_laws_eqLetterS_l1)))
  (.kept [] (.seq (.ops [⟨(some 4), none, .mv (.const (.bool true))⟩])
  (.ret))))))
theorem h_laws_eqLetterS : (Try.prog.funcs[n_laws_eqLetterS]?).bind (fun fn => fn.body.bind (comp Try.prog fn.ntmps)) = some (AS.strip c_laws_eqLetterS) := by kernel_rfl
theorem r_laws_eqLetterS : (Try.prog.funcs[n_laws_eqLetterS]?).map (fun fn => (fn.results.toList, fn.ntmps)) = some ([.tmp 4], 27) := by kernel_rfl
-- 20 loop.example/g00850/laws.markNet
abbrev n_laws_markNet : Nat := 20
def c_laws_markNet : AS :=
  .seq (.ops [⟨(some 2), none, .box (.tmp 0)⟩,
    ⟨(some 4), none, .mv (.const (.int .i64 0))⟩])
  (.seq (.ops [⟨(some 5), none, .fa 1 (.tmp 2)⟩,
    ⟨(some 6), none, .load none (.tmp 5)⟩,
    ⟨(some 7), none, .mv (.tmp 1)⟩,
    ⟨(some 8), none, .call 59 [(.tmp 6), (.tmp 7)]⟩,
    ⟨(some 1), none, .mv (.tmp 8)⟩])
  (.seq (.ops [⟨(some 9), none, .fa 3 (.tmp 2)⟩,
    ⟨(some 10), none, .load none (.tmp 9)⟩,
    ⟨(some 11), none, .mv (.tmp 1)⟩,
    ⟨(some 12), none, .call 21 [(.tmp 10), (.tmp 11)]⟩,
    ⟨(some 1), none, .mv (.tmp 12)⟩])
  (.seq (.ops [⟨(some 13), none, .mv (.tmp 1)⟩,
    ⟨(some 4), none, .mv (.tmp 13)⟩])
  (.ret))))
theorem h_laws_markNet : (Try.prog.funcs[n_laws_markNet]?).bind (fun fn => fn.body.bind (comp Try.prog fn.ntmps)) = some (AS.strip c_laws_markNet) := by kernel_rfl
theorem r_laws_markNet : (Try.prog.funcs[n_laws_markNet]?).map (fun fn => (fn.results.toList, fn.ntmps)) = some ([.tmp 4], 14) := by kernel_rfl
-- 21 loop.example/g00850/laws.markLetterS
abbrev n_laws_markLetterS : Nat := 21
def c_laws_markLetterS_l1 : AS :=
  .seq (.seq (.ops [⟨(some 6), none, .mv (.tmp 5)⟩,
    ⟨(some 7), none, .mv (.tmp 0)⟩,
    ⟨(some 8), none, .lens (.tmp 7)⟩,
    ⟨(some 9), none, .bin .lss (.tmp 6) (.tmp 8)⟩])
  (.cond (.tmp 9) (.skip) (.exit 0)))
  (.seq (.block 1 (.seq (.ops [⟨(some 12), none, .mv (.tmp 0)⟩,
    ⟨(some 13), none, .mv (.tmp 5)⟩,
    ⟨(some 14), none, .mv (.tmp 1)⟩,
    ⟨(some 15), none, .ia 4 (.tmp 12) (.tmp 13)⟩,
    ⟨(some 16), none, .fa 0 (.tmp 15)⟩,
    ⟨none, none, .store 1 (.tmp 16) (.tmp 14)⟩])
  (.seq (.ops [⟨(some 17), none, .mv (.tmp 1)⟩,
    ⟨(some 18), none, .bin .add (.tmp 17) (.const (.int .i64 1))⟩,
    ⟨(some 1), none, .mv (.tmp 18)⟩])
  (.seq (.ops [⟨(some 19), none, .mv (.tmp 0)⟩,
    ⟨(some 20), none, .mv (.tmp 5)⟩,
    ⟨(some 21), none, .mv (.tmp 1)⟩,
    ⟨(some 22), none, .ia 4 (.tmp 19) (.tmp 20)⟩,
    ⟨(some 23), none, .fa 1 (.tmp 22)⟩,
    ⟨none, none, .store 1 (.tmp 23) (.tmp 21)⟩])
  (.seq (.ops [⟨(some 24), none, .mv (.tmp 1)⟩,
    ⟨(some 25), none, .bin .add (.tmp 24) (.const (.int .i64 1))⟩,
    ⟨(some 1), none, .mv (.tmp 25)⟩])
  (.seq (.ops [⟨(some 26), none, .mv (.tmp 0)⟩,
    ⟨(some 27), none, .mv (.tmp 5)⟩,
    ⟨(some 28), none, .mv (.tmp 1)⟩,
    ⟨(some 29), none, .ia 4 (.tmp 26) (.tmp 27)⟩,
    ⟨(some 30), none, .fa 2 (.tmp 29)⟩,
    ⟨none, none, .store 1 (.tmp 30) (.tmp 28)⟩])
  (.seq (.ops [⟨(some 31), none, .mv (.tmp 1)⟩,
    ⟨(some 32), none, .bin .add (.tmp 31) (.const (.int .i64 1))⟩,
    ⟨(some 1), none, .mv (.tmp 32)⟩])
  (.seq (.ops [⟨(some 33), none, .mv (.tmp 0)⟩,
    ⟨(some 34), none, .mv (.tmp 5)⟩,
    ⟨(some 35), none, .mv (.tmp 1)⟩,
    ⟨(some 36), none, .call 60 [(.tmp 35)]⟩,
    ⟨(some 37), none, .ia 4 (.tmp 33) (.tmp 34)⟩,
    ⟨(some 38), none, .fa 3 (.tmp 37)⟩,
    ⟨none, none, .store 1 (.tmp 38) (.tmp 36)⟩])
  (.kept [0, 1, 5] (.ops [⟨(some 39), none, .mv (.tmp 1)⟩,
    ⟨(some 40), none, .bin .add (.tmp 39) (.const (.int .i64 1))⟩,
    ⟨(some 1), none, .mv (.tmp 40)⟩]))))))))))
  (.kept [0, 1, 5] (.ops [⟨(some 10), none, .mv (.tmp 5)⟩,
    ⟨(some 11), none, .bin .add (.tmp 10) (.const (.int .i64 1))⟩,
    ⟨(some 5), none, .mv (.tmp 11)⟩])))
def c_laws_markLetterS : AS :=
  .seq (.ops [⟨(some 4), none, .mv (.const (.int .i64 0))⟩])
  (.seq (.seq (.ops [⟨(some 5), none, .mv (.const (.int .i64 0))⟩])
  (.block 0 (.loop 2 [(0, 0), (1, 0), (5, 0)] c_laws_markLetterS_l1)))
  (.kept [1] (.seq (.ops [⟨(some 41), none, .mv (.tmp 1)⟩,
    ⟨(some 4), none, .mv (.tmp 41)⟩])
  (.ret))))
theorem h_laws_markLetterS : (Try.prog.funcs[n_laws_markLetterS]?).bind (fun fn => fn.body.bind (comp Try.prog fn.ntmps)) = some (AS.strip c_laws_markLetterS) := by kernel_rfl
theorem r_laws_markLetterS : (Try.prog.funcs[n_laws_markLetterS]?).map (fun fn => (fn.results.toList, fn.ntmps)) = some ([.tmp 4], 42) := by kernel_rfl
-- 22 loop.example/g00850/laws.heldNet
abbrev n_laws_heldNet : Nat := 22
def c_laws_heldNet : AS :=
  .seq (.ops [⟨(some 2), none, .box (.tmp 0)⟩,
    ⟨(some 4), none, .mv (.const (.int .i64 0))⟩])
  (.seq (.ops [⟨(some 5), none, .fa 1 (.tmp 2)⟩,
    ⟨(some 6), none, .load none (.tmp 5)⟩,
    ⟨(some 7), none, .mv (.tmp 1)⟩,
    ⟨(some 8), none, .call 61 [(.tmp 6), (.tmp 7)]⟩,
    ⟨(some 1), none, .mv (.tmp 8)⟩])
  (.seq (.seq (.ops [⟨(some 9), none, .mv (.tmp 1)⟩,
    ⟨(some 10), none, .bin .lss (.tmp 9) (.const (.int .i64 0))⟩])
  (.cond (.tmp 10) (.seq (.ops [⟨(some 4), none, .mv (.const (.int .i64 (-1)))⟩])
  (.ret)) (.skip)))
  (.seq (.ops [⟨(some 11), none, .fa 3 (.tmp 2)⟩,
    ⟨(some 12), none, .load none (.tmp 11)⟩,
    ⟨(some 13), none, .mv (.tmp 1)⟩,
    ⟨(some 14), none, .call 23 [(.tmp 12), (.tmp 13)]⟩,
    ⟨(some 1), none, .mv (.tmp 14)⟩])
  (.seq (.seq (.ops [⟨(some 15), none, .mv (.tmp 1)⟩,
    ⟨(some 16), none, .bin .lss (.tmp 15) (.const (.int .i64 0))⟩])
  (.cond (.tmp 16) (.seq (.ops [⟨(some 4), none, .mv (.const (.int .i64 (-1)))⟩])
  (.ret)) (.skip)))
  (.seq (.ops [⟨(some 17), none, .mv (.tmp 1)⟩,
    ⟨(some 4), none, .mv (.tmp 17)⟩])
  (.ret))))))
theorem h_laws_heldNet : (Try.prog.funcs[n_laws_heldNet]?).bind (fun fn => fn.body.bind (comp Try.prog fn.ntmps)) = some (AS.strip c_laws_heldNet) := by kernel_rfl
theorem r_laws_heldNet : (Try.prog.funcs[n_laws_heldNet]?).map (fun fn => (fn.results.toList, fn.ntmps)) = some ([.tmp 4], 18) := by kernel_rfl
-- 23 loop.example/g00850/laws.heldLetterS
abbrev n_laws_heldLetterS : Nat := 23
def c_laws_heldLetterS_l1 : AS :=
  .seq (.seq (.ops [⟨(some 6), none, .mv (.tmp 5)⟩,
    ⟨(some 7), none, .mv (.tmp 0)⟩,
    ⟨(some 8), none, .lens (.tmp 7)⟩,
    ⟨(some 9), none, .bin .lss (.tmp 6) (.tmp 8)⟩])
  (.cond (.tmp 9) (.skip) (.exit 0)))
  (.seq (.block 1 (.seq (.seq (.ops [⟨(some 12), none, .mv (.tmp 0)⟩,
    ⟨(some 13), none, .mv (.tmp 5)⟩,
    ⟨(some 14), none, .ia 4 (.tmp 12) (.tmp 13)⟩,
    ⟨(some 15), none, .fa 0 (.tmp 14)⟩,
    ⟨(some 16), none, .load none (.tmp 15)⟩,
    ⟨(some 17), none, .mv (.tmp 1)⟩,
    ⟨(some 18), none, .bin .neq (.tmp 16) (.tmp 17)⟩])
  (.kept [0, 1, 5, 18] (.cond (.tmp 18) (.seq (.ops [⟨(some 4), none, .mv (.const (.int .i64 (-1)))⟩])
  (.ret)) (.skip))))
  (.kept [0, 1, 5] (.seq (.ops [⟨(some 19), none, .mv (.tmp 1)⟩,
    ⟨(some 20), none, .bin .add (.tmp 19) (.const (.int .i64 1))⟩,
    ⟨(some 1), none, .mv (.tmp 20)⟩])
  (.seq (.seq (.ops [⟨(some 21), none, .mv (.tmp 0)⟩,
    ⟨(some 22), none, .mv (.tmp 5)⟩,
    ⟨(some 23), none, .ia 4 (.tmp 21) (.tmp 22)⟩,
    ⟨(some 24), none, .fa 1 (.tmp 23)⟩,
    ⟨(some 25), none, .load none (.tmp 24)⟩,
    ⟨(some 26), none, .mv (.tmp 1)⟩,
    ⟨(some 27), none, .bin .neq (.tmp 25) (.tmp 26)⟩])
  (.kept [0, 1, 5, 27] (.cond (.tmp 27) (.seq (.ops [⟨(some 4), none, .mv (.const (.int .i64 (-1)))⟩])
  (.ret)) (.skip))))
  (.kept [0, 1, 5] (.seq (.ops [⟨(some 28), none, .mv (.tmp 1)⟩,
    ⟨(some 29), none, .bin .add (.tmp 28) (.const (.int .i64 1))⟩,
    ⟨(some 1), none, .mv (.tmp 29)⟩])
  (.seq (.seq (.ops [⟨(some 30), none, .mv (.tmp 0)⟩,
    ⟨(some 31), none, .mv (.tmp 5)⟩,
    ⟨(some 32), none, .ia 4 (.tmp 30) (.tmp 31)⟩,
    ⟨(some 33), none, .fa 2 (.tmp 32)⟩,
    ⟨(some 34), none, .load none (.tmp 33)⟩,
    ⟨(some 35), none, .mv (.tmp 1)⟩,
    ⟨(some 36), none, .bin .neq (.tmp 34) (.tmp 35)⟩])
  (.kept [0, 1, 5, 36] (.cond (.tmp 36) (.seq (.ops [⟨(some 4), none, .mv (.const (.int .i64 (-1)))⟩])
  (.ret)) (.skip))))
  (.kept [0, 1, 5] (.seq (.ops [⟨(some 37), none, .mv (.tmp 1)⟩,
    ⟨(some 38), none, .bin .add (.tmp 37) (.const (.int .i64 1))⟩,
    ⟨(some 1), none, .mv (.tmp 38)⟩])
  (.seq (.seq (.rops [(none, ⟨(some 39), none, .mv (.tmp 0)⟩),
    (none, ⟨(some 40), none, .mv (.tmp 5)⟩),
    (none, ⟨(some 41), none, .ia 4 (.tmp 39) (.tmp 40)⟩),
    (none, ⟨(some 42), none, .fa 3 (.tmp 41)⟩),
    (none, ⟨(some 43), none, .load none (.tmp 42)⟩),
    (none, ⟨(some 44), none, .mv (.tmp 1)⟩),
    (some [⟨(some 43), none, .load none (.tmp 42)⟩, ⟨(some 42), none, .fa 3 (.tmp 41)⟩, ⟨(some 41), none, .ia 4 (.tmp 39) (.tmp 40)⟩, ⟨(some 40), none, .mv (.tmp 5)⟩, ⟨(some 39), none, .mv (.tmp 0)⟩], ⟨(some 45), none, .call 60 [(.tmp 44)]⟩),
    (none, ⟨(some 46), none, .bin .neq (.tmp 43) (.tmp 45)⟩)])
  (.kept [0, 1, 5, 46] (.cond (.tmp 46) (.seq (.ops [⟨(some 4), none, .mv (.const (.int .i64 (-1)))⟩])
  (.ret)) (.skip))))
  (.kept [0, 1, 5] (.ops [⟨(some 47), none, .mv (.tmp 1)⟩,
    ⟨(some 48), none, .bin .add (.tmp 47) (.const (.int .i64 1))⟩,
    ⟨(some 1), none, .mv (.tmp 48)⟩])))))))))))))
  (.kept [0, 1, 5] (.ops [⟨(some 10), none, .mv (.tmp 5)⟩,
    ⟨(some 11), none, .bin .add (.tmp 10) (.const (.int .i64 1))⟩,
    ⟨(some 5), none, .mv (.tmp 11)⟩])))
def c_laws_heldLetterS : AS :=
  .seq (.ops [⟨(some 4), none, .mv (.const (.int .i64 0))⟩])
  (.seq (.seq (.ops [⟨(some 5), none, .mv (.const (.int .i64 0))⟩])
  (.block 0 (.loop 2 [(0, 0), (1, 0), (5, 0)] c_laws_heldLetterS_l1)))
  (.kept [1] (.seq (.ops [⟨(some 49), none, .mv (.tmp 1)⟩,
    ⟨(some 4), none, .mv (.tmp 49)⟩])
  (.ret))))
theorem h_laws_heldLetterS : (Try.prog.funcs[n_laws_heldLetterS]?).bind (fun fn => fn.body.bind (comp Try.prog fn.ntmps)) = some (AS.strip c_laws_heldLetterS) := by kernel_rfl
theorem r_laws_heldLetterS : (Try.prog.funcs[n_laws_heldLetterS]?).map (fun fn => (fn.results.toList, fn.ntmps)) = some ([.tmp 4], 50) := by kernel_rfl
-- 48 loop.example/g00850/laws.szIntS
abbrev n_laws_szIntS : Nat := 48
def c_laws_szIntS : AS :=
  .seq (.ops [⟨(some 4), none, .mv (.const (.int .i64 0))⟩])
  (.seq (.ops [⟨(some 5), none, .mv (.tmp 1)⟩,
    ⟨(some 6), none, .mv (.tmp 0)⟩,
    ⟨(some 7), none, .lens (.tmp 6)⟩,
    ⟨(some 8), none, .bin .sub (.tmp 5) (.tmp 7)⟩,
    ⟨(some 1), none, .mv (.tmp 8)⟩])
  (.seq (.seq (.ops [⟨(some 9), none, .mv (.tmp 1)⟩,
    ⟨(some 10), none, .bin .lss (.tmp 9) (.const (.int .i64 0))⟩])
  (.cond (.tmp 10) (.seq (.ops [⟨(some 4), none, .mv (.const (.int .i64 (-1)))⟩])
  (.ret)) (.skip)))
  (.seq (.ops [⟨(some 11), none, .mv (.tmp 1)⟩,
    ⟨(some 4), none, .mv (.tmp 11)⟩])
  (.ret))))
theorem h_laws_szIntS : (Try.prog.funcs[n_laws_szIntS]?).bind (fun fn => fn.body.bind (comp Try.prog fn.ntmps)) = some (AS.strip c_laws_szIntS) := by kernel_rfl
theorem r_laws_szIntS : (Try.prog.funcs[n_laws_szIntS]?).map (fun fn => (fn.results.toList, fn.ntmps)) = some ([.tmp 4], 12) := by kernel_rfl
-- 49 loop.example/g00850/laws.szLetterS
abbrev n_laws_szLetterS : Nat := 49
def c_laws_szLetterS_l1 : AS :=
  .seq (.seq (.ops [⟨(some 12), none, .mv (.tmp 5)⟩,
    ⟨(some 13), none, .mv (.tmp 0)⟩,
    ⟨(some 14), none, .lens (.tmp 13)⟩,
    ⟨(some 15), none, .bin .lss (.tmp 12) (.tmp 14)⟩])
  (.cond (.tmp 15) (.skip) (.exit 0)))
  (.seq (.block 1 (.seq (.ops [⟨(some 18), none, .mv (.tmp 0)⟩,
    ⟨(some 19), none, .mv (.tmp 5)⟩,
    ⟨(some 20), none, .ia 4 (.tmp 18) (.tmp 19)⟩,
    ⟨(some 21), none, .load (some 4) (.tmp 20)⟩,
    ⟨(some 22), none, .mv (.tmp 1)⟩,
    ⟨(some 23), none, .call 98 [(.tmp 21), (.tmp 22)]⟩,
    ⟨(some 1), none, .mv (.tmp 23)⟩])
  (.kept [0, 1, 5] (.seq (.ops [⟨(some 24), none, .mv (.tmp 1)⟩,
    ⟨(some 25), none, .bin .lss (.tmp 24) (.const (.int .i64 0))⟩])
  (.cond (.tmp 25) (.seq (.ops [⟨(some 4), none, .mv (.const (.int .i64 (-1)))⟩])
  (.ret)) (.skip))))))
  (.kept [0, 1, 5] (.ops [⟨(some 16), none, .mv (.tmp 5)⟩,
    ⟨(some 17), none, .bin .add (.tmp 16) (.const (.int .i64 1))⟩,
    ⟨(some 5), none, .mv (.tmp 17)⟩])))
def c_laws_szLetterS : AS :=
  .seq (.ops [⟨(some 4), none, .mv (.const (.int .i64 0))⟩])
  (.seq (.ops [⟨(some 6), none, .mv (.tmp 1)⟩,
    ⟨(some 7), none, .mv (.tmp 0)⟩,
    ⟨(some 8), none, .lens (.tmp 7)⟩,
    ⟨(some 9), none, .bin .sub (.tmp 6) (.tmp 8)⟩,
    ⟨(some 1), none, .mv (.tmp 9)⟩])
  (.seq (.seq (.ops [⟨(some 10), none, .mv (.tmp 1)⟩,
    ⟨(some 11), none, .bin .lss (.tmp 10) (.const (.int .i64 0))⟩])
  (.cond (.tmp 11) (.seq (.ops [⟨(some 4), none, .mv (.const (.int .i64 (-1)))⟩])
  (.ret)) (.skip)))
  (.seq (.seq (.ops [⟨(some 5), none, .mv (.const (.int .i64 0))⟩])
  (.block 0 (.loop 2 [(0, 0), (1, 0), (5, 0)] c_laws_szLetterS_l1)))
  (.kept [1] (.seq (.ops [⟨(some 26), none, .mv (.tmp 1)⟩,
    ⟨(some 4), none, .mv (.tmp 26)⟩])
  (.ret))))))
theorem h_laws_szLetterS : (Try.prog.funcs[n_laws_szLetterS]?).bind (fun fn => fn.body.bind (comp Try.prog fn.ntmps)) = some (AS.strip c_laws_szLetterS) := by kernel_rfl
theorem r_laws_szLetterS : (Try.prog.funcs[n_laws_szLetterS]?).map (fun fn => (fn.results.toList, fn.ntmps)) = some ([.tmp 4], 27) := by kernel_rfl
-- 50 loop.example/g00850/spec.l7Good
abbrev n_spec_l7Good : Nat := 50
def c_spec_l7Good_l1 : AS :=
  .seq (.seq (.ops [⟨(some 35), none, .mv (.tmp 4)⟩,
    ⟨(some 36), none, .fa 3 (.tmp 1)⟩,
    ⟨(some 37), none, .load none (.tmp 36)⟩,
    ⟨(some 38), none, .lens (.tmp 37)⟩,
    ⟨(some 39), none, .bin .lss (.tmp 35) (.tmp 38)⟩])
  (.cond (.tmp 39) (.skip) (.exit 0)))
  (.seq (.block 1 (.seq (.ops [⟨(some 42), none, .fa 3 (.tmp 1)⟩,
    ⟨(some 43), none, .load none (.tmp 42)⟩,
    ⟨(some 44), none, .mv (.tmp 4)⟩,
    ⟨(some 45), none, .ia 4 (.tmp 43) (.tmp 44)⟩,
    ⟨(some 46), none, .load (some 4) (.tmp 45)⟩,
    ⟨(some 5), none, .alloc (.agg #[.int .i64 0, .int .i64 0, .int .i64 0, .string ⟨⟨[]⟩⟩])⟩,
    ⟨none, none, .store 4 (.tmp 5) (.tmp 46)⟩])
  (.seq (.seq (.ops [⟨(some 47), none, .load (some 4) (.tmp 1)⟩,
    ⟨(some 48), none, .fa 0 (.tmp 5)⟩,
    ⟨(some 49), none, .load none (.tmp 48)⟩,
    ⟨(some 50), none, .call 100 [(.tmp 47), (.tmp 49)]⟩,
    ⟨(some 51), none, .not (.tmp 50)⟩,
    ⟨(some 52), none, .mv (.tmp 51)⟩,
    ⟨(some 53), some (52, false), .load (some 4) (.tmp 1)⟩,
    ⟨(some 54), some (52, false), .fa 1 (.tmp 5)⟩,
    ⟨(some 55), some (52, false), .load none (.tmp 54)⟩,
    ⟨(some 56), some (52, false), .call 100 [(.tmp 53), (.tmp 55)]⟩,
    ⟨(some 57), some (52, false), .not (.tmp 56)⟩,
    ⟨(some 58), none, .pick (.tmp 52) (.const (.bool true)) (.tmp 57)⟩,
    ⟨(some 59), none, .mv (.tmp 58)⟩,
    ⟨(some 60), some (59, false), .fa 0 (.tmp 5)⟩,
    ⟨(some 61), some (59, false), .load none (.tmp 60)⟩,
    ⟨(some 62), some (59, false), .fa 1 (.tmp 5)⟩,
    ⟨(some 63), some (59, false), .load none (.tmp 62)⟩,
    ⟨(some 64), some (59, false), .bin .eql (.tmp 61) (.tmp 63)⟩,
    ⟨(some 65), none, .pick (.tmp 59) (.const (.bool true)) (.tmp 64)⟩,
    ⟨(some 66), none, .mv (.tmp 65)⟩,
    ⟨(some 67), some (66, false), .fa 2 (.tmp 5)⟩,
    ⟨(some 68), some (66, false), .load none (.tmp 67)⟩,
    ⟨(some 69), some (66, false), .mv (.tmp 3)⟩,
    ⟨(some 70), some (66, false), .call 86 [(.tmp 68), (.tmp 69), (.const (.int .i64 100200))]⟩,
    ⟨(some 71), some (66, false), .not (.tmp 70)⟩,
    ⟨(some 72), none, .pick (.tmp 66) (.const (.bool true)) (.tmp 71)⟩,
    ⟨(some 73), none, .mv (.tmp 72)⟩,
    ⟨(some 74), some (73, false), .fa 3 (.tmp 5)⟩,
    ⟨(some 75), some (73, false), .load none (.tmp 74)⟩,
    ⟨(some 76), some (73, false), .lent (.tmp 75)⟩,
    ⟨(some 77), some (73, false), .call 86 [(.tmp 76), (.const (.int .i64 1)), (.const (.int .i64 40))]⟩,
    ⟨(some 78), some (73, false), .not (.tmp 77)⟩,
    ⟨(some 79), none, .pick (.tmp 73) (.const (.bool true)) (.tmp 78)⟩])
  (.kept [1, 4, 5, 79] (.cond (.tmp 79) (.seq (.ops [⟨(some 2), none, .mv (.const (.bool false))⟩])
  (.ret)) (.skip))))
  (.kept [1, 4, 5] (.ops [⟨(some 80), none, .fa 2 (.tmp 5)⟩,
    ⟨(some 81), none, .load none (.tmp 80)⟩,
    ⟨(some 3), none, .mv (.tmp 81)⟩])))))
  (.kept [1, 3, 4] (.ops [⟨(some 40), none, .mv (.tmp 4)⟩,
    ⟨(some 41), none, .bin .add (.tmp 40) (.const (.int .i64 1))⟩,
    ⟨(some 4), none, .mv (.tmp 41)⟩])))
def c_spec_l7Good : AS :=
  .seq (.ops [⟨(some 1), none, .box (.tmp 0)⟩,
    ⟨(some 2), none, .mv (.const (.bool false))⟩])
  (.seq (.seq (.ops [⟨(some 6), none, .fa 0 (.tmp 1)⟩,
    ⟨(some 7), none, .load none (.tmp 6)⟩,
    ⟨(some 8), none, .call 86 [(.tmp 7), (.const (.int .i64 0)), (.const (.int .i64 100000))]⟩,
    ⟨(some 9), none, .not (.tmp 8)⟩,
    ⟨(some 10), none, .mv (.tmp 9)⟩,
    ⟨(some 11), some (10, false), .fa 1 (.tmp 1)⟩,
    ⟨(some 12), some (10, false), .load none (.tmp 11)⟩,
    ⟨(some 13), some (10, false), .lens (.tmp 12)⟩,
    ⟨(some 14), some (10, false), .call 86 [(.tmp 13), (.const (.int .i64 1)), (.const (.int .i64 5))]⟩,
    ⟨(some 15), some (10, false), .not (.tmp 14)⟩,
    ⟨(some 16), none, .pick (.tmp 10) (.const (.bool true)) (.tmp 15)⟩,
    ⟨(some 17), none, .mv (.tmp 16)⟩,
    ⟨(some 18), some (17, false), .fa 1 (.tmp 1)⟩,
    ⟨(some 19), some (17, false), .load none (.tmp 18)⟩,
    ⟨(some 20), some (17, false), .call 99 [(.tmp 19), (.const (.int .i64 0)), (.const (.int .i64 2))]⟩,
    ⟨(some 21), some (17, false), .not (.tmp 20)⟩,
    ⟨(some 22), none, .pick (.tmp 17) (.const (.bool true)) (.tmp 21)⟩,
    ⟨(some 23), none, .mv (.tmp 22)⟩,
    ⟨(some 24), some (23, false), .fa 2 (.tmp 1)⟩,
    ⟨(some 25), some (23, false), .load none (.tmp 24)⟩,
    ⟨(some 26), some (23, false), .call 86 [(.tmp 25), (.const (.int .i64 0)), (.const (.int .i64 20))]⟩,
    ⟨(some 27), some (23, false), .not (.tmp 26)⟩,
    ⟨(some 28), none, .pick (.tmp 23) (.const (.bool true)) (.tmp 27)⟩,
    ⟨(some 29), none, .mv (.tmp 28)⟩,
    ⟨(some 30), some (29, false), .fa 3 (.tmp 1)⟩,
    ⟨(some 31), some (29, false), .load none (.tmp 30)⟩,
    ⟨(some 32), some (29, false), .lens (.tmp 31)⟩,
    ⟨(some 33), some (29, false), .bin .gtr (.tmp 32) (.const (.int .i64 60))⟩,
    ⟨(some 34), none, .pick (.tmp 29) (.const (.bool true)) (.tmp 33)⟩])
  (.kept [1, 34] (.cond (.tmp 34) (.seq (.ops [⟨(some 2), none, .mv (.const (.bool false))⟩])
  (.ret)) (.skip))))
  (.kept [1] (.seq (.ops [⟨(some 3), none, .mv (.const (.int .i64 0))⟩])
  (.seq (.seq (.ops [⟨(some 4), none, .mv (.const (.int .i64 0))⟩])
  (.block 0 (.loop 1 [(1, 0), (3, 0), (4, 0)] c_spec_l7Good_l1)))
  (.kept [] (.seq (.ops [⟨(some 2), none, .mv (.const (.bool true))⟩])
  (.ret)))))))
theorem h_spec_l7Good : (Try.prog.funcs[n_spec_l7Good]?).bind (fun fn => fn.body.bind (comp Try.prog fn.ntmps)) = some (AS.strip c_spec_l7Good) := by kernel_rfl
theorem r_spec_l7Good : (Try.prog.funcs[n_spec_l7Good]?).map (fun fn => (fn.results.toList, fn.ntmps)) = some ([.tmp 2], 82) := by kernel_rfl
-- 51 loop.example/g00850/spec.l7Own
abbrev n_spec_l7Own : Nat := 51
def c_spec_l7Own : AS :=
  .seq (.ops [⟨(some 2), none, .box (.tmp 0)⟩,
    ⟨(some 4), none, .alloc (.agg #[.int .i64 0, .slice none 0 0, .int .i64 0, .slice none 0 0])⟩])
  (.seq (.rops [(none, ⟨(some 5), none, .fa 0 (.tmp 2)⟩),
    (none, ⟨(some 6), none, .load none (.tmp 5)⟩),
    (none, ⟨(some 7), none, .fa 1 (.tmp 2)⟩),
    (none, ⟨(some 8), none, .load none (.tmp 7)⟩),
    (none, ⟨(some 10), none, .fa 2 (.tmp 2)⟩),
    (none, ⟨(some 11), none, .load none (.tmp 10)⟩),
    (none, ⟨(some 12), none, .mv (.tmp 1)⟩),
    (some [⟨(some 12), none, .mv (.tmp 1)⟩, ⟨(some 11), none, .load none (.tmp 10)⟩, ⟨(some 10), none, .fa 2 (.tmp 2)⟩, ⟨(some 6), none, .load none (.tmp 5)⟩, ⟨(some 5), none, .fa 0 (.tmp 2)⟩], ⟨(some 9), none, .call 101 [(.tmp 8)]⟩),
    (some [⟨(some 11), none, .load none (.tmp 10)⟩, ⟨(some 10), none, .fa 2 (.tmp 2)⟩, ⟨(some 6), none, .load none (.tmp 5)⟩, ⟨(some 5), none, .fa 0 (.tmp 2)⟩], ⟨(some 13), none, .call 52 [(.tmp 12)]⟩),
    (none, ⟨(some 14), none, .build (.agg #[.int .i64 0, .slice none 0 0, .int .i64 0, .slice none 0 0]) [(0, 1, (.tmp 6)), (1, 1, (.tmp 9)), (2, 1, (.tmp 11)), (3, 1, (.tmp 13))]⟩),
    (some [], ⟨none, none, .store 4 (.tmp 4) (.tmp 14)⟩)])
  (.ret))
theorem h_spec_l7Own : (Try.prog.funcs[n_spec_l7Own]?).bind (fun fn => fn.body.bind (comp Try.prog fn.ntmps)) = some (AS.strip c_spec_l7Own) := by kernel_rfl
theorem r_spec_l7Own : (Try.prog.funcs[n_spec_l7Own]?).map (fun fn => (fn.results.toList, fn.ntmps)) = some ([.cell 4 43], 15) := by kernel_rfl
-- 52 loop.example/g00850/spec.l7OwnL
abbrev n_spec_l7OwnL : Nat := 52
def c_spec_l7OwnL : AS :=
  .seq (.ops [⟨(some 2), none, .mv (.const (.slice none 0 0))⟩])
  (.seq (.ops [⟨(some 3), none, .bsl 4 (.agg #[.int .i64 0, .int .i64 0, .int .i64 0, .string ⟨⟨[]⟩⟩]) 0 []⟩,
    ⟨(some 4), none, .mv (.tmp 0)⟩,
    ⟨(some 5), none, .app 4 40 (.agg #[.int .i64 0, .int .i64 0, .int .i64 0, .string ⟨⟨[]⟩⟩]) (.tmp 3) (.tmp 4)⟩,
    ⟨(some 2), none, .mv (.tmp 5)⟩])
  (.ret))
theorem h_spec_l7OwnL : (Try.prog.funcs[n_spec_l7OwnL]?).bind (fun fn => fn.body.bind (comp Try.prog fn.ntmps)) = some (AS.strip c_spec_l7OwnL) := by kernel_rfl
theorem r_spec_l7OwnL : (Try.prog.funcs[n_spec_l7OwnL]?).map (fun fn => (fn.results.toList, fn.ntmps)) = some ([.tmp 2], 6) := by kernel_rfl
-- 53 loop.example/g00850/laws.toIntS
abbrev n_laws_toIntS : Nat := 53
def c_laws_toIntS_l1 : AS :=
  .seq (.seq (.ops [⟨(some 8), none, .mv (.tmp 4)⟩,
    ⟨(some 9), none, .mv (.tmp 0)⟩,
    ⟨(some 10), none, .lens (.tmp 9)⟩,
    ⟨(some 11), none, .bin .lss (.tmp 8) (.tmp 10)⟩])
  (.cond (.tmp 11) (.skip) (.exit 0)))
  (.seq (.block 1 (.ops [⟨(some 14), none, .mv (.tmp 3)⟩,
    ⟨(some 15), none, .mv (.tmp 4)⟩,
    ⟨(some 16), none, .mv (.tmp 0)⟩,
    ⟨(some 17), none, .mv (.tmp 4)⟩,
    ⟨(some 18), none, .ia 1 (.tmp 16) (.tmp 17)⟩,
    ⟨(some 19), none, .load none (.tmp 18)⟩,
    ⟨(some 20), none, .ia 1 (.tmp 14) (.tmp 15)⟩,
    ⟨none, none, .store 1 (.tmp 20) (.tmp 19)⟩]))
  (.kept [0, 3, 4] (.ops [⟨(some 12), none, .mv (.tmp 4)⟩,
    ⟨(some 13), none, .bin .add (.tmp 12) (.const (.int .i64 1))⟩,
    ⟨(some 4), none, .mv (.tmp 13)⟩])))
def c_laws_toIntS : AS :=
  .seq (.ops [⟨(some 2), none, .mv (.const (.slice none 0 0))⟩])
  (.seq (.ops [⟨(some 5), none, .mv (.tmp 0)⟩,
    ⟨(some 6), none, .lens (.tmp 5)⟩,
    ⟨(some 7), none, .mks 1 8 (.int .i64 0) (.tmp 6) (.tmp 6)⟩,
    ⟨(some 3), none, .mv (.tmp 7)⟩])
  (.seq (.seq (.ops [⟨(some 4), none, .mv (.const (.int .i64 0))⟩])
  (.block 0 (.loop 1 [(0, 0), (3, 0), (4, 0)] c_laws_toIntS_l1)))
  (.kept [3] (.seq (.ops [⟨(some 21), none, .mv (.tmp 3)⟩,
    ⟨(some 2), none, .mv (.tmp 21)⟩])
  (.ret)))))
theorem h_laws_toIntS : (Try.prog.funcs[n_laws_toIntS]?).bind (fun fn => fn.body.bind (comp Try.prog fn.ntmps)) = some (AS.strip c_laws_toIntS) := by kernel_rfl
theorem r_laws_toIntS : (Try.prog.funcs[n_laws_toIntS]?).map (fun fn => (fn.results.toList, fn.ntmps)) = some ([.tmp 2], 22) := by kernel_rfl
-- 54 loop.example/g00850/laws.toLetterS
abbrev n_laws_toLetterS : Nat := 54
def c_laws_toLetterS_l1 : AS :=
  .seq (.seq (.ops [⟨(some 8), none, .mv (.tmp 4)⟩,
    ⟨(some 9), none, .mv (.tmp 0)⟩,
    ⟨(some 10), none, .lens (.tmp 9)⟩,
    ⟨(some 11), none, .bin .lss (.tmp 8) (.tmp 10)⟩])
  (.cond (.tmp 11) (.skip) (.exit 0)))
  (.seq (.block 1 (.ops [⟨(some 14), none, .mv (.tmp 3)⟩,
    ⟨(some 15), none, .mv (.tmp 4)⟩,
    ⟨(some 16), none, .mv (.tmp 0)⟩,
    ⟨(some 17), none, .mv (.tmp 4)⟩,
    ⟨(some 18), none, .ia 4 (.tmp 16) (.tmp 17)⟩,
    ⟨(some 19), none, .load (some 4) (.tmp 18)⟩,
    ⟨(some 20), none, .call 102 [(.tmp 19)]⟩,
    ⟨(some 21), none, .ia 4 (.tmp 14) (.tmp 15)⟩,
    ⟨none, none, .store 4 (.tmp 21) (.tmp 20)⟩]))
  (.kept [0, 3, 4] (.ops [⟨(some 12), none, .mv (.tmp 4)⟩,
    ⟨(some 13), none, .bin .add (.tmp 12) (.const (.int .i64 1))⟩,
    ⟨(some 4), none, .mv (.tmp 13)⟩])))
def c_laws_toLetterS : AS :=
  .seq (.ops [⟨(some 2), none, .mv (.const (.slice none 0 0))⟩])
  (.seq (.ops [⟨(some 5), none, .mv (.tmp 0)⟩,
    ⟨(some 6), none, .lens (.tmp 5)⟩,
    ⟨(some 7), none, .mks 4 40 (.agg #[.int .i64 0, .int .i64 0, .int .i64 0, .string ⟨⟨[]⟩⟩]) (.tmp 6) (.tmp 6)⟩,
    ⟨(some 3), none, .mv (.tmp 7)⟩])
  (.seq (.seq (.ops [⟨(some 4), none, .mv (.const (.int .i64 0))⟩])
  (.block 0 (.loop 1 [(0, 0), (3, 0), (4, 0)] c_laws_toLetterS_l1)))
  (.kept [3] (.seq (.ops [⟨(some 22), none, .mv (.tmp 3)⟩,
    ⟨(some 2), none, .mv (.tmp 22)⟩])
  (.ret)))))
theorem h_laws_toLetterS : (Try.prog.funcs[n_laws_toLetterS]?).bind (fun fn => fn.body.bind (comp Try.prog fn.ntmps)) = some (AS.strip c_laws_toLetterS) := by kernel_rfl
theorem r_laws_toLetterS : (Try.prog.funcs[n_laws_toLetterS]?).map (fun fn => (fn.results.toList, fn.ntmps)) = some ([.tmp 2], 23) := by kernel_rfl
-- 55 loop.example/g00850/impl.GoodNet
abbrev n_impl_GoodNet : Nat := 55
def c_impl_GoodNet_l1 : AS :=
  .seq (.ops [⟨(some 27), none, .bin .lss (.tmp 26) (.tmp 25)⟩])
  (.seq (.cond (.tmp 27) (.skip) (.exit 0))
  (.seq (.block 1 (.seq (.ops [⟨(some 28), none, .mv (.tmp 26)⟩,
    ⟨(some 29), none, .ia 4 (.tmp 24) (.tmp 26)⟩,
    ⟨(some 30), none, .load (some 4) (.tmp 29)⟩,
    ⟨(some 4), none, .alloc (.agg #[.int .i64 0, .int .i64 0, .int .i64 0, .string ⟨⟨[]⟩⟩])⟩,
    ⟨(some 3), none, .mv (.tmp 28)⟩,
    ⟨none, none, .store 4 (.tmp 4) (.tmp 30)⟩])
  (.seq (.rops [(none, ⟨(some 31), none, .load (some 4) (.tmp 1)⟩),
    (none, ⟨(some 32), none, .load (some 4) (.tmp 4)⟩),
    (some [], ⟨(some 33), none, .call 104 [(.tmp 31), (.tmp 32)]⟩),
    (none, ⟨(some 34), none, .not (.tmp 33)⟩),
    (none, ⟨(some 35), none, .mv (.tmp 34)⟩),
    (none, ⟨(some 36), some (35, false), .mv (.tmp 3)⟩),
    (none, ⟨(some 37), some (35, false), .bin .gtr (.tmp 36) (.const (.int .i64 0))⟩),
    (none, ⟨(some 38), some (35, false), .mv (.tmp 37)⟩),
    (none, ⟨(some 39), some (38, true), .fa 2 (.tmp 4)⟩),
    (none, ⟨(some 40), some (38, true), .load none (.tmp 39)⟩),
    (none, ⟨(some 41), some (38, true), .fa 3 (.tmp 1)⟩),
    (none, ⟨(some 42), some (38, true), .load none (.tmp 41)⟩),
    (none, ⟨(some 43), some (38, true), .mv (.tmp 3)⟩),
    (none, ⟨(some 44), some (38, true), .bin .sub (.tmp 43) (.const (.int .i64 1))⟩),
    (none, ⟨(some 45), some (38, true), .ia 4 (.tmp 42) (.tmp 44)⟩),
    (none, ⟨(some 46), some (38, true), .fa 2 (.tmp 45)⟩),
    (none, ⟨(some 47), some (38, true), .load none (.tmp 46)⟩),
    (none, ⟨(some 48), some (38, true), .bin .lss (.tmp 40) (.tmp 47)⟩),
    (none, ⟨(some 49), some (35, false), .pick (.tmp 38) (.tmp 48) (.const (.bool false))⟩),
    (none, ⟨(some 50), none, .pick (.tmp 35) (.const (.bool true)) (.tmp 49)⟩)])
  (.kept [1, 24, 25, 26, 50] (.cond (.tmp 50) (.seq (.ops [⟨(some 2), none, .mv (.const (.bool false))⟩])
  (.ret)) (.skip))))))
  (.kept [1, 24, 25, 26] (.ops [⟨(some 51), none, .bin .add (.tmp 26) (.const (.int .i64 1))⟩,
    ⟨(some 26), none, .mv (.tmp 51)⟩]))))
def c_impl_GoodNet : AS :=
  .seq (.ops [⟨(some 1), none, .box (.tmp 0)⟩,
    ⟨(some 2), none, .mv (.const (.bool false))⟩])
  (.seq (.seq (.ops [⟨(some 5), none, .fa 0 (.tmp 1)⟩,
    ⟨(some 6), none, .load none (.tmp 5)⟩,
    ⟨(some 7), none, .call 93 [(.tmp 6)]⟩,
    ⟨(some 8), none, .not (.tmp 7)⟩,
    ⟨(some 9), none, .mv (.tmp 8)⟩,
    ⟨(some 10), some (9, false), .fa 1 (.tmp 1)⟩,
    ⟨(some 11), some (9, false), .load none (.tmp 10)⟩,
    ⟨(some 12), some (9, false), .fa 2 (.tmp 1)⟩,
    ⟨(some 13), some (9, false), .load none (.tmp 12)⟩,
    ⟨(some 14), some (9, false), .call 103 [(.tmp 11), (.tmp 13)]⟩,
    ⟨(some 15), some (9, false), .not (.tmp 14)⟩,
    ⟨(some 16), none, .pick (.tmp 9) (.const (.bool true)) (.tmp 15)⟩,
    ⟨(some 17), none, .mv (.tmp 16)⟩,
    ⟨(some 18), some (17, false), .fa 3 (.tmp 1)⟩,
    ⟨(some 19), some (17, false), .load none (.tmp 18)⟩,
    ⟨(some 20), some (17, false), .lens (.tmp 19)⟩,
    ⟨(some 21), some (17, false), .bin .gtr (.tmp 20) (.const (.int .i64 60))⟩,
    ⟨(some 22), none, .pick (.tmp 17) (.const (.bool true)) (.tmp 21)⟩])
  (.kept [1, 22] (.cond (.tmp 22) (.seq (.ops [⟨(some 2), none, .mv (.const (.bool false))⟩])
  (.ret)) (.skip))))
  (.kept [1] (.seq (.seq (.ops [⟨(some 23), none, .fa 3 (.tmp 1)⟩,
    ⟨(some 24), none, .load none (.tmp 23)⟩,
    ⟨(some 25), none, .lens (.tmp 24)⟩,
    ⟨(some 26), none, .mv (.const (.int .i64 0))⟩])
  (.block 0 (.loop 1 [(1, 0), (24, 0), (25, 0), (26, 0)] c_impl_GoodNet_l1)))
  (.kept [] (.seq (.ops [⟨(some 2), none, .mv (.const (.bool true))⟩])
  (.ret))))))
theorem h_impl_GoodNet : (Try.prog.funcs[n_impl_GoodNet]?).bind (fun fn => fn.body.bind (comp Try.prog fn.ntmps)) = some (AS.strip c_impl_GoodNet) := by kernel_rfl
theorem r_impl_GoodNet : (Try.prog.funcs[n_impl_GoodNet]?).map (fun fn => (fn.results.toList, fn.ntmps)) = some ([.tmp 2], 52) := by kernel_rfl
-- 56 (loop.example/g00850/impl.Net).delivered
abbrev n_impl_Net_delivered : Nat := 56
def c_impl_Net_delivered : AS :=
  .seq (.ops [⟨(some 1), none, .box (.tmp 0)⟩,
    ⟨(some 2), none, .alloc (.agg #[.int .i64 0, .slice none 0 0, .int .i64 0, .slice none 0 0])⟩,
    ⟨(some 3), none, .mv (.const (.slice none 0 0))⟩])
  (.seq (.ops [⟨(some 6), none, .fa 3 (.tmp 1)⟩,
    ⟨(some 7), none, .load none (.tmp 6)⟩,
    ⟨(some 8), none, .mkf 106 [(.tmp 1)]⟩,
    ⟨(some 9), none, .call 105 [(.tmp 7), (.tmp 8)]⟩,
    ⟨(some 4), none, .mv (.tmp 9)⟩])
  (.seq (.seq (.ops [⟨(some 10), none, .mv (.tmp 4)⟩,
    ⟨(some 11), none, .bin .lss (.tmp 10) (.const (.int .i64 0))⟩])
  (.cond (.tmp 11) (.ops [⟨(some 12), none, .fa 3 (.tmp 1)⟩,
    ⟨(some 13), none, .load none (.tmp 12)⟩,
    ⟨(some 14), none, .lens (.tmp 13)⟩,
    ⟨(some 4), none, .mv (.tmp 14)⟩]) (.skip)))
  (.seq (.ops [⟨(some 15), none, .load (some 4) (.tmp 1)⟩,
    ⟨(some 16), none, .call 107 [(.tmp 15)]⟩,
    ⟨(some 5), none, .alloc (.agg #[.int .i64 0, .slice none 0 0, .int .i64 0, .slice none 0 0])⟩,
    ⟨none, none, .store 4 (.tmp 5) (.tmp 16)⟩])
  (.seq (.ops [⟨(some 17), none, .fa 3 (.tmp 1)⟩,
    ⟨(some 18), none, .load none (.tmp 17)⟩,
    ⟨(some 19), none, .mv (.tmp 4)⟩,
    ⟨(some 20), none, .sls 4 (.tmp 18) (some (.tmp 19)) none none⟩,
    ⟨(some 21), none, .call 67 [(.tmp 20)]⟩,
    ⟨(some 22), none, .fa 3 (.tmp 5)⟩,
    ⟨none, none, .store 1 (.tmp 22) (.tmp 21)⟩])
  (.kept [1, 2, 4, 5] (.seq (.rops [(none, ⟨(some 23), none, .load (some 4) (.tmp 5)⟩),
    (none, ⟨(some 24), none, .fa 3 (.tmp 1)⟩),
    (none, ⟨(some 25), none, .load none (.tmp 24)⟩),
    (none, ⟨(some 26), none, .mv (.tmp 4)⟩),
    (none, ⟨(some 27), none, .sls 4 (.tmp 25) none (some (.tmp 26)) none⟩),
    (some [⟨(some 23), none, .load (some 4) (.tmp 5)⟩], ⟨(some 28), none, .call 67 [(.tmp 27)]⟩),
    (some [], ⟨none, none, .store 4 (.tmp 2) (.tmp 23)⟩),
    (none, ⟨(some 3), none, .mv (.tmp 28)⟩)])
  (.ret)))))))
theorem h_impl_Net_delivered : (Try.prog.funcs[n_impl_Net_delivered]?).bind (fun fn => fn.body.bind (comp Try.prog fn.ntmps)) = some (AS.strip c_impl_Net_delivered) := by kernel_rfl
theorem r_impl_Net_delivered : (Try.prog.funcs[n_impl_Net_delivered]?).map (fun fn => (fn.results.toList, fn.ntmps)) = some ([.cell 2 43, .tmp 3], 29) := by kernel_rfl
-- 57 loop.example/g00850/laws.eqIntS
abbrev n_laws_eqIntS : Nat := 57
def c_laws_eqIntS_l1 : AS :=
  .seq (.seq (.ops [⟨(some 11), none, .mv (.tmp 5)⟩,
    ⟨(some 12), none, .mv (.tmp 0)⟩,
    ⟨(some 13), none, .lens (.tmp 12)⟩,
    ⟨(some 14), none, .bin .lss (.tmp 11) (.tmp 13)⟩])
  (.cond (.tmp 14) (.skip) (.exit 0)))
  (.seq (.block 1 (.seq (.dops [⟨(some 17), none, .mv (.tmp 0)⟩,
    ⟨(some 18), none, .mv (.tmp 5)⟩,
    ⟨(some 19), none, .ia 1 (.tmp 17) (.tmp 18)⟩,
    ⟨(some 20), none, .load none (.tmp 19)⟩,
    ⟨(some 21), none, .mv (.tmp 1)⟩,
    ⟨(some 22), none, .mv (.tmp 5)⟩,
    ⟨(some 23), none, .ia 1 (.tmp 21) (.tmp 22)⟩,
    ⟨(some 24), none, .load none (.tmp 23)⟩,
    ⟨(some 25), none, .bin .neq (.tmp 20) (.tmp 24)⟩])
  (.kept [0, 1, 5, 25] (.cond (.tmp 25) (.seq (.ops [⟨(some 4), none, .mv (.const (.bool false))⟩])
  (.ret)) (.skip)))))
  (.kept [0, 1, 5] (.ops [⟨(some 15), none, .mv (.tmp 5)⟩,
    ⟨(some 16), none, .bin .add (.tmp 15) (.const (.int .i64 1))⟩,
    ⟨(some 5), none, .mv (.tmp 16)⟩])))
def c_laws_eqIntS : AS :=
  .seq (.ops [⟨(some 4), none, .mv (.const (.bool false))⟩])
  (.seq (.seq (.ops [⟨(some 6), none, .mv (.tmp 0)⟩,
    ⟨(some 7), none, .lens (.tmp 6)⟩,
    ⟨(some 8), none, .mv (.tmp 1)⟩,
    ⟨(some 9), none, .lens (.tmp 8)⟩,
    ⟨(some 10), none, .bin .neq (.tmp 7) (.tmp 9)⟩])
  (.cond (.tmp 10) (.seq (.ops [⟨(some 4), none, .mv (.const (.bool false))⟩])
  (.ret)) (.skip)))
  (.kept [0, 1] (.seq (.seq (.ops [⟨(some 5), none, .mv (.const (.int .i64 0))⟩])
  (.block 0 (.loop 2 [(0, 0), (1, 0), (5, 0)] c_laws_eqIntS_l1)))
  (.kept [] (.seq (.ops [⟨(some 4), none, .mv (.const (.bool true))⟩])
  (.ret))))))
theorem h_laws_eqIntS : (Try.prog.funcs[n_laws_eqIntS]?).bind (fun fn => fn.body.bind (comp Try.prog fn.ntmps)) = some (AS.strip c_laws_eqIntS) := by kernel_rfl
theorem r_laws_eqIntS : (Try.prog.funcs[n_laws_eqIntS]?).map (fun fn => (fn.results.toList, fn.ntmps)) = some ([.tmp 4], 26) := by kernel_rfl
-- 58 loop.example/g00850/laws.eqLetter
abbrev n_laws_eqLetter : Nat := 58
def c_laws_eqLetter : AS :=
  .seq (.ops [⟨(some 2), none, .box (.tmp 0)⟩,
    ⟨(some 3), none, .box (.tmp 1)⟩,
    ⟨(some 4), none, .mv (.const (.bool false))⟩])
  (.seq (.seq (.ops [⟨(some 5), none, .fa 0 (.tmp 2)⟩,
    ⟨(some 6), none, .load none (.tmp 5)⟩,
    ⟨(some 7), none, .fa 0 (.tmp 3)⟩,
    ⟨(some 8), none, .load none (.tmp 7)⟩,
    ⟨(some 9), none, .bin .neq (.tmp 6) (.tmp 8)⟩])
  (.cond (.tmp 9) (.seq (.ops [⟨(some 4), none, .mv (.const (.bool false))⟩])
  (.ret)) (.skip)))
  (.kept [2, 3] (.seq (.seq (.ops [⟨(some 10), none, .fa 1 (.tmp 2)⟩,
    ⟨(some 11), none, .load none (.tmp 10)⟩,
    ⟨(some 12), none, .fa 1 (.tmp 3)⟩,
    ⟨(some 13), none, .load none (.tmp 12)⟩,
    ⟨(some 14), none, .bin .neq (.tmp 11) (.tmp 13)⟩])
  (.cond (.tmp 14) (.seq (.ops [⟨(some 4), none, .mv (.const (.bool false))⟩])
  (.ret)) (.skip)))
  (.kept [2, 3] (.seq (.seq (.ops [⟨(some 15), none, .fa 2 (.tmp 2)⟩,
    ⟨(some 16), none, .load none (.tmp 15)⟩,
    ⟨(some 17), none, .fa 2 (.tmp 3)⟩,
    ⟨(some 18), none, .load none (.tmp 17)⟩,
    ⟨(some 19), none, .bin .neq (.tmp 16) (.tmp 18)⟩])
  (.cond (.tmp 19) (.seq (.ops [⟨(some 4), none, .mv (.const (.bool false))⟩])
  (.ret)) (.skip)))
  (.kept [2, 3] (.seq (.seq (.ops [⟨(some 20), none, .fa 3 (.tmp 2)⟩,
    ⟨(some 21), none, .load none (.tmp 20)⟩,
    ⟨(some 22), none, .fa 3 (.tmp 3)⟩,
    ⟨(some 23), none, .load none (.tmp 22)⟩,
    ⟨(some 24), none, .bin .neq (.tmp 21) (.tmp 23)⟩])
  (.cond (.tmp 24) (.seq (.ops [⟨(some 4), none, .mv (.const (.bool false))⟩])
  (.ret)) (.skip)))
  (.kept [] (.seq (.ops [⟨(some 4), none, .mv (.const (.bool true))⟩])
  (.ret))))))))))
theorem h_laws_eqLetter : (Try.prog.funcs[n_laws_eqLetter]?).bind (fun fn => fn.body.bind (comp Try.prog fn.ntmps)) = some (AS.strip c_laws_eqLetter) := by kernel_rfl
theorem r_laws_eqLetter : (Try.prog.funcs[n_laws_eqLetter]?).map (fun fn => (fn.results.toList, fn.ntmps)) = some ([.tmp 4], 25) := by kernel_rfl
-- 59 loop.example/g00850/laws.markIntS
abbrev n_laws_markIntS : Nat := 59
def c_laws_markIntS_l1 : AS :=
  .seq (.seq (.ops [⟨(some 6), none, .mv (.tmp 5)⟩,
    ⟨(some 7), none, .mv (.tmp 0)⟩,
    ⟨(some 8), none, .lens (.tmp 7)⟩,
    ⟨(some 9), none, .bin .lss (.tmp 6) (.tmp 8)⟩])
  (.cond (.tmp 9) (.skip) (.exit 0)))
  (.seq (.block 1 (.seq (.ops [⟨(some 12), none, .mv (.tmp 0)⟩,
    ⟨(some 13), none, .mv (.tmp 5)⟩,
    ⟨(some 14), none, .mv (.tmp 1)⟩,
    ⟨(some 15), none, .ia 1 (.tmp 12) (.tmp 13)⟩,
    ⟨none, none, .store 1 (.tmp 15) (.tmp 14)⟩])
  (.ops [⟨(some 16), none, .mv (.tmp 1)⟩,
    ⟨(some 17), none, .bin .add (.tmp 16) (.const (.int .i64 1))⟩,
    ⟨(some 1), none, .mv (.tmp 17)⟩])))
  (.kept [0, 1, 5] (.ops [⟨(some 10), none, .mv (.tmp 5)⟩,
    ⟨(some 11), none, .bin .add (.tmp 10) (.const (.int .i64 1))⟩,
    ⟨(some 5), none, .mv (.tmp 11)⟩])))
def c_laws_markIntS : AS :=
  .seq (.ops [⟨(some 4), none, .mv (.const (.int .i64 0))⟩])
  (.seq (.seq (.ops [⟨(some 5), none, .mv (.const (.int .i64 0))⟩])
  (.block 0 (.loop 2 [(0, 0), (1, 0), (5, 0)] c_laws_markIntS_l1)))
  (.kept [1] (.seq (.ops [⟨(some 18), none, .mv (.tmp 1)⟩,
    ⟨(some 4), none, .mv (.tmp 18)⟩])
  (.ret))))
theorem h_laws_markIntS : (Try.prog.funcs[n_laws_markIntS]?).bind (fun fn => fn.body.bind (comp Try.prog fn.ntmps)) = some (AS.strip c_laws_markIntS) := by kernel_rfl
theorem r_laws_markIntS : (Try.prog.funcs[n_laws_markIntS]?).map (fun fn => (fn.results.toList, fn.ntmps)) = some ([.tmp 4], 19) := by kernel_rfl
-- 60 loop.example/g00850/laws.markText
abbrev n_laws_markText : Nat := 60
def c_laws_markText_l1 : AS :=
  .seq (.seq (.ops [⟨(some 6), none, .mv (.tmp 0)⟩,
    ⟨(some 7), none, .bin .gtr (.tmp 6) (.const (.int .i64 0))⟩])
  (.cond (.tmp 7) (.skip) (.exit 0)))
  (.block 1 (.seq (.ops [⟨(some 8), none, .mv (.tmp 0)⟩,
    ⟨(some 9), none, .bin .rem (.tmp 8) (.const (.int .i64 10))⟩,
    ⟨(some 10), none, .bin .add (.const (.int .i64 48)) (.tmp 9)⟩,
    ⟨(some 11), none, .cvi .u8 (.tmp 10)⟩,
    ⟨(some 12), none, .bsl 1 (.int .u8 0) 1 [(0, (.tmp 11))]⟩,
    ⟨(some 13), none, .cvbs (.tmp 12)⟩,
    ⟨(some 14), none, .mv (.tmp 3)⟩,
    ⟨(some 15), none, .bin .add (.tmp 13) (.tmp 14)⟩,
    ⟨(some 3), none, .mv (.tmp 15)⟩])
  (.kept [0, 3] (.ops [⟨(some 16), none, .mv (.tmp 0)⟩,
    ⟨(some 17), none, .bin .quo (.tmp 16) (.const (.int .i64 10))⟩,
    ⟨(some 0), none, .mv (.tmp 17)⟩]))))
def c_laws_markText : AS :=
  .seq (.ops [⟨(some 2), none, .mv (.const (.string ⟨⟨[]⟩⟩))⟩])
  (.seq (.seq (.ops [⟨(some 4), none, .mv (.tmp 0)⟩,
    ⟨(some 5), none, .bin .leq (.tmp 4) (.const (.int .i64 0))⟩])
  (.cond (.tmp 5) (.seq (.ops [⟨(some 2), none, .mv (.const (.string ⟨⟨[109, 48]⟩⟩))⟩])
  (.ret)) (.skip)))
  (.seq (.ops [⟨(some 3), none, .mv (.const (.string ⟨⟨[]⟩⟩))⟩])
  (.seq (.block 0 (.loop 1 [(0, 0), (3, 0)] c_laws_markText_l1))
  (.kept [3] (.seq (.ops [⟨(some 18), none, .mv (.tmp 3)⟩,
    ⟨(some 19), none, .bin .add (.const (.string ⟨⟨[109]⟩⟩)) (.tmp 18)⟩,
    ⟨(some 2), none, .mv (.tmp 19)⟩])
  (.ret))))))
theorem h_laws_markText : (Try.prog.funcs[n_laws_markText]?).bind (fun fn => fn.body.bind (comp Try.prog fn.ntmps)) = some (AS.strip c_laws_markText) := by kernel_rfl
theorem r_laws_markText : (Try.prog.funcs[n_laws_markText]?).map (fun fn => (fn.results.toList, fn.ntmps)) = some ([.tmp 2], 20) := by kernel_rfl
-- 61 loop.example/g00850/laws.heldIntS
abbrev n_laws_heldIntS : Nat := 61
def c_laws_heldIntS_l1 : AS :=
  .seq (.seq (.ops [⟨(some 6), none, .mv (.tmp 5)⟩,
    ⟨(some 7), none, .mv (.tmp 0)⟩,
    ⟨(some 8), none, .lens (.tmp 7)⟩,
    ⟨(some 9), none, .bin .lss (.tmp 6) (.tmp 8)⟩])
  (.cond (.tmp 9) (.skip) (.exit 0)))
  (.seq (.block 1 (.seq (.seq (.ops [⟨(some 12), none, .mv (.tmp 0)⟩,
    ⟨(some 13), none, .mv (.tmp 5)⟩,
    ⟨(some 14), none, .ia 1 (.tmp 12) (.tmp 13)⟩,
    ⟨(some 15), none, .load none (.tmp 14)⟩,
    ⟨(some 16), none, .mv (.tmp 1)⟩,
    ⟨(some 17), none, .bin .neq (.tmp 15) (.tmp 16)⟩])
  (.cond (.tmp 17) (.seq (.ops [⟨(some 4), none, .mv (.const (.int .i64 (-1)))⟩])
  (.ret)) (.skip)))
  (.kept [0, 1, 5] (.ops [⟨(some 18), none, .mv (.tmp 1)⟩,
    ⟨(some 19), none, .bin .add (.tmp 18) (.const (.int .i64 1))⟩,
    ⟨(some 1), none, .mv (.tmp 19)⟩]))))
  (.kept [0, 1, 5] (.ops [⟨(some 10), none, .mv (.tmp 5)⟩,
    ⟨(some 11), none, .bin .add (.tmp 10) (.const (.int .i64 1))⟩,
    ⟨(some 5), none, .mv (.tmp 11)⟩])))
def c_laws_heldIntS : AS :=
  .seq (.ops [⟨(some 4), none, .mv (.const (.int .i64 0))⟩])
  (.seq (.seq (.ops [⟨(some 5), none, .mv (.const (.int .i64 0))⟩])
  (.block 0 (.loop 2 [(0, 0), (1, 0), (5, 0)] c_laws_heldIntS_l1)))
  (.kept [1] (.seq (.ops [⟨(some 20), none, .mv (.tmp 1)⟩,
    ⟨(some 4), none, .mv (.tmp 20)⟩])
  (.ret))))
theorem h_laws_heldIntS : (Try.prog.funcs[n_laws_heldIntS]?).bind (fun fn => fn.body.bind (comp Try.prog fn.ntmps)) = some (AS.strip c_laws_heldIntS) := by kernel_rfl
theorem r_laws_heldIntS : (Try.prog.funcs[n_laws_heldIntS]?).map (fun fn => (fn.results.toList, fn.ntmps)) = some ([.tmp 4], 21) := by kernel_rfl
-- 67 slices.Clone[[]loop.example/g00850/impl.Letter,loop.example/g00850/impl.Letter]
abbrev n_slices_Clone___impl_Letter_impl_Letter_ : Nat := 67
def c_slices_Clone___impl_Letter_impl_Letter_ : AS :=
  .seq (.ops [⟨(some 2), none, .mv (.const (.slice none 0 0))⟩])
  (.seq (.seq (.ops [⟨(some 3), none, .mv (.tmp 0)⟩,
    ⟨(some 4), none, .isn false (.tmp 3)⟩])
  (.cond (.tmp 4) (.seq (.ops [⟨(some 2), none, .mv (.const (.slice none 0 0))⟩])
  (.ret)) (.skip)))
  (.seq (.ops [⟨(some 5), none, .bsl 4 (.agg #[.int .i64 0, .int .i64 0, .int .i64 0, .string ⟨⟨[]⟩⟩]) 0 []⟩,
    ⟨(some 6), none, .mv (.tmp 0)⟩,
    ⟨(some 7), none, .app 4 40 (.agg #[.int .i64 0, .int .i64 0, .int .i64 0, .string ⟨⟨[]⟩⟩]) (.tmp 5) (.tmp 6)⟩,
    ⟨(some 2), none, .mv (.tmp 7)⟩])
  (.ret)))
theorem h_slices_Clone___impl_Letter_impl_Letter_ : (Try.prog.funcs[n_slices_Clone___impl_Letter_impl_Letter_]?).bind (fun fn => fn.body.bind (comp Try.prog fn.ntmps)) = some (AS.strip c_slices_Clone___impl_Letter_impl_Letter_) := by kernel_rfl
theorem r_slices_Clone___impl_Letter_impl_Letter_ : (Try.prog.funcs[n_slices_Clone___impl_Letter_impl_Letter_]?).map (fun fn => (fn.results.toList, fn.ntmps)) = some ([.tmp 2], 8) := by kernel_rfl
-- 80 loop.example/g00850/impl.within
abbrev n_impl_within : Nat := 80
def c_impl_within : AS :=
  .seq (.ops [⟨(some 6), none, .mv (.const (.bool false))⟩])
  (.seq (.ops [⟨(some 7), none, .mv (.tmp 0)⟩,
    ⟨(some 8), none, .mv (.tmp 1)⟩,
    ⟨(some 9), none, .bin .geq (.tmp 7) (.tmp 8)⟩,
    ⟨(some 10), none, .mv (.tmp 9)⟩,
    ⟨(some 11), some (10, true), .mv (.tmp 0)⟩,
    ⟨(some 12), some (10, true), .mv (.tmp 2)⟩,
    ⟨(some 13), some (10, true), .bin .leq (.tmp 11) (.tmp 12)⟩,
    ⟨(some 14), none, .pick (.tmp 10) (.tmp 13) (.const (.bool false))⟩,
    ⟨(some 6), none, .mv (.tmp 14)⟩])
  (.ret))
theorem h_impl_within : (Try.prog.funcs[n_impl_within]?).bind (fun fn => fn.body.bind (comp Try.prog fn.ntmps)) = some (AS.strip c_impl_within) := by kernel_rfl
theorem r_impl_within : (Try.prog.funcs[n_impl_within]?).map (fun fn => (fn.results.toList, fn.ntmps)) = some ([.tmp 6], 15) := by kernel_rfl
-- 81 (loop.example/g00850/impl.Net).isNode
abbrev n_impl_Net_isNode : Nat := 81
def c_impl_Net_isNode : AS :=
  .seq (.ops [⟨(some 2), none, .box (.tmp 0)⟩,
    ⟨(some 4), none, .mv (.const (.bool false))⟩])
  (.seq (.ops [⟨(some 5), none, .mv (.tmp 1)⟩,
    ⟨(some 6), none, .fa 1 (.tmp 2)⟩,
    ⟨(some 7), none, .load none (.tmp 6)⟩,
    ⟨(some 8), none, .lens (.tmp 7)⟩,
    ⟨(some 9), none, .bin .sub (.tmp 8) (.const (.int .i64 1))⟩,
    ⟨(some 10), none, .call 80 [(.tmp 5), (.const (.int .i64 0)), (.tmp 9)]⟩,
    ⟨(some 4), none, .mv (.tmp 10)⟩])
  (.ret))
theorem h_impl_Net_isNode : (Try.prog.funcs[n_impl_Net_isNode]?).bind (fun fn => fn.body.bind (comp Try.prog fn.ntmps)) = some (AS.strip c_impl_Net_isNode) := by kernel_rfl
theorem r_impl_Net_isNode : (Try.prog.funcs[n_impl_Net_isNode]?).map (fun fn => (fn.results.toList, fn.ntmps)) = some ([.tmp 4], 11) := by kernel_rfl
-- 86 loop.example/g00850/spec.l1In
abbrev n_spec_l1In : Nat := 86
def c_spec_l1In : AS :=
  .seq (.ops [⟨(some 6), none, .mv (.const (.bool false))⟩])
  (.seq (.ops [⟨(some 7), none, .mv (.tmp 0)⟩,
    ⟨(some 8), none, .mv (.tmp 1)⟩,
    ⟨(some 9), none, .bin .geq (.tmp 7) (.tmp 8)⟩,
    ⟨(some 10), none, .mv (.tmp 9)⟩,
    ⟨(some 11), some (10, true), .mv (.tmp 0)⟩,
    ⟨(some 12), some (10, true), .mv (.tmp 2)⟩,
    ⟨(some 13), some (10, true), .bin .leq (.tmp 11) (.tmp 12)⟩,
    ⟨(some 14), none, .pick (.tmp 10) (.tmp 13) (.const (.bool false))⟩,
    ⟨(some 6), none, .mv (.tmp 14)⟩])
  (.ret))
theorem h_spec_l1In : (Try.prog.funcs[n_spec_l1In]?).bind (fun fn => fn.body.bind (comp Try.prog fn.ntmps)) = some (AS.strip c_spec_l1In) := by kernel_rfl
theorem r_spec_l1In : (Try.prog.funcs[n_spec_l1In]?).map (fun fn => (fn.results.toList, fn.ntmps)) = some ([.tmp 6], 15) := by kernel_rfl
-- 93 loop.example/g00850/impl.isTrue
abbrev n_impl_isTrue : Nat := 93
def c_impl_isTrue : AS :=
  .seq (.ops [⟨(some 2), none, .mv (.const (.bool false))⟩])
  (.seq (.ops [⟨(some 3), none, .mv (.tmp 0)⟩,
    ⟨(some 4), none, .call 80 [(.tmp 3), (.const (.int .i64 0)), (.const (.int .i64 100000))]⟩,
    ⟨(some 2), none, .mv (.tmp 4)⟩])
  (.ret))
theorem h_impl_isTrue : (Try.prog.funcs[n_impl_isTrue]?).bind (fun fn => fn.body.bind (comp Try.prog fn.ntmps)) = some (AS.strip c_impl_isTrue) := by kernel_rfl
theorem r_impl_isTrue : (Try.prog.funcs[n_impl_isTrue]?).map (fun fn => (fn.results.toList, fn.ntmps)) = some ([.tmp 2], 5) := by kernel_rfl
-- 98 loop.example/g00850/laws.szLetter
abbrev n_laws_szLetter : Nat := 98
def c_laws_szLetter : AS :=
  .seq (.ops [⟨(some 2), none, .box (.tmp 0)⟩,
    ⟨(some 4), none, .mv (.const (.int .i64 0))⟩])
  (.seq (.ops [⟨(some 5), none, .mv (.tmp 1)⟩,
    ⟨(some 6), none, .fa 3 (.tmp 2)⟩,
    ⟨(some 7), none, .load none (.tmp 6)⟩,
    ⟨(some 8), none, .lent (.tmp 7)⟩,
    ⟨(some 9), none, .bin .sub (.tmp 5) (.tmp 8)⟩,
    ⟨(some 1), none, .mv (.tmp 9)⟩])
  (.seq (.seq (.ops [⟨(some 10), none, .mv (.tmp 1)⟩,
    ⟨(some 11), none, .bin .lss (.tmp 10) (.const (.int .i64 0))⟩])
  (.cond (.tmp 11) (.seq (.ops [⟨(some 4), none, .mv (.const (.int .i64 (-1)))⟩])
  (.ret)) (.skip)))
  (.seq (.ops [⟨(some 12), none, .mv (.tmp 1)⟩,
    ⟨(some 4), none, .mv (.tmp 12)⟩])
  (.ret))))
theorem h_laws_szLetter : (Try.prog.funcs[n_laws_szLetter]?).bind (fun fn => fn.body.bind (comp Try.prog fn.ntmps)) = some (AS.strip c_laws_szLetter) := by kernel_rfl
theorem r_laws_szLetter : (Try.prog.funcs[n_laws_szLetter]?).map (fun fn => (fn.results.toList, fn.ntmps)) = some ([.tmp 4], 13) := by kernel_rfl
-- 99 loop.example/g00850/spec.l1All
abbrev n_spec_l1All : Nat := 99
def c_spec_l1All_l1 : AS :=
  .seq (.ops [⟨(some 12), none, .bin .lss (.tmp 11) (.tmp 10)⟩])
  (.seq (.cond (.tmp 12) (.skip) (.exit 0))
  (.seq (.block 1 (.seq (.ops [⟨(some 13), none, .ia 1 (.tmp 9) (.tmp 11)⟩,
    ⟨(some 14), none, .load none (.tmp 13)⟩,
    ⟨(some 8), none, .mv (.tmp 14)⟩])
  (.seq (.ops [⟨(some 15), none, .mv (.tmp 8)⟩,
    ⟨(some 16), none, .mv (.tmp 1)⟩,
    ⟨(some 17), none, .mv (.tmp 2)⟩,
    ⟨(some 18), none, .call 86 [(.tmp 15), (.tmp 16), (.tmp 17)]⟩,
    ⟨(some 19), none, .not (.tmp 18)⟩])
  (.cond (.tmp 19) (.seq (.ops [⟨(some 6), none, .mv (.const (.bool false))⟩])
  (.ret)) (.skip)))))
  (.kept [1, 2, 9, 10, 11] (.ops [⟨(some 20), none, .bin .add (.tmp 11) (.const (.int .i64 1))⟩,
    ⟨(some 11), none, .mv (.tmp 20)⟩]))))
def c_spec_l1All : AS :=
  .seq (.ops [⟨(some 6), none, .mv (.const (.bool false))⟩])
  (.seq (.seq (.ops [⟨(some 9), none, .mv (.tmp 0)⟩,
    ⟨(some 10), none, .lens (.tmp 9)⟩,
    ⟨(some 11), none, .mv (.const (.int .i64 0))⟩])
  (.block 0 (.loop 3 [(1, 0), (2, 0), (9, 0), (10, 0), (11, 0)] c_spec_l1All_l1)))
  (.kept [] (.seq (.ops [⟨(some 6), none, .mv (.const (.bool true))⟩])
  (.ret))))
theorem h_spec_l1All : (Try.prog.funcs[n_spec_l1All]?).bind (fun fn => fn.body.bind (comp Try.prog fn.ntmps)) = some (AS.strip c_spec_l1All) := by kernel_rfl
theorem r_spec_l1All : (Try.prog.funcs[n_spec_l1All]?).map (fun fn => (fn.results.toList, fn.ntmps)) = some ([.tmp 6], 21) := by kernel_rfl
-- 100 loop.example/g00850/spec.l7Node
abbrev n_spec_l7Node : Nat := 100
def c_spec_l7Node : AS :=
  .seq (.ops [⟨(some 2), none, .box (.tmp 0)⟩,
    ⟨(some 4), none, .mv (.const (.bool false))⟩])
  (.seq (.ops [⟨(some 5), none, .mv (.tmp 1)⟩,
    ⟨(some 6), none, .fa 1 (.tmp 2)⟩,
    ⟨(some 7), none, .load none (.tmp 6)⟩,
    ⟨(some 8), none, .lens (.tmp 7)⟩,
    ⟨(some 9), none, .bin .sub (.tmp 8) (.const (.int .i64 1))⟩,
    ⟨(some 10), none, .call 86 [(.tmp 5), (.const (.int .i64 0)), (.tmp 9)]⟩,
    ⟨(some 4), none, .mv (.tmp 10)⟩])
  (.ret))
theorem h_spec_l7Node : (Try.prog.funcs[n_spec_l7Node]?).bind (fun fn => fn.body.bind (comp Try.prog fn.ntmps)) = some (AS.strip c_spec_l7Node) := by kernel_rfl
theorem r_spec_l7Node : (Try.prog.funcs[n_spec_l7Node]?).map (fun fn => (fn.results.toList, fn.ntmps)) = some ([.tmp 4], 11) := by kernel_rfl
-- 101 loop.example/g00850/spec.l1Own
abbrev n_spec_l1Own : Nat := 101
def c_spec_l1Own : AS :=
  .seq (.ops [⟨(some 2), none, .mv (.const (.slice none 0 0))⟩])
  (.seq (.ops [⟨(some 3), none, .bsl 1 (.int .i64 0) 0 []⟩,
    ⟨(some 4), none, .mv (.tmp 0)⟩,
    ⟨(some 5), none, .app 1 8 (.int .i64 0) (.tmp 3) (.tmp 4)⟩,
    ⟨(some 2), none, .mv (.tmp 5)⟩])
  (.ret))
theorem h_spec_l1Own : (Try.prog.funcs[n_spec_l1Own]?).bind (fun fn => fn.body.bind (comp Try.prog fn.ntmps)) = some (AS.strip c_spec_l1Own) := by kernel_rfl
theorem r_spec_l1Own : (Try.prog.funcs[n_spec_l1Own]?).map (fun fn => (fn.results.toList, fn.ntmps)) = some ([.tmp 2], 6) := by kernel_rfl
-- 102 loop.example/g00850/laws.toLetter
abbrev n_laws_toLetter : Nat := 102
def c_laws_toLetter : AS :=
  .seq (.ops [⟨(some 1), none, .box (.tmp 0)⟩,
    ⟨(some 2), none, .alloc (.agg #[.int .i64 0, .int .i64 0, .int .i64 0, .string ⟨⟨[]⟩⟩])⟩])
  (.seq (.ops [⟨(some 3), none, .alloc (.agg #[.int .i64 0, .int .i64 0, .int .i64 0, .string ⟨⟨[]⟩⟩])⟩])
  (.seq (.ops [⟨(some 4), none, .fa 0 (.tmp 1)⟩,
    ⟨(some 5), none, .load none (.tmp 4)⟩,
    ⟨(some 6), none, .fa 0 (.tmp 3)⟩,
    ⟨none, none, .store 1 (.tmp 6) (.tmp 5)⟩])
  (.seq (.ops [⟨(some 7), none, .fa 1 (.tmp 1)⟩,
    ⟨(some 8), none, .load none (.tmp 7)⟩,
    ⟨(some 9), none, .fa 1 (.tmp 3)⟩,
    ⟨none, none, .store 1 (.tmp 9) (.tmp 8)⟩])
  (.seq (.ops [⟨(some 10), none, .fa 2 (.tmp 1)⟩,
    ⟨(some 11), none, .load none (.tmp 10)⟩,
    ⟨(some 12), none, .fa 2 (.tmp 3)⟩,
    ⟨none, none, .store 1 (.tmp 12) (.tmp 11)⟩])
  (.seq (.ops [⟨(some 13), none, .fa 3 (.tmp 1)⟩,
    ⟨(some 14), none, .load none (.tmp 13)⟩,
    ⟨(some 15), none, .fa 3 (.tmp 3)⟩,
    ⟨none, none, .store 1 (.tmp 15) (.tmp 14)⟩])
  (.seq (.ops [⟨(some 16), none, .load (some 4) (.tmp 3)⟩,
    ⟨none, none, .store 4 (.tmp 2) (.tmp 16)⟩])
  (.ret)))))))
theorem h_laws_toLetter : (Try.prog.funcs[n_laws_toLetter]?).bind (fun fn => fn.body.bind (comp Try.prog fn.ntmps)) = some (AS.strip c_laws_toLetter) := by kernel_rfl
theorem r_laws_toLetter : (Try.prog.funcs[n_laws_toLetter]?).map (fun fn => (fn.results.toList, fn.ntmps)) = some ([.cell 2 87], 17) := by kernel_rfl
-- 103 loop.example/g00850/impl.areHomes
abbrev n_impl_areHomes : Nat := 103
def c_impl_areHomes : AS :=
  .seq (.ops [⟨(some 4), none, .mv (.const (.bool false))⟩])
  (.seq (.ops [⟨(some 5), none, .mv (.tmp 0)⟩,
    ⟨(some 6), none, .lens (.tmp 5)⟩,
    ⟨(some 7), none, .call 80 [(.tmp 6), (.const (.int .i64 1)), (.const (.int .i64 5))]⟩,
    ⟨(some 8), none, .mv (.tmp 7)⟩,
    ⟨(some 9), some (8, true), .mv (.tmp 0)⟩,
    ⟨(some 10), some (8, true), .call 128 [(.tmp 9), (.func 129)]⟩,
    ⟨(some 11), some (8, true), .not (.tmp 10)⟩,
    ⟨(some 12), none, .pick (.tmp 8) (.tmp 11) (.const (.bool false))⟩,
    ⟨(some 13), none, .mv (.tmp 12)⟩,
    ⟨(some 14), some (13, true), .mv (.tmp 1)⟩,
    ⟨(some 15), some (13, true), .call 80 [(.tmp 14), (.const (.int .i64 0)), (.const (.int .i64 20))]⟩,
    ⟨(some 16), none, .pick (.tmp 13) (.tmp 15) (.const (.bool false))⟩,
    ⟨(some 4), none, .mv (.tmp 16)⟩])
  (.ret))
theorem h_impl_areHomes : (Try.prog.funcs[n_impl_areHomes]?).bind (fun fn => fn.body.bind (comp Try.prog fn.ntmps)) = some (AS.strip c_impl_areHomes) := by kernel_rfl
theorem r_impl_areHomes : (Try.prog.funcs[n_impl_areHomes]?).map (fun fn => (fn.results.toList, fn.ntmps)) = some ([.tmp 4], 17) := by kernel_rfl
-- 104 (loop.example/g00850/impl.Net).isLetter
abbrev n_impl_Net_isLetter : Nat := 104
def c_impl_Net_isLetter : AS :=
  .seq (.ops [⟨(some 2), none, .box (.tmp 0)⟩,
    ⟨(some 3), none, .box (.tmp 1)⟩,
    ⟨(some 4), none, .mv (.const (.bool false))⟩])
  (.seq (.ops [⟨(some 5), none, .load (some 4) (.tmp 2)⟩,
    ⟨(some 6), none, .fa 0 (.tmp 3)⟩,
    ⟨(some 7), none, .load none (.tmp 6)⟩,
    ⟨(some 8), none, .call 81 [(.tmp 5), (.tmp 7)]⟩,
    ⟨(some 9), none, .mv (.tmp 8)⟩,
    ⟨(some 10), some (9, true), .load (some 4) (.tmp 2)⟩,
    ⟨(some 11), some (9, true), .fa 1 (.tmp 3)⟩,
    ⟨(some 12), some (9, true), .load none (.tmp 11)⟩,
    ⟨(some 13), some (9, true), .call 81 [(.tmp 10), (.tmp 12)]⟩,
    ⟨(some 14), none, .pick (.tmp 9) (.tmp 13) (.const (.bool false))⟩,
    ⟨(some 15), none, .mv (.tmp 14)⟩,
    ⟨(some 16), some (15, true), .fa 0 (.tmp 3)⟩,
    ⟨(some 17), some (15, true), .load none (.tmp 16)⟩,
    ⟨(some 18), some (15, true), .fa 1 (.tmp 3)⟩,
    ⟨(some 19), some (15, true), .load none (.tmp 18)⟩,
    ⟨(some 20), some (15, true), .bin .neq (.tmp 17) (.tmp 19)⟩,
    ⟨(some 21), none, .pick (.tmp 15) (.tmp 20) (.const (.bool false))⟩,
    ⟨(some 22), none, .mv (.tmp 21)⟩,
    ⟨(some 23), some (22, true), .fa 2 (.tmp 3)⟩,
    ⟨(some 24), some (22, true), .load none (.tmp 23)⟩,
    ⟨(some 25), some (22, true), .call 80 [(.tmp 24), (.const (.int .i64 0)), (.const (.int .i64 100200))]⟩,
    ⟨(some 26), none, .pick (.tmp 22) (.tmp 25) (.const (.bool false))⟩,
    ⟨(some 27), none, .mv (.tmp 26)⟩,
    ⟨(some 28), some (27, true), .fa 3 (.tmp 3)⟩,
    ⟨(some 29), some (27, true), .load none (.tmp 28)⟩,
    ⟨(some 30), some (27, true), .lent (.tmp 29)⟩,
    ⟨(some 31), some (27, true), .call 80 [(.tmp 30), (.const (.int .i64 1)), (.const (.int .i64 40))]⟩,
    ⟨(some 32), none, .pick (.tmp 27) (.tmp 31) (.const (.bool false))⟩,
    ⟨(some 4), none, .mv (.tmp 32)⟩])
  (.ret))
theorem h_impl_Net_isLetter : (Try.prog.funcs[n_impl_Net_isLetter]?).bind (fun fn => fn.body.bind (comp Try.prog fn.ntmps)) = some (AS.strip c_impl_Net_isLetter) := by kernel_rfl
theorem r_impl_Net_isLetter : (Try.prog.funcs[n_impl_Net_isLetter]?).map (fun fn => (fn.results.toList, fn.ntmps)) = some ([.tmp 4], 33) := by kernel_rfl
-- 105 slices.IndexFunc[[]loop.example/g00850/impl.Letter,loop.example/g00850/impl.Letter]
abbrev n_slices_IndexFunc___impl_Letter_impl_Letter_ : Nat := 105
def c_slices_IndexFunc___impl_Letter_impl_Letter__l1 : AS :=
  .seq (.ops [⟨(some 9), none, .bin .lss (.tmp 8) (.tmp 7)⟩])
  (.seq (.cond (.tmp 9) (.skip) (.exit 0))
  (.seq (.block 1 (.seq (.ops [⟨(some 10), none, .mv (.tmp 8)⟩,
    ⟨(some 5), none, .mv (.tmp 10)⟩])
  (.seq (.ops [⟨(some 11), none, .mv (.tmp 1)⟩,
    ⟨(some 12), none, .mv (.tmp 0)⟩,
    ⟨(some 13), none, .mv (.tmp 5)⟩,
    ⟨(some 14), none, .ia 4 (.tmp 12) (.tmp 13)⟩,
    ⟨(some 15), none, .load (some 4) (.tmp 14)⟩,
    ⟨(some 16), none, .callv (.tmp 11) [(.tmp 15)]⟩])
  (.cond (.tmp 16) (.seq (.ops [⟨(some 17), none, .mv (.tmp 5)⟩,
    ⟨(some 4), none, .mv (.tmp 17)⟩])
  (.ret)) (.skip)))))
  (.kept [0, 1, 7, 8] (.ops [⟨(some 18), none, .bin .add (.tmp 8) (.const (.int .i64 1))⟩,
    ⟨(some 8), none, .mv (.tmp 18)⟩]))))
def c_slices_IndexFunc___impl_Letter_impl_Letter_ : AS :=
  .seq (.ops [⟨(some 4), none, .mv (.const (.int .i64 0))⟩])
  (.seq (.seq (.ops [⟨(some 6), none, .mv (.tmp 0)⟩,
    ⟨(some 7), none, .lens (.tmp 6)⟩,
    ⟨(some 8), none, .mv (.const (.int .i64 0))⟩])
  (.block 0 (.loop 2 [(0, 0), (1, 0), (7, 0), (8, 0)] c_slices_IndexFunc___impl_Letter_impl_Letter__l1)))
  (.kept [] (.seq (.ops [⟨(some 4), none, .mv (.const (.int .i64 (-1)))⟩])
  (.ret))))
theorem h_slices_IndexFunc___impl_Letter_impl_Letter_ : (Try.prog.funcs[n_slices_IndexFunc___impl_Letter_impl_Letter_]?).bind (fun fn => fn.body.bind (comp Try.prog fn.ntmps)) = some (AS.strip c_slices_IndexFunc___impl_Letter_impl_Letter_) := by kernel_rfl
theorem r_slices_IndexFunc___impl_Letter_impl_Letter_ : (Try.prog.funcs[n_slices_IndexFunc___impl_Letter_impl_Letter_]?).map (fun fn => (fn.results.toList, fn.ntmps)) = some ([.tmp 4], 19) := by kernel_rfl
-- 106 (loop.example/g00850/impl.Net).delivered$1
abbrev n_impl_Net_delivered_1 : Nat := 106
def c_impl_Net_delivered_1 : AS :=
  .seq (.ops [⟨(some 2), none, .box (.tmp 0)⟩,
    ⟨(some 3), none, .mv (.const (.bool false))⟩])
  (.seq (.ops [⟨(some 4), none, .fa 2 (.tmp 2)⟩,
    ⟨(some 5), none, .load none (.tmp 4)⟩,
    ⟨(some 6), none, .fa 0 (.tmp 1)⟩,
    ⟨(some 7), none, .load none (.tmp 6)⟩,
    ⟨(some 8), none, .bin .gtr (.tmp 5) (.tmp 7)⟩,
    ⟨(some 3), none, .mv (.tmp 8)⟩])
  (.ret))
theorem h_impl_Net_delivered_1 : (Try.prog.funcs[n_impl_Net_delivered_1]?).bind (fun fn => fn.body.bind (comp Try.prog fn.ntmps)) = some (AS.strip c_impl_Net_delivered_1) := by kernel_rfl
theorem r_impl_Net_delivered_1 : (Try.prog.funcs[n_impl_Net_delivered_1]?).map (fun fn => (fn.results.toList, fn.ntmps)) = some ([.tmp 3], 9) := by kernel_rfl
-- 107 loop.example/g00850/impl.copyNet
abbrev n_impl_copyNet : Nat := 107
def c_impl_copyNet : AS :=
  .seq (.ops [⟨(some 1), none, .box (.tmp 0)⟩,
    ⟨(some 2), none, .alloc (.agg #[.int .i64 0, .slice none 0 0, .int .i64 0, .slice none 0 0])⟩])
  (.seq (.ops [⟨(some 3), none, .fa 1 (.tmp 1)⟩,
    ⟨(some 4), none, .load none (.tmp 3)⟩,
    ⟨(some 5), none, .call 130 [(.tmp 4)]⟩,
    ⟨(some 6), none, .fa 1 (.tmp 1)⟩,
    ⟨none, none, .store 1 (.tmp 6) (.tmp 5)⟩])
  (.seq (.ops [⟨(some 7), none, .fa 3 (.tmp 1)⟩,
    ⟨(some 8), none, .load none (.tmp 7)⟩,
    ⟨(some 9), none, .call 67 [(.tmp 8)]⟩,
    ⟨(some 10), none, .fa 3 (.tmp 1)⟩,
    ⟨none, none, .store 1 (.tmp 10) (.tmp 9)⟩])
  (.seq (.ops [⟨(some 11), none, .load (some 4) (.tmp 1)⟩,
    ⟨none, none, .store 4 (.tmp 2) (.tmp 11)⟩])
  (.ret))))
theorem h_impl_copyNet : (Try.prog.funcs[n_impl_copyNet]?).bind (fun fn => fn.body.bind (comp Try.prog fn.ntmps)) = some (AS.strip c_impl_copyNet) := by kernel_rfl
theorem r_impl_copyNet : (Try.prog.funcs[n_impl_copyNet]?).map (fun fn => (fn.results.toList, fn.ntmps)) = some ([.cell 2 43], 12) := by kernel_rfl
-- 128 slices.ContainsFunc[[]int,int]
abbrev n_slices_ContainsFunc___int_int_ : Nat := 128
def c_slices_ContainsFunc___int_int_ : AS :=
  .seq (.ops [⟨(some 4), none, .mv (.const (.bool false))⟩])
  (.seq (.ops [⟨(some 5), none, .mv (.tmp 0)⟩,
    ⟨(some 6), none, .mv (.tmp 1)⟩,
    ⟨(some 7), none, .call 137 [(.tmp 5), (.tmp 6)]⟩,
    ⟨(some 8), none, .bin .geq (.tmp 7) (.const (.int .i64 0))⟩,
    ⟨(some 4), none, .mv (.tmp 8)⟩])
  (.ret))
theorem h_slices_ContainsFunc___int_int_ : (Try.prog.funcs[n_slices_ContainsFunc___int_int_]?).bind (fun fn => fn.body.bind (comp Try.prog fn.ntmps)) = some (AS.strip c_slices_ContainsFunc___int_int_) := by kernel_rfl
theorem r_slices_ContainsFunc___int_int_ : (Try.prog.funcs[n_slices_ContainsFunc___int_int_]?).map (fun fn => (fn.results.toList, fn.ntmps)) = some ([.tmp 4], 9) := by kernel_rfl
-- 129 loop.example/g00850/impl.areHomes$1
abbrev n_impl_areHomes_1 : Nat := 129
def c_impl_areHomes_1 : AS :=
  .seq (.ops [⟨(some 2), none, .mv (.const (.bool false))⟩])
  (.seq (.ops [⟨(some 3), none, .mv (.tmp 0)⟩,
    ⟨(some 4), none, .call 80 [(.tmp 3), (.const (.int .i64 0)), (.const (.int .i64 2))]⟩,
    ⟨(some 5), none, .not (.tmp 4)⟩,
    ⟨(some 2), none, .mv (.tmp 5)⟩])
  (.ret))
theorem h_impl_areHomes_1 : (Try.prog.funcs[n_impl_areHomes_1]?).bind (fun fn => fn.body.bind (comp Try.prog fn.ntmps)) = some (AS.strip c_impl_areHomes_1) := by kernel_rfl
theorem r_impl_areHomes_1 : (Try.prog.funcs[n_impl_areHomes_1]?).map (fun fn => (fn.results.toList, fn.ntmps)) = some ([.tmp 2], 6) := by kernel_rfl
-- 130 slices.Clone[[]int,int]
abbrev n_slices_Clone___int_int_ : Nat := 130
def c_slices_Clone___int_int_ : AS :=
  .seq (.ops [⟨(some 2), none, .mv (.const (.slice none 0 0))⟩])
  (.seq (.seq (.ops [⟨(some 3), none, .mv (.tmp 0)⟩,
    ⟨(some 4), none, .isn false (.tmp 3)⟩])
  (.cond (.tmp 4) (.seq (.ops [⟨(some 2), none, .mv (.const (.slice none 0 0))⟩])
  (.ret)) (.skip)))
  (.seq (.ops [⟨(some 5), none, .bsl 1 (.int .i64 0) 0 []⟩,
    ⟨(some 6), none, .mv (.tmp 0)⟩,
    ⟨(some 7), none, .app 1 8 (.int .i64 0) (.tmp 5) (.tmp 6)⟩,
    ⟨(some 2), none, .mv (.tmp 7)⟩])
  (.ret)))
theorem h_slices_Clone___int_int_ : (Try.prog.funcs[n_slices_Clone___int_int_]?).bind (fun fn => fn.body.bind (comp Try.prog fn.ntmps)) = some (AS.strip c_slices_Clone___int_int_) := by kernel_rfl
theorem r_slices_Clone___int_int_ : (Try.prog.funcs[n_slices_Clone___int_int_]?).map (fun fn => (fn.results.toList, fn.ntmps)) = some ([.tmp 2], 8) := by kernel_rfl
-- 137 slices.IndexFunc[[]int,int]
abbrev n_slices_IndexFunc___int_int_ : Nat := 137
def c_slices_IndexFunc___int_int__l1 : AS :=
  .seq (.ops [⟨(some 9), none, .bin .lss (.tmp 8) (.tmp 7)⟩])
  (.seq (.cond (.tmp 9) (.skip) (.exit 0))
  (.seq (.block 1 (.seq (.ops [⟨(some 10), none, .mv (.tmp 8)⟩,
    ⟨(some 5), none, .mv (.tmp 10)⟩])
  (.seq (.ops [⟨(some 11), none, .mv (.tmp 1)⟩,
    ⟨(some 12), none, .mv (.tmp 0)⟩,
    ⟨(some 13), none, .mv (.tmp 5)⟩,
    ⟨(some 14), none, .ia 1 (.tmp 12) (.tmp 13)⟩,
    ⟨(some 15), none, .load none (.tmp 14)⟩,
    ⟨(some 16), none, .callv (.tmp 11) [(.tmp 15)]⟩])
  (.cond (.tmp 16) (.seq (.ops [⟨(some 17), none, .mv (.tmp 5)⟩,
    ⟨(some 4), none, .mv (.tmp 17)⟩])
  (.ret)) (.skip)))))
  (.kept [0, 1, 7, 8] (.ops [⟨(some 18), none, .bin .add (.tmp 8) (.const (.int .i64 1))⟩,
    ⟨(some 8), none, .mv (.tmp 18)⟩]))))
def c_slices_IndexFunc___int_int_ : AS :=
  .seq (.ops [⟨(some 4), none, .mv (.const (.int .i64 0))⟩])
  (.seq (.seq (.ops [⟨(some 6), none, .mv (.tmp 0)⟩,
    ⟨(some 7), none, .lens (.tmp 6)⟩,
    ⟨(some 8), none, .mv (.const (.int .i64 0))⟩])
  (.block 0 (.loop 2 [(0, 0), (1, 0), (7, 0), (8, 0)] c_slices_IndexFunc___int_int__l1)))
  (.kept [] (.seq (.ops [⟨(some 4), none, .mv (.const (.int .i64 (-1)))⟩])
  (.ret))))
theorem h_slices_IndexFunc___int_int_ : (Try.prog.funcs[n_slices_IndexFunc___int_int_]?).bind (fun fn => fn.body.bind (comp Try.prog fn.ntmps)) = some (AS.strip c_slices_IndexFunc___int_int_) := by kernel_rfl
theorem r_slices_IndexFunc___int_int_ : (Try.prog.funcs[n_slices_IndexFunc___int_int_]?).map (fun fn => (fn.results.toList, fn.ntmps)) = some ([.tmp 4], 19) := by kernel_rfl

end Go.Proofs.Wb

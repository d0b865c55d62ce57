/- The compiled statements of the functions that the law reaches. -/
import Derived.Test.YtjdnnijmpnokaaaProg
import Derived.Test.YtjdnnijmpnokaaaAmAuto
import Derived.Test.YtjdnnijmpnokaaaAmSet
namespace Go.Proofs.Wb
open Go Go.Am
@[go_sem] theorem w_7 : wide Try.prog 7 = some (some 4) := by kernel_rfl
@[go_sem] theorem w_8 : wide Try.prog 8 = some (some 4) := by kernel_rfl
@[go_sem] theorem w_13 : wide Try.prog 13 = some (some 2) := by kernel_rfl
@[go_sem] theorem w_14 : wide Try.prog 14 = some (some 2) := by kernel_rfl
@[go_sem] theorem w_18 : wide Try.prog 18 = some (some 1) := by kernel_rfl
@[go_sem] theorem w_19 : wide Try.prog 19 = some (some 1) := by kernel_rfl
@[go_sem] theorem w_27 : wide Try.prog 27 = some (some 4) := by kernel_rfl
@[go_sem] theorem w_28 : wide Try.prog 28 = some (some 4) := by kernel_rfl
@[go_sem] theorem w_39 : wide Try.prog 39 = some (some 4) := by kernel_rfl
@[go_sem] theorem w_40 : wide Try.prog 40 = some (some 4) := by kernel_rfl
@[go_sem] theorem w_66 : wide Try.prog 66 = some (some 4) := by kernel_rfl
@[go_sem] theorem w_67 : wide Try.prog 67 = some (some 4) := by kernel_rfl
@[go_sem] theorem w_79 : wide Try.prog 79 = some (some 11) := by kernel_rfl
@[go_sem] theorem w_80 : wide Try.prog 80 = some (some 11) := by kernel_rfl
-- 3 loop.example/g00850/laws.FnSent
abbrev n_laws_FnSent : Nat := 3
def c_laws_FnSent_l1 : AS :=
  .seq (.seq (.ops [⟨(some 35), none, .mv (.tmp 5)⟩,
    ⟨(some 36), none, .mv (.tmp 3)⟩,
    ⟨(some 37), none, .bin .lss (.tmp 35) (.tmp 36)⟩])
  (.cond (.tmp 37) (.skip) (.exit 0)))
  (.seq (.block 1 (.ops [⟨(some 40), none, .mv (.tmp 4)⟩,
    ⟨(some 41), none, .mv (.tmp 0)⟩,
    ⟨(some 42), none, .mv (.tmp 5)⟩,
    ⟨(some 43), none, .bin .add (.tmp 42) (.const (.int .i64 1))⟩,
    ⟨(some 44), none, .call 5 [(.tmp 41), (.tmp 43)]⟩,
    ⟨(some 45), none, .bin .rem (.tmp 44) (.const (.int .i64 3))⟩,
    ⟨(some 46), none, .bsl 1 (.int .i64 0) 1 [(0, (.tmp 45))]⟩,
    ⟨(some 47), none, .app 1 8 (.int .i64 0) (.tmp 40) (.tmp 46)⟩,
    ⟨(some 4), none, .mv (.tmp 47)⟩]))
  (.kept [0, 3, 4, 5] (.ops [⟨(some 38), none, .mv (.tmp 5)⟩,
    ⟨(some 39), none, .bin .add (.tmp 38) (.const (.int .i64 1))⟩,
    ⟨(some 5), none, .mv (.tmp 39)⟩])))
def c_laws_FnSent_l2 : AS :=
  .seq (.seq (.ops [⟨(some 162), none, .mv (.tmp 27)⟩,
    ⟨(some 163), none, .mv (.tmp 22)⟩,
    ⟨(some 164), none, .lens (.tmp 163)⟩,
    ⟨(some 165), none, .bin .lss (.tmp 162) (.tmp 164)⟩])
  (.cond (.tmp 165) (.skip) (.exit 4)))
  (.seq (.block 5 (.seq (.dops [⟨(some 168), none, .mv (.tmp 22)⟩,
    ⟨(some 169), none, .mv (.tmp 27)⟩,
    ⟨(some 170), none, .ia 4 (.tmp 168) (.tmp 169)⟩,
    ⟨(some 171), none, .fa 2 (.tmp 170)⟩,
    ⟨(some 172), none, .load none (.tmp 171)⟩,
    ⟨(some 173), none, .fa 0 (.tmp 6)⟩,
    ⟨(some 174), none, .load none (.tmp 173)⟩,
    ⟨(some 175), none, .bin .neq (.tmp 172) (.tmp 174)⟩])
  (.kept [0, 3, 6, 10, 11, 12, 21, 22, 27, 175] (.cond (.tmp 175) (.seq (.ops [⟨(some 2), none, .mv (.const (.bool false))⟩])
  (.ret)) (.skip)))))
  (.kept [0, 3, 6, 10, 11, 12, 21, 22, 27] (.ops [⟨(some 166), none, .mv (.tmp 27)⟩,
    ⟨(some 167), none, .bin .add (.tmp 166) (.const (.int .i64 1))⟩,
    ⟨(some 27), none, .mv (.tmp 167)⟩])))
def c_laws_FnSent_l3 : AS :=
  .seq (.seq (.ops [⟨(some 72), none, .mv (.tmp 12)⟩,
    ⟨(some 73), none, .bin .lss (.tmp 72) (.const (.int .i64 40))⟩])
  (.cond (.tmp 73) (.skip) (.exit 2)))
  (.seq (.block 3 (.seq (.rops [(none, ⟨(some 76), none, .mv (.tmp 0)⟩),
    (none, ⟨(some 77), none, .mv (.tmp 12)⟩),
    (none, ⟨(some 78), none, .bin .add (.tmp 77) (.const (.int .i64 8))⟩),
    (none, ⟨(some 80), none, .mv (.tmp 3)⟩),
    (none, ⟨(some 82), none, .mv (.tmp 0)⟩),
    (none, ⟨(some 83), none, .mv (.tmp 12)⟩),
    (none, ⟨(some 84), none, .bin .add (.tmp 83) (.const (.int .i64 9))⟩),
    (none, ⟨(some 86), none, .mv (.tmp 3)⟩),
    (some [⟨(some 86), none, .mv (.tmp 3)⟩, ⟨(some 84), none, .bin .add (.tmp 83) (.const (.int .i64 9))⟩, ⟨(some 83), none, .mv (.tmp 12)⟩, ⟨(some 82), none, .mv (.tmp 0)⟩, ⟨(some 80), none, .mv (.tmp 3)⟩], ⟨(some 79), none, .call 5 [(.tmp 76), (.tmp 78)]⟩),
    (none, ⟨(some 81), none, .bin .rem (.tmp 79) (.tmp 80)⟩),
    (some [⟨(some 81), none, .bin .rem (.tmp 79) (.tmp 80)⟩, ⟨(some 86), none, .mv (.tmp 3)⟩, ⟨(some 80), none, .mv (.tmp 3)⟩], ⟨(some 85), none, .call 5 [(.tmp 82), (.tmp 84)]⟩),
    (none, ⟨(some 87), none, .bin .rem (.tmp 85) (.tmp 86)⟩),
    (none, ⟨(some 13), none, .mv (.tmp 81)⟩),
    (none, ⟨(some 14), none, .mv (.tmp 87)⟩)])
  (.kept [0, 3, 6, 10, 11, 12, 13, 14] (.seq (.seq (.ops [⟨(some 88), none, .mv (.tmp 12)⟩,
    ⟨(some 89), none, .bin .lss (.tmp 88) (.const (.int .i64 20))⟩,
    ⟨(some 90), none, .mv (.tmp 89)⟩,
    ⟨(some 91), some (90, true), .mv (.tmp 13)⟩,
    ⟨(some 92), some (90, true), .mv (.tmp 14)⟩,
    ⟨(some 93), some (90, true), .bin .neq (.tmp 91) (.tmp 92)⟩,
    ⟨(some 94), none, .pick (.tmp 90) (.tmp 93) (.const (.bool false))⟩])
  (.kept [0, 3, 6, 10, 11, 12, 13, 14, 94] (.cond (.tmp 94) (.seq (.ops [⟨(some 96), none, .load (some 4) (.tmp 6)⟩,
    ⟨(some 97), none, .mv (.tmp 13)⟩,
    ⟨(some 98), none, .mv (.tmp 14)⟩,
    ⟨(some 99), none, .call 9 [(.tmp 96), (.tmp 97), (.tmp 98), (.const (.string ⟨⟨[108]⟩⟩))]⟩,
    ⟨(some 95), none, .mv (.tmp 99)⟩,
    ⟨(some 100), none, .ext 0 (.tmp 95)⟩,
    ⟨(some 101), none, .ext 1 (.tmp 95)⟩,
    ⟨(some 15), none, .alloc (.agg #[.int .i64 0, .slice none 0 0, .int .i64 0, .slice none 0 0])⟩,
    ⟨none, none, .store 4 (.tmp 15) (.tmp 100)⟩,
    ⟨(some 16), none, .mv (.tmp 101)⟩])
  (.kept [0, 3, 6, 10, 11, 12, 13, 14, 15, 16] (.seq (.ops [⟨(some 103), none, .load (some 4) (.tmp 6)⟩,
    ⟨(some 104), none, .mv (.tmp 13)⟩,
    ⟨(some 105), none, .mv (.tmp 14)⟩,
    ⟨(some 106), none, .call 10 [(.tmp 103), (.tmp 104), (.tmp 105)]⟩,
    ⟨(some 102), none, .mv (.tmp 106)⟩,
    ⟨(some 107), none, .ext 0 (.tmp 102)⟩,
    ⟨(some 108), none, .ext 1 (.tmp 102)⟩,
    ⟨(some 17), none, .mv (.tmp 107)⟩,
    ⟨(some 18), none, .mv (.tmp 108)⟩])
  (.kept [0, 3, 6, 10, 11, 12, 13, 14, 15, 16, 17] (.seq (.seq (.ops [⟨(some 110), none, .load (some 4) (.tmp 6)⟩,
    ⟨(some 111), none, .mv (.tmp 13)⟩,
    ⟨(some 112), none, .mv (.tmp 14)⟩,
    ⟨(some 113), none, .call 11 [(.tmp 110), (.tmp 111), (.tmp 112), (.const (.string ⟨⟨[108]⟩⟩))]⟩,
    ⟨(some 109), none, .mv (.tmp 113)⟩,
    ⟨(some 114), none, .ext 0 (.tmp 109)⟩,
    ⟨(some 115), none, .ext 1 (.tmp 109)⟩,
    ⟨(some 19), none, .alloc (.agg #[.int .i64 0, .slice none 0 0, .int .i64 0, .slice none 0 0])⟩,
    ⟨none, none, .store 4 (.tmp 19) (.tmp 114)⟩,
    ⟨(some 20), none, .mv (.tmp 115)⟩])
  (.kept [0, 3, 6, 10, 11, 12, 15, 16, 17, 19] (.seq (.ops [⟨(some 116), none, .mv (.tmp 16)⟩,
    ⟨(some 117), none, .not (.tmp 116)⟩,
    ⟨(some 118), none, .mv (.tmp 117)⟩,
    ⟨(some 119), some (118, false), .load (some 4) (.tmp 15)⟩,
    ⟨(some 120), some (118, false), .load (some 4) (.tmp 19)⟩,
    ⟨(some 121), some (118, false), .call 8 [(.tmp 119), (.tmp 120)]⟩,
    ⟨(some 122), some (118, false), .not (.tmp 121)⟩,
    ⟨(some 123), none, .pick (.tmp 118) (.const (.bool true)) (.tmp 122)⟩,
    ⟨(some 124), none, .mv (.tmp 123)⟩,
    ⟨(some 125), some (124, false), .mv (.tmp 17)⟩,
    ⟨(some 126), some (124, false), .bin .lss (.tmp 125) (.const (.int .i64 1))⟩,
    ⟨(some 127), none, .pick (.tmp 124) (.const (.bool true)) (.tmp 126)⟩])
  (.kept [0, 3, 6, 10, 11, 12, 15, 127] (.cond (.tmp 127) (.seq (.ops [⟨(some 2), none, .mv (.const (.bool false))⟩])
  (.ret)) (.skip))))))
  (.kept [0, 3, 6, 10, 11, 12, 15] (.seq (.ops [⟨(some 128), none, .load (some 4) (.tmp 15)⟩,
    ⟨none, none, .store 4 (.tmp 6) (.tmp 128)⟩])
  (.ops [⟨(some 129), none, .mv (.tmp 10)⟩,
    ⟨(some 130), none, .bin .add (.tmp 129) (.const (.int .i64 1))⟩,
    ⟨(some 10), none, .mv (.tmp 130)⟩])))))))) (.skip))))
  (.kept [0, 3, 6, 10, 11, 12] (.seq (.ops [⟨(some 132), none, .load (some 4) (.tmp 6)⟩,
    ⟨(some 133), none, .call 12 [(.tmp 132)]⟩,
    ⟨(some 131), none, .mv (.tmp 133)⟩,
    ⟨(some 134), none, .ext 0 (.tmp 131)⟩,
    ⟨(some 135), none, .ext 1 (.tmp 131)⟩,
    ⟨none, none, .store 4 (.tmp 6) (.tmp 134)⟩])
  (.seq (.ops [⟨(some 137), none, .load (some 4) (.tmp 6)⟩,
    ⟨(some 138), none, .call 13 [(.tmp 137)]⟩,
    ⟨(some 136), none, .mv (.tmp 138)⟩,
    ⟨(some 139), none, .ext 0 (.tmp 136)⟩,
    ⟨(some 140), none, .ext 1 (.tmp 136)⟩,
    ⟨(some 141), none, .ext 2 (.tmp 136)⟩,
    ⟨(some 21), none, .alloc (.agg #[.int .i64 0, .slice none 0 0, .int .i64 0, .slice none 0 0])⟩,
    ⟨none, none, .store 4 (.tmp 21) (.tmp 139)⟩,
    ⟨(some 22), none, .mv (.tmp 140)⟩,
    ⟨(some 23), none, .mv (.tmp 141)⟩])
  (.kept [0, 3, 6, 10, 11, 12, 21, 22, 23] (.seq (.seq (.ops [⟨(some 143), none, .load (some 4) (.tmp 6)⟩,
    ⟨(some 144), none, .call 14 [(.tmp 143)]⟩,
    ⟨(some 142), none, .mv (.tmp 144)⟩,
    ⟨(some 145), none, .ext 0 (.tmp 142)⟩,
    ⟨(some 146), none, .ext 1 (.tmp 142)⟩,
    ⟨(some 147), none, .ext 2 (.tmp 142)⟩,
    ⟨(some 24), none, .alloc (.agg #[.int .i64 0, .slice none 0 0, .int .i64 0, .slice none 0 0])⟩,
    ⟨none, none, .store 4 (.tmp 24) (.tmp 145)⟩,
    ⟨(some 25), none, .mv (.tmp 146)⟩,
    ⟨(some 26), none, .mv (.tmp 147)⟩])
  (.kept [0, 3, 6, 10, 11, 12, 21, 22, 23, 24, 25] (.seq (.ops [⟨(some 148), none, .mv (.tmp 23)⟩,
    ⟨(some 149), none, .not (.tmp 148)⟩,
    ⟨(some 150), none, .mv (.tmp 149)⟩,
    ⟨(some 151), some (150, false), .load (some 4) (.tmp 21)⟩,
    ⟨(some 152), some (150, false), .load (some 4) (.tmp 24)⟩,
    ⟨(some 153), some (150, false), .call 8 [(.tmp 151), (.tmp 152)]⟩,
    ⟨(some 154), some (150, false), .not (.tmp 153)⟩,
    ⟨(some 155), none, .pick (.tmp 150) (.const (.bool true)) (.tmp 154)⟩,
    ⟨(some 156), none, .mv (.tmp 155)⟩,
    ⟨(some 157), some (156, false), .mv (.tmp 22)⟩,
    ⟨(some 158), some (156, false), .mv (.tmp 25)⟩,
    ⟨(some 159), some (156, false), .call 15 [(.tmp 157), (.tmp 158)]⟩,
    ⟨(some 160), some (156, false), .not (.tmp 159)⟩,
    ⟨(some 161), none, .pick (.tmp 156) (.const (.bool true)) (.tmp 160)⟩])
  (.kept [0, 3, 6, 10, 11, 12, 21, 22, 161] (.cond (.tmp 161) (.seq (.ops [⟨(some 2), none, .mv (.const (.bool false))⟩])
  (.ret)) (.skip))))))
  (.kept [0, 3, 6, 10, 11, 12, 21, 22] (.seq (.seq (.ops [⟨(some 27), none, .mv (.const (.int .i64 0))⟩])
  (.block 4 (.loop 1 [(0, 0), (3, 0), (6, 0), (10, 0), (11, 0), (12, 0), (21, 0), (22, 0), (27, 0)] c_laws_FnSent_l2)))
  (.kept [0, 3, 6, 10, 11, 12, 21, 22] (.seq (.ops [⟨(some 176), none, .mv (.tmp 11)⟩,
    ⟨(some 177), none, .mv (.tmp 22)⟩,
    ⟨(some 178), none, .lens (.tmp 177)⟩,
    ⟨(some 179), none, .bin .add (.tmp 176) (.tmp 178)⟩,
    ⟨(some 11), none, .mv (.tmp 179)⟩])
  (.ops [⟨(some 180), none, .load (some 4) (.tmp 21)⟩,
    ⟨none, none, .store 4 (.tmp 6) (.tmp 180)⟩]))))))))))))))
  (.kept [0, 3, 6, 10, 11, 12] (.ops [⟨(some 74), none, .mv (.tmp 12)⟩,
    ⟨(some 75), none, .bin .add (.tmp 74) (.const (.int .i64 1))⟩,
    ⟨(some 12), none, .mv (.tmp 75)⟩])))
def c_laws_FnSent : AS :=
  .seq (.ops [⟨(some 2), none, .mv (.const (.bool false))⟩])
  (.seq (.seq (.ops [⟨(some 28), none, .mv (.tmp 0)⟩,
    ⟨(some 29), none, .call 4 [(.tmp 28)]⟩])
  (.cond (.tmp 29) (.seq (.ops [⟨(some 2), none, .mv (.const (.bool true))⟩])
  (.ret)) (.skip)))
  (.seq (.ops [⟨(some 30), none, .mv (.tmp 0)⟩,
    ⟨(some 31), none, .call 5 [(.tmp 30), (.const (.int .i64 0))]⟩,
    ⟨(some 32), none, .bin .rem (.tmp 31) (.const (.int .i64 4))⟩,
    ⟨(some 33), none, .bin .add (.const (.int .i64 2)) (.tmp 32)⟩,
    ⟨(some 3), none, .mv (.tmp 33)⟩])
  (.seq (.ops [⟨(some 34), none, .bsl 1 (.int .i64 0) 0 []⟩,
    ⟨(some 4), none, .mv (.tmp 34)⟩])
  (.seq (.seq (.ops [⟨(some 5), none, .mv (.const (.int .i64 0))⟩])
  (.block 0 (.loop 1 [(0, 0), (3, 0), (4, 1), (5, 0)] c_laws_FnSent_l1)))
  (.kept [0, 3, 4] (.seq (.ops [⟨(some 49), none, .mv (.tmp 4)⟩,
    ⟨(some 50), none, .mv (.tmp 0)⟩,
    ⟨(some 51), none, .call 5 [(.tmp 50), (.const (.int .i64 7))]⟩,
    ⟨(some 52), none, .bin .rem (.tmp 51) (.const (.int .i64 6))⟩,
    ⟨(some 53), none, .call 6 [(.tmp 49), (.tmp 52)]⟩,
    ⟨(some 48), none, .mv (.tmp 53)⟩,
    ⟨(some 54), none, .ext 0 (.tmp 48)⟩,
    ⟨(some 55), none, .ext 1 (.tmp 48)⟩,
    ⟨(some 6), none, .alloc (.agg #[.int .i64 0, .slice none 0 0, .int .i64 0, .slice none 0 0])⟩,
    ⟨none, none, .store 4 (.tmp 6) (.tmp 54)⟩,
    ⟨(some 7), none, .mv (.tmp 55)⟩])
  (.kept [0, 3, 4, 6, 7] (.seq (.seq (.ops [⟨(some 57), none, .mv (.tmp 4)⟩,
    ⟨(some 58), none, .mv (.tmp 0)⟩,
    ⟨(some 59), none, .call 5 [(.tmp 58), (.const (.int .i64 7))]⟩,
    ⟨(some 60), none, .bin .rem (.tmp 59) (.const (.int .i64 6))⟩,
    ⟨(some 61), none, .call 7 [(.tmp 57), (.tmp 60)]⟩,
    ⟨(some 56), none, .mv (.tmp 61)⟩,
    ⟨(some 62), none, .ext 0 (.tmp 56)⟩,
    ⟨(some 63), none, .ext 1 (.tmp 56)⟩,
    ⟨(some 8), none, .alloc (.agg #[.int .i64 0, .slice none 0 0, .int .i64 0, .slice none 0 0])⟩,
    ⟨none, none, .store 4 (.tmp 8) (.tmp 62)⟩,
    ⟨(some 9), none, .mv (.tmp 63)⟩])
  (.kept [0, 3, 6, 7, 8] (.seq (.ops [⟨(some 64), none, .mv (.tmp 7)⟩,
    ⟨(some 65), none, .not (.tmp 64)⟩,
    ⟨(some 66), none, .mv (.tmp 65)⟩,
    ⟨(some 67), some (66, false), .load (some 4) (.tmp 6)⟩,
    ⟨(some 68), some (66, false), .load (some 4) (.tmp 8)⟩,
    ⟨(some 69), some (66, false), .call 8 [(.tmp 67), (.tmp 68)]⟩,
    ⟨(some 70), some (66, false), .not (.tmp 69)⟩,
    ⟨(some 71), none, .pick (.tmp 66) (.const (.bool true)) (.tmp 70)⟩])
  (.kept [0, 3, 6, 71] (.cond (.tmp 71) (.seq (.ops [⟨(some 2), none, .mv (.const (.bool false))⟩])
  (.ret)) (.skip))))))
  (.kept [0, 3, 6] (.seq (.ops [⟨(some 10), none, .mv (.const (.int .i64 0))⟩,
    ⟨(some 11), none, .mv (.const (.int .i64 0))⟩])
  (.seq (.seq (.ops [⟨(some 12), none, .mv (.const (.int .i64 0))⟩])
  (.block 2 (.loop 1 [(0, 0), (3, 0), (6, 0), (10, 0), (11, 0), (12, 0)] c_laws_FnSent_l3)))
  (.kept [6, 10, 11] (.seq (.ops [⟨(some 181), none, .mv (.tmp 11)⟩,
    ⟨(some 182), none, .mv (.tmp 10)⟩,
    ⟨(some 183), none, .bin .eql (.tmp 181) (.tmp 182)⟩,
    ⟨(some 184), none, .mv (.tmp 183)⟩,
    ⟨(some 185), some (184, true), .fa 3 (.tmp 6)⟩,
    ⟨(some 186), some (184, true), .load none (.tmp 185)⟩,
    ⟨(some 187), some (184, true), .lens (.tmp 186)⟩,
    ⟨(some 188), some (184, true), .bin .eql (.tmp 187) (.const (.int .i64 0))⟩,
    ⟨(some 189), none, .pick (.tmp 184) (.tmp 188) (.const (.bool false))⟩,
    ⟨(some 2), none, .mv (.tmp 189)⟩])
  (.ret))))))))))))))
theorem h_laws_FnSent : (Try.prog.funcs[n_laws_FnSent]?).bind (fun fn => fn.body.bind (comp Try.prog fn.ntmps)) = some (AS.strip c_laws_FnSent) := by kernel_rfl
theorem r_laws_FnSent : (Try.prog.funcs[n_laws_FnSent]?).map (fun fn => (fn.results.toList, fn.ntmps)) = some ([.tmp 2], 190) := by kernel_rfl
-- 4 loop.example/g00850/laws.vBig
abbrev n_laws_vBig : Nat := 4
def c_laws_vBig : AS :=
  .seq (.ops [⟨(some 2), none, .mv (.const (.bool false))⟩])
  (.seq (.ops [⟨(some 3), none, .mv (.tmp 0)⟩,
    ⟨(some 4), none, .lens (.tmp 3)⟩,
    ⟨(some 5), none, .bin .gtr (.tmp 4) (.const (.int .i64 65536))⟩,
    ⟨(some 2), none, .mv (.tmp 5)⟩])
  (.ret))
theorem h_laws_vBig : (Try.prog.funcs[n_laws_vBig]?).bind (fun fn => fn.body.bind (comp Try.prog fn.ntmps)) = some (AS.strip c_laws_vBig) := by kernel_rfl
theorem r_laws_vBig : (Try.prog.funcs[n_laws_vBig]?).map (fun fn => (fn.results.toList, fn.ntmps)) = some ([.tmp 2], 6) := by kernel_rfl
-- 5 loop.example/g00850/laws.vAt
abbrev n_laws_vAt : Nat := 5
def c_laws_vAt : AS :=
  .seq (.ops [⟨(some 4), none, .mv (.const (.int .i64 0))⟩])
  (.seq (.seq (.ops [⟨(some 5), none, .mv (.tmp 1)⟩,
    ⟨(some 6), none, .mv (.tmp 0)⟩,
    ⟨(some 7), none, .lens (.tmp 6)⟩,
    ⟨(some 8), none, .bin .lss (.tmp 5) (.tmp 7)⟩])
  (.cond (.tmp 8) (.seq (.ops [⟨(some 9), none, .mv (.tmp 0)⟩,
    ⟨(some 10), none, .mv (.tmp 1)⟩,
    ⟨(some 11), none, .ia 1 (.tmp 9) (.tmp 10)⟩,
    ⟨(some 12), none, .load none (.tmp 11)⟩,
    ⟨(some 13), none, .cvi .i64 (.tmp 12)⟩,
    ⟨(some 4), none, .mv (.tmp 13)⟩])
  (.ret)) (.skip)))
  (.kept [0, 1] (.seq (.ops [⟨(some 14), none, .mv (.tmp 1)⟩,
    ⟨(some 15), none, .bin .mul (.tmp 14) (.const (.int .i64 7))⟩,
    ⟨(some 16), none, .mv (.tmp 0)⟩,
    ⟨(some 17), none, .lens (.tmp 16)⟩,
    ⟨(some 18), none, .bin .add (.tmp 15) (.tmp 17)⟩,
    ⟨(some 19), none, .bin .rem (.tmp 18) (.const (.int .i64 256))⟩,
    ⟨(some 4), none, .mv (.tmp 19)⟩])
  (.ret))))
theorem h_laws_vAt : (Try.prog.funcs[n_laws_vAt]?).bind (fun fn => fn.body.bind (comp Try.prog fn.ntmps)) = some (AS.strip c_laws_vAt) := by kernel_rfl
theorem r_laws_vAt : (Try.prog.funcs[n_laws_vAt]?).map (fun fn => (fn.results.toList, fn.ntmps)) = some ([.tmp 4], 20) := by kernel_rfl
-- 6 loop.example/g00850/impl.NewNet
abbrev n_impl_NewNet : Nat := 6
def c_impl_NewNet : AS :=
  .seq (.ops [⟨(some 4), none, .alloc (.agg #[.int .i64 0, .slice none 0 0, .int .i64 0, .slice none 0 0])⟩,
    ⟨(some 5), none, .mv (.const (.bool false))⟩])
  (.seq (.seq (.ops [⟨(some 6), none, .mv (.tmp 0)⟩,
    ⟨(some 7), none, .mv (.tmp 1)⟩,
    ⟨(some 8), none, .call 16 [(.tmp 6), (.tmp 7)]⟩,
    ⟨(some 9), none, .not (.tmp 8)⟩])
  (.cond (.tmp 9) (.seq (.ops [⟨(some 10), none, .build (.agg #[.int .i64 0, .slice none 0 0, .int .i64 0, .slice none 0 0]) []⟩,
    ⟨none, none, .store 4 (.tmp 4) (.tmp 10)⟩,
    ⟨(some 5), none, .mv (.const (.bool false))⟩])
  (.ret)) (.skip)))
  (.kept [0, 1, 4] (.seq (.ops [⟨(some 11), none, .mv (.tmp 0)⟩,
    ⟨(some 12), none, .call 17 [(.tmp 11)]⟩,
    ⟨(some 13), none, .mv (.tmp 1)⟩,
    ⟨(some 14), none, .build (.agg #[.int .i64 0, .slice none 0 0, .int .i64 0, .slice none 0 0]) [(1, 1, (.tmp 12)), (2, 1, (.tmp 13))]⟩,
    ⟨none, none, .store 4 (.tmp 4) (.tmp 14)⟩,
    ⟨(some 5), none, .mv (.const (.bool true))⟩])
  (.ret))))
theorem h_impl_NewNet : (Try.prog.funcs[n_impl_NewNet]?).bind (fun fn => fn.body.bind (comp Try.prog fn.ntmps)) = some (AS.strip c_impl_NewNet) := by kernel_rfl
theorem r_impl_NewNet : (Try.prog.funcs[n_impl_NewNet]?).map (fun fn => (fn.results.toList, fn.ntmps)) = some ([.cell 4 28, .tmp 5], 15) := by kernel_rfl
-- 7 loop.example/g00850/spec.NewNet
abbrev n_spec_NewNet : Nat := 7
def c_spec_NewNet : AS :=
  .seq (.ops [⟨(some 4), none, .alloc (.agg #[.int .i64 0, .slice none 0 0, .int .i64 0, .slice none 0 0])⟩,
    ⟨(some 5), none, .mv (.const (.bool false))⟩])
  (.seq (.ops [⟨(some 7), none, .mv (.tmp 0)⟩,
    ⟨(some 8), none, .call 18 [(.tmp 7)]⟩,
    ⟨(some 9), none, .mv (.tmp 1)⟩,
    ⟨(some 10), none, .build (.agg #[.int .i64 0, .slice none 0 0, .int .i64 0, .slice none 0 0]) [(1, 1, (.tmp 8)), (2, 1, (.tmp 9))]⟩,
    ⟨(some 6), none, .alloc (.agg #[.int .i64 0, .slice none 0 0, .int .i64 0, .slice none 0 0])⟩,
    ⟨none, none, .store 4 (.tmp 6) (.tmp 10)⟩])
  (.seq (.seq (.ops [⟨(some 11), none, .load (some 4) (.tmp 6)⟩,
    ⟨(some 12), none, .call 19 [(.tmp 11)]⟩,
    ⟨(some 13), none, .not (.tmp 12)⟩])
  (.cond (.tmp 13) (.seq (.ops [⟨(some 14), none, .build (.agg #[.int .i64 0, .slice none 0 0, .int .i64 0, .slice none 0 0]) []⟩,
    ⟨none, none, .store 4 (.tmp 4) (.tmp 14)⟩,
    ⟨(some 5), none, .mv (.const (.bool false))⟩])
  (.ret)) (.skip)))
  (.seq (.ops [⟨(some 15), none, .load (some 4) (.tmp 6)⟩,
    ⟨none, none, .store 4 (.tmp 4) (.tmp 15)⟩,
    ⟨(some 5), none, .mv (.const (.bool true))⟩])
  (.ret))))
theorem h_spec_NewNet : (Try.prog.funcs[n_spec_NewNet]?).bind (fun fn => fn.body.bind (comp Try.prog fn.ntmps)) = some (AS.strip c_spec_NewNet) := by kernel_rfl
theorem r_spec_NewNet : (Try.prog.funcs[n_spec_NewNet]?).map (fun fn => (fn.results.toList, fn.ntmps)) = some ([.cell 4 28, .tmp 5], 16) := by kernel_rfl
-- 8 loop.example/g00850/laws.vNet
abbrev n_laws_vNet : Nat := 8
def c_laws_vNet : AS :=
  .seq (.ops [⟨(some 2), none, .box (.tmp 0)⟩,
    ⟨(some 3), none, .box (.tmp 1)⟩,
    ⟨(some 4), none, .mv (.const (.bool false))⟩])
  (.seq (.ops [⟨(some 5), none, .fa 0 (.tmp 2)⟩,
    ⟨(some 6), none, .load none (.tmp 5)⟩,
    ⟨(some 7), none, .fa 0 (.tmp 3)⟩,
    ⟨(some 8), none, .load none (.tmp 7)⟩,
    ⟨(some 9), none, .bin .eql (.tmp 6) (.tmp 8)⟩,
    ⟨(some 10), none, .mv (.tmp 9)⟩,
    ⟨(some 11), some (10, true), .fa 2 (.tmp 2)⟩,
    ⟨(some 12), some (10, true), .load none (.tmp 11)⟩,
    ⟨(some 13), some (10, true), .fa 2 (.tmp 3)⟩,
    ⟨(some 14), some (10, true), .load none (.tmp 13)⟩,
    ⟨(some 15), some (10, true), .bin .eql (.tmp 12) (.tmp 14)⟩,
    ⟨(some 16), none, .pick (.tmp 10) (.tmp 15) (.const (.bool false))⟩,
    ⟨(some 17), none, .mv (.tmp 16)⟩,
    ⟨(some 18), some (17, true), .fa 1 (.tmp 2)⟩,
    ⟨(some 19), some (17, true), .load none (.tmp 18)⟩,
    ⟨(some 20), some (17, true), .fa 1 (.tmp 3)⟩,
    ⟨(some 21), some (17, true), .load none (.tmp 20)⟩,
    ⟨(some 22), some (17, true), .call 20 [(.tmp 19), (.tmp 21)]⟩,
    ⟨(some 23), none, .pick (.tmp 17) (.tmp 22) (.const (.bool false))⟩,
    ⟨(some 24), none, .mv (.tmp 23)⟩,
    ⟨(some 25), some (24, true), .fa 3 (.tmp 2)⟩,
    ⟨(some 26), some (24, true), .load none (.tmp 25)⟩,
    ⟨(some 27), some (24, true), .fa 3 (.tmp 3)⟩,
    ⟨(some 28), some (24, true), .load none (.tmp 27)⟩,
    ⟨(some 29), some (24, true), .call 15 [(.tmp 26), (.tmp 28)]⟩,
    ⟨(some 30), none, .pick (.tmp 24) (.tmp 29) (.const (.bool false))⟩,
    ⟨(some 4), none, .mv (.tmp 30)⟩])
  (.ret))
theorem h_laws_vNet : (Try.prog.funcs[n_laws_vNet]?).bind (fun fn => fn.body.bind (comp Try.prog fn.ntmps)) = some (AS.strip c_laws_vNet) := by kernel_rfl
theorem r_laws_vNet : (Try.prog.funcs[n_laws_vNet]?).map (fun fn => (fn.results.toList, fn.ntmps)) = some ([.tmp 4], 31) := by kernel_rfl
-- 9 loop.example/g00850/impl.SendTo
abbrev n_impl_SendTo : Nat := 9
def c_impl_SendTo : AS :=
  .seq (.ops [⟨(some 4), none, .box (.tmp 0)⟩,
    ⟨(some 8), none, .alloc (.agg #[.int .i64 0, .slice none 0 0, .int .i64 0, .slice none 0 0])⟩,
    ⟨(some 9), none, .mv (.const (.bool false))⟩])
  (.seq (.seq (.ops [⟨(some 10), none, .load (some 4) (.tmp 4)⟩,
    ⟨(some 11), none, .call 21 [(.tmp 10)]⟩,
    ⟨(some 12), none, .not (.tmp 11)⟩])
  (.cond (.tmp 12) (.seq (.ops [⟨(some 13), none, .build (.agg #[.int .i64 0, .slice none 0 0, .int .i64 0, .slice none 0 0]) []⟩,
    ⟨none, none, .store 4 (.tmp 8) (.tmp 13)⟩,
    ⟨(some 9), none, .mv (.const (.bool false))⟩])
  (.ret)) (.skip)))
  (.seq (.ops [⟨(some 14), none, .load (some 4) (.tmp 4)⟩,
    ⟨(some 15), none, .mv (.tmp 1)⟩,
    ⟨(some 16), none, .mv (.tmp 2)⟩,
    ⟨(some 17), none, .mv (.tmp 3)⟩,
    ⟨(some 18), none, .call 22 [(.tmp 14), (.tmp 15), (.tmp 16), (.tmp 17)]⟩,
    ⟨(some 19), none, .ext 0 (.tmp 18)⟩,
    ⟨(some 20), none, .ext 1 (.tmp 18)⟩,
    ⟨none, none, .store 4 (.tmp 8) (.tmp 19)⟩,
    ⟨(some 9), none, .mv (.tmp 20)⟩])
  (.ret)))
theorem h_impl_SendTo : (Try.prog.funcs[n_impl_SendTo]?).bind (fun fn => fn.body.bind (comp Try.prog fn.ntmps)) = some (AS.strip c_impl_SendTo) := by kernel_rfl
theorem r_impl_SendTo : (Try.prog.funcs[n_impl_SendTo]?).map (fun fn => (fn.results.toList, fn.ntmps)) = some ([.cell 8 28, .tmp 9], 21) := by kernel_rfl
-- 10 loop.example/g00850/impl.TripOf
abbrev n_impl_TripOf : Nat := 10
def c_impl_TripOf : AS :=
  .seq (.ops [⟨(some 3), none, .box (.tmp 0)⟩,
    ⟨(some 6), none, .mv (.const (.int .i64 0))⟩,
    ⟨(some 7), none, .mv (.const (.bool false))⟩])
  (.seq (.seq (.ops [⟨(some 8), none, .load (some 4) (.tmp 3)⟩,
    ⟨(some 9), none, .call 21 [(.tmp 8)]⟩,
    ⟨(some 10), none, .not (.tmp 9)⟩,
    ⟨(some 11), none, .mv (.tmp 10)⟩,
    ⟨(some 12), some (11, false), .load (some 4) (.tmp 3)⟩,
    ⟨(some 13), some (11, false), .mv (.tmp 1)⟩,
    ⟨(some 14), some (11, false), .call 23 [(.tmp 12), (.tmp 13)]⟩,
    ⟨(some 15), some (11, false), .not (.tmp 14)⟩,
    ⟨(some 16), none, .pick (.tmp 11) (.const (.bool true)) (.tmp 15)⟩,
    ⟨(some 17), none, .mv (.tmp 16)⟩,
    ⟨(some 18), some (17, false), .load (some 4) (.tmp 3)⟩,
    ⟨(some 19), some (17, false), .mv (.tmp 2)⟩,
    ⟨(some 20), some (17, false), .call 23 [(.tmp 18), (.tmp 19)]⟩,
    ⟨(some 21), some (17, false), .not (.tmp 20)⟩,
    ⟨(some 22), none, .pick (.tmp 17) (.const (.bool true)) (.tmp 21)⟩])
  (.kept [1, 2, 3, 22] (.cond (.tmp 22) (.seq (.ops [⟨(some 6), none, .mv (.const (.int .i64 0))⟩,
    ⟨(some 7), none, .mv (.const (.bool false))⟩])
  (.ret)) (.skip))))
  (.kept [1, 2, 3] (.seq (.ops [⟨(some 23), none, .load (some 4) (.tmp 3)⟩,
    ⟨(some 24), none, .mv (.tmp 1)⟩,
    ⟨(some 25), none, .mv (.tmp 2)⟩,
    ⟨(some 26), none, .call 24 [(.tmp 23), (.tmp 24), (.tmp 25)]⟩,
    ⟨(some 6), none, .mv (.tmp 26)⟩,
    ⟨(some 7), none, .mv (.const (.bool true))⟩])
  (.ret))))
theorem h_impl_TripOf : (Try.prog.funcs[n_impl_TripOf]?).bind (fun fn => fn.body.bind (comp Try.prog fn.ntmps)) = some (AS.strip c_impl_TripOf) := by kernel_rfl
theorem r_impl_TripOf : (Try.prog.funcs[n_impl_TripOf]?).map (fun fn => (fn.results.toList, fn.ntmps)) = some ([.tmp 6, .tmp 7], 27) := by kernel_rfl
-- 11 loop.example/g00850/spec.SendTo
abbrev n_spec_SendTo : Nat := 11
def c_spec_SendTo : AS :=
  .seq (.ops [⟨(some 4), none, .box (.tmp 0)⟩,
    ⟨(some 8), none, .alloc (.agg #[.int .i64 0, .slice none 0 0, .int .i64 0, .slice none 0 0])⟩,
    ⟨(some 9), none, .mv (.const (.bool false))⟩])
  (.seq (.seq (.ops [⟨(some 10), none, .load (some 4) (.tmp 4)⟩,
    ⟨(some 11), none, .call 19 [(.tmp 10)]⟩,
    ⟨(some 12), none, .not (.tmp 11)⟩,
    ⟨(some 13), none, .mv (.tmp 12)⟩,
    ⟨(some 14), some (13, false), .load (some 4) (.tmp 4)⟩,
    ⟨(some 15), some (13, false), .mv (.tmp 1)⟩,
    ⟨(some 16), some (13, false), .call 25 [(.tmp 14), (.tmp 15)]⟩,
    ⟨(some 17), some (13, false), .not (.tmp 16)⟩,
    ⟨(some 18), none, .pick (.tmp 13) (.const (.bool true)) (.tmp 17)⟩,
    ⟨(some 19), none, .mv (.tmp 18)⟩,
    ⟨(some 20), some (19, false), .load (some 4) (.tmp 4)⟩,
    ⟨(some 21), some (19, false), .mv (.tmp 2)⟩,
    ⟨(some 22), some (19, false), .call 25 [(.tmp 20), (.tmp 21)]⟩,
    ⟨(some 23), some (19, false), .not (.tmp 22)⟩,
    ⟨(some 24), none, .pick (.tmp 19) (.const (.bool true)) (.tmp 23)⟩,
    ⟨(some 25), none, .mv (.tmp 24)⟩,
    ⟨(some 26), some (25, false), .mv (.tmp 1)⟩,
    ⟨(some 27), some (25, false), .mv (.tmp 2)⟩,
    ⟨(some 28), some (25, false), .bin .eql (.tmp 26) (.tmp 27)⟩,
    ⟨(some 29), none, .pick (.tmp 25) (.const (.bool true)) (.tmp 28)⟩])
  (.kept [1, 2, 3, 4, 8, 29] (.cond (.tmp 29) (.seq (.ops [⟨(some 30), none, .build (.agg #[.int .i64 0, .slice none 0 0, .int .i64 0, .slice none 0 0]) []⟩,
    ⟨none, none, .store 4 (.tmp 8) (.tmp 30)⟩,
    ⟨(some 9), none, .mv (.const (.bool false))⟩])
  (.ret)) (.skip))))
  (.kept [1, 2, 3, 4, 8] (.seq (.rops [(none, ⟨(some 31), none, .load (some 4) (.tmp 4)⟩),
    (none, ⟨(some 32), none, .fa 3 (.tmp 4)⟩),
    (none, ⟨(some 33), none, .load none (.tmp 32)⟩),
    (none, ⟨(some 34), none, .mv (.tmp 1)⟩),
    (none, ⟨(some 35), none, .mv (.tmp 2)⟩),
    (none, ⟨(some 36), none, .fa 0 (.tmp 4)⟩),
    (none, ⟨(some 37), none, .load none (.tmp 36)⟩),
    (none, ⟨(some 38), none, .load (some 4) (.tmp 4)⟩),
    (none, ⟨(some 39), none, .mv (.tmp 1)⟩),
    (none, ⟨(some 40), none, .mv (.tmp 2)⟩),
    (none, ⟨(some 43), none, .mv (.tmp 3)⟩),
    (some [⟨(some 43), none, .mv (.tmp 3)⟩, ⟨(some 37), none, .load none (.tmp 36)⟩, ⟨(some 36), none, .fa 0 (.tmp 4)⟩, ⟨(some 35), none, .mv (.tmp 2)⟩, ⟨(some 34), none, .mv (.tmp 1)⟩, ⟨(some 33), none, .load none (.tmp 32)⟩, ⟨(some 32), none, .fa 3 (.tmp 4)⟩, ⟨(some 31), none, .load (some 4) (.tmp 4)⟩], ⟨(some 41), none, .call 29 [(.tmp 38), (.tmp 39), (.tmp 40)]⟩),
    (none, ⟨(some 42), none, .bin .add (.tmp 37) (.tmp 41)⟩),
    (none, ⟨(some 44), none, .build (.agg #[.int .i64 0, .int .i64 0, .int .i64 0, .string ⟨⟨[]⟩⟩]) [(0, 1, (.tmp 34)), (1, 1, (.tmp 35)), (2, 1, (.tmp 42)), (3, 1, (.tmp 43))]⟩),
    (some [⟨(some 31), none, .load (some 4) (.tmp 4)⟩], ⟨(some 45), none, .call 28 [(.tmp 33), (.tmp 44)]⟩),
    (some [], ⟨(some 46), none, .call 27 [(.tmp 31), (.tmp 45)]⟩),
    (some [], ⟨(some 47), none, .call 26 [(.tmp 46)]⟩),
    (none, ⟨(some 48), none, .ext 0 (.tmp 47)⟩),
    (none, ⟨(some 49), none, .ext 1 (.tmp 47)⟩),
    (some [], ⟨none, none, .store 4 (.tmp 8) (.tmp 48)⟩),
    (none, ⟨(some 9), none, .mv (.tmp 49)⟩)])
  (.ret))))
theorem h_spec_SendTo : (Try.prog.funcs[n_spec_SendTo]?).bind (fun fn => fn.body.bind (comp Try.prog fn.ntmps)) = some (AS.strip c_spec_SendTo) := by kernel_rfl
theorem r_spec_SendTo : (Try.prog.funcs[n_spec_SendTo]?).map (fun fn => (fn.results.toList, fn.ntmps)) = some ([.cell 8 28, .tmp 9], 50) := by kernel_rfl
-- 12 loop.example/g00850/impl.TickNet
abbrev n_impl_TickNet : Nat := 12
def c_impl_TickNet : AS :=
  .seq (.ops [⟨(some 1), none, .box (.tmp 0)⟩,
    ⟨(some 2), none, .alloc (.agg #[.int .i64 0, .slice none 0 0, .int .i64 0, .slice none 0 0])⟩,
    ⟨(some 3), none, .mv (.const (.bool false))⟩])
  (.seq (.seq (.ops [⟨(some 5), none, .load (some 4) (.tmp 1)⟩,
    ⟨(some 6), none, .call 21 [(.tmp 5)]⟩,
    ⟨(some 7), none, .not (.tmp 6)⟩,
    ⟨(some 8), none, .mv (.tmp 7)⟩,
    ⟨(some 9), some (8, false), .fa 0 (.tmp 1)⟩,
    ⟨(some 10), some (8, false), .load none (.tmp 9)⟩,
    ⟨(some 11), some (8, false), .bin .eql (.tmp 10) (.const (.int .i64 100000))⟩,
    ⟨(some 12), none, .pick (.tmp 8) (.const (.bool true)) (.tmp 11)⟩])
  (.kept [1, 2, 12] (.cond (.tmp 12) (.seq (.ops [⟨(some 13), none, .build (.agg #[.int .i64 0, .slice none 0 0, .int .i64 0, .slice none 0 0]) []⟩,
    ⟨none, none, .store 4 (.tmp 2) (.tmp 13)⟩,
    ⟨(some 3), none, .mv (.const (.bool false))⟩])
  (.ret)) (.skip))))
  (.kept [1, 2] (.seq (.ops [⟨(some 14), none, .load (some 4) (.tmp 1)⟩,
    ⟨(some 15), none, .call 30 [(.tmp 14)]⟩,
    ⟨(some 4), none, .alloc (.agg #[.int .i64 0, .slice none 0 0, .int .i64 0, .slice none 0 0])⟩,
    ⟨none, none, .store 4 (.tmp 4) (.tmp 15)⟩])
  (.seq (.ops [⟨(some 16), none, .fa 0 (.tmp 4)⟩,
    ⟨(some 17), none, .load none (.tmp 16)⟩,
    ⟨(some 18), none, .bin .add (.tmp 17) (.const (.int .i64 1))⟩,
    ⟨(some 19), none, .fa 0 (.tmp 4)⟩,
    ⟨none, none, .store 1 (.tmp 19) (.tmp 18)⟩])
  (.seq (.ops [⟨(some 20), none, .load (some 4) (.tmp 4)⟩,
    ⟨none, none, .store 4 (.tmp 2) (.tmp 20)⟩,
    ⟨(some 3), none, .mv (.const (.bool true))⟩])
  (.ret))))))
theorem h_impl_TickNet : (Try.prog.funcs[n_impl_TickNet]?).bind (fun fn => fn.body.bind (comp Try.prog fn.ntmps)) = some (AS.strip c_impl_TickNet) := by kernel_rfl
theorem r_impl_TickNet : (Try.prog.funcs[n_impl_TickNet]?).map (fun fn => (fn.results.toList, fn.ntmps)) = some ([.cell 2 28, .tmp 3], 21) := by kernel_rfl
-- 13 loop.example/g00850/impl.Deliver
abbrev n_impl_Deliver : Nat := 13
def c_impl_Deliver : AS :=
  .seq (.ops [⟨(some 1), none, .box (.tmp 0)⟩,
    ⟨(some 2), none, .alloc (.agg #[.int .i64 0, .slice none 0 0, .int .i64 0, .slice none 0 0])⟩,
    ⟨(some 3), none, .mv (.const (.slice none 0 0))⟩,
    ⟨(some 4), none, .mv (.const (.bool false))⟩])
  (.seq (.seq (.ops [⟨(some 7), none, .load (some 4) (.tmp 1)⟩,
    ⟨(some 8), none, .call 21 [(.tmp 7)]⟩,
    ⟨(some 9), none, .not (.tmp 8)⟩])
  (.cond (.tmp 9) (.seq (.ops [⟨(some 10), none, .build (.agg #[.int .i64 0, .slice none 0 0, .int .i64 0, .slice none 0 0]) []⟩,
    ⟨none, none, .store 4 (.tmp 2) (.tmp 10)⟩,
    ⟨(some 3), none, .mv (.const (.slice none 0 0))⟩,
    ⟨(some 4), none, .mv (.const (.bool false))⟩])
  (.ret)) (.skip)))
  (.kept [1, 2] (.seq (.ops [⟨(some 12), none, .load (some 4) (.tmp 1)⟩,
    ⟨(some 13), none, .call 31 [(.tmp 12)]⟩,
    ⟨(some 11), none, .mv (.tmp 13)⟩,
    ⟨(some 14), none, .ext 0 (.tmp 11)⟩,
    ⟨(some 15), none, .ext 1 (.tmp 11)⟩,
    ⟨(some 5), none, .alloc (.agg #[.int .i64 0, .slice none 0 0, .int .i64 0, .slice none 0 0])⟩,
    ⟨none, none, .store 4 (.tmp 5) (.tmp 14)⟩,
    ⟨(some 6), none, .mv (.tmp 15)⟩])
  (.seq (.ops [⟨(some 16), none, .load (some 4) (.tmp 5)⟩,
    ⟨(some 17), none, .mv (.tmp 6)⟩,
    ⟨none, none, .store 4 (.tmp 2) (.tmp 16)⟩,
    ⟨(some 3), none, .mv (.tmp 17)⟩,
    ⟨(some 4), none, .mv (.const (.bool true))⟩])
  (.ret)))))
theorem h_impl_Deliver : (Try.prog.funcs[n_impl_Deliver]?).bind (fun fn => fn.body.bind (comp Try.prog fn.ntmps)) = some (AS.strip c_impl_Deliver) := by kernel_rfl
theorem r_impl_Deliver : (Try.prog.funcs[n_impl_Deliver]?).map (fun fn => (fn.results.toList, fn.ntmps)) = some ([.cell 2 28, .tmp 3, .tmp 4], 18) := by kernel_rfl
-- 14 loop.example/g00850/spec.Deliver
abbrev n_spec_Deliver : Nat := 14
def c_spec_Deliver_l1 : AS :=
  .seq (.seq (.dops [⟨(some 11), none, .mv (.tmp 5)⟩,
    ⟨(some 12), none, .fa 3 (.tmp 1)⟩,
    ⟨(some 13), none, .load none (.tmp 12)⟩,
    ⟨(some 14), none, .lens (.tmp 13)⟩,
    ⟨(some 15), none, .bin .lss (.tmp 11) (.tmp 14)⟩,
    ⟨(some 16), none, .mv (.tmp 15)⟩,
    ⟨(some 17), some (16, true), .fa 3 (.tmp 1)⟩,
    ⟨(some 18), some (16, true), .load none (.tmp 17)⟩,
    ⟨(some 19), some (16, true), .mv (.tmp 5)⟩,
    ⟨(some 20), some (16, true), .ia 4 (.tmp 18) (.tmp 19)⟩,
    ⟨(some 21), some (16, true), .fa 2 (.tmp 20)⟩,
    ⟨(some 22), some (16, true), .load none (.tmp 21)⟩,
    ⟨(some 23), some (16, true), .fa 0 (.tmp 1)⟩,
    ⟨(some 24), some (16, true), .load none (.tmp 23)⟩,
    ⟨(some 25), some (16, true), .bin .leq (.tmp 22) (.tmp 24)⟩,
    ⟨(some 26), none, .pick (.tmp 16) (.tmp 25) (.const (.bool false))⟩])
  (.kept [1, 2, 5, 26] (.cond (.tmp 26) (.skip) (.exit 0))))
  (.kept [1, 2, 5] (.block 1 (.ops [⟨(some 27), none, .mv (.tmp 5)⟩,
    ⟨(some 28), none, .bin .add (.tmp 27) (.const (.int .i64 1))⟩,
    ⟨(some 5), none, .mv (.tmp 28)⟩])))
def c_spec_Deliver : AS :=
  .seq (.ops [⟨(some 1), none, .box (.tmp 0)⟩,
    ⟨(some 2), none, .alloc (.agg #[.int .i64 0, .slice none 0 0, .int .i64 0, .slice none 0 0])⟩,
    ⟨(some 3), none, .mv (.const (.slice none 0 0))⟩,
    ⟨(some 4), none, .mv (.const (.bool false))⟩])
  (.seq (.seq (.ops [⟨(some 6), none, .load (some 4) (.tmp 1)⟩,
    ⟨(some 7), none, .call 19 [(.tmp 6)]⟩,
    ⟨(some 8), none, .not (.tmp 7)⟩])
  (.cond (.tmp 8) (.seq (.ops [⟨(some 9), none, .build (.agg #[.int .i64 0, .slice none 0 0, .int .i64 0, .slice none 0 0]) []⟩,
    ⟨(some 10), none, .bsl 4 (.agg #[.int .i64 0, .int .i64 0, .int .i64 0, .string ⟨⟨[]⟩⟩]) 0 []⟩,
    ⟨none, none, .store 4 (.tmp 2) (.tmp 9)⟩,
    ⟨(some 3), none, .mv (.tmp 10)⟩,
    ⟨(some 4), none, .mv (.const (.bool false))⟩])
  (.ret)) (.skip)))
  (.kept [1, 2] (.seq (.ops [⟨(some 5), none, .mv (.const (.int .i64 0))⟩])
  (.seq (.block 0 (.loop 1 [(1, 0), (2, 0), (5, 0)] c_spec_Deliver_l1))
  (.kept [1, 2, 5] (.seq (.rops [(none, ⟨(some 29), none, .load (some 4) (.tmp 1)⟩),
    (none, ⟨(some 30), none, .fa 3 (.tmp 1)⟩),
    (none, ⟨(some 31), none, .load none (.tmp 30)⟩),
    (none, ⟨(some 32), none, .mv (.tmp 5)⟩),
    (none, ⟨(some 33), none, .sls 4 (.tmp 31) (some (.tmp 32)) none none⟩),
    (none, ⟨(some 35), none, .fa 3 (.tmp 1)⟩),
    (none, ⟨(some 36), none, .load none (.tmp 35)⟩),
    (none, ⟨(some 37), none, .mv (.tmp 5)⟩),
    (none, ⟨(some 38), none, .sls 4 (.tmp 36) none (some (.tmp 37)) none⟩),
    (some [⟨(some 38), none, .sls 4 (.tmp 36) none (some (.tmp 37)) none⟩, ⟨(some 37), none, .mv (.tmp 5)⟩, ⟨(some 36), none, .load none (.tmp 35)⟩, ⟨(some 35), none, .fa 3 (.tmp 1)⟩], ⟨(some 34), none, .call 27 [(.tmp 29), (.tmp 33)]⟩),
    (some [], ⟨(some 39), none, .call 32 [(.tmp 38)]⟩),
    (some [], ⟨none, none, .store 4 (.tmp 2) (.tmp 34)⟩),
    (none, ⟨(some 3), none, .mv (.tmp 39)⟩),
    (none, ⟨(some 4), none, .mv (.const (.bool true))⟩)])
  (.ret)))))))
theorem h_spec_Deliver : (Try.prog.funcs[n_spec_Deliver]?).bind (fun fn => fn.body.bind (comp Try.prog fn.ntmps)) = some (AS.strip c_spec_Deliver) := by kernel_rfl
theorem r_spec_Deliver : (Try.prog.funcs[n_spec_Deliver]?).map (fun fn => (fn.results.toList, fn.ntmps)) = some ([.cell 2 28, .tmp 3, .tmp 4], 40) := by kernel_rfl
-- 15 loop.example/g00850/laws.vLetters
abbrev n_laws_vLetters : Nat := 15
def c_laws_vLetters_l1 : AS :=
  .seq (.seq (.ops [⟨(some 11), none, .mv (.tmp 5)⟩,
    ⟨(some 12), none, .mv (.tmp 0)⟩,
    ⟨(some 13), none, .lens (.tmp 12)⟩,
    ⟨(some 14), none, .bin .lss (.tmp 11) (.tmp 13)⟩])
  (.cond (.tmp 14) (.skip) (.exit 0)))
  (.seq (.block 1 (.seq (.dops [⟨(some 17), none, .mv (.tmp 0)⟩,
    ⟨(some 18), none, .mv (.tmp 5)⟩,
    ⟨(some 19), none, .ia 4 (.tmp 17) (.tmp 18)⟩,
    ⟨(some 20), none, .load (some 4) (.tmp 19)⟩,
    ⟨(some 21), none, .mv (.tmp 1)⟩,
    ⟨(some 22), none, .mv (.tmp 5)⟩,
    ⟨(some 23), none, .ia 4 (.tmp 21) (.tmp 22)⟩,
    ⟨(some 24), none, .load (some 4) (.tmp 23)⟩,
    ⟨(some 25), none, .eqs true [(0, 0), (1, 0), (2, 0), (3, 2)] (.tmp 20) (.tmp 24)⟩])
  (.kept [0, 1, 5, 25] (.cond (.tmp 25) (.seq (.ops [⟨(some 4), none, .mv (.const (.bool false))⟩])
  (.ret)) (.skip)))))
  (.kept [0, 1, 5] (.ops [⟨(some 15), none, .mv (.tmp 5)⟩,
    ⟨(some 16), none, .bin .add (.tmp 15) (.const (.int .i64 1))⟩,
    ⟨(some 5), none, .mv (.tmp 16)⟩])))
def c_laws_vLetters : AS :=
  .seq (.ops [⟨(some 4), none, .mv (.const (.bool false))⟩])
  (.seq (.seq (.ops [⟨(some 6), none, .mv (.tmp 0)⟩,
    ⟨(some 7), none, .lens (.tmp 6)⟩,
    ⟨(some 8), none, .mv (.tmp 1)⟩,
    ⟨(some 9), none, .lens (.tmp 8)⟩,
    ⟨(some 10), none, .bin .neq (.tmp 7) (.tmp 9)⟩])
  (.cond (.tmp 10) (.seq (.ops [⟨(some 4), none, .mv (.const (.bool false))⟩])
  (.ret)) (.skip)))
  (.kept [0, 1] (.seq (.seq (.ops [⟨(some 5), none, .mv (.const (.int .i64 0))⟩])
  (.block 0 (.loop 2 [(0, 0), (1, 0), (5, 0)] c_laws_vLetters_l1)))
  (.kept [] (.seq (.ops [⟨(some 4), none, .mv (.const (.bool true))⟩])
  (.ret))))))
theorem h_laws_vLetters : (Try.prog.funcs[n_laws_vLetters]?).bind (fun fn => fn.body.bind (comp Try.prog fn.ntmps)) = some (AS.strip c_laws_vLetters) := by kernel_rfl
theorem r_laws_vLetters : (Try.prog.funcs[n_laws_vLetters]?).map (fun fn => (fn.results.toList, fn.ntmps)) = some ([.tmp 4], 26) := by kernel_rfl
-- 16 loop.example/g00850/impl.areHomes
abbrev n_impl_areHomes : Nat := 16
def c_impl_areHomes : AS :=
  .seq (.ops [⟨(some 4), none, .mv (.const (.bool false))⟩])
  (.seq (.ops [⟨(some 5), none, .mv (.tmp 0)⟩,
    ⟨(some 6), none, .lens (.tmp 5)⟩,
    ⟨(some 7), none, .call 33 [(.tmp 6), (.const (.int .i64 1)), (.const (.int .i64 5))]⟩,
    ⟨(some 8), none, .mv (.tmp 7)⟩,
    ⟨(some 9), some (8, true), .mv (.tmp 0)⟩,
    ⟨(some 10), some (8, true), .call 34 [(.tmp 9), (.func 35)]⟩,
    ⟨(some 11), some (8, true), .not (.tmp 10)⟩,
    ⟨(some 12), none, .pick (.tmp 8) (.tmp 11) (.const (.bool false))⟩,
    ⟨(some 13), none, .mv (.tmp 12)⟩,
    ⟨(some 14), some (13, true), .mv (.tmp 1)⟩,
    ⟨(some 15), some (13, true), .call 33 [(.tmp 14), (.const (.int .i64 0)), (.const (.int .i64 20))]⟩,
    ⟨(some 16), none, .pick (.tmp 13) (.tmp 15) (.const (.bool false))⟩,
    ⟨(some 4), none, .mv (.tmp 16)⟩])
  (.ret))
theorem h_impl_areHomes : (Try.prog.funcs[n_impl_areHomes]?).bind (fun fn => fn.body.bind (comp Try.prog fn.ntmps)) = some (AS.strip c_impl_areHomes) := by kernel_rfl
theorem r_impl_areHomes : (Try.prog.funcs[n_impl_areHomes]?).map (fun fn => (fn.results.toList, fn.ntmps)) = some ([.tmp 4], 17) := by kernel_rfl
-- 17 slices.Clone[[]int,int]
abbrev n_slices_Clone___int_int_ : Nat := 17
def c_slices_Clone___int_int_ : AS :=
  .seq (.ops [⟨(some 2), none, .mv (.const (.slice none 0 0))⟩])
  (.seq (.seq (.ops [⟨(some 3), none, .mv (.tmp 0)⟩,
    ⟨(some 4), none, .isn false (.tmp 3)⟩])
  (.cond (.tmp 4) (.seq (.ops [⟨(some 2), none, .mv (.const (.slice none 0 0))⟩])
  (.ret)) (.skip)))
  (.seq (.ops [⟨(some 5), none, .bsl 1 (.int .i64 0) 0 []⟩,
    ⟨(some 6), none, .mv (.tmp 0)⟩,
    ⟨(some 7), none, .app 1 8 (.int .i64 0) (.tmp 5) (.tmp 6)⟩,
    ⟨(some 2), none, .mv (.tmp 7)⟩])
  (.ret)))
theorem h_slices_Clone___int_int_ : (Try.prog.funcs[n_slices_Clone___int_int_]?).bind (fun fn => fn.body.bind (comp Try.prog fn.ntmps)) = some (AS.strip c_slices_Clone___int_int_) := by kernel_rfl
theorem r_slices_Clone___int_int_ : (Try.prog.funcs[n_slices_Clone___int_int_]?).map (fun fn => (fn.results.toList, fn.ntmps)) = some ([.tmp 2], 8) := by kernel_rfl
-- 18 loop.example/g00850/spec.l1Own
abbrev n_spec_l1Own : Nat := 18
def c_spec_l1Own : AS :=
  .seq (.ops [⟨(some 2), none, .mv (.const (.slice none 0 0))⟩])
  (.seq (.ops [⟨(some 3), none, .bsl 1 (.int .i64 0) 0 []⟩,
    ⟨(some 4), none, .mv (.tmp 0)⟩,
    ⟨(some 5), none, .app 1 8 (.int .i64 0) (.tmp 3) (.tmp 4)⟩,
    ⟨(some 2), none, .mv (.tmp 5)⟩])
  (.ret))
theorem h_spec_l1Own : (Try.prog.funcs[n_spec_l1Own]?).bind (fun fn => fn.body.bind (comp Try.prog fn.ntmps)) = some (AS.strip c_spec_l1Own) := by kernel_rfl
theorem r_spec_l1Own : (Try.prog.funcs[n_spec_l1Own]?).map (fun fn => (fn.results.toList, fn.ntmps)) = some ([.tmp 2], 6) := by kernel_rfl
-- 19 loop.example/g00850/spec.l7Good
abbrev n_spec_l7Good : Nat := 19
def c_spec_l7Good_l1 : AS :=
  .seq (.seq (.ops [⟨(some 35), none, .mv (.tmp 4)⟩,
    ⟨(some 36), none, .fa 3 (.tmp 1)⟩,
    ⟨(some 37), none, .load none (.tmp 36)⟩,
    ⟨(some 38), none, .lens (.tmp 37)⟩,
    ⟨(some 39), none, .bin .lss (.tmp 35) (.tmp 38)⟩])
  (.cond (.tmp 39) (.skip) (.exit 0)))
  (.seq (.block 1 (.seq (.ops [⟨(some 42), none, .fa 3 (.tmp 1)⟩,
    ⟨(some 43), none, .load none (.tmp 42)⟩,
    ⟨(some 44), none, .mv (.tmp 4)⟩,
    ⟨(some 45), none, .ia 4 (.tmp 43) (.tmp 44)⟩,
    ⟨(some 46), none, .load (some 4) (.tmp 45)⟩,
    ⟨(some 5), none, .alloc (.agg #[.int .i64 0, .int .i64 0, .int .i64 0, .string ⟨⟨[]⟩⟩])⟩,
    ⟨none, none, .store 4 (.tmp 5) (.tmp 46)⟩])
  (.seq (.seq (.ops [⟨(some 47), none, .load (some 4) (.tmp 1)⟩,
    ⟨(some 48), none, .fa 0 (.tmp 5)⟩,
    ⟨(some 49), none, .load none (.tmp 48)⟩,
    ⟨(some 50), none, .call 25 [(.tmp 47), (.tmp 49)]⟩,
    ⟨(some 51), none, .not (.tmp 50)⟩,
    ⟨(some 52), none, .mv (.tmp 51)⟩,
    ⟨(some 53), some (52, false), .load (some 4) (.tmp 1)⟩,
    ⟨(some 54), some (52, false), .fa 1 (.tmp 5)⟩,
    ⟨(some 55), some (52, false), .load none (.tmp 54)⟩,
    ⟨(some 56), some (52, false), .call 25 [(.tmp 53), (.tmp 55)]⟩,
    ⟨(some 57), some (52, false), .not (.tmp 56)⟩,
    ⟨(some 58), none, .pick (.tmp 52) (.const (.bool true)) (.tmp 57)⟩,
    ⟨(some 59), none, .mv (.tmp 58)⟩,
    ⟨(some 60), some (59, false), .fa 0 (.tmp 5)⟩,
    ⟨(some 61), some (59, false), .load none (.tmp 60)⟩,
    ⟨(some 62), some (59, false), .fa 1 (.tmp 5)⟩,
    ⟨(some 63), some (59, false), .load none (.tmp 62)⟩,
    ⟨(some 64), some (59, false), .bin .eql (.tmp 61) (.tmp 63)⟩,
    ⟨(some 65), none, .pick (.tmp 59) (.const (.bool true)) (.tmp 64)⟩,
    ⟨(some 66), none, .mv (.tmp 65)⟩,
    ⟨(some 67), some (66, false), .fa 2 (.tmp 5)⟩,
    ⟨(some 68), some (66, false), .load none (.tmp 67)⟩,
    ⟨(some 69), some (66, false), .mv (.tmp 3)⟩,
    ⟨(some 70), some (66, false), .call 36 [(.tmp 68), (.tmp 69), (.const (.int .i64 100200))]⟩,
    ⟨(some 71), some (66, false), .not (.tmp 70)⟩,
    ⟨(some 72), none, .pick (.tmp 66) (.const (.bool true)) (.tmp 71)⟩,
    ⟨(some 73), none, .mv (.tmp 72)⟩,
    ⟨(some 74), some (73, false), .fa 3 (.tmp 5)⟩,
    ⟨(some 75), some (73, false), .load none (.tmp 74)⟩,
    ⟨(some 76), some (73, false), .lent (.tmp 75)⟩,
    ⟨(some 77), some (73, false), .call 36 [(.tmp 76), (.const (.int .i64 1)), (.const (.int .i64 40))]⟩,
    ⟨(some 78), some (73, false), .not (.tmp 77)⟩,
    ⟨(some 79), none, .pick (.tmp 73) (.const (.bool true)) (.tmp 78)⟩])
  (.kept [1, 4, 5, 79] (.cond (.tmp 79) (.seq (.ops [⟨(some 2), none, .mv (.const (.bool false))⟩])
  (.ret)) (.skip))))
  (.kept [1, 4, 5] (.ops [⟨(some 80), none, .fa 2 (.tmp 5)⟩,
    ⟨(some 81), none, .load none (.tmp 80)⟩,
    ⟨(some 3), none, .mv (.tmp 81)⟩])))))
  (.kept [1, 3, 4] (.ops [⟨(some 40), none, .mv (.tmp 4)⟩,
    ⟨(some 41), none, .bin .add (.tmp 40) (.const (.int .i64 1))⟩,
    ⟨(some 4), none, .mv (.tmp 41)⟩])))
def c_spec_l7Good : AS :=
  .seq (.ops [⟨(some 1), none, .box (.tmp 0)⟩,
    ⟨(some 2), none, .mv (.const (.bool false))⟩])
  (.seq (.seq (.ops [⟨(some 6), none, .fa 0 (.tmp 1)⟩,
    ⟨(some 7), none, .load none (.tmp 6)⟩,
    ⟨(some 8), none, .call 36 [(.tmp 7), (.const (.int .i64 0)), (.const (.int .i64 100000))]⟩,
    ⟨(some 9), none, .not (.tmp 8)⟩,
    ⟨(some 10), none, .mv (.tmp 9)⟩,
    ⟨(some 11), some (10, false), .fa 1 (.tmp 1)⟩,
    ⟨(some 12), some (10, false), .load none (.tmp 11)⟩,
    ⟨(some 13), some (10, false), .lens (.tmp 12)⟩,
    ⟨(some 14), some (10, false), .call 36 [(.tmp 13), (.const (.int .i64 1)), (.const (.int .i64 5))]⟩,
    ⟨(some 15), some (10, false), .not (.tmp 14)⟩,
    ⟨(some 16), none, .pick (.tmp 10) (.const (.bool true)) (.tmp 15)⟩,
    ⟨(some 17), none, .mv (.tmp 16)⟩,
    ⟨(some 18), some (17, false), .fa 1 (.tmp 1)⟩,
    ⟨(some 19), some (17, false), .load none (.tmp 18)⟩,
    ⟨(some 20), some (17, false), .call 37 [(.tmp 19), (.const (.int .i64 0)), (.const (.int .i64 2))]⟩,
    ⟨(some 21), some (17, false), .not (.tmp 20)⟩,
    ⟨(some 22), none, .pick (.tmp 17) (.const (.bool true)) (.tmp 21)⟩,
    ⟨(some 23), none, .mv (.tmp 22)⟩,
    ⟨(some 24), some (23, false), .fa 2 (.tmp 1)⟩,
    ⟨(some 25), some (23, false), .load none (.tmp 24)⟩,
    ⟨(some 26), some (23, false), .call 36 [(.tmp 25), (.const (.int .i64 0)), (.const (.int .i64 20))]⟩,
    ⟨(some 27), some (23, false), .not (.tmp 26)⟩,
    ⟨(some 28), none, .pick (.tmp 23) (.const (.bool true)) (.tmp 27)⟩,
    ⟨(some 29), none, .mv (.tmp 28)⟩,
    ⟨(some 30), some (29, false), .fa 3 (.tmp 1)⟩,
    ⟨(some 31), some (29, false), .load none (.tmp 30)⟩,
    ⟨(some 32), some (29, false), .lens (.tmp 31)⟩,
    ⟨(some 33), some (29, false), .bin .gtr (.tmp 32) (.const (.int .i64 60))⟩,
    ⟨(some 34), none, .pick (.tmp 29) (.const (.bool true)) (.tmp 33)⟩])
  (.kept [1, 34] (.cond (.tmp 34) (.seq (.ops [⟨(some 2), none, .mv (.const (.bool false))⟩])
  (.ret)) (.skip))))
  (.kept [1] (.seq (.ops [⟨(some 3), none, .mv (.const (.int .i64 0))⟩])
  (.seq (.seq (.ops [⟨(some 4), none, .mv (.const (.int .i64 0))⟩])
  (.block 0 (.loop 1 [(1, 0), (3, 0), (4, 0)] c_spec_l7Good_l1)))
  (.kept [] (.seq (.ops [⟨(some 2), none, .mv (.const (.bool true))⟩])
  (.ret)))))))
theorem h_spec_l7Good : (Try.prog.funcs[n_spec_l7Good]?).bind (fun fn => fn.body.bind (comp Try.prog fn.ntmps)) = some (AS.strip c_spec_l7Good) := by kernel_rfl
theorem r_spec_l7Good : (Try.prog.funcs[n_spec_l7Good]?).map (fun fn => (fn.results.toList, fn.ntmps)) = some ([.tmp 2], 82) := by kernel_rfl
-- 20 loop.example/g00850/laws.vInts
abbrev n_laws_vInts : Nat := 20
def c_laws_vInts_l1 : AS :=
  .seq (.seq (.ops [⟨(some 11), none, .mv (.tmp 5)⟩,
    ⟨(some 12), none, .mv (.tmp 0)⟩,
    ⟨(some 13), none, .lens (.tmp 12)⟩,
    ⟨(some 14), none, .bin .lss (.tmp 11) (.tmp 13)⟩])
  (.cond (.tmp 14) (.skip) (.exit 0)))
  (.seq (.block 1 (.seq (.dops [⟨(some 17), none, .mv (.tmp 0)⟩,
    ⟨(some 18), none, .mv (.tmp 5)⟩,
    ⟨(some 19), none, .ia 1 (.tmp 17) (.tmp 18)⟩,
    ⟨(some 20), none, .load none (.tmp 19)⟩,
    ⟨(some 21), none, .mv (.tmp 1)⟩,
    ⟨(some 22), none, .mv (.tmp 5)⟩,
    ⟨(some 23), none, .ia 1 (.tmp 21) (.tmp 22)⟩,
    ⟨(some 24), none, .load none (.tmp 23)⟩,
    ⟨(some 25), none, .bin .neq (.tmp 20) (.tmp 24)⟩])
  (.kept [0, 1, 5, 25] (.cond (.tmp 25) (.seq (.ops [⟨(some 4), none, .mv (.const (.bool false))⟩])
  (.ret)) (.skip)))))
  (.kept [0, 1, 5] (.ops [⟨(some 15), none, .mv (.tmp 5)⟩,
    ⟨(some 16), none, .bin .add (.tmp 15) (.const (.int .i64 1))⟩,
    ⟨(some 5), none, .mv (.tmp 16)⟩])))
def c_laws_vInts : AS :=
  .seq (.ops [⟨(some 4), none, .mv (.const (.bool false))⟩])
  (.seq (.seq (.ops [⟨(some 6), none, .mv (.tmp 0)⟩,
    ⟨(some 7), none, .lens (.tmp 6)⟩,
    ⟨(some 8), none, .mv (.tmp 1)⟩,
    ⟨(some 9), none, .lens (.tmp 8)⟩,
    ⟨(some 10), none, .bin .neq (.tmp 7) (.tmp 9)⟩])
  (.cond (.tmp 10) (.seq (.ops [⟨(some 4), none, .mv (.const (.bool false))⟩])
  (.ret)) (.skip)))
  (.kept [0, 1] (.seq (.seq (.ops [⟨(some 5), none, .mv (.const (.int .i64 0))⟩])
  (.block 0 (.loop 2 [(0, 0), (1, 0), (5, 0)] c_laws_vInts_l1)))
  (.kept [] (.seq (.ops [⟨(some 4), none, .mv (.const (.bool true))⟩])
  (.ret))))))
theorem h_laws_vInts : (Try.prog.funcs[n_laws_vInts]?).bind (fun fn => fn.body.bind (comp Try.prog fn.ntmps)) = some (AS.strip c_laws_vInts) := by kernel_rfl
theorem r_laws_vInts : (Try.prog.funcs[n_laws_vInts]?).map (fun fn => (fn.results.toList, fn.ntmps)) = some ([.tmp 4], 26) := by kernel_rfl
-- 21 loop.example/g00850/impl.GoodNet
abbrev n_impl_GoodNet : Nat := 21
def c_impl_GoodNet_l1 : AS :=
  .seq (.ops [⟨(some 27), none, .bin .lss (.tmp 26) (.tmp 25)⟩])
  (.seq (.cond (.tmp 27) (.skip) (.exit 0))
  (.seq (.block 1 (.seq (.ops [⟨(some 28), none, .mv (.tmp 26)⟩,
    ⟨(some 29), none, .ia 4 (.tmp 24) (.tmp 26)⟩,
    ⟨(some 30), none, .load (some 4) (.tmp 29)⟩,
    ⟨(some 4), none, .alloc (.agg #[.int .i64 0, .int .i64 0, .int .i64 0, .string ⟨⟨[]⟩⟩])⟩,
    ⟨(some 3), none, .mv (.tmp 28)⟩,
    ⟨none, none, .store 4 (.tmp 4) (.tmp 30)⟩])
  (.seq (.rops [(none, ⟨(some 31), none, .load (some 4) (.tmp 1)⟩),
    (none, ⟨(some 32), none, .load (some 4) (.tmp 4)⟩),
    (some [], ⟨(some 33), none, .call 39 [(.tmp 31), (.tmp 32)]⟩),
    (none, ⟨(some 34), none, .not (.tmp 33)⟩),
    (none, ⟨(some 35), none, .mv (.tmp 34)⟩),
    (none, ⟨(some 36), some (35, false), .mv (.tmp 3)⟩),
    (none, ⟨(some 37), some (35, false), .bin .gtr (.tmp 36) (.const (.int .i64 0))⟩),
    (none, ⟨(some 38), some (35, false), .mv (.tmp 37)⟩),
    (none, ⟨(some 39), some (38, true), .fa 2 (.tmp 4)⟩),
    (none, ⟨(some 40), some (38, true), .load none (.tmp 39)⟩),
    (none, ⟨(some 41), some (38, true), .fa 3 (.tmp 1)⟩),
    (none, ⟨(some 42), some (38, true), .load none (.tmp 41)⟩),
    (none, ⟨(some 43), some (38, true), .mv (.tmp 3)⟩),
    (none, ⟨(some 44), some (38, true), .bin .sub (.tmp 43) (.const (.int .i64 1))⟩),
    (none, ⟨(some 45), some (38, true), .ia 4 (.tmp 42) (.tmp 44)⟩),
    (none, ⟨(some 46), some (38, true), .fa 2 (.tmp 45)⟩),
    (none, ⟨(some 47), some (38, true), .load none (.tmp 46)⟩),
    (none, ⟨(some 48), some (38, true), .bin .lss (.tmp 40) (.tmp 47)⟩),
    (none, ⟨(some 49), some (35, false), .pick (.tmp 38) (.tmp 48) (.const (.bool false))⟩),
    (none, ⟨(some 50), none, .pick (.tmp 35) (.const (.bool true)) (.tmp 49)⟩)])
  (.kept [1, 24, 25, 26, 50] (.cond (.tmp 50) (.seq (.ops [⟨(some 2), none, .mv (.const (.bool false))⟩])
  (.ret)) (.skip))))))
  (.kept [1, 24, 25, 26] (.ops [⟨(some 51), none, .bin .add (.tmp 26) (.const (.int .i64 1))⟩,
    ⟨(some 26), none, .mv (.tmp 51)⟩]))))
def c_impl_GoodNet : AS :=
  .seq (.ops [⟨(some 1), none, .box (.tmp 0)⟩,
    ⟨(some 2), none, .mv (.const (.bool false))⟩])
  (.seq (.seq (.ops [⟨(some 5), none, .fa 0 (.tmp 1)⟩,
    ⟨(some 6), none, .load none (.tmp 5)⟩,
    ⟨(some 7), none, .call 38 [(.tmp 6)]⟩,
    ⟨(some 8), none, .not (.tmp 7)⟩,
    ⟨(some 9), none, .mv (.tmp 8)⟩,
    ⟨(some 10), some (9, false), .fa 1 (.tmp 1)⟩,
    ⟨(some 11), some (9, false), .load none (.tmp 10)⟩,
    ⟨(some 12), some (9, false), .fa 2 (.tmp 1)⟩,
    ⟨(some 13), some (9, false), .load none (.tmp 12)⟩,
    ⟨(some 14), some (9, false), .call 16 [(.tmp 11), (.tmp 13)]⟩,
    ⟨(some 15), some (9, false), .not (.tmp 14)⟩,
    ⟨(some 16), none, .pick (.tmp 9) (.const (.bool true)) (.tmp 15)⟩,
    ⟨(some 17), none, .mv (.tmp 16)⟩,
    ⟨(some 18), some (17, false), .fa 3 (.tmp 1)⟩,
    ⟨(some 19), some (17, false), .load none (.tmp 18)⟩,
    ⟨(some 20), some (17, false), .lens (.tmp 19)⟩,
    ⟨(some 21), some (17, false), .bin .gtr (.tmp 20) (.const (.int .i64 60))⟩,
    ⟨(some 22), none, .pick (.tmp 17) (.const (.bool true)) (.tmp 21)⟩])
  (.kept [1, 22] (.cond (.tmp 22) (.seq (.ops [⟨(some 2), none, .mv (.const (.bool false))⟩])
  (.ret)) (.skip))))
  (.kept [1] (.seq (.seq (.ops [⟨(some 23), none, .fa 3 (.tmp 1)⟩,
    ⟨(some 24), none, .load none (.tmp 23)⟩,
    ⟨(some 25), none, .lens (.tmp 24)⟩,
    ⟨(some 26), none, .mv (.const (.int .i64 0))⟩])
  (.block 0 (.loop 1 [(1, 0), (24, 0), (25, 0), (26, 0)] c_impl_GoodNet_l1)))
  (.kept [] (.seq (.ops [⟨(some 2), none, .mv (.const (.bool true))⟩])
  (.ret))))))
theorem h_impl_GoodNet : (Try.prog.funcs[n_impl_GoodNet]?).bind (fun fn => fn.body.bind (comp Try.prog fn.ntmps)) = some (AS.strip c_impl_GoodNet) := by kernel_rfl
theorem r_impl_GoodNet : (Try.prog.funcs[n_impl_GoodNet]?).map (fun fn => (fn.results.toList, fn.ntmps)) = some ([.tmp 2], 52) := by kernel_rfl
-- 22 (loop.example/g00850/impl.Net).sent
abbrev n_impl_Net_sent : Nat := 22
def c_impl_Net_sent : AS :=
  .seq (.ops [⟨(some 4), none, .box (.tmp 0)⟩,
    ⟨(some 8), none, .alloc (.agg #[.int .i64 0, .slice none 0 0, .int .i64 0, .slice none 0 0])⟩,
    ⟨(some 9), none, .mv (.const (.bool false))⟩])
  (.seq (.seq (.ops [⟨(some 11), none, .load (some 4) (.tmp 4)⟩,
    ⟨(some 12), none, .mv (.tmp 1)⟩,
    ⟨(some 13), none, .call 23 [(.tmp 11), (.tmp 12)]⟩,
    ⟨(some 14), none, .not (.tmp 13)⟩,
    ⟨(some 15), none, .mv (.tmp 14)⟩,
    ⟨(some 16), some (15, false), .load (some 4) (.tmp 4)⟩,
    ⟨(some 17), some (15, false), .mv (.tmp 2)⟩,
    ⟨(some 18), some (15, false), .call 23 [(.tmp 16), (.tmp 17)]⟩,
    ⟨(some 19), some (15, false), .not (.tmp 18)⟩,
    ⟨(some 20), none, .pick (.tmp 15) (.const (.bool true)) (.tmp 19)⟩,
    ⟨(some 21), none, .mv (.tmp 20)⟩,
    ⟨(some 22), some (21, false), .mv (.tmp 1)⟩,
    ⟨(some 23), some (21, false), .mv (.tmp 2)⟩,
    ⟨(some 24), some (21, false), .bin .eql (.tmp 22) (.tmp 23)⟩,
    ⟨(some 25), none, .pick (.tmp 21) (.const (.bool true)) (.tmp 24)⟩])
  (.kept [1, 2, 3, 4, 8, 25] (.cond (.tmp 25) (.seq (.ops [⟨(some 26), none, .build (.agg #[.int .i64 0, .slice none 0 0, .int .i64 0, .slice none 0 0]) []⟩,
    ⟨none, none, .store 4 (.tmp 8) (.tmp 26)⟩,
    ⟨(some 9), none, .mv (.const (.bool false))⟩])
  (.ret)) (.skip))))
  (.kept [1, 2, 3, 4, 8] (.seq (.tops [(1, 0), (2, 0), (3, 0), (4, 0), (8, 0), (10, 0)] (.rd ⟨(some 27), none, .mv (.tmp 1)⟩ (.rd ⟨(some 28), none, .mv (.tmp 2)⟩ (.rd ⟨(some 29), none, .fa 0 (.tmp 4)⟩ (.rd ⟨(some 30), none, .load none (.tmp 29)⟩ (.rd ⟨(some 31), none, .load (some 4) (.tmp 4)⟩ (.rd ⟨(some 32), none, .mv (.tmp 1)⟩ (.rd ⟨(some 33), none, .mv (.tmp 2)⟩ (.rd ⟨(some 36), none, .mv (.tmp 3)⟩ (.alt [⟨(some 36), none, .mv (.tmp 3)⟩, ⟨(some 30), none, .load none (.tmp 29)⟩, ⟨(some 29), none, .fa 0 (.tmp 4)⟩, ⟨(some 28), none, .mv (.tmp 2)⟩, ⟨(some 27), none, .mv (.tmp 1)⟩] ⟨(some 34), none, .call 24 [(.tmp 31), (.tmp 32), (.tmp 33)]⟩
    (.rd ⟨(some 35), none, .bin .add (.tmp 30) (.tmp 34)⟩ (.rd ⟨(some 37), none, .build (.agg #[.int .i64 0, .int .i64 0, .int .i64 0, .string ⟨⟨[]⟩⟩]) [(0, 1, (.tmp 27)), (1, 1, (.tmp 28)), (2, 1, (.tmp 35)), (3, 1, (.tmp 36))]⟩ (.alt [⟨(some 37), none, .build (.agg #[.int .i64 0, .int .i64 0, .int .i64 0, .string ⟨⟨[]⟩⟩]) [(0, 1, (.tmp 27)), (1, 1, (.tmp 28)), (2, 1, (.tmp 35)), (3, 1, (.tmp 36))]⟩, ⟨(some 35), none, .bin .add (.tmp 30) (.tmp 34)⟩, ⟨(some 36), none, .mv (.tmp 3)⟩, ⟨(some 30), none, .load none (.tmp 29)⟩, ⟨(some 29), none, .fa 0 (.tmp 4)⟩, ⟨(some 28), none, .mv (.tmp 2)⟩, ⟨(some 27), none, .mv (.tmp 1)⟩] ⟨(some 10), none, .alloc (.agg #[.int .i64 0, .int .i64 0, .int .i64 0, .string ⟨⟨[]⟩⟩])⟩
    (.alt [] ⟨none, none, .store 4 (.tmp 10) (.tmp 37)⟩
    (.done)
    (.none))
    (.none))))
    (.alt [⟨(some 36), none, .mv (.tmp 3)⟩, ⟨(some 33), none, .mv (.tmp 2)⟩, ⟨(some 32), none, .mv (.tmp 1)⟩, ⟨(some 31), none, .load (some 4) (.tmp 4)⟩, ⟨(some 30), none, .load none (.tmp 29)⟩, ⟨(some 29), none, .fa 0 (.tmp 4)⟩, ⟨(some 28), none, .mv (.tmp 2)⟩, ⟨(some 27), none, .mv (.tmp 1)⟩] ⟨(some 10), none, .alloc (.agg #[.int .i64 0, .int .i64 0, .int .i64 0, .string ⟨⟨[]⟩⟩])⟩
    (.alt [⟨(some 36), none, .mv (.tmp 3)⟩, ⟨(some 30), none, .load none (.tmp 29)⟩, ⟨(some 29), none, .fa 0 (.tmp 4)⟩, ⟨(some 28), none, .mv (.tmp 2)⟩, ⟨(some 27), none, .mv (.tmp 1)⟩] ⟨(some 34), none, .call 24 [(.tmp 31), (.tmp 32), (.tmp 33)]⟩
    (.rd ⟨(some 35), none, .bin .add (.tmp 30) (.tmp 34)⟩ (.rd ⟨(some 37), none, .build (.agg #[.int .i64 0, .int .i64 0, .int .i64 0, .string ⟨⟨[]⟩⟩]) [(0, 1, (.tmp 27)), (1, 1, (.tmp 28)), (2, 1, (.tmp 35)), (3, 1, (.tmp 36))]⟩ (.alt [] ⟨none, none, .store 4 (.tmp 10) (.tmp 37)⟩
    (.done)
    (.none))))
    (.none))
    (.none))))))))))))
  (.kept [4, 8, 10] (.seq (.seq (.ops [⟨(some 38), none, .load (some 4) (.tmp 4)⟩,
    ⟨(some 39), none, .load (some 4) (.tmp 10)⟩,
    ⟨(some 40), none, .call 39 [(.tmp 38), (.tmp 39)]⟩,
    ⟨(some 41), none, .not (.tmp 40)⟩,
    ⟨(some 42), none, .mv (.tmp 41)⟩,
    ⟨(some 43), some (42, false), .fa 3 (.tmp 4)⟩,
    ⟨(some 44), some (42, false), .load none (.tmp 43)⟩,
    ⟨(some 45), some (42, false), .lens (.tmp 44)⟩,
    ⟨(some 46), some (42, false), .bin .geq (.tmp 45) (.const (.int .i64 60))⟩,
    ⟨(some 47), none, .pick (.tmp 42) (.const (.bool true)) (.tmp 46)⟩])
  (.kept [4, 8, 10, 47] (.cond (.tmp 47) (.seq (.ops [⟨(some 48), none, .build (.agg #[.int .i64 0, .slice none 0 0, .int .i64 0, .slice none 0 0]) []⟩,
    ⟨none, none, .store 4 (.tmp 8) (.tmp 48)⟩,
    ⟨(some 9), none, .mv (.const (.bool false))⟩])
  (.ret)) (.skip))))
  (.kept [4, 8, 10] (.seq (.ops [⟨(some 49), none, .fa 1 (.tmp 4)⟩,
    ⟨(some 50), none, .load none (.tmp 49)⟩,
    ⟨(some 51), none, .call 17 [(.tmp 50)]⟩,
    ⟨(some 52), none, .fa 1 (.tmp 4)⟩,
    ⟨none, none, .store 1 (.tmp 52) (.tmp 51)⟩])
  (.seq (.ops [⟨(some 53), none, .fa 3 (.tmp 4)⟩,
    ⟨(some 54), none, .load none (.tmp 53)⟩,
    ⟨(some 55), none, .load (some 4) (.tmp 10)⟩,
    ⟨(some 56), none, .call 40 [(.tmp 54), (.tmp 55)]⟩,
    ⟨(some 57), none, .fa 3 (.tmp 4)⟩,
    ⟨none, none, .store 1 (.tmp 57) (.tmp 56)⟩])
  (.seq (.ops [⟨(some 58), none, .load (some 4) (.tmp 4)⟩,
    ⟨none, none, .store 4 (.tmp 8) (.tmp 58)⟩,
    ⟨(some 9), none, .mv (.const (.bool true))⟩])
  (.ret))))))))))
theorem h_impl_Net_sent : (Try.prog.funcs[n_impl_Net_sent]?).bind (fun fn => fn.body.bind (comp Try.prog fn.ntmps)) = some (AS.strip c_impl_Net_sent) := by kernel_rfl
theorem r_impl_Net_sent : (Try.prog.funcs[n_impl_Net_sent]?).map (fun fn => (fn.results.toList, fn.ntmps)) = some ([.cell 8 28, .tmp 9], 59) := by kernel_rfl
-- 23 (loop.example/g00850/impl.Net).isNode
abbrev n_impl_Net_isNode : Nat := 23
def c_impl_Net_isNode : AS :=
  .seq (.ops [⟨(some 2), none, .box (.tmp 0)⟩,
    ⟨(some 4), none, .mv (.const (.bool false))⟩])
  (.seq (.ops [⟨(some 5), none, .mv (.tmp 1)⟩,
    ⟨(some 6), none, .fa 1 (.tmp 2)⟩,
    ⟨(some 7), none, .load none (.tmp 6)⟩,
    ⟨(some 8), none, .lens (.tmp 7)⟩,
    ⟨(some 9), none, .bin .sub (.tmp 8) (.const (.int .i64 1))⟩,
    ⟨(some 10), none, .call 33 [(.tmp 5), (.const (.int .i64 0)), (.tmp 9)]⟩,
    ⟨(some 4), none, .mv (.tmp 10)⟩])
  (.ret))
theorem h_impl_Net_isNode : (Try.prog.funcs[n_impl_Net_isNode]?).bind (fun fn => fn.body.bind (comp Try.prog fn.ntmps)) = some (AS.strip c_impl_Net_isNode) := by kernel_rfl
theorem r_impl_Net_isNode : (Try.prog.funcs[n_impl_Net_isNode]?).map (fun fn => (fn.results.toList, fn.ntmps)) = some ([.tmp 4], 11) := by kernel_rfl
-- 24 (loop.example/g00850/impl.Net).trip
abbrev n_impl_Net_trip : Nat := 24
def c_impl_Net_trip : AS :=
  .seq (.ops [⟨(some 3), none, .box (.tmp 0)⟩,
    ⟨(some 6), none, .mv (.const (.int .i64 0))⟩])
  (.seq (.dops [⟨(some 8), none, .fa 1 (.tmp 3)⟩,
    ⟨(some 9), none, .load none (.tmp 8)⟩,
    ⟨(some 10), none, .mv (.tmp 1)⟩,
    ⟨(some 11), none, .ia 1 (.tmp 9) (.tmp 10)⟩,
    ⟨(some 12), none, .load none (.tmp 11)⟩,
    ⟨(some 13), none, .fa 1 (.tmp 3)⟩,
    ⟨(some 14), none, .load none (.tmp 13)⟩,
    ⟨(some 15), none, .mv (.tmp 2)⟩,
    ⟨(some 16), none, .ia 1 (.tmp 14) (.tmp 15)⟩,
    ⟨(some 17), none, .load none (.tmp 16)⟩,
    ⟨(some 18), none, .bin .sub (.tmp 12) (.tmp 17)⟩,
    ⟨(some 7), none, .mv (.tmp 18)⟩])
  (.kept [3, 7] (.seq (.ops [⟨(some 19), none, .fa 2 (.tmp 3)⟩,
    ⟨(some 20), none, .load none (.tmp 19)⟩,
    ⟨(some 21), none, .mv (.tmp 7)⟩,
    ⟨(some 22), none, .mv (.tmp 7)⟩,
    ⟨(some 23), none, .neg (.tmp 22)⟩,
    ⟨(some 24), none, .bmax [(.tmp 21), (.tmp 23)]⟩,
    ⟨(some 25), none, .bin .mul (.tmp 20) (.tmp 24)⟩,
    ⟨(some 26), none, .bin .add (.const (.int .i64 1)) (.tmp 25)⟩,
    ⟨(some 6), none, .mv (.tmp 26)⟩])
  (.ret))))
theorem h_impl_Net_trip : (Try.prog.funcs[n_impl_Net_trip]?).bind (fun fn => fn.body.bind (comp Try.prog fn.ntmps)) = some (AS.strip c_impl_Net_trip) := by kernel_rfl
theorem r_impl_Net_trip : (Try.prog.funcs[n_impl_Net_trip]?).map (fun fn => (fn.results.toList, fn.ntmps)) = some ([.tmp 6], 27) := by kernel_rfl
-- 25 loop.example/g00850/spec.l7Node
abbrev n_spec_l7Node : Nat := 25
def c_spec_l7Node : AS :=
  .seq (.ops [⟨(some 2), none, .box (.tmp 0)⟩,
    ⟨(some 4), none, .mv (.const (.bool false))⟩])
  (.seq (.ops [⟨(some 5), none, .mv (.tmp 1)⟩,
    ⟨(some 6), none, .fa 1 (.tmp 2)⟩,
    ⟨(some 7), none, .load none (.tmp 6)⟩,
    ⟨(some 8), none, .lens (.tmp 7)⟩,
    ⟨(some 9), none, .bin .sub (.tmp 8) (.const (.int .i64 1))⟩,
    ⟨(some 10), none, .call 36 [(.tmp 5), (.const (.int .i64 0)), (.tmp 9)]⟩,
    ⟨(some 4), none, .mv (.tmp 10)⟩])
  (.ret))
theorem h_spec_l7Node : (Try.prog.funcs[n_spec_l7Node]?).bind (fun fn => fn.body.bind (comp Try.prog fn.ntmps)) = some (AS.strip c_spec_l7Node) := by kernel_rfl
theorem r_spec_l7Node : (Try.prog.funcs[n_spec_l7Node]?).map (fun fn => (fn.results.toList, fn.ntmps)) = some ([.tmp 4], 11) := by kernel_rfl
-- 26 loop.example/g00850/spec.l7If
abbrev n_spec_l7If : Nat := 26
def c_spec_l7If : AS :=
  .seq (.ops [⟨(some 1), none, .box (.tmp 0)⟩,
    ⟨(some 2), none, .alloc (.agg #[.int .i64 0, .slice none 0 0, .int .i64 0, .slice none 0 0])⟩,
    ⟨(some 3), none, .mv (.const (.bool false))⟩])
  (.seq (.seq (.ops [⟨(some 4), none, .load (some 4) (.tmp 1)⟩,
    ⟨(some 5), none, .call 19 [(.tmp 4)]⟩,
    ⟨(some 6), none, .not (.tmp 5)⟩])
  (.cond (.tmp 6) (.seq (.ops [⟨(some 7), none, .build (.agg #[.int .i64 0, .slice none 0 0, .int .i64 0, .slice none 0 0]) []⟩,
    ⟨none, none, .store 4 (.tmp 2) (.tmp 7)⟩,
    ⟨(some 3), none, .mv (.const (.bool false))⟩])
  (.ret)) (.skip)))
  (.seq (.ops [⟨(some 8), none, .load (some 4) (.tmp 1)⟩,
    ⟨none, none, .store 4 (.tmp 2) (.tmp 8)⟩,
    ⟨(some 3), none, .mv (.const (.bool true))⟩])
  (.ret)))
theorem h_spec_l7If : (Try.prog.funcs[n_spec_l7If]?).bind (fun fn => fn.body.bind (comp Try.prog fn.ntmps)) = some (AS.strip c_spec_l7If) := by kernel_rfl
theorem r_spec_l7If : (Try.prog.funcs[n_spec_l7If]?).map (fun fn => (fn.results.toList, fn.ntmps)) = some ([.cell 2 28, .tmp 3], 9) := by kernel_rfl
-- 27 loop.example/g00850/spec.l7Own
abbrev n_spec_l7Own : Nat := 27
def c_spec_l7Own : AS :=
  .seq (.ops [⟨(some 2), none, .box (.tmp 0)⟩,
    ⟨(some 4), none, .alloc (.agg #[.int .i64 0, .slice none 0 0, .int .i64 0, .slice none 0 0])⟩])
  (.seq (.rops [(none, ⟨(some 5), none, .fa 0 (.tmp 2)⟩),
    (none, ⟨(some 6), none, .load none (.tmp 5)⟩),
    (none, ⟨(some 7), none, .fa 1 (.tmp 2)⟩),
    (none, ⟨(some 8), none, .load none (.tmp 7)⟩),
    (none, ⟨(some 10), none, .fa 2 (.tmp 2)⟩),
    (none, ⟨(some 11), none, .load none (.tmp 10)⟩),
    (none, ⟨(some 12), none, .mv (.tmp 1)⟩),
    (some [⟨(some 12), none, .mv (.tmp 1)⟩, ⟨(some 11), none, .load none (.tmp 10)⟩, ⟨(some 10), none, .fa 2 (.tmp 2)⟩, ⟨(some 6), none, .load none (.tmp 5)⟩, ⟨(some 5), none, .fa 0 (.tmp 2)⟩], ⟨(some 9), none, .call 18 [(.tmp 8)]⟩),
    (some [⟨(some 11), none, .load none (.tmp 10)⟩, ⟨(some 10), none, .fa 2 (.tmp 2)⟩, ⟨(some 6), none, .load none (.tmp 5)⟩, ⟨(some 5), none, .fa 0 (.tmp 2)⟩], ⟨(some 13), none, .call 32 [(.tmp 12)]⟩),
    (none, ⟨(some 14), none, .build (.agg #[.int .i64 0, .slice none 0 0, .int .i64 0, .slice none 0 0]) [(0, 1, (.tmp 6)), (1, 1, (.tmp 9)), (2, 1, (.tmp 11)), (3, 1, (.tmp 13))]⟩),
    (some [], ⟨none, none, .store 4 (.tmp 4) (.tmp 14)⟩)])
  (.ret))
theorem h_spec_l7Own : (Try.prog.funcs[n_spec_l7Own]?).bind (fun fn => fn.body.bind (comp Try.prog fn.ntmps)) = some (AS.strip c_spec_l7Own) := by kernel_rfl
theorem r_spec_l7Own : (Try.prog.funcs[n_spec_l7Own]?).map (fun fn => (fn.results.toList, fn.ntmps)) = some ([.cell 4 28], 15) := by kernel_rfl
-- 28 loop.example/g00850/spec.l7In
abbrev n_spec_l7In : Nat := 28
def c_spec_l7In_l1 : AS :=
  .seq (.seq (.dops [⟨(some 6), none, .mv (.tmp 5)⟩,
    ⟨(some 7), none, .mv (.tmp 0)⟩,
    ⟨(some 8), none, .lens (.tmp 7)⟩,
    ⟨(some 9), none, .bin .lss (.tmp 6) (.tmp 8)⟩,
    ⟨(some 10), none, .mv (.tmp 9)⟩,
    ⟨(some 11), some (10, true), .mv (.tmp 0)⟩,
    ⟨(some 12), some (10, true), .mv (.tmp 5)⟩,
    ⟨(some 13), some (10, true), .ia 4 (.tmp 11) (.tmp 12)⟩,
    ⟨(some 14), some (10, true), .fa 2 (.tmp 13)⟩,
    ⟨(some 15), some (10, true), .load none (.tmp 14)⟩,
    ⟨(some 16), some (10, true), .fa 2 (.tmp 3)⟩,
    ⟨(some 17), some (10, true), .load none (.tmp 16)⟩,
    ⟨(some 18), some (10, true), .bin .leq (.tmp 15) (.tmp 17)⟩,
    ⟨(some 19), none, .pick (.tmp 10) (.tmp 18) (.const (.bool false))⟩])
  (.kept [0, 3, 5, 19] (.cond (.tmp 19) (.skip) (.exit 0))))
  (.kept [0, 3, 5] (.block 1 (.ops [⟨(some 20), none, .mv (.tmp 5)⟩,
    ⟨(some 21), none, .bin .add (.tmp 20) (.const (.int .i64 1))⟩,
    ⟨(some 5), none, .mv (.tmp 21)⟩])))
def c_spec_l7In : AS :=
  .seq (.ops [⟨(some 3), none, .box (.tmp 1)⟩,
    ⟨(some 4), none, .mv (.const (.slice none 0 0))⟩])
  (.seq (.ops [⟨(some 5), none, .mv (.const (.int .i64 0))⟩])
  (.seq (.block 0 (.loop 2 [(0, 0), (3, 0), (5, 0)] c_spec_l7In_l1))
  (.kept [0, 3, 5] (.seq (.tops [(0, 0), (4, 0)] (.rd ⟨(some 22), none, .mv (.tmp 0)⟩ (.rd ⟨(some 23), none, .mv (.tmp 5)⟩ (.rd ⟨(some 24), none, .sls 4 (.tmp 22) none (some (.tmp 23)) none⟩ (.rd ⟨(some 26), none, .load (some 4) (.tmp 3)⟩ (.rd ⟨(some 29), none, .mv (.tmp 0)⟩ (.rd ⟨(some 30), none, .mv (.tmp 5)⟩ (.rd ⟨(some 31), none, .sls 4 (.tmp 29) (some (.tmp 30)) none none⟩ (.alt [⟨(some 31), none, .sls 4 (.tmp 29) (some (.tmp 30)) none none⟩, ⟨(some 30), none, .mv (.tmp 5)⟩, ⟨(some 29), none, .mv (.tmp 0)⟩, ⟨(some 26), none, .load (some 4) (.tmp 3)⟩] ⟨(some 25), none, .call 32 [(.tmp 24)]⟩
    (.alt [⟨(some 31), none, .sls 4 (.tmp 29) (some (.tmp 30)) none none⟩, ⟨(some 30), none, .mv (.tmp 5)⟩, ⟨(some 29), none, .mv (.tmp 0)⟩] ⟨(some 27), none, .bsl 4 (.agg #[.int .i64 0, .int .i64 0, .int .i64 0, .string ⟨⟨[]⟩⟩]) 1 [(0, (.tmp 26))]⟩
    (.alt [⟨(some 31), none, .sls 4 (.tmp 29) (some (.tmp 30)) none none⟩, ⟨(some 30), none, .mv (.tmp 5)⟩, ⟨(some 29), none, .mv (.tmp 0)⟩] ⟨(some 28), none, .app 4 40 (.agg #[.int .i64 0, .int .i64 0, .int .i64 0, .string ⟨⟨[]⟩⟩]) (.tmp 25) (.tmp 27)⟩
    (.alt [] ⟨(some 32), none, .app 4 40 (.agg #[.int .i64 0, .int .i64 0, .int .i64 0, .string ⟨⟨[]⟩⟩]) (.tmp 28) (.tmp 31)⟩
    (.rd ⟨(some 4), none, .mv (.tmp 32)⟩ (.done))
    (.none))
    (.none))
    (.none))
    (.alt [⟨(some 31), none, .sls 4 (.tmp 29) (some (.tmp 30)) none none⟩, ⟨(some 30), none, .mv (.tmp 5)⟩, ⟨(some 29), none, .mv (.tmp 0)⟩, ⟨(some 24), none, .sls 4 (.tmp 22) none (some (.tmp 23)) none⟩, ⟨(some 23), none, .mv (.tmp 5)⟩, ⟨(some 22), none, .mv (.tmp 0)⟩] ⟨(some 27), none, .bsl 4 (.agg #[.int .i64 0, .int .i64 0, .int .i64 0, .string ⟨⟨[]⟩⟩]) 1 [(0, (.tmp 26))]⟩
    (.alt [⟨(some 31), none, .sls 4 (.tmp 29) (some (.tmp 30)) none none⟩, ⟨(some 30), none, .mv (.tmp 5)⟩, ⟨(some 29), none, .mv (.tmp 0)⟩] ⟨(some 25), none, .call 32 [(.tmp 24)]⟩
    (.alt [⟨(some 31), none, .sls 4 (.tmp 29) (some (.tmp 30)) none none⟩, ⟨(some 30), none, .mv (.tmp 5)⟩, ⟨(some 29), none, .mv (.tmp 0)⟩] ⟨(some 28), none, .app 4 40 (.agg #[.int .i64 0, .int .i64 0, .int .i64 0, .string ⟨⟨[]⟩⟩]) (.tmp 25) (.tmp 27)⟩
    (.alt [] ⟨(some 32), none, .app 4 40 (.agg #[.int .i64 0, .int .i64 0, .int .i64 0, .string ⟨⟨[]⟩⟩]) (.tmp 28) (.tmp 31)⟩
    (.rd ⟨(some 4), none, .mv (.tmp 32)⟩ (.done))
    (.none))
    (.none))
    (.none))
    (.none)))))))))))
  (.ret)))))
theorem h_spec_l7In : (Try.prog.funcs[n_spec_l7In]?).bind (fun fn => fn.body.bind (comp Try.prog fn.ntmps)) = some (AS.strip c_spec_l7In) := by kernel_rfl
theorem r_spec_l7In : (Try.prog.funcs[n_spec_l7In]?).map (fun fn => (fn.results.toList, fn.ntmps)) = some ([.tmp 4], 33) := by kernel_rfl
-- 29 loop.example/g00850/spec.l7Trip
abbrev n_spec_l7Trip : Nat := 29
def c_spec_l7Trip : AS :=
  .seq (.ops [⟨(some 3), none, .box (.tmp 0)⟩,
    ⟨(some 6), none, .mv (.const (.int .i64 0))⟩])
  (.seq (.dops [⟨(some 8), none, .fa 1 (.tmp 3)⟩,
    ⟨(some 9), none, .load none (.tmp 8)⟩,
    ⟨(some 10), none, .mv (.tmp 1)⟩,
    ⟨(some 11), none, .ia 1 (.tmp 9) (.tmp 10)⟩,
    ⟨(some 12), none, .load none (.tmp 11)⟩,
    ⟨(some 13), none, .fa 1 (.tmp 3)⟩,
    ⟨(some 14), none, .load none (.tmp 13)⟩,
    ⟨(some 15), none, .mv (.tmp 2)⟩,
    ⟨(some 16), none, .ia 1 (.tmp 14) (.tmp 15)⟩,
    ⟨(some 17), none, .load none (.tmp 16)⟩,
    ⟨(some 18), none, .bin .sub (.tmp 12) (.tmp 17)⟩,
    ⟨(some 7), none, .mv (.tmp 18)⟩])
  (.kept [3, 7] (.seq (.rops [(none, ⟨(some 19), none, .fa 2 (.tmp 3)⟩),
    (none, ⟨(some 20), none, .load none (.tmp 19)⟩),
    (none, ⟨(some 21), none, .mv (.tmp 7)⟩),
    (none, ⟨(some 22), none, .mv (.tmp 7)⟩),
    (none, ⟨(some 23), none, .neg (.tmp 22)⟩),
    (some [⟨(some 20), none, .load none (.tmp 19)⟩, ⟨(some 19), none, .fa 2 (.tmp 3)⟩], ⟨(some 24), none, .call 41 [(.tmp 21), (.tmp 23)]⟩),
    (none, ⟨(some 25), none, .bin .mul (.tmp 20) (.tmp 24)⟩),
    (none, ⟨(some 26), none, .bin .add (.const (.int .i64 1)) (.tmp 25)⟩),
    (none, ⟨(some 6), none, .mv (.tmp 26)⟩)])
  (.ret))))
theorem h_spec_l7Trip : (Try.prog.funcs[n_spec_l7Trip]?).bind (fun fn => fn.body.bind (comp Try.prog fn.ntmps)) = some (AS.strip c_spec_l7Trip) := by kernel_rfl
theorem r_spec_l7Trip : (Try.prog.funcs[n_spec_l7Trip]?).map (fun fn => (fn.results.toList, fn.ntmps)) = some ([.tmp 6], 27) := by kernel_rfl
-- 30 loop.example/g00850/impl.copyNet
abbrev n_impl_copyNet : Nat := 30
def c_impl_copyNet : AS :=
  .seq (.ops [⟨(some 1), none, .box (.tmp 0)⟩,
    ⟨(some 2), none, .alloc (.agg #[.int .i64 0, .slice none 0 0, .int .i64 0, .slice none 0 0])⟩])
  (.seq (.ops [⟨(some 3), none, .fa 1 (.tmp 1)⟩,
    ⟨(some 4), none, .load none (.tmp 3)⟩,
    ⟨(some 5), none, .call 17 [(.tmp 4)]⟩,
    ⟨(some 6), none, .fa 1 (.tmp 1)⟩,
    ⟨none, none, .store 1 (.tmp 6) (.tmp 5)⟩])
  (.seq (.ops [⟨(some 7), none, .fa 3 (.tmp 1)⟩,
    ⟨(some 8), none, .load none (.tmp 7)⟩,
    ⟨(some 9), none, .call 42 [(.tmp 8)]⟩,
    ⟨(some 10), none, .fa 3 (.tmp 1)⟩,
    ⟨none, none, .store 1 (.tmp 10) (.tmp 9)⟩])
  (.seq (.ops [⟨(some 11), none, .load (some 4) (.tmp 1)⟩,
    ⟨none, none, .store 4 (.tmp 2) (.tmp 11)⟩])
  (.ret))))
theorem h_impl_copyNet : (Try.prog.funcs[n_impl_copyNet]?).bind (fun fn => fn.body.bind (comp Try.prog fn.ntmps)) = some (AS.strip c_impl_copyNet) := by kernel_rfl
theorem r_impl_copyNet : (Try.prog.funcs[n_impl_copyNet]?).map (fun fn => (fn.results.toList, fn.ntmps)) = some ([.cell 2 28], 12) := by kernel_rfl
-- 31 (loop.example/g00850/impl.Net).delivered
abbrev n_impl_Net_delivered : Nat := 31
def c_impl_Net_delivered : AS :=
  .seq (.ops [⟨(some 1), none, .box (.tmp 0)⟩,
    ⟨(some 2), none, .alloc (.agg #[.int .i64 0, .slice none 0 0, .int .i64 0, .slice none 0 0])⟩,
    ⟨(some 3), none, .mv (.const (.slice none 0 0))⟩])
  (.seq (.ops [⟨(some 6), none, .fa 3 (.tmp 1)⟩,
    ⟨(some 7), none, .load none (.tmp 6)⟩,
    ⟨(some 8), none, .mkf 44 [(.tmp 1)]⟩,
    ⟨(some 9), none, .call 43 [(.tmp 7), (.tmp 8)]⟩,
    ⟨(some 4), none, .mv (.tmp 9)⟩])
  (.seq (.seq (.ops [⟨(some 10), none, .mv (.tmp 4)⟩,
    ⟨(some 11), none, .bin .lss (.tmp 10) (.const (.int .i64 0))⟩])
  (.cond (.tmp 11) (.ops [⟨(some 12), none, .fa 3 (.tmp 1)⟩,
    ⟨(some 13), none, .load none (.tmp 12)⟩,
    ⟨(some 14), none, .lens (.tmp 13)⟩,
    ⟨(some 4), none, .mv (.tmp 14)⟩]) (.skip)))
  (.seq (.ops [⟨(some 15), none, .load (some 4) (.tmp 1)⟩,
    ⟨(some 16), none, .call 30 [(.tmp 15)]⟩,
    ⟨(some 5), none, .alloc (.agg #[.int .i64 0, .slice none 0 0, .int .i64 0, .slice none 0 0])⟩,
    ⟨none, none, .store 4 (.tmp 5) (.tmp 16)⟩])
  (.seq (.ops [⟨(some 17), none, .fa 3 (.tmp 1)⟩,
    ⟨(some 18), none, .load none (.tmp 17)⟩,
    ⟨(some 19), none, .mv (.tmp 4)⟩,
    ⟨(some 20), none, .sls 4 (.tmp 18) (some (.tmp 19)) none none⟩,
    ⟨(some 21), none, .call 42 [(.tmp 20)]⟩,
    ⟨(some 22), none, .fa 3 (.tmp 5)⟩,
    ⟨none, none, .store 1 (.tmp 22) (.tmp 21)⟩])
  (.kept [1, 2, 4, 5] (.seq (.rops [(none, ⟨(some 23), none, .load (some 4) (.tmp 5)⟩),
    (none, ⟨(some 24), none, .fa 3 (.tmp 1)⟩),
    (none, ⟨(some 25), none, .load none (.tmp 24)⟩),
    (none, ⟨(some 26), none, .mv (.tmp 4)⟩),
    (none, ⟨(some 27), none, .sls 4 (.tmp 25) none (some (.tmp 26)) none⟩),
    (some [⟨(some 23), none, .load (some 4) (.tmp 5)⟩], ⟨(some 28), none, .call 42 [(.tmp 27)]⟩),
    (some [], ⟨none, none, .store 4 (.tmp 2) (.tmp 23)⟩),
    (none, ⟨(some 3), none, .mv (.tmp 28)⟩)])
  (.ret)))))))
theorem h_impl_Net_delivered : (Try.prog.funcs[n_impl_Net_delivered]?).bind (fun fn => fn.body.bind (comp Try.prog fn.ntmps)) = some (AS.strip c_impl_Net_delivered) := by kernel_rfl
theorem r_impl_Net_delivered : (Try.prog.funcs[n_impl_Net_delivered]?).map (fun fn => (fn.results.toList, fn.ntmps)) = some ([.cell 2 28, .tmp 3], 29) := by kernel_rfl
-- 32 loop.example/g00850/spec.l7OwnL
abbrev n_spec_l7OwnL : Nat := 32
def c_spec_l7OwnL : AS :=
  .seq (.ops [⟨(some 2), none, .mv (.const (.slice none 0 0))⟩])
  (.seq (.ops [⟨(some 3), none, .bsl 4 (.agg #[.int .i64 0, .int .i64 0, .int .i64 0, .string ⟨⟨[]⟩⟩]) 0 []⟩,
    ⟨(some 4), none, .mv (.tmp 0)⟩,
    ⟨(some 5), none, .app 4 40 (.agg #[.int .i64 0, .int .i64 0, .int .i64 0, .string ⟨⟨[]⟩⟩]) (.tmp 3) (.tmp 4)⟩,
    ⟨(some 2), none, .mv (.tmp 5)⟩])
  (.ret))
theorem h_spec_l7OwnL : (Try.prog.funcs[n_spec_l7OwnL]?).bind (fun fn => fn.body.bind (comp Try.prog fn.ntmps)) = some (AS.strip c_spec_l7OwnL) := by kernel_rfl
theorem r_spec_l7OwnL : (Try.prog.funcs[n_spec_l7OwnL]?).map (fun fn => (fn.results.toList, fn.ntmps)) = some ([.tmp 2], 6) := by kernel_rfl
-- 33 loop.example/g00850/impl.within
abbrev n_impl_within : Nat := 33
def c_impl_within : AS :=
  .seq (.ops [⟨(some 6), none, .mv (.const (.bool false))⟩])
  (.seq (.ops [⟨(some 7), none, .mv (.tmp 0)⟩,
    ⟨(some 8), none, .mv (.tmp 1)⟩,
    ⟨(some 9), none, .bin .geq (.tmp 7) (.tmp 8)⟩,
    ⟨(some 10), none, .mv (.tmp 9)⟩,
    ⟨(some 11), some (10, true), .mv (.tmp 0)⟩,
    ⟨(some 12), some (10, true), .mv (.tmp 2)⟩,
    ⟨(some 13), some (10, true), .bin .leq (.tmp 11) (.tmp 12)⟩,
    ⟨(some 14), none, .pick (.tmp 10) (.tmp 13) (.const (.bool false))⟩,
    ⟨(some 6), none, .mv (.tmp 14)⟩])
  (.ret))
theorem h_impl_within : (Try.prog.funcs[n_impl_within]?).bind (fun fn => fn.body.bind (comp Try.prog fn.ntmps)) = some (AS.strip c_impl_within) := by kernel_rfl
theorem r_impl_within : (Try.prog.funcs[n_impl_within]?).map (fun fn => (fn.results.toList, fn.ntmps)) = some ([.tmp 6], 15) := by kernel_rfl
-- 34 slices.ContainsFunc[[]int,int]
abbrev n_slices_ContainsFunc___int_int_ : Nat := 34
def c_slices_ContainsFunc___int_int_ : AS :=
  .seq (.ops [⟨(some 4), none, .mv (.const (.bool false))⟩])
  (.seq (.ops [⟨(some 5), none, .mv (.tmp 0)⟩,
    ⟨(some 6), none, .mv (.tmp 1)⟩,
    ⟨(some 7), none, .call 45 [(.tmp 5), (.tmp 6)]⟩,
    ⟨(some 8), none, .bin .geq (.tmp 7) (.const (.int .i64 0))⟩,
    ⟨(some 4), none, .mv (.tmp 8)⟩])
  (.ret))
theorem h_slices_ContainsFunc___int_int_ : (Try.prog.funcs[n_slices_ContainsFunc___int_int_]?).bind (fun fn => fn.body.bind (comp Try.prog fn.ntmps)) = some (AS.strip c_slices_ContainsFunc___int_int_) := by kernel_rfl
theorem r_slices_ContainsFunc___int_int_ : (Try.prog.funcs[n_slices_ContainsFunc___int_int_]?).map (fun fn => (fn.results.toList, fn.ntmps)) = some ([.tmp 4], 9) := by kernel_rfl
-- 35 loop.example/g00850/impl.areHomes$1
abbrev n_impl_areHomes_1 : Nat := 35
def c_impl_areHomes_1 : AS :=
  .seq (.ops [⟨(some 2), none, .mv (.const (.bool false))⟩])
  (.seq (.ops [⟨(some 3), none, .mv (.tmp 0)⟩,
    ⟨(some 4), none, .call 33 [(.tmp 3), (.const (.int .i64 0)), (.const (.int .i64 2))]⟩,
    ⟨(some 5), none, .not (.tmp 4)⟩,
    ⟨(some 2), none, .mv (.tmp 5)⟩])
  (.ret))
theorem h_impl_areHomes_1 : (Try.prog.funcs[n_impl_areHomes_1]?).bind (fun fn => fn.body.bind (comp Try.prog fn.ntmps)) = some (AS.strip c_impl_areHomes_1) := by kernel_rfl
theorem r_impl_areHomes_1 : (Try.prog.funcs[n_impl_areHomes_1]?).map (fun fn => (fn.results.toList, fn.ntmps)) = some ([.tmp 2], 6) := by kernel_rfl
-- 36 loop.example/g00850/spec.l1In
abbrev n_spec_l1In : Nat := 36
def c_spec_l1In : AS :=
  .seq (.ops [⟨(some 6), none, .mv (.const (.bool false))⟩])
  (.seq (.ops [⟨(some 7), none, .mv (.tmp 0)⟩,
    ⟨(some 8), none, .mv (.tmp 1)⟩,
    ⟨(some 9), none, .bin .geq (.tmp 7) (.tmp 8)⟩,
    ⟨(some 10), none, .mv (.tmp 9)⟩,
    ⟨(some 11), some (10, true), .mv (.tmp 0)⟩,
    ⟨(some 12), some (10, true), .mv (.tmp 2)⟩,
    ⟨(some 13), some (10, true), .bin .leq (.tmp 11) (.tmp 12)⟩,
    ⟨(some 14), none, .pick (.tmp 10) (.tmp 13) (.const (.bool false))⟩,
    ⟨(some 6), none, .mv (.tmp 14)⟩])
  (.ret))
theorem h_spec_l1In : (Try.prog.funcs[n_spec_l1In]?).bind (fun fn => fn.body.bind (comp Try.prog fn.ntmps)) = some (AS.strip c_spec_l1In) := by kernel_rfl
theorem r_spec_l1In : (Try.prog.funcs[n_spec_l1In]?).map (fun fn => (fn.results.toList, fn.ntmps)) = some ([.tmp 6], 15) := by kernel_rfl
-- 37 loop.example/g00850/spec.l1All
abbrev n_spec_l1All : Nat := 37
def c_spec_l1All_l1 : AS :=
  .seq (.ops [⟨(some 12), none, .bin .lss (.tmp 11) (.tmp 10)⟩])
  (.seq (.cond (.tmp 12) (.skip) (.exit 0))
  (.seq (.block 1 (.seq (.ops [⟨(some 13), none, .ia 1 (.tmp 9) (.tmp 11)⟩,
    ⟨(some 14), none, .load none (.tmp 13)⟩,
    ⟨(some 8), none, .mv (.tmp 14)⟩])
  (.seq (.ops [⟨(some 15), none, .mv (.tmp 8)⟩,
    ⟨(some 16), none, .mv (.tmp 1)⟩,
    ⟨(some 17), none, .mv (.tmp 2)⟩,
    ⟨(some 18), none, .call 36 [(.tmp 15), (.tmp 16), (.tmp 17)]⟩,
    ⟨(some 19), none, .not (.tmp 18)⟩])
  (.cond (.tmp 19) (.seq (.ops [⟨(some 6), none, .mv (.const (.bool false))⟩])
  (.ret)) (.skip)))))
  (.kept [1, 2, 9, 10, 11] (.ops [⟨(some 20), none, .bin .add (.tmp 11) (.const (.int .i64 1))⟩,
    ⟨(some 11), none, .mv (.tmp 20)⟩]))))
def c_spec_l1All : AS :=
  .seq (.ops [⟨(some 6), none, .mv (.const (.bool false))⟩])
  (.seq (.seq (.ops [⟨(some 9), none, .mv (.tmp 0)⟩,
    ⟨(some 10), none, .lens (.tmp 9)⟩,
    ⟨(some 11), none, .mv (.const (.int .i64 0))⟩])
  (.block 0 (.loop 3 [(1, 0), (2, 0), (9, 0), (10, 0), (11, 0)] c_spec_l1All_l1)))
  (.kept [] (.seq (.ops [⟨(some 6), none, .mv (.const (.bool true))⟩])
  (.ret))))
theorem h_spec_l1All : (Try.prog.funcs[n_spec_l1All]?).bind (fun fn => fn.body.bind (comp Try.prog fn.ntmps)) = some (AS.strip c_spec_l1All) := by kernel_rfl
theorem r_spec_l1All : (Try.prog.funcs[n_spec_l1All]?).map (fun fn => (fn.results.toList, fn.ntmps)) = some ([.tmp 6], 21) := by kernel_rfl
-- 38 loop.example/g00850/impl.isTrue
abbrev n_impl_isTrue : Nat := 38
def c_impl_isTrue : AS :=
  .seq (.ops [⟨(some 2), none, .mv (.const (.bool false))⟩])
  (.seq (.ops [⟨(some 3), none, .mv (.tmp 0)⟩,
    ⟨(some 4), none, .call 33 [(.tmp 3), (.const (.int .i64 0)), (.const (.int .i64 100000))]⟩,
    ⟨(some 2), none, .mv (.tmp 4)⟩])
  (.ret))
theorem h_impl_isTrue : (Try.prog.funcs[n_impl_isTrue]?).bind (fun fn => fn.body.bind (comp Try.prog fn.ntmps)) = some (AS.strip c_impl_isTrue) := by kernel_rfl
theorem r_impl_isTrue : (Try.prog.funcs[n_impl_isTrue]?).map (fun fn => (fn.results.toList, fn.ntmps)) = some ([.tmp 2], 5) := by kernel_rfl
-- 39 (loop.example/g00850/impl.Net).isLetter
abbrev n_impl_Net_isLetter : Nat := 39
def c_impl_Net_isLetter : AS :=
  .seq (.ops [⟨(some 2), none, .box (.tmp 0)⟩,
    ⟨(some 3), none, .box (.tmp 1)⟩,
    ⟨(some 4), none, .mv (.const (.bool false))⟩])
  (.seq (.ops [⟨(some 5), none, .load (some 4) (.tmp 2)⟩,
    ⟨(some 6), none, .fa 0 (.tmp 3)⟩,
    ⟨(some 7), none, .load none (.tmp 6)⟩,
    ⟨(some 8), none, .call 23 [(.tmp 5), (.tmp 7)]⟩,
    ⟨(some 9), none, .mv (.tmp 8)⟩,
    ⟨(some 10), some (9, true), .load (some 4) (.tmp 2)⟩,
    ⟨(some 11), some (9, true), .fa 1 (.tmp 3)⟩,
    ⟨(some 12), some (9, true), .load none (.tmp 11)⟩,
    ⟨(some 13), some (9, true), .call 23 [(.tmp 10), (.tmp 12)]⟩,
    ⟨(some 14), none, .pick (.tmp 9) (.tmp 13) (.const (.bool false))⟩,
    ⟨(some 15), none, .mv (.tmp 14)⟩,
    ⟨(some 16), some (15, true), .fa 0 (.tmp 3)⟩,
    ⟨(some 17), some (15, true), .load none (.tmp 16)⟩,
    ⟨(some 18), some (15, true), .fa 1 (.tmp 3)⟩,
    ⟨(some 19), some (15, true), .load none (.tmp 18)⟩,
    ⟨(some 20), some (15, true), .bin .neq (.tmp 17) (.tmp 19)⟩,
    ⟨(some 21), none, .pick (.tmp 15) (.tmp 20) (.const (.bool false))⟩,
    ⟨(some 22), none, .mv (.tmp 21)⟩,
    ⟨(some 23), some (22, true), .fa 2 (.tmp 3)⟩,
    ⟨(some 24), some (22, true), .load none (.tmp 23)⟩,
    ⟨(some 25), some (22, true), .call 33 [(.tmp 24), (.const (.int .i64 0)), (.const (.int .i64 100200))]⟩,
    ⟨(some 26), none, .pick (.tmp 22) (.tmp 25) (.const (.bool false))⟩,
    ⟨(some 27), none, .mv (.tmp 26)⟩,
    ⟨(some 28), some (27, true), .fa 3 (.tmp 3)⟩,
    ⟨(some 29), some (27, true), .load none (.tmp 28)⟩,
    ⟨(some 30), some (27, true), .lent (.tmp 29)⟩,
    ⟨(some 31), some (27, true), .call 33 [(.tmp 30), (.const (.int .i64 1)), (.const (.int .i64 40))]⟩,
    ⟨(some 32), none, .pick (.tmp 27) (.tmp 31) (.const (.bool false))⟩,
    ⟨(some 4), none, .mv (.tmp 32)⟩])
  (.ret))
theorem h_impl_Net_isLetter : (Try.prog.funcs[n_impl_Net_isLetter]?).bind (fun fn => fn.body.bind (comp Try.prog fn.ntmps)) = some (AS.strip c_impl_Net_isLetter) := by kernel_rfl
theorem r_impl_Net_isLetter : (Try.prog.funcs[n_impl_Net_isLetter]?).map (fun fn => (fn.results.toList, fn.ntmps)) = some ([.tmp 4], 33) := by kernel_rfl
-- 40 loop.example/g00850/impl.laid
abbrev n_impl_laid : Nat := 40
def c_impl_laid : AS :=
  .seq (.ops [⟨(some 3), none, .box (.tmp 1)⟩,
    ⟨(some 4), none, .mv (.const (.slice none 0 0))⟩])
  (.seq (.ops [⟨(some 6), none, .mv (.tmp 0)⟩,
    ⟨(some 7), none, .mkf 46 [(.tmp 3)]⟩,
    ⟨(some 8), none, .call 43 [(.tmp 6), (.tmp 7)]⟩,
    ⟨(some 5), none, .mv (.tmp 8)⟩])
  (.seq (.seq (.ops [⟨(some 9), none, .mv (.tmp 5)⟩,
    ⟨(some 10), none, .bin .lss (.tmp 9) (.const (.int .i64 0))⟩])
  (.cond (.tmp 10) (.ops [⟨(some 11), none, .mv (.tmp 0)⟩,
    ⟨(some 12), none, .lens (.tmp 11)⟩,
    ⟨(some 5), none, .mv (.tmp 12)⟩]) (.skip)))
  (.seq (.tops [(0, 0), (4, 0)] (.rd ⟨(some 13), none, .mv (.tmp 0)⟩ (.rd ⟨(some 15), none, .mv (.tmp 5)⟩ (.rd ⟨(some 16), none, .load (some 4) (.tmp 3)⟩ (.alt [⟨(some 16), none, .load (some 4) (.tmp 3)⟩, ⟨(some 15), none, .mv (.tmp 5)⟩] ⟨(some 14), none, .call 42 [(.tmp 13)]⟩
    (.alt [⟨(some 15), none, .mv (.tmp 5)⟩] ⟨(some 17), none, .bsl 4 (.agg #[.int .i64 0, .int .i64 0, .int .i64 0, .string ⟨⟨[]⟩⟩]) 1 [(0, (.tmp 16))]⟩
    (.alt [] ⟨(some 18), none, .call 47 [(.tmp 14), (.tmp 15), (.tmp 17)]⟩
    (.rd ⟨(some 4), none, .mv (.tmp 18)⟩ (.done))
    (.none))
    (.none))
    (.alt [⟨(some 15), none, .mv (.tmp 5)⟩, ⟨(some 13), none, .mv (.tmp 0)⟩] ⟨(some 17), none, .bsl 4 (.agg #[.int .i64 0, .int .i64 0, .int .i64 0, .string ⟨⟨[]⟩⟩]) 1 [(0, (.tmp 16))]⟩
    (.alt [⟨(some 15), none, .mv (.tmp 5)⟩] ⟨(some 14), none, .call 42 [(.tmp 13)]⟩
    (.alt [] ⟨(some 18), none, .call 47 [(.tmp 14), (.tmp 15), (.tmp 17)]⟩
    (.rd ⟨(some 4), none, .mv (.tmp 18)⟩ (.done))
    (.none))
    (.none))
    (.none)))))))
  (.ret))))
theorem h_impl_laid : (Try.prog.funcs[n_impl_laid]?).bind (fun fn => fn.body.bind (comp Try.prog fn.ntmps)) = some (AS.strip c_impl_laid) := by kernel_rfl
theorem r_impl_laid : (Try.prog.funcs[n_impl_laid]?).map (fun fn => (fn.results.toList, fn.ntmps)) = some ([.tmp 4], 19) := by kernel_rfl
-- 41 loop.example/g00850/spec.l1Most
abbrev n_spec_l1Most : Nat := 41
def c_spec_l1Most : AS :=
  .seq (.ops [⟨(some 4), none, .mv (.const (.int .i64 0))⟩])
  (.seq (.seq (.ops [⟨(some 5), none, .mv (.tmp 0)⟩,
    ⟨(some 6), none, .mv (.tmp 1)⟩,
    ⟨(some 7), none, .bin .gtr (.tmp 5) (.tmp 6)⟩])
  (.cond (.tmp 7) (.seq (.ops [⟨(some 8), none, .mv (.tmp 0)⟩,
    ⟨(some 4), none, .mv (.tmp 8)⟩])
  (.ret)) (.skip)))
  (.seq (.ops [⟨(some 9), none, .mv (.tmp 1)⟩,
    ⟨(some 4), none, .mv (.tmp 9)⟩])
  (.ret)))
theorem h_spec_l1Most : (Try.prog.funcs[n_spec_l1Most]?).bind (fun fn => fn.body.bind (comp Try.prog fn.ntmps)) = some (AS.strip c_spec_l1Most) := by kernel_rfl
theorem r_spec_l1Most : (Try.prog.funcs[n_spec_l1Most]?).map (fun fn => (fn.results.toList, fn.ntmps)) = some ([.tmp 4], 10) := by kernel_rfl
-- 42 slices.Clone[[]loop.example/g00850/impl.Letter,loop.example/g00850/impl.Letter]
abbrev n_slices_Clone___impl_Letter_impl_Letter_ : Nat := 42
def c_slices_Clone___impl_Letter_impl_Letter_ : AS :=
  .seq (.ops [⟨(some 2), none, .mv (.const (.slice none 0 0))⟩])
  (.seq (.seq (.ops [⟨(some 3), none, .mv (.tmp 0)⟩,
    ⟨(some 4), none, .isn false (.tmp 3)⟩])
  (.cond (.tmp 4) (.seq (.ops [⟨(some 2), none, .mv (.const (.slice none 0 0))⟩])
  (.ret)) (.skip)))
  (.seq (.ops [⟨(some 5), none, .bsl 4 (.agg #[.int .i64 0, .int .i64 0, .int .i64 0, .string ⟨⟨[]⟩⟩]) 0 []⟩,
    ⟨(some 6), none, .mv (.tmp 0)⟩,
    ⟨(some 7), none, .app 4 40 (.agg #[.int .i64 0, .int .i64 0, .int .i64 0, .string ⟨⟨[]⟩⟩]) (.tmp 5) (.tmp 6)⟩,
    ⟨(some 2), none, .mv (.tmp 7)⟩])
  (.ret)))
theorem h_slices_Clone___impl_Letter_impl_Letter_ : (Try.prog.funcs[n_slices_Clone___impl_Letter_impl_Letter_]?).bind (fun fn => fn.body.bind (comp Try.prog fn.ntmps)) = some (AS.strip c_slices_Clone___impl_Letter_impl_Letter_) := by kernel_rfl
theorem r_slices_Clone___impl_Letter_impl_Letter_ : (Try.prog.funcs[n_slices_Clone___impl_Letter_impl_Letter_]?).map (fun fn => (fn.results.toList, fn.ntmps)) = some ([.tmp 2], 8) := by kernel_rfl
-- 43 slices.IndexFunc[[]loop.example/g00850/impl.Letter,loop.example/g00850/impl.Letter]
abbrev n_slices_IndexFunc___impl_Letter_impl_Letter_ : Nat := 43
def c_slices_IndexFunc___impl_Letter_impl_Letter__l1 : AS :=
  .seq (.ops [⟨(some 9), none, .bin .lss (.tmp 8) (.tmp 7)⟩])
  (.seq (.cond (.tmp 9) (.skip) (.exit 0))
  (.seq (.block 1 (.seq (.ops [⟨(some 10), none, .mv (.tmp 8)⟩,
    ⟨(some 5), none, .mv (.tmp 10)⟩])
  (.seq (.ops [⟨(some 11), none, .mv (.tmp 1)⟩,
    ⟨(some 12), none, .mv (.tmp 0)⟩,
    ⟨(some 13), none, .mv (.tmp 5)⟩,
    ⟨(some 14), none, .ia 4 (.tmp 12) (.tmp 13)⟩,
    ⟨(some 15), none, .load (some 4) (.tmp 14)⟩,
    ⟨(some 16), none, .callv (.tmp 11) [(.tmp 15)]⟩])
  (.cond (.tmp 16) (.seq (.ops [⟨(some 17), none, .mv (.tmp 5)⟩,
    ⟨(some 4), none, .mv (.tmp 17)⟩])
  (.ret)) (.skip)))))
  (.kept [0, 1, 7, 8] (.ops [⟨(some 18), none, .bin .add (.tmp 8) (.const (.int .i64 1))⟩,
    ⟨(some 8), none, .mv (.tmp 18)⟩]))))
def c_slices_IndexFunc___impl_Letter_impl_Letter_ : AS :=
  .seq (.ops [⟨(some 4), none, .mv (.const (.int .i64 0))⟩])
  (.seq (.seq (.ops [⟨(some 6), none, .mv (.tmp 0)⟩,
    ⟨(some 7), none, .lens (.tmp 6)⟩,
    ⟨(some 8), none, .mv (.const (.int .i64 0))⟩])
  (.block 0 (.loop 2 [(0, 0), (1, 0), (7, 0), (8, 0)] c_slices_IndexFunc___impl_Letter_impl_Letter__l1)))
  (.kept [] (.seq (.ops [⟨(some 4), none, .mv (.const (.int .i64 (-1)))⟩])
  (.ret))))
theorem h_slices_IndexFunc___impl_Letter_impl_Letter_ : (Try.prog.funcs[n_slices_IndexFunc___impl_Letter_impl_Letter_]?).bind (fun fn => fn.body.bind (comp Try.prog fn.ntmps)) = some (AS.strip c_slices_IndexFunc___impl_Letter_impl_Letter_) := by kernel_rfl
theorem r_slices_IndexFunc___impl_Letter_impl_Letter_ : (Try.prog.funcs[n_slices_IndexFunc___impl_Letter_impl_Letter_]?).map (fun fn => (fn.results.toList, fn.ntmps)) = some ([.tmp 4], 19) := by kernel_rfl
-- 44 (loop.example/g00850/impl.Net).delivered$1
abbrev n_impl_Net_delivered_1 : Nat := 44
def c_impl_Net_delivered_1 : AS :=
  .seq (.ops [⟨(some 2), none, .box (.tmp 0)⟩,
    ⟨(some 3), none, .mv (.const (.bool false))⟩])
  (.seq (.ops [⟨(some 4), none, .fa 2 (.tmp 2)⟩,
    ⟨(some 5), none, .load none (.tmp 4)⟩,
    ⟨(some 6), none, .fa 0 (.tmp 1)⟩,
    ⟨(some 7), none, .load none (.tmp 6)⟩,
    ⟨(some 8), none, .bin .gtr (.tmp 5) (.tmp 7)⟩,
    ⟨(some 3), none, .mv (.tmp 8)⟩])
  (.ret))
theorem h_impl_Net_delivered_1 : (Try.prog.funcs[n_impl_Net_delivered_1]?).bind (fun fn => fn.body.bind (comp Try.prog fn.ntmps)) = some (AS.strip c_impl_Net_delivered_1) := by kernel_rfl
theorem r_impl_Net_delivered_1 : (Try.prog.funcs[n_impl_Net_delivered_1]?).map (fun fn => (fn.results.toList, fn.ntmps)) = some ([.tmp 3], 9) := by kernel_rfl
-- 45 slices.IndexFunc[[]int,int]
abbrev n_slices_IndexFunc___int_int_ : Nat := 45
def c_slices_IndexFunc___int_int__l1 : AS :=
  .seq (.ops [⟨(some 9), none, .bin .lss (.tmp 8) (.tmp 7)⟩])
  (.seq (.cond (.tmp 9) (.skip) (.exit 0))
  (.seq (.block 1 (.seq (.ops [⟨(some 10), none, .mv (.tmp 8)⟩,
    ⟨(some 5), none, .mv (.tmp 10)⟩])
  (.seq (.ops [⟨(some 11), none, .mv (.tmp 1)⟩,
    ⟨(some 12), none, .mv (.tmp 0)⟩,
    ⟨(some 13), none, .mv (.tmp 5)⟩,
    ⟨(some 14), none, .ia 1 (.tmp 12) (.tmp 13)⟩,
    ⟨(some 15), none, .load none (.tmp 14)⟩,
    ⟨(some 16), none, .callv (.tmp 11) [(.tmp 15)]⟩])
  (.cond (.tmp 16) (.seq (.ops [⟨(some 17), none, .mv (.tmp 5)⟩,
    ⟨(some 4), none, .mv (.tmp 17)⟩])
  (.ret)) (.skip)))))
  (.kept [0, 1, 7, 8] (.ops [⟨(some 18), none, .bin .add (.tmp 8) (.const (.int .i64 1))⟩,
    ⟨(some 8), none, .mv (.tmp 18)⟩]))))
def c_slices_IndexFunc___int_int_ : AS :=
  .seq (.ops [⟨(some 4), none, .mv (.const (.int .i64 0))⟩])
  (.seq (.seq (.ops [⟨(some 6), none, .mv (.tmp 0)⟩,
    ⟨(some 7), none, .lens (.tmp 6)⟩,
    ⟨(some 8), none, .mv (.const (.int .i64 0))⟩])
  (.block 0 (.loop 2 [(0, 0), (1, 0), (7, 0), (8, 0)] c_slices_IndexFunc___int_int__l1)))
  (.kept [] (.seq (.ops [⟨(some 4), none, .mv (.const (.int .i64 (-1)))⟩])
  (.ret))))
theorem h_slices_IndexFunc___int_int_ : (Try.prog.funcs[n_slices_IndexFunc___int_int_]?).bind (fun fn => fn.body.bind (comp Try.prog fn.ntmps)) = some (AS.strip c_slices_IndexFunc___int_int_) := by kernel_rfl
theorem r_slices_IndexFunc___int_int_ : (Try.prog.funcs[n_slices_IndexFunc___int_int_]?).map (fun fn => (fn.results.toList, fn.ntmps)) = some ([.tmp 4], 19) := by kernel_rfl
-- 46 loop.example/g00850/impl.laid$1
abbrev n_impl_laid_1 : Nat := 46
def c_impl_laid_1 : AS :=
  .seq (.ops [⟨(some 2), none, .box (.tmp 0)⟩,
    ⟨(some 3), none, .mv (.const (.bool false))⟩])
  (.seq (.ops [⟨(some 4), none, .fa 2 (.tmp 2)⟩,
    ⟨(some 5), none, .load none (.tmp 4)⟩,
    ⟨(some 6), none, .fa 2 (.tmp 1)⟩,
    ⟨(some 7), none, .load none (.tmp 6)⟩,
    ⟨(some 8), none, .bin .gtr (.tmp 5) (.tmp 7)⟩,
    ⟨(some 3), none, .mv (.tmp 8)⟩])
  (.ret))
theorem h_impl_laid_1 : (Try.prog.funcs[n_impl_laid_1]?).bind (fun fn => fn.body.bind (comp Try.prog fn.ntmps)) = some (AS.strip c_impl_laid_1) := by kernel_rfl
theorem r_impl_laid_1 : (Try.prog.funcs[n_impl_laid_1]?).map (fun fn => (fn.results.toList, fn.ntmps)) = some ([.tmp 3], 9) := by kernel_rfl
-- 47 slices.Insert[[]loop.example/g00850/impl.Letter,loop.example/g00850/impl.Letter]
abbrev n_slices_Insert___impl_Letter_impl_Letter_ : Nat := 47
def c_slices_Insert___impl_Letter_impl_Letter_ : AS :=
  .seq (.ops [⟨(some 6), none, .mv (.const (.slice none 0 0))⟩])
  (.seq (.ops [⟨(some 10), none, .mv (.tmp 0)⟩,
    ⟨(some 11), none, .mv (.tmp 1)⟩,
    ⟨(some 12), none, .sls 4 (.tmp 10) (some (.tmp 11)) none none⟩])
  (.seq (.ops [⟨(some 13), none, .mv (.tmp 2)⟩,
    ⟨(some 14), none, .lens (.tmp 13)⟩,
    ⟨(some 7), none, .mv (.tmp 14)⟩])
  (.seq (.seq (.ops [⟨(some 15), none, .mv (.tmp 7)⟩,
    ⟨(some 16), none, .bin .eql (.tmp 15) (.const (.int .i64 0))⟩])
  (.cond (.tmp 16) (.seq (.post [(6, 0, [])] (.ops [⟨(some 17), none, .mv (.tmp 0)⟩,
    ⟨(some 6), none, .mv (.tmp 17)⟩]))
  (.ret)) (.skip)))
  (.seq (.ops [⟨(some 18), none, .mv (.tmp 0)⟩,
    ⟨(some 19), none, .lens (.tmp 18)⟩,
    ⟨(some 8), none, .mv (.tmp 19)⟩])
  (.seq (.seq (.ops [⟨(some 20), none, .mv (.tmp 1)⟩,
    ⟨(some 21), none, .mv (.tmp 8)⟩,
    ⟨(some 22), none, .bin .eql (.tmp 20) (.tmp 21)⟩])
  (.cond (.tmp 22) (.seq (.post [(6, 0, [])] (.ops [⟨(some 23), none, .mv (.tmp 0)⟩,
    ⟨(some 24), none, .mv (.tmp 2)⟩,
    ⟨(some 25), none, .app 4 40 (.agg #[.int .i64 0, .int .i64 0, .int .i64 0, .string ⟨⟨[]⟩⟩]) (.tmp 23) (.tmp 24)⟩,
    ⟨(some 6), none, .mv (.tmp 25)⟩]))
  (.ret)) (.skip)))
  (.kept [0, 1, 2, 7, 8] (.seq (.seq (.ops [⟨(some 26), none, .mv (.tmp 8)⟩,
    ⟨(some 27), none, .mv (.tmp 7)⟩,
    ⟨(some 28), none, .bin .add (.tmp 26) (.tmp 27)⟩,
    ⟨(some 29), none, .mv (.tmp 0)⟩,
    ⟨(some 30), none, .capo (.tmp 29)⟩,
    ⟨(some 31), none, .bin .gtr (.tmp 28) (.tmp 30)⟩])
  (.cond (.tmp 31) (.seq (.ops [⟨(some 32), none, .mv (.tmp 0)⟩,
    ⟨(some 33), none, .mv (.tmp 1)⟩,
    ⟨(some 34), none, .sls 4 (.tmp 32) none (some (.tmp 33)) none⟩,
    ⟨(some 35), none, .mv (.tmp 8)⟩,
    ⟨(some 36), none, .mv (.tmp 7)⟩,
    ⟨(some 37), none, .bin .add (.tmp 35) (.tmp 36)⟩,
    ⟨(some 38), none, .mv (.tmp 1)⟩,
    ⟨(some 39), none, .bin .sub (.tmp 37) (.tmp 38)⟩,
    ⟨(some 40), none, .apz 4 40 (.agg #[.int .i64 0, .int .i64 0, .int .i64 0, .string ⟨⟨[]⟩⟩]) (.tmp 34) (.tmp 39)⟩,
    ⟨(some 9), none, .mv (.tmp 40)⟩])
  (.kept [0, 1, 2, 7, 9] (.seq (.ops [⟨(some 41), none, .mv (.tmp 9)⟩,
    ⟨(some 42), none, .mv (.tmp 1)⟩,
    ⟨(some 43), none, .sls 4 (.tmp 41) (some (.tmp 42)) none none⟩,
    ⟨(some 44), none, .mv (.tmp 2)⟩,
    ⟨(some 45), none, .cpy 4 (.tmp 43) (.tmp 44)⟩])
  (.seq (.rops [(none, ⟨(some 46), none, .mv (.tmp 9)⟩),
    (none, ⟨(some 47), none, .mv (.tmp 1)⟩),
    (none, ⟨(some 48), none, .mv (.tmp 7)⟩),
    (none, ⟨(some 49), none, .bin .add (.tmp 47) (.tmp 48)⟩),
    (none, ⟨(some 50), none, .sls 4 (.tmp 46) (some (.tmp 49)) none none⟩),
    (none, ⟨(some 51), none, .mv (.tmp 0)⟩),
    (none, ⟨(some 52), none, .mv (.tmp 1)⟩),
    (none, ⟨(some 53), none, .sls 4 (.tmp 51) (some (.tmp 52)) none none⟩),
    (some [], ⟨(some 54), none, .cpy 4 (.tmp 50) (.tmp 53)⟩)])
  (.kept [9] (.seq (.post [(6, 0, [])] (.ops [⟨(some 55), none, .mv (.tmp 9)⟩,
    ⟨(some 6), none, .mv (.tmp 55)⟩]))
  (.ret))))))) (.skip)))
  (.kept [0, 1, 2, 7, 8] (.seq (.ops [⟨(some 56), none, .mv (.tmp 0)⟩,
    ⟨(some 57), none, .mv (.tmp 8)⟩,
    ⟨(some 58), none, .mv (.tmp 7)⟩,
    ⟨(some 59), none, .bin .add (.tmp 57) (.tmp 58)⟩,
    ⟨(some 60), none, .sls 4 (.tmp 56) none (some (.tmp 59)) none⟩,
    ⟨(some 0), none, .mv (.tmp 60)⟩])
  (.seq (.seq (.ops [⟨(some 61), none, .mv (.tmp 2)⟩,
    ⟨(some 62), none, .mv (.tmp 0)⟩,
    ⟨(some 63), none, .mv (.tmp 1)⟩,
    ⟨(some 64), none, .mv (.tmp 7)⟩,
    ⟨(some 65), none, .bin .add (.tmp 63) (.tmp 64)⟩,
    ⟨(some 66), none, .sls 4 (.tmp 62) (some (.tmp 65)) none none⟩,
    ⟨(some 67), none, .xcall 48 [(.tmp 61), (.tmp 66)]⟩,
    ⟨(some 68), none, .not (.tmp 67)⟩])
  (.kept [0, 1, 2, 7, 8, 68] (.cond (.tmp 68) (.seq (.rops [(none, ⟨(some 69), none, .mv (.tmp 0)⟩),
    (none, ⟨(some 70), none, .mv (.tmp 1)⟩),
    (none, ⟨(some 71), none, .mv (.tmp 7)⟩),
    (none, ⟨(some 72), none, .bin .add (.tmp 70) (.tmp 71)⟩),
    (none, ⟨(some 73), none, .sls 4 (.tmp 69) (some (.tmp 72)) none none⟩),
    (none, ⟨(some 74), none, .mv (.tmp 0)⟩),
    (none, ⟨(some 75), none, .mv (.tmp 1)⟩),
    (none, ⟨(some 76), none, .sls 4 (.tmp 74) (some (.tmp 75)) none none⟩),
    (some [], ⟨(some 77), none, .cpy 4 (.tmp 73) (.tmp 76)⟩)])
  (.kept [0, 1, 2] (.seq (.ops [⟨(some 78), none, .mv (.tmp 0)⟩,
    ⟨(some 79), none, .mv (.tmp 1)⟩,
    ⟨(some 80), none, .sls 4 (.tmp 78) (some (.tmp 79)) none none⟩,
    ⟨(some 81), none, .mv (.tmp 2)⟩,
    ⟨(some 82), none, .cpy 4 (.tmp 80) (.tmp 81)⟩])
  (.seq (.post [(6, 0, [])] (.ops [⟨(some 83), none, .mv (.tmp 0)⟩,
    ⟨(some 6), none, .mv (.tmp 83)⟩]))
  (.ret))))) (.skip))))
  (.kept [0, 1, 2, 7, 8] (.seq (.ops [⟨(some 84), none, .mv (.tmp 0)⟩,
    ⟨(some 85), none, .mv (.tmp 8)⟩,
    ⟨(some 86), none, .sls 4 (.tmp 84) (some (.tmp 85)) none none⟩,
    ⟨(some 87), none, .mv (.tmp 2)⟩,
    ⟨(some 88), none, .cpy 4 (.tmp 86) (.tmp 87)⟩])
  (.seq (.ops [⟨(some 89), none, .mv (.tmp 0)⟩,
    ⟨(some 90), none, .mv (.tmp 1)⟩,
    ⟨(some 91), none, .sls 4 (.tmp 89) (some (.tmp 90)) none none⟩,
    ⟨(some 92), none, .mv (.tmp 7)⟩,
    ⟨(some 93), none, .call 49 [(.tmp 91), (.tmp 92)]⟩])
  (.seq (.post [(6, 0, [])] (.ops [⟨(some 94), none, .mv (.tmp 0)⟩,
    ⟨(some 6), none, .mv (.tmp 94)⟩]))
  (.ret)))))))))))))))
theorem h_slices_Insert___impl_Letter_impl_Letter_ : (Try.prog.funcs[n_slices_Insert___impl_Letter_impl_Letter_]?).bind (fun fn => fn.body.bind (comp Try.prog fn.ntmps)) = some (AS.strip c_slices_Insert___impl_Letter_impl_Letter_) := by kernel_rfl
theorem r_slices_Insert___impl_Letter_impl_Letter_ : (Try.prog.funcs[n_slices_Insert___impl_Letter_impl_Letter_]?).map (fun fn => (fn.results.toList, fn.ntmps)) = some ([.tmp 6], 95) := by kernel_rfl
-- 48 slices.overlaps[loop.example/g00850/impl.Letter]
abbrev n_slices_overlaps_impl_Letter_ : Nat := 48
-- NOT COMPILED
theorem d_slices_overlaps_impl_Letter_ : Try.prog.funcs[n_slices_overlaps_impl_Letter_]? = some Try.f48 := by kernel_rfl
theorem x_slices_overlaps_impl_Letter_ (vs : Array Value) (w : World) : (callFunc n_slices_overlaps_impl_Letter_ vs).run Try.prog w = ((Extern.SlicesOverlaps.overlaps #[26, 26] #[4] vs).run Try.prog w).andThen fun v w' => .ok (.value v) w' := run_callFunc_extern (e := Extern.SlicesOverlaps.overlaps #[26, 26] #[4]) d_slices_overlaps_impl_Letter_ (by kernel_rfl) (by kernel_rfl) (by kernel_rfl) (by kernel_rfl) vs w
theorem u_slices_overlaps_impl_Letter_ : Try.prog.underlying 26 = some (.slice 40) := by kernel_rfl
theorem wd_slices_overlaps_impl_Letter_ : width Try.prog 40 = some 4 := by kernel_rfl

end Go.Proofs.Wb
